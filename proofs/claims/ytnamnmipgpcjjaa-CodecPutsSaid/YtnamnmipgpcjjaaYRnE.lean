/- Texts of the codec's proofs, laid together: RnE. -/
import Derived.Test.YtnamnmipgpcjjaaZn
set_option linter.unusedSimpArgs false
set_option linter.unusedVariables false
set_option linter.unusedSectionVars false
set_option linter.constructorNameAsVariable false

/- Acts as bytes: the document's contents. -/
namespace Go.Gou
open Go.RowKit

/-- A call's result and its variable, two boxes of one type. -/
structure RLoc (w : World) (T : TypeId) (z cs : Array Value) (wr : World) : Prop where
  mod : Mod (fun _ => False) w wr
  res : Blk wr w.heap.size T z
  loc : Blk wr (w.heap.size + 1) T cs

theorem RLoc.start (w : World) (T : TypeId) (z cs : Array Value) : RLoc w T z cs ((w.alloc (.cells z T)).alloc (.cells cs T)) :=
  ⟨(Mod.alloc _ _ _).trans' (Mod.alloc _ _ _), (show Blk (w.alloc (.cells z T)) w.heap.size T z from heap_alloc_new w _).mod (Mod.alloc (fun _ => False) _ _) (fun h => h), by
    have := heap_alloc_new (w.alloc (.cells z T)) (.cells cs T)
    rw [World.size_alloc] at this
    exact this⟩
theorem RLoc.next {w : World} {T : TypeId} {z cs : Array Value} {wr w2 : World} (h : RLoc w T z cs wr) (hm : Mod (fun _ => False) wr w2) : RLoc w T z cs w2 :=
  ⟨h.mod.trans' hm, h.res.mod hm (fun h => h), h.loc.mod hm (fun h => h)⟩
theorem RLoc.put {w : World} {T : TypeId} {z cs : Array Value} {wr : World} (h : RLoc w T z cs wr) (i : Nat) (u : Value) : RLoc w T z (cs.setIfInBounds i u) (wr.setCell ⟨w.heap.size + 1, i, none⟩ u) :=
  ⟨h.mod.trans (Mod.setCell wr ⟨w.heap.size + 1, i, none⟩ u) (fun k hk e => by simp at e; omega), h.res.mod (Mod.setCell _ _ _) (by simp), h.loc.set i u⟩
theorem RLoc.puts {w : World} {T : TypeId} {z cs : Array Value} {wr : World} (h : RLoc w T z cs wr) (o : Nat) (vs : List Value) : RLoc w T z (setMany cs o vs) (wr.setCells (w.heap.size + 1) o vs) :=
  ⟨h.mod.trans (Blk.setMod wr (w.heap.size + 1) o vs) (fun k hk e => by omega), h.res.mod (Blk.setMod _ _ _ _) (by omega), h.loc.sets o vs⟩
theorem RLoc.done {w : World} {T : TypeId} {z cs : Array Value} {wr : World} (h : RLoc w T z cs wr) (hz : z.size = cs.size) : Mod (fun _ => False) w (wr.setCells w.heap.size 0 cs.toList) ∧ Blk (wr.setCells w.heap.size 0 cs.toList) w.heap.size T cs ∧ Mod (fun k => k = w.heap.size) wr (wr.setCells w.heap.size 0 cs.toList) := by
  refine ⟨h.mod.trans (Blk.setMod wr w.heap.size 0 _) (fun k hk e => by omega), ?_, Blk.setMod _ _ _ _⟩
  have h2 := h.res.sets 0 cs.toList
  rw [setMany_all z cs.toList (by simpa using hz)] at h2
  exact h2

theorem times_succ {α : Type} {f : Nat → Option (α × Nat)} {n q k : Nat} {xs : List α} (h : timesAt f n (k + 1) = some (xs, q)) : ∃ ys m x, xs = ys ++ [x] ∧ timesAt f n k = some (ys, m) ∧ f m = some (x, q) := by
  rw [timesAt] at h
  split at h
  · rename_i ys m h1
    split at h
    · rename_i y q' hy
      simp only [Option.some.injEq, Prod.mk.injEq] at h
      obtain ⟨rfl, rfl⟩ := h
      exact ⟨ys, m, y, rfl, h1, hy⟩
    · cases h
  · cases h
theorem times_four {bs : List Nat} {n q : Nat} {xs : List Int} (h : timesAt (numAt bs) n 4 = some (xs, q)) : ∃ a b c d, xs = [a, b, c, d] := by
  obtain ⟨xs, m, d, rfl, h, -⟩ := times_succ h
  obtain ⟨xs, m, c, rfl, h, -⟩ := times_succ h
  obtain ⟨xs, m, b, rfl, h, -⟩ := times_succ h
  obtain ⟨a, rfl, -⟩ := times_one h
  exact ⟨a, b, c, d, rfl⟩
theorem times_five {bs : List Nat} {n q : Nat} {xs : List Int} (h : timesAt (numAt bs) n 5 = some (xs, q)) : ∃ a b c d e m1 m2 m3 m4, xs = [a, b, c, d, e] ∧ numAt bs n = some (a, m1) ∧ numAt bs m1 = some (b, m2) ∧ numAt bs m2 = some (c, m3) ∧ numAt bs m3 = some (d, m4) ∧ numAt bs m4 = some (e, q) := by
  obtain ⟨xs, m4, e, rfl, h, h5⟩ := times_succ h
  obtain ⟨xs, m3, d, rfl, h, h4⟩ := times_succ h
  obtain ⟨xs, m2, c, rfl, h, h3⟩ := times_succ h
  obtain ⟨xs, m1, b, rfl, h, h2⟩ := times_succ h
  obtain ⟨a, rfl, h1⟩ := times_one h
  exact ⟨a, b, c, d, e, m1, m2, m3, m4, rfl, h1, h2, h3, h4, h5⟩
theorem content_none5 {bs : List Nat} {n q : Nat} (hx : numAt bs n = some (2, q)) (h : timesAt (numAt bs) q 5 = none) : contentAt bs n = none := by
  simp only [timesAt] at h
  unfold contentAt
  rw [hx, Option.bind_some]
  simp only
  rw [if_neg (by decide), if_pos trivial]
  rcases h1 : numAt bs q with _ | ⟨x, m1⟩
  · rfl
  rcases h2 : numAt bs m1 with _ | ⟨y, m2⟩
  · simp [h2]
  rcases h3 : numAt bs m2 with _ | ⟨z, m3⟩
  · simp [h2, h3]
  rcases h4 : numAt bs m3 with _ | ⟨u, m4⟩
  · simp [h2, h3, h4]
  rcases h5 : numAt bs m4 with _ | ⟨v, m5⟩
  · simp [h2, h3, h4, h5]
  · simp [h1, h2, h3, h4, h5] at h

theorem pixelAt_none {bs : List Nat} {n : Nat} (hn : n ≤ bs.length) (h : ¬ 4 * 1 ≤ bs.length - n) : pixelAt bs n = none := by
  rcases hp : pixelAt bs n with _ | ⟨p, q⟩
  · rfl
  · exfalso
    unfold pixelAt at hp
    have : ∀ k, rawAt bs k = none ∨ k < bs.length := fun k => by
      by_cases hk : k < bs.length
      · exact .inr hk
      · exact .inl (by unfold rawAt; rw [dif_neg hk])
    obtain ⟨ys, m3, x, rfl, hp, h4⟩ := times_succ hp
    obtain ⟨ys, m2, x, rfl, hp, h3⟩ := times_succ hp
    obtain ⟨ys, m1, x, rfl, hp, h2⟩ := times_succ hp
    obtain ⟨a, rfl, h1⟩ := times_one hp
    have e : ∀ k x m, rawAt bs k = some (x, m) → m = k + 1 ∧ k < bs.length := fun k x m hk => by
      unfold rawAt at hk
      split at hk
      · simp only [Option.some.injEq, Prod.mk.injEq] at hk
        exact ⟨hk.2.symm, by assumption⟩
      · cases hk
    have := e _ _ _ h1
    have := e _ _ _ h2
    have := e _ _ _ h3
    have := e _ _ _ h4
    omega

theorem own_px {w : World} {base : Nat} {e : TypeId} {p : Option Addr} {c : Nat} {px : List Nat} (h : w.ownsRow base e 4 (.slice p 1 c) 1 (pxs ([px].map Pxl.of))) : ∃ g, p = some ⟨g, 0, none⟩ ∧ base ≤ g ∧ g < w.heap.size ∧ w.cell? ⟨g, 0, none⟩ = some (.int .u8 ((Pxl.of px).p0 : Nat)) ∧ w.cell? ⟨g, 1, none⟩ = some (.int .u8 ((Pxl.of px).p1 : Nat)) ∧ w.cell? ⟨g, 2, none⟩ = some (.int .u8 ((Pxl.of px).p2 : Nat)) ∧ w.cell? ⟨g, 3, none⟩ = some (.int .u8 ((Pxl.of px).p3 : Nat)) := by
  have hlt := h.lt
  obtain ⟨hl, h⟩ := h
  rcases h with ⟨h0, h1⟩ | ⟨g, cap, cur, e, hg, hh, hn, _, _, ht⟩
  · simp at h1
  · simp only [Value.slice.injEq] at e
    obtain ⟨rfl, _, rfl⟩ := e
    have key : ∀ i v, (pxs ([px].map Pxl.of))[i]? = some v → w.cell? ⟨g, i, none⟩ = some v := fun i v hv => by
      have hi : i < 1 * 4 := by rw [← hl]; exact (List.getElem?_eq_some_iff.1 hv).1
      rw [cell_of_row w g i cur _ (0, 0) hh]
      have : cur.toList[i]? = (pxs ([px].map Pxl.of))[i]? := by rw [← ht, List.getElem?_take, if_pos hi]
      rw [← Array.getElem?_toList, this, hv]
    exact ⟨g, rfl, hg, (hlt g rfl).2, key 0 _ rfl, key 1 _ rfl, key 2 _ rfl, key 3 _ rfl⟩

end Go.Gou
namespace Go.Proofs.Ytnamnmipgpcjjaa
open Go.RowKit Go.Gou

/-- What the document's reading of a content comes to. -/
def CtP (w : World) (bs : List Nat) (n : Nat) (e : Ending) (w' : World) : Prop :=
  Gou.Mod (fun _ => False) w w' ∧ match contentAt bs n with
    | some (c, q) => ∃ p k, e = .returned (.tuple #[.agg (contC c (.slice p c.pix.length k)), .int .i64 q, .bool true]) ∧ PixR (fun b => w.heap.size ≤ b) w' (.slice p c.pix.length k) c.pix
    | none => ∃ c, e = .returned (.tuple #[.agg (contC c (.slice none 0 0)), .int .i64 0, .bool false])

theorem ct_fail {w w' : World} {bs : List Nat} {n : Nat} (h : contentAt bs n = none) (hm : Gou.Mod (fun _ => False) w w') (c : Ct) : CtP w bs n (.returned (.tuple #[.agg (contC c (.slice none 0 0)), .int .i64 0, .bool false])) w' :=
  ⟨hm, by rw [h]; exact ⟨c, rfl⟩⟩

theorem content_done {w w3 w4 w' : World} {bs : List Nat} {n q k c4 : Nat} {c : Ct} {p4 : Option Addr} (h : contentAt bs n = some (c, q)) (hk : c.pix.length = k) (hm : Gou.Mod (fun _ => False) w w') (hown : w4.ownsRow w3.heap.size 27 4 (.slice p4 k c4) k (pxs c.pix)) (hs : w.heap.size + 2 ≤ w3.heap.size) (hm2 : Gou.Mod (fun b => b = w.heap.size + 1 ∨ b = w.heap.size) w4 w') :
    CtP w bs n (.returned (.tuple #[.agg (contC c (.slice p4 k c4)), .int .i64 q, .bool true])) w' := by
  subst hk
  refine ⟨hm, ?_⟩
  rw [h]
  exact ⟨p4, c4, rfl, RowG.imp (RowG.mod (RowG.of_own hown) hm2 (fun b _ hg e => by omega)) fun b _ hb => by omega⟩

theorem results_content (w : World) (tmps : Array Value) (N : Nat) (cs : Array Value) (hs : cs.size = 13) (a b : Value) (h4 : tmps.getD 4 undef = .pointer (some ⟨N, 0, none⟩)) (h5 : tmps.getD 5 undef = a) (h6 : tmps.getD 6 undef = b) (hB : Blk w N 30 cs) :
    (results Try.f55 tmps).run Try.prog w = .ok (.tuple #[.agg cs, a, b]) w := by
  have h4' : tmps[4]?.getD undef = .pointer (some ⟨N, 0, none⟩) := by simpa using h4
  have h5' : tmps[5]?.getD undef = a := by simpa using h5
  have h6' : tmps[6]?.getD undef = b := by simpa using h6
  have hl := run_loadVar_row (P := Try.prog) w N 30 30 cs (0, 0) _ hB Try.underlying30 rfl (size_content.trans (by rw [hs]))
  simp [results, Try.results55, h4', h5', h6', asAddr, hl]

set_option linter.constructorNameAsVariable false
set_option maxRecDepth 100000

set_option maxHeartbeats 4000000 in
theorem contentR_any (w : World) (pb : Option Addr) (cb : Nat) (bs : List Nat) (h : BytesAt (fun _ => True) w (.slice pb bs.length cb) bs) (hby : ∀ x ∈ bs, x < 256) (hl : bs.length ≤ 10000000) (n : Nat) (hn : n ≤ bs.length) :
    Calls Try.prog 55 #[.slice pb bs.length cb, .int .i64 n] w (CtP w bs n) := by
  have H := Lib.hid h
  have Hby := Lib.hid hby
  have Hl0 : Hid (RLoc w 30 CtZ CtZ ((w.alloc (.cells CtZ 30)).alloc (.cells CtZ 30))) := Lib.hid (RLoc.start w 30 CtZ CtZ)
  clear h hby
  go_enter Try.func55, Try.ntmps55
  go_wp2_with fail
  generalize hW0 : ((w.alloc (.cells CtZ 30)).alloc (.cells CtZ 30)) = w0 at *
  clear hW0
  refine (numbersR_any w0 pb cb bs (H.out.mod Hl0.out.mod (fun _ _ _ h => h)) Hby.out hl n 1 hn (by omega)).mono ?_
  rintro e w1 ⟨hm1, hp⟩
  have Hl1 := Lib.hid (Hl0.out.next hm1)
  have Hm1 := Lib.hid hm1
  clear hm1
  rcases ht : timesAt (numAt bs) n 1 with _ | ⟨xs, q⟩
  · rw [ht] at hp
    subst hp
    have Hno : Hid (contentAt bs n = none) := Lib.hid (by unfold contentAt; rw [times_one_none ht]; rfl)
    clear ht
    have HB : Hid (Blk _ (w.heap.size + 1) 30 (contC Ct.zero (.slice none 0 0))) := Lib.hid Hl1.out.loc
    have Hth := Lib.hid (Hl1.out.res.there 0 13 (by simp))
    go_wp2_with (first | ((with_reducible refine wpList_load_row ?g_7 30 ?x_7 ?o_7 (w.heap.size + 1) ?h_7 ?t_7 ?c_7 ?f_7 ?d_7 ?b_7 ?u_7 ?s_7 ?i_7 ?r_7); (case g_7 | o_7 | h_7 => exact rfl); (case b_7 => exact HB.out); (case u_7 => exact Try.underlying30); (case s_7 => exact rfl); (case i_7 => exact size_content.trans (by simp [contC]))) | ((with_reducible refine wpList_store_mid ?g2_7 30 ?x2_7 ?y_7 ?o2_7 w.heap.size 0 (contC Ct.zero (.slice none 0 0)) ?h2_7 ?j_7 ?t2_7 ?i2_7 ?s2_7 ?r2_7); (case g2_7 | o2_7 | h2_7 | j_7 => exact rfl); (case t2_7 => exact Hth.out); (case i2_7 => exact size_content.trans (by simp [contC])); (case s2_7 => exact contC_one _ _ _ _)) | fail)
    have hd := RLoc.done (cs := contC Ct.zero (.slice none 0 0)) Hl1.out rfl
    refine bodyPost_ret (v := .tuple #[.agg (contC Ct.zero (.slice none 0 0)), .int .i64 0, .bool false]) (results_content _ _ w.heap.size (contC Ct.zero (.slice none 0 0)) rfl _ _ rfl rfl rfl hd.2.1) rfl ?_
    exact ct_fail Hno.out hd.1 _
  rw [ht] at hp
  obtain ⟨p, c, rfl, hown, hxl⟩ := hp
  obtain ⟨x, rfl, hx⟩ := times_one ht
  obtain ⟨gh, rfl, hg0, hg1, hc⟩ := own_ints hown (by omega)
  have c0 : w1.cell? ⟨gh, 0, none⟩ = some (.int .i64 x) := hc 0 (by simp)
  have hq := (num_spec Hby.out).end_le hx hn
  have Hx := Lib.hid hx
  clear hc hown hxl ht hx hg0 hg1
  have cl0 : w1.cell? ⟨w.heap.size + 1, 0, none⟩ = some (.int .i64 0) := Hl1.out.loc.cell 0 rfl
  have fl0 : w1.frozen? ⟨w.heap.size + 1, 0, none⟩ = false := Hl1.out.loc.frozen 0
  by_cases hx1 : x = 1
  · subst hx1
    have Hl2 : Hid (RLoc w 30 CtZ (contC ⟨1, Rc.zero, Pxl.zero, 0, 0, 0, []⟩ (.slice none 0 0)) (w1.setCell ⟨w.heap.size + 1, 0, none⟩ (.int .i64 1))) := Lib.hid (Hl1.out.put 0 (.int .i64 1))
    go_wp2_with fail
    clear c0 cl0 fl0
    generalize hW2 : w1.setCell ⟨w.heap.size + 1, 0, none⟩ (.int .i64 1) = w2 at *
    clear hW2
    refine (numbersR_any w2 pb cb bs (H.out.mod Hl2.out.mod (fun _ _ _ h => h)) Hby.out hl q 4 hq (by omega)).mono ?_
    rintro e w3 ⟨hm3, hp⟩
    have Hl3 := Lib.hid (Hl2.out.next hm3)
    clear hm3
    rcases ht : timesAt (numAt bs) q 4 with _ | ⟨xs, q2⟩
    · rw [ht] at hp
      subst hp
      have Hno : Hid (contentAt bs n = none) := Lib.hid (by unfold contentAt boxAt; rw [Hx.out, Option.bind_some]; simp only; rw [if_pos trivial, ht]; rfl)
      clear ht
      have HB : Hid (Blk _ (w.heap.size + 1) 30 (contC ⟨1, Rc.zero, Pxl.zero, 0, 0, 0, []⟩ (.slice none 0 0))) := Lib.hid Hl3.out.loc
      have Hth := Lib.hid (Hl3.out.res.there 0 13 (by simp))
      go_wp2_with (first | ((with_reducible refine wpList_load_row ?g_1 30 ?x_1 ?o_1 (w.heap.size + 1) ?h_1 ?t_1 ?c_1 ?f_1 ?d_1 ?b_1 ?u_1 ?s_1 ?i_1 ?r_1); (case g_1 | o_1 | h_1 => exact rfl); (case b_1 => exact HB.out); (case u_1 => exact Try.underlying30); (case s_1 => exact rfl); (case i_1 => exact size_content.trans (by simp [contC]))) | ((with_reducible refine wpList_store_mid ?g2_1 30 ?x2_1 ?y_1 ?o2_1 w.heap.size 0 (contC ⟨1, Rc.zero, Pxl.zero, 0, 0, 0, []⟩ (.slice none 0 0)) ?h2_1 ?j_1 ?t2_1 ?i2_1 ?s2_1 ?r2_1); (case g2_1 | o2_1 | h2_1 | j_1 => exact rfl); (case t2_1 => exact Hth.out); (case i2_1 => exact size_content.trans (by simp [contC])); (case s2_1 => exact contC_one _ _ _ _)) | fail)
      have hd := RLoc.done (cs := contC ⟨1, Rc.zero, Pxl.zero, 0, 0, 0, []⟩ (.slice none 0 0)) Hl3.out rfl
      refine bodyPost_ret (v := .tuple #[.agg (contC ⟨1, Rc.zero, Pxl.zero, 0, 0, 0, []⟩ (.slice none 0 0)), .int .i64 0, .bool false]) (results_content _ _ w.heap.size (contC ⟨1, Rc.zero, Pxl.zero, 0, 0, 0, []⟩ (.slice none 0 0)) rfl _ _ rfl rfl rfl hd.2.1) rfl ?_
      exact ct_fail Hno.out hd.1 _
    rw [ht] at hp
    obtain ⟨p, c, rfl, hown, hxl⟩ := hp
    obtain ⟨a1, a2, a3, a4, rfl⟩ := times_four ht
    have Hbox : Hid (boxAt bs q = some ([a1, a2, a3, a4], q2)) := Lib.hid ht
    obtain ⟨g2, rfl, hg0, hg1, hc⟩ := own_ints hown (by omega)
    have hc0 : w3.cell? ⟨g2, 0, none⟩ = some (.int .i64 a1) := hc 0 (by simp)
    have hc1 : w3.cell? ⟨g2, 1, none⟩ = some (.int .i64 a2) := hc 1 (by simp)
    have hc2 : w3.cell? ⟨g2, 2, none⟩ = some (.int .i64 a3) := hc 2 (by simp)
    have hc3 : w3.cell? ⟨g2, 3, none⟩ = some (.int .i64 a4) := hc 3 (by simp)
    have hq2 := (box_spec Hby.out).end_le ht hq
    have hn2 : w.heap.size + 1 ≠ g2 := by have := Hl2.out.loc.lt; omega
    clear hc hown hxl ht hg0
    go_wp2_with fail
    refine (pixelsR_any w3 pb cb bs (H.out.mod Hl3.out.mod (fun _ _ _ h => h)) hl q2 1 hq2 (by omega)).mono ?_
    rintro e w4 ⟨hm4, hp⟩
    have Hl4 := Lib.hid (Hl3.out.next hm4)
    by_cases hlen : 4 * 1 ≤ bs.length - q2
    case neg =>
      rw [if_neg hlen] at hp
      subst hp
      have Hno : Hid (contentAt bs n = none) := Lib.hid (by unfold contentAt; rw [Hx.out, Option.bind_some]; simp only; rw [if_pos trivial, Hbox.out, Option.bind_some, pixelAt_none hq2 hlen]; rfl)
      clear hlen
      have HB : Hid (Blk _ (w.heap.size + 1) 30 (contC ⟨1, Rc.zero, Pxl.zero, 0, 0, 0, []⟩ (.slice none 0 0))) := Lib.hid Hl4.out.loc
      have Hth := Lib.hid (Hl4.out.res.there 0 13 (by simp))
      go_wp2_with (first | ((with_reducible refine wpList_load_row ?g_2 30 ?x_2 ?o_2 (w.heap.size + 1) ?h_2 ?t_2 ?c_2 ?f_2 ?d_2 ?b_2 ?u_2 ?s_2 ?i_2 ?r_2); (case g_2 | o_2 | h_2 => exact rfl); (case b_2 => exact HB.out); (case u_2 => exact Try.underlying30); (case s_2 => exact rfl); (case i_2 => exact size_content.trans (by simp [contC]))) | ((with_reducible refine wpList_store_mid ?g2_2 30 ?x2_2 ?y_2 ?o2_2 w.heap.size 0 (contC ⟨1, Rc.zero, Pxl.zero, 0, 0, 0, []⟩ (.slice none 0 0)) ?h2_2 ?j_2 ?t2_2 ?i2_2 ?s2_2 ?r2_2); (case g2_2 | o2_2 | h2_2 | j_2 => exact rfl); (case t2_2 => exact Hth.out); (case i2_2 => exact size_content.trans (by simp [contC])); (case s2_2 => exact contC_one _ _ _ _)) | fail)
      have hd := RLoc.done (cs := contC ⟨1, Rc.zero, Pxl.zero, 0, 0, 0, []⟩ (.slice none 0 0)) Hl4.out rfl
      refine bodyPost_ret (v := .tuple #[.agg (contC ⟨1, Rc.zero, Pxl.zero, 0, 0, 0, []⟩ (.slice none 0 0)), .int .i64 0, .bool false]) (results_content _ _ w.heap.size (contC ⟨1, Rc.zero, Pxl.zero, 0, 0, 0, []⟩ (.slice none 0 0)) rfl _ _ rfl rfl rfl hd.2.1) rfl ?_
      exact ct_fail Hno.out hd.1 _
    rw [if_pos hlen] at hp
    obtain ⟨ps, p4, c4, hps, hpl, rfl, hown⟩ := hp
    obtain ⟨px, rfl, hpx⟩ := times_one hps
    obtain ⟨g4, rfl, hg40, hg41, hcc⟩ := own_px hown
    have d0 : w4.cell? ⟨g4, 0, none⟩ = some (.int .u8 ((Pxl.of px).p0 : Nat)) := hcc.1
    have d1 : w4.cell? ⟨g4, 1, none⟩ = some (.int .u8 ((Pxl.of px).p1 : Nat)) := hcc.2.1
    have d2 : w4.cell? ⟨g4, 2, none⟩ = some (.int .u8 ((Pxl.of px).p2 : Nat)) := hcc.2.2.1
    have d3 : w4.cell? ⟨g4, 3, none⟩ = some (.int .u8 ((Pxl.of px).p3 : Nat)) := hcc.2.2.2
    have hn4 : w.heap.size + 1 ≠ g4 := by have := Hl3.out.loc.lt; omega
    have e0 : w4.cell? ⟨g2, 0, none⟩ = some (.int .i64 a1) := (hm4.cell (p := ⟨g2, 0, none⟩) hg1 (fun h => h)).trans hc0
    have e1 : w4.cell? ⟨g2, 1, none⟩ = some (.int .i64 a2) := (hm4.cell (p := ⟨g2, 1, none⟩) hg1 (fun h => h)).trans hc1
    have e2 : w4.cell? ⟨g2, 2, none⟩ = some (.int .i64 a3) := (hm4.cell (p := ⟨g2, 2, none⟩) hg1 (fun h => h)).trans hc2
    have e3 : w4.cell? ⟨g2, 3, none⟩ = some (.int .i64 a4) := (hm4.cell (p := ⟨g2, 3, none⟩) hg1 (fun h => h)).trans hc3
    have Hres : Hid (contentAt bs n = some (⟨1, Rc.of [a1, a2, a3, a4], Pxl.of px, 0, 0, 0, []⟩, q2 + 4)) := Lib.hid (by unfold contentAt; rw [Hx.out, Option.bind_some]; simp only; rw [if_pos trivial, Hbox.out, Option.bind_some, hpx]; rfl)
    have Hlen := Lib.hid hlen
    generalize Pxl.of px = pp at *
    obtain ⟨r0, r1, r2, r3⟩ := pp
    have cl1 : w4.cell? ⟨w.heap.size + 1, 1, none⟩ = some (.int .i64 0) := Hl4.out.loc.cell 1 rfl
    have fl1 : w4.frozen? ⟨w.heap.size + 1, 1, none⟩ = false := Hl4.out.loc.frozen 1
    have cl2 : w4.cell? ⟨w.heap.size + 1, 2, none⟩ = some (.int .i64 0) := Hl4.out.loc.cell 2 rfl
    have fl2 : w4.frozen? ⟨w.heap.size + 1, 2, none⟩ = false := Hl4.out.loc.frozen 2
    have cl3 : w4.cell? ⟨w.heap.size + 1, 3, none⟩ = some (.int .i64 0) := Hl4.out.loc.cell 3 rfl
    have fl3 : w4.frozen? ⟨w.heap.size + 1, 3, none⟩ = false := Hl4.out.loc.frozen 3
    have cl4 : w4.cell? ⟨w.heap.size + 1, 4, none⟩ = some (.int .i64 0) := Hl4.out.loc.cell 4 rfl
    have fl4 : w4.frozen? ⟨w.heap.size + 1, 4, none⟩ = false := Hl4.out.loc.frozen 4
    clear hown hps hpl hpx hlen hm4 hc0 hc1 hc2 hc3 d0 d1 d2 d3
    go_wp2_with fail
    refine wp_region_defer (S := fun w' => w' = (w4).drew) 14 ({ dst := none, op := Op.store 25 (Operand.tmp 73) (Operand.tmp 72), type := 0, pos := "ref.go:131", after := #[gD 13, gD 12, gP 0, gP 1, gP 2, gP 3, gP 4, gP 5, gP 6, gP 7, gP 8, gP 9, gP 10, gP 11, gP 12], guard := none } : Oper) rfl (by kernel_rfl) rfl rfl (by kernel_rfl) (by kernel_rfl) rfl (fun hHeld => ?_)
    refine wpAnyH_take (i := 0) (oi := ({ dst := some 60, op := Op.move (Operand.tmp 10), type := 72, pos := "ref.go:131", after := #[], guard := none } : Oper)) (v := .slice (some ⟨g2, 0, none⟩) 4 c) rfl (by kernel_rfl) (by kernel_rfl) (by kernel_rfl) (fun _ _ _ h => h) (Or.inl ⟨by rfl, ?_⟩) hHeld ?_
    · (intro w' hSw; (try dsimp only at hSw); subst hSw; clear hHeld; go_simp; (try with_reducible rfl))
    try simp only [Act.put, uSa, uSb, uSc]
    refine wpAnyH_take (i := 1) (oi := ({ dst := some 61, op := Op.indexAddr 72 (Operand.tmp 60) (Operand.const (Value.int IntKind.i64 0)), type := 0, pos := "ref.go:131", after := #[gD 0], guard := none } : Oper)) (v := .pointer (some ⟨g2, 0, none⟩)) rfl (by kernel_rfl) (by kernel_rfl) (by kernel_rfl) (fun _ _ _ h => h) (Or.inl ⟨by rfl, ?_⟩) hHeld ?_
    · (intro w' hSw; (try dsimp only at hSw); subst hSw; clear hHeld; go_simp; (try with_reducible rfl))
    try simp only [Act.put, uSa, uSb, uSc]
    refine wpAnyH_take (i := 2) (oi := ({ dst := some 62, op := Op.load 3 (Operand.tmp 61), type := 3, pos := "ref.go:131", after := #[gD 1], guard := none } : Oper)) (v := .int .i64 a1) rfl (by kernel_rfl) (by kernel_rfl) (by kernel_rfl) (fun _ _ _ h => h) (Or.inl ⟨by rfl, ?_⟩) hHeld ?_
    · (intro w' hSw; (try dsimp only at hSw); subst hSw; clear hHeld; go_simp; (try with_reducible rfl))
    try simp only [Act.put, uSa, uSb, uSc]
    refine wpAnyH_take (i := 3) (oi := ({ dst := some 63, op := Op.move (Operand.tmp 10), type := 72, pos := "ref.go:131", after := #[], guard := none } : Oper)) (v := .slice (some ⟨g2, 0, none⟩) 4 c) rfl (by kernel_rfl) (by kernel_rfl) (by kernel_rfl) (fun _ _ _ h => h) (Or.inl ⟨by rfl, ?_⟩) hHeld ?_
    · (intro w' hSw; (try dsimp only at hSw); subst hSw; clear hHeld; go_simp; (try with_reducible rfl))
    try simp only [Act.put, uSa, uSb, uSc]
    refine wpAnyH_take (i := 4) (oi := ({ dst := some 64, op := Op.indexAddr 72 (Operand.tmp 63) (Operand.const (Value.int IntKind.i64 1)), type := 0, pos := "ref.go:131", after := #[gD 3], guard := none } : Oper)) (v := .pointer (some ⟨g2, 1, none⟩)) rfl (by kernel_rfl) (by kernel_rfl) (by kernel_rfl) (fun _ _ _ h => h) (Or.inl ⟨by rfl, ?_⟩) hHeld ?_
    · (intro w' hSw; (try dsimp only at hSw); subst hSw; clear hHeld; go_simp; (try with_reducible rfl))
    try simp only [Act.put, uSa, uSb, uSc]
    refine wpAnyH_take (i := 5) (oi := ({ dst := some 65, op := Op.load 3 (Operand.tmp 64), type := 3, pos := "ref.go:131", after := #[gD 4], guard := none } : Oper)) (v := .int .i64 a2) rfl (by kernel_rfl) (by kernel_rfl) (by kernel_rfl) (fun _ _ _ h => h) (Or.inl ⟨by rfl, ?_⟩) hHeld ?_
    · (intro w' hSw; (try dsimp only at hSw); subst hSw; clear hHeld; go_simp; (try with_reducible rfl))
    try simp only [Act.put, uSa, uSb, uSc]
    refine wpAnyH_take (i := 6) (oi := ({ dst := some 66, op := Op.move (Operand.tmp 10), type := 72, pos := "ref.go:131", after := #[], guard := none } : Oper)) (v := .slice (some ⟨g2, 0, none⟩) 4 c) rfl (by kernel_rfl) (by kernel_rfl) (by kernel_rfl) (fun _ _ _ h => h) (Or.inl ⟨by rfl, ?_⟩) hHeld ?_
    · (intro w' hSw; (try dsimp only at hSw); subst hSw; clear hHeld; go_simp; (try with_reducible rfl))
    try simp only [Act.put, uSa, uSb, uSc]
    refine wpAnyH_take (i := 7) (oi := ({ dst := some 67, op := Op.indexAddr 72 (Operand.tmp 66) (Operand.const (Value.int IntKind.i64 2)), type := 0, pos := "ref.go:131", after := #[gD 6], guard := none } : Oper)) (v := .pointer (some ⟨g2, 2, none⟩)) rfl (by kernel_rfl) (by kernel_rfl) (by kernel_rfl) (fun _ _ _ h => h) (Or.inl ⟨by rfl, ?_⟩) hHeld ?_
    · (intro w' hSw; (try dsimp only at hSw); subst hSw; clear hHeld; go_simp; (try with_reducible rfl))
    try simp only [Act.put, uSa, uSb, uSc]
    refine wpAnyH_take (i := 8) (oi := ({ dst := some 68, op := Op.load 3 (Operand.tmp 67), type := 3, pos := "ref.go:131", after := #[gD 7], guard := none } : Oper)) (v := .int .i64 a3) rfl (by kernel_rfl) (by kernel_rfl) (by kernel_rfl) (fun _ _ _ h => h) (Or.inl ⟨by rfl, ?_⟩) hHeld ?_
    · (intro w' hSw; (try dsimp only at hSw); subst hSw; clear hHeld; go_simp; (try with_reducible rfl))
    try simp only [Act.put, uSa, uSb, uSc]
    refine wpAnyH_take (i := 9) (oi := ({ dst := some 69, op := Op.move (Operand.tmp 10), type := 72, pos := "ref.go:131", after := #[], guard := none } : Oper)) (v := .slice (some ⟨g2, 0, none⟩) 4 c) rfl (by kernel_rfl) (by kernel_rfl) (by kernel_rfl) (fun _ _ _ h => h) (Or.inl ⟨by rfl, ?_⟩) hHeld ?_
    · (intro w' hSw; (try dsimp only at hSw); subst hSw; clear hHeld; go_simp; (try with_reducible rfl))
    try simp only [Act.put, uSa, uSb, uSc]
    refine wpAnyH_take (i := 10) (oi := ({ dst := some 70, op := Op.indexAddr 72 (Operand.tmp 69) (Operand.const (Value.int IntKind.i64 3)), type := 0, pos := "ref.go:131", after := #[gD 9], guard := none } : Oper)) (v := .pointer (some ⟨g2, 3, none⟩)) rfl (by kernel_rfl) (by kernel_rfl) (by kernel_rfl) (fun _ _ _ h => h) (Or.inl ⟨by rfl, ?_⟩) hHeld ?_
    · (intro w' hSw; (try dsimp only at hSw); subst hSw; clear hHeld; go_simp; (try with_reducible rfl))
    try simp only [Act.put, uSa, uSb, uSc]
    refine wpAnyH_take (i := 11) (oi := ({ dst := some 71, op := Op.load 3 (Operand.tmp 70), type := 3, pos := "ref.go:131", after := #[gD 10], guard := none } : Oper)) (v := .int .i64 a4) rfl (by kernel_rfl) (by kernel_rfl) (by kernel_rfl) (fun _ _ _ h => h) (Or.inl ⟨by rfl, ?_⟩) hHeld ?_
    · (intro w' hSw; (try dsimp only at hSw); subst hSw; clear hHeld; go_simp; (try with_reducible rfl))
    try simp only [Act.put, uSa, uSb, uSc]
    refine wpAnyH_take (i := 12) (oi := ({ dst := some 72, op := Op.build 25 #[(0, Operand.tmp 62), (1, Operand.tmp 65), (2, Operand.tmp 68), (3, Operand.tmp 71)], type := 25, pos := "ref.go:131", after := #[gD 2, gD 5, gD 8, gD 11], guard := none } : Oper)) (v := .agg #[.int .i64 a1, .int .i64 a2, .int .i64 a3, .int .i64 a4]) rfl (by kernel_rfl) (by kernel_rfl) (by kernel_rfl) (fun _ _ _ h => h) (Or.inl ⟨by rfl, ?_⟩) hHeld ?_
    · (intro w' hSw; (try dsimp only at hSw); subst hSw; clear hHeld; go_simp; (try with_reducible rfl))
    try simp only [Act.put, uSa, uSb, uSc]
    refine wpAnyH_take (i := 13) (oi := ({ dst := some 73, op := Op.fieldAddr 30 (Operand.tmp 7) 1, type := 0, pos := "ref.go:131", after := #[gP 0, gP 1, gP 2, gP 3, gP 4, gP 5, gP 6, gP 7, gP 8, gP 9, gP 10, gP 11, gP 12], guard := none } : Oper)) (v := .pointer (some ⟨w.heap.size + 1, 1, none⟩)) rfl (by kernel_rfl) (by kernel_rfl) (by kernel_rfl) (fun _ _ _ h => h) (Or.inl ⟨by rfl, ?_⟩) hHeld ?_
    · (intro w' hSw; (try dsimp only at hSw); subst hSw; clear hHeld; go_simp; (try with_reducible rfl))
    try simp only [Act.put, uSa, uSb, uSc]
    refine wpAnyH_take (i := 14) (oi := ({ dst := none, op := Op.assign (Operand.const (Value.bool true)), type := 0, pos := "ref.go:131", after := #[gD 13, gD 12, gP 0, gP 1, gP 2, gP 3, gP 4, gP 5, gP 6, gP 7, gP 8, gP 9, gP 10, gP 11, gP 12], guard := none } : Oper)) (v := .bool true) rfl (by kernel_rfl) (by kernel_rfl) (by kernel_rfl) (fun _ _ _ h => h) (Or.inl ⟨by rfl, ?_⟩) hHeld ?_
    · (intro w' hSw; clear hSw hHeld; go_simp; (try with_reducible rfl))
    try simp only [Act.put, uSa, uSb, uSc]
    refine wpAnyH_done (by kernel_rfl) ?_ _
    clear hHeld
    show Oper.wp _ _ _ _ _ _
    go_simp
    have m5 : Gou.Mod (fun k => k = w.heap.size + 1) w4 ((((w4.setCell ⟨w.heap.size + 1, 1, none⟩ (.int .i64 a1)).setCell ⟨w.heap.size + 1, 2, none⟩ (.int .i64 a2)).setCell ⟨w.heap.size + 1, 3, none⟩ (.int .i64 a3)).setCell ⟨w.heap.size + 1, 4, none⟩ (.int .i64 a4)).drew := (Gou.Blk.setMod w4 (w.heap.size + 1) 1 [.int .i64 a1, .int .i64 a2, .int .i64 a3, .int .i64 a4]).trans' (Gou.Mod.drew _ _)
    have hl5 : RLoc w 30 CtZ (contC ⟨1, ⟨a1, a2, a3, a4⟩, Pxl.zero, 0, 0, 0, []⟩ (.slice none 0 0)) ((((w4.setCell ⟨w.heap.size + 1, 1, none⟩ (.int .i64 a1)).setCell ⟨w.heap.size + 1, 2, none⟩ (.int .i64 a2)).setCell ⟨w.heap.size + 1, 3, none⟩ (.int .i64 a3)).setCell ⟨w.heap.size + 1, 4, none⟩ (.int .i64 a4)).drew := (Hl4.out.puts 1 [.int .i64 a1, .int .i64 a2, .int .i64 a3, .int .i64 a4]).next (Gou.Mod.drew _ _)
    clear e0 e1 e2 e3 cl1 fl1 cl2 fl2 cl3 fl3 cl4 fl4
    have hW5 : ∃ w5, w5 = ((((w4.setCell ⟨w.heap.size + 1, 1, none⟩ (.int .i64 a1)).setCell ⟨w.heap.size + 1, 2, none⟩ (.int .i64 a2)).setCell ⟨w.heap.size + 1, 3, none⟩ (.int .i64 a3)).setCell ⟨w.heap.size + 1, 4, none⟩ (.int .i64 a4)).drew := ⟨_, rfl⟩
    obtain ⟨w5, hW5⟩ := hW5
    rw [← hW5] at m5 hl5 ⊢
    clear hW5
    have d0 : w5.cell? ⟨g4, 0, none⟩ = some (.int .u8 (r0 : Nat)) := (m5.cell (p := ⟨g4, 0, none⟩) hg41 hn4.symm).trans hcc.1
    have d1 : w5.cell? ⟨g4, 1, none⟩ = some (.int .u8 (r1 : Nat)) := (m5.cell (p := ⟨g4, 1, none⟩) hg41 hn4.symm).trans hcc.2.1
    have d2 : w5.cell? ⟨g4, 2, none⟩ = some (.int .u8 (r2 : Nat)) := (m5.cell (p := ⟨g4, 2, none⟩) hg41 hn4.symm).trans hcc.2.2.1
    have d3 : w5.cell? ⟨g4, 3, none⟩ = some (.int .u8 (r3 : Nat)) := (m5.cell (p := ⟨g4, 3, none⟩) hg41 hn4.symm).trans hcc.2.2.2
    have cl5 : w5.cell? ⟨w.heap.size + 1, 5, none⟩ = some (.int .u8 0) := hl5.loc.cell 5 rfl
    have fl5 : w5.frozen? ⟨w.heap.size + 1, 5, none⟩ = false := hl5.loc.frozen 5
    have cl6 : w5.cell? ⟨w.heap.size + 1, 6, none⟩ = some (.int .u8 0) := hl5.loc.cell 6 rfl
    have fl6 : w5.frozen? ⟨w.heap.size + 1, 6, none⟩ = false := hl5.loc.frozen 6
    have cl7 : w5.cell? ⟨w.heap.size + 1, 7, none⟩ = some (.int .u8 0) := hl5.loc.cell 7 rfl
    have fl7 : w5.frozen? ⟨w.heap.size + 1, 7, none⟩ = false := hl5.loc.frozen 7
    have cl8 : w5.cell? ⟨w.heap.size + 1, 8, none⟩ = some (.int .u8 0) := hl5.loc.cell 8 rfl
    have fl8 : w5.frozen? ⟨w.heap.size + 1, 8, none⟩ = false := hl5.loc.frozen 8
    have Hl5 := Lib.hid hl5
    clear hl5 m5 hcc
    have Hl6 : Hid (RLoc w 30 CtZ (contC ⟨1, ⟨a1, a2, a3, a4⟩, ⟨r0, r1, r2, r3⟩, 0, 0, 0, []⟩ (.slice none 0 0)) ((((w5.setCell ⟨w.heap.size + 1, 5, none⟩ (.int .u8 (r0 : Nat))).setCell ⟨w.heap.size + 1, 6, none⟩ (.int .u8 (r1 : Nat))).setCell ⟨w.heap.size + 1, 7, none⟩ (.int .u8 (r2 : Nat))).setCell ⟨w.heap.size + 1, 8, none⟩ (.int .u8 (r3 : Nat)))) := Lib.hid (Hl5.out.puts 5 [.int .u8 (r0 : Nat), .int .u8 (r1 : Nat), .int .u8 (r2 : Nat), .int .u8 (r3 : Nat)])
    have HB : Hid (Blk _ (w.heap.size + 1) 30 (contC ⟨1, ⟨a1, a2, a3, a4⟩, ⟨r0, r1, r2, r3⟩, 0, 0, 0, []⟩ (.slice none 0 0))) := Lib.hid Hl6.out.loc
    have Hth := Lib.hid (Hl6.out.res.there 0 13 (by simp))
    go_wp2_with (first | ((with_reducible refine wpList_load_row ?g_3 30 ?x_3 ?o_3 (w.heap.size + 1) ?h_3 ?t_3 ?c_3 ?f_3 ?d_3 ?b_3 ?u_3 ?s_3 ?i_3 ?r_3); (case g_3 | o_3 | h_3 => exact rfl); (case b_3 => exact HB.out); (case u_3 => exact Try.underlying30); (case s_3 => exact rfl); (case i_3 => exact size_content.trans (by simp [contC]))) | ((with_reducible refine wpList_store_mid ?g2_3 30 ?x2_3 ?y_3 ?o2_3 w.heap.size 0 (contC ⟨1, ⟨a1, a2, a3, a4⟩, ⟨r0, r1, r2, r3⟩, 0, 0, 0, []⟩ (.slice none 0 0)) ?h2_3 ?j_3 ?t2_3 ?i2_3 ?s2_3 ?r2_3); (case g2_3 | o2_3 | h2_3 | j_3 => exact rfl); (case t2_3 => exact Hth.out); (case i2_3 => exact size_content.trans (by simp [contC])); (case s2_3 => exact contC_one _ _ _ _)) | fail)
    have hd := RLoc.done (cs := contC ⟨1, ⟨a1, a2, a3, a4⟩, ⟨r0, r1, r2, r3⟩, 0, 0, 0, []⟩ (.slice none 0 0)) Hl6.out rfl
    refine bodyPost_ret (v := .tuple #[.agg (contC ⟨1, ⟨a1, a2, a3, a4⟩, ⟨r0, r1, r2, r3⟩, 0, 0, 0, []⟩ (.slice none 0 0)), .int .i64 ((q2 : Int) + 4), .bool true]) (results_content _ _ w.heap.size (contC ⟨1, ⟨a1, a2, a3, a4⟩, ⟨r0, r1, r2, r3⟩, 0, 0, 0, []⟩ (.slice none 0 0)) rfl _ _ rfl rfl rfl hd.2.1) rfl ?_
    exact ⟨hd.1, by rw [Hres.out]; exact ⟨none, 0, rfl, PixR.nil _ _⟩⟩
  have t1 : (x == 1) = false := by simpa using hx1
  by_cases hx2 : x = 2
  · subst hx2
    clear t1 hx1
    have Hl2 : Hid (RLoc w 30 CtZ (contC ⟨2, Rc.zero, Pxl.zero, 0, 0, 0, []⟩ (.slice none 0 0)) (w1.setCell ⟨w.heap.size + 1, 0, none⟩ (.int .i64 2))) := Lib.hid (Hl1.out.put 0 (.int .i64 2))
    go_wp2_with fail
    clear c0 cl0 fl0
    generalize hW2 : w1.setCell ⟨w.heap.size + 1, 0, none⟩ (.int .i64 2) = w2 at *
    clear hW2
    refine (numbersR_any w2 pb cb bs (H.out.mod Hl2.out.mod (fun _ _ _ h => h)) Hby.out hl q 5 hq (by omega)).mono ?_
    rintro e w3 ⟨hm3, hp⟩
    have Hl3 := Lib.hid (Hl2.out.next hm3)
    clear hm3
    rcases ht : timesAt (numAt bs) q 5 with _ | ⟨xs, q2⟩
    · rw [ht] at hp
      subst hp
      have Hno : Hid (contentAt bs n = none) := Lib.hid (content_none5 Hx.out ht)
      clear ht
      have HB : Hid (Blk _ (w.heap.size + 1) 30 (contC ⟨2, Rc.zero, Pxl.zero, 0, 0, 0, []⟩ (.slice none 0 0))) := Lib.hid Hl3.out.loc
      have Hth := Lib.hid (Hl3.out.res.there 0 13 (by simp))
      go_wp2_with (first | ((with_reducible refine wpList_load_row ?g_4 30 ?x_4 ?o_4 (w.heap.size + 1) ?h_4 ?t_4 ?c_4 ?f_4 ?d_4 ?b_4 ?u_4 ?s_4 ?i_4 ?r_4); (case g_4 | o_4 | h_4 => exact rfl); (case b_4 => exact HB.out); (case u_4 => exact Try.underlying30); (case s_4 => exact rfl); (case i_4 => exact size_content.trans (by simp [contC]))) | ((with_reducible refine wpList_store_mid ?g2_4 30 ?x2_4 ?y_4 ?o2_4 w.heap.size 0 (contC ⟨2, Rc.zero, Pxl.zero, 0, 0, 0, []⟩ (.slice none 0 0)) ?h2_4 ?j_4 ?t2_4 ?i2_4 ?s2_4 ?r2_4); (case g2_4 | o2_4 | h2_4 | j_4 => exact rfl); (case t2_4 => exact Hth.out); (case i2_4 => exact size_content.trans (by simp [contC])); (case s2_4 => exact contC_one _ _ _ _)) | fail)
      have hd := RLoc.done (cs := contC ⟨2, Rc.zero, Pxl.zero, 0, 0, 0, []⟩ (.slice none 0 0)) Hl3.out rfl
      refine bodyPost_ret (v := .tuple #[.agg (contC ⟨2, Rc.zero, Pxl.zero, 0, 0, 0, []⟩ (.slice none 0 0)), .int .i64 0, .bool false]) (results_content _ _ w.heap.size (contC ⟨2, Rc.zero, Pxl.zero, 0, 0, 0, []⟩ (.slice none 0 0)) rfl _ _ rfl rfl rfl hd.2.1) rfl ?_
      exact ct_fail Hno.out hd.1 _
    rw [ht] at hp
    obtain ⟨p, c, rfl, hown, hxl⟩ := hp
    obtain ⟨a1, a2, a3, a4, a5, m1, m2, m3, m4, rfl, h1, h2, h3, h4, h5⟩ := times_five ht
    have Hct : Hid (contentAt bs n = if 4 * countOf a3 a4 ≤ bs.length - q2 then (timesAt (pixelAt bs) q2 (countOf a3 a4)).bind fun ps => some (⟨2, ⟨a1, a2, 0, 0⟩, Pxl.zero, a3, a4, a5, ps.1.map Pxl.of⟩, ps.2) else none) := Lib.hid (by unfold contentAt; rw [Hx.out, Option.bind_some]; simp only; rw [if_neg (by decide), if_pos trivial, h1, Option.bind_some]; simp only; rw [h2, Option.bind_some]; simp only; rw [h3, Option.bind_some]; simp only; rw [h4, Option.bind_some]; simp only; rw [h5, Option.bind_some])
    obtain ⟨g2, rfl, hg0, hg1, hc⟩ := own_ints hown (by omega)
    have hc0 : w3.cell? ⟨g2, 0, none⟩ = some (.int .i64 a1) := hc 0 (by simp)
    have hc1 : w3.cell? ⟨g2, 1, none⟩ = some (.int .i64 a2) := hc 1 (by simp)
    have hc2 : w3.cell? ⟨g2, 2, none⟩ = some (.int .i64 a3) := hc 2 (by simp)
    have hc3 : w3.cell? ⟨g2, 3, none⟩ = some (.int .i64 a4) := hc 3 (by simp)
    have hc4 : w3.cell? ⟨g2, 4, none⟩ = some (.int .i64 a5) := hc 4 (by simp)
    have hq2 := (num_spec Hby.out).end_le h5 ((num_spec Hby.out).end_le h4 ((num_spec Hby.out).end_le h3 ((num_spec Hby.out).end_le h2 ((num_spec Hby.out).end_le h1 hq))))
    have hn2 : w.heap.size + 1 ≠ g2 := by have := Hl2.out.loc.lt; omega
    clear hc hown hxl ht hg0 h1 h2 h3 h4 h5
    go_wp2_with fail
    have HS : Hid (∀ w' : World, Gou.Mod (fun _ => False) w3 w' → w'.cell? ⟨g2, 2, none⟩ = some (.int .i64 a3) ∧ w'.cell? ⟨g2, 3, none⟩ = some (.int .i64 a4)) := Lib.hid (fun w' hm => ⟨(hm.cell (p := ⟨g2, 2, none⟩) hg1 (fun h => h)).trans hc2, (hm.cell (p := ⟨g2, 3, none⟩) hg1 (fun h => h)).trans hc3⟩)
    have Hg1 := Lib.hid hg1
    clear hg1
    refine wp_region_held_drew (S := fun w' => Gou.Mod (fun _ => False) w3 w') (by kernel_rfl) (Gou.Mod.drew _ _) (fun hHeld => ?_)
    refine wpAnyH_take (i := 0) (oi := ({ dst := some 94, op := Op.move (Operand.tmp 0), type := 44, pos := "ref.go:140", after := #[], guard := none } : Oper)) (v := .slice pb bs.length cb) rfl (by kernel_rfl) (by kernel_rfl) (by kernel_rfl) (fun _ _ _ h => h) (Or.inl ⟨by rfl, ?_⟩) hHeld ?_
    · (intro w' hSw; (try dsimp only at hSw); obtain ⟨s2, s3⟩ := HS.out w' hSw; clear hSw; go_simp; (try with_reducible rfl))
    try simp only [Act.put, uSa, uSb, uSc]
    refine wpAnyH_take (i := 1) (oi := ({ dst := some 95, op := Op.move (Operand.tmp 17), type := 3, pos := "ref.go:140", after := #[], guard := none } : Oper)) (v := .int .i64 q2) rfl (by kernel_rfl) (by kernel_rfl) (by kernel_rfl) (fun _ _ _ h => h) (Or.inl ⟨by rfl, ?_⟩) hHeld ?_
    · (intro w' hSw; (try dsimp only at hSw); obtain ⟨s2, s3⟩ := HS.out w' hSw; clear hSw; go_simp; (try with_reducible rfl))
    try simp only [Act.put, uSa, uSb, uSc]
    refine wpAnyH_take (i := 2) (oi := ({ dst := some 96, op := Op.move (Operand.tmp 16), type := 72, pos := "ref.go:140", after := #[], guard := none } : Oper)) (v := .slice (some ⟨g2, 0, none⟩) 5 c) rfl (by kernel_rfl) (by kernel_rfl) (by kernel_rfl) (fun _ _ _ h => h) (Or.inl ⟨by rfl, ?_⟩) hHeld ?_
    · (intro w' hSw; (try dsimp only at hSw); obtain ⟨s2, s3⟩ := HS.out w' hSw; clear hSw; go_simp; (try with_reducible rfl))
    try simp only [Act.put, uSa, uSb, uSc]
    refine wpAnyH_take (i := 3) (oi := ({ dst := some 97, op := Op.indexAddr 72 (Operand.tmp 96) (Operand.const (Value.int IntKind.i64 2)), type := 0, pos := "ref.go:140", after := #[gD 2], guard := none } : Oper)) (v := .pointer (some ⟨g2, 2, none⟩)) rfl (by kernel_rfl) (by kernel_rfl) (by kernel_rfl) (fun _ _ _ h => h) (Or.inl ⟨by rfl, ?_⟩) hHeld ?_
    · (intro w' hSw; (try dsimp only at hSw); obtain ⟨s2, s3⟩ := HS.out w' hSw; clear hSw; go_simp; (try with_reducible rfl))
    try simp only [Act.put, uSa, uSb, uSc]
    refine wpAnyH_take (i := 4) (oi := ({ dst := some 98, op := Op.load 3 (Operand.tmp 97), type := 3, pos := "ref.go:140", after := #[gD 3], guard := none } : Oper)) (v := .int .i64 a3) rfl (by kernel_rfl) (by kernel_rfl) (by kernel_rfl) (fun _ _ _ h => h) (Or.inl ⟨by rfl, ?_⟩) hHeld ?_
    · (intro w' hSw; (try dsimp only at hSw); obtain ⟨s2, s3⟩ := HS.out w' hSw; clear hSw; go_simp; (try with_reducible rfl))
    try simp only [Act.put, uSa, uSb, uSc]
    refine wpAnyH_take (i := 5) (oi := ({ dst := some 99, op := Op.move (Operand.tmp 16), type := 72, pos := "ref.go:140", after := #[], guard := none } : Oper)) (v := .slice (some ⟨g2, 0, none⟩) 5 c) rfl (by kernel_rfl) (by kernel_rfl) (by kernel_rfl) (fun _ _ _ h => h) (Or.inl ⟨by rfl, ?_⟩) hHeld ?_
    · (intro w' hSw; (try dsimp only at hSw); obtain ⟨s2, s3⟩ := HS.out w' hSw; clear hSw; go_simp; (try with_reducible rfl))
    try simp only [Act.put, uSa, uSb, uSc]
    refine wpAnyH_take (i := 6) (oi := ({ dst := some 100, op := Op.indexAddr 72 (Operand.tmp 99) (Operand.const (Value.int IntKind.i64 3)), type := 0, pos := "ref.go:140", after := #[gD 5], guard := none } : Oper)) (v := .pointer (some ⟨g2, 3, none⟩)) rfl (by kernel_rfl) (by kernel_rfl) (by kernel_rfl) (fun _ _ _ h => h) (Or.inl ⟨by rfl, ?_⟩) hHeld ?_
    · (intro w' hSw; (try dsimp only at hSw); obtain ⟨s2, s3⟩ := HS.out w' hSw; clear hSw; go_simp; (try with_reducible rfl))
    try simp only [Act.put, uSa, uSb, uSc]
    refine wpAnyH_take (i := 7) (oi := ({ dst := some 101, op := Op.load 3 (Operand.tmp 100), type := 3, pos := "ref.go:140", after := #[gD 6], guard := none } : Oper)) (v := .int .i64 a4) rfl (by kernel_rfl) (by kernel_rfl) (by kernel_rfl) (fun _ _ _ h => h) (Or.inl ⟨by rfl, ?_⟩) hHeld ?_
    · (intro w' hSw; (try dsimp only at hSw); obtain ⟨s2, s3⟩ := HS.out w' hSw; clear hSw; go_simp; (try with_reducible rfl))
    try simp only [Act.put, uSa, uSb, uSc]
    refine wpAnyH_ready (rs := [8]) (by kernel_rfl) (by simp) (AllReadyH.cons (o := ({ dst := some 102, op := Op.call { callee := Callee.value (Operand.func 68), args := #[Operand.tmp 98, Operand.tmp 101], argTypes := #[3, 3] }, type := 3, pos := "ref.go:140", after := #[gD 4, gD 7], guard := none } : Oper)) rfl (fun K9 hK => ?_) AllReadyH.nil)
    go_simp
    refine (countR_any _ a3 a4).mono ?_
    rintro e w4 ⟨rfl, rfl⟩
    refine hK _ _ hHeld (fun hHeld => ?_)
    clear hK K9
    generalize hk : countOf a3 a4 = k at *
    have hk1 : k ≤ 65536 := hk ▸ countOf_le a3 a4
    clear hk
    try simp only [Act.put, uSa, uSb, uSc]
    refine wpAnyH_ready (rs := [9]) (by kernel_rfl) (by simp) (AllReadyH.cons (o := ({ dst := some 103, op := Op.call { callee := Callee.value (Operand.func 67), args := #[Operand.tmp 94, Operand.tmp 95, Operand.tmp 102], argTypes := #[44, 3, 3] }, type := 122, pos := "ref.go:140", after := #[gD 0, gD 1, gD 8, { on := 8, ground := Ground.chain }], guard := none } : Oper)) rfl (fun K9 hK => ?_) AllReadyH.nil)
    go_simp
    refine (pixelsR_any _ pb cb bs (H.out.mod (Hl3.out.mod.trans' hHeld) (fun _ _ _ h => h)) hl q2 k hq2 (by omega)).mono ?_
    rintro e w4 ⟨hm4, hp⟩
    have M4 := Lib.hid (hHeld.trans' hm4)
    have Hl4 := Lib.hid (Hl3.out.next M4.out)
    clear hHeld
    by_cases hlen : 4 * k ≤ bs.length - q2
    case neg =>
      rw [if_neg hlen] at hp
      subst hp
      have Hno : Hid (contentAt bs n = none) := Lib.hid (by rw [Hct.out, if_neg hlen])
      clear hlen hm4
      refine hK _ _ M4.out (fun hHeld => ?_)
      clear hK K9
      try simp only [Act.put, uSa, uSb, uSc]
      refine wpAnyH_take (i := 10) (oi := ({ dst := some 93, op := Op.move (Operand.tmp 103), type := 122, pos := "ref.go:140", after := #[gD 9], guard := none } : Oper)) (v := .tuple #[.slice none 0 0, .int .i64 0, .bool false]) rfl (by kernel_rfl) (by kernel_rfl) (by kernel_rfl) (fun _ _ _ h => h) (Or.inl ⟨by rfl, ?_⟩) hHeld ?_
      · (intro w' hSw; (try dsimp only at hSw); obtain ⟨s2, s3⟩ := HS.out w' hSw; clear hSw; go_simp; (try with_reducible rfl))
      try simp only [Act.put, uSa, uSb, uSc]
      refine wpAnyH_take (i := 11) (oi := ({ dst := some 104, op := Op.extract (Operand.tmp 93) 0, type := 28, pos := "ref.go:140", after := #[gD 10], guard := none } : Oper)) (v := .slice none 0 0) rfl (by kernel_rfl) (by kernel_rfl) (by kernel_rfl) (fun _ _ _ h => h) (Or.inl ⟨by rfl, ?_⟩) hHeld ?_
      · (intro w' hSw; (try dsimp only at hSw); obtain ⟨s2, s3⟩ := HS.out w' hSw; clear hSw; go_simp; (try with_reducible rfl))
      try simp only [Act.put, uSa, uSb, uSc]
      refine wpAnyH_take (i := 12) (oi := ({ dst := some 105, op := Op.extract (Operand.tmp 93) 1, type := 3, pos := "ref.go:140", after := #[gD 10, { on := 14, ground := Ground.gcOnly Departure.lateStores }], guard := none } : Oper)) (v := .int .i64 0) rfl (by kernel_rfl) (by kernel_rfl) (by kernel_rfl) (fun _ _ _ h => h) (Or.inl ⟨by rfl, ?_⟩) hHeld ?_
      · (intro w' hSw; (try dsimp only at hSw); obtain ⟨s2, s3⟩ := HS.out w' hSw; clear hSw; go_simp; (try with_reducible rfl))
      try simp only [Act.put, uSa, uSb, uSc]
      refine wpAnyH_take (i := 13) (oi := ({ dst := some 106, op := Op.extract (Operand.tmp 93) 2, type := 4, pos := "ref.go:140", after := #[gD 10, { on := 15, ground := Ground.gcOnly Departure.lateStores }], guard := none } : Oper)) (v := .bool false) rfl (by kernel_rfl) (by kernel_rfl) (by kernel_rfl) (fun _ _ _ h => h) (Or.inl ⟨by rfl, ?_⟩) hHeld ?_
      · (intro w' hSw; (try dsimp only at hSw); obtain ⟨s2, s3⟩ := HS.out w' hSw; clear hSw; go_simp; (try with_reducible rfl))
      try simp only [Act.put, uSa, uSb, uSc]
      refine wpAnyH_take (i := 14) (oi := ({ dst := some 19, op := Op.assign (Operand.tmp 104), type := 28, pos := "ref.go:140", after := #[gD 11, { on := 9, ground := Ground.chain }, gP 0, gP 1, gP 2, gP 3, gP 4, gP 5, gP 6, gP 7, gP 8, gP 9, gP 10, gP 11, { on := 12, ground := Ground.textOnly Departure.lateStores }, { on := 13, ground := Ground.textOnly Departure.lateStores }], guard := none } : Oper)) (v := .slice none 0 0) rfl (by kernel_rfl) (by kernel_rfl) (by kernel_rfl) (fun _ _ _ h => h) (Or.inl ⟨by rfl, ?_⟩) hHeld ?_
      · (intro w' hSw; (try dsimp only at hSw); obtain ⟨s2, s3⟩ := HS.out w' hSw; clear hSw; go_simp; (try with_reducible rfl))
      try simp only [Act.put, uSa, uSb, uSc]
      refine wpAnyH_take (i := 15) (oi := ({ dst := some 20, op := Op.assign (Operand.tmp 105), type := 3, pos := "ref.go:140", after := #[gD 12, { on := 14, ground := Ground.chain }, gP 0, gP 1, gP 2, gP 3, gP 4, gP 5, gP 6, gP 7, gP 8, gP 9, gP 10, gP 11, gP 12, { on := 13, ground := Ground.textOnly Departure.lateStores }, gP 14], guard := none } : Oper)) (v := .int .i64 0) rfl (by kernel_rfl) (by kernel_rfl) (by kernel_rfl) (fun _ _ _ h => h) (Or.inl ⟨by rfl, ?_⟩) hHeld ?_
      · (intro w' hSw; (try dsimp only at hSw); obtain ⟨s2, s3⟩ := HS.out w' hSw; clear hSw; go_simp; (try with_reducible rfl))
      try simp only [Act.put, uSa, uSb, uSc]
      refine wpAnyH_take (i := 16) (oi := ({ dst := some 21, op := Op.assign (Operand.tmp 106), type := 4, pos := "ref.go:140", after := #[gD 13, { on := 15, ground := Ground.chain }, gP 0, gP 1, gP 2, gP 3, gP 4, gP 5, gP 6, gP 7, gP 8, gP 9, gP 10, gP 11, gP 12, gP 13, gP 14, gP 15], guard := none } : Oper)) (v := .bool false) rfl (by kernel_rfl) (by kernel_rfl) (by kernel_rfl) (fun _ _ _ h => h) (Or.inl ⟨by rfl, ?_⟩) hHeld ?_
      · (intro w' hSw; (try dsimp only at hSw); obtain ⟨s2, s3⟩ := HS.out w' hSw; clear hSw; go_simp; (try with_reducible rfl))
      try simp only [Act.put, uSa, uSb, uSc]
      refine wpAnyH_done (by kernel_rfl) ?_ _
      clear hHeld
      have HB : Hid (Blk _ (w.heap.size + 1) 30 (contC ⟨2, Rc.zero, Pxl.zero, 0, 0, 0, []⟩ (.slice none 0 0))) := Lib.hid Hl4.out.loc
      have Hth := Lib.hid (Hl4.out.res.there 0 13 (by simp))
      go_wp2_with (first | ((with_reducible refine wpList_load_row ?g_6 30 ?x_6 ?o_6 (w.heap.size + 1) ?h_6 ?t_6 ?c_6 ?f_6 ?d_6 ?b_6 ?u_6 ?s_6 ?i_6 ?r_6); (case g_6 | o_6 | h_6 => exact rfl); (case b_6 => exact HB.out); (case u_6 => exact Try.underlying30); (case s_6 => exact rfl); (case i_6 => exact size_content.trans (by simp [contC]))) | ((with_reducible refine wpList_store_mid ?g2_6 30 ?x2_6 ?y_6 ?o2_6 w.heap.size 0 (contC ⟨2, Rc.zero, Pxl.zero, 0, 0, 0, []⟩ (.slice none 0 0)) ?h2_6 ?j_6 ?t2_6 ?i2_6 ?s2_6 ?r2_6); (case g2_6 | o2_6 | h2_6 | j_6 => exact rfl); (case t2_6 => exact Hth.out); (case i2_6 => exact size_content.trans (by simp [contC])); (case s2_6 => exact contC_one _ _ _ _)) | fail)
      have hd := RLoc.done (cs := contC ⟨2, Rc.zero, Pxl.zero, 0, 0, 0, []⟩ (.slice none 0 0)) Hl4.out rfl
      refine bodyPost_ret (v := .tuple #[.agg (contC ⟨2, Rc.zero, Pxl.zero, 0, 0, 0, []⟩ (.slice none 0 0)), .int .i64 0, .bool false]) (results_content _ _ w.heap.size (contC ⟨2, Rc.zero, Pxl.zero, 0, 0, 0, []⟩ (.slice none 0 0)) rfl _ _ rfl rfl rfl hd.2.1) rfl ?_
      exact ct_fail Hno.out hd.1 _
    rw [if_pos hlen] at hp
    obtain ⟨ps, p4, c4, hps, hpl, rfl, hown⟩ := hp
    have Hres : Hid (contentAt bs n = some (⟨2, ⟨a1, a2, 0, 0⟩, Pxl.zero, a3, a4, a5, ps.map Pxl.of⟩, q2 + 4 * k)) := Lib.hid (by rw [Hct.out, if_pos hlen, hps]; rfl)
    have Hown := Lib.hid hown
    have Hpl := Lib.hid hpl
    have Hs4 : Hid (w.heap.size + 2 ≤ w3.heap.size) := Lib.hid (by have := Hl3.out.loc.lt; omega)
    clear hlen hps hown hpl
    refine hK _ _ M4.out (fun hHeld => ?_)
    clear hK K9
    try simp only [Act.put, uSa, uSb, uSc]
    refine wpAnyH_take (i := 10) (oi := ({ dst := some 93, op := Op.move (Operand.tmp 103), type := 122, pos := "ref.go:140", after := #[gD 9], guard := none } : Oper)) (v := .tuple #[.slice p4 k c4, .int .i64 (q2 + 4 * k : Nat), .bool true]) rfl (by kernel_rfl) (by kernel_rfl) (by kernel_rfl) (fun _ _ _ h => h) (Or.inl ⟨by rfl, ?_⟩) hHeld ?_
    · (intro w' hSw; (try dsimp only at hSw); obtain ⟨s2, s3⟩ := HS.out w' hSw; clear hSw; go_simp; (try with_reducible rfl))
    try simp only [Act.put, uSa, uSb, uSc]
    refine wpAnyH_take (i := 11) (oi := ({ dst := some 104, op := Op.extract (Operand.tmp 93) 0, type := 28, pos := "ref.go:140", after := #[gD 10], guard := none } : Oper)) (v := .slice p4 k c4) rfl (by kernel_rfl) (by kernel_rfl) (by kernel_rfl) (fun _ _ _ h => h) (Or.inl ⟨by rfl, ?_⟩) hHeld ?_
    · (intro w' hSw; (try dsimp only at hSw); obtain ⟨s2, s3⟩ := HS.out w' hSw; clear hSw; go_simp; (try with_reducible rfl))
    try simp only [Act.put, uSa, uSb, uSc]
    refine wpAnyH_take (i := 12) (oi := ({ dst := some 105, op := Op.extract (Operand.tmp 93) 1, type := 3, pos := "ref.go:140", after := #[gD 10, { on := 14, ground := Ground.gcOnly Departure.lateStores }], guard := none } : Oper)) (v := .int .i64 (q2 + 4 * k : Nat)) rfl (by kernel_rfl) (by kernel_rfl) (by kernel_rfl) (fun _ _ _ h => h) (Or.inl ⟨by rfl, ?_⟩) hHeld ?_
    · (intro w' hSw; (try dsimp only at hSw); obtain ⟨s2, s3⟩ := HS.out w' hSw; clear hSw; go_simp; (try with_reducible rfl))
    try simp only [Act.put, uSa, uSb, uSc]
    refine wpAnyH_take (i := 13) (oi := ({ dst := some 106, op := Op.extract (Operand.tmp 93) 2, type := 4, pos := "ref.go:140", after := #[gD 10, { on := 15, ground := Ground.gcOnly Departure.lateStores }], guard := none } : Oper)) (v := .bool true) rfl (by kernel_rfl) (by kernel_rfl) (by kernel_rfl) (fun _ _ _ h => h) (Or.inl ⟨by rfl, ?_⟩) hHeld ?_
    · (intro w' hSw; (try dsimp only at hSw); obtain ⟨s2, s3⟩ := HS.out w' hSw; clear hSw; go_simp; (try with_reducible rfl))
    try simp only [Act.put, uSa, uSb, uSc]
    refine wpAnyH_take (i := 14) (oi := ({ dst := some 19, op := Op.assign (Operand.tmp 104), type := 28, pos := "ref.go:140", after := #[gD 11, { on := 9, ground := Ground.chain }, gP 0, gP 1, gP 2, gP 3, gP 4, gP 5, gP 6, gP 7, gP 8, gP 9, gP 10, gP 11, { on := 12, ground := Ground.textOnly Departure.lateStores }, { on := 13, ground := Ground.textOnly Departure.lateStores }], guard := none } : Oper)) (v := .slice p4 k c4) rfl (by kernel_rfl) (by kernel_rfl) (by kernel_rfl) (fun _ _ _ h => h) (Or.inl ⟨by rfl, ?_⟩) hHeld ?_
    · (intro w' hSw; (try dsimp only at hSw); obtain ⟨s2, s3⟩ := HS.out w' hSw; clear hSw; go_simp; (try with_reducible rfl))
    try simp only [Act.put, uSa, uSb, uSc]
    refine wpAnyH_take (i := 15) (oi := ({ dst := some 20, op := Op.assign (Operand.tmp 105), type := 3, pos := "ref.go:140", after := #[gD 12, { on := 14, ground := Ground.chain }, gP 0, gP 1, gP 2, gP 3, gP 4, gP 5, gP 6, gP 7, gP 8, gP 9, gP 10, gP 11, gP 12, { on := 13, ground := Ground.textOnly Departure.lateStores }, gP 14], guard := none } : Oper)) (v := .int .i64 (q2 + 4 * k : Nat)) rfl (by kernel_rfl) (by kernel_rfl) (by kernel_rfl) (fun _ _ _ h => h) (Or.inl ⟨by rfl, ?_⟩) hHeld ?_
    · (intro w' hSw; (try dsimp only at hSw); obtain ⟨s2, s3⟩ := HS.out w' hSw; clear hSw; go_simp; (try with_reducible rfl))
    try simp only [Act.put, uSa, uSb, uSc]
    refine wpAnyH_take (i := 16) (oi := ({ dst := some 21, op := Op.assign (Operand.tmp 106), type := 4, pos := "ref.go:140", after := #[gD 13, { on := 15, ground := Ground.chain }, gP 0, gP 1, gP 2, gP 3, gP 4, gP 5, gP 6, gP 7, gP 8, gP 9, gP 10, gP 11, gP 12, gP 13, gP 14, gP 15], guard := none } : Oper)) (v := .bool true) rfl (by kernel_rfl) (by kernel_rfl) (by kernel_rfl) (fun _ _ _ h => h) (Or.inl ⟨by rfl, ?_⟩) hHeld ?_
    · (intro w' hSw; (try dsimp only at hSw); obtain ⟨s2, s3⟩ := HS.out w' hSw; clear hSw; go_simp; (try with_reducible rfl))
    try simp only [Act.put, uSa, uSb, uSc]
    refine wpAnyH_done (by kernel_rfl) ?_ _
    clear hHeld
    have e0 : w4.cell? ⟨g2, 0, none⟩ = some (.int .i64 a1) := (M4.out.cell (p := ⟨g2, 0, none⟩) Hg1.out (fun h => h)).trans hc0
    have e1 : w4.cell? ⟨g2, 1, none⟩ = some (.int .i64 a2) := (M4.out.cell (p := ⟨g2, 1, none⟩) Hg1.out (fun h => h)).trans hc1
    have e2 : w4.cell? ⟨g2, 2, none⟩ = some (.int .i64 a3) := (M4.out.cell (p := ⟨g2, 2, none⟩) Hg1.out (fun h => h)).trans hc2
    have e3 : w4.cell? ⟨g2, 3, none⟩ = some (.int .i64 a4) := (M4.out.cell (p := ⟨g2, 3, none⟩) Hg1.out (fun h => h)).trans hc3
    have e4 : w4.cell? ⟨g2, 4, none⟩ = some (.int .i64 a5) := (M4.out.cell (p := ⟨g2, 4, none⟩) Hg1.out (fun h => h)).trans hc4
    have cl1 : w4.cell? ⟨w.heap.size + 1, 1, none⟩ = some (.int .i64 0) := Hl4.out.loc.cell 1 rfl
    have fl1 : w4.frozen? ⟨w.heap.size + 1, 1, none⟩ = false := Hl4.out.loc.frozen 1
    have cl2 : w4.cell? ⟨w.heap.size + 1, 2, none⟩ = some (.int .i64 0) := Hl4.out.loc.cell 2 rfl
    have fl2 : w4.frozen? ⟨w.heap.size + 1, 2, none⟩ = false := Hl4.out.loc.frozen 2
    have cl3 : w4.cell? ⟨w.heap.size + 1, 3, none⟩ = some (.int .i64 0) := Hl4.out.loc.cell 3 rfl
    have fl3 : w4.frozen? ⟨w.heap.size + 1, 3, none⟩ = false := Hl4.out.loc.frozen 3
    have cl4 : w4.cell? ⟨w.heap.size + 1, 4, none⟩ = some (.int .i64 0) := Hl4.out.loc.cell 4 rfl
    have fl4 : w4.frozen? ⟨w.heap.size + 1, 4, none⟩ = false := Hl4.out.loc.frozen 4
    clear hc0 hc1 hc2 hc3 hc4 hm4
    go_wp2_with fail
    refine wp_region_defer (S := fun w' => w' = (w4).drew) 8 ({ dst := none, op := Op.store 25 (Operand.tmp 117) (Operand.tmp 116), type := 0, pos := "ref.go:144", after := #[gD 7, gD 6, gP 0, gP 1, gP 2, gP 3, gP 4, gP 5, gP 6], guard := none } : Oper) rfl (by kernel_rfl) rfl rfl (by kernel_rfl) (by kernel_rfl) rfl (fun hHeld => ?_)
    refine wpAnyH_take (i := 0) (oi := ({ dst := some 110, op := Op.move (Operand.tmp 16), type := 72, pos := "ref.go:144", after := #[], guard := none } : Oper)) (v := .slice (some ⟨g2, 0, none⟩) 5 c) rfl (by kernel_rfl) (by kernel_rfl) (by kernel_rfl) (fun _ _ _ h => h) (Or.inl ⟨by rfl, ?_⟩) hHeld ?_
    · (intro w' hSw; (try dsimp only at hSw); subst hSw; clear hHeld; go_simp; (try with_reducible rfl))
    try simp only [Act.put, uSa, uSb, uSc]
    refine wpAnyH_take (i := 1) (oi := ({ dst := some 111, op := Op.indexAddr 72 (Operand.tmp 110) (Operand.const (Value.int IntKind.i64 0)), type := 0, pos := "ref.go:144", after := #[gD 0], guard := none } : Oper)) (v := .pointer (some ⟨g2, 0, none⟩)) rfl (by kernel_rfl) (by kernel_rfl) (by kernel_rfl) (fun _ _ _ h => h) (Or.inl ⟨by rfl, ?_⟩) hHeld ?_
    · (intro w' hSw; (try dsimp only at hSw); subst hSw; clear hHeld; go_simp; (try with_reducible rfl))
    try simp only [Act.put, uSa, uSb, uSc]
    refine wpAnyH_take (i := 2) (oi := ({ dst := some 112, op := Op.load 3 (Operand.tmp 111), type := 3, pos := "ref.go:144", after := #[gD 1], guard := none } : Oper)) (v := .int .i64 a1) rfl (by kernel_rfl) (by kernel_rfl) (by kernel_rfl) (fun _ _ _ h => h) (Or.inl ⟨by rfl, ?_⟩) hHeld ?_
    · (intro w' hSw; (try dsimp only at hSw); subst hSw; clear hHeld; go_simp; (try with_reducible rfl))
    try simp only [Act.put, uSa, uSb, uSc]
    refine wpAnyH_take (i := 3) (oi := ({ dst := some 113, op := Op.move (Operand.tmp 16), type := 72, pos := "ref.go:144", after := #[], guard := none } : Oper)) (v := .slice (some ⟨g2, 0, none⟩) 5 c) rfl (by kernel_rfl) (by kernel_rfl) (by kernel_rfl) (fun _ _ _ h => h) (Or.inl ⟨by rfl, ?_⟩) hHeld ?_
    · (intro w' hSw; (try dsimp only at hSw); subst hSw; clear hHeld; go_simp; (try with_reducible rfl))
    try simp only [Act.put, uSa, uSb, uSc]
    refine wpAnyH_take (i := 4) (oi := ({ dst := some 114, op := Op.indexAddr 72 (Operand.tmp 113) (Operand.const (Value.int IntKind.i64 1)), type := 0, pos := "ref.go:144", after := #[gD 3], guard := none } : Oper)) (v := .pointer (some ⟨g2, 1, none⟩)) rfl (by kernel_rfl) (by kernel_rfl) (by kernel_rfl) (fun _ _ _ h => h) (Or.inl ⟨by rfl, ?_⟩) hHeld ?_
    · (intro w' hSw; (try dsimp only at hSw); subst hSw; clear hHeld; go_simp; (try with_reducible rfl))
    try simp only [Act.put, uSa, uSb, uSc]
    refine wpAnyH_take (i := 5) (oi := ({ dst := some 115, op := Op.load 3 (Operand.tmp 114), type := 3, pos := "ref.go:144", after := #[gD 4], guard := none } : Oper)) (v := .int .i64 a2) rfl (by kernel_rfl) (by kernel_rfl) (by kernel_rfl) (fun _ _ _ h => h) (Or.inl ⟨by rfl, ?_⟩) hHeld ?_
    · (intro w' hSw; (try dsimp only at hSw); subst hSw; clear hHeld; go_simp; (try with_reducible rfl))
    try simp only [Act.put, uSa, uSb, uSc]
    refine wpAnyH_take (i := 6) (oi := ({ dst := some 116, op := Op.build 25 #[(0, Operand.tmp 112), (1, Operand.tmp 115)], type := 25, pos := "ref.go:144", after := #[gD 2, gD 5], guard := none } : Oper)) (v := .agg #[.int .i64 a1, .int .i64 a2, .int .i64 0, .int .i64 0]) rfl (by kernel_rfl) (by kernel_rfl) (by kernel_rfl) (fun _ _ _ h => h) (Or.inl ⟨by rfl, ?_⟩) hHeld ?_
    · (intro w' hSw; (try dsimp only at hSw); subst hSw; clear hHeld; go_simp; (try with_reducible rfl))
    try simp only [Act.put, uSa, uSb, uSc]
    refine wpAnyH_take (i := 7) (oi := ({ dst := some 117, op := Op.fieldAddr 30 (Operand.tmp 7) 1, type := 0, pos := "ref.go:144", after := #[gP 0, gP 1, gP 2, gP 3, gP 4, gP 5, gP 6], guard := none } : Oper)) (v := .pointer (some ⟨w.heap.size + 1, 1, none⟩)) rfl (by kernel_rfl) (by kernel_rfl) (by kernel_rfl) (fun _ _ _ h => h) (Or.inl ⟨by rfl, ?_⟩) hHeld ?_
    · (intro w' hSw; (try dsimp only at hSw); subst hSw; clear hHeld; go_simp; (try with_reducible rfl))
    try simp only [Act.put, uSa, uSb, uSc]
    refine wpAnyH_take (i := 8) (oi := ({ dst := none, op := Op.assign (Operand.const (Value.bool true)), type := 0, pos := "ref.go:144", after := #[gD 7, gD 6, gP 0, gP 1, gP 2, gP 3, gP 4, gP 5, gP 6], guard := none } : Oper)) (v := .bool true) rfl (by kernel_rfl) (by kernel_rfl) (by kernel_rfl) (fun _ _ _ h => h) (Or.inl ⟨by rfl, ?_⟩) hHeld ?_
    · (intro w' hSw; clear hSw hHeld; go_simp; (try with_reducible rfl))
    try simp only [Act.put, uSa, uSb, uSc]
    refine wpAnyH_done (by kernel_rfl) ?_ _
    clear hHeld
    show Oper.wp _ _ _ _ _ _
    go_simp
    have m5 : Gou.Mod (fun k => k = w.heap.size + 1) w4 ((((w4.setCell ⟨w.heap.size + 1, 1, none⟩ (.int .i64 a1)).setCell ⟨w.heap.size + 1, 2, none⟩ (.int .i64 a2)).setCell ⟨w.heap.size + 1, 3, none⟩ (.int .i64 0)).setCell ⟨w.heap.size + 1, 4, none⟩ (.int .i64 0)).drew := (Gou.Blk.setMod w4 (w.heap.size + 1) 1 [.int .i64 a1, .int .i64 a2, .int .i64 0, .int .i64 0]).trans' (Gou.Mod.drew _ _)
    have hl5 : RLoc w 30 CtZ (contC ⟨2, ⟨a1, a2, 0, 0⟩, Pxl.zero, 0, 0, 0, []⟩ (.slice none 0 0)) ((((w4.setCell ⟨w.heap.size + 1, 1, none⟩ (.int .i64 a1)).setCell ⟨w.heap.size + 1, 2, none⟩ (.int .i64 a2)).setCell ⟨w.heap.size + 1, 3, none⟩ (.int .i64 0)).setCell ⟨w.heap.size + 1, 4, none⟩ (.int .i64 0)).drew := (Hl4.out.puts 1 [.int .i64 a1, .int .i64 a2, .int .i64 0, .int .i64 0]).next (Gou.Mod.drew _ _)
    clear e0 e1 cl1 fl1 cl2 fl2 cl3 fl3 cl4 fl4
    have hW5 : ∃ w5, w5 = ((((w4.setCell ⟨w.heap.size + 1, 1, none⟩ (.int .i64 a1)).setCell ⟨w.heap.size + 1, 2, none⟩ (.int .i64 a2)).setCell ⟨w.heap.size + 1, 3, none⟩ (.int .i64 0)).setCell ⟨w.heap.size + 1, 4, none⟩ (.int .i64 0)).drew := ⟨_, rfl⟩
    obtain ⟨w5, hW5⟩ := hW5
    rw [← hW5] at m5 hl5 ⊢
    clear hW5
    have hg4 : g2 < w4.heap.size := Nat.lt_of_lt_of_le Hg1.out M4.out.size
    have d2 : w5.cell? ⟨g2, 2, none⟩ = some (.int .i64 a3) := (m5.cell (p := ⟨g2, 2, none⟩) hg4 hn2.symm).trans e2
    have d3 : w5.cell? ⟨g2, 3, none⟩ = some (.int .i64 a4) := (m5.cell (p := ⟨g2, 3, none⟩) hg4 hn2.symm).trans e3
    have d4 : w5.cell? ⟨g2, 4, none⟩ = some (.int .i64 a5) := (m5.cell (p := ⟨g2, 4, none⟩) hg4 hn2.symm).trans e4
    have cl9 : w5.cell? ⟨w.heap.size + 1, 9, none⟩ = some (.int .i64 0) := hl5.loc.cell 9 rfl
    have fl9 : w5.frozen? ⟨w.heap.size + 1, 9, none⟩ = false := hl5.loc.frozen 9
    have cl10 : w5.cell? ⟨w.heap.size + 1, 10, none⟩ = some (.int .i64 0) := hl5.loc.cell 10 rfl
    have fl10 : w5.frozen? ⟨w.heap.size + 1, 10, none⟩ = false := hl5.loc.frozen 10
    have cl11 : w5.cell? ⟨w.heap.size + 1, 11, none⟩ = some (.int .i64 0) := hl5.loc.cell 11 rfl
    have fl11 : w5.frozen? ⟨w.heap.size + 1, 11, none⟩ = false := hl5.loc.frozen 11
    have cl12 : w5.cell? ⟨w.heap.size + 1, 12, none⟩ = some (.slice none 0 0) := hl5.loc.cell 12 rfl
    have fl12 : w5.frozen? ⟨w.heap.size + 1, 12, none⟩ = false := hl5.loc.frozen 12
    have Hm5 := Lib.hid m5
    have Hl6 : Hid (RLoc w 30 CtZ (contC ⟨2, ⟨a1, a2, 0, 0⟩, Pxl.zero, a3, a4, a5, ps.map Pxl.of⟩ (.slice p4 k c4)) ((((w5.setCell ⟨w.heap.size + 1, 9, none⟩ (.int .i64 a3)).setCell ⟨w.heap.size + 1, 10, none⟩ (.int .i64 a4)).setCell ⟨w.heap.size + 1, 11, none⟩ (.int .i64 a5)).setCell ⟨w.heap.size + 1, 12, none⟩ (.slice p4 k c4))) := Lib.hid (hl5.puts 9 [.int .i64 a3, .int .i64 a4, .int .i64 a5, .slice p4 k c4])
    have hm6 : Gou.Mod (fun b => b = w.heap.size + 1) w5 ((((w5.setCell ⟨w.heap.size + 1, 9, none⟩ (.int .i64 a3)).setCell ⟨w.heap.size + 1, 10, none⟩ (.int .i64 a4)).setCell ⟨w.heap.size + 1, 11, none⟩ (.int .i64 a5)).setCell ⟨w.heap.size + 1, 12, none⟩ (.slice p4 k c4)) := Gou.Blk.setMod w5 (w.heap.size + 1) 9 [.int .i64 a3, .int .i64 a4, .int .i64 a5, .slice p4 k c4]
    have Hm6 := Lib.hid hm6
    clear hl5 m5 e2 e3 e4 hm6
    have HB : Hid (Blk _ (w.heap.size + 1) 30 (contC ⟨2, ⟨a1, a2, 0, 0⟩, Pxl.zero, a3, a4, a5, ps.map Pxl.of⟩ (.slice p4 k c4))) := Lib.hid Hl6.out.loc
    have Hth := Lib.hid (Hl6.out.res.there 0 13 (by simp))
    go_wp2_with (first | ((with_reducible refine wpList_load_row ?g_5 30 ?x_5 ?o_5 (w.heap.size + 1) ?h_5 ?t_5 ?c_5 ?f_5 ?d_5 ?b_5 ?u_5 ?s_5 ?i_5 ?r_5); (case g_5 | o_5 | h_5 => exact rfl); (case b_5 => exact HB.out); (case u_5 => exact Try.underlying30); (case s_5 => exact rfl); (case i_5 => exact size_content.trans (by simp [contC]))) | ((with_reducible refine wpList_store_mid ?g2_5 30 ?x2_5 ?y_5 ?o2_5 w.heap.size 0 (contC ⟨2, ⟨a1, a2, 0, 0⟩, Pxl.zero, a3, a4, a5, ps.map Pxl.of⟩ (.slice p4 k c4)) ?h2_5 ?j_5 ?t2_5 ?i2_5 ?s2_5 ?r2_5); (case g2_5 | o2_5 | h2_5 | j_5 => exact rfl); (case t2_5 => exact Hth.out); (case i2_5 => exact size_content.trans (by simp [contC])); (case s2_5 => exact contC_one _ _ _ _)) | fail)
    have hd := RLoc.done (cs := contC ⟨2, ⟨a1, a2, 0, 0⟩, Pxl.zero, a3, a4, a5, ps.map Pxl.of⟩ (.slice p4 k c4)) Hl6.out rfl
    refine bodyPost_ret (v := .tuple #[.agg (contC ⟨2, ⟨a1, a2, 0, 0⟩, Pxl.zero, a3, a4, a5, ps.map Pxl.of⟩ (.slice p4 k c4)), .int .i64 (q2 + 4 * k : Nat), .bool true]) (results_content _ _ w.heap.size (contC ⟨2, ⟨a1, a2, 0, 0⟩, Pxl.zero, a3, a4, a5, ps.map Pxl.of⟩ (.slice p4 k c4)) rfl _ _ rfl rfl rfl hd.2.1) rfl ?_
    exact content_done Hres.out (by rw [List.length_map]; exact Hpl.out) hd.1 Hown.out Hs4.out ((Hm5.out.imp fun _ _ h => .inl h).trans' ((Hm6.out.imp fun _ _ h => .inl h).trans' (hd.2.2.imp fun _ _ h => .inr h)))
  have t2 : (x == 2) = false := by simpa using hx2
  have Hres : Hid (contentAt bs n = some (⟨x, Rc.zero, Pxl.zero, 0, 0, 0, []⟩, q)) := Lib.hid (by unfold contentAt; rw [Hx.out, Option.bind_some]; simp only; rw [if_neg hx1, if_neg hx2])
  clear hx1 hx2
  have Hl2 : Hid (RLoc w 30 CtZ (contC ⟨x, Rc.zero, Pxl.zero, 0, 0, 0, []⟩ (.slice none 0 0)) (w1.setCell ⟨w.heap.size + 1, 0, none⟩ (.int .i64 x))) := Lib.hid (Hl1.out.put 0 (.int .i64 x))
  have HB : Hid (Blk _ (w.heap.size + 1) 30 (contC ⟨x, Rc.zero, Pxl.zero, 0, 0, 0, []⟩ (.slice none 0 0))) := Lib.hid Hl2.out.loc
  have Hth := Lib.hid (Hl2.out.res.there 0 13 (by simp))
  go_wp2_with (first | ((with_reducible refine wpList_load_row ?g_8 30 ?x_8 ?o_8 (w.heap.size + 1) ?h_8 ?t_8 ?c_8 ?f_8 ?d_8 ?b_8 ?u_8 ?s_8 ?i_8 ?r_8); (case g_8 | o_8 | h_8 => exact rfl); (case b_8 => exact HB.out); (case u_8 => exact Try.underlying30); (case s_8 => exact rfl); (case i_8 => exact size_content.trans (by simp [contC]))) | ((with_reducible refine wpList_store_mid ?g2_8 30 ?x2_8 ?y_8 ?o2_8 w.heap.size 0 (contC ⟨x, Rc.zero, Pxl.zero, 0, 0, 0, []⟩ (.slice none 0 0)) ?h2_8 ?j_8 ?t2_8 ?i2_8 ?s2_8 ?r2_8); (case g2_8 | o2_8 | h2_8 | j_8 => exact rfl); (case t2_8 => exact Hth.out); (case i2_8 => exact size_content.trans (by simp [contC])); (case s2_8 => exact contC_one _ _ _ _)) | fail)
  have hd := RLoc.done (cs := contC ⟨x, Rc.zero, Pxl.zero, 0, 0, 0, []⟩ (.slice none 0 0)) Hl2.out rfl
  refine bodyPost_ret (v := .tuple #[.agg (contC ⟨x, Rc.zero, Pxl.zero, 0, 0, 0, []⟩ (.slice none 0 0)), .int .i64 q, .bool true]) (results_content _ _ w.heap.size (contC ⟨x, Rc.zero, Pxl.zero, 0, 0, 0, []⟩ (.slice none 0 0)) rfl _ _ rfl rfl rfl hd.2.1) rfl ?_
  exact ⟨hd.1, by rw [Hres.out]; exact ⟨none, 0, rfl, PixR.nil _ _⟩⟩

end Go.Proofs.Ytnamnmipgpcjjaa

