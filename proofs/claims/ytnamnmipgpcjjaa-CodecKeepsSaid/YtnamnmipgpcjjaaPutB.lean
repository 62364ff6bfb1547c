/- Acts as bytes: an act's bytes, or none. -/
import Derived.Test.YtnamnmipgpcjjaaPutA
namespace Go.Gou
open Go.RowKit

theorem BytesAt.of_own {w : World} {base : Nat} {e : TypeId} {v : Value} {bs : List Nat} (h : w.ownsRow base e 1 v bs.length (u8s bs)) : BytesAt (fun _ => True) w v bs := by
  have hlt := h.lt
  obtain ⟨hl, h⟩ := h
  rcases h with ⟨rfl, h0⟩ | ⟨g, cap, cur, rfl, hg, hh, hn, _, _, ht⟩
  · obtain rfl := List.length_eq_zero_iff.1 h0
    exact ⟨none, 0, rfl, Nat.le_refl _, .inl rfl⟩
  · refine ⟨_, cap, rfl, hn, .inr ⟨g, 0, rfl, (hlt g rfl).2, trivial, fun j hj => ?_⟩⟩
    rw [Nat.zero_add, cell_of_row w g j cur e (0, 0) hh]
    have : cur.toList[j]? = (u8s bs)[j]? := by rw [← ht, List.getElem?_take, if_pos (by omega)]
    rw [← Array.getElem?_toList, this]
    simp [hj]

end Go.Gou
namespace Go.Proofs.Ytnamnmipgpcjjaa
open Go.RowKit Go.Gou

set_option linter.constructorNameAsVariable false

/-- What Put comes to. -/
def PutP (w : World) (res : Option (List Nat)) (e : Ending) (w' : World) : Prop :=
  Gou.Mod (fun _ => False) w w' ∧ match res with
    | some bs => ∃ v, e = .returned (.tuple #[v, .int .i64 0]) ∧ w'.ownsRow w.heap.size 5 1 v bs.length (u8s bs)
    | none => e = .returned (.tuple #[.slice none 0 0, .int .i64 1])

theorem run_sliceVar (w : World) (o : Nat) (p : Option Addr) (n c : Nat) (h : w.cell? ⟨o, 0, none⟩ = some (.slice p n c)) : (loadVar 44 ⟨o, 0, none⟩).run Try.prog w = .ok (.slice p n c) w := by simp [go_sem, h]
theorem run_errVar (w : World) (o : Nat) (n : Int) (h : w.cell? ⟨o, 0, none⟩ = some (.int .i64 n)) : (loadVar 45 ⟨o, 0, none⟩).run Try.prog w = .ok (.int .i64 n) w := by simp [go_sem, h]

/-- The act's box, the result's two, and what was stays. -/
structure PutIn (w : World) (ac : Array Value) (w' : World) : Prop where
  mod : Gou.Mod (fun _ => False) w w'
  act : Blk w' w.heap.size 41 ac
  out : Blk w' (w.heap.size + 1) 44 #[.slice none 0 0]
  err : Blk w' (w.heap.size + 1 + 1) 45 #[.int .i64 0]

theorem PutIn.next {w : World} {ac : Array Value} {w1 w2 : World} {S : Nat → Prop} (h : PutIn w ac w1) (hm : Gou.Mod S w1 w2) (hS : ∀ k, S k → w.heap.size + 1 + 1 < k) : PutIn w ac w2 :=
  ⟨h.mod.trans hm fun i hi hs => by have := hS i hs; omega, h.act.mod hm fun hs => by have := hS _ hs; omega, h.out.mod hm fun hs => by have := hS _ hs; omega, h.err.mod hm fun hs => by have := hS _ hs; omega⟩

theorem putIn_start (w : World) (ac : Array Value) : PutIn w ac (((w.alloc (.cells ac 41)).alloc (.cells #[.slice none 0 0] 44)).alloc (.cells #[.int .i64 0] 45)) := by
  refine ⟨((Gou.Mod.alloc _ _ _).trans' (Gou.Mod.alloc _ _ _)).trans' (Gou.Mod.alloc _ _ _), ?_, ?_, ?_⟩
  · exact ((show Blk (w.alloc (.cells ac 41)) w.heap.size 41 _ from heap_alloc_new w _).mod (Gou.Mod.alloc (fun _ => False) _ _) (fun h => h)).mod (Gou.Mod.alloc (fun _ => False) _ _) (fun h => h)
  · have h1 : Blk ((w.alloc (.cells ac 41)).alloc (.cells #[.slice none 0 0] 44)) (w.heap.size + 1) 44 #[.slice none 0 0] := by
      have := heap_alloc_new (w.alloc (.cells ac 41)) (.cells #[.slice none 0 0] 44)
      rw [World.size_alloc] at this
      exact this
    exact h1.mod (Gou.Mod.alloc (fun _ => False) _ _) (fun h => h)
  · have := heap_alloc_new ((w.alloc (.cells ac 41)).alloc (.cells #[.slice none 0 0] 44)) (.cells #[.int .i64 0] 45)
    rw [World.size_alloc, World.size_alloc] at this
    exact this

/-- A fault is caught: no bytes. -/
theorem put_none {w w1 : World} {ac : Array Value} (h : PutIn w ac w1) (older : List PanicEntry) {res : Option (List Nat)} (hr : res = none) (fn : Func) (tmps : Array Value) (hf : fn.results = #[.cell 2 44, .cell 3 45]) (h2 : tmps.getD 2 undef = .pointer (some ⟨w.heap.size + 1, 0, none⟩)) (h3 : tmps.getD 3 undef = .pointer (some ⟨w.heap.size + 1 + 1, 0, none⟩)) :
    Leaves Try.prog fn tmps (PutP w res) [{ target := .fn (.func 19) #[.pointer (some ⟨w.heap.size + 1, 0, none⟩), .pointer (some ⟨w.heap.size + 1 + 1, 0, none⟩)], args := #[] }] (.panicking ({ v := .iface 84 (.agg #[]), recovered := false } :: [])) w1 := by
  refine leaves_cons (f := 19) (args := #[.pointer (some ⟨w.heap.size + 1, 0, none⟩), .pointer (some ⟨w.heap.size + 1 + 1, 0, none⟩)]) (by simp) (by simp [go_sem]) ?_
  refine (put_caught _ _ _ _ w w1 _ h.mod h.out h.err (by omega) (by omega) (by omega)).mono ?_
  rintro e u' w2 ⟨rfl, rfl, hm, hO, hE⟩
  have hlO := run_sliceVar _ _ _ _ _ (hO.cell 0 rfl)
  have hlE := run_errVar _ _ _ (hE.cell 0 rfl)
  refine ⟨.tuple #[.slice none 0 0, .int .i64 1], ?_, hm, by subst hr; rfl⟩
  exact results_two hf _ _ _ _ _ _ h2 h3 hlO hlE

set_option maxRecDepth 100000 in
set_option maxHeartbeats 4000000 in
theorem put_any (w : World) (p1 p2 p3 : Option Addr) (k1 k2 k3 : Nat) (a : Ac) (hx : LookR (fun _ => True) w a.op.look (.slice p1 a.op.look.content.pix.length k1) (.slice p2 a.op.look.filt.nodes.length k2) (.slice p3 a.op.look.back.nodes.length k3)) (hb : LookBorne a.op.look) (hs : PxSmall a.op.look.content) :
    Calls Try.prog 11 #[.agg (actC a (.slice p1 a.op.look.content.pix.length k1) (.slice p2 a.op.look.filt.nodes.length k2) (.slice p3 a.op.look.back.nodes.length k3))] w (PutP w (putOf a)) := by
  have H := Lib.hid (putIn_start w (actC a (.slice p1 a.op.look.content.pix.length k1) (.slice p2 a.op.look.filt.nodes.length k2) (.slice p3 a.op.look.back.nodes.length k3)))
  have HB := Lib.hid hb
  have HS := Lib.hid hs
  have Hx := Lib.hid (hx.imp (G' := fun b => b < w.heap.size) fun k hk _ => hk)
  have Hsz : Hid (((((w.alloc (.cells (actC a (.slice p1 a.op.look.content.pix.length k1) (.slice p2 a.op.look.filt.nodes.length k2) (.slice p3 a.op.look.back.nodes.length k3)) 41)).alloc (.cells #[.slice none 0 0] 44)).alloc (.cells #[.int .i64 0] 45))).heap.size = w.heap.size + 1 + 1 + 1) := Lib.hid (by simp)
  clear hb hs hx
  have H1 : Hid (PutIn w (actC a (.slice p1 a.op.look.content.pix.length k1) (.slice p2 a.op.look.filt.nodes.length k2) (.slice p3 a.op.look.back.nodes.length k3)) ((((w.alloc (.cells (actC a (.slice p1 a.op.look.content.pix.length k1) (.slice p2 a.op.look.filt.nodes.length k2) (.slice p3 a.op.look.back.nodes.length k3)) 41)).alloc (.cells #[.slice none 0 0] 44)).alloc (.cells #[.int .i64 0] 45)).alloc (.cells #[.slice none 0 0] 65))) := Lib.hid (H.out.next (S := fun _ => False) (Gou.Mod.alloc _ _ _) (fun _ h => h.elim))
  have Ha := Lib.hid H1.out.act
  have HW : Hid (Wr ((((w.alloc (.cells (actC a (.slice p1 a.op.look.content.pix.length k1) (.slice p2 a.op.look.filt.nodes.length k2) (.slice p3 a.op.look.back.nodes.length k3)) 41)).alloc (.cells #[.slice none 0 0] 44)).alloc (.cells #[.int .i64 0] 45)).alloc (.cells #[.slice none 0 0] 65)) (w.heap.size + 1 + 1 + 1) [] (.slice none 0 0)) := Lib.hid ⟨by
    have := heap_alloc_new ((((w.alloc (.cells (actC a (.slice p1 a.op.look.content.pix.length k1) (.slice p2 a.op.look.filt.nodes.length k2) (.slice p3 a.op.look.back.nodes.length k3)) 41)).alloc (.cells #[.slice none 0 0] 44)).alloc (.cells #[.int .i64 0] 45))) (.cells #[.slice none 0 0] 65)
    rw [Hsz.out] at this
    exact this, ⟨rfl, .inl ⟨rfl, rfl⟩⟩⟩
  have Hl : Hid (LookR (fun b => b < (w.heap.size + 1 + 1 + 1)) ((((w.alloc (.cells (actC a (.slice p1 a.op.look.content.pix.length k1) (.slice p2 a.op.look.filt.nodes.length k2) (.slice p3 a.op.look.back.nodes.length k3)) 41)).alloc (.cells #[.slice none 0 0] 44)).alloc (.cells #[.int .i64 0] 45)).alloc (.cells #[.slice none 0 0] 65)) a.op.look (.slice p1 a.op.look.content.pix.length k1) (.slice p2 a.op.look.filt.nodes.length k2) (.slice p3 a.op.look.back.nodes.length k3)) := Lib.hid ((Hx.out.mod H1.out.mod (fun _ _ _ h => h)).imp fun k _ hk => by omega)
  go_enter_defers Try.func11, Try.ntmps11
  go_wp2_with (first | ((with_reducible refine wpList_load_row ?g1_1 41 ?x1_1 ?o1_1 w.heap.size ?h1_1 ?t1_1 ?c1_1 ?f1_1 ?d1_1 ?b1_1 ?u1_1 ?s1_1 ?i1_1 ?r1_1); (case g1_1 => exact rfl); (case o1_1 => exact rfl); (case h1_1 => exact rfl); (case b1_1 => exact Ha.out); (case u1_1 => exact Try.underlying41); (case s1_1 => exact rfl); (case i1_1 => exact size_act.trans (by simp [actC]))) | fail)
  refine (wact_any _ (w.heap.size + 1 + 1 + 1) [] (.slice none 0 0) p1 k1 p2 k2 p3 k3 a HW.out Hl.out (by simp)).mono ?_
  rintro e w2 ⟨vs, t2, h2⟩
  have H2 : Hid (PutIn w (actC a (.slice p1 a.op.look.content.pix.length k1) (.slice p2 a.op.look.filt.nodes.length k2) (.slice p3 a.op.look.back.nodes.length k3)) w2) := Lib.hid (H1.out.next t2.mod (fun k hk => by
    rcases hk with rfl | hk
    · omega
    · cases hk))
  rcases he : encAct a with _ | es
  · rw [he] at h2
    subst h2
    have Hno : Hid (putOf a = none) := Lib.hid (by unfold putOf; rw [he]; rfl)
    clear t2 he
    go_wp2_with fail
    exact put_none H2.out [] Hno.out _ _ rfl rfl rfl
  rw [he] at h2
  obtain ⟨rfl, hw2⟩ := h2
  rw [List.nil_append] at hw2
  have Hw2 := Lib.hid hw2
  have Hfi := Lib.hid (encAct_fine he HS.out)
  have He := Lib.hid he
  obtain ⟨pv, cv, rfl⟩ := Gou.ownsRow_form hw2.own
  have cb := hw2.box.cell 0 rfl
  have hBlt := Blk.lt hw2.box
  have Hrd : Hid (RdAt (w2.alloc (.cells #[.slice pv es.length cv, .int .i64 0] 69)) w2.heap.size (.slice pv es.length cv) es 0) := Lib.hid (RdAt.make (BytesAt.of_own hw2.own) Hfi.out.2 (by have := Hfi.out.1; unfold maxLen; omega))
  have H3 : Hid (PutIn w (actC a (.slice p1 a.op.look.content.pix.length k1) (.slice p2 a.op.look.filt.nodes.length k2) (.slice p3 a.op.look.back.nodes.length k3)) (w2.alloc (.cells #[.slice pv es.length cv, .int .i64 0] 69))) := Lib.hid (H2.out.next (S := fun _ => False) (Gou.Mod.alloc _ _ _) (fun _ h => h.elim))
  have Hw3 : Hid (Wr (w2.alloc (.cells #[.slice pv es.length cv, .int .i64 0] 69)) (w.heap.size + 1 + 1 + 1) es (.slice pv es.length cv)) := Lib.hid (hw2.alloc _)
  have Hs3 : Hid (w2.heap.size < (w2.alloc (.cells #[.slice pv es.length cv, .int .i64 0] 69)).heap.size) := Lib.hid (by simp)
  have hvlt := hw2.own.lt
  have Hvlt := Lib.hid hvlt
  clear hvlt hw2 t2 he
  go_wp2_with fail
  generalize hW3 : w2.alloc (.cells #[.slice pv es.length cv, .int .i64 0] 69) = w3 at *
  clear hW3 cb
  have Ha3 : Hid (Blk w3.drew w.heap.size 41 (actC a (.slice p1 a.op.look.content.pix.length k1) (.slice p2 a.op.look.filt.nodes.length k2) (.slice p3 a.op.look.back.nodes.length k3))) := Lib.hid H3.out.act
  refine wp_region_any (by kernel_rfl) ?_
  try (change wpAny _ _ _ _ _ _ _ (World.drew _))
  refine wpAny_ready (rs := [0, 2]) (by kernel_rfl) (by simp) ?_
  refine AllReady.cons rfl (fun K hK => ?_) (AllReady.cons rfl (fun K hK => ?_) AllReady.nil)
  · go_simp
    refine hK _ _ ?_
    clear hK K
    refine wpAny_ready (rs := [1, 2]) (by kernel_rfl) (by simp) ?_
    refine AllReady.cons rfl (fun K hK => ?_) (AllReady.cons rfl (fun K hK => ?_) AllReady.nil)
    · go_simp
      refine (act_any w3.drew w2.heap.size (.slice pv es.length cv) es 0 Hrd.out.drew).mono ?_
      rintro e w4 ⟨hm4, h4⟩
      have H4 : Hid (PutIn w (actC a (.slice p1 a.op.look.content.pix.length k1) (.slice p2 a.op.look.filt.nodes.length k2) (.slice p3 a.op.look.back.nodes.length k3)) w4) := Lib.hid (H3.out.next ((Gou.Mod.drew (fun k => k = w2.heap.size) w3).trans' hm4) (fun k hk => by subst hk; omega))
      have Hw4 : Hid (Wr w4 (w.heap.size + 1 + 1 + 1) es (.slice pv es.length cv)) := Lib.hid (Hw3.out.other ((Gou.Mod.drew (fun k => k = w2.heap.size) w3).trans' hm4) (by omega) (fun k hk e => by subst e; have := (Hvlt.out _ hk).2; omega))
      rcases hn : actAt es 0 with _ | ⟨x, m⟩
      · rw [hn] at h4
        obtain ⟨rfl, _⟩ := h4
        have Hno : Hid (putOf a = none) := Lib.hid (by unfold putOf; rw [He.out, Option.bind_some, hn]; rfl)
        exact put_none H4.out [] Hno.out _ _ rfl rfl rfl
      rw [hn] at h4
      obtain ⟨_, rfl, ⟨vp, vf, vb, rfl, hlr, hsoft⟩, hr4⟩ := h4
      obtain ⟨q1, j1, rfl, _⟩ := RowG.form hlr.pix
      obtain ⟨q2, j2, rfl⟩ := hlr.filt.form
      obtain ⟨q3, j3, rfl⟩ := hlr.back.form
      have Hlr := Lib.hid hlr
      have Hn := Lib.hid hn
      have Hbx : Hid (LookBorne x.op.look) := Lib.hid (by
        obtain ⟨_, _, _, _, h, _⟩ := putOf_of_act Hfi.out.2 hn
        exact h)
      have HR4 := Lib.hid (Hx.out.mod H4.out.mod (fun _ _ _ h => h))
      clear hlr hn hr4 hsoft hm4
      refine hK _ _ ?_
      clear hK K
      refine wpAny_ready (rs := [2]) (by kernel_rfl) (by simp) ?_
      refine AllReady.cons rfl (fun K hK => ?_) AllReady.nil
      refine wp_load_mid 41 _ rfl w.heap.size 0 rfl (actC a (.slice p1 a.op.look.content.pix.length k1) (.slice p2 a.op.look.filt.nodes.length k2) (.slice p3 a.op.look.back.nodes.length k3)).toList _ (Blk.range (pre := []) (post := []) H4.out.act (by rw [List.append_nil]; rfl) rfl) Try.underlying41 rfl (size_act.trans (by simp [actC])) ?_
      refine hK _ _ ?_
      clear hK K
      refine wpAny_ready (rs := [3]) (by kernel_rfl) (by simp) ?_
      refine AllReady.cons rfl (fun K3 hK3 => ?_) AllReady.nil
      go_simp
      refine (sameAct_any w4 _ _ q1 q2 q3 p1 p2 p3 j1 j2 j3 k1 k2 k3 x a Hlr.out HR4.out Hbx.out HB.out).mono ?_
      rintro e w5 ⟨rfl, hm5⟩
      have H5 : Hid (PutIn w (actC a (.slice p1 a.op.look.content.pix.length k1) (.slice p2 a.op.look.filt.nodes.length k2) (.slice p3 a.op.look.back.nodes.length k3)) w5) := Lib.hid (H4.out.next hm5 (fun _ h => h.elim))
      have Hw5 : Hid (Wr w5 (w.heap.size + 1 + 1 + 1) es (.slice pv es.length cv)) := Lib.hid (Hw4.out.other hm5 (fun h => h) (fun _ _ h => h))
      clear hm5
      refine hK3 _ _ ?_
      clear hK3 K3
      by_cases hxa : x = a
      · have Hyes : Hid (putOf a = some es) := Lib.hid (by unfold putOf; rw [He.out, Option.bind_some, Hn.out, Option.bind_some, if_pos hxa])
        have hd : decide (x = a) = true := by simp [hxa]
        clear hxa
        generalize decide (x = a) = q at *
        subst hd
        refine wpAny_ready (rs := [4]) (by kernel_rfl) (by simp) ?_
        refine AllReady.cons rfl (fun K3 hK3 => ?_) AllReady.nil
        go_simp
        refine (must_true _).mono ?_
        rintro e w6 ⟨rfl, hww⟩
        obtain rfl : w5 = w6 := hww.symm
        clear hww
        refine hK3 _ _ ?_
        clear hK3 K3
        refine wpAny_done (by kernel_rfl) ?_ _
        have cb := Hw5.out.box.cell 0 rfl
        have cO := H5.out.out.cell 0 rfl
        have fO := H5.out.out.frozen 0
        have hO1 := H5.out.out.set 0 (.slice pv es.length cv)
        have hE1 := H5.out.err.mod (Gou.Mod.setCell w5 ⟨(w.heap.size + 1), 0, none⟩ (.slice pv es.length cv)) (by simp)
        have cE := hE1.cell 0 rfl
        have fE := hE1.frozen 0
        have hE2 := hE1.set 0 (.int .i64 0)
        have hO2 := hO1.mod (Gou.Mod.setCell _ ⟨(w.heap.size + 1 + 1), 0, none⟩ (.int .i64 0)) (by simp)
        have hmm := (H5.out.mod.own ⟨(w.heap.size + 1), 0, none⟩ (.slice pv es.length cv) (by simp)).own ⟨(w.heap.size + 1 + 1), 0, none⟩ (.int .i64 0) (by simp; omega)
        have hown := ownsRow_mod (ownsRow_mod Hw5.out.own (Gou.Mod.setCell w5 ⟨(w.heap.size + 1), 0, none⟩ (.slice pv es.length cv)) (fun k hk e => by have := (Hw5.out.own.lt k hk).1; simp at e; omega)) (Gou.Mod.setCell _ ⟨(w.heap.size + 1 + 1), 0, none⟩ (.int .i64 0)) (fun k hk e => by have := (Hw5.out.own.lt k hk).1; simp at e; omega)
        have HE := Lib.hid (And.intro hO2 (And.intro hE2 (And.intro hmm (ownsRow_low (base' := w.heap.size) hown (by omega)))))
        clear hO1 hE1 hE2 hO2 hmm hown
        go_wp2_with fail
        refine leaves_cons (f := 19) (args := #[.pointer (some ⟨(w.heap.size + 1), 0, none⟩), .pointer (some ⟨(w.heap.size + 1 + 1), 0, none⟩)]) (by simp) (by simp [go_sem]) ?_
        refine (put_idle _ _ _).mono ?_
        rintro e u' w7 ⟨rfl, rfl, rfl⟩
        obtain ⟨hO2, hE2, hmm, hown⟩ := HE.out
        refine ⟨.tuple #[.slice pv es.length cv, .int .i64 0], ?_, hmm, by rw [Hyes.out]; exact ⟨_, rfl, hown⟩⟩
        exact results_two rfl _ _ _ _ _ _ rfl rfl (run_sliceVar _ _ _ _ _ (hO2.cell 0 rfl)) (run_errVar _ _ _ (hE2.cell 0 rfl))
      · have Hno : Hid (putOf a = none) := Lib.hid (by unfold putOf; rw [He.out, Option.bind_some, Hn.out, Option.bind_some, if_neg hxa])
        have hd : decide (x = a) = false := by simp [hxa]
        clear hxa
        generalize decide (x = a) = q at *
        subst hd
        refine wpAny_ready (rs := [4]) (by kernel_rfl) (by simp) ?_
        refine AllReady.cons rfl (fun K3 hK3 => ?_) AllReady.nil
        go_simp
        refine (must_false _).mono ?_
        rintro e w6 ⟨rfl, hww⟩
        obtain rfl : w5 = w6 := hww.symm
        exact put_none H5.out [] Hno.out _ _ rfl rfl rfl
    · refine wp_load_mid 41 _ rfl w.heap.size 0 rfl (actC a (.slice p1 a.op.look.content.pix.length k1) (.slice p2 a.op.look.filt.nodes.length k2) (.slice p3 a.op.look.back.nodes.length k3)).toList _ (Blk.range (pre := []) (post := []) Ha3.out (by rw [List.append_nil]; rfl) rfl) Try.underlying41 rfl (size_act.trans (by simp [actC])) ?_
      refine hK _ _ ?_
      clear hK K
      refine wpAny_ready (rs := [1]) (by kernel_rfl) (by simp) ?_
      refine AllReady.cons rfl (fun K hK => ?_) AllReady.nil
      go_simp
      refine (act_any w3.drew w2.heap.size (.slice pv es.length cv) es 0 Hrd.out.drew).mono ?_
      rintro e w4 ⟨hm4, h4⟩
      have H4 : Hid (PutIn w (actC a (.slice p1 a.op.look.content.pix.length k1) (.slice p2 a.op.look.filt.nodes.length k2) (.slice p3 a.op.look.back.nodes.length k3)) w4) := Lib.hid (H3.out.next ((Gou.Mod.drew (fun k => k = w2.heap.size) w3).trans' hm4) (fun k hk => by subst hk; omega))
      have Hw4 : Hid (Wr w4 (w.heap.size + 1 + 1 + 1) es (.slice pv es.length cv)) := Lib.hid (Hw3.out.other ((Gou.Mod.drew (fun k => k = w2.heap.size) w3).trans' hm4) (by omega) (fun k hk e => by subst e; have := (Hvlt.out _ hk).2; omega))
      rcases hn : actAt es 0 with _ | ⟨x, m⟩
      · rw [hn] at h4
        obtain ⟨rfl, _⟩ := h4
        have Hno : Hid (putOf a = none) := Lib.hid (by unfold putOf; rw [He.out, Option.bind_some, hn]; rfl)
        exact put_none H4.out [] Hno.out _ _ rfl rfl rfl
      rw [hn] at h4
      obtain ⟨_, rfl, ⟨vp, vf, vb, rfl, hlr, hsoft⟩, hr4⟩ := h4
      obtain ⟨q1, j1, rfl, _⟩ := RowG.form hlr.pix
      obtain ⟨q2, j2, rfl⟩ := hlr.filt.form
      obtain ⟨q3, j3, rfl⟩ := hlr.back.form
      have Hlr := Lib.hid hlr
      have Hn := Lib.hid hn
      have Hbx : Hid (LookBorne x.op.look) := Lib.hid (by
        obtain ⟨_, _, _, _, h, _⟩ := putOf_of_act Hfi.out.2 hn
        exact h)
      have HR4 := Lib.hid (Hx.out.mod H4.out.mod (fun _ _ _ h => h))
      clear hlr hn hr4 hsoft hm4
      refine hK _ _ ?_
      clear hK K
      refine wpAny_ready (rs := [3]) (by kernel_rfl) (by simp) ?_
      refine AllReady.cons rfl (fun K3 hK3 => ?_) AllReady.nil
      go_simp
      refine (sameAct_any w4 _ _ q1 q2 q3 p1 p2 p3 j1 j2 j3 k1 k2 k3 x a Hlr.out HR4.out Hbx.out HB.out).mono ?_
      rintro e w5 ⟨rfl, hm5⟩
      have H5 : Hid (PutIn w (actC a (.slice p1 a.op.look.content.pix.length k1) (.slice p2 a.op.look.filt.nodes.length k2) (.slice p3 a.op.look.back.nodes.length k3)) w5) := Lib.hid (H4.out.next hm5 (fun _ h => h.elim))
      have Hw5 : Hid (Wr w5 (w.heap.size + 1 + 1 + 1) es (.slice pv es.length cv)) := Lib.hid (Hw4.out.other hm5 (fun h => h) (fun _ _ h => h))
      clear hm5
      refine hK3 _ _ ?_
      clear hK3 K3
      by_cases hxa : x = a
      · have Hyes : Hid (putOf a = some es) := Lib.hid (by unfold putOf; rw [He.out, Option.bind_some, Hn.out, Option.bind_some, if_pos hxa])
        have hd : decide (x = a) = true := by simp [hxa]
        clear hxa
        generalize decide (x = a) = q at *
        subst hd
        refine wpAny_ready (rs := [4]) (by kernel_rfl) (by simp) ?_
        refine AllReady.cons rfl (fun K3 hK3 => ?_) AllReady.nil
        go_simp
        refine (must_true _).mono ?_
        rintro e w6 ⟨rfl, hww⟩
        obtain rfl : w5 = w6 := hww.symm
        clear hww
        refine hK3 _ _ ?_
        clear hK3 K3
        refine wpAny_done (by kernel_rfl) ?_ _
        have cb := Hw5.out.box.cell 0 rfl
        have cO := H5.out.out.cell 0 rfl
        have fO := H5.out.out.frozen 0
        have hO1 := H5.out.out.set 0 (.slice pv es.length cv)
        have hE1 := H5.out.err.mod (Gou.Mod.setCell w5 ⟨(w.heap.size + 1), 0, none⟩ (.slice pv es.length cv)) (by simp)
        have cE := hE1.cell 0 rfl
        have fE := hE1.frozen 0
        have hE2 := hE1.set 0 (.int .i64 0)
        have hO2 := hO1.mod (Gou.Mod.setCell _ ⟨(w.heap.size + 1 + 1), 0, none⟩ (.int .i64 0)) (by simp)
        have hmm := (H5.out.mod.own ⟨(w.heap.size + 1), 0, none⟩ (.slice pv es.length cv) (by simp)).own ⟨(w.heap.size + 1 + 1), 0, none⟩ (.int .i64 0) (by simp; omega)
        have hown := ownsRow_mod (ownsRow_mod Hw5.out.own (Gou.Mod.setCell w5 ⟨(w.heap.size + 1), 0, none⟩ (.slice pv es.length cv)) (fun k hk e => by have := (Hw5.out.own.lt k hk).1; simp at e; omega)) (Gou.Mod.setCell _ ⟨(w.heap.size + 1 + 1), 0, none⟩ (.int .i64 0)) (fun k hk e => by have := (Hw5.out.own.lt k hk).1; simp at e; omega)
        have HE := Lib.hid (And.intro hO2 (And.intro hE2 (And.intro hmm (ownsRow_low (base' := w.heap.size) hown (by omega)))))
        clear hO1 hE1 hE2 hO2 hmm hown
        go_wp2_with fail
        refine leaves_cons (f := 19) (args := #[.pointer (some ⟨(w.heap.size + 1), 0, none⟩), .pointer (some ⟨(w.heap.size + 1 + 1), 0, none⟩)]) (by simp) (by simp [go_sem]) ?_
        refine (put_idle _ _ _).mono ?_
        rintro e u' w7 ⟨rfl, rfl, rfl⟩
        obtain ⟨hO2, hE2, hmm, hown⟩ := HE.out
        refine ⟨.tuple #[.slice pv es.length cv, .int .i64 0], ?_, hmm, by rw [Hyes.out]; exact ⟨_, rfl, hown⟩⟩
        exact results_two rfl _ _ _ _ _ _ rfl rfl (run_sliceVar _ _ _ _ _ (hO2.cell 0 rfl)) (run_errVar _ _ _ (hE2.cell 0 rfl))
      · have Hno : Hid (putOf a = none) := Lib.hid (by unfold putOf; rw [He.out, Option.bind_some, Hn.out, Option.bind_some, if_neg hxa])
        have hd : decide (x = a) = false := by simp [hxa]
        clear hxa
        generalize decide (x = a) = q at *
        subst hd
        refine wpAny_ready (rs := [4]) (by kernel_rfl) (by simp) ?_
        refine AllReady.cons rfl (fun K3 hK3 => ?_) AllReady.nil
        go_simp
        refine (must_false _).mono ?_
        rintro e w6 ⟨rfl, hww⟩
        obtain rfl : w5 = w6 := hww.symm
        exact put_none H5.out [] Hno.out _ _ rfl rfl rfl
  · refine wp_load_mid 41 _ rfl w.heap.size 0 rfl (actC a (.slice p1 a.op.look.content.pix.length k1) (.slice p2 a.op.look.filt.nodes.length k2) (.slice p3 a.op.look.back.nodes.length k3)).toList _ (Blk.range (pre := []) (post := []) Ha3.out (by rw [List.append_nil]; rfl) rfl) Try.underlying41 rfl (size_act.trans (by simp [actC])) ?_
    refine hK _ _ ?_
    clear hK K
    refine wpAny_ready (rs := [0]) (by kernel_rfl) (by simp) ?_
    refine AllReady.cons rfl (fun K hK => ?_) AllReady.nil
    go_simp
    refine hK _ _ ?_
    clear hK K
    refine wpAny_ready (rs := [1]) (by kernel_rfl) (by simp) ?_
    refine AllReady.cons rfl (fun K hK => ?_) AllReady.nil
    go_simp
    refine (act_any w3.drew w2.heap.size (.slice pv es.length cv) es 0 Hrd.out.drew).mono ?_
    rintro e w4 ⟨hm4, h4⟩
    have H4 : Hid (PutIn w (actC a (.slice p1 a.op.look.content.pix.length k1) (.slice p2 a.op.look.filt.nodes.length k2) (.slice p3 a.op.look.back.nodes.length k3)) w4) := Lib.hid (H3.out.next ((Gou.Mod.drew (fun k => k = w2.heap.size) w3).trans' hm4) (fun k hk => by subst hk; omega))
    have Hw4 : Hid (Wr w4 (w.heap.size + 1 + 1 + 1) es (.slice pv es.length cv)) := Lib.hid (Hw3.out.other ((Gou.Mod.drew (fun k => k = w2.heap.size) w3).trans' hm4) (by omega) (fun k hk e => by subst e; have := (Hvlt.out _ hk).2; omega))
    rcases hn : actAt es 0 with _ | ⟨x, m⟩
    · rw [hn] at h4
      obtain ⟨rfl, _⟩ := h4
      have Hno : Hid (putOf a = none) := Lib.hid (by unfold putOf; rw [He.out, Option.bind_some, hn]; rfl)
      exact put_none H4.out [] Hno.out _ _ rfl rfl rfl
    rw [hn] at h4
    obtain ⟨_, rfl, ⟨vp, vf, vb, rfl, hlr, hsoft⟩, hr4⟩ := h4
    obtain ⟨q1, j1, rfl, _⟩ := RowG.form hlr.pix
    obtain ⟨q2, j2, rfl⟩ := hlr.filt.form
    obtain ⟨q3, j3, rfl⟩ := hlr.back.form
    have Hlr := Lib.hid hlr
    have Hn := Lib.hid hn
    have Hbx : Hid (LookBorne x.op.look) := Lib.hid (by
      obtain ⟨_, _, _, _, h, _⟩ := putOf_of_act Hfi.out.2 hn
      exact h)
    have HR4 := Lib.hid (Hx.out.mod H4.out.mod (fun _ _ _ h => h))
    clear hlr hn hr4 hsoft hm4
    refine hK _ _ ?_
    clear hK K
    refine wpAny_ready (rs := [3]) (by kernel_rfl) (by simp) ?_
    refine AllReady.cons rfl (fun K3 hK3 => ?_) AllReady.nil
    go_simp
    refine (sameAct_any w4 _ _ q1 q2 q3 p1 p2 p3 j1 j2 j3 k1 k2 k3 x a Hlr.out HR4.out Hbx.out HB.out).mono ?_
    rintro e w5 ⟨rfl, hm5⟩
    have H5 : Hid (PutIn w (actC a (.slice p1 a.op.look.content.pix.length k1) (.slice p2 a.op.look.filt.nodes.length k2) (.slice p3 a.op.look.back.nodes.length k3)) w5) := Lib.hid (H4.out.next hm5 (fun _ h => h.elim))
    have Hw5 : Hid (Wr w5 (w.heap.size + 1 + 1 + 1) es (.slice pv es.length cv)) := Lib.hid (Hw4.out.other hm5 (fun h => h) (fun _ _ h => h))
    clear hm5
    refine hK3 _ _ ?_
    clear hK3 K3
    by_cases hxa : x = a
    · have Hyes : Hid (putOf a = some es) := Lib.hid (by unfold putOf; rw [He.out, Option.bind_some, Hn.out, Option.bind_some, if_pos hxa])
      have hd : decide (x = a) = true := by simp [hxa]
      clear hxa
      generalize decide (x = a) = q at *
      subst hd
      refine wpAny_ready (rs := [4]) (by kernel_rfl) (by simp) ?_
      refine AllReady.cons rfl (fun K3 hK3 => ?_) AllReady.nil
      go_simp
      refine (must_true _).mono ?_
      rintro e w6 ⟨rfl, hww⟩
      obtain rfl : w5 = w6 := hww.symm
      clear hww
      refine hK3 _ _ ?_
      clear hK3 K3
      refine wpAny_done (by kernel_rfl) ?_ _
      have cb := Hw5.out.box.cell 0 rfl
      have cO := H5.out.out.cell 0 rfl
      have fO := H5.out.out.frozen 0
      have hO1 := H5.out.out.set 0 (.slice pv es.length cv)
      have hE1 := H5.out.err.mod (Gou.Mod.setCell w5 ⟨(w.heap.size + 1), 0, none⟩ (.slice pv es.length cv)) (by simp)
      have cE := hE1.cell 0 rfl
      have fE := hE1.frozen 0
      have hE2 := hE1.set 0 (.int .i64 0)
      have hO2 := hO1.mod (Gou.Mod.setCell _ ⟨(w.heap.size + 1 + 1), 0, none⟩ (.int .i64 0)) (by simp)
      have hmm := (H5.out.mod.own ⟨(w.heap.size + 1), 0, none⟩ (.slice pv es.length cv) (by simp)).own ⟨(w.heap.size + 1 + 1), 0, none⟩ (.int .i64 0) (by simp; omega)
      have hown := ownsRow_mod (ownsRow_mod Hw5.out.own (Gou.Mod.setCell w5 ⟨(w.heap.size + 1), 0, none⟩ (.slice pv es.length cv)) (fun k hk e => by have := (Hw5.out.own.lt k hk).1; simp at e; omega)) (Gou.Mod.setCell _ ⟨(w.heap.size + 1 + 1), 0, none⟩ (.int .i64 0)) (fun k hk e => by have := (Hw5.out.own.lt k hk).1; simp at e; omega)
      have HE := Lib.hid (And.intro hO2 (And.intro hE2 (And.intro hmm (ownsRow_low (base' := w.heap.size) hown (by omega)))))
      clear hO1 hE1 hE2 hO2 hmm hown
      go_wp2_with fail
      refine leaves_cons (f := 19) (args := #[.pointer (some ⟨(w.heap.size + 1), 0, none⟩), .pointer (some ⟨(w.heap.size + 1 + 1), 0, none⟩)]) (by simp) (by simp [go_sem]) ?_
      refine (put_idle _ _ _).mono ?_
      rintro e u' w7 ⟨rfl, rfl, rfl⟩
      obtain ⟨hO2, hE2, hmm, hown⟩ := HE.out
      refine ⟨.tuple #[.slice pv es.length cv, .int .i64 0], ?_, hmm, by rw [Hyes.out]; exact ⟨_, rfl, hown⟩⟩
      exact results_two rfl _ _ _ _ _ _ rfl rfl (run_sliceVar _ _ _ _ _ (hO2.cell 0 rfl)) (run_errVar _ _ _ (hE2.cell 0 rfl))
    · have Hno : Hid (putOf a = none) := Lib.hid (by unfold putOf; rw [He.out, Option.bind_some, Hn.out, Option.bind_some, if_neg hxa])
      have hd : decide (x = a) = false := by simp [hxa]
      clear hxa
      generalize decide (x = a) = q at *
      subst hd
      refine wpAny_ready (rs := [4]) (by kernel_rfl) (by simp) ?_
      refine AllReady.cons rfl (fun K3 hK3 => ?_) AllReady.nil
      go_simp
      refine (must_false _).mono ?_
      rintro e w6 ⟨rfl, hww⟩
      obtain rfl : w5 = w6 := hww.symm
      exact put_none H5.out [] Hno.out _ _ rfl rfl rfl

end Go.Proofs.Ytnamnmipgpcjjaa
