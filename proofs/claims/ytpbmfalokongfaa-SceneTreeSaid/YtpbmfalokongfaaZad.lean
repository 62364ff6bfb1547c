/- Texts of the scenes' proofs, laid together: ScN. -/
import Derived.Test.YtpbmfalokongfaaZac
import Derived.Deep.Cut
import Derived.Deep.CutBlock
import Derived.Deep.CutRange
set_option linter.unusedSimpArgs false
set_option linter.unusedVariables false
set_option linter.unusedSectionVars false
set_option linter.constructorNameAsVariable false

/- Arenas: the code's copies, Take, Free. -/
namespace Go.Gou
open Go.RowKit
/-- An arena of the call's own. -/
structure ArO (TI TB : TypeId) (base : Nat) (w : World) (vg vl : Value) (a : Ar) : Prop where
  g : w.ownsRow base TI 1 vg a.gens.length (ivs a.gens)
  l : w.ownsRow base TB 1 vl a.live.length (bvs a.live)
theorem ArO.forms {TI TB : TypeId} {base : Nat} {w : World} {vg vl : Value} {a : Ar} (h : ArO TI TB base w vg vl a) : (∃ p c, vg = .slice p a.gens.length c) ∧ ∃ p c, vl = .slice p a.live.length c := ⟨Gou.ownsRow_form h.g, Gou.ownsRow_form h.l⟩
theorem ArO.reads {TI TB : TypeId} {base : Nat} {w : World} {vg vl : Value} {a : Ar} (h : ArO TI TB base w vg vl a) : ArR w vg vl a := ⟨RowG.own_of h.g (fun _ _ _ => trivial), RowG.own_of h.l (fun _ _ _ => trivial)⟩
theorem ArO.up {TI TB : TypeId} {base : Nat} {w w' : World} {vg vl : Value} {a : Ar} (h : ArO TI TB base w vg vl a) (hm : Mod (fun _ => False) w w') : ArO TI TB base w' vg vl a := ⟨own_up h.g hm, own_up h.l hm⟩
theorem ArO.mod {TI TB : TypeId} {base : Nat} {S : Nat → Prop} {w w' : World} {vg vl : Value} {a : Ar} (h : ArO TI TB base w vg vl a) (hm : Mod S w w') (h1 : ∀ k, vg.ownBlock = some k → ¬ S k) (h2 : ∀ k, vl.ownBlock = some k → ¬ S k) : ArO TI TB base w' vg vl a := ⟨ownsRow_mod h.g hm h1, ownsRow_mod h.l hm h2⟩
theorem ArO.low {TI TB : TypeId} {base base' : Nat} {w : World} {vg vl : Value} {a : Ar} (h : ArO TI TB base w vg vl a) (hb : base' ≤ base) : ArO TI TB base' w vg vl a := ⟨ownsRow_base h.g hb, ownsRow_base h.l hb⟩
theorem ArR.forms {w : World} {vg vl : Value} {a : Ar} (h : ArR w vg vl a) : (∃ p c, vg = .slice p a.gens.length c) ∧ ∃ p c, vl = .slice p a.live.length c := ⟨RowG.slice h.g, RowG.slice h.l⟩
theorem some_set {w : World} {base : Nat} {T : TypeId} {g n c i : Nat} {cs : List Value} (h : w.ownsRow base T 1 (.slice (some ⟨g, 0, none⟩) n c) n cs) (hi : i < n) : (w.cell? ⟨g, i, none⟩).isSome = true ∧ w.frozen? ⟨g, i, none⟩ = false := by
  obtain ⟨_, _, cur, cap, h1, h2, h3, h4, _⟩ := ownsRow_blk h rfl
  simp only [Value.slice.injEq] at h2
  obtain ⟨-, -, rfl⟩ := h2
  have := Blk.there h1 i 1 (by omega) 0 (by omega)
  simpa using this
theorem idx_live (l : List Bool) : Lib.idxBy (fun x y => x == y) l false = (match l.findIdx? (fun q => !q) with | some i => ((i : Nat) : Int) | none => -1) := by
  have key : ∀ (l : List Bool) (s : Nat), Lib.idxByFrom (fun x y => x == y) false l s = (match l.findIdx? (fun q => !q) with | some i => ((s + i : Nat) : Int) | none => -1) := by
    intro l
    induction l with
    | nil => intro s; rfl
    | cons a l ih =>
      intro s
      rw [Lib.idxByFrom, List.findIdx?_cons]
      cases a with
      | false => simp
      | true =>
        simp only [Bool.not_true, Bool.false_eq_true, if_false]
        rw [if_neg (by decide), ih]
        cases l.findIdx? (fun q => !q) with
        | none => rfl
        | some i => simp only [Option.map_some]; congr 1; omega
  have := key l 0
  unfold Lib.idxBy
  rw [this]
  cases l.findIdx? (fun q => !q) <;> simp
theorem own2_ne {w : World} {base base' : Nat} {e T : TypeId} {k k' n n' : Nat} {v v' : Value} {xs xs' : List Value} (h : w.ownsRow base e k v n xs) (h' : w.ownsRow base' T k' v' n' xs') (hT : e ≠ T) (b : Nat) (hb : v.ownBlock = some b) (hb' : v'.ownBlock = some b) : False := by
  obtain ⟨_, _, cur, cap, h1, _⟩ := ownsRow_blk h hb
  obtain ⟨_, _, cur', cap', h2, _⟩ := ownsRow_blk h' hb'
  exact blk_ne h1 h2 hT rfl
theorem own1_some {w : World} {base : Nat} {T : TypeId} {p : Option Addr} {n c : Nat} {cs : List Value} (h : w.ownsRow base T 1 (.slice p n c) n cs) (h0 : 0 < n) : ∃ g, p = some ⟨g, 0, none⟩ ∧ base ≤ g ∧ g < w.heap.size := by
  rcases h.2 with ⟨hv, h1⟩ | ⟨g, cap, cur, hv, hb, hh, _⟩
  · omega
  · simp only [Value.slice.injEq] at hv
    exact ⟨g, hv.1, hb, Blk.lt hh⟩
theorem own1_cell {w : World} {base : Nat} {T : TypeId} {g n c i : Nat} {cs : List Value} (h : w.ownsRow base T 1 (.slice (some ⟨g, 0, none⟩) n c) n cs) {v : Value} (hi : cs[i]? = some v) : w.cell? ⟨g, i, none⟩ = some v := by
  obtain ⟨_, _, cur, cap, h1, h2, h3, h4, h5⟩ := ownsRow_blk h rfl
  rw [cell_of_row w g i cur T _ h1, ← Array.getElem?_toList]
  have hl := h.1
  have hlt := (List.getElem?_eq_some_iff.1 hi).1
  rw [← h5, List.getElem?_take, if_pos (by omega)] at hi
  exact hi
theorem own1_cell_b {w : World} {base : Nat} {T : TypeId} {g n c i : Nat} {l : List Bool} (h : w.ownsRow base T 1 (.slice (some ⟨g, 0, none⟩) n c) n (bvs l)) (hi : i < l.length) : w.cell? ⟨g, i, none⟩ = some (.bool (l.getD i false)) := by
  refine own1_cell h ?_
  rw [bvs, List.getElem?_map, List.getElem?_eq_getElem hi, List.getD_eq_getElem?_getD, List.getElem?_eq_getElem hi]
  rfl
theorem own1_cell_i {w : World} {base : Nat} {T : TypeId} {g n c i : Nat} {l : List Int} (h : w.ownsRow base T 1 (.slice (some ⟨g, 0, none⟩) n c) n (ivs l)) (hi : i < l.length) : w.cell? ⟨g, i, none⟩ = some (.int .i64 (l.getD i 0)) := by
  refine own1_cell h ?_
  rw [ivs, List.getElem?_map, List.getElem?_eq_getElem hi, List.getD_eq_getElem?_getD, List.getElem?_eq_getElem hi]
  rfl
theorem getElem!_bvs (l : List Bool) (j : Nat) (h : j < l.length) : (bvs l)[j]? = some (.bool l[j]!) := by
  rw [bvs, List.getElem?_map, List.getElem?_eq_getElem h]
  simp [h]
end Go.Gou
namespace Go.Proofs.Ytpbmfalokongfaa
open Go.RowKit Go.Gou
set_option maxRecDepth 100000
abbrev ArL (base : Nat) (w : World) (vg vl : Value) (a : Ar) : Prop := ArO 3 4 base w vg vl a
/-- What makes an arena anew. -/
def ArP (w : World) (a : Ar) (e : Ending) (w' : World) : Prop := ∃ vg vl, e = .returned (.agg #[vg, vl]) ∧ ArL w.heap.size w' vg vl a ∧ Gou.Mod (fun _ => False) w w'

set_option maxHeartbeats 4000000 in
theorem arNew_any (w : World) : Calls Try.prog 16 #[] w (ArP w Ar.new) := by
  go_enter Try.func16, Try.ntmps16
  go_wp2_with fail
  obtain ⟨b0, b1, b2, bm⟩ := three_new w 28 3 4 #[.slice (some ⟨w.heap.size + 1, 0, none⟩) 1 1, .slice (some ⟨w.heap.size + 1 + 1, 0, none⟩) 1 1] #[.int .i64 0] #[.bool true]
  refine bodyPost_ret (results_cell_row rfl _ _ (w.heap.size) 28 #[.slice (some ⟨w.heap.size + 1, 0, none⟩) 1 1, .slice (some ⟨w.heap.size + 1 + 1, 0, none⟩) 1 1] (0, 0) _ rfl b0 Try.underlying28 rfl size_arena) rfl ?_
  exact ⟨_, _, rfl, ⟨⟨rfl, .inr ⟨_, 1, _, rfl, by omega, b1, Nat.le_refl _, by decide, rfl, rfl⟩⟩, ⟨rfl, .inr ⟨_, 1, _, rfl, by omega, b2, Nat.le_refl _, by decide, rfl, rfl⟩⟩⟩, bm⟩

/-- What slices.Index finds among truths. -/
theorem indexBool_any (w : World) (p : Option Addr) (c : Nat) (l : List Bool) (h : RowG (fun _ => True) w 1 (.slice p l.length c) l.length (bvs l)) (h0 : 0 < l.length) (hn : l.length ≤ 1000000) :
    Calls Try.prog 47 #[.slice p l.length c, .bool false] w fun e w' => e = .returned (.int .i64 (match l.findIdx? (fun q => !q) with | some i => ((i : Nat) : Int) | none => -1)) ∧ w' = w := by
  obtain ⟨b, o, rfl, hb, hc⟩ := RowG.cell1 h h0
  have h1 := AnyE.slices_Index indexBool Value.bool (fun x y => x == y) (EqlAt.bool _ Try.underlying4) b o l.length c l false w (Nat.le_refl _) (by omega) (fun j hj => by
    have := hc j (by simpa using hj)
    rw [this]
    have h2 := getElem!_bvs l j hj
    rw [List.getElem?_eq_getElem (by simpa using hj)] at h2
    exact h2)
  rw [List.take_length, idx_live] at h1
  exact h1

set_option maxHeartbeats 4000000 in
theorem arCopied_any (w : World) (vg vl : Value) (a : Ar) (h : ArR w vg vl a) (h1 : a.gens.length ≤ 1000000) (h2 : a.live.length ≤ 1000000) :
    Calls Try.prog 46 #[.agg #[vg, vl]] w (ArP w a) := by
  obtain ⟨⟨pg, cg, rfl⟩, ⟨pl, cl, rfl⟩⟩ := h.forms
  have Hh := Lib.hid h
  have H1 := Lib.hid h1
  have H2 := Lib.hid h2
  clear h h1 h2
  obtain ⟨b0, b1, bm⟩ := two_new w 28 28 #[.slice pg a.gens.length cg, .slice pl a.live.length cl] #[.slice none 0 0, .slice none 0 0]
  have Hb0 := Lib.hid b0
  have Hb1 := Lib.hid b1
  have Hbm := Lib.hid bm
  clear b0 b1 bm
  go_enter Try.func46, Try.ntmps46
  go_wp2_with fail
  generalize (w.alloc (.cells #[.slice pg a.gens.length cg, .slice pl a.live.length cl] 28)).alloc (.cells #[.slice none 0 0, .slice none 0 0] 28) = W1 at *
  have c0 : W1.cell? ⟨w.heap.size, 0, none⟩ = some (.slice pg a.gens.length cg) := Hb0.out.cell 0 rfl
  have c1 : W1.cell? ⟨w.heap.size, 1, none⟩ = some (.slice pl a.live.length cl) := Hb0.out.cell 1 rfl
  have Ha := Lib.hid (Hh.out.up Hbm.out)
  refine wp_region_defer (S := fun w' => Gou.Mod (fun _ => False) W1 w') 7 ({ dst := none, op := Op.store 28 (Operand.tmp 2) (Operand.tmp 9), type := 0, pos := "arena.go:40", after := #[{ on := 6, ground := Ground.data }, { on := 5, ground := Ground.chain }, { on := 0, ground := Ground.phase }, { on := 1, ground := Ground.phase }, { on := 2, ground := Ground.phase }, { on := 3, ground := Ground.phase }, { on := 4, ground := Ground.phase }, { on := 5, ground := Ground.phase }, { on := 6, ground := Ground.phase }], guard := none } : Oper) rfl (by kernel_rfl) rfl rfl (by kernel_rfl) (by kernel_rfl) (Gou.Mod.drew _ _) (fun hHeld => ?_)
  refine wpAnyH_take (i := 0) (oi := ({ dst := some 3, op := Op.fieldAddr 28 (Operand.tmp 1) 0, type := 0, pos := "arena.go:40", after := #[], guard := none } : Oper)) (v := .pointer (some ⟨w.heap.size, 0, none⟩)) rfl (by kernel_rfl) (by kernel_rfl) (by kernel_rfl) (fun _ _ _ h => h) (Or.inl ⟨by rfl, ?_⟩) hHeld ?_
  · (intro w' hSw; (try dsimp only at hSw); clear hSw hHeld; go_simp; (try with_reducible rfl))
  try simp only [Act.put, List.setIfInBounds_toArray, List.set_cons_zero, List.set_cons_succ]
  refine wpAnyH_take (i := 1) (oi := ({ dst := some 4, op := Op.load 25 (Operand.tmp 3), type := 25, pos := "arena.go:40", after := #[{ on := 0, ground := Ground.data }], guard := none } : Oper)) (v := .slice pg a.gens.length cg) rfl (by kernel_rfl) (by kernel_rfl) (by kernel_rfl) (fun _ _ _ h => h) (Or.inl ⟨by rfl, ?_⟩) hHeld ?_
  · (intro w' hSw; (try dsimp only at hSw); have g := (hSw.cell (p := ⟨w.heap.size, 0, none⟩) (World.block_lt_of_cell? _ _ c0) (fun h => h)).trans c0; clear hSw hHeld; go_simp; (try with_reducible rfl))
  try simp only [Act.put, List.setIfInBounds_toArray, List.set_cons_zero, List.set_cons_succ]
  refine wpAnyH_take (i := 3) (oi := ({ dst := some 6, op := Op.fieldAddr 28 (Operand.tmp 1) 1, type := 0, pos := "arena.go:40", after := #[], guard := none } : Oper)) (v := .pointer (some ⟨w.heap.size, 1, none⟩)) rfl (by kernel_rfl) (by kernel_rfl) (by kernel_rfl) (fun _ _ _ h => h) (Or.inl ⟨by rfl, ?_⟩) hHeld ?_
  · (intro w' hSw; (try dsimp only at hSw); clear hSw hHeld; go_simp; (try with_reducible rfl))
  try simp only [Act.put, List.setIfInBounds_toArray, List.set_cons_zero, List.set_cons_succ]
  refine wpAnyH_take (i := 4) (oi := ({ dst := some 7, op := Op.load 26 (Operand.tmp 6), type := 26, pos := "arena.go:40", after := #[{ on := 3, ground := Ground.data }], guard := none } : Oper)) (v := .slice pl a.live.length cl) rfl (by kernel_rfl) (by kernel_rfl) (by kernel_rfl) (fun _ _ _ h => h) (Or.inl ⟨by rfl, ?_⟩) hHeld ?_
  · (intro w' hSw; (try dsimp only at hSw); have g := (hSw.cell (p := ⟨w.heap.size, 1, none⟩) (World.block_lt_of_cell? _ _ c1) (fun h => h)).trans c1; clear hSw hHeld; go_simp; (try with_reducible rfl))
  try simp only [Act.put, List.setIfInBounds_toArray, List.set_cons_zero, List.set_cons_succ]
  refine wpAnyH_ready (rs := [2]) (by kernel_rfl) (by simp) (AllReadyH.cons (o := ({ dst := some 5, op := Op.call { callee := Callee.value (Operand.func 24), args := #[Operand.tmp 4], argTypes := #[25] }, type := 25, pos := "arena.go:40", after := #[{ on := 1, ground := Ground.data }], guard := none } : Oper)) rfl (fun K hK => ?_) AllReadyH.nil)
  go_simp
  refine (cloneInt_any _ pg a.gens.length cg (ivs a.gens) (fun _ => True) (Ha.out.g.under hHeld) (ivs_one _) (by have := H1.out; omega)).mono ?_
  rintro e w4 ⟨p4, c4, rfl, ho4, hm4⟩
  have M := Lib.hid (hHeld.trans' hm4)
  have Ho4 := Lib.hid ho4
  clear hHeld ho4 hm4
  refine hK _ _ M.out (fun hHeld => ?_)
  clear hK K M
  try simp only [Act.put, List.setIfInBounds_toArray, List.set_cons_zero, List.set_cons_succ]
  refine wpAnyH_ready (rs := [5]) (by kernel_rfl) (by simp) (AllReadyH.cons (o := ({ dst := some 8, op := Op.call { callee := Callee.value (Operand.func 25), args := #[Operand.tmp 7], argTypes := #[26] }, type := 26, pos := "arena.go:40", after := #[{ on := 4, ground := Ground.data }, { on := 2, ground := Ground.chain }], guard := none } : Oper)) rfl (fun K hK => ?_) AllReadyH.nil)
  go_simp
  refine (cloneBool_any _ pl a.live.length cl (bvs a.live) (fun _ => True) (Ha.out.l.under hHeld) (bvs_one _) (by have := H2.out; omega)).mono ?_
  rintro e w5 ⟨p5, c5, rfl, ho5, hm5⟩
  have M := Lib.hid (hHeld.trans' hm5)
  have Ho5 := Lib.hid ho5
  have Ho4b := Lib.hid (own_up Ho4.out hm5)
  have Hz := Lib.hid hHeld.size
  clear hHeld ho5 hm5 Ho4
  refine hK _ _ M.out (fun hHeld => ?_)
  clear hK K M
  try simp only [Act.put, List.setIfInBounds_toArray, List.set_cons_zero, List.set_cons_succ]
  refine wpAnyH_take (i := 6) (oi := ({ dst := some 9, op := Op.build 28 #[(0, Operand.tmp 5), (1, Operand.tmp 8)], type := 28, pos := "arena.go:40", after := #[{ on := 2, ground := Ground.data }, { on := 5, ground := Ground.data }], guard := none } : Oper)) (v := .agg #[.slice p4 a.gens.length c4, .slice p5 a.live.length c5]) rfl (by kernel_rfl) (by kernel_rfl) (by kernel_rfl) (fun _ _ _ h => h) (Or.inl ⟨by rfl, ?_⟩) hHeld ?_
  · (intro w' hSw; (try dsimp only at hSw); clear hSw hHeld; go_simp; (try with_reducible rfl))
  try simp only [Act.put, List.setIfInBounds_toArray, List.set_cons_zero, List.set_cons_succ]
  refine wpAnyH_take (i := 7) (oi := ({ dst := none, op := Op.assign (Operand.const (Value.bool true)), type := 0, pos := "arena.go:40", after := #[{ on := 6, ground := Ground.data }, { on := 5, ground := Ground.chain }, { on := 0, ground := Ground.phase }, { on := 1, ground := Ground.phase }, { on := 2, ground := Ground.phase }, { on := 3, ground := Ground.phase }, { on := 4, ground := Ground.phase }, { on := 5, ground := Ground.phase }, { on := 6, ground := Ground.phase }], guard := none } : Oper)) (v := .bool true) rfl (by kernel_rfl) (by kernel_rfl) (by kernel_rfl) (fun _ _ _ h => h) (Or.inl ⟨by rfl, ?_⟩) hHeld ?_
  · (intro w' hSw; clear hSw hHeld; go_simp; (try with_reducible rfl))
  try simp only [Act.put, List.setIfInBounds_toArray, List.set_cons_zero, List.set_cons_succ]
  have MS := Lib.hid hHeld
  refine wpAnyH_done (by kernel_rfl) ?_ _
  clear hHeld
  show Oper.wp _ _ _ _ _ _
  refine wp_store_mid 28 _ _ rfl (w.heap.size + 1) 0 #[.slice p4 a.gens.length c4, .slice p5 a.live.length c5] rfl rfl ((Hb1.out.up MS.out).there 0 2 (by simp)) size_arena (by simp [Value.oneCell']) ?_
  have HS := Lib.hid (Blk.setMod w5 (w.heap.size + 1) 0 [.slice p4 a.gens.length c4, .slice p5 a.live.length c5])
  have HB := Lib.hid ((Hb1.out.up MS.out).setAll #[.slice p4 a.gens.length c4, .slice p5 a.live.length c5] rfl)
  have HA : Hid (ArL w.heap.size (w5.setCells (w.heap.size + 1) 0 [.slice p4 a.gens.length c4, .slice p5 a.live.length c5]) (.slice p4 a.gens.length c4) (.slice p5 a.live.length c5) a) := Lib.hid ⟨ownsRow_base (ownsRow_mod Ho4b.out HS.out (fun k hk e => own_blk_ne Ho4b.out (Hb1.out.up MS.out) (by decide) (by rw [hk, e]))) Hbm.out.size, ownsRow_base (ownsRow_mod Ho5.out HS.out (fun k hk e => own_blk_ne Ho5.out (Hb1.out.up MS.out) (by decide) (by rw [hk, e]))) (Nat.le_trans Hbm.out.size Hz.out)⟩
  have HM := Lib.hid ((Hbm.out.trans' MS.out).trans HS.out (fun k hk e => by omega))
  try simp only [Act.put]
  go_wp2_with fail
  refine bodyPost_ret (results_cell_row rfl _ _ (w.heap.size + 1) 28 #[.slice p4 a.gens.length c4, .slice p5 a.live.length c5] (0, 0) _ rfl HB.out Try.underlying28 rfl size_arena) rfl ?_
  exact ⟨_, _, rfl, HA.out, HM.out⟩

/-- What Take answers. -/
def TakeP (w : World) (a : Ar) (e : Ending) (w' : World) : Prop := Gou.Mod (fun _ => False) w w' ∧ ∃ vg vl, (∀ b y, a.take = some (b, y) → e = .returned (.tuple #[.agg #[vg, vl], .agg #[.int .i64 y.1, .int .i64 y.2], .bool true]) ∧ ArL w.heap.size w' vg vl b) ∧
  (a.take = none → e = .returned (.tuple #[.agg #[vg, vl], .agg #[.int .i64 0, .int .i64 0], .bool false]) ∧ (∃ p n c, vg = .slice p n c) ∧ ∃ p n c, vl = .slice p n c)

set_option maxHeartbeats 8000000 in
theorem arTake_any (w : World) (vg vl : Value) (a : Ar) (h : ArR w vg vl a) (hlen : a.gens.length = a.live.length) (h0 : 0 < a.live.length) (hn : a.live.length ≤ 1024) :
    Calls Try.prog 33 #[.agg #[vg, vl]] w (TakeP w a) := by
  obtain ⟨⟨pg, cg, rfl⟩, ⟨pl, cl, rfl⟩⟩ := h.forms
  have Hh := Lib.hid h
  have Hlen := Lib.hid hlen
  have H0 := Lib.hid h0
  have Hn := Lib.hid hn
  clear h hlen h0 hn
  obtain ⟨b0, b1, b2, bm⟩ := three_new w 28 28 30 #[.slice pg a.gens.length cg, .slice pl a.live.length cl] #[.slice none 0 0, .slice none 0 0] #[.int .i64 0, .int .i64 0]
  go_enter Try.func33, Try.ntmps33
  have Hb0 := Lib.hid b0
  have Hb1 := Lib.hid b1
  have Hb2 := Lib.hid b2
  have Hbm := Lib.hid bm
  have c0 := b0.cell 0 rfl
  have c1 := b0.cell 1 rfl
  clear b0 b1 b2 bm
  go_wp2_with fail
  generalize ((w.alloc (.cells #[.slice pg a.gens.length cg, .slice pl a.live.length cl] 28)).alloc (.cells #[.slice none 0 0, .slice none 0 0] 28)).alloc (.cells #[.int .i64 0, .int .i64 0] 30) = W1 at *
  refine (arCopied_any _ _ _ a (Hh.out.up Hbm.out) (by have := Hlen.out; have := Hn.out; omega) (by have := Hn.out; omega)).mono ?_
  rintro e w2 ⟨vg, vl, rfl, ha, hm2⟩
  obtain ⟨⟨p2, c2, rfl⟩, ⟨q2, d2, rfl⟩⟩ := ha.forms
  have Ha := Lib.hid ha
  have Hm2 := Lib.hid hm2
  clear ha hm2 c0 c1
  go_wp2_with fail
  have HB5 := Lib.hid (Blk.new w2 28 #[.slice p2 a.gens.length c2, .slice q2 a.live.length d2])
  have HMa := Lib.hid (Gou.Mod.alloc0 w2 (.cells #[.slice p2 a.gens.length c2, .slice q2 a.live.length d2] 28))
  have Ha3 := Lib.hid (Ha.out.up HMa.out)
  have HR1 := Lib.hid ((Hb1.out.up Hm2.out).up HMa.out)
  have HR2 := Lib.hid ((Hb2.out.up Hm2.out).up HMa.out)
  have HM3 := Lib.hid ((Hbm.out.trans' Hm2.out).trans' HMa.out)
  have HRlt := Lib.hid (Blk.lt Hb2.out)
  have HNlt : Hid (W1.heap.size ≤ w2.heap.size) := Lib.hid Hm2.out.size
  clear Ha Hb0 Hb1 Hb2 Hm2 HMa
  generalize w2.alloc (.cells #[.slice p2 a.gens.length c2, .slice q2 a.live.length d2] 28) = W3 at *
  generalize w2.heap.size = N5 at *
  have c51 : W3.cell? ⟨N5, 1, none⟩ = some (.slice q2 a.live.length d2) := HB5.out.cell 1 rfl
  refine (indexBool_any _ q2 d2 a.live (Ha3.out.reads.l) H0.out (by have := Hn.out; omega)).mono ?_
  rintro e w' ⟨rfl, hw'⟩
  have hw' := hw'.symm
  subst hw'
  have HTk : Hid (a.take = a.take) := Lib.hid rfl
  cases hf : a.live.findIdx? (fun q => !q) with
  | some i =>
    obtain ⟨hil, hiv, _⟩ := List.findIdx?_eq_some_iff_getElem.1 hf
    have Hf := Lib.hid hf
    have Hil := Lib.hid hil
    clear hf hiv
    simp only
    obtain ⟨gg, rfl, hgg, _⟩ := own1_some Ha3.out.g (by have := Hil.out; have := Hlen.out; omega)
    obtain ⟨gl, rfl, hgl, _⟩ := own1_some Ha3.out.l (by have := Hil.out; have := Hlen.out; omega)
    have Hgg := Lib.hid hgg
    have Hgl := Lib.hid hgl
    have kl : W3.cell? ⟨gl, i, none⟩ = some (.bool (a.live.getD (i) false)) := own1_cell_b Ha3.out.l (by have := Hil.out; have := Hlen.out; omega)
    have kf := (some_set Ha3.out.l (i := i) (by have := Hil.out; have := Hlen.out; omega)).2
    have kg : W3.cell? ⟨gg, i, none⟩ = some (.int .i64 (a.gens.getD (i) 0)) := own1_cell_i Ha3.out.g (by have := Hil.out; have := Hlen.out; omega)
    have c50 : W3.cell? ⟨N5, 0, none⟩ = some (.slice (some ⟨gg, 0, none⟩) a.gens.length c2) := HB5.out.cell 0 rfl
    have c51 : W3.cell? ⟨N5, 1, none⟩ = some (.slice (some ⟨gl, 0, none⟩) a.live.length d2) := HB5.out.cell 1 rfl
    have hlt1 : decide ((0 : Int) ≤ (i : Nat)) = true := decide_eq_true (by omega)
    have hib2 : i < a.live.length := by have := Hil.out; have := Hlen.out; omega
    have e0 : decide ((i : Int) < 0) = false := decide_eq_false (by omega)
    go_wp2_with fail
    have HS8 := Lib.hid (Gou.Mod.set1 W3 gl i (.bool true))
    have Hl8 : Hid ((W3.setCell ⟨gl, i, none⟩ (.bool true)).ownsRow W1.heap.size 4 1 (.slice (some ⟨gl, 0, none⟩) a.live.length d2) a.live.length (bvs ((a.live).set (i) true))) := Lib.hid (by have h := own_set Ha3.out.l (i) (.bool true); rw [bvs, List.map_set]; exact h)
    have Hg8 := Lib.hid (ownsRow_mod Ha3.out.g HS8.out (fun k hk e => own_not_ty (base' := 0) Ha3.out.g (T := 4) (by decide) k ⟨Nat.zero_le _, by obtain ⟨_, _, cur, cap, h1, _⟩ := ownsRow_blk Ha3.out.l rfl; rw [e]; exact ⟨cur, h1⟩⟩ hk))
    have hNl : Hid (N5 ≠ gl) := Lib.hid (fun e => own_blk_ne Ha3.out.l HB5.out (by decide) (by rw [e]; rfl))
    have HB8 := Lib.hid (HB5.out.mod HS8.out hNl.out)
    have HR18 := Lib.hid (HR1.out.mod HS8.out (by have := Hgl.out; have := HRlt.out; omega))
    have HR28 := Lib.hid (HR2.out.mod HS8.out (by have := Hgl.out; have := HRlt.out; omega))
    have HM8 := Lib.hid (HM3.out.trans HS8.out (fun k hk e => by have := Hgl.out; have := HRlt.out; omega))
    have hgN : Hid (gg ≠ w.heap.size + 1 ∧ gg ≠ w.heap.size + 1 + 1 ∧ gl ≠ w.heap.size + 1 ∧ gl ≠ w.heap.size + 1 + 1 ∧ N5 ≠ w.heap.size + 1 ∧ N5 ≠ w.heap.size + 1 + 1) := Lib.hid (by have := Hgl.out; have := Hgg.out; have := HRlt.out; have := HNlt.out; omega)
    have hN5 : Hid (¬ (N5 = w.heap.size + 1 ∨ N5 = w.heap.size + 1 + 1)) := Lib.hid (by have := hgN.out; omega)
    have hgg5 : Hid (¬ (gg = w.heap.size + 1 ∨ gg = w.heap.size + 1 + 1)) := Lib.hid (by have := hgN.out; omega)
    have Hfin : Hid (a.take = some (Ar.mk (a.gens) ((a.live).set (i) true), (((i : Nat) : Int), (a.gens).getD (i) 0))) := Lib.hid (by unfold Ar.take; rw [Hf.out])
    clear kl kf c50 c51
    have kg8 : (W3.setCell ⟨gl, i, none⟩ (.bool true)).cell? ⟨gg, i, none⟩ = some (.int .i64 ((a.gens).getD (i) 0)) := own1_cell_i Hg8.out (by have := Hil.out; have := Hlen.out; omega)
    have c50 : (W3.setCell ⟨gl, i, none⟩ (.bool true)).cell? ⟨N5, 0, none⟩ = some (.slice (some ⟨gg, 0, none⟩) a.gens.length c2) := HB8.out.cell 0 rfl
    have hib : i < a.gens.length := by have := Hil.out; have := Hlen.out; omega
    clear kg
    generalize W3.setCell ⟨gl, i, none⟩ (.bool true) = W8 at *
    generalize (a.gens).getD (i) 0 = gv at *
    refine wp_region_held_drew (S := fun w' => Gou.Mod (fun k => k = w.heap.size + 1 ∨ k = w.heap.size + 1 + 1) W8 w') (by kernel_rfl) (Gou.Mod.drew _ _) (fun hHeld => ?_)
    refine wpAnyH_take (i := 0) (oi := ({ dst := some 37, op := Op.load 28 (Operand.tmp 5), type := 28, pos := "arena.go:55", after := #[], guard := none } : Oper)) (v := .agg #[.slice (some ⟨gg, 0, none⟩) a.gens.length c2, .slice (some ⟨gl, 0, none⟩) a.live.length d2]) rfl (by kernel_rfl) (by kernel_rfl) (by kernel_rfl) (fun _ _ _ h => h) (yieldsIf_load_mid (by rfl) 28 _ rfl N5 (0) rfl ([.slice (some ⟨gg, 0, none⟩) a.gens.length c2, .slice (some ⟨gl, 0, none⟩) a.live.length d2]) _ (fun w' hSw => range_up HB8.out.whole hSw hN5.out) Try.underlying28 rfl size_arena) hHeld ?_
    try simp only [Act.put, List.setIfInBounds_toArray, List.set_cons_zero, List.set_cons_succ]
    refine wpAnyH_take (i := 1) (oi := ({ dst := some 38, op := Op.move (Operand.tmp 6), type := 3, pos := "arena.go:55", after := #[{ on := 8, ground := Ground.gcOnly Departure.lateStores }], guard := none } : Oper)) (v := .int .i64 ((i : Nat) : Int)) rfl (by kernel_rfl) (by kernel_rfl) (by kernel_rfl) (fun _ _ _ h => h) (Or.inl ⟨by rfl, ?_⟩) hHeld ?_
    · (intro w' hSw; (try dsimp only at hSw); clear hSw hHeld; go_simp; (try with_reducible rfl))
    try simp only [Act.put, List.setIfInBounds_toArray, List.set_cons_zero, List.set_cons_succ]
    refine wpAnyH_take (i := 2) (oi := ({ dst := some 39, op := Op.fieldAddr 28 (Operand.tmp 5) 0, type := 0, pos := "arena.go:55", after := #[{ on := 8, ground := Ground.gcOnly Departure.lateStores }], guard := none } : Oper)) (v := .pointer (some ⟨N5, 0, none⟩)) rfl (by kernel_rfl) (by kernel_rfl) (by kernel_rfl) (fun _ _ _ h => h) (Or.inl ⟨by rfl, ?_⟩) hHeld ?_
    · (intro w' hSw; (try dsimp only at hSw); clear hSw hHeld; go_simp; (try with_reducible rfl))
    try simp only [Act.put, List.setIfInBounds_toArray, List.set_cons_zero, List.set_cons_succ]
    refine wpAnyH_take (i := 3) (oi := ({ dst := some 40, op := Op.load 25 (Operand.tmp 39), type := 25, pos := "arena.go:55", after := #[{ on := 2, ground := Ground.data }, { on := 8, ground := Ground.gcOnly Departure.lateStores }], guard := none } : Oper)) (v := .slice (some ⟨gg, 0, none⟩) a.gens.length c2) rfl (by kernel_rfl) (by kernel_rfl) (by kernel_rfl) (fun _ _ _ h => h) (Or.inl ⟨by rfl, ?_⟩) hHeld ?_
    · (intro w' hSw; (try dsimp only at hSw); have g := (hSw.cell (p := ⟨N5, 0, none⟩) (World.block_lt_of_cell? _ _ c50) hN5.out).trans c50; clear hSw hHeld; go_simp; (try with_reducible rfl))
    try simp only [Act.put, List.setIfInBounds_toArray, List.set_cons_zero, List.set_cons_succ]
    refine wpAnyH_take (i := 4) (oi := ({ dst := some 41, op := Op.move (Operand.tmp 6), type := 3, pos := "arena.go:55", after := #[{ on := 8, ground := Ground.gcOnly Departure.lateStores }], guard := none } : Oper)) (v := .int .i64 ((i : Nat) : Int)) rfl (by kernel_rfl) (by kernel_rfl) (by kernel_rfl) (fun _ _ _ h => h) (Or.inl ⟨by rfl, ?_⟩) hHeld ?_
    · (intro w' hSw; (try dsimp only at hSw); clear hSw hHeld; go_simp; (try with_reducible rfl))
    try simp only [Act.put, List.setIfInBounds_toArray, List.set_cons_zero, List.set_cons_succ]
    refine wpAnyH_take (i := 5) (oi := ({ dst := some 42, op := Op.indexAddr 25 (Operand.tmp 40) (Operand.tmp 41), type := 0, pos := "arena.go:55", after := #[{ on := 3, ground := Ground.data }, { on := 4, ground := Ground.data }, { on := 8, ground := Ground.gcOnly Departure.lateStores }], guard := none } : Oper)) (v := .pointer (some ⟨gg, i, none⟩)) rfl (by kernel_rfl) (by kernel_rfl) (by kernel_rfl) (fun _ _ _ h => h) (Or.inl ⟨by rfl, ?_⟩) hHeld ?_
    · (intro w' hSw; (try dsimp only at hSw); clear hSw hHeld; go_simp; (try with_reducible rfl))
    try simp only [Act.put, List.setIfInBounds_toArray, List.set_cons_zero, List.set_cons_succ]
    refine wpAnyH_take (i := 6) (oi := ({ dst := some 43, op := Op.load 3 (Operand.tmp 42), type := 3, pos := "arena.go:55", after := #[{ on := 5, ground := Ground.data }, { on := 8, ground := Ground.gcOnly Departure.lateStores }], guard := none } : Oper)) (v := .int .i64 gv) rfl (by kernel_rfl) (by kernel_rfl) (by kernel_rfl) (fun _ _ _ h => h) (Or.inl ⟨by rfl, ?_⟩) hHeld ?_
    · (intro w' hSw; (try dsimp only at hSw); have g := (hSw.cell (p := ⟨gg, i, none⟩) (World.block_lt_of_cell? _ _ kg8) hgg5.out).trans kg8; clear hSw hHeld; go_simp; (try with_reducible rfl))
    try simp only [Act.put, List.setIfInBounds_toArray, List.set_cons_zero, List.set_cons_succ]
    refine wpAnyH_take (i := 7) (oi := ({ dst := some 44, op := Op.build 30 #[(0, Operand.tmp 38), (1, Operand.tmp 43)], type := 30, pos := "arena.go:55", after := #[{ on := 1, ground := Ground.data }, { on := 6, ground := Ground.data }, { on := 8, ground := Ground.gcOnly Departure.lateStores }], guard := none } : Oper)) (v := .agg #[.int .i64 ((i : Nat) : Int), .int .i64 gv]) rfl (by kernel_rfl) (by kernel_rfl) (by kernel_rfl) (fun _ _ _ h => h) (Or.inl ⟨by rfl, ?_⟩) hHeld ?_
    · (intro w' hSw; (try dsimp only at hSw); clear hSw hHeld; go_simp; (try with_reducible rfl))
    try simp only [Act.put, List.setIfInBounds_toArray, List.set_cons_zero, List.set_cons_succ]
    refine wpAnyH_ready (rs := [8]) (by kernel_rfl) (by simp) (AllReadyH.cons (o := ({ dst := none, op := Op.store 28 (Operand.tmp 2) (Operand.tmp 37), type := 0, pos := "arena.go:55", after := #[{ on := 0, ground := Ground.data }, { on := 0, ground := Ground.phase }, { on := 1, ground := Ground.textOnly Departure.lateStores }, { on := 2, ground := Ground.textOnly Departure.lateStores }, { on := 3, ground := Ground.textOnly Departure.lateStores }, { on := 4, ground := Ground.textOnly Departure.lateStores }, { on := 5, ground := Ground.textOnly Departure.lateStores }, { on := 6, ground := Ground.textOnly Departure.lateStores }, { on := 7, ground := Ground.textOnly Departure.lateStores }], guard := none } : Oper)) rfl (fun K hK => ?_) AllReadyH.nil)
    rw [if_pos (by rfl)]
    refine wp_store_mid 28 _ _ rfl (w.heap.size + 1) 0 #[.slice (some ⟨gg, 0, none⟩) a.gens.length c2, .slice (some ⟨gl, 0, none⟩) a.live.length d2] rfl rfl ((HR18.out.up (Gou.Mod.drew (fun _ => False) W8)).there 0 2 (by simp)) size_arena (by simp [Value.oneCell']) ?_
    have HT9 := Lib.hid (Blk.setMod W8.drew (w.heap.size + 1) 0 (#[.slice (some ⟨gg, 0, none⟩) a.gens.length c2, .slice (some ⟨gl, 0, none⟩) a.live.length d2] : Array Value).toList)
    have HR19 := Lib.hid ((HR18.out.up (Gou.Mod.drew (fun _ => False) W8)).setAll #[.slice (some ⟨gg, 0, none⟩) a.gens.length c2, .slice (some ⟨gl, 0, none⟩) a.live.length d2] rfl)
    have HR29 := Lib.hid ((HR28.out.up (Gou.Mod.drew (fun _ => False) W8)).mod HT9.out (by omega))
    have M := Lib.hid (hHeld.trans' (HT9.out.imp (fun k _ h => .inl h)))
    have HQ9 := Lib.hid ((Gou.Mod.drew (fun k => k = w.heap.size + 1) W8).trans' HT9.out)
    clear hHeld HT9
    generalize W8.drew.setCells (w.heap.size + 1) 0 (#[.slice (some ⟨gg, 0, none⟩) a.gens.length c2, .slice (some ⟨gl, 0, none⟩) a.live.length d2] : Array Value).toList = W9 at *
    refine hK _ _ M.out (fun hHeld => ?_)
    clear hK K M
    try simp only [Act.put, List.setIfInBounds_toArray, List.set_cons_zero, List.set_cons_succ]
    refine wpAnyH_ready (rs := [9]) (by kernel_rfl) (by simp) (AllReadyH.cons (o := ({ dst := none, op := Op.store 30 (Operand.tmp 3) (Operand.tmp 44), type := 0, pos := "arena.go:55", after := #[{ on := 7, ground := Ground.data }, { on := 8, ground := Ground.chain }, { on := 0, ground := Ground.phase }, { on := 1, ground := Ground.phase }, { on := 2, ground := Ground.phase }, { on := 3, ground := Ground.phase }, { on := 4, ground := Ground.phase }, { on := 5, ground := Ground.phase }, { on := 6, ground := Ground.phase }, { on := 7, ground := Ground.phase }, { on := 8, ground := Ground.phase }], guard := none } : Oper)) rfl (fun K hK => ?_) AllReadyH.nil)
    rw [if_pos (by rfl)]
    refine wp_store_mid 30 _ _ rfl (w.heap.size + 1 + 1) 0 #[.int .i64 ((i : Nat) : Int), .int .i64 gv] rfl rfl (HR29.out.there 0 2 (by simp)) size_id (by simp [Value.oneCell']) ?_
    have HT10 := Lib.hid (Blk.setMod W9 (w.heap.size + 1 + 1) 0 (#[.int .i64 ((i : Nat) : Int), .int .i64 gv] : Array Value).toList)
    have HR110 := Lib.hid (HR19.out.mod HT10.out (by omega))
    have HR210 := Lib.hid (HR29.out.setAll #[.int .i64 ((i : Nat) : Int), .int .i64 gv] rfl)
    have M := Lib.hid (hHeld.trans' (HT10.out.imp (fun k _ h => .inr h)))
    have HQ10 := Lib.hid ((HQ9.out.imp (S' := fun k => k = w.heap.size + 1 ∨ k = w.heap.size + 1 + 1) (fun k _ h => .inl h)).trans' (HT10.out.imp (S' := fun k => k = w.heap.size + 1 ∨ k = w.heap.size + 1 + 1) (fun k _ h => .inr h)))
    clear hHeld HT10
    generalize W9.setCells (w.heap.size + 1 + 1) 0 (#[.int .i64 ((i : Nat) : Int), .int .i64 gv] : Array Value).toList = W10 at *
    refine hK _ _ M.out (fun hHeld => ?_)
    clear hK K M
    try simp only [Act.put, List.setIfInBounds_toArray, List.set_cons_zero, List.set_cons_succ]
    refine wpAnyH_take (i := 10) (oi := ({ dst := some 4, op := Op.assign (Operand.const (Value.bool true)), type := 4, pos := "arena.go:55", after := #[{ on := 9, ground := Ground.chain }, { on := 0, ground := Ground.phase }, { on := 1, ground := Ground.phase }, { on := 2, ground := Ground.phase }, { on := 3, ground := Ground.phase }, { on := 4, ground := Ground.phase }, { on := 5, ground := Ground.phase }, { on := 6, ground := Ground.phase }, { on := 7, ground := Ground.phase }, { on := 8, ground := Ground.phase }, { on := 9, ground := Ground.phase }], guard := none } : Oper)) (v := .bool true) rfl (by kernel_rfl) (by kernel_rfl) (by kernel_rfl) (fun _ _ _ h => h) (Or.inl ⟨by rfl, ?_⟩) hHeld ?_
    · (intro w' hSw; (try dsimp only at hSw); clear hSw hHeld; go_simp; (try with_reducible rfl))
    try simp only [Act.put, List.setIfInBounds_toArray, List.set_cons_zero, List.set_cons_succ]
    have MS := Lib.hid hHeld
    refine wpAnyH_done (by kernel_rfl) ?_ _
    clear hHeld
    go_wp2_with fail
    refine bodyPost_ret (results_cct rfl (ResAt.of rfl HR110.out Try.underlying28 rfl size_arena) (ResAt.of rfl HR210.out Try.underlying30 rfl size_id)) rfl ?_
    have hne8 : ∀ k, W1.heap.size ≤ k → ¬ (k = w.heap.size + 1 ∨ k = w.heap.size + 1 + 1) := fun k hk h => by have := HRlt.out; omega
    have HM10 := Lib.hid (HM8.out.trans HQ10.out (fun k hk h => by omega))
    refine ⟨HM10.out, .slice (some ⟨gg, 0, none⟩) a.gens.length c2, .slice (some ⟨gl, 0, none⟩) a.live.length d2, fun b y hby => ?_, fun hno => by rw [Hfin.out] at hno; cases hno⟩
    rw [Hfin.out] at hby
    cases hby
    exact ⟨rfl, ⟨ownsRow_base (ownsRow_mod Hg8.out HQ10.out (fun k hk => hne8 k (own_ge Hg8.out k hk))) (by have := HRlt.out; omega), ownsRow_base (ownsRow_mod (by simpa using Hl8.out) HQ10.out (fun k hk => hne8 k (own_ge Hl8.out k hk))) (by have := HRlt.out; omega)⟩⟩
  | none =>
    have Hf := Lib.hid hf
    clear hf
    simp only
    by_cases hfull : a.live.length = 1024
    · have Hfull := Lib.hid hfull
      have e1 : decide ((1024 : Int) ≤ (a.live.length : Int)) = true := decide_eq_true (by omega)
      have Hfin : Hid (a.take = none) := Lib.hid (by unfold Ar.take; rw [Hf.out]; simp [hfull])
      clear hfull
      have c50 : W3.cell? ⟨N5, 0, none⟩ = some (.slice p2 a.gens.length c2) := HB5.out.cell 0 rfl
      have r10 := HR1.out.cell 0 rfl
      have r11 := HR1.out.cell 1 rfl
      have r20 := HR2.out.cell 0 rfl
      have r21 := HR2.out.cell 1 rfl
      have s10 := HR1.out.frozen 0
      have s11 := HR1.out.frozen 1
      have s20 := HR2.out.frozen 0
      have s21 := HR2.out.frozen 1
      go_wp2_with fail
      have HA1 := (HR1.out.set 0 (.slice p2 a.gens.length c2)).set 1 (.slice q2 a.live.length d2)
      have hm1 := (Gou.Mod.set1 W3 (w.heap.size + 1) 0 (.slice p2 a.gens.length c2)).trans' (Gou.Mod.set1 _ (w.heap.size + 1) 1 (.slice q2 a.live.length d2))
      have HI1 := ((HR2.out.mod hm1 (by omega)).set 0 (.int .i64 0)).set 1 (.int .i64 0)
      have hm2 := (Gou.Mod.set1 ((W3.setCell ⟨w.heap.size + 1, 0, none⟩ (.slice p2 a.gens.length c2)).setCell ⟨w.heap.size + 1, 1, none⟩ (.slice q2 a.live.length d2)) (w.heap.size + 1 + 1) 0 (.int .i64 0)).trans' (Gou.Mod.set1 _ (w.heap.size + 1 + 1) 1 (.int .i64 0))
      have HA2 := HA1.mod hm2 (by omega)
      refine bodyPost_ret (results_cct rfl (ResAt.of rfl HA2 Try.underlying28 rfl size_arena) (ResAt.of rfl HI1 Try.underlying30 rfl size_id)) rfl ?_
      refine ⟨(HM3.out.trans hm1 (fun k hk e => by omega)).trans hm2 (fun k hk e => by omega), .slice p2 a.gens.length c2, .slice q2 a.live.length d2, ?_, fun _ => ⟨rfl, ⟨_, _, _, rfl⟩, _, _, _, rfl⟩⟩
      intro b y hby
      rw [Hfin.out] at hby
      cases hby
    · have Hfull := Lib.hid hfull
      have e1 : decide ((1024 : Int) ≤ (a.live.length : Int)) = false := decide_eq_false (by have := Hn.out; omega)
      clear hfull
      go_upto_region 7 with fail
      go_cut [] from 23 to 32 (fun wx => ∃ (G : List Int) (L : List Bool) (pg' : Option Addr) (cg' : Nat) (pl' : Option Addr) (cl' : Nat), G = a.gens ++ [0] ∧ L = a.live ++ [false] ∧ Blk wx N5 28 #[.slice pg' G.length cg', .slice pl' L.length cl'] ∧ ArO 3 4 W1.heap.size wx (.slice pg' G.length cg') (.slice pl' L.length cl') ⟨G, L⟩ ∧ Blk wx (w.heap.size + 1) 28 #[.slice none 0 0, .slice none 0 0] ∧ Blk wx (w.heap.size + 1 + 1) 30 #[.int .i64 0, .int .i64 0] ∧ Gou.Mod (fun _ => False) w wx)
      case first =>
        have c50 : W3.cell? ⟨N5, 0, none⟩ = some (.slice p2 a.gens.length c2) := HB5.out.cell 0 rfl
        have c51 : W3.cell? ⟨N5, 1, none⟩ = some (.slice q2 a.live.length d2) := HB5.out.cell 1 rfl
        have hNo : Hid (¬ ((Value.slice p2 a.gens.length c2).ownBlock = some N5 ∨ (Value.slice q2 a.live.length d2).ownBlock = some N5)) := Lib.hid (fun h => h.elim (own_blk_ne Ha3.out.g HB5.out (by decide)) (own_blk_ne Ha3.out.l HB5.out (by decide)))
        have HG := Lib.hid (own_up Ha3.out.g (Gou.Mod.drew (fun _ => False) W3))
        have HV := Lib.hid (own_up Ha3.out.l (Gou.Mod.drew (fun _ => False) W3))
        have HX := Lib.hid (HB5.out.up (Gou.Mod.drew (fun _ => False) W3))
        have HS1 := Lib.hid (HR1.out.up (Gou.Mod.drew (fun _ => False) W3))
        have HS2 := Lib.hid (HR2.out.up (Gou.Mod.drew (fun _ => False) W3))
        have HMM := Lib.hid (HM3.out.trans' (Gou.Mod.drew (fun _ => False) W3))
        have hbase := Lib.hid (Nat.le_trans HNlt.out (Nat.le_of_lt (Blk.lt HB5.out)))
        refine wp_region_defer (S := fun w' => (Gou.Mod (fun k => k = N5 ∨ (fun k => (Value.slice p2 a.gens.length c2).ownBlock = some k ∨ (Value.slice q2 a.live.length d2).ownBlock = some k) k) W3 w' ∧ World.cell? w' ⟨N5, 1, none⟩ = some (.slice q2 a.live.length d2))) 11 ({ dst := none, op := Op.store 26 (Operand.tmp 32) (Operand.tmp 30), type := 0, pos := "arena.go:52", after := #[{ on := 10, ground := Ground.data }, { on := 7, ground := Ground.data }, { on := 9, ground := Ground.chain }, { on := 0, ground := Ground.phase }, { on := 1, ground := Ground.phase }, { on := 2, ground := Ground.phase }, { on := 3, ground := Ground.phase }, { on := 4, ground := Ground.phase }, { on := 5, ground := Ground.phase }, { on := 6, ground := Ground.phase }, { on := 7, ground := Ground.phase }, { on := 8, ground := Ground.phase }, { on := 9, ground := Ground.phase }], guard := none } : Oper) rfl (by kernel_rfl) rfl rfl (by kernel_rfl) (by kernel_rfl) ⟨Gou.Mod.drew _ _, c51⟩ (fun hHeld => ?_)
        refine wpAnyH_take (i := 0) (oi := ({ dst := some 23, op := Op.fieldAddr 28 (Operand.tmp 5) 0, type := 0, pos := "arena.go:52", after := #[], guard := none } : Oper)) (v := .pointer (some ⟨N5, 0, none⟩)) rfl (by kernel_rfl) (by kernel_rfl) (by kernel_rfl) (fun _ _ _ h => h) (Or.inl ⟨by rfl, ?_⟩) hHeld ?_
        · (intro w' hSw; (try dsimp only at hSw); clear hSw hHeld; go_simp; (try with_reducible rfl))
        try simp only [Act.put, List.setIfInBounds_toArray, List.set_cons_zero, List.set_cons_succ]
        refine wpAnyH_take (i := 4) (oi := ({ dst := some 27, op := Op.fieldAddr 28 (Operand.tmp 5) 1, type := 0, pos := "arena.go:52", after := #[], guard := none } : Oper)) (v := .pointer (some ⟨N5, 1, none⟩)) rfl (by kernel_rfl) (by kernel_rfl) (by kernel_rfl) (fun _ _ _ h => h) (Or.inl ⟨by rfl, ?_⟩) hHeld ?_
        · (intro w' hSw; (try dsimp only at hSw); clear hSw hHeld; go_simp; (try with_reducible rfl))
        try simp only [Act.put, List.setIfInBounds_toArray, List.set_cons_zero, List.set_cons_succ]
        refine wpAnyH_take (i := 5) (oi := ({ dst := some 28, op := Op.load 26 (Operand.tmp 27), type := 26, pos := "arena.go:52", after := #[{ on := 4, ground := Ground.data }], guard := none } : Oper)) (v := .slice q2 a.live.length d2) rfl (by kernel_rfl) (by kernel_rfl) (by kernel_rfl) (fun _ _ _ h => h) (Or.inl ⟨by rfl, ?_⟩) hHeld ?_
        · (intro w' hSw; (try dsimp only at hSw); have g := hSw.2; clear hSw hHeld; go_simp; (try with_reducible rfl))
        try simp only [Act.put, List.setIfInBounds_toArray, List.set_cons_zero, List.set_cons_succ]
        refine wpAnyH_ready (rs := [1, 2, 6]) (by kernel_rfl) (by simp) (AllReadyH.cons (o := ({ dst := some 24, op := Op.load 25 (Operand.tmp 23), type := 25, pos := "arena.go:52", after := #[{ on := 0, ground := Ground.data }], guard := none } : Oper)) rfl (fun K11 hK => ?_) (AllReadyH.cons (o := ({ dst := some 25, op := Op.buildSlice 25 1 #[(0, Operand.const (Value.int IntKind.i64 0))], type := 25, pos := "arena.go:52", after := #[], guard := none } : Oper)) rfl (fun K11 hK => ?_) (AllReadyH.cons (o := ({ dst := some 29, op := Op.buildSlice 26 1 #[(0, Operand.const (Value.bool false))], type := 26, pos := "arena.go:52", after := #[], guard := none } : Oper)) rfl (fun K11 hK => ?_) AllReadyH.nil)))
        · skip
          have g0 := HX.out.cell 0 rfl
          go_simp
          clear g0
          have M := Lib.hid hHeld
          clear hHeld
          refine hK _ _ M.out (fun hHeld => ?_)
          clear hK K11 M
          try simp only [Act.put, List.setIfInBounds_toArray, List.set_cons_zero, List.set_cons_succ]
          refine wpAnyH_ready (rs := [2, 6]) (by kernel_rfl) (by simp) (AllReadyH.cons (o := ({ dst := some 25, op := Op.buildSlice 25 1 #[(0, Operand.const (Value.int IntKind.i64 0))], type := 25, pos := "arena.go:52", after := #[], guard := none } : Oper)) rfl (fun K12 hK => ?_) (AllReadyH.cons (o := ({ dst := some 29, op := Op.buildSlice 26 1 #[(0, Operand.const (Value.bool false))], type := 26, pos := "arena.go:52", after := #[], guard := none } : Oper)) rfl (fun K12 hK => ?_) AllReadyH.nil))
          · skip
            go_simp
            have hq : Gou.Mod (fun _ => False) (W3.drew) ((W3.alloc (.cells #[.int .i64 0] 3)).drew) := Gou.Mod.alloc0 (W3.drew) (.cells #[.int .i64 0] 3)
            have HE2 : Hid (Blk ((W3.alloc (.cells #[.int .i64 0] 3)).drew) (W3.heap.size) 3 #[.int .i64 0]) := Lib.hid (Blk.new (W3.drew) 3 #[.int .i64 0])
            replace HG := Lib.hid (own_up HG.out hq)
            replace HV := Lib.hid (own_up HV.out hq)
            replace HX := Lib.hid (Blk.up HX.out hq)
            replace HS1 := Lib.hid (Blk.up HS1.out hq)
            replace HS2 := Lib.hid (Blk.up HS2.out hq)
            replace HMM := Lib.hid (HMM.out.trans' hq)
            have M := Lib.hid (And.intro (hHeld.1.trans' (hq.imp (fun _ _ h => h.elim))) ((hq.cell (p := ⟨N5, 1, none⟩) (World.block_lt_of_cell? _ _ hHeld.2) (fun h => h)).trans hHeld.2))
            clear hHeld hq
            obtain ⟨V2_1, hV2_1⟩ : ∃ x, x = (W3.alloc (.cells #[.int .i64 0] 3)).drew := ⟨_, rfl⟩
            obtain ⟨N_V2_1, hN_V2_1⟩ : ∃ x, x = W3.heap.size := ⟨_, rfl⟩
            rw [← hN_V2_1] at HE2
            rw [← hN_V2_1]
            rw [← hV2_1] at HG HV HX HS1 HS2 HE2 HMM M
            rw [← hV2_1]
            clear hV2_1 hN_V2_1
            refine hK _ _ M.out (fun hHeld => ?_)
            clear hK K12 M
            try simp only [Act.put, List.setIfInBounds_toArray, List.set_cons_zero, List.set_cons_succ]
            refine wpAnyH_ready (rs := [3, 6]) (by kernel_rfl) (by simp) (AllReadyH.cons (o := ({ dst := some 26, op := Op.call { callee := Callee.builtin Builtin.append, args := #[Operand.tmp 24, Operand.tmp 25], argTypes := #[25, 25] }, type := 25, pos := "arena.go:52", after := #[{ on := 1, ground := Ground.data }, { on := 2, ground := Ground.data }], guard := none } : Oper)) rfl (fun K13 hK => ?_) (AllReadyH.cons (o := ({ dst := some 29, op := Op.buildSlice 26 1 #[(0, Operand.const (Value.bool false))], type := 26, pos := "arena.go:52", after := #[], guard := none } : Oper)) rfl (fun K13 hK => ?_) AllReadyH.nil))
            · skip
              rw [if_pos (by rfl)]
              refine wp_append_row T_int _ _ rfl (W1.heap.size) (.slice p2 a.gens.length c2) (a.gens.length) (ivs a.gens) (fun _ => True) (.slice (some ⟨N_V2_1, 0, none⟩) 1 1) 1 [.int .i64 0] rfl rfl (by have := hbase.out; have := hHeld.1.size; omega) HG.out (RowG.of_blk HE2.out 1 1 rfl _ trivial) (by simp [Value.oneCell']) (by have := Hlen.out; have := Hn.out; unfold maxLen; omega) (by have := Hlen.out; have := Hn.out; omega) ?_
              intro v7 V3_2 G7
              obtain ⟨pG, cG, rfl⟩ := Gou.ownsRow_form G7.own
              have hc1 := (G7.mod.cell (p := ⟨N5, 1, none⟩) (World.block_lt_of_cell? _ _ hHeld.2) (own_blk_ne HG.out HX.out (by decide))).trans hHeld.2
              have M := Lib.hid (And.intro (hHeld.1.trans' (G7.mod.imp (fun k _ h => .inr (.inl h)))) hc1)
              replace HMM := Lib.hid (HMM.out.trans G7.mod (fun k hk h => by have := own_ge HG.out k h; have := HRlt.out; omega))
              replace HV := Lib.hid (ownsRow_mod HV.out G7.mod (fun k hk hs => own2_ne HV.out HG.out (by decide) k hk hs))
              replace HX := Lib.hid (Blk.mod HX.out G7.mod (own_blk_ne HG.out HX.out (by decide)))
              replace HS1 := Lib.hid (Blk.mod HS1.out G7.mod (own_blk_ne HG.out HS1.out (by decide)))
              replace HS2 := Lib.hid (Blk.mod HS2.out G7.mod (own_blk_ne HG.out HS2.out (by decide)))
              replace HG := Lib.hid G7.own
              clear HE2 G7 hc1 hHeld
              refine hK _ _ M.out (fun hHeld => ?_)
              clear hK K13 M
              try simp only [Act.put, List.setIfInBounds_toArray, List.set_cons_zero, List.set_cons_succ]
              refine wpAnyH_take (i := 8) (oi := ({ dst := some 31, op := Op.fieldAddr 28 (Operand.tmp 5) 0, type := 0, pos := "arena.go:52", after := #[{ on := 0, ground := Ground.phase }, { on := 1, ground := Ground.phase }, { on := 2, ground := Ground.phase }, { on := 3, ground := Ground.phase }, { on := 4, ground := Ground.phase }, { on := 5, ground := Ground.phase }, { on := 6, ground := Ground.textOnly Departure.lateStores }, { on := 7, ground := Ground.textOnly Departure.lateStoresUnsure }], guard := none } : Oper)) (v := .pointer (some ⟨N5, 0, none⟩)) rfl (by kernel_rfl) (by kernel_rfl) (by kernel_rfl) (fun _ _ _ h => h) (Or.inl ⟨by rfl, ?_⟩) hHeld ?_
              · (intro w' hSw; (try dsimp only at hSw); clear hSw hHeld; go_simp; (try with_reducible rfl))
              try simp only [Act.put, List.setIfInBounds_toArray, List.set_cons_zero, List.set_cons_succ]
              refine wpAnyH_ready (rs := [6]) (by kernel_rfl) (by simp) (AllReadyH.cons (o := ({ dst := some 29, op := Op.buildSlice 26 1 #[(0, Operand.const (Value.bool false))], type := 26, pos := "arena.go:52", after := #[], guard := none } : Oper)) rfl (fun K hK => ?_) AllReadyH.nil)
              go_simp
              have hq : Gou.Mod (fun _ => False) (V3_2) (V3_2.alloc (.cells #[.bool false] 4)) := Gou.Mod.alloc0 (V3_2) (.cells #[.bool false] 4)
              have HE6 : Hid (Blk (V3_2.alloc (.cells #[.bool false] 4)) (V3_2.heap.size) 4 #[.bool false]) := Lib.hid (Blk.new (V3_2) 4 #[.bool false])
              replace HG := Lib.hid (own_up HG.out hq)
              replace HV := Lib.hid (own_up HV.out hq)
              replace HX := Lib.hid (Blk.up HX.out hq)
              replace HS1 := Lib.hid (Blk.up HS1.out hq)
              replace HS2 := Lib.hid (Blk.up HS2.out hq)
              replace HMM := Lib.hid (HMM.out.trans' hq)
              have M := Lib.hid (And.intro (hHeld.1.trans' (hq.imp (fun _ _ h => h.elim))) ((hq.cell (p := ⟨N5, 1, none⟩) (World.block_lt_of_cell? _ _ hHeld.2) (fun h => h)).trans hHeld.2))
              clear hHeld hq
              obtain ⟨V6_3, hV6_3⟩ : ∃ x, x = V3_2.alloc (.cells #[.bool false] 4) := ⟨_, rfl⟩
              obtain ⟨N_V6_3, hN_V6_3⟩ : ∃ x, x = V3_2.heap.size := ⟨_, rfl⟩
              rw [← hN_V6_3] at HE6
              rw [← hN_V6_3]
              rw [← hV6_3] at HG HV HX HS1 HS2 HE6 HMM M
              rw [← hV6_3]
              clear hV6_3 hN_V6_3
              refine hK _ _ M.out (fun hHeld => ?_)
              clear hK K M
              try simp only [Act.put, List.setIfInBounds_toArray, List.set_cons_zero, List.set_cons_succ]
              refine wpAnyH_ready (rs := [7]) (by kernel_rfl) (by simp) (AllReadyH.cons (o := ({ dst := some 30, op := Op.call { callee := Callee.builtin Builtin.append, args := #[Operand.tmp 28, Operand.tmp 29], argTypes := #[26, 26] }, type := 26, pos := "arena.go:52", after := #[{ on := 5, ground := Ground.data }, { on := 6, ground := Ground.data }, { on := 3, ground := Ground.chain }], guard := none } : Oper)) rfl (fun K hK => ?_) AllReadyH.nil)
              rw [if_pos (by rfl)]
              refine wp_append_row T_bool _ _ rfl (W1.heap.size) (.slice q2 a.live.length d2) (a.live.length) (bvs a.live) (fun _ => True) (.slice (some ⟨N_V6_3, 0, none⟩) 1 1) 1 [.bool false] rfl rfl (by have := hbase.out; have := hHeld.1.size; omega) HV.out (RowG.of_blk HE6.out 1 1 rfl _ trivial) (by simp [Value.oneCell']) (by have := Hlen.out; have := Hn.out; unfold maxLen; omega) (by have := Hlen.out; have := Hn.out; omega) ?_
              intro v7 V7_4 G7
              obtain ⟨pL, cL, rfl⟩ := Gou.ownsRow_form G7.own
              have hc1 := (G7.mod.cell (p := ⟨N5, 1, none⟩) (World.block_lt_of_cell? _ _ hHeld.2) (own_blk_ne HV.out HX.out (by decide))).trans hHeld.2
              have M := Lib.hid (And.intro (hHeld.1.trans' (G7.mod.imp (fun k _ h => .inr (.inr h)))) hc1)
              replace HMM := Lib.hid (HMM.out.trans G7.mod (fun k hk h => by have := own_ge HV.out k h; have := HRlt.out; omega))
              replace HG := Lib.hid (ownsRow_mod HG.out G7.mod (fun k hk hs => own2_ne HG.out HV.out (by decide) k hk hs))
              replace HX := Lib.hid (Blk.mod HX.out G7.mod (own_blk_ne HV.out HX.out (by decide)))
              replace HS1 := Lib.hid (Blk.mod HS1.out G7.mod (own_blk_ne HV.out HS1.out (by decide)))
              replace HS2 := Lib.hid (Blk.mod HS2.out G7.mod (own_blk_ne HV.out HS2.out (by decide)))
              replace HV := Lib.hid G7.own
              clear HE6 G7 hc1 hHeld
              refine hK _ _ M.out (fun hHeld => ?_)
              clear hK K M
              try simp only [Act.put, List.setIfInBounds_toArray, List.set_cons_zero, List.set_cons_succ]
              refine wpAnyH_ready (rs := [9]) (by kernel_rfl) (by simp) (AllReadyH.cons (o := ({ dst := none, op := Op.store 25 (Operand.tmp 31) (Operand.tmp 26), type := 0, pos := "arena.go:52", after := #[{ on := 8, ground := Ground.data }, { on := 3, ground := Ground.data }, { on := 7, ground := Ground.chain }, { on := 0, ground := Ground.phase }, { on := 1, ground := Ground.phase }, { on := 2, ground := Ground.phase }, { on := 3, ground := Ground.phase }, { on := 4, ground := Ground.phase }, { on := 5, ground := Ground.phase }, { on := 6, ground := Ground.textOnly Departure.lateStores }, { on := 7, ground := Ground.textOnly Departure.lateStoresUnsure }], guard := none } : Oper)) rfl (fun K hK => ?_) AllReadyH.nil)
              have g0 := HX.out.cell 0 rfl
              have g1 := HX.out.frozen 0
              go_simp
              clear g0 g1
              have hq := Gou.Mod.set1 V7_4 N5 0 (.slice pG (a.gens.length + 1) cG)
              replace HG := Lib.hid (ownsRow_mod HG.out hq (fun k hk e => own_blk_ne HG.out HX.out (by decide) (by rw [hk, e])))
              replace HV := Lib.hid (ownsRow_mod HV.out hq (fun k hk e => own_blk_ne HV.out HX.out (by decide) (by rw [hk, e])))
              replace HS1 := Lib.hid (Blk.mod HS1.out hq (by have := HRlt.out; have := HNlt.out; omega))
              replace HS2 := Lib.hid (Blk.mod HS2.out hq (by have := HRlt.out; have := HNlt.out; omega))
              replace HMM := Lib.hid (HMM.out.trans hq (fun k hk e => by have := HRlt.out; have := HNlt.out; omega))
              have M : Hid (Gou.Mod (fun k => k = N5 ∨ (fun k => (Value.slice p2 a.gens.length c2).ownBlock = some k ∨ (Value.slice q2 a.live.length d2).ownBlock = some k) k) W3 _ ∧ World.cell? _ ⟨N5, 1, none⟩ = some (.slice q2 a.live.length d2)) := Lib.hid (And.intro ((hHeld.1).trans' (hq.imp (fun k _ h => .inl h))) (Blk.cell (HX.out.set 0 (.slice pG (a.gens.length + 1) cG)) 1 rfl))
              replace HX := Lib.hid (HX.out.set 0 (.slice pG (a.gens.length + 1) cG))
              clear hq hHeld
              refine hK _ _ M.out (fun hHeld => ?_)
              clear hK K M
              try simp only [Act.put, List.setIfInBounds_toArray, List.set_cons_zero, List.set_cons_succ]
              refine wpAnyH_take (i := 10) (oi := ({ dst := some 32, op := Op.fieldAddr 28 (Operand.tmp 5) 1, type := 0, pos := "arena.go:52", after := #[{ on := 0, ground := Ground.phase }, { on := 1, ground := Ground.phase }, { on := 2, ground := Ground.phase }, { on := 3, ground := Ground.phase }, { on := 4, ground := Ground.phase }, { on := 5, ground := Ground.phase }, { on := 6, ground := Ground.phase }, { on := 7, ground := Ground.phase }, { on := 8, ground := Ground.phase }, { on := 9, ground := Ground.phase }], guard := none } : Oper)) (v := .pointer (some ⟨N5, 1, none⟩)) rfl (by kernel_rfl) (by kernel_rfl) (by kernel_rfl) (fun _ _ _ h => h) (Or.inl ⟨by rfl, ?_⟩) hHeld ?_
              · (intro w' hSw; (try dsimp only at hSw); clear hSw hHeld; go_simp; (try with_reducible rfl))
              try simp only [Act.put, List.setIfInBounds_toArray, List.set_cons_zero, List.set_cons_succ]
              refine wpAnyH_take (i := 11) (oi := ({ dst := none, op := Op.assign (Operand.const (Value.bool true)), type := 0, pos := "arena.go:52", after := #[{ on := 10, ground := Ground.data }, { on := 7, ground := Ground.data }, { on := 9, ground := Ground.chain }, { on := 0, ground := Ground.phase }, { on := 1, ground := Ground.phase }, { on := 2, ground := Ground.phase }, { on := 3, ground := Ground.phase }, { on := 4, ground := Ground.phase }, { on := 5, ground := Ground.phase }, { on := 6, ground := Ground.phase }, { on := 7, ground := Ground.phase }, { on := 8, ground := Ground.phase }, { on := 9, ground := Ground.phase }], guard := none } : Oper)) (v := .bool true) rfl (by kernel_rfl) (by kernel_rfl) (by kernel_rfl) (fun _ _ _ h => h) (Or.inl ⟨by rfl, ?_⟩) hHeld ?_
              · (intro w' hSw; clear hSw hHeld; go_simp; (try with_reducible rfl))
              try simp only [Act.put, List.setIfInBounds_toArray, List.set_cons_zero, List.set_cons_succ]
              have MS := Lib.hid hHeld
              refine wpAnyH_done (by kernel_rfl) ?_ _
              clear hHeld
              show Oper.wp _ _ _ _ _ _
              have g0 := HX.out.cell 1 rfl
              have g1 := HX.out.frozen 1
              clear MS
              go_simp
              clear g0 g1
              have hq := Gou.Mod.set1 (V7_4.setCell ⟨N5, 0, none⟩ (.slice pG (a.gens.length + 1) cG)) N5 1 (.slice pL (a.live.length + 1) cL)
              have HXn := HX.out.set 1 (.slice pL (a.live.length + 1) cL)
              have HGn := ownsRow_mod HG.out hq (fun k hk e => own_blk_ne HG.out HX.out (by decide) (by rw [hk, e]))
              have HVn := ownsRow_mod HV.out hq (fun k hk e => own_blk_ne HV.out HX.out (by decide) (by rw [hk, e]))
              have HS1n := HS1.out.mod hq (by have := HRlt.out; have := HNlt.out; omega)
              have HS2n := HS2.out.mod hq (by have := HRlt.out; have := HNlt.out; omega)
              have HMn := HMM.out.trans hq (fun k hk e => by have := HRlt.out; have := HNlt.out; omega)
              go_wp2_with fail
              go_meet
              case rel => exact ⟨_, _, pG, cG, pL, cL, rfl, rfl, by simpa using HXn, ⟨by simpa [ivs] using HGn, by simpa [bvs] using HVn⟩, HS1n, HS2n, HMn⟩
            · skip
              go_simp
              have hq : Gou.Mod (fun _ => False) (V2_1) (V2_1.alloc (.cells #[.bool false] 4)) := Gou.Mod.alloc0 (V2_1) (.cells #[.bool false] 4)
              have HE6 : Hid (Blk (V2_1.alloc (.cells #[.bool false] 4)) (V2_1.heap.size) 4 #[.bool false]) := Lib.hid (Blk.new (V2_1) 4 #[.bool false])
              replace HG := Lib.hid (own_up HG.out hq)
              replace HV := Lib.hid (own_up HV.out hq)
              replace HX := Lib.hid (Blk.up HX.out hq)
              replace HS1 := Lib.hid (Blk.up HS1.out hq)
              replace HS2 := Lib.hid (Blk.up HS2.out hq)
              replace HE2 := Lib.hid (Blk.up HE2.out hq)
              replace HMM := Lib.hid (HMM.out.trans' hq)
              have M := Lib.hid (And.intro (hHeld.1.trans' (hq.imp (fun _ _ h => h.elim))) ((hq.cell (p := ⟨N5, 1, none⟩) (World.block_lt_of_cell? _ _ hHeld.2) (fun h => h)).trans hHeld.2))
              clear hHeld hq
              obtain ⟨V6_2, hV6_2⟩ : ∃ x, x = V2_1.alloc (.cells #[.bool false] 4) := ⟨_, rfl⟩
              obtain ⟨N_V6_2, hN_V6_2⟩ : ∃ x, x = V2_1.heap.size := ⟨_, rfl⟩
              rw [← hN_V6_2] at HE6
              rw [← hN_V6_2]
              rw [← hV6_2] at HG HV HX HS1 HS2 HE2 HE6 HMM M
              rw [← hV6_2]
              clear hV6_2 hN_V6_2
              refine hK _ _ M.out (fun hHeld => ?_)
              clear hK K13 M
              try simp only [Act.put, List.setIfInBounds_toArray, List.set_cons_zero, List.set_cons_succ]
              refine wpAnyH_ready (rs := [3]) (by kernel_rfl) (by simp) (AllReadyH.cons (o := ({ dst := some 26, op := Op.call { callee := Callee.builtin Builtin.append, args := #[Operand.tmp 24, Operand.tmp 25], argTypes := #[25, 25] }, type := 25, pos := "arena.go:52", after := #[{ on := 1, ground := Ground.data }, { on := 2, ground := Ground.data }], guard := none } : Oper)) rfl (fun K hK => ?_) AllReadyH.nil)
              rw [if_pos (by rfl)]
              refine wp_append_row T_int _ _ rfl (W1.heap.size) (.slice p2 a.gens.length c2) (a.gens.length) (ivs a.gens) (fun _ => True) (.slice (some ⟨N_V2_1, 0, none⟩) 1 1) 1 [.int .i64 0] rfl rfl (by have := hbase.out; have := hHeld.1.size; omega) HG.out (RowG.of_blk HE2.out 1 1 rfl _ trivial) (by simp [Value.oneCell']) (by have := Hlen.out; have := Hn.out; unfold maxLen; omega) (by have := Hlen.out; have := Hn.out; omega) ?_
              intro v7 V3_3 G7
              obtain ⟨pG, cG, rfl⟩ := Gou.ownsRow_form G7.own
              have hc1 := (G7.mod.cell (p := ⟨N5, 1, none⟩) (World.block_lt_of_cell? _ _ hHeld.2) (own_blk_ne HG.out HX.out (by decide))).trans hHeld.2
              have M := Lib.hid (And.intro (hHeld.1.trans' (G7.mod.imp (fun k _ h => .inr (.inl h)))) hc1)
              replace HMM := Lib.hid (HMM.out.trans G7.mod (fun k hk h => by have := own_ge HG.out k h; have := HRlt.out; omega))
              replace HV := Lib.hid (ownsRow_mod HV.out G7.mod (fun k hk hs => own2_ne HV.out HG.out (by decide) k hk hs))
              replace HX := Lib.hid (Blk.mod HX.out G7.mod (own_blk_ne HG.out HX.out (by decide)))
              replace HS1 := Lib.hid (Blk.mod HS1.out G7.mod (own_blk_ne HG.out HS1.out (by decide)))
              replace HS2 := Lib.hid (Blk.mod HS2.out G7.mod (own_blk_ne HG.out HS2.out (by decide)))
              replace HE6 := Lib.hid (Blk.mod HE6.out G7.mod (own_blk_ne HG.out HE6.out (by decide)))
              replace HG := Lib.hid G7.own
              clear HE2 G7 hc1 hHeld
              refine hK _ _ M.out (fun hHeld => ?_)
              clear hK K M
              try simp only [Act.put, List.setIfInBounds_toArray, List.set_cons_zero, List.set_cons_succ]
              refine wpAnyH_take (i := 8) (oi := ({ dst := some 31, op := Op.fieldAddr 28 (Operand.tmp 5) 0, type := 0, pos := "arena.go:52", after := #[{ on := 0, ground := Ground.phase }, { on := 1, ground := Ground.phase }, { on := 2, ground := Ground.phase }, { on := 3, ground := Ground.phase }, { on := 4, ground := Ground.phase }, { on := 5, ground := Ground.phase }, { on := 6, ground := Ground.textOnly Departure.lateStores }, { on := 7, ground := Ground.textOnly Departure.lateStoresUnsure }], guard := none } : Oper)) (v := .pointer (some ⟨N5, 0, none⟩)) rfl (by kernel_rfl) (by kernel_rfl) (by kernel_rfl) (fun _ _ _ h => h) (Or.inl ⟨by rfl, ?_⟩) hHeld ?_
              · (intro w' hSw; (try dsimp only at hSw); clear hSw hHeld; go_simp; (try with_reducible rfl))
              try simp only [Act.put, List.setIfInBounds_toArray, List.set_cons_zero, List.set_cons_succ]
              refine wpAnyH_ready (rs := [7]) (by kernel_rfl) (by simp) (AllReadyH.cons (o := ({ dst := some 30, op := Op.call { callee := Callee.builtin Builtin.append, args := #[Operand.tmp 28, Operand.tmp 29], argTypes := #[26, 26] }, type := 26, pos := "arena.go:52", after := #[{ on := 5, ground := Ground.data }, { on := 6, ground := Ground.data }, { on := 3, ground := Ground.chain }], guard := none } : Oper)) rfl (fun K hK => ?_) AllReadyH.nil)
              rw [if_pos (by rfl)]
              refine wp_append_row T_bool _ _ rfl (W1.heap.size) (.slice q2 a.live.length d2) (a.live.length) (bvs a.live) (fun _ => True) (.slice (some ⟨N_V6_2, 0, none⟩) 1 1) 1 [.bool false] rfl rfl (by have := hbase.out; have := hHeld.1.size; omega) HV.out (RowG.of_blk HE6.out 1 1 rfl _ trivial) (by simp [Value.oneCell']) (by have := Hlen.out; have := Hn.out; unfold maxLen; omega) (by have := Hlen.out; have := Hn.out; omega) ?_
              intro v7 V7_4 G7
              obtain ⟨pL, cL, rfl⟩ := Gou.ownsRow_form G7.own
              have hc1 := (G7.mod.cell (p := ⟨N5, 1, none⟩) (World.block_lt_of_cell? _ _ hHeld.2) (own_blk_ne HV.out HX.out (by decide))).trans hHeld.2
              have M := Lib.hid (And.intro (hHeld.1.trans' (G7.mod.imp (fun k _ h => .inr (.inr h)))) hc1)
              replace HMM := Lib.hid (HMM.out.trans G7.mod (fun k hk h => by have := own_ge HV.out k h; have := HRlt.out; omega))
              replace HG := Lib.hid (ownsRow_mod HG.out G7.mod (fun k hk hs => own2_ne HG.out HV.out (by decide) k hk hs))
              replace HX := Lib.hid (Blk.mod HX.out G7.mod (own_blk_ne HV.out HX.out (by decide)))
              replace HS1 := Lib.hid (Blk.mod HS1.out G7.mod (own_blk_ne HV.out HS1.out (by decide)))
              replace HS2 := Lib.hid (Blk.mod HS2.out G7.mod (own_blk_ne HV.out HS2.out (by decide)))
              replace HV := Lib.hid G7.own
              clear HE6 G7 hc1 hHeld
              refine hK _ _ M.out (fun hHeld => ?_)
              clear hK K M
              try simp only [Act.put, List.setIfInBounds_toArray, List.set_cons_zero, List.set_cons_succ]
              refine wpAnyH_ready (rs := [9]) (by kernel_rfl) (by simp) (AllReadyH.cons (o := ({ dst := none, op := Op.store 25 (Operand.tmp 31) (Operand.tmp 26), type := 0, pos := "arena.go:52", after := #[{ on := 8, ground := Ground.data }, { on := 3, ground := Ground.data }, { on := 7, ground := Ground.chain }, { on := 0, ground := Ground.phase }, { on := 1, ground := Ground.phase }, { on := 2, ground := Ground.phase }, { on := 3, ground := Ground.phase }, { on := 4, ground := Ground.phase }, { on := 5, ground := Ground.phase }, { on := 6, ground := Ground.textOnly Departure.lateStores }, { on := 7, ground := Ground.textOnly Departure.lateStoresUnsure }], guard := none } : Oper)) rfl (fun K hK => ?_) AllReadyH.nil)
              have g0 := HX.out.cell 0 rfl
              have g1 := HX.out.frozen 0
              go_simp
              clear g0 g1
              have hq := Gou.Mod.set1 V7_4 N5 0 (.slice pG (a.gens.length + 1) cG)
              replace HG := Lib.hid (ownsRow_mod HG.out hq (fun k hk e => own_blk_ne HG.out HX.out (by decide) (by rw [hk, e])))
              replace HV := Lib.hid (ownsRow_mod HV.out hq (fun k hk e => own_blk_ne HV.out HX.out (by decide) (by rw [hk, e])))
              replace HS1 := Lib.hid (Blk.mod HS1.out hq (by have := HRlt.out; have := HNlt.out; omega))
              replace HS2 := Lib.hid (Blk.mod HS2.out hq (by have := HRlt.out; have := HNlt.out; omega))
              replace HMM := Lib.hid (HMM.out.trans hq (fun k hk e => by have := HRlt.out; have := HNlt.out; omega))
              have M : Hid (Gou.Mod (fun k => k = N5 ∨ (fun k => (Value.slice p2 a.gens.length c2).ownBlock = some k ∨ (Value.slice q2 a.live.length d2).ownBlock = some k) k) W3 _ ∧ World.cell? _ ⟨N5, 1, none⟩ = some (.slice q2 a.live.length d2)) := Lib.hid (And.intro ((hHeld.1).trans' (hq.imp (fun k _ h => .inl h))) (Blk.cell (HX.out.set 0 (.slice pG (a.gens.length + 1) cG)) 1 rfl))
              replace HX := Lib.hid (HX.out.set 0 (.slice pG (a.gens.length + 1) cG))
              clear hq hHeld
              refine hK _ _ M.out (fun hHeld => ?_)
              clear hK K M
              try simp only [Act.put, List.setIfInBounds_toArray, List.set_cons_zero, List.set_cons_succ]
              refine wpAnyH_take (i := 10) (oi := ({ dst := some 32, op := Op.fieldAddr 28 (Operand.tmp 5) 1, type := 0, pos := "arena.go:52", after := #[{ on := 0, ground := Ground.phase }, { on := 1, ground := Ground.phase }, { on := 2, ground := Ground.phase }, { on := 3, ground := Ground.phase }, { on := 4, ground := Ground.phase }, { on := 5, ground := Ground.phase }, { on := 6, ground := Ground.phase }, { on := 7, ground := Ground.phase }, { on := 8, ground := Ground.phase }, { on := 9, ground := Ground.phase }], guard := none } : Oper)) (v := .pointer (some ⟨N5, 1, none⟩)) rfl (by kernel_rfl) (by kernel_rfl) (by kernel_rfl) (fun _ _ _ h => h) (Or.inl ⟨by rfl, ?_⟩) hHeld ?_
              · (intro w' hSw; (try dsimp only at hSw); clear hSw hHeld; go_simp; (try with_reducible rfl))
              try simp only [Act.put, List.setIfInBounds_toArray, List.set_cons_zero, List.set_cons_succ]
              refine wpAnyH_take (i := 11) (oi := ({ dst := none, op := Op.assign (Operand.const (Value.bool true)), type := 0, pos := "arena.go:52", after := #[{ on := 10, ground := Ground.data }, { on := 7, ground := Ground.data }, { on := 9, ground := Ground.chain }, { on := 0, ground := Ground.phase }, { on := 1, ground := Ground.phase }, { on := 2, ground := Ground.phase }, { on := 3, ground := Ground.phase }, { on := 4, ground := Ground.phase }, { on := 5, ground := Ground.phase }, { on := 6, ground := Ground.phase }, { on := 7, ground := Ground.phase }, { on := 8, ground := Ground.phase }, { on := 9, ground := Ground.phase }], guard := none } : Oper)) (v := .bool true) rfl (by kernel_rfl) (by kernel_rfl) (by kernel_rfl) (fun _ _ _ h => h) (Or.inl ⟨by rfl, ?_⟩) hHeld ?_
              · (intro w' hSw; clear hSw hHeld; go_simp; (try with_reducible rfl))
              try simp only [Act.put, List.setIfInBounds_toArray, List.set_cons_zero, List.set_cons_succ]
              have MS := Lib.hid hHeld
              refine wpAnyH_done (by kernel_rfl) ?_ _
              clear hHeld
              show Oper.wp _ _ _ _ _ _
              have g0 := HX.out.cell 1 rfl
              have g1 := HX.out.frozen 1
              clear MS
              go_simp
              clear g0 g1
              have hq := Gou.Mod.set1 (V7_4.setCell ⟨N5, 0, none⟩ (.slice pG (a.gens.length + 1) cG)) N5 1 (.slice pL (a.live.length + 1) cL)
              have HXn := HX.out.set 1 (.slice pL (a.live.length + 1) cL)
              have HGn := ownsRow_mod HG.out hq (fun k hk e => own_blk_ne HG.out HX.out (by decide) (by rw [hk, e]))
              have HVn := ownsRow_mod HV.out hq (fun k hk e => own_blk_ne HV.out HX.out (by decide) (by rw [hk, e]))
              have HS1n := HS1.out.mod hq (by have := HRlt.out; have := HNlt.out; omega)
              have HS2n := HS2.out.mod hq (by have := HRlt.out; have := HNlt.out; omega)
              have HMn := HMM.out.trans hq (fun k hk e => by have := HRlt.out; have := HNlt.out; omega)
              go_wp2_with fail
              go_meet
              case rel => exact ⟨_, _, pG, cG, pL, cL, rfl, rfl, by simpa using HXn, ⟨by simpa [ivs] using HGn, by simpa [bvs] using HVn⟩, HS1n, HS2n, HMn⟩
          · skip
            go_simp
            have hq : Gou.Mod (fun _ => False) (W3.drew) ((W3.alloc (.cells #[.bool false] 4)).drew) := Gou.Mod.alloc0 (W3.drew) (.cells #[.bool false] 4)
            have HE6 : Hid (Blk ((W3.alloc (.cells #[.bool false] 4)).drew) (W3.heap.size) 4 #[.bool false]) := Lib.hid (Blk.new (W3.drew) 4 #[.bool false])
            replace HG := Lib.hid (own_up HG.out hq)
            replace HV := Lib.hid (own_up HV.out hq)
            replace HX := Lib.hid (Blk.up HX.out hq)
            replace HS1 := Lib.hid (Blk.up HS1.out hq)
            replace HS2 := Lib.hid (Blk.up HS2.out hq)
            replace HMM := Lib.hid (HMM.out.trans' hq)
            have M := Lib.hid (And.intro (hHeld.1.trans' (hq.imp (fun _ _ h => h.elim))) ((hq.cell (p := ⟨N5, 1, none⟩) (World.block_lt_of_cell? _ _ hHeld.2) (fun h => h)).trans hHeld.2))
            clear hHeld hq
            obtain ⟨V6_1, hV6_1⟩ : ∃ x, x = (W3.alloc (.cells #[.bool false] 4)).drew := ⟨_, rfl⟩
            obtain ⟨N_V6_1, hN_V6_1⟩ : ∃ x, x = W3.heap.size := ⟨_, rfl⟩
            rw [← hN_V6_1] at HE6
            rw [← hN_V6_1]
            rw [← hV6_1] at HG HV HX HS1 HS2 HE6 HMM M
            rw [← hV6_1]
            clear hV6_1 hN_V6_1
            refine hK _ _ M.out (fun hHeld => ?_)
            clear hK K12 M
            try simp only [Act.put, List.setIfInBounds_toArray, List.set_cons_zero, List.set_cons_succ]
            refine wpAnyH_ready (rs := [2]) (by kernel_rfl) (by simp) (AllReadyH.cons (o := ({ dst := some 25, op := Op.buildSlice 25 1 #[(0, Operand.const (Value.int IntKind.i64 0))], type := 25, pos := "arena.go:52", after := #[], guard := none } : Oper)) rfl (fun K hK => ?_) AllReadyH.nil)
            go_simp
            have hq : Gou.Mod (fun _ => False) (V6_1) (V6_1.alloc (.cells #[.int .i64 0] 3)) := Gou.Mod.alloc0 (V6_1) (.cells #[.int .i64 0] 3)
            have HE2 : Hid (Blk (V6_1.alloc (.cells #[.int .i64 0] 3)) (V6_1.heap.size) 3 #[.int .i64 0]) := Lib.hid (Blk.new (V6_1) 3 #[.int .i64 0])
            replace HG := Lib.hid (own_up HG.out hq)
            replace HV := Lib.hid (own_up HV.out hq)
            replace HX := Lib.hid (Blk.up HX.out hq)
            replace HS1 := Lib.hid (Blk.up HS1.out hq)
            replace HS2 := Lib.hid (Blk.up HS2.out hq)
            replace HE6 := Lib.hid (Blk.up HE6.out hq)
            replace HMM := Lib.hid (HMM.out.trans' hq)
            have M := Lib.hid (And.intro (hHeld.1.trans' (hq.imp (fun _ _ h => h.elim))) ((hq.cell (p := ⟨N5, 1, none⟩) (World.block_lt_of_cell? _ _ hHeld.2) (fun h => h)).trans hHeld.2))
            clear hHeld hq
            obtain ⟨V2_2, hV2_2⟩ : ∃ x, x = V6_1.alloc (.cells #[.int .i64 0] 3) := ⟨_, rfl⟩
            obtain ⟨N_V2_2, hN_V2_2⟩ : ∃ x, x = V6_1.heap.size := ⟨_, rfl⟩
            rw [← hN_V2_2] at HE2
            rw [← hN_V2_2]
            rw [← hV2_2] at HG HV HX HS1 HS2 HE6 HE2 HMM M
            rw [← hV2_2]
            clear hV2_2 hN_V2_2
            refine hK _ _ M.out (fun hHeld => ?_)
            clear hK K M
            try simp only [Act.put, List.setIfInBounds_toArray, List.set_cons_zero, List.set_cons_succ]
            refine wpAnyH_ready (rs := [3]) (by kernel_rfl) (by simp) (AllReadyH.cons (o := ({ dst := some 26, op := Op.call { callee := Callee.builtin Builtin.append, args := #[Operand.tmp 24, Operand.tmp 25], argTypes := #[25, 25] }, type := 25, pos := "arena.go:52", after := #[{ on := 1, ground := Ground.data }, { on := 2, ground := Ground.data }], guard := none } : Oper)) rfl (fun K hK => ?_) AllReadyH.nil)
            rw [if_pos (by rfl)]
            refine wp_append_row T_int _ _ rfl (W1.heap.size) (.slice p2 a.gens.length c2) (a.gens.length) (ivs a.gens) (fun _ => True) (.slice (some ⟨N_V2_2, 0, none⟩) 1 1) 1 [.int .i64 0] rfl rfl (by have := hbase.out; have := hHeld.1.size; omega) HG.out (RowG.of_blk HE2.out 1 1 rfl _ trivial) (by simp [Value.oneCell']) (by have := Hlen.out; have := Hn.out; unfold maxLen; omega) (by have := Hlen.out; have := Hn.out; omega) ?_
            intro v7 V3_3 G7
            obtain ⟨pG, cG, rfl⟩ := Gou.ownsRow_form G7.own
            have hc1 := (G7.mod.cell (p := ⟨N5, 1, none⟩) (World.block_lt_of_cell? _ _ hHeld.2) (own_blk_ne HG.out HX.out (by decide))).trans hHeld.2
            have M := Lib.hid (And.intro (hHeld.1.trans' (G7.mod.imp (fun k _ h => .inr (.inl h)))) hc1)
            replace HMM := Lib.hid (HMM.out.trans G7.mod (fun k hk h => by have := own_ge HG.out k h; have := HRlt.out; omega))
            replace HV := Lib.hid (ownsRow_mod HV.out G7.mod (fun k hk hs => own2_ne HV.out HG.out (by decide) k hk hs))
            replace HX := Lib.hid (Blk.mod HX.out G7.mod (own_blk_ne HG.out HX.out (by decide)))
            replace HS1 := Lib.hid (Blk.mod HS1.out G7.mod (own_blk_ne HG.out HS1.out (by decide)))
            replace HS2 := Lib.hid (Blk.mod HS2.out G7.mod (own_blk_ne HG.out HS2.out (by decide)))
            replace HE6 := Lib.hid (Blk.mod HE6.out G7.mod (own_blk_ne HG.out HE6.out (by decide)))
            replace HG := Lib.hid G7.own
            clear HE2 G7 hc1 hHeld
            refine hK _ _ M.out (fun hHeld => ?_)
            clear hK K M
            try simp only [Act.put, List.setIfInBounds_toArray, List.set_cons_zero, List.set_cons_succ]
            refine wpAnyH_take (i := 8) (oi := ({ dst := some 31, op := Op.fieldAddr 28 (Operand.tmp 5) 0, type := 0, pos := "arena.go:52", after := #[{ on := 0, ground := Ground.phase }, { on := 1, ground := Ground.phase }, { on := 2, ground := Ground.phase }, { on := 3, ground := Ground.phase }, { on := 4, ground := Ground.phase }, { on := 5, ground := Ground.phase }, { on := 6, ground := Ground.textOnly Departure.lateStores }, { on := 7, ground := Ground.textOnly Departure.lateStoresUnsure }], guard := none } : Oper)) (v := .pointer (some ⟨N5, 0, none⟩)) rfl (by kernel_rfl) (by kernel_rfl) (by kernel_rfl) (fun _ _ _ h => h) (Or.inl ⟨by rfl, ?_⟩) hHeld ?_
            · (intro w' hSw; (try dsimp only at hSw); clear hSw hHeld; go_simp; (try with_reducible rfl))
            try simp only [Act.put, List.setIfInBounds_toArray, List.set_cons_zero, List.set_cons_succ]
            refine wpAnyH_ready (rs := [7]) (by kernel_rfl) (by simp) (AllReadyH.cons (o := ({ dst := some 30, op := Op.call { callee := Callee.builtin Builtin.append, args := #[Operand.tmp 28, Operand.tmp 29], argTypes := #[26, 26] }, type := 26, pos := "arena.go:52", after := #[{ on := 5, ground := Ground.data }, { on := 6, ground := Ground.data }, { on := 3, ground := Ground.chain }], guard := none } : Oper)) rfl (fun K hK => ?_) AllReadyH.nil)
            rw [if_pos (by rfl)]
            refine wp_append_row T_bool _ _ rfl (W1.heap.size) (.slice q2 a.live.length d2) (a.live.length) (bvs a.live) (fun _ => True) (.slice (some ⟨N_V6_1, 0, none⟩) 1 1) 1 [.bool false] rfl rfl (by have := hbase.out; have := hHeld.1.size; omega) HV.out (RowG.of_blk HE6.out 1 1 rfl _ trivial) (by simp [Value.oneCell']) (by have := Hlen.out; have := Hn.out; unfold maxLen; omega) (by have := Hlen.out; have := Hn.out; omega) ?_
            intro v7 V7_4 G7
            obtain ⟨pL, cL, rfl⟩ := Gou.ownsRow_form G7.own
            have hc1 := (G7.mod.cell (p := ⟨N5, 1, none⟩) (World.block_lt_of_cell? _ _ hHeld.2) (own_blk_ne HV.out HX.out (by decide))).trans hHeld.2
            have M := Lib.hid (And.intro (hHeld.1.trans' (G7.mod.imp (fun k _ h => .inr (.inr h)))) hc1)
            replace HMM := Lib.hid (HMM.out.trans G7.mod (fun k hk h => by have := own_ge HV.out k h; have := HRlt.out; omega))
            replace HG := Lib.hid (ownsRow_mod HG.out G7.mod (fun k hk hs => own2_ne HG.out HV.out (by decide) k hk hs))
            replace HX := Lib.hid (Blk.mod HX.out G7.mod (own_blk_ne HV.out HX.out (by decide)))
            replace HS1 := Lib.hid (Blk.mod HS1.out G7.mod (own_blk_ne HV.out HS1.out (by decide)))
            replace HS2 := Lib.hid (Blk.mod HS2.out G7.mod (own_blk_ne HV.out HS2.out (by decide)))
            replace HV := Lib.hid G7.own
            clear HE6 G7 hc1 hHeld
            refine hK _ _ M.out (fun hHeld => ?_)
            clear hK K M
            try simp only [Act.put, List.setIfInBounds_toArray, List.set_cons_zero, List.set_cons_succ]
            refine wpAnyH_ready (rs := [9]) (by kernel_rfl) (by simp) (AllReadyH.cons (o := ({ dst := none, op := Op.store 25 (Operand.tmp 31) (Operand.tmp 26), type := 0, pos := "arena.go:52", after := #[{ on := 8, ground := Ground.data }, { on := 3, ground := Ground.data }, { on := 7, ground := Ground.chain }, { on := 0, ground := Ground.phase }, { on := 1, ground := Ground.phase }, { on := 2, ground := Ground.phase }, { on := 3, ground := Ground.phase }, { on := 4, ground := Ground.phase }, { on := 5, ground := Ground.phase }, { on := 6, ground := Ground.textOnly Departure.lateStores }, { on := 7, ground := Ground.textOnly Departure.lateStoresUnsure }], guard := none } : Oper)) rfl (fun K hK => ?_) AllReadyH.nil)
            have g0 := HX.out.cell 0 rfl
            have g1 := HX.out.frozen 0
            go_simp
            clear g0 g1
            have hq := Gou.Mod.set1 V7_4 N5 0 (.slice pG (a.gens.length + 1) cG)
            replace HG := Lib.hid (ownsRow_mod HG.out hq (fun k hk e => own_blk_ne HG.out HX.out (by decide) (by rw [hk, e])))
            replace HV := Lib.hid (ownsRow_mod HV.out hq (fun k hk e => own_blk_ne HV.out HX.out (by decide) (by rw [hk, e])))
            replace HS1 := Lib.hid (Blk.mod HS1.out hq (by have := HRlt.out; have := HNlt.out; omega))
            replace HS2 := Lib.hid (Blk.mod HS2.out hq (by have := HRlt.out; have := HNlt.out; omega))
            replace HMM := Lib.hid (HMM.out.trans hq (fun k hk e => by have := HRlt.out; have := HNlt.out; omega))
            have M : Hid (Gou.Mod (fun k => k = N5 ∨ (fun k => (Value.slice p2 a.gens.length c2).ownBlock = some k ∨ (Value.slice q2 a.live.length d2).ownBlock = some k) k) W3 _ ∧ World.cell? _ ⟨N5, 1, none⟩ = some (.slice q2 a.live.length d2)) := Lib.hid (And.intro ((hHeld.1).trans' (hq.imp (fun k _ h => .inl h))) (Blk.cell (HX.out.set 0 (.slice pG (a.gens.length + 1) cG)) 1 rfl))
            replace HX := Lib.hid (HX.out.set 0 (.slice pG (a.gens.length + 1) cG))
            clear hq hHeld
            refine hK _ _ M.out (fun hHeld => ?_)
            clear hK K M
            try simp only [Act.put, List.setIfInBounds_toArray, List.set_cons_zero, List.set_cons_succ]
            refine wpAnyH_take (i := 10) (oi := ({ dst := some 32, op := Op.fieldAddr 28 (Operand.tmp 5) 1, type := 0, pos := "arena.go:52", after := #[{ on := 0, ground := Ground.phase }, { on := 1, ground := Ground.phase }, { on := 2, ground := Ground.phase }, { on := 3, ground := Ground.phase }, { on := 4, ground := Ground.phase }, { on := 5, ground := Ground.phase }, { on := 6, ground := Ground.phase }, { on := 7, ground := Ground.phase }, { on := 8, ground := Ground.phase }, { on := 9, ground := Ground.phase }], guard := none } : Oper)) (v := .pointer (some ⟨N5, 1, none⟩)) rfl (by kernel_rfl) (by kernel_rfl) (by kernel_rfl) (fun _ _ _ h => h) (Or.inl ⟨by rfl, ?_⟩) hHeld ?_
            · (intro w' hSw; (try dsimp only at hSw); clear hSw hHeld; go_simp; (try with_reducible rfl))
            try simp only [Act.put, List.setIfInBounds_toArray, List.set_cons_zero, List.set_cons_succ]
            refine wpAnyH_take (i := 11) (oi := ({ dst := none, op := Op.assign (Operand.const (Value.bool true)), type := 0, pos := "arena.go:52", after := #[{ on := 10, ground := Ground.data }, { on := 7, ground := Ground.data }, { on := 9, ground := Ground.chain }, { on := 0, ground := Ground.phase }, { on := 1, ground := Ground.phase }, { on := 2, ground := Ground.phase }, { on := 3, ground := Ground.phase }, { on := 4, ground := Ground.phase }, { on := 5, ground := Ground.phase }, { on := 6, ground := Ground.phase }, { on := 7, ground := Ground.phase }, { on := 8, ground := Ground.phase }, { on := 9, ground := Ground.phase }], guard := none } : Oper)) (v := .bool true) rfl (by kernel_rfl) (by kernel_rfl) (by kernel_rfl) (fun _ _ _ h => h) (Or.inl ⟨by rfl, ?_⟩) hHeld ?_
            · (intro w' hSw; clear hSw hHeld; go_simp; (try with_reducible rfl))
            try simp only [Act.put, List.setIfInBounds_toArray, List.set_cons_zero, List.set_cons_succ]
            have MS := Lib.hid hHeld
            refine wpAnyH_done (by kernel_rfl) ?_ _
            clear hHeld
            show Oper.wp _ _ _ _ _ _
            have g0 := HX.out.cell 1 rfl
            have g1 := HX.out.frozen 1
            clear MS
            go_simp
            clear g0 g1
            have hq := Gou.Mod.set1 (V7_4.setCell ⟨N5, 0, none⟩ (.slice pG (a.gens.length + 1) cG)) N5 1 (.slice pL (a.live.length + 1) cL)
            have HXn := HX.out.set 1 (.slice pL (a.live.length + 1) cL)
            have HGn := ownsRow_mod HG.out hq (fun k hk e => own_blk_ne HG.out HX.out (by decide) (by rw [hk, e]))
            have HVn := ownsRow_mod HV.out hq (fun k hk e => own_blk_ne HV.out HX.out (by decide) (by rw [hk, e]))
            have HS1n := HS1.out.mod hq (by have := HRlt.out; have := HNlt.out; omega)
            have HS2n := HS2.out.mod hq (by have := HRlt.out; have := HNlt.out; omega)
            have HMn := HMM.out.trans hq (fun k hk e => by have := HRlt.out; have := HNlt.out; omega)
            go_wp2_with fail
            go_meet
            case rel => exact ⟨_, _, pG, cG, pL, cL, rfl, rfl, by simpa using HXn, ⟨by simpa [ivs] using HGn, by simpa [bvs] using HVn⟩, HS1n, HS2n, HMn⟩
        · skip
          go_simp
          have hq : Gou.Mod (fun _ => False) (W3.drew) ((W3.alloc (.cells #[.int .i64 0] 3)).drew) := Gou.Mod.alloc0 (W3.drew) (.cells #[.int .i64 0] 3)
          have HE2 : Hid (Blk ((W3.alloc (.cells #[.int .i64 0] 3)).drew) (W3.heap.size) 3 #[.int .i64 0]) := Lib.hid (Blk.new (W3.drew) 3 #[.int .i64 0])
          replace HG := Lib.hid (own_up HG.out hq)
          replace HV := Lib.hid (own_up HV.out hq)
          replace HX := Lib.hid (Blk.up HX.out hq)
          replace HS1 := Lib.hid (Blk.up HS1.out hq)
          replace HS2 := Lib.hid (Blk.up HS2.out hq)
          replace HMM := Lib.hid (HMM.out.trans' hq)
          have M := Lib.hid (And.intro (hHeld.1.trans' (hq.imp (fun _ _ h => h.elim))) ((hq.cell (p := ⟨N5, 1, none⟩) (World.block_lt_of_cell? _ _ hHeld.2) (fun h => h)).trans hHeld.2))
          clear hHeld hq
          obtain ⟨V2_1, hV2_1⟩ : ∃ x, x = (W3.alloc (.cells #[.int .i64 0] 3)).drew := ⟨_, rfl⟩
          obtain ⟨N_V2_1, hN_V2_1⟩ : ∃ x, x = W3.heap.size := ⟨_, rfl⟩
          rw [← hN_V2_1] at HE2
          rw [← hN_V2_1]
          rw [← hV2_1] at HG HV HX HS1 HS2 HE2 HMM M
          rw [← hV2_1]
          clear hV2_1 hN_V2_1
          refine hK _ _ M.out (fun hHeld => ?_)
          clear hK K11 M
          try simp only [Act.put, List.setIfInBounds_toArray, List.set_cons_zero, List.set_cons_succ]
          refine wpAnyH_ready (rs := [1, 6]) (by kernel_rfl) (by simp) (AllReadyH.cons (o := ({ dst := some 24, op := Op.load 25 (Operand.tmp 23), type := 25, pos := "arena.go:52", after := #[{ on := 0, ground := Ground.data }], guard := none } : Oper)) rfl (fun K14 hK => ?_) (AllReadyH.cons (o := ({ dst := some 29, op := Op.buildSlice 26 1 #[(0, Operand.const (Value.bool false))], type := 26, pos := "arena.go:52", after := #[], guard := none } : Oper)) rfl (fun K14 hK => ?_) AllReadyH.nil))
          · skip
            have g0 := HX.out.cell 0 rfl
            go_simp
            clear g0
            have M := Lib.hid hHeld
            clear hHeld
            refine hK _ _ M.out (fun hHeld => ?_)
            clear hK K14 M
            try simp only [Act.put, List.setIfInBounds_toArray, List.set_cons_zero, List.set_cons_succ]
            refine wpAnyH_ready (rs := [3, 6]) (by kernel_rfl) (by simp) (AllReadyH.cons (o := ({ dst := some 26, op := Op.call { callee := Callee.builtin Builtin.append, args := #[Operand.tmp 24, Operand.tmp 25], argTypes := #[25, 25] }, type := 25, pos := "arena.go:52", after := #[{ on := 1, ground := Ground.data }, { on := 2, ground := Ground.data }], guard := none } : Oper)) rfl (fun K15 hK => ?_) (AllReadyH.cons (o := ({ dst := some 29, op := Op.buildSlice 26 1 #[(0, Operand.const (Value.bool false))], type := 26, pos := "arena.go:52", after := #[], guard := none } : Oper)) rfl (fun K15 hK => ?_) AllReadyH.nil))
            · skip
              rw [if_pos (by rfl)]
              refine wp_append_row T_int _ _ rfl (W1.heap.size) (.slice p2 a.gens.length c2) (a.gens.length) (ivs a.gens) (fun _ => True) (.slice (some ⟨N_V2_1, 0, none⟩) 1 1) 1 [.int .i64 0] rfl rfl (by have := hbase.out; have := hHeld.1.size; omega) HG.out (RowG.of_blk HE2.out 1 1 rfl _ trivial) (by simp [Value.oneCell']) (by have := Hlen.out; have := Hn.out; unfold maxLen; omega) (by have := Hlen.out; have := Hn.out; omega) ?_
              intro v7 V3_2 G7
              obtain ⟨pG, cG, rfl⟩ := Gou.ownsRow_form G7.own
              have hc1 := (G7.mod.cell (p := ⟨N5, 1, none⟩) (World.block_lt_of_cell? _ _ hHeld.2) (own_blk_ne HG.out HX.out (by decide))).trans hHeld.2
              have M := Lib.hid (And.intro (hHeld.1.trans' (G7.mod.imp (fun k _ h => .inr (.inl h)))) hc1)
              replace HMM := Lib.hid (HMM.out.trans G7.mod (fun k hk h => by have := own_ge HG.out k h; have := HRlt.out; omega))
              replace HV := Lib.hid (ownsRow_mod HV.out G7.mod (fun k hk hs => own2_ne HV.out HG.out (by decide) k hk hs))
              replace HX := Lib.hid (Blk.mod HX.out G7.mod (own_blk_ne HG.out HX.out (by decide)))
              replace HS1 := Lib.hid (Blk.mod HS1.out G7.mod (own_blk_ne HG.out HS1.out (by decide)))
              replace HS2 := Lib.hid (Blk.mod HS2.out G7.mod (own_blk_ne HG.out HS2.out (by decide)))
              replace HG := Lib.hid G7.own
              clear HE2 G7 hc1 hHeld
              refine hK _ _ M.out (fun hHeld => ?_)
              clear hK K15 M
              try simp only [Act.put, List.setIfInBounds_toArray, List.set_cons_zero, List.set_cons_succ]
              refine wpAnyH_take (i := 8) (oi := ({ dst := some 31, op := Op.fieldAddr 28 (Operand.tmp 5) 0, type := 0, pos := "arena.go:52", after := #[{ on := 0, ground := Ground.phase }, { on := 1, ground := Ground.phase }, { on := 2, ground := Ground.phase }, { on := 3, ground := Ground.phase }, { on := 4, ground := Ground.phase }, { on := 5, ground := Ground.phase }, { on := 6, ground := Ground.textOnly Departure.lateStores }, { on := 7, ground := Ground.textOnly Departure.lateStoresUnsure }], guard := none } : Oper)) (v := .pointer (some ⟨N5, 0, none⟩)) rfl (by kernel_rfl) (by kernel_rfl) (by kernel_rfl) (fun _ _ _ h => h) (Or.inl ⟨by rfl, ?_⟩) hHeld ?_
              · (intro w' hSw; (try dsimp only at hSw); clear hSw hHeld; go_simp; (try with_reducible rfl))
              try simp only [Act.put, List.setIfInBounds_toArray, List.set_cons_zero, List.set_cons_succ]
              refine wpAnyH_ready (rs := [6]) (by kernel_rfl) (by simp) (AllReadyH.cons (o := ({ dst := some 29, op := Op.buildSlice 26 1 #[(0, Operand.const (Value.bool false))], type := 26, pos := "arena.go:52", after := #[], guard := none } : Oper)) rfl (fun K hK => ?_) AllReadyH.nil)
              go_simp
              have hq : Gou.Mod (fun _ => False) (V3_2) (V3_2.alloc (.cells #[.bool false] 4)) := Gou.Mod.alloc0 (V3_2) (.cells #[.bool false] 4)
              have HE6 : Hid (Blk (V3_2.alloc (.cells #[.bool false] 4)) (V3_2.heap.size) 4 #[.bool false]) := Lib.hid (Blk.new (V3_2) 4 #[.bool false])
              replace HG := Lib.hid (own_up HG.out hq)
              replace HV := Lib.hid (own_up HV.out hq)
              replace HX := Lib.hid (Blk.up HX.out hq)
              replace HS1 := Lib.hid (Blk.up HS1.out hq)
              replace HS2 := Lib.hid (Blk.up HS2.out hq)
              replace HMM := Lib.hid (HMM.out.trans' hq)
              have M := Lib.hid (And.intro (hHeld.1.trans' (hq.imp (fun _ _ h => h.elim))) ((hq.cell (p := ⟨N5, 1, none⟩) (World.block_lt_of_cell? _ _ hHeld.2) (fun h => h)).trans hHeld.2))
              clear hHeld hq
              obtain ⟨V6_3, hV6_3⟩ : ∃ x, x = V3_2.alloc (.cells #[.bool false] 4) := ⟨_, rfl⟩
              obtain ⟨N_V6_3, hN_V6_3⟩ : ∃ x, x = V3_2.heap.size := ⟨_, rfl⟩
              rw [← hN_V6_3] at HE6
              rw [← hN_V6_3]
              rw [← hV6_3] at HG HV HX HS1 HS2 HE6 HMM M
              rw [← hV6_3]
              clear hV6_3 hN_V6_3
              refine hK _ _ M.out (fun hHeld => ?_)
              clear hK K M
              try simp only [Act.put, List.setIfInBounds_toArray, List.set_cons_zero, List.set_cons_succ]
              refine wpAnyH_ready (rs := [7]) (by kernel_rfl) (by simp) (AllReadyH.cons (o := ({ dst := some 30, op := Op.call { callee := Callee.builtin Builtin.append, args := #[Operand.tmp 28, Operand.tmp 29], argTypes := #[26, 26] }, type := 26, pos := "arena.go:52", after := #[{ on := 5, ground := Ground.data }, { on := 6, ground := Ground.data }, { on := 3, ground := Ground.chain }], guard := none } : Oper)) rfl (fun K hK => ?_) AllReadyH.nil)
              rw [if_pos (by rfl)]
              refine wp_append_row T_bool _ _ rfl (W1.heap.size) (.slice q2 a.live.length d2) (a.live.length) (bvs a.live) (fun _ => True) (.slice (some ⟨N_V6_3, 0, none⟩) 1 1) 1 [.bool false] rfl rfl (by have := hbase.out; have := hHeld.1.size; omega) HV.out (RowG.of_blk HE6.out 1 1 rfl _ trivial) (by simp [Value.oneCell']) (by have := Hlen.out; have := Hn.out; unfold maxLen; omega) (by have := Hlen.out; have := Hn.out; omega) ?_
              intro v7 V7_4 G7
              obtain ⟨pL, cL, rfl⟩ := Gou.ownsRow_form G7.own
              have hc1 := (G7.mod.cell (p := ⟨N5, 1, none⟩) (World.block_lt_of_cell? _ _ hHeld.2) (own_blk_ne HV.out HX.out (by decide))).trans hHeld.2
              have M := Lib.hid (And.intro (hHeld.1.trans' (G7.mod.imp (fun k _ h => .inr (.inr h)))) hc1)
              replace HMM := Lib.hid (HMM.out.trans G7.mod (fun k hk h => by have := own_ge HV.out k h; have := HRlt.out; omega))
              replace HG := Lib.hid (ownsRow_mod HG.out G7.mod (fun k hk hs => own2_ne HG.out HV.out (by decide) k hk hs))
              replace HX := Lib.hid (Blk.mod HX.out G7.mod (own_blk_ne HV.out HX.out (by decide)))
              replace HS1 := Lib.hid (Blk.mod HS1.out G7.mod (own_blk_ne HV.out HS1.out (by decide)))
              replace HS2 := Lib.hid (Blk.mod HS2.out G7.mod (own_blk_ne HV.out HS2.out (by decide)))
              replace HV := Lib.hid G7.own
              clear HE6 G7 hc1 hHeld
              refine hK _ _ M.out (fun hHeld => ?_)
              clear hK K M
              try simp only [Act.put, List.setIfInBounds_toArray, List.set_cons_zero, List.set_cons_succ]
              refine wpAnyH_ready (rs := [9]) (by kernel_rfl) (by simp) (AllReadyH.cons (o := ({ dst := none, op := Op.store 25 (Operand.tmp 31) (Operand.tmp 26), type := 0, pos := "arena.go:52", after := #[{ on := 8, ground := Ground.data }, { on := 3, ground := Ground.data }, { on := 7, ground := Ground.chain }, { on := 0, ground := Ground.phase }, { on := 1, ground := Ground.phase }, { on := 2, ground := Ground.phase }, { on := 3, ground := Ground.phase }, { on := 4, ground := Ground.phase }, { on := 5, ground := Ground.phase }, { on := 6, ground := Ground.textOnly Departure.lateStores }, { on := 7, ground := Ground.textOnly Departure.lateStoresUnsure }], guard := none } : Oper)) rfl (fun K hK => ?_) AllReadyH.nil)
              have g0 := HX.out.cell 0 rfl
              have g1 := HX.out.frozen 0
              go_simp
              clear g0 g1
              have hq := Gou.Mod.set1 V7_4 N5 0 (.slice pG (a.gens.length + 1) cG)
              replace HG := Lib.hid (ownsRow_mod HG.out hq (fun k hk e => own_blk_ne HG.out HX.out (by decide) (by rw [hk, e])))
              replace HV := Lib.hid (ownsRow_mod HV.out hq (fun k hk e => own_blk_ne HV.out HX.out (by decide) (by rw [hk, e])))
              replace HS1 := Lib.hid (Blk.mod HS1.out hq (by have := HRlt.out; have := HNlt.out; omega))
              replace HS2 := Lib.hid (Blk.mod HS2.out hq (by have := HRlt.out; have := HNlt.out; omega))
              replace HMM := Lib.hid (HMM.out.trans hq (fun k hk e => by have := HRlt.out; have := HNlt.out; omega))
              have M : Hid (Gou.Mod (fun k => k = N5 ∨ (fun k => (Value.slice p2 a.gens.length c2).ownBlock = some k ∨ (Value.slice q2 a.live.length d2).ownBlock = some k) k) W3 _ ∧ World.cell? _ ⟨N5, 1, none⟩ = some (.slice q2 a.live.length d2)) := Lib.hid (And.intro ((hHeld.1).trans' (hq.imp (fun k _ h => .inl h))) (Blk.cell (HX.out.set 0 (.slice pG (a.gens.length + 1) cG)) 1 rfl))
              replace HX := Lib.hid (HX.out.set 0 (.slice pG (a.gens.length + 1) cG))
              clear hq hHeld
              refine hK _ _ M.out (fun hHeld => ?_)
              clear hK K M
              try simp only [Act.put, List.setIfInBounds_toArray, List.set_cons_zero, List.set_cons_succ]
              refine wpAnyH_take (i := 10) (oi := ({ dst := some 32, op := Op.fieldAddr 28 (Operand.tmp 5) 1, type := 0, pos := "arena.go:52", after := #[{ on := 0, ground := Ground.phase }, { on := 1, ground := Ground.phase }, { on := 2, ground := Ground.phase }, { on := 3, ground := Ground.phase }, { on := 4, ground := Ground.phase }, { on := 5, ground := Ground.phase }, { on := 6, ground := Ground.phase }, { on := 7, ground := Ground.phase }, { on := 8, ground := Ground.phase }, { on := 9, ground := Ground.phase }], guard := none } : Oper)) (v := .pointer (some ⟨N5, 1, none⟩)) rfl (by kernel_rfl) (by kernel_rfl) (by kernel_rfl) (fun _ _ _ h => h) (Or.inl ⟨by rfl, ?_⟩) hHeld ?_
              · (intro w' hSw; (try dsimp only at hSw); clear hSw hHeld; go_simp; (try with_reducible rfl))
              try simp only [Act.put, List.setIfInBounds_toArray, List.set_cons_zero, List.set_cons_succ]
              refine wpAnyH_take (i := 11) (oi := ({ dst := none, op := Op.assign (Operand.const (Value.bool true)), type := 0, pos := "arena.go:52", after := #[{ on := 10, ground := Ground.data }, { on := 7, ground := Ground.data }, { on := 9, ground := Ground.chain }, { on := 0, ground := Ground.phase }, { on := 1, ground := Ground.phase }, { on := 2, ground := Ground.phase }, { on := 3, ground := Ground.phase }, { on := 4, ground := Ground.phase }, { on := 5, ground := Ground.phase }, { on := 6, ground := Ground.phase }, { on := 7, ground := Ground.phase }, { on := 8, ground := Ground.phase }, { on := 9, ground := Ground.phase }], guard := none } : Oper)) (v := .bool true) rfl (by kernel_rfl) (by kernel_rfl) (by kernel_rfl) (fun _ _ _ h => h) (Or.inl ⟨by rfl, ?_⟩) hHeld ?_
              · (intro w' hSw; clear hSw hHeld; go_simp; (try with_reducible rfl))
              try simp only [Act.put, List.setIfInBounds_toArray, List.set_cons_zero, List.set_cons_succ]
              have MS := Lib.hid hHeld
              refine wpAnyH_done (by kernel_rfl) ?_ _
              clear hHeld
              show Oper.wp _ _ _ _ _ _
              have g0 := HX.out.cell 1 rfl
              have g1 := HX.out.frozen 1
              clear MS
              go_simp
              clear g0 g1
              have hq := Gou.Mod.set1 (V7_4.setCell ⟨N5, 0, none⟩ (.slice pG (a.gens.length + 1) cG)) N5 1 (.slice pL (a.live.length + 1) cL)
              have HXn := HX.out.set 1 (.slice pL (a.live.length + 1) cL)
              have HGn := ownsRow_mod HG.out hq (fun k hk e => own_blk_ne HG.out HX.out (by decide) (by rw [hk, e]))
              have HVn := ownsRow_mod HV.out hq (fun k hk e => own_blk_ne HV.out HX.out (by decide) (by rw [hk, e]))
              have HS1n := HS1.out.mod hq (by have := HRlt.out; have := HNlt.out; omega)
              have HS2n := HS2.out.mod hq (by have := HRlt.out; have := HNlt.out; omega)
              have HMn := HMM.out.trans hq (fun k hk e => by have := HRlt.out; have := HNlt.out; omega)
              go_wp2_with fail
              go_meet
              case rel => exact ⟨_, _, pG, cG, pL, cL, rfl, rfl, by simpa using HXn, ⟨by simpa [ivs] using HGn, by simpa [bvs] using HVn⟩, HS1n, HS2n, HMn⟩
            · skip
              go_simp
              have hq : Gou.Mod (fun _ => False) (V2_1) (V2_1.alloc (.cells #[.bool false] 4)) := Gou.Mod.alloc0 (V2_1) (.cells #[.bool false] 4)
              have HE6 : Hid (Blk (V2_1.alloc (.cells #[.bool false] 4)) (V2_1.heap.size) 4 #[.bool false]) := Lib.hid (Blk.new (V2_1) 4 #[.bool false])
              replace HG := Lib.hid (own_up HG.out hq)
              replace HV := Lib.hid (own_up HV.out hq)
              replace HX := Lib.hid (Blk.up HX.out hq)
              replace HS1 := Lib.hid (Blk.up HS1.out hq)
              replace HS2 := Lib.hid (Blk.up HS2.out hq)
              replace HE2 := Lib.hid (Blk.up HE2.out hq)
              replace HMM := Lib.hid (HMM.out.trans' hq)
              have M := Lib.hid (And.intro (hHeld.1.trans' (hq.imp (fun _ _ h => h.elim))) ((hq.cell (p := ⟨N5, 1, none⟩) (World.block_lt_of_cell? _ _ hHeld.2) (fun h => h)).trans hHeld.2))
              clear hHeld hq
              obtain ⟨V6_2, hV6_2⟩ : ∃ x, x = V2_1.alloc (.cells #[.bool false] 4) := ⟨_, rfl⟩
              obtain ⟨N_V6_2, hN_V6_2⟩ : ∃ x, x = V2_1.heap.size := ⟨_, rfl⟩
              rw [← hN_V6_2] at HE6
              rw [← hN_V6_2]
              rw [← hV6_2] at HG HV HX HS1 HS2 HE2 HE6 HMM M
              rw [← hV6_2]
              clear hV6_2 hN_V6_2
              refine hK _ _ M.out (fun hHeld => ?_)
              clear hK K15 M
              try simp only [Act.put, List.setIfInBounds_toArray, List.set_cons_zero, List.set_cons_succ]
              refine wpAnyH_ready (rs := [3]) (by kernel_rfl) (by simp) (AllReadyH.cons (o := ({ dst := some 26, op := Op.call { callee := Callee.builtin Builtin.append, args := #[Operand.tmp 24, Operand.tmp 25], argTypes := #[25, 25] }, type := 25, pos := "arena.go:52", after := #[{ on := 1, ground := Ground.data }, { on := 2, ground := Ground.data }], guard := none } : Oper)) rfl (fun K hK => ?_) AllReadyH.nil)
              rw [if_pos (by rfl)]
              refine wp_append_row T_int _ _ rfl (W1.heap.size) (.slice p2 a.gens.length c2) (a.gens.length) (ivs a.gens) (fun _ => True) (.slice (some ⟨N_V2_1, 0, none⟩) 1 1) 1 [.int .i64 0] rfl rfl (by have := hbase.out; have := hHeld.1.size; omega) HG.out (RowG.of_blk HE2.out 1 1 rfl _ trivial) (by simp [Value.oneCell']) (by have := Hlen.out; have := Hn.out; unfold maxLen; omega) (by have := Hlen.out; have := Hn.out; omega) ?_
              intro v7 V3_3 G7
              obtain ⟨pG, cG, rfl⟩ := Gou.ownsRow_form G7.own
              have hc1 := (G7.mod.cell (p := ⟨N5, 1, none⟩) (World.block_lt_of_cell? _ _ hHeld.2) (own_blk_ne HG.out HX.out (by decide))).trans hHeld.2
              have M := Lib.hid (And.intro (hHeld.1.trans' (G7.mod.imp (fun k _ h => .inr (.inl h)))) hc1)
              replace HMM := Lib.hid (HMM.out.trans G7.mod (fun k hk h => by have := own_ge HG.out k h; have := HRlt.out; omega))
              replace HV := Lib.hid (ownsRow_mod HV.out G7.mod (fun k hk hs => own2_ne HV.out HG.out (by decide) k hk hs))
              replace HX := Lib.hid (Blk.mod HX.out G7.mod (own_blk_ne HG.out HX.out (by decide)))
              replace HS1 := Lib.hid (Blk.mod HS1.out G7.mod (own_blk_ne HG.out HS1.out (by decide)))
              replace HS2 := Lib.hid (Blk.mod HS2.out G7.mod (own_blk_ne HG.out HS2.out (by decide)))
              replace HE6 := Lib.hid (Blk.mod HE6.out G7.mod (own_blk_ne HG.out HE6.out (by decide)))
              replace HG := Lib.hid G7.own
              clear HE2 G7 hc1 hHeld
              refine hK _ _ M.out (fun hHeld => ?_)
              clear hK K M
              try simp only [Act.put, List.setIfInBounds_toArray, List.set_cons_zero, List.set_cons_succ]
              refine wpAnyH_take (i := 8) (oi := ({ dst := some 31, op := Op.fieldAddr 28 (Operand.tmp 5) 0, type := 0, pos := "arena.go:52", after := #[{ on := 0, ground := Ground.phase }, { on := 1, ground := Ground.phase }, { on := 2, ground := Ground.phase }, { on := 3, ground := Ground.phase }, { on := 4, ground := Ground.phase }, { on := 5, ground := Ground.phase }, { on := 6, ground := Ground.textOnly Departure.lateStores }, { on := 7, ground := Ground.textOnly Departure.lateStoresUnsure }], guard := none } : Oper)) (v := .pointer (some ⟨N5, 0, none⟩)) rfl (by kernel_rfl) (by kernel_rfl) (by kernel_rfl) (fun _ _ _ h => h) (Or.inl ⟨by rfl, ?_⟩) hHeld ?_
              · (intro w' hSw; (try dsimp only at hSw); clear hSw hHeld; go_simp; (try with_reducible rfl))
              try simp only [Act.put, List.setIfInBounds_toArray, List.set_cons_zero, List.set_cons_succ]
              refine wpAnyH_ready (rs := [7]) (by kernel_rfl) (by simp) (AllReadyH.cons (o := ({ dst := some 30, op := Op.call { callee := Callee.builtin Builtin.append, args := #[Operand.tmp 28, Operand.tmp 29], argTypes := #[26, 26] }, type := 26, pos := "arena.go:52", after := #[{ on := 5, ground := Ground.data }, { on := 6, ground := Ground.data }, { on := 3, ground := Ground.chain }], guard := none } : Oper)) rfl (fun K hK => ?_) AllReadyH.nil)
              rw [if_pos (by rfl)]
              refine wp_append_row T_bool _ _ rfl (W1.heap.size) (.slice q2 a.live.length d2) (a.live.length) (bvs a.live) (fun _ => True) (.slice (some ⟨N_V6_2, 0, none⟩) 1 1) 1 [.bool false] rfl rfl (by have := hbase.out; have := hHeld.1.size; omega) HV.out (RowG.of_blk HE6.out 1 1 rfl _ trivial) (by simp [Value.oneCell']) (by have := Hlen.out; have := Hn.out; unfold maxLen; omega) (by have := Hlen.out; have := Hn.out; omega) ?_
              intro v7 V7_4 G7
              obtain ⟨pL, cL, rfl⟩ := Gou.ownsRow_form G7.own
              have hc1 := (G7.mod.cell (p := ⟨N5, 1, none⟩) (World.block_lt_of_cell? _ _ hHeld.2) (own_blk_ne HV.out HX.out (by decide))).trans hHeld.2
              have M := Lib.hid (And.intro (hHeld.1.trans' (G7.mod.imp (fun k _ h => .inr (.inr h)))) hc1)
              replace HMM := Lib.hid (HMM.out.trans G7.mod (fun k hk h => by have := own_ge HV.out k h; have := HRlt.out; omega))
              replace HG := Lib.hid (ownsRow_mod HG.out G7.mod (fun k hk hs => own2_ne HG.out HV.out (by decide) k hk hs))
              replace HX := Lib.hid (Blk.mod HX.out G7.mod (own_blk_ne HV.out HX.out (by decide)))
              replace HS1 := Lib.hid (Blk.mod HS1.out G7.mod (own_blk_ne HV.out HS1.out (by decide)))
              replace HS2 := Lib.hid (Blk.mod HS2.out G7.mod (own_blk_ne HV.out HS2.out (by decide)))
              replace HV := Lib.hid G7.own
              clear HE6 G7 hc1 hHeld
              refine hK _ _ M.out (fun hHeld => ?_)
              clear hK K M
              try simp only [Act.put, List.setIfInBounds_toArray, List.set_cons_zero, List.set_cons_succ]
              refine wpAnyH_ready (rs := [9]) (by kernel_rfl) (by simp) (AllReadyH.cons (o := ({ dst := none, op := Op.store 25 (Operand.tmp 31) (Operand.tmp 26), type := 0, pos := "arena.go:52", after := #[{ on := 8, ground := Ground.data }, { on := 3, ground := Ground.data }, { on := 7, ground := Ground.chain }, { on := 0, ground := Ground.phase }, { on := 1, ground := Ground.phase }, { on := 2, ground := Ground.phase }, { on := 3, ground := Ground.phase }, { on := 4, ground := Ground.phase }, { on := 5, ground := Ground.phase }, { on := 6, ground := Ground.textOnly Departure.lateStores }, { on := 7, ground := Ground.textOnly Departure.lateStoresUnsure }], guard := none } : Oper)) rfl (fun K hK => ?_) AllReadyH.nil)
              have g0 := HX.out.cell 0 rfl
              have g1 := HX.out.frozen 0
              go_simp
              clear g0 g1
              have hq := Gou.Mod.set1 V7_4 N5 0 (.slice pG (a.gens.length + 1) cG)
              replace HG := Lib.hid (ownsRow_mod HG.out hq (fun k hk e => own_blk_ne HG.out HX.out (by decide) (by rw [hk, e])))
              replace HV := Lib.hid (ownsRow_mod HV.out hq (fun k hk e => own_blk_ne HV.out HX.out (by decide) (by rw [hk, e])))
              replace HS1 := Lib.hid (Blk.mod HS1.out hq (by have := HRlt.out; have := HNlt.out; omega))
              replace HS2 := Lib.hid (Blk.mod HS2.out hq (by have := HRlt.out; have := HNlt.out; omega))
              replace HMM := Lib.hid (HMM.out.trans hq (fun k hk e => by have := HRlt.out; have := HNlt.out; omega))
              have M : Hid (Gou.Mod (fun k => k = N5 ∨ (fun k => (Value.slice p2 a.gens.length c2).ownBlock = some k ∨ (Value.slice q2 a.live.length d2).ownBlock = some k) k) W3 _ ∧ World.cell? _ ⟨N5, 1, none⟩ = some (.slice q2 a.live.length d2)) := Lib.hid (And.intro ((hHeld.1).trans' (hq.imp (fun k _ h => .inl h))) (Blk.cell (HX.out.set 0 (.slice pG (a.gens.length + 1) cG)) 1 rfl))
              replace HX := Lib.hid (HX.out.set 0 (.slice pG (a.gens.length + 1) cG))
              clear hq hHeld
              refine hK _ _ M.out (fun hHeld => ?_)
              clear hK K M
              try simp only [Act.put, List.setIfInBounds_toArray, List.set_cons_zero, List.set_cons_succ]
              refine wpAnyH_take (i := 10) (oi := ({ dst := some 32, op := Op.fieldAddr 28 (Operand.tmp 5) 1, type := 0, pos := "arena.go:52", after := #[{ on := 0, ground := Ground.phase }, { on := 1, ground := Ground.phase }, { on := 2, ground := Ground.phase }, { on := 3, ground := Ground.phase }, { on := 4, ground := Ground.phase }, { on := 5, ground := Ground.phase }, { on := 6, ground := Ground.phase }, { on := 7, ground := Ground.phase }, { on := 8, ground := Ground.phase }, { on := 9, ground := Ground.phase }], guard := none } : Oper)) (v := .pointer (some ⟨N5, 1, none⟩)) rfl (by kernel_rfl) (by kernel_rfl) (by kernel_rfl) (fun _ _ _ h => h) (Or.inl ⟨by rfl, ?_⟩) hHeld ?_
              · (intro w' hSw; (try dsimp only at hSw); clear hSw hHeld; go_simp; (try with_reducible rfl))
              try simp only [Act.put, List.setIfInBounds_toArray, List.set_cons_zero, List.set_cons_succ]
              refine wpAnyH_take (i := 11) (oi := ({ dst := none, op := Op.assign (Operand.const (Value.bool true)), type := 0, pos := "arena.go:52", after := #[{ on := 10, ground := Ground.data }, { on := 7, ground := Ground.data }, { on := 9, ground := Ground.chain }, { on := 0, ground := Ground.phase }, { on := 1, ground := Ground.phase }, { on := 2, ground := Ground.phase }, { on := 3, ground := Ground.phase }, { on := 4, ground := Ground.phase }, { on := 5, ground := Ground.phase }, { on := 6, ground := Ground.phase }, { on := 7, ground := Ground.phase }, { on := 8, ground := Ground.phase }, { on := 9, ground := Ground.phase }], guard := none } : Oper)) (v := .bool true) rfl (by kernel_rfl) (by kernel_rfl) (by kernel_rfl) (fun _ _ _ h => h) (Or.inl ⟨by rfl, ?_⟩) hHeld ?_
              · (intro w' hSw; clear hSw hHeld; go_simp; (try with_reducible rfl))
              try simp only [Act.put, List.setIfInBounds_toArray, List.set_cons_zero, List.set_cons_succ]
              have MS := Lib.hid hHeld
              refine wpAnyH_done (by kernel_rfl) ?_ _
              clear hHeld
              show Oper.wp _ _ _ _ _ _
              have g0 := HX.out.cell 1 rfl
              have g1 := HX.out.frozen 1
              clear MS
              go_simp
              clear g0 g1
              have hq := Gou.Mod.set1 (V7_4.setCell ⟨N5, 0, none⟩ (.slice pG (a.gens.length + 1) cG)) N5 1 (.slice pL (a.live.length + 1) cL)
              have HXn := HX.out.set 1 (.slice pL (a.live.length + 1) cL)
              have HGn := ownsRow_mod HG.out hq (fun k hk e => own_blk_ne HG.out HX.out (by decide) (by rw [hk, e]))
              have HVn := ownsRow_mod HV.out hq (fun k hk e => own_blk_ne HV.out HX.out (by decide) (by rw [hk, e]))
              have HS1n := HS1.out.mod hq (by have := HRlt.out; have := HNlt.out; omega)
              have HS2n := HS2.out.mod hq (by have := HRlt.out; have := HNlt.out; omega)
              have HMn := HMM.out.trans hq (fun k hk e => by have := HRlt.out; have := HNlt.out; omega)
              go_wp2_with fail
              go_meet
              case rel => exact ⟨_, _, pG, cG, pL, cL, rfl, rfl, by simpa using HXn, ⟨by simpa [ivs] using HGn, by simpa [bvs] using HVn⟩, HS1n, HS2n, HMn⟩
          · skip
            go_simp
            have hq : Gou.Mod (fun _ => False) (V2_1) (V2_1.alloc (.cells #[.bool false] 4)) := Gou.Mod.alloc0 (V2_1) (.cells #[.bool false] 4)
            have HE6 : Hid (Blk (V2_1.alloc (.cells #[.bool false] 4)) (V2_1.heap.size) 4 #[.bool false]) := Lib.hid (Blk.new (V2_1) 4 #[.bool false])
            replace HG := Lib.hid (own_up HG.out hq)
            replace HV := Lib.hid (own_up HV.out hq)
            replace HX := Lib.hid (Blk.up HX.out hq)
            replace HS1 := Lib.hid (Blk.up HS1.out hq)
            replace HS2 := Lib.hid (Blk.up HS2.out hq)
            replace HE2 := Lib.hid (Blk.up HE2.out hq)
            replace HMM := Lib.hid (HMM.out.trans' hq)
            have M := Lib.hid (And.intro (hHeld.1.trans' (hq.imp (fun _ _ h => h.elim))) ((hq.cell (p := ⟨N5, 1, none⟩) (World.block_lt_of_cell? _ _ hHeld.2) (fun h => h)).trans hHeld.2))
            clear hHeld hq
            obtain ⟨V6_2, hV6_2⟩ : ∃ x, x = V2_1.alloc (.cells #[.bool false] 4) := ⟨_, rfl⟩
            obtain ⟨N_V6_2, hN_V6_2⟩ : ∃ x, x = V2_1.heap.size := ⟨_, rfl⟩
            rw [← hN_V6_2] at HE6
            rw [← hN_V6_2]
            rw [← hV6_2] at HG HV HX HS1 HS2 HE2 HE6 HMM M
            rw [← hV6_2]
            clear hV6_2 hN_V6_2
            refine hK _ _ M.out (fun hHeld => ?_)
            clear hK K14 M
            try simp only [Act.put, List.setIfInBounds_toArray, List.set_cons_zero, List.set_cons_succ]
            refine wpAnyH_ready (rs := [1]) (by kernel_rfl) (by simp) (AllReadyH.cons (o := ({ dst := some 24, op := Op.load 25 (Operand.tmp 23), type := 25, pos := "arena.go:52", after := #[{ on := 0, ground := Ground.data }], guard := none } : Oper)) rfl (fun K hK => ?_) AllReadyH.nil)
            have g0 := HX.out.cell 0 rfl
            go_simp
            clear g0
            have M := Lib.hid hHeld
            clear hHeld
            refine hK _ _ M.out (fun hHeld => ?_)
            clear hK K M
            try simp only [Act.put, List.setIfInBounds_toArray, List.set_cons_zero, List.set_cons_succ]
            refine wpAnyH_ready (rs := [3]) (by kernel_rfl) (by simp) (AllReadyH.cons (o := ({ dst := some 26, op := Op.call { callee := Callee.builtin Builtin.append, args := #[Operand.tmp 24, Operand.tmp 25], argTypes := #[25, 25] }, type := 25, pos := "arena.go:52", after := #[{ on := 1, ground := Ground.data }, { on := 2, ground := Ground.data }], guard := none } : Oper)) rfl (fun K hK => ?_) AllReadyH.nil)
            rw [if_pos (by rfl)]
            refine wp_append_row T_int _ _ rfl (W1.heap.size) (.slice p2 a.gens.length c2) (a.gens.length) (ivs a.gens) (fun _ => True) (.slice (some ⟨N_V2_1, 0, none⟩) 1 1) 1 [.int .i64 0] rfl rfl (by have := hbase.out; have := hHeld.1.size; omega) HG.out (RowG.of_blk HE2.out 1 1 rfl _ trivial) (by simp [Value.oneCell']) (by have := Hlen.out; have := Hn.out; unfold maxLen; omega) (by have := Hlen.out; have := Hn.out; omega) ?_
            intro v7 V3_3 G7
            obtain ⟨pG, cG, rfl⟩ := Gou.ownsRow_form G7.own
            have hc1 := (G7.mod.cell (p := ⟨N5, 1, none⟩) (World.block_lt_of_cell? _ _ hHeld.2) (own_blk_ne HG.out HX.out (by decide))).trans hHeld.2
            have M := Lib.hid (And.intro (hHeld.1.trans' (G7.mod.imp (fun k _ h => .inr (.inl h)))) hc1)
            replace HMM := Lib.hid (HMM.out.trans G7.mod (fun k hk h => by have := own_ge HG.out k h; have := HRlt.out; omega))
            replace HV := Lib.hid (ownsRow_mod HV.out G7.mod (fun k hk hs => own2_ne HV.out HG.out (by decide) k hk hs))
            replace HX := Lib.hid (Blk.mod HX.out G7.mod (own_blk_ne HG.out HX.out (by decide)))
            replace HS1 := Lib.hid (Blk.mod HS1.out G7.mod (own_blk_ne HG.out HS1.out (by decide)))
            replace HS2 := Lib.hid (Blk.mod HS2.out G7.mod (own_blk_ne HG.out HS2.out (by decide)))
            replace HE6 := Lib.hid (Blk.mod HE6.out G7.mod (own_blk_ne HG.out HE6.out (by decide)))
            replace HG := Lib.hid G7.own
            clear HE2 G7 hc1 hHeld
            refine hK _ _ M.out (fun hHeld => ?_)
            clear hK K M
            try simp only [Act.put, List.setIfInBounds_toArray, List.set_cons_zero, List.set_cons_succ]
            refine wpAnyH_take (i := 8) (oi := ({ dst := some 31, op := Op.fieldAddr 28 (Operand.tmp 5) 0, type := 0, pos := "arena.go:52", after := #[{ on := 0, ground := Ground.phase }, { on := 1, ground := Ground.phase }, { on := 2, ground := Ground.phase }, { on := 3, ground := Ground.phase }, { on := 4, ground := Ground.phase }, { on := 5, ground := Ground.phase }, { on := 6, ground := Ground.textOnly Departure.lateStores }, { on := 7, ground := Ground.textOnly Departure.lateStoresUnsure }], guard := none } : Oper)) (v := .pointer (some ⟨N5, 0, none⟩)) rfl (by kernel_rfl) (by kernel_rfl) (by kernel_rfl) (fun _ _ _ h => h) (Or.inl ⟨by rfl, ?_⟩) hHeld ?_
            · (intro w' hSw; (try dsimp only at hSw); clear hSw hHeld; go_simp; (try with_reducible rfl))
            try simp only [Act.put, List.setIfInBounds_toArray, List.set_cons_zero, List.set_cons_succ]
            refine wpAnyH_ready (rs := [7]) (by kernel_rfl) (by simp) (AllReadyH.cons (o := ({ dst := some 30, op := Op.call { callee := Callee.builtin Builtin.append, args := #[Operand.tmp 28, Operand.tmp 29], argTypes := #[26, 26] }, type := 26, pos := "arena.go:52", after := #[{ on := 5, ground := Ground.data }, { on := 6, ground := Ground.data }, { on := 3, ground := Ground.chain }], guard := none } : Oper)) rfl (fun K hK => ?_) AllReadyH.nil)
            rw [if_pos (by rfl)]
            refine wp_append_row T_bool _ _ rfl (W1.heap.size) (.slice q2 a.live.length d2) (a.live.length) (bvs a.live) (fun _ => True) (.slice (some ⟨N_V6_2, 0, none⟩) 1 1) 1 [.bool false] rfl rfl (by have := hbase.out; have := hHeld.1.size; omega) HV.out (RowG.of_blk HE6.out 1 1 rfl _ trivial) (by simp [Value.oneCell']) (by have := Hlen.out; have := Hn.out; unfold maxLen; omega) (by have := Hlen.out; have := Hn.out; omega) ?_
            intro v7 V7_4 G7
            obtain ⟨pL, cL, rfl⟩ := Gou.ownsRow_form G7.own
            have hc1 := (G7.mod.cell (p := ⟨N5, 1, none⟩) (World.block_lt_of_cell? _ _ hHeld.2) (own_blk_ne HV.out HX.out (by decide))).trans hHeld.2
            have M := Lib.hid (And.intro (hHeld.1.trans' (G7.mod.imp (fun k _ h => .inr (.inr h)))) hc1)
            replace HMM := Lib.hid (HMM.out.trans G7.mod (fun k hk h => by have := own_ge HV.out k h; have := HRlt.out; omega))
            replace HG := Lib.hid (ownsRow_mod HG.out G7.mod (fun k hk hs => own2_ne HG.out HV.out (by decide) k hk hs))
            replace HX := Lib.hid (Blk.mod HX.out G7.mod (own_blk_ne HV.out HX.out (by decide)))
            replace HS1 := Lib.hid (Blk.mod HS1.out G7.mod (own_blk_ne HV.out HS1.out (by decide)))
            replace HS2 := Lib.hid (Blk.mod HS2.out G7.mod (own_blk_ne HV.out HS2.out (by decide)))
            replace HV := Lib.hid G7.own
            clear HE6 G7 hc1 hHeld
            refine hK _ _ M.out (fun hHeld => ?_)
            clear hK K M
            try simp only [Act.put, List.setIfInBounds_toArray, List.set_cons_zero, List.set_cons_succ]
            refine wpAnyH_ready (rs := [9]) (by kernel_rfl) (by simp) (AllReadyH.cons (o := ({ dst := none, op := Op.store 25 (Operand.tmp 31) (Operand.tmp 26), type := 0, pos := "arena.go:52", after := #[{ on := 8, ground := Ground.data }, { on := 3, ground := Ground.data }, { on := 7, ground := Ground.chain }, { on := 0, ground := Ground.phase }, { on := 1, ground := Ground.phase }, { on := 2, ground := Ground.phase }, { on := 3, ground := Ground.phase }, { on := 4, ground := Ground.phase }, { on := 5, ground := Ground.phase }, { on := 6, ground := Ground.textOnly Departure.lateStores }, { on := 7, ground := Ground.textOnly Departure.lateStoresUnsure }], guard := none } : Oper)) rfl (fun K hK => ?_) AllReadyH.nil)
            have g0 := HX.out.cell 0 rfl
            have g1 := HX.out.frozen 0
            go_simp
            clear g0 g1
            have hq := Gou.Mod.set1 V7_4 N5 0 (.slice pG (a.gens.length + 1) cG)
            replace HG := Lib.hid (ownsRow_mod HG.out hq (fun k hk e => own_blk_ne HG.out HX.out (by decide) (by rw [hk, e])))
            replace HV := Lib.hid (ownsRow_mod HV.out hq (fun k hk e => own_blk_ne HV.out HX.out (by decide) (by rw [hk, e])))
            replace HS1 := Lib.hid (Blk.mod HS1.out hq (by have := HRlt.out; have := HNlt.out; omega))
            replace HS2 := Lib.hid (Blk.mod HS2.out hq (by have := HRlt.out; have := HNlt.out; omega))
            replace HMM := Lib.hid (HMM.out.trans hq (fun k hk e => by have := HRlt.out; have := HNlt.out; omega))
            have M : Hid (Gou.Mod (fun k => k = N5 ∨ (fun k => (Value.slice p2 a.gens.length c2).ownBlock = some k ∨ (Value.slice q2 a.live.length d2).ownBlock = some k) k) W3 _ ∧ World.cell? _ ⟨N5, 1, none⟩ = some (.slice q2 a.live.length d2)) := Lib.hid (And.intro ((hHeld.1).trans' (hq.imp (fun k _ h => .inl h))) (Blk.cell (HX.out.set 0 (.slice pG (a.gens.length + 1) cG)) 1 rfl))
            replace HX := Lib.hid (HX.out.set 0 (.slice pG (a.gens.length + 1) cG))
            clear hq hHeld
            refine hK _ _ M.out (fun hHeld => ?_)
            clear hK K M
            try simp only [Act.put, List.setIfInBounds_toArray, List.set_cons_zero, List.set_cons_succ]
            refine wpAnyH_take (i := 10) (oi := ({ dst := some 32, op := Op.fieldAddr 28 (Operand.tmp 5) 1, type := 0, pos := "arena.go:52", after := #[{ on := 0, ground := Ground.phase }, { on := 1, ground := Ground.phase }, { on := 2, ground := Ground.phase }, { on := 3, ground := Ground.phase }, { on := 4, ground := Ground.phase }, { on := 5, ground := Ground.phase }, { on := 6, ground := Ground.phase }, { on := 7, ground := Ground.phase }, { on := 8, ground := Ground.phase }, { on := 9, ground := Ground.phase }], guard := none } : Oper)) (v := .pointer (some ⟨N5, 1, none⟩)) rfl (by kernel_rfl) (by kernel_rfl) (by kernel_rfl) (fun _ _ _ h => h) (Or.inl ⟨by rfl, ?_⟩) hHeld ?_
            · (intro w' hSw; (try dsimp only at hSw); clear hSw hHeld; go_simp; (try with_reducible rfl))
            try simp only [Act.put, List.setIfInBounds_toArray, List.set_cons_zero, List.set_cons_succ]
            refine wpAnyH_take (i := 11) (oi := ({ dst := none, op := Op.assign (Operand.const (Value.bool true)), type := 0, pos := "arena.go:52", after := #[{ on := 10, ground := Ground.data }, { on := 7, ground := Ground.data }, { on := 9, ground := Ground.chain }, { on := 0, ground := Ground.phase }, { on := 1, ground := Ground.phase }, { on := 2, ground := Ground.phase }, { on := 3, ground := Ground.phase }, { on := 4, ground := Ground.phase }, { on := 5, ground := Ground.phase }, { on := 6, ground := Ground.phase }, { on := 7, ground := Ground.phase }, { on := 8, ground := Ground.phase }, { on := 9, ground := Ground.phase }], guard := none } : Oper)) (v := .bool true) rfl (by kernel_rfl) (by kernel_rfl) (by kernel_rfl) (fun _ _ _ h => h) (Or.inl ⟨by rfl, ?_⟩) hHeld ?_
            · (intro w' hSw; clear hSw hHeld; go_simp; (try with_reducible rfl))
            try simp only [Act.put, List.setIfInBounds_toArray, List.set_cons_zero, List.set_cons_succ]
            have MS := Lib.hid hHeld
            refine wpAnyH_done (by kernel_rfl) ?_ _
            clear hHeld
            show Oper.wp _ _ _ _ _ _
            have g0 := HX.out.cell 1 rfl
            have g1 := HX.out.frozen 1
            clear MS
            go_simp
            clear g0 g1
            have hq := Gou.Mod.set1 (V7_4.setCell ⟨N5, 0, none⟩ (.slice pG (a.gens.length + 1) cG)) N5 1 (.slice pL (a.live.length + 1) cL)
            have HXn := HX.out.set 1 (.slice pL (a.live.length + 1) cL)
            have HGn := ownsRow_mod HG.out hq (fun k hk e => own_blk_ne HG.out HX.out (by decide) (by rw [hk, e]))
            have HVn := ownsRow_mod HV.out hq (fun k hk e => own_blk_ne HV.out HX.out (by decide) (by rw [hk, e]))
            have HS1n := HS1.out.mod hq (by have := HRlt.out; have := HNlt.out; omega)
            have HS2n := HS2.out.mod hq (by have := HRlt.out; have := HNlt.out; omega)
            have HMn := HMM.out.trans hq (fun k hk e => by have := HRlt.out; have := HNlt.out; omega)
            go_wp2_with fail
            go_meet
            case rel => exact ⟨_, _, pG, cG, pL, cL, rfl, rfl, by simpa using HXn, ⟨by simpa [ivs] using HGn, by simpa [bvs] using HVn⟩, HS1n, HS2n, HMn⟩
        · skip
          go_simp
          have hq : Gou.Mod (fun _ => False) (W3.drew) ((W3.alloc (.cells #[.bool false] 4)).drew) := Gou.Mod.alloc0 (W3.drew) (.cells #[.bool false] 4)
          have HE6 : Hid (Blk ((W3.alloc (.cells #[.bool false] 4)).drew) (W3.heap.size) 4 #[.bool false]) := Lib.hid (Blk.new (W3.drew) 4 #[.bool false])
          replace HG := Lib.hid (own_up HG.out hq)
          replace HV := Lib.hid (own_up HV.out hq)
          replace HX := Lib.hid (Blk.up HX.out hq)
          replace HS1 := Lib.hid (Blk.up HS1.out hq)
          replace HS2 := Lib.hid (Blk.up HS2.out hq)
          replace HMM := Lib.hid (HMM.out.trans' hq)
          have M := Lib.hid (And.intro (hHeld.1.trans' (hq.imp (fun _ _ h => h.elim))) ((hq.cell (p := ⟨N5, 1, none⟩) (World.block_lt_of_cell? _ _ hHeld.2) (fun h => h)).trans hHeld.2))
          clear hHeld hq
          obtain ⟨V6_1, hV6_1⟩ : ∃ x, x = (W3.alloc (.cells #[.bool false] 4)).drew := ⟨_, rfl⟩
          obtain ⟨N_V6_1, hN_V6_1⟩ : ∃ x, x = W3.heap.size := ⟨_, rfl⟩
          rw [← hN_V6_1] at HE6
          rw [← hN_V6_1]
          rw [← hV6_1] at HG HV HX HS1 HS2 HE6 HMM M
          rw [← hV6_1]
          clear hV6_1 hN_V6_1
          refine hK _ _ M.out (fun hHeld => ?_)
          clear hK K11 M
          try simp only [Act.put, List.setIfInBounds_toArray, List.set_cons_zero, List.set_cons_succ]
          refine wpAnyH_ready (rs := [1, 2]) (by kernel_rfl) (by simp) (AllReadyH.cons (o := ({ dst := some 24, op := Op.load 25 (Operand.tmp 23), type := 25, pos := "arena.go:52", after := #[{ on := 0, ground := Ground.data }], guard := none } : Oper)) rfl (fun K16 hK => ?_) (AllReadyH.cons (o := ({ dst := some 25, op := Op.buildSlice 25 1 #[(0, Operand.const (Value.int IntKind.i64 0))], type := 25, pos := "arena.go:52", after := #[], guard := none } : Oper)) rfl (fun K16 hK => ?_) AllReadyH.nil))
          · skip
            have g0 := HX.out.cell 0 rfl
            go_simp
            clear g0
            have M := Lib.hid hHeld
            clear hHeld
            refine hK _ _ M.out (fun hHeld => ?_)
            clear hK K16 M
            try simp only [Act.put, List.setIfInBounds_toArray, List.set_cons_zero, List.set_cons_succ]
            refine wpAnyH_ready (rs := [2]) (by kernel_rfl) (by simp) (AllReadyH.cons (o := ({ dst := some 25, op := Op.buildSlice 25 1 #[(0, Operand.const (Value.int IntKind.i64 0))], type := 25, pos := "arena.go:52", after := #[], guard := none } : Oper)) rfl (fun K hK => ?_) AllReadyH.nil)
            go_simp
            have hq : Gou.Mod (fun _ => False) (V6_1) (V6_1.alloc (.cells #[.int .i64 0] 3)) := Gou.Mod.alloc0 (V6_1) (.cells #[.int .i64 0] 3)
            have HE2 : Hid (Blk (V6_1.alloc (.cells #[.int .i64 0] 3)) (V6_1.heap.size) 3 #[.int .i64 0]) := Lib.hid (Blk.new (V6_1) 3 #[.int .i64 0])
            replace HG := Lib.hid (own_up HG.out hq)
            replace HV := Lib.hid (own_up HV.out hq)
            replace HX := Lib.hid (Blk.up HX.out hq)
            replace HS1 := Lib.hid (Blk.up HS1.out hq)
            replace HS2 := Lib.hid (Blk.up HS2.out hq)
            replace HE6 := Lib.hid (Blk.up HE6.out hq)
            replace HMM := Lib.hid (HMM.out.trans' hq)
            have M := Lib.hid (And.intro (hHeld.1.trans' (hq.imp (fun _ _ h => h.elim))) ((hq.cell (p := ⟨N5, 1, none⟩) (World.block_lt_of_cell? _ _ hHeld.2) (fun h => h)).trans hHeld.2))
            clear hHeld hq
            obtain ⟨V2_2, hV2_2⟩ : ∃ x, x = V6_1.alloc (.cells #[.int .i64 0] 3) := ⟨_, rfl⟩
            obtain ⟨N_V2_2, hN_V2_2⟩ : ∃ x, x = V6_1.heap.size := ⟨_, rfl⟩
            rw [← hN_V2_2] at HE2
            rw [← hN_V2_2]
            rw [← hV2_2] at HG HV HX HS1 HS2 HE6 HE2 HMM M
            rw [← hV2_2]
            clear hV2_2 hN_V2_2
            refine hK _ _ M.out (fun hHeld => ?_)
            clear hK K M
            try simp only [Act.put, List.setIfInBounds_toArray, List.set_cons_zero, List.set_cons_succ]
            refine wpAnyH_ready (rs := [3]) (by kernel_rfl) (by simp) (AllReadyH.cons (o := ({ dst := some 26, op := Op.call { callee := Callee.builtin Builtin.append, args := #[Operand.tmp 24, Operand.tmp 25], argTypes := #[25, 25] }, type := 25, pos := "arena.go:52", after := #[{ on := 1, ground := Ground.data }, { on := 2, ground := Ground.data }], guard := none } : Oper)) rfl (fun K hK => ?_) AllReadyH.nil)
            rw [if_pos (by rfl)]
            refine wp_append_row T_int _ _ rfl (W1.heap.size) (.slice p2 a.gens.length c2) (a.gens.length) (ivs a.gens) (fun _ => True) (.slice (some ⟨N_V2_2, 0, none⟩) 1 1) 1 [.int .i64 0] rfl rfl (by have := hbase.out; have := hHeld.1.size; omega) HG.out (RowG.of_blk HE2.out 1 1 rfl _ trivial) (by simp [Value.oneCell']) (by have := Hlen.out; have := Hn.out; unfold maxLen; omega) (by have := Hlen.out; have := Hn.out; omega) ?_
            intro v7 V3_3 G7
            obtain ⟨pG, cG, rfl⟩ := Gou.ownsRow_form G7.own
            have hc1 := (G7.mod.cell (p := ⟨N5, 1, none⟩) (World.block_lt_of_cell? _ _ hHeld.2) (own_blk_ne HG.out HX.out (by decide))).trans hHeld.2
            have M := Lib.hid (And.intro (hHeld.1.trans' (G7.mod.imp (fun k _ h => .inr (.inl h)))) hc1)
            replace HMM := Lib.hid (HMM.out.trans G7.mod (fun k hk h => by have := own_ge HG.out k h; have := HRlt.out; omega))
            replace HV := Lib.hid (ownsRow_mod HV.out G7.mod (fun k hk hs => own2_ne HV.out HG.out (by decide) k hk hs))
            replace HX := Lib.hid (Blk.mod HX.out G7.mod (own_blk_ne HG.out HX.out (by decide)))
            replace HS1 := Lib.hid (Blk.mod HS1.out G7.mod (own_blk_ne HG.out HS1.out (by decide)))
            replace HS2 := Lib.hid (Blk.mod HS2.out G7.mod (own_blk_ne HG.out HS2.out (by decide)))
            replace HE6 := Lib.hid (Blk.mod HE6.out G7.mod (own_blk_ne HG.out HE6.out (by decide)))
            replace HG := Lib.hid G7.own
            clear HE2 G7 hc1 hHeld
            refine hK _ _ M.out (fun hHeld => ?_)
            clear hK K M
            try simp only [Act.put, List.setIfInBounds_toArray, List.set_cons_zero, List.set_cons_succ]
            refine wpAnyH_take (i := 8) (oi := ({ dst := some 31, op := Op.fieldAddr 28 (Operand.tmp 5) 0, type := 0, pos := "arena.go:52", after := #[{ on := 0, ground := Ground.phase }, { on := 1, ground := Ground.phase }, { on := 2, ground := Ground.phase }, { on := 3, ground := Ground.phase }, { on := 4, ground := Ground.phase }, { on := 5, ground := Ground.phase }, { on := 6, ground := Ground.textOnly Departure.lateStores }, { on := 7, ground := Ground.textOnly Departure.lateStoresUnsure }], guard := none } : Oper)) (v := .pointer (some ⟨N5, 0, none⟩)) rfl (by kernel_rfl) (by kernel_rfl) (by kernel_rfl) (fun _ _ _ h => h) (Or.inl ⟨by rfl, ?_⟩) hHeld ?_
            · (intro w' hSw; (try dsimp only at hSw); clear hSw hHeld; go_simp; (try with_reducible rfl))
            try simp only [Act.put, List.setIfInBounds_toArray, List.set_cons_zero, List.set_cons_succ]
            refine wpAnyH_ready (rs := [7]) (by kernel_rfl) (by simp) (AllReadyH.cons (o := ({ dst := some 30, op := Op.call { callee := Callee.builtin Builtin.append, args := #[Operand.tmp 28, Operand.tmp 29], argTypes := #[26, 26] }, type := 26, pos := "arena.go:52", after := #[{ on := 5, ground := Ground.data }, { on := 6, ground := Ground.data }, { on := 3, ground := Ground.chain }], guard := none } : Oper)) rfl (fun K hK => ?_) AllReadyH.nil)
            rw [if_pos (by rfl)]
            refine wp_append_row T_bool _ _ rfl (W1.heap.size) (.slice q2 a.live.length d2) (a.live.length) (bvs a.live) (fun _ => True) (.slice (some ⟨N_V6_1, 0, none⟩) 1 1) 1 [.bool false] rfl rfl (by have := hbase.out; have := hHeld.1.size; omega) HV.out (RowG.of_blk HE6.out 1 1 rfl _ trivial) (by simp [Value.oneCell']) (by have := Hlen.out; have := Hn.out; unfold maxLen; omega) (by have := Hlen.out; have := Hn.out; omega) ?_
            intro v7 V7_4 G7
            obtain ⟨pL, cL, rfl⟩ := Gou.ownsRow_form G7.own
            have hc1 := (G7.mod.cell (p := ⟨N5, 1, none⟩) (World.block_lt_of_cell? _ _ hHeld.2) (own_blk_ne HV.out HX.out (by decide))).trans hHeld.2
            have M := Lib.hid (And.intro (hHeld.1.trans' (G7.mod.imp (fun k _ h => .inr (.inr h)))) hc1)
            replace HMM := Lib.hid (HMM.out.trans G7.mod (fun k hk h => by have := own_ge HV.out k h; have := HRlt.out; omega))
            replace HG := Lib.hid (ownsRow_mod HG.out G7.mod (fun k hk hs => own2_ne HG.out HV.out (by decide) k hk hs))
            replace HX := Lib.hid (Blk.mod HX.out G7.mod (own_blk_ne HV.out HX.out (by decide)))
            replace HS1 := Lib.hid (Blk.mod HS1.out G7.mod (own_blk_ne HV.out HS1.out (by decide)))
            replace HS2 := Lib.hid (Blk.mod HS2.out G7.mod (own_blk_ne HV.out HS2.out (by decide)))
            replace HV := Lib.hid G7.own
            clear HE6 G7 hc1 hHeld
            refine hK _ _ M.out (fun hHeld => ?_)
            clear hK K M
            try simp only [Act.put, List.setIfInBounds_toArray, List.set_cons_zero, List.set_cons_succ]
            refine wpAnyH_ready (rs := [9]) (by kernel_rfl) (by simp) (AllReadyH.cons (o := ({ dst := none, op := Op.store 25 (Operand.tmp 31) (Operand.tmp 26), type := 0, pos := "arena.go:52", after := #[{ on := 8, ground := Ground.data }, { on := 3, ground := Ground.data }, { on := 7, ground := Ground.chain }, { on := 0, ground := Ground.phase }, { on := 1, ground := Ground.phase }, { on := 2, ground := Ground.phase }, { on := 3, ground := Ground.phase }, { on := 4, ground := Ground.phase }, { on := 5, ground := Ground.phase }, { on := 6, ground := Ground.textOnly Departure.lateStores }, { on := 7, ground := Ground.textOnly Departure.lateStoresUnsure }], guard := none } : Oper)) rfl (fun K hK => ?_) AllReadyH.nil)
            have g0 := HX.out.cell 0 rfl
            have g1 := HX.out.frozen 0
            go_simp
            clear g0 g1
            have hq := Gou.Mod.set1 V7_4 N5 0 (.slice pG (a.gens.length + 1) cG)
            replace HG := Lib.hid (ownsRow_mod HG.out hq (fun k hk e => own_blk_ne HG.out HX.out (by decide) (by rw [hk, e])))
            replace HV := Lib.hid (ownsRow_mod HV.out hq (fun k hk e => own_blk_ne HV.out HX.out (by decide) (by rw [hk, e])))
            replace HS1 := Lib.hid (Blk.mod HS1.out hq (by have := HRlt.out; have := HNlt.out; omega))
            replace HS2 := Lib.hid (Blk.mod HS2.out hq (by have := HRlt.out; have := HNlt.out; omega))
            replace HMM := Lib.hid (HMM.out.trans hq (fun k hk e => by have := HRlt.out; have := HNlt.out; omega))
            have M : Hid (Gou.Mod (fun k => k = N5 ∨ (fun k => (Value.slice p2 a.gens.length c2).ownBlock = some k ∨ (Value.slice q2 a.live.length d2).ownBlock = some k) k) W3 _ ∧ World.cell? _ ⟨N5, 1, none⟩ = some (.slice q2 a.live.length d2)) := Lib.hid (And.intro ((hHeld.1).trans' (hq.imp (fun k _ h => .inl h))) (Blk.cell (HX.out.set 0 (.slice pG (a.gens.length + 1) cG)) 1 rfl))
            replace HX := Lib.hid (HX.out.set 0 (.slice pG (a.gens.length + 1) cG))
            clear hq hHeld
            refine hK _ _ M.out (fun hHeld => ?_)
            clear hK K M
            try simp only [Act.put, List.setIfInBounds_toArray, List.set_cons_zero, List.set_cons_succ]
            refine wpAnyH_take (i := 10) (oi := ({ dst := some 32, op := Op.fieldAddr 28 (Operand.tmp 5) 1, type := 0, pos := "arena.go:52", after := #[{ on := 0, ground := Ground.phase }, { on := 1, ground := Ground.phase }, { on := 2, ground := Ground.phase }, { on := 3, ground := Ground.phase }, { on := 4, ground := Ground.phase }, { on := 5, ground := Ground.phase }, { on := 6, ground := Ground.phase }, { on := 7, ground := Ground.phase }, { on := 8, ground := Ground.phase }, { on := 9, ground := Ground.phase }], guard := none } : Oper)) (v := .pointer (some ⟨N5, 1, none⟩)) rfl (by kernel_rfl) (by kernel_rfl) (by kernel_rfl) (fun _ _ _ h => h) (Or.inl ⟨by rfl, ?_⟩) hHeld ?_
            · (intro w' hSw; (try dsimp only at hSw); clear hSw hHeld; go_simp; (try with_reducible rfl))
            try simp only [Act.put, List.setIfInBounds_toArray, List.set_cons_zero, List.set_cons_succ]
            refine wpAnyH_take (i := 11) (oi := ({ dst := none, op := Op.assign (Operand.const (Value.bool true)), type := 0, pos := "arena.go:52", after := #[{ on := 10, ground := Ground.data }, { on := 7, ground := Ground.data }, { on := 9, ground := Ground.chain }, { on := 0, ground := Ground.phase }, { on := 1, ground := Ground.phase }, { on := 2, ground := Ground.phase }, { on := 3, ground := Ground.phase }, { on := 4, ground := Ground.phase }, { on := 5, ground := Ground.phase }, { on := 6, ground := Ground.phase }, { on := 7, ground := Ground.phase }, { on := 8, ground := Ground.phase }, { on := 9, ground := Ground.phase }], guard := none } : Oper)) (v := .bool true) rfl (by kernel_rfl) (by kernel_rfl) (by kernel_rfl) (fun _ _ _ h => h) (Or.inl ⟨by rfl, ?_⟩) hHeld ?_
            · (intro w' hSw; clear hSw hHeld; go_simp; (try with_reducible rfl))
            try simp only [Act.put, List.setIfInBounds_toArray, List.set_cons_zero, List.set_cons_succ]
            have MS := Lib.hid hHeld
            refine wpAnyH_done (by kernel_rfl) ?_ _
            clear hHeld
            show Oper.wp _ _ _ _ _ _
            have g0 := HX.out.cell 1 rfl
            have g1 := HX.out.frozen 1
            clear MS
            go_simp
            clear g0 g1
            have hq := Gou.Mod.set1 (V7_4.setCell ⟨N5, 0, none⟩ (.slice pG (a.gens.length + 1) cG)) N5 1 (.slice pL (a.live.length + 1) cL)
            have HXn := HX.out.set 1 (.slice pL (a.live.length + 1) cL)
            have HGn := ownsRow_mod HG.out hq (fun k hk e => own_blk_ne HG.out HX.out (by decide) (by rw [hk, e]))
            have HVn := ownsRow_mod HV.out hq (fun k hk e => own_blk_ne HV.out HX.out (by decide) (by rw [hk, e]))
            have HS1n := HS1.out.mod hq (by have := HRlt.out; have := HNlt.out; omega)
            have HS2n := HS2.out.mod hq (by have := HRlt.out; have := HNlt.out; omega)
            have HMn := HMM.out.trans hq (fun k hk e => by have := HRlt.out; have := HNlt.out; omega)
            go_wp2_with fail
            go_meet
            case rel => exact ⟨_, _, pG, cG, pL, cL, rfl, rfl, by simpa using HXn, ⟨by simpa [ivs] using HGn, by simpa [bvs] using HVn⟩, HS1n, HS2n, HMn⟩
          · skip
            go_simp
            have hq : Gou.Mod (fun _ => False) (V6_1) (V6_1.alloc (.cells #[.int .i64 0] 3)) := Gou.Mod.alloc0 (V6_1) (.cells #[.int .i64 0] 3)
            have HE2 : Hid (Blk (V6_1.alloc (.cells #[.int .i64 0] 3)) (V6_1.heap.size) 3 #[.int .i64 0]) := Lib.hid (Blk.new (V6_1) 3 #[.int .i64 0])
            replace HG := Lib.hid (own_up HG.out hq)
            replace HV := Lib.hid (own_up HV.out hq)
            replace HX := Lib.hid (Blk.up HX.out hq)
            replace HS1 := Lib.hid (Blk.up HS1.out hq)
            replace HS2 := Lib.hid (Blk.up HS2.out hq)
            replace HE6 := Lib.hid (Blk.up HE6.out hq)
            replace HMM := Lib.hid (HMM.out.trans' hq)
            have M := Lib.hid (And.intro (hHeld.1.trans' (hq.imp (fun _ _ h => h.elim))) ((hq.cell (p := ⟨N5, 1, none⟩) (World.block_lt_of_cell? _ _ hHeld.2) (fun h => h)).trans hHeld.2))
            clear hHeld hq
            obtain ⟨V2_2, hV2_2⟩ : ∃ x, x = V6_1.alloc (.cells #[.int .i64 0] 3) := ⟨_, rfl⟩
            obtain ⟨N_V2_2, hN_V2_2⟩ : ∃ x, x = V6_1.heap.size := ⟨_, rfl⟩
            rw [← hN_V2_2] at HE2
            rw [← hN_V2_2]
            rw [← hV2_2] at HG HV HX HS1 HS2 HE6 HE2 HMM M
            rw [← hV2_2]
            clear hV2_2 hN_V2_2
            refine hK _ _ M.out (fun hHeld => ?_)
            clear hK K16 M
            try simp only [Act.put, List.setIfInBounds_toArray, List.set_cons_zero, List.set_cons_succ]
            refine wpAnyH_ready (rs := [1]) (by kernel_rfl) (by simp) (AllReadyH.cons (o := ({ dst := some 24, op := Op.load 25 (Operand.tmp 23), type := 25, pos := "arena.go:52", after := #[{ on := 0, ground := Ground.data }], guard := none } : Oper)) rfl (fun K hK => ?_) AllReadyH.nil)
            have g0 := HX.out.cell 0 rfl
            go_simp
            clear g0
            have M := Lib.hid hHeld
            clear hHeld
            refine hK _ _ M.out (fun hHeld => ?_)
            clear hK K M
            try simp only [Act.put, List.setIfInBounds_toArray, List.set_cons_zero, List.set_cons_succ]
            refine wpAnyH_ready (rs := [3]) (by kernel_rfl) (by simp) (AllReadyH.cons (o := ({ dst := some 26, op := Op.call { callee := Callee.builtin Builtin.append, args := #[Operand.tmp 24, Operand.tmp 25], argTypes := #[25, 25] }, type := 25, pos := "arena.go:52", after := #[{ on := 1, ground := Ground.data }, { on := 2, ground := Ground.data }], guard := none } : Oper)) rfl (fun K hK => ?_) AllReadyH.nil)
            rw [if_pos (by rfl)]
            refine wp_append_row T_int _ _ rfl (W1.heap.size) (.slice p2 a.gens.length c2) (a.gens.length) (ivs a.gens) (fun _ => True) (.slice (some ⟨N_V2_2, 0, none⟩) 1 1) 1 [.int .i64 0] rfl rfl (by have := hbase.out; have := hHeld.1.size; omega) HG.out (RowG.of_blk HE2.out 1 1 rfl _ trivial) (by simp [Value.oneCell']) (by have := Hlen.out; have := Hn.out; unfold maxLen; omega) (by have := Hlen.out; have := Hn.out; omega) ?_
            intro v7 V3_3 G7
            obtain ⟨pG, cG, rfl⟩ := Gou.ownsRow_form G7.own
            have hc1 := (G7.mod.cell (p := ⟨N5, 1, none⟩) (World.block_lt_of_cell? _ _ hHeld.2) (own_blk_ne HG.out HX.out (by decide))).trans hHeld.2
            have M := Lib.hid (And.intro (hHeld.1.trans' (G7.mod.imp (fun k _ h => .inr (.inl h)))) hc1)
            replace HMM := Lib.hid (HMM.out.trans G7.mod (fun k hk h => by have := own_ge HG.out k h; have := HRlt.out; omega))
            replace HV := Lib.hid (ownsRow_mod HV.out G7.mod (fun k hk hs => own2_ne HV.out HG.out (by decide) k hk hs))
            replace HX := Lib.hid (Blk.mod HX.out G7.mod (own_blk_ne HG.out HX.out (by decide)))
            replace HS1 := Lib.hid (Blk.mod HS1.out G7.mod (own_blk_ne HG.out HS1.out (by decide)))
            replace HS2 := Lib.hid (Blk.mod HS2.out G7.mod (own_blk_ne HG.out HS2.out (by decide)))
            replace HE6 := Lib.hid (Blk.mod HE6.out G7.mod (own_blk_ne HG.out HE6.out (by decide)))
            replace HG := Lib.hid G7.own
            clear HE2 G7 hc1 hHeld
            refine hK _ _ M.out (fun hHeld => ?_)
            clear hK K M
            try simp only [Act.put, List.setIfInBounds_toArray, List.set_cons_zero, List.set_cons_succ]
            refine wpAnyH_take (i := 8) (oi := ({ dst := some 31, op := Op.fieldAddr 28 (Operand.tmp 5) 0, type := 0, pos := "arena.go:52", after := #[{ on := 0, ground := Ground.phase }, { on := 1, ground := Ground.phase }, { on := 2, ground := Ground.phase }, { on := 3, ground := Ground.phase }, { on := 4, ground := Ground.phase }, { on := 5, ground := Ground.phase }, { on := 6, ground := Ground.textOnly Departure.lateStores }, { on := 7, ground := Ground.textOnly Departure.lateStoresUnsure }], guard := none } : Oper)) (v := .pointer (some ⟨N5, 0, none⟩)) rfl (by kernel_rfl) (by kernel_rfl) (by kernel_rfl) (fun _ _ _ h => h) (Or.inl ⟨by rfl, ?_⟩) hHeld ?_
            · (intro w' hSw; (try dsimp only at hSw); clear hSw hHeld; go_simp; (try with_reducible rfl))
            try simp only [Act.put, List.setIfInBounds_toArray, List.set_cons_zero, List.set_cons_succ]
            refine wpAnyH_ready (rs := [7]) (by kernel_rfl) (by simp) (AllReadyH.cons (o := ({ dst := some 30, op := Op.call { callee := Callee.builtin Builtin.append, args := #[Operand.tmp 28, Operand.tmp 29], argTypes := #[26, 26] }, type := 26, pos := "arena.go:52", after := #[{ on := 5, ground := Ground.data }, { on := 6, ground := Ground.data }, { on := 3, ground := Ground.chain }], guard := none } : Oper)) rfl (fun K hK => ?_) AllReadyH.nil)
            rw [if_pos (by rfl)]
            refine wp_append_row T_bool _ _ rfl (W1.heap.size) (.slice q2 a.live.length d2) (a.live.length) (bvs a.live) (fun _ => True) (.slice (some ⟨N_V6_1, 0, none⟩) 1 1) 1 [.bool false] rfl rfl (by have := hbase.out; have := hHeld.1.size; omega) HV.out (RowG.of_blk HE6.out 1 1 rfl _ trivial) (by simp [Value.oneCell']) (by have := Hlen.out; have := Hn.out; unfold maxLen; omega) (by have := Hlen.out; have := Hn.out; omega) ?_
            intro v7 V7_4 G7
            obtain ⟨pL, cL, rfl⟩ := Gou.ownsRow_form G7.own
            have hc1 := (G7.mod.cell (p := ⟨N5, 1, none⟩) (World.block_lt_of_cell? _ _ hHeld.2) (own_blk_ne HV.out HX.out (by decide))).trans hHeld.2
            have M := Lib.hid (And.intro (hHeld.1.trans' (G7.mod.imp (fun k _ h => .inr (.inr h)))) hc1)
            replace HMM := Lib.hid (HMM.out.trans G7.mod (fun k hk h => by have := own_ge HV.out k h; have := HRlt.out; omega))
            replace HG := Lib.hid (ownsRow_mod HG.out G7.mod (fun k hk hs => own2_ne HG.out HV.out (by decide) k hk hs))
            replace HX := Lib.hid (Blk.mod HX.out G7.mod (own_blk_ne HV.out HX.out (by decide)))
            replace HS1 := Lib.hid (Blk.mod HS1.out G7.mod (own_blk_ne HV.out HS1.out (by decide)))
            replace HS2 := Lib.hid (Blk.mod HS2.out G7.mod (own_blk_ne HV.out HS2.out (by decide)))
            replace HV := Lib.hid G7.own
            clear HE6 G7 hc1 hHeld
            refine hK _ _ M.out (fun hHeld => ?_)
            clear hK K M
            try simp only [Act.put, List.setIfInBounds_toArray, List.set_cons_zero, List.set_cons_succ]
            refine wpAnyH_ready (rs := [9]) (by kernel_rfl) (by simp) (AllReadyH.cons (o := ({ dst := none, op := Op.store 25 (Operand.tmp 31) (Operand.tmp 26), type := 0, pos := "arena.go:52", after := #[{ on := 8, ground := Ground.data }, { on := 3, ground := Ground.data }, { on := 7, ground := Ground.chain }, { on := 0, ground := Ground.phase }, { on := 1, ground := Ground.phase }, { on := 2, ground := Ground.phase }, { on := 3, ground := Ground.phase }, { on := 4, ground := Ground.phase }, { on := 5, ground := Ground.phase }, { on := 6, ground := Ground.textOnly Departure.lateStores }, { on := 7, ground := Ground.textOnly Departure.lateStoresUnsure }], guard := none } : Oper)) rfl (fun K hK => ?_) AllReadyH.nil)
            have g0 := HX.out.cell 0 rfl
            have g1 := HX.out.frozen 0
            go_simp
            clear g0 g1
            have hq := Gou.Mod.set1 V7_4 N5 0 (.slice pG (a.gens.length + 1) cG)
            replace HG := Lib.hid (ownsRow_mod HG.out hq (fun k hk e => own_blk_ne HG.out HX.out (by decide) (by rw [hk, e])))
            replace HV := Lib.hid (ownsRow_mod HV.out hq (fun k hk e => own_blk_ne HV.out HX.out (by decide) (by rw [hk, e])))
            replace HS1 := Lib.hid (Blk.mod HS1.out hq (by have := HRlt.out; have := HNlt.out; omega))
            replace HS2 := Lib.hid (Blk.mod HS2.out hq (by have := HRlt.out; have := HNlt.out; omega))
            replace HMM := Lib.hid (HMM.out.trans hq (fun k hk e => by have := HRlt.out; have := HNlt.out; omega))
            have M : Hid (Gou.Mod (fun k => k = N5 ∨ (fun k => (Value.slice p2 a.gens.length c2).ownBlock = some k ∨ (Value.slice q2 a.live.length d2).ownBlock = some k) k) W3 _ ∧ World.cell? _ ⟨N5, 1, none⟩ = some (.slice q2 a.live.length d2)) := Lib.hid (And.intro ((hHeld.1).trans' (hq.imp (fun k _ h => .inl h))) (Blk.cell (HX.out.set 0 (.slice pG (a.gens.length + 1) cG)) 1 rfl))
            replace HX := Lib.hid (HX.out.set 0 (.slice pG (a.gens.length + 1) cG))
            clear hq hHeld
            refine hK _ _ M.out (fun hHeld => ?_)
            clear hK K M
            try simp only [Act.put, List.setIfInBounds_toArray, List.set_cons_zero, List.set_cons_succ]
            refine wpAnyH_take (i := 10) (oi := ({ dst := some 32, op := Op.fieldAddr 28 (Operand.tmp 5) 1, type := 0, pos := "arena.go:52", after := #[{ on := 0, ground := Ground.phase }, { on := 1, ground := Ground.phase }, { on := 2, ground := Ground.phase }, { on := 3, ground := Ground.phase }, { on := 4, ground := Ground.phase }, { on := 5, ground := Ground.phase }, { on := 6, ground := Ground.phase }, { on := 7, ground := Ground.phase }, { on := 8, ground := Ground.phase }, { on := 9, ground := Ground.phase }], guard := none } : Oper)) (v := .pointer (some ⟨N5, 1, none⟩)) rfl (by kernel_rfl) (by kernel_rfl) (by kernel_rfl) (fun _ _ _ h => h) (Or.inl ⟨by rfl, ?_⟩) hHeld ?_
            · (intro w' hSw; (try dsimp only at hSw); clear hSw hHeld; go_simp; (try with_reducible rfl))
            try simp only [Act.put, List.setIfInBounds_toArray, List.set_cons_zero, List.set_cons_succ]
            refine wpAnyH_take (i := 11) (oi := ({ dst := none, op := Op.assign (Operand.const (Value.bool true)), type := 0, pos := "arena.go:52", after := #[{ on := 10, ground := Ground.data }, { on := 7, ground := Ground.data }, { on := 9, ground := Ground.chain }, { on := 0, ground := Ground.phase }, { on := 1, ground := Ground.phase }, { on := 2, ground := Ground.phase }, { on := 3, ground := Ground.phase }, { on := 4, ground := Ground.phase }, { on := 5, ground := Ground.phase }, { on := 6, ground := Ground.phase }, { on := 7, ground := Ground.phase }, { on := 8, ground := Ground.phase }, { on := 9, ground := Ground.phase }], guard := none } : Oper)) (v := .bool true) rfl (by kernel_rfl) (by kernel_rfl) (by kernel_rfl) (fun _ _ _ h => h) (Or.inl ⟨by rfl, ?_⟩) hHeld ?_
            · (intro w' hSw; clear hSw hHeld; go_simp; (try with_reducible rfl))
            try simp only [Act.put, List.setIfInBounds_toArray, List.set_cons_zero, List.set_cons_succ]
            have MS := Lib.hid hHeld
            refine wpAnyH_done (by kernel_rfl) ?_ _
            clear hHeld
            show Oper.wp _ _ _ _ _ _
            have g0 := HX.out.cell 1 rfl
            have g1 := HX.out.frozen 1
            clear MS
            go_simp
            clear g0 g1
            have hq := Gou.Mod.set1 (V7_4.setCell ⟨N5, 0, none⟩ (.slice pG (a.gens.length + 1) cG)) N5 1 (.slice pL (a.live.length + 1) cL)
            have HXn := HX.out.set 1 (.slice pL (a.live.length + 1) cL)
            have HGn := ownsRow_mod HG.out hq (fun k hk e => own_blk_ne HG.out HX.out (by decide) (by rw [hk, e]))
            have HVn := ownsRow_mod HV.out hq (fun k hk e => own_blk_ne HV.out HX.out (by decide) (by rw [hk, e]))
            have HS1n := HS1.out.mod hq (by have := HRlt.out; have := HNlt.out; omega)
            have HS2n := HS2.out.mod hq (by have := HRlt.out; have := HNlt.out; omega)
            have HMn := HMM.out.trans hq (fun k hk e => by have := HRlt.out; have := HNlt.out; omega)
            go_wp2_with fail
            go_meet
            case rel => exact ⟨_, _, pG, cG, pL, cL, rfl, rfl, by simpa using HXn, ⟨by simpa [ivs] using HGn, by simpa [bvs] using HVn⟩, HS1n, HS2n, HMn⟩
      case rest =>
        obtain ⟨G, L, pG, cG, pL, cL, hG, hL, hX, hA, h1, h2, hM⟩ := hcut
        have HX := Lib.hid hX
        have HA := Lib.hid hA
        have HS1 := Lib.hid h1
        have HS2 := Lib.hid h2
        have HMM := Lib.hid hM
        have HGe := Lib.hid hG
        have HLe := Lib.hid hL
        have Hl1 : Hid (L.length = a.live.length + 1 ∧ G.length = a.gens.length + 1) := Lib.hid (by rw [hG, hL]; simp)
        have hfin : a.take = some (Ar.mk G (L.set a.live.length true), (((a.live.length : Nat) : Int), G.getD a.live.length 0)) := by
          unfold Ar.take
          rw [Hf.out, hG, hL]
          simp only
          rw [if_neg Hfull.out, List.set_append_right _ _ (Nat.le_refl _)]
          simp [List.getD_eq_getElem?_getD, Hlen.out.symm]
        have Hfin0 := Lib.hid hfin
        clear hX hA h1 h2 hM HB5 Ha3 HR1 HR2 HM3 hG hL hfin
        obtain ⟨gg, rfl, hgg, _⟩ := own1_some HA.out.g (by have := Hl1.out; have := Hlen.out; omega)
        obtain ⟨gl, rfl, hgl, _⟩ := own1_some HA.out.l (by have := Hl1.out; have := Hlen.out; omega)
        have Hgg := Lib.hid hgg
        have Hgl := Lib.hid hgl
        have kl : wc.cell? ⟨gl, a.live.length, none⟩ = some (.bool (L.getD (a.live.length) false)) := own1_cell_b HA.out.l (by have := Hl1.out; have := Hlen.out; omega)
        have kf := (some_set HA.out.l (i := a.live.length) (by have := Hl1.out; have := Hlen.out; omega)).2
        have kg : wc.cell? ⟨gg, a.live.length, none⟩ = some (.int .i64 (G.getD (a.live.length) 0)) := own1_cell_i HA.out.g (by have := Hl1.out; have := Hlen.out; omega)
        have c50 : wc.cell? ⟨N5, 0, none⟩ = some (.slice (some ⟨gg, 0, none⟩) G.length cG) := HX.out.cell 0 rfl
        have c51 : wc.cell? ⟨N5, 1, none⟩ = some (.slice (some ⟨gl, 0, none⟩) L.length cL) := HX.out.cell 1 rfl
        have hlt1 : decide ((0 : Int) ≤ (a.live.length : Nat)) = true := decide_eq_true (by omega)
        have hib2 : a.live.length < L.length := by have := Hl1.out; have := Hlen.out; omega
        go_wp2_with fail
        have HS8 := Lib.hid (Gou.Mod.set1 wc gl a.live.length (.bool true))
        have Hl8 : Hid ((wc.setCell ⟨gl, a.live.length, none⟩ (.bool true)).ownsRow W1.heap.size 4 1 (.slice (some ⟨gl, 0, none⟩) L.length cL) L.length (bvs ((L).set (a.live.length) true))) := Lib.hid (by have h := own_set HA.out.l (a.live.length) (.bool true); rw [bvs, List.map_set]; exact h)
        have Hg8 := Lib.hid (ownsRow_mod HA.out.g HS8.out (fun k hk e => own_not_ty (base' := 0) HA.out.g (T := 4) (by decide) k ⟨Nat.zero_le _, by obtain ⟨_, _, cur, cap, h1, _⟩ := ownsRow_blk HA.out.l rfl; rw [e]; exact ⟨cur, h1⟩⟩ hk))
        have hNl : Hid (N5 ≠ gl) := Lib.hid (fun e => own_blk_ne HA.out.l HX.out (by decide) (by rw [e]; rfl))
        have HB8 := Lib.hid (HX.out.mod HS8.out hNl.out)
        have HR18 := Lib.hid (HS1.out.mod HS8.out (by have := Hgl.out; have := HRlt.out; omega))
        have HR28 := Lib.hid (HS2.out.mod HS8.out (by have := Hgl.out; have := HRlt.out; omega))
        have HM8 := Lib.hid (HMM.out.trans HS8.out (fun k hk e => by have := Hgl.out; have := HRlt.out; omega))
        have hgN : Hid (gg ≠ w.heap.size + 1 ∧ gg ≠ w.heap.size + 1 + 1 ∧ gl ≠ w.heap.size + 1 ∧ gl ≠ w.heap.size + 1 + 1 ∧ N5 ≠ w.heap.size + 1 ∧ N5 ≠ w.heap.size + 1 + 1) := Lib.hid (by have := Hgl.out; have := Hgg.out; have := HRlt.out; have := HNlt.out; omega)
        have hN5 : Hid (¬ (N5 = w.heap.size + 1 ∨ N5 = w.heap.size + 1 + 1)) := Lib.hid (by have := hgN.out; omega)
        have hgg5 : Hid (¬ (gg = w.heap.size + 1 ∨ gg = w.heap.size + 1 + 1)) := Lib.hid (by have := hgN.out; omega)
        have Hfin : Hid (a.take = some (Ar.mk (G) ((L).set (a.live.length) true), (((a.live.length : Nat) : Int), (G).getD (a.live.length) 0))) := Lib.hid Hfin0.out
        clear kl kf c50 c51
        have kg8 : (wc.setCell ⟨gl, a.live.length, none⟩ (.bool true)).cell? ⟨gg, a.live.length, none⟩ = some (.int .i64 ((G).getD (a.live.length) 0)) := own1_cell_i Hg8.out (by have := Hl1.out; have := Hlen.out; omega)
        have c50 : (wc.setCell ⟨gl, a.live.length, none⟩ (.bool true)).cell? ⟨N5, 0, none⟩ = some (.slice (some ⟨gg, 0, none⟩) G.length cG) := HB8.out.cell 0 rfl
        have hib : a.live.length < G.length := by have := Hl1.out; have := Hlen.out; omega
        clear kg
        generalize wc.setCell ⟨gl, a.live.length, none⟩ (.bool true) = W8 at *
        generalize (G).getD (a.live.length) 0 = gv at *
        refine wp_region_held_drew (S := fun w' => Gou.Mod (fun k => k = w.heap.size + 1 ∨ k = w.heap.size + 1 + 1) W8 w') (by kernel_rfl) (Gou.Mod.drew _ _) (fun hHeld => ?_)
        refine wpAnyH_take (i := 0) (oi := ({ dst := some 37, op := Op.load 28 (Operand.tmp 5), type := 28, pos := "arena.go:55", after := #[], guard := none } : Oper)) (v := .agg #[.slice (some ⟨gg, 0, none⟩) G.length cG, .slice (some ⟨gl, 0, none⟩) L.length cL]) rfl (by kernel_rfl) (by kernel_rfl) (by kernel_rfl) (fun _ _ _ h => h) (yieldsIf_load_mid (by rfl) 28 _ rfl N5 (0) rfl ([.slice (some ⟨gg, 0, none⟩) G.length cG, .slice (some ⟨gl, 0, none⟩) L.length cL]) _ (fun w' hSw => range_up HB8.out.whole hSw hN5.out) Try.underlying28 rfl size_arena) hHeld ?_
        try simp only [Act.put, List.setIfInBounds_toArray, List.set_cons_zero, List.set_cons_succ]
        refine wpAnyH_take (i := 1) (oi := ({ dst := some 38, op := Op.move (Operand.tmp 6), type := 3, pos := "arena.go:55", after := #[{ on := 8, ground := Ground.gcOnly Departure.lateStores }], guard := none } : Oper)) (v := .int .i64 ((a.live.length : Nat) : Int)) rfl (by kernel_rfl) (by kernel_rfl) (by kernel_rfl) (fun _ _ _ h => h) (Or.inl ⟨by rfl, ?_⟩) hHeld ?_
        · (intro w' hSw; (try dsimp only at hSw); clear hSw hHeld; go_simp; (try with_reducible rfl))
        try simp only [Act.put, List.setIfInBounds_toArray, List.set_cons_zero, List.set_cons_succ]
        refine wpAnyH_take (i := 2) (oi := ({ dst := some 39, op := Op.fieldAddr 28 (Operand.tmp 5) 0, type := 0, pos := "arena.go:55", after := #[{ on := 8, ground := Ground.gcOnly Departure.lateStores }], guard := none } : Oper)) (v := .pointer (some ⟨N5, 0, none⟩)) rfl (by kernel_rfl) (by kernel_rfl) (by kernel_rfl) (fun _ _ _ h => h) (Or.inl ⟨by rfl, ?_⟩) hHeld ?_
        · (intro w' hSw; (try dsimp only at hSw); clear hSw hHeld; go_simp; (try with_reducible rfl))
        try simp only [Act.put, List.setIfInBounds_toArray, List.set_cons_zero, List.set_cons_succ]
        refine wpAnyH_take (i := 3) (oi := ({ dst := some 40, op := Op.load 25 (Operand.tmp 39), type := 25, pos := "arena.go:55", after := #[{ on := 2, ground := Ground.data }, { on := 8, ground := Ground.gcOnly Departure.lateStores }], guard := none } : Oper)) (v := .slice (some ⟨gg, 0, none⟩) G.length cG) rfl (by kernel_rfl) (by kernel_rfl) (by kernel_rfl) (fun _ _ _ h => h) (Or.inl ⟨by rfl, ?_⟩) hHeld ?_
        · (intro w' hSw; (try dsimp only at hSw); have g := (hSw.cell (p := ⟨N5, 0, none⟩) (World.block_lt_of_cell? _ _ c50) hN5.out).trans c50; clear hSw hHeld; go_simp; (try with_reducible rfl))
        try simp only [Act.put, List.setIfInBounds_toArray, List.set_cons_zero, List.set_cons_succ]
        refine wpAnyH_take (i := 4) (oi := ({ dst := some 41, op := Op.move (Operand.tmp 6), type := 3, pos := "arena.go:55", after := #[{ on := 8, ground := Ground.gcOnly Departure.lateStores }], guard := none } : Oper)) (v := .int .i64 ((a.live.length : Nat) : Int)) rfl (by kernel_rfl) (by kernel_rfl) (by kernel_rfl) (fun _ _ _ h => h) (Or.inl ⟨by rfl, ?_⟩) hHeld ?_
        · (intro w' hSw; (try dsimp only at hSw); clear hSw hHeld; go_simp; (try with_reducible rfl))
        try simp only [Act.put, List.setIfInBounds_toArray, List.set_cons_zero, List.set_cons_succ]
        refine wpAnyH_take (i := 5) (oi := ({ dst := some 42, op := Op.indexAddr 25 (Operand.tmp 40) (Operand.tmp 41), type := 0, pos := "arena.go:55", after := #[{ on := 3, ground := Ground.data }, { on := 4, ground := Ground.data }, { on := 8, ground := Ground.gcOnly Departure.lateStores }], guard := none } : Oper)) (v := .pointer (some ⟨gg, a.live.length, none⟩)) rfl (by kernel_rfl) (by kernel_rfl) (by kernel_rfl) (fun _ _ _ h => h) (Or.inl ⟨by rfl, ?_⟩) hHeld ?_
        · (intro w' hSw; (try dsimp only at hSw); clear hSw hHeld; go_simp; (try with_reducible rfl))
        try simp only [Act.put, List.setIfInBounds_toArray, List.set_cons_zero, List.set_cons_succ]
        refine wpAnyH_take (i := 6) (oi := ({ dst := some 43, op := Op.load 3 (Operand.tmp 42), type := 3, pos := "arena.go:55", after := #[{ on := 5, ground := Ground.data }, { on := 8, ground := Ground.gcOnly Departure.lateStores }], guard := none } : Oper)) (v := .int .i64 gv) rfl (by kernel_rfl) (by kernel_rfl) (by kernel_rfl) (fun _ _ _ h => h) (Or.inl ⟨by rfl, ?_⟩) hHeld ?_
        · (intro w' hSw; (try dsimp only at hSw); have g := (hSw.cell (p := ⟨gg, a.live.length, none⟩) (World.block_lt_of_cell? _ _ kg8) hgg5.out).trans kg8; clear hSw hHeld; go_simp; (try with_reducible rfl))
        try simp only [Act.put, List.setIfInBounds_toArray, List.set_cons_zero, List.set_cons_succ]
        refine wpAnyH_take (i := 7) (oi := ({ dst := some 44, op := Op.build 30 #[(0, Operand.tmp 38), (1, Operand.tmp 43)], type := 30, pos := "arena.go:55", after := #[{ on := 1, ground := Ground.data }, { on := 6, ground := Ground.data }, { on := 8, ground := Ground.gcOnly Departure.lateStores }], guard := none } : Oper)) (v := .agg #[.int .i64 ((a.live.length : Nat) : Int), .int .i64 gv]) rfl (by kernel_rfl) (by kernel_rfl) (by kernel_rfl) (fun _ _ _ h => h) (Or.inl ⟨by rfl, ?_⟩) hHeld ?_
        · (intro w' hSw; (try dsimp only at hSw); clear hSw hHeld; go_simp; (try with_reducible rfl))
        try simp only [Act.put, List.setIfInBounds_toArray, List.set_cons_zero, List.set_cons_succ]
        refine wpAnyH_ready (rs := [8]) (by kernel_rfl) (by simp) (AllReadyH.cons (o := ({ dst := none, op := Op.store 28 (Operand.tmp 2) (Operand.tmp 37), type := 0, pos := "arena.go:55", after := #[{ on := 0, ground := Ground.data }, { on := 0, ground := Ground.phase }, { on := 1, ground := Ground.textOnly Departure.lateStores }, { on := 2, ground := Ground.textOnly Departure.lateStores }, { on := 3, ground := Ground.textOnly Departure.lateStores }, { on := 4, ground := Ground.textOnly Departure.lateStores }, { on := 5, ground := Ground.textOnly Departure.lateStores }, { on := 6, ground := Ground.textOnly Departure.lateStores }, { on := 7, ground := Ground.textOnly Departure.lateStores }], guard := none } : Oper)) rfl (fun K hK => ?_) AllReadyH.nil)
        rw [if_pos (by rfl)]
        refine wp_store_mid 28 _ _ rfl (w.heap.size + 1) 0 #[.slice (some ⟨gg, 0, none⟩) G.length cG, .slice (some ⟨gl, 0, none⟩) L.length cL] rfl rfl ((HR18.out.up (Gou.Mod.drew (fun _ => False) W8)).there 0 2 (by simp)) size_arena (by simp [Value.oneCell']) ?_
        have HT9 := Lib.hid (Blk.setMod W8.drew (w.heap.size + 1) 0 (#[.slice (some ⟨gg, 0, none⟩) G.length cG, .slice (some ⟨gl, 0, none⟩) L.length cL] : Array Value).toList)
        have HR19 := Lib.hid ((HR18.out.up (Gou.Mod.drew (fun _ => False) W8)).setAll #[.slice (some ⟨gg, 0, none⟩) G.length cG, .slice (some ⟨gl, 0, none⟩) L.length cL] rfl)
        have HR29 := Lib.hid ((HR28.out.up (Gou.Mod.drew (fun _ => False) W8)).mod HT9.out (by omega))
        have M := Lib.hid (hHeld.trans' (HT9.out.imp (fun k _ h => .inl h)))
        have HQ9 := Lib.hid ((Gou.Mod.drew (fun k => k = w.heap.size + 1) W8).trans' HT9.out)
        clear hHeld HT9
        generalize W8.drew.setCells (w.heap.size + 1) 0 (#[.slice (some ⟨gg, 0, none⟩) G.length cG, .slice (some ⟨gl, 0, none⟩) L.length cL] : Array Value).toList = W9 at *
        refine hK _ _ M.out (fun hHeld => ?_)
        clear hK K M
        try simp only [Act.put, List.setIfInBounds_toArray, List.set_cons_zero, List.set_cons_succ]
        refine wpAnyH_ready (rs := [9]) (by kernel_rfl) (by simp) (AllReadyH.cons (o := ({ dst := none, op := Op.store 30 (Operand.tmp 3) (Operand.tmp 44), type := 0, pos := "arena.go:55", after := #[{ on := 7, ground := Ground.data }, { on := 8, ground := Ground.chain }, { on := 0, ground := Ground.phase }, { on := 1, ground := Ground.phase }, { on := 2, ground := Ground.phase }, { on := 3, ground := Ground.phase }, { on := 4, ground := Ground.phase }, { on := 5, ground := Ground.phase }, { on := 6, ground := Ground.phase }, { on := 7, ground := Ground.phase }, { on := 8, ground := Ground.phase }], guard := none } : Oper)) rfl (fun K hK => ?_) AllReadyH.nil)
        rw [if_pos (by rfl)]
        refine wp_store_mid 30 _ _ rfl (w.heap.size + 1 + 1) 0 #[.int .i64 ((a.live.length : Nat) : Int), .int .i64 gv] rfl rfl (HR29.out.there 0 2 (by simp)) size_id (by simp [Value.oneCell']) ?_
        have HT10 := Lib.hid (Blk.setMod W9 (w.heap.size + 1 + 1) 0 (#[.int .i64 ((a.live.length : Nat) : Int), .int .i64 gv] : Array Value).toList)
        have HR110 := Lib.hid (HR19.out.mod HT10.out (by omega))
        have HR210 := Lib.hid (HR29.out.setAll #[.int .i64 ((a.live.length : Nat) : Int), .int .i64 gv] rfl)
        have M := Lib.hid (hHeld.trans' (HT10.out.imp (fun k _ h => .inr h)))
        have HQ10 := Lib.hid ((HQ9.out.imp (S' := fun k => k = w.heap.size + 1 ∨ k = w.heap.size + 1 + 1) (fun k _ h => .inl h)).trans' (HT10.out.imp (S' := fun k => k = w.heap.size + 1 ∨ k = w.heap.size + 1 + 1) (fun k _ h => .inr h)))
        clear hHeld HT10
        generalize W9.setCells (w.heap.size + 1 + 1) 0 (#[.int .i64 ((a.live.length : Nat) : Int), .int .i64 gv] : Array Value).toList = W10 at *
        refine hK _ _ M.out (fun hHeld => ?_)
        clear hK K M
        try simp only [Act.put, List.setIfInBounds_toArray, List.set_cons_zero, List.set_cons_succ]
        refine wpAnyH_take (i := 10) (oi := ({ dst := some 4, op := Op.assign (Operand.const (Value.bool true)), type := 4, pos := "arena.go:55", after := #[{ on := 9, ground := Ground.chain }, { on := 0, ground := Ground.phase }, { on := 1, ground := Ground.phase }, { on := 2, ground := Ground.phase }, { on := 3, ground := Ground.phase }, { on := 4, ground := Ground.phase }, { on := 5, ground := Ground.phase }, { on := 6, ground := Ground.phase }, { on := 7, ground := Ground.phase }, { on := 8, ground := Ground.phase }, { on := 9, ground := Ground.phase }], guard := none } : Oper)) (v := .bool true) rfl (by kernel_rfl) (by kernel_rfl) (by kernel_rfl) (fun _ _ _ h => h) (Or.inl ⟨by rfl, ?_⟩) hHeld ?_
        · (intro w' hSw; (try dsimp only at hSw); clear hSw hHeld; go_simp; (try with_reducible rfl))
        try simp only [Act.put, List.setIfInBounds_toArray, List.set_cons_zero, List.set_cons_succ]
        have MS := Lib.hid hHeld
        refine wpAnyH_done (by kernel_rfl) ?_ _
        clear hHeld
        go_wp2_with fail
        refine bodyPost_ret (results_cct rfl (ResAt.of rfl HR110.out Try.underlying28 rfl size_arena) (ResAt.of rfl HR210.out Try.underlying30 rfl size_id)) rfl ?_
        have hne8 : ∀ k, W1.heap.size ≤ k → ¬ (k = w.heap.size + 1 ∨ k = w.heap.size + 1 + 1) := fun k hk h => by have := HRlt.out; omega
        have HM10 := Lib.hid (HM8.out.trans HQ10.out (fun k hk h => by omega))
        refine ⟨HM10.out, .slice (some ⟨gg, 0, none⟩) G.length cG, .slice (some ⟨gl, 0, none⟩) L.length cL, fun b y hby => ?_, fun hno => by rw [Hfin.out] at hno; cases hno⟩
        rw [Hfin.out] at hby
        cases hby
        exact ⟨rfl, ⟨ownsRow_base (ownsRow_mod Hg8.out HQ10.out (fun k hk => hne8 k (own_ge Hg8.out k hk))) (by have := HRlt.out; omega), ownsRow_base (ownsRow_mod (by simpa using Hl8.out) HQ10.out (fun k hk => hne8 k (own_ge Hl8.out k hk))) (by have := HRlt.out; omega)⟩⟩

end Go.Proofs.Ytpbmfalokongfaa

