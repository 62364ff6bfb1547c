/- Texts of the scenes' proofs, laid together: OrdC, OrdD, OrdE, NodeB, NodeC, NodeD, Check, SdH. -/
import Derived.Test.YtpbmfalokongfaaZag
import Derived.Deep.RegionHeld3
import Derived.WalkMore
import Derived.ScopeJumps
set_option linter.unusedSimpArgs false
set_option linter.unusedVariables false
set_option linter.unusedSectionVars false
set_option linter.constructorNameAsVariable false

/- order.All, its parts outside the walk: what holds ahead of each round. -/
set_option maxRecDepth 100000
namespace Go.Proofs.Ytpbmfalokongfaa
open Go.RowKit Go.Gou

abbrev ci (l : List Nat) : List Int := l.map (fun (k : Nat) => (k : Int))

/-- The inputs as places. -/
def insN (g : Gr) : List (List Nat) := (insG g).map fun l => l.map Int.toNat

theorem insN_len (g : Gr) : (insN g).length = g.nodes.length := by simp [insN, insG]
theorem insG_len (g : Gr) : (insG g).length = g.nodes.length := by simp [insG]

theorem insG_get (g : Gr) (i : Nat) (hi : i < g.nodes.length) : (insG g).getD i [] = insL g.nodes.length g.nodes[i].ins := by simp [insG, List.getD, hi]
theorem insN_get (g : Gr) (i : Nat) : (insN g).getD i [] = ((insG g).getD i []).map Int.toNat := by
  simp only [insN, List.getD, List.getElem?_map]
  cases (insG g)[i]? <;> simp

theorem insG_mem (g : Gr) (i : Nat) (hi : i < g.nodes.length) : ((insG g).getD i []).Nodup ∧ ∀ x ∈ (insG g).getD i [], 0 ≤ x ∧ x < g.nodes.length := by
  rw [insG_get g i hi]
  obtain ⟨h1, h2⟩ := insL_nodup g.nodes.length g.nodes[i].ins
  exact ⟨h1, fun x hx => ((h2 x).1 hx).2⟩

theorem mem_toNat {l : List Int} (h : ∀ x ∈ l, 0 ≤ x) (k : Nat) : k ∈ l.map Int.toNat ↔ (k : Int) ∈ l := by
  rw [List.mem_map]
  constructor
  · rintro ⟨x, hx, rfl⟩
    rw [Int.toNat_of_nonneg (h x hx)]
    exact hx
  · intro hk
    exact ⟨k, hk, by simp⟩

theorem nodup_toNat {l : List Int} (h : ∀ x ∈ l, 0 ≤ x) (hn : l.Nodup) : (l.map Int.toNat).Nodup := by
  induction l with
  | nil => simp
  | cons a l ih =>
    rw [List.nodup_cons] at hn
    rw [List.map_cons, List.nodup_cons]
    refine ⟨fun hm => hn.1 ?_, ih (fun x hx => h x (by simp [hx])) hn.2⟩
    rw [mem_toNat (fun x hx => h x (by simp [hx]))] at hm
    rwa [Int.toNat_of_nonneg (h a (by simp))] at hm

theorem insN_mem (g : Gr) (i : Nat) (hi : i < g.nodes.length) (k : Nat) : k ∈ (insN g).getD i [] ↔ (k : Int) ∈ (insG g).getD i [] := by
  rw [insN_get]
  exact mem_toNat (fun x hx => ((insG_mem g i hi).2 x hx).1) k

theorem insN_nodup (g : Gr) (i : Nat) (hi : i < g.nodes.length) : ((insN g).getD i []).Nodup := by
  rw [insN_get]
  exact nodup_toNat (fun x hx => ((insG_mem g i hi).2 x hx).1) (insG_mem g i hi).1

/-- Who has k as an input. -/
theorem usesL_mem (g : Gr) (k : Nat) : (∀ x ∈ usesL (insG g) g.nodes.length 0 k, 0 ≤ x) ∧ (∀ u : Nat, (u : Int) ∈ usesL (insG g) g.nodes.length 0 k ↔ u < g.nodes.length ∧ k ∈ (insN g).getD u []) ∧ (usesL (insG g) g.nodes.length 0 k).Nodup := by
  have e : usesL (insG g) g.nodes.length 0 k = ci ((List.range g.nodes.length).filter (fun (j : Nat) => decide ((k : Int) ∈ (insG g).getD j []))) := by
    simp [usesL, ci]
  rw [e]
  refine ⟨fun x hx => ?_, fun u => ?_, ?_⟩
  · obtain ⟨y, _, rfl⟩ := List.mem_map.1 hx
    omega
  · rw [List.mem_map]
    constructor
    · rintro ⟨y, hy, hyu⟩
      obtain rfl : y = u := by omega
      rw [List.mem_filter, List.mem_range] at hy
      exact ⟨hy.1, (insN_mem g y hy.1 k).2 (by simpa using hy.2)⟩
    · rintro ⟨hu, hk⟩
      exact ⟨u, List.mem_filter.2 ⟨List.mem_range.2 hu, by simpa using (insN_mem g u hu k).1 hk⟩, rfl⟩
  · have hn : ((List.range g.nodes.length).filter (fun (j : Nat) => decide ((k : Int) ∈ (insG g).getD j []))).Nodup := List.nodup_range.filter _
    exact List.Pairwise.map _ (fun a b hab => by omega) hn

/-- The heap and the counts, as both loops have them. -/
structure HL (w : World) (base Lb N n : Nat) (vh : Value) (xs lf : List Int) (nx : List Nat) : Prop where
  pl : PlAt w N base vh xs
  perm : xs.Perm (ci nx)
  left : w.ownsRow base 3 1 (.slice (some ⟨Lb, 0, none⟩) n n) n (iv lf)
  LN : Lb ≠ N
  LH : vh.ownBlock ≠ some Lb
  baseN : base ≤ N

theorem HL.mod {w w' : World} {base Lb N n : Nat} {vh : Value} {xs lf : List Int} {nx : List Nat} (h : HL w base Lb N n vh xs lf nx) {S : Nat → Prop} (hm : Mod S w w') (hs : ∀ b, base ≤ b → b < w.heap.size → ¬ S b) : HL w' base Lb N n vh xs lf nx :=
  ⟨⟨h.pl.cell.mod hm (hs _ h.baseN h.pl.cell.lt), ownsRow_mod h.pl.own hm (fun b hb => hs b (h.pl.own.lt b hb).1 (h.pl.own.lt b hb).2), h.pl.apart⟩, h.perm,
    ownsRow_mod h.left hm (fun b hb => hs b (h.left.lt b hb).1 (h.left.lt b hb).2), h.LN, h.LH, h.baseN⟩

/-- A count stored. -/
theorem HL.store {w : World} {base Lb N n : Nat} {vh : Value} {xs lf : List Int} {nx : List Nat} (h : HL w base Lb N n vh xs lf nx) (i : Nat) (x : Int) :
    HL (w.setCell ⟨Lb, i, none⟩ (.int .i64 x)) base Lb N n vh xs (lf.set i x) nx := by
  have hm := Mod.setCell w ⟨Lb, i, none⟩ (.int .i64 x)
  obtain ⟨s1, _⟩ := h.left.stored i (.int .i64 x)
  refine ⟨⟨h.pl.cell.mod hm (fun e => h.LN e.symm), ownsRow_mod h.pl.own hm (fun b hb e => h.LH (by simp at e; rw [← e]; exact hb)), h.pl.apart⟩, h.perm, ?_, h.LN, h.LH, h.baseN⟩
  rw [iv_set]
  exact s1

/-- Behind a push. -/
theorem HL.push {w w' : World} {base Lb N n : Nat} {vh : Value} {xs lf : List Int} {nx : List Nat} (h : HL w base Lb N n vh xs lf nx) {e : Ending} {i : Nat} (hp : HPushPost w N base vh i xs e w') :
    e = .returned (.tuple #[]) ∧ ∃ vh' xs', HL w' base Lb N n vh' xs' lf (i :: nx) ∧ Mod (Own2 N vh) w w' ∧ Lies w vh vh' := by
  obtain ⟨v', ys, rfl, hperm, hpl, hmod, hlies⟩ := hp
  have hLw : Lb < w.heap.size := (h.left.lt _ rfl).2
  refine ⟨rfl, v', ys, ⟨hpl, hperm.trans (List.Perm.cons _ h.perm), ?_, h.LN, ?_, h.baseN⟩, hmod, hlies⟩
  · exact ownsRow_mod h.left hmod (fun b hb hs => by
      simp [Value.ownBlock] at hb
      subst hb
      rcases hs with hs | hs
      · exact h.LN hs
      · exact h.LH hs)
  · rcases hlies with hl | ⟨g, hg, hge⟩
    · rw [hl]; exact h.LH
    · rw [hg]
      intro e
      have := Option.some.inj e
      omega

/-- Behind a pop. -/
theorem HL.pop {w w' : World} {base Lb N n : Nat} {vh : Value} {xs lf : List Int} {nx : List Nat} (h : HL w base Lb N n vh xs lf nx) {e : Ending} (hp : HPopPost w N base vh xs e w') :
    ∃ k nx' vh' xs', e = .returned (.iface 3 (.int .i64 ((k : Nat) : Int))) ∧ nx.Perm (k :: nx') ∧ HL w' base Lb N n vh' xs' lf nx' ∧ Mod (Own2 N vh) w w' ∧ vh'.ownBlock = vh.ownBlock := by
  obtain ⟨v', x, ys, rfl, hperm, hpl, hmod, hob⟩ := hp
  have hall : (ci nx).Perm (x :: ys) := h.perm.symm.trans hperm
  have hx : x ∈ ci nx := hall.mem_iff.2 (by simp)
  obtain ⟨k, hk, rfl⟩ := List.mem_map.1 hx
  have hpk : nx.Perm (k :: nx.erase k) := List.perm_cons_erase hk
  have hys : ys.Perm (ci (nx.erase k)) := by
    have h1 : (ci nx).Perm (((k : Nat) : Int) :: ci (nx.erase k)) := hpk.map _
    exact (List.Perm.cons_inv (hall.symm.trans h1))
  refine ⟨k, nx.erase k, v', ys, rfl, hpk, ⟨hpl, hys, ?_, h.LN, ?_, h.baseN⟩, hmod, hob⟩
  · exact ownsRow_mod h.left hmod (fun b hb hs => by
      simp [Value.ownBlock] at hb
      subst hb
      rcases hs with hs | hs
      · exact h.LN hs
      · exact h.LH hs)
  · rw [hob]; exact h.LH

/-- Ahead of a round of the first loop. -/
def L1 (base Lb N n : Nat) (G : List (List Int)) (i : Nat) (w : World) : Prop :=
  ∃ vh xs lf nx, HL w base Lb N n vh xs lf nx ∧ lf.length = n ∧ (∀ j, j < i → lf.getD j 0 = ((G.getD j []).length : Int)) ∧ nx.Nodup ∧ ∀ j, j ∈ nx ↔ j < i ∧ G.getD j [] = []

/-- What the second loop may turn of what was there ahead of it. -/
def S0 (Lb N : Nat) (vh0 : Value) : Nat → Prop := fun b => b = Lb ∨ b = N ∨ vh0.ownBlock = some b

/-- How the heap's row and the order's lie. -/
structure Away (ws : World) (Lb : Nat) (vh0 vh vo : Value) : Prop where
  heap : vh.ownBlock = vh0.ownBlock ∨ ∃ g, vh.ownBlock = some g ∧ ws.heap.size ≤ g
  out : ∀ b, vo.ownBlock = some b → ws.heap.size ≤ b ∧ vh.ownBlock ≠ some b

/-- Ahead of a round of the second loop. -/
def L2 (base Lb N n : Nat) (G : List (List Nat)) (ws : World) (vh0 : Value) (vo : Value) (w : World) : Prop :=
  ∃ out vh xs lf nx, HL w base Lb N n vh xs lf nx ∧ KInv G out nx lf ∧ w.ownsRow ws.heap.size 3 1 vo out.length (iv (ci out)) ∧ Mod (S0 Lb N vh0) ws w ∧ Away ws Lb vh0 vh vo

/-- Ahead of a round of the third loop. -/
def L3 (base Lb N n : Nat) (G : List (List Nat)) (ws : World) (vh0 : Value) (vo : Value) (out : List Nat) (k : Nat) (told : List Nat) (w : World) : Prop :=
  ∃ vh xs lf nx, HL w base Lb N n vh xs lf nx ∧ KIn G out k told nx lf ∧ w.ownsRow ws.heap.size 3 1 vo (out ++ [k]).length (iv (ci (out ++ [k]))) ∧ Mod (S0 Lb N vh0) ws w ∧ Away ws Lb vh0 vh vo

def lenV : Value → Nat | .slice _ n _ => n | _ => 0

/-- What comes back: an order of what is sure to lead nowhere round. -/
def AllPost (w : World) (g : Gr) (e : Ending) (w' : World) : Prop :=
  ∃ v out, e = .returned v ∧ w'.ownsRow w.heap.size 3 1 v out.length (iv (ci out)) ∧ IsOrder (insN g) out ∧ Below w.heap.size w w'

end Go.Proofs.Ytpbmfalokongfaa

/- order.All: the walk. -/
set_option maxRecDepth 100000
namespace Go.Proofs.Ytpbmfalokongfaa
open Go.RowKit Go.Gou

set_option maxHeartbeats 4000000 in
theorem all_ord (w : World) (v : Value) (g : Gr) (hg : GrV w v g) (hok : GrOk g) :
    Calls Try.prog 71 #[v] w (AllPost w g) := by
  obtain ⟨i0, hi0, hz0, hz1, hz2⟩ := info_parts info_int
  have Hg := Lib.hid hg
  have Hok := Lib.hid hok
  have hfew := hok.few
  obtain ⟨p, cap, rfl⟩ := hg.form
  clear hg hok
  go_enter Try.func71, Try.ntmps71
  go_wp2_with (first
    | (at_make; refine wpList_make_full _ rfl _ _ 25 rfl w.heap.size 3 i0 (.int .i64 0) 1 Try.underlying25 hi0 hz0 hz1 _ _ _ _ g.nodes.length rfl rfl rfl rfl ?b1 ?b2 ?b3 ?_))
  case b1 => rw [hz2]; omega
  case b2 => unfold maxLen; omega
  case b3 => simp
  intro w1 hown hgrow
  have hzb1 : w.heap.size + 1 < w1.heap.size := (hown.lt _ rfl).2
  have hb1 : Below (w.heap.size + 1) (w.alloc (.cells #[.slice p g.nodes.length cap, .int .i64 g.out] 40)) w1 := (Below.refl _ _).grown hgrow (by simp) (fun k e => by cases e)
  have hc0 : w1.cell? ⟨w.heap.size, 0, none⟩ = some (.slice p g.nodes.length cap) := by rw [hb1.cell (p := ⟨w.heap.size, 0, none⟩) (by simp)]; simp [go_sem]
  have hc1 : w1.cell? ⟨w.heap.size, 1, none⟩ = some (.int .i64 g.out) := by rw [hb1.cell (p := ⟨w.heap.size, 1, none⟩) (by simp)]; simp [go_sem]
  have hbel : Below w.heap.size w w1 := ((Below.refl _ _).alloc (Nat.le_refl _) _).trans (hb1.mono (by omega))
  have hzb0 : w.heap.size < w1.heap.size := by omega
  have hst : L1 (w.heap.size + 1) (w.heap.size + 1) (w1.heap.size + 1) g.nodes.length (insG g) 0
      ((w1.alloc (.cells #[] 3)).alloc (.cells #[.slice (some ⟨w1.heap.size, 0, none⟩) 0 0] 126)) := by
    rw [toList_madeCells_one] at hown
    have hl1 : w1.ownsRow (w.heap.size + 1) 3 1 (.slice (some ⟨w.heap.size + 1, 0, none⟩) g.nodes.length g.nodes.length) g.nodes.length (List.replicate g.nodes.length (.int .i64 0)) := by
      refine ⟨hown.1, ?_⟩
      rcases hown.2 with ⟨h, _⟩ | ⟨g', cap', cur, hv, hg', r⟩
      · cases h
      · simp only [Value.slice.injEq, Option.some.injEq, Addr.mk.injEq, and_true] at hv
        obtain ⟨rfl, _, rfl⟩ := hv
        exact .inr ⟨_, _, cur, rfl, by omega, r⟩
    have hl2 := (hl1.alloc (.cells #[] 3)).alloc (.cells #[.slice (some ⟨w1.heap.size, 0, none⟩) 0 0] 126)
    refine ⟨.slice (some ⟨w1.heap.size, 0, none⟩) 0 0, [], List.replicate g.nodes.length 0, [], ⟨⟨?_, ?_, ?_⟩, List.Perm.refl _, by simpa [iv, List.map_replicate] using hl2, by omega, ?_, by omega⟩, by simp, fun j hj => by omega, by simp, fun j => by simp⟩
    · have := Cell1.new (w1.alloc (.cells #[] 3)) 126 (.slice (some ⟨w1.heap.size, 0, none⟩) 0 0)
      simpa using this
    · have := (World.ownsRow_lit (base := w.heap.size + 1) (e := 3) (size := 1) w1 #[] 0 (by omega) (by unfold maxLen; omega) (by simp)).alloc (.cells #[.slice (some ⟨w1.heap.size, 0, none⟩) 0 0] 126)
      simpa [iv] using this
    · simp [Value.ownBlock]
    · simp [Value.ownBlock]; omega
  have hbw : Below (w.heap.size + 1) w1 ((w1.alloc (.cells #[] 3)).alloc (.cells #[.slice (some ⟨w1.heap.size, 0, none⟩) 0 0] 126)) :=
    ((Below.refl _ _).alloc (by omega) _).alloc (by simp; omega) _
  have Hbel := Lib.hid hbel
  have Hst := Lib.hid hst
  have Hbw := Lib.hid hbw
  clear hbel hown hgrow hb1 hst hbw
  go_wp2_with fail
  go_loopw [20] (fun c wr => ∃ i : Nat, c = .int .i64 i ∧ i ≤ g.nodes.length ∧ L1 (w.heap.size + 1) (w.heap.size + 1) (w1.heap.size + 1) g.nodes.length (insG g) i wr ∧ Below (w.heap.size + 1) w1 wr) (fun c _ => g.nodes.length - (intOf c).toNat)
  case atStart => exact ⟨0, rfl, Nat.zero_le _, Hst.out, Hbw.out⟩
  case round =>
    obtain ⟨i, rfl, hi, hl1, hb⟩ := hrel
    clear Hst Hbw
    have hc0' : wr.cell? ⟨w.heap.size, 0, none⟩ = some (.slice p g.nodes.length cap) := by rw [hb.cell (p := ⟨w.heap.size, 0, none⟩) (by simp)]; exact hc0
    have hc1' : wr.cell? ⟨w.heap.size, 1, none⟩ = some (.int .i64 g.out) := by rw [hb.cell (p := ⟨w.heap.size, 1, none⟩) (by simp)]; exact hc1
    have hbw : Below w.heap.size w wr := Hbel.out.trans (hb.mono (by omega))
    have hzr : w1.heap.size ≤ wr.heap.size := hb.size
    have Hl1 := Lib.hid hl1
    have Hb := Lib.hid hb
    have Hbw := Lib.hid hbw
    clear hl1 hb hbw
    by_cases hlt : i < g.nodes.length
    · have hin := inputs_any wr _ g i (Hg.out.up Hbw.out) hlt (by omega) (Hok.out.ins _ (List.getElem_mem hlt)) (Hok.out.wf _ (List.getElem_mem hlt))
      have Hin := Lib.hid hin
      clear hin
      have hGi := insG_get g i hlt
      have HGi := Lib.hid hGi
      have hml : (insL g.nodes.length g.nodes[i].ins).length ≤ 1000 := by
        have h1 := insL_len g.nodes.length g.nodes[i].ins g.nodes[i].ins.length
        rw [List.take_length] at h1
        have := Hok.out.ins _ (List.getElem_mem hlt)
        omega
      clear hGi
      generalize insL g.nodes.length g.nodes[i].ins = L at *
      go_wp2_with fail
      refine (Hin.out).mono ?_
      rintro e w2 ⟨v2, rfl, hown2, hb2⟩
      obtain ⟨p2, c2, rfl⟩ := ownsRow_form hown2
      obtain ⟨vh, xs, lf, nx, hHL, hll, hcnt, hnd, hmem⟩ := Hl1.out
      have hHL2 := hHL.mod (Mod.of_below hb2 (fun _ => False)) (fun _ _ _ h => h)
      have hfl := hHL2.left.frozenAt i
      have hcl := hHL2.left.cellAt i (by omega)
      have hel : (iv lf)[i]? = some (.int .i64 (lf.getD i 0)) := by simp [iv, List.getD, show i < lf.length by omega]
      rw [hel] at hcl
      have hLw : w.heap.size + 1 < w2.heap.size := by have := hb2.size; omega
      have hHL3 := hHL2.store i (L.length : Int)
      have hbel3 : Below (w.heap.size + 1) w1 (w2.setCell ⟨w.heap.size + 1, i, none⟩ (.int .i64 (L.length : Int))) := (Hb.out.trans (hb2.mono (by omega))).setCell (by simp) _
      have hll3 : (lf.set i (L.length : Int)).length = g.nodes.length := by simpa using hll
      have hcnt3 : ∀ j, j < i + 1 → (lf.set i (L.length : Int)).getD j 0 = (((insG g).getD j []).length : Int) := by
        intro j hj
        rw [getD_set _ _ _ (by omega)]
        by_cases e : j = i
        · subst e
          rw [if_pos rfl, HGi.out]
        · rw [if_neg e]
          exact hcnt j (by omega)
      have HHL3 := Lib.hid hHL3
      have Hbel3 := Lib.hid hbel3
      have Hll3 := Lib.hid hll3
      have Hcnt3 := Lib.hid hcnt3
      have Hnd := Lib.hid hnd
      have Hmem := Lib.hid hmem
      clear hHL3 hbel3 hll3 hcnt3 hnd hmem hHL hHL2 hll hcnt hown2 hb2 hel
      have hnxlen : nx.length ≤ 1000 := by
        have := nodup_length_le (m := List.range g.nodes.length) Hnd.out fun j hj => List.mem_range.2 (by have := ((Hmem.out j).1 hj).1; omega)
        rw [List.length_range] at this
        omega
      have hxlen : xs.length ≤ 1000 := by have := HHL3.out.perm.length_eq; simp [ci] at this; omega
      by_cases hL : L.length = 0
      · have hz : ((L.length : Nat) : Int) = 0 := by omega
        have h3 := HHL3.out
        have hb3 := Hbel3.out
        have hc3 := Hcnt3.out
        have hl3 := Hll3.out
        rw [hz] at h3 hb3 hc3 hl3
        have H3 := Lib.hid h3
        have HB3 := Lib.hid hb3
        have HC3 := Lib.hid hc3
        have HL3 := Lib.hid hl3
        have HLe := Lib.hid (List.eq_nil_of_length_eq_zero hL)
        clear h3 hb3 hc3 hl3 HHL3 Hbel3 Hcnt3 Hll3 hz
        go_wp2_with fail
        refine (heap_push _ _ (w.heap.size + 1) vh xs i H3.out.pl (by omega) (by simp; omega)).mono ?_
        rintro e w4 hpost
        obtain ⟨rfl, vh', xs', hHL4, hmod4, hlies4⟩ := H3.out.push hpost
        have hown2w : ∀ b, Own2 (w1.heap.size + 1) vh b → w.heap.size + 1 ≤ b := by
          intro b hb
          rcases hb with rfl | hb
          · omega
          · exact (H3.out.pl.own.lt b hb).1
        have hb4 : Below (w.heap.size + 1) w1 w4 := HB3.out.trans (hmod4.below (by simp; omega) (fun b hb hs => by have := hown2w b hs; omega))
        have hl4 : L1 (w.heap.size + 1) (w.heap.size + 1) (w1.heap.size + 1) g.nodes.length (insG g) (i + 1) w4 := by
          refine ⟨vh', xs', _, i :: nx, hHL4, HL3.out, HC3.out, List.nodup_cons.2 ⟨fun hm => by have := ((Hmem.out i).1 hm).1; omega, Hnd.out⟩, fun j => ?_⟩
          rw [List.mem_cons, Hmem.out]
          constructor
          · rintro (rfl | ⟨h1, h2⟩)
            · exact ⟨by omega, by rw [HGi.out, HLe.out]⟩
            · exact ⟨by omega, h2⟩
          · rintro ⟨h1, h2⟩
            by_cases e : j = i
            · exact .inl e
            · exact .inr ⟨by omega, h2⟩
        have Hb4 := Lib.hid hb4
        have Hl4 := Lib.hid hl4
        clear hb4 hl4 hown2w hHL4 hmod4 hlies4 hpost
        go_wp2_with fail
        go_roundw
        case rel => exact ⟨i + 1, by go_num, by omega, Hl4.out, Hb4.out⟩
        case measure => simp [intOf]; omega
      · have hne : ((L.length : Int) == 0) = false := beq_eq_false_iff_ne.2 (by omega)
        have hl4 : L1 (w.heap.size + 1) (w.heap.size + 1) (w1.heap.size + 1) g.nodes.length (insG g) (i + 1) (w2.setCell ⟨w.heap.size + 1, i, none⟩ (.int .i64 (L.length : Int))) := by
          refine ⟨vh, xs, _, nx, HHL3.out, Hll3.out, Hcnt3.out, Hnd.out, fun j => ?_⟩
          rw [Hmem.out]
          constructor
          · rintro ⟨h1, h2⟩
            exact ⟨by omega, h2⟩
          · rintro ⟨h1, h2⟩
            refine ⟨?_, h2⟩
            by_cases e : j = i
            · subst e
              rw [HGi.out] at h2
              rw [h2] at hL
              simp at hL
            · omega
        have Hl4 := Lib.hid hl4
        clear hl4
        go_wp2_with fail
        go_roundw
        case rel => exact ⟨i + 1, by go_num, by omega, Hl4.out, Hbel3.out⟩
        case measure => simp [intOf]; omega
    · obtain rfl : i = g.nodes.length := by omega
      obtain ⟨vh0, xs, lf, nx, hHL, hll, hcnt, hnd, hmem⟩ := Hl1.out
      have hlf : lf = (insN g).map fun l => (l.length : Int) := by
        apply List.ext_getElem
        · rw [hll, List.length_map, insN_len]
        · intro j h1 h2
          have := hcnt j (by omega)
          have hjl : j < (insG g).length := by rw [insG_len]; omega
          simp only [List.getD, List.getElem?_eq_getElem h1, List.getElem?_eq_getElem hjl, Option.getD_some] at this
          rw [this]
          simp [insN]
      have hst : KInv (insN g) [] nx lf := by
        rw [hlf]
        refine KInv.start hnd fun j => ?_
        rw [hmem, insN_len]
        constructor
        · rintro ⟨h1, h2⟩
          exact ⟨h1, by rw [insN_get, h2]; rfl⟩
        · rintro ⟨h1, h2⟩
          rw [insN_get] at h2
          exact ⟨h1, List.map_eq_nil_iff.1 h2⟩
      have Hst := Lib.hid hst
      have HHL := Lib.hid hHL
      clear hst hHL hll hcnt hnd hmem hlf
      go_wp2_with fail
      refine (uses_any wr _ g (Hg.out.up Hbw.out) Hok.out).mono ?_
      rintro e ws ⟨U, vs, rfl, hrows, hbs⟩
      rw [insG_len] at hrows ⊢
      have hzs : wr.heap.size ≤ ws.heap.size := hbs.size
      have hHLs := HHL.out.mod (Mod.of_below hbs (fun _ => False)) (fun _ _ _ h => h)
      have hNr : w1.heap.size + 1 < wr.heap.size := HHL.out.pl.cell.lt
      have hst2 : L2 (w.heap.size + 1) (w.heap.size + 1) (w1.heap.size + 1) g.nodes.length (insN g) ws vh0 (.slice none 0 0) ws :=
        ⟨[], vh0, xs, lf, nx, hHLs, Hst.out, World.ownsRow_nil _ _ _ _, Mod.refl _ _, ⟨.inl rfl, fun b hb => by simp [Value.ownBlock] at hb⟩⟩
      have hS0 : ∀ b, wr.heap.size ≤ b → ¬ S0 (w.heap.size + 1) (w1.heap.size + 1) vh0 b := by
        rintro b hb (rfl | rfl | h)
        · omega
        · omega
        · have := (HHL.out.pl.own.lt b h).2
          omega
      have hS1 : ∀ b, b < w.heap.size + 1 → ¬ S0 (w.heap.size + 1) (w1.heap.size + 1) vh0 b := by
        rintro b hb (rfl | rfl | h)
        · omega
        · omega
        · have := (HHL.out.pl.own.lt b h).1
          omega
      have hbws : Below w.heap.size w ws := Hbw.out.trans (hbs.mono (by have := Hbw.out.size; omega))
      obtain ⟨wu, hwu⟩ : ∃ wu : World, wu = wr := ⟨_, rfl⟩
      subst hwu
      have Hst2 := Lib.hid hst2
      have HS0 := Lib.hid hS0
      have HS1 := Lib.hid hS1
      have Hrows := Lib.hid hrows
      have Hbws := Lib.hid hbws
      clear hst2 hS0 hS1 hrows hbws hHLs hbs HHL Hst Hl1 Hb Hbw hc0' hc1' hc0 hc1
      have has := assert_int
      go_wp2_with fail
      go_loopw [7] (fun vo wr => L2 (w.heap.size + 1) (w.heap.size + 1) (w1.heap.size + 1) g.nodes.length (insN g) ws vh0 vo wr) (fun vo _ => g.nodes.length - lenV vo)
      case atStart => exact Hst2.out
      case round =>
        obtain ⟨out, vh, xs', lf', nx', hHL, hK, hown, hmod, haway⟩ := hrel
        clear Hst2
        obtain ⟨pvo, cvo, rfl⟩ := ownsRow_form hown
        obtain ⟨pvh, cvh, rfl⟩ := ownsRow_form hHL.pl.own
        have hcN := hHL.pl.cell.cell
        have hxl : xs'.length = nx'.length := by have := hHL.perm.length_eq; simpa [ci] using this
        have hnl : out.length + nx'.length ≤ g.nodes.length := by
          have := nodup_length_le (m := List.range (insN g).length) hK.nodup fun j hj => List.mem_range.2 (hK.lt j hj)
          rw [List.length_range, insN_len, List.length_append] at this
          exact this
        have HHL := Lib.hid hHL
        have HK := Lib.hid hK
        have Hown := Lib.hid hown
        have Hmod := Lib.hid hmod
        have Haway := Lib.hid haway
        have Hxl := Lib.hid hxl
        have hxle : xs'.length ≤ 1000 := by omega
        clear hHL hK hown hmod haway
        by_cases hn0 : nx'.length = 0
        · have hxz : ¬ (0 < (xs'.length : Int)) := by omega
          have hmaxx : xs'.length ≤ maxLen := by unfold maxLen; omega
          have Hn0 := Lib.hid hn0
          clear hn0 hxl
          go_wp2_with fail
          refine (len_any _ _ _ _ hmaxx).mono ?_
          rintro e w9 ⟨rfl, rfl⟩
          go_wp2_with fail
          go_ret
          obtain rfl := List.eq_nil_of_length_eq_zero Hn0.out
          exact ⟨_, out, rfl, ownsRow_base Hown.out (by have := Hbws.out.size; omega), HK.out.order, Hbws.out.trans ((Hmod.out.below (B := w.heap.size) (by have := Hbws.out.size; omega) (fun b hb => HS1.out b (by omega))))⟩
        · have hxp : (0 < (xs'.length : Int)) := by omega
          have hmaxx : xs'.length ≤ maxLen := by unfold maxLen; omega
          have hxp' : 0 < xs'.length := by omega
          have hout : out.length < g.nodes.length := by omega
          have Hn0 := Lib.hid hn0
          clear hn0 hxl
          go_wp2_with fail
          refine (len_any _ _ _ _ hmaxx).mono ?_
          rintro e w9 ⟨rfl, rfl⟩
          go_wp2_with fail
          refine (heap_pop _ _ (w.heap.size + 1) _ xs' HHL.out.pl (by omega) hxp').mono ?_
          rintro e w3 hpost
          obtain ⟨k, nx3, vh3, xs3, rfl, hp3, hHL3, hmod3, hob3⟩ := HHL.out.pop hpost
          have hKin := HK.out.pop hp3
          have hNs : w1.heap.size + 1 < ws.heap.size := by omega
          have hzw3 : ws.heap.size ≤ w3.heap.size := by have := Hmod.out.size; have := hmod3.size; omega
          have hvo3 := ownsRow_mod Hown.out hmod3 (fun b hb hs => by
            rcases hs with rfl | hs
            · have := (Hown.out.lt _ hb).1; omega
            · exact (Haway.out.out b hb).2 hs)
          have hm3 : Mod (S0 (w.heap.size + 1) (w1.heap.size + 1) vh0) ws w3 := Hmod.out.trans hmod3 (fun b hb hs => by
            rcases hs with rfl | hs
            · exact .inr (.inl rfl)
            · rcases Haway.out.heap with h | ⟨gg, h, hge⟩
              · exact .inr (.inr (h ▸ hs))
              · rw [h] at hs
                have := Option.some.inj hs
                omega)
          have haw3 : Away ws (w.heap.size + 1) vh0 vh3 (.slice pvo out.length cvo) := ⟨by rw [hob3]; exact Haway.out.heap, fun b hb => ⟨(Haway.out.out b hb).1, by rw [hob3]; exact (Haway.out.out b hb).2⟩⟩
          have hkn : k < g.nodes.length := by
            have := HK.out.lt k (by rw [List.mem_append]; exact .inr (hp3.mem_iff.2 (by simp)))
            rwa [insN_len] at this
          have HKin := Lib.hid hKin
          have HHL3 := Lib.hid hHL3
          have Hm3 := Lib.hid hm3
          have Haw3 := Lib.hid haw3
          clear hKin hHL3 hm3 haw3 hmod3 hob3 hp3 hpost
          go_wp2_with (at_builtin; refine wpList_append_lies _ rfl _ _ 25 rfl ws.heap.size 3 i0 (.int .i64 0) 1 8 Try.underlying25 hi0 hz0 hz1 hz2 rfl (by omega) _ out.length (iv (ci out)) rfl (hvo3.alloc _) ⟨w3.heap.size, 0, none⟩ 1 1 [.int .i64 ((k : Nat) : Int)] rfl rfl (cell_one_new _ _ _) (by simp [Value.oneCell']) (by omega) (by unfold maxLen; omega) (by omega) (by simp; omega) (w3.heap.size + 1) (by simp) ?_)
          intro go co w4 hown4 hgrow4 hat4 hlt4
          have hm34 : Mod (fun b => (Value.slice pvo out.length cvo).ownBlock = some b) w3 w4 := (Mod.alloc _ w3 _).trans (Mod.of_grown hgrow4) (fun _ _ h => h)
          have hHL4 : HL w4 (w.heap.size + 1) (w.heap.size + 1) (w1.heap.size + 1) g.nodes.length vh3 xs3 lf' nx3 := by
            have h := HHL3.out
            have hvob : ∀ b, (Value.slice pvo out.length cvo).ownBlock = some b → ws.heap.size ≤ b ∧ vh3.ownBlock ≠ some b := Haw3.out.out
            exact ⟨⟨h.pl.cell.mod hm34 (fun e => by have := (hvob _ e).1; omega), ownsRow_mod h.pl.own hm34 (fun b hb e => (hvob b e).2 hb), h.pl.apart⟩, h.perm,
              ownsRow_mod h.left hm34 (fun b hb e => by
                have h1 := (hvob b e).1
                simp [Value.ownBlock] at hb
                omega), h.LN, h.LH, h.baseN⟩
          have hm4 : Mod (S0 (w.heap.size + 1) (w1.heap.size + 1) vh0) ws w4 := Hm3.out.trans hm34 (fun b hb e => by have := (Haw3.out.out b e).1; omega)
          have hgo : ws.heap.size ≤ go := by
            rcases hat4 with h | rfl
            · exact (Haw3.out.out go h).1
            · omega
          have haw4 : Away ws (w.heap.size + 1) vh0 vh3 (.slice (some ⟨go, 0, none⟩) (out.length + 1) co) := by
            refine ⟨Haw3.out.heap, fun b hb => ?_⟩
            obtain rfl : go = b := by simpa [Value.ownBlock] using hb
            refine ⟨hgo, fun e => ?_⟩
            rcases hat4 with h | rfl
            · exact (Haw3.out.out go h).2 e
            · have := (HHL3.out.pl.own.lt _ e).2
              omega
          have hown4' : w4.ownsRow ws.heap.size 3 1 (.slice (some ⟨go, 0, none⟩) (out.length + 1) co) (out ++ [k]).length (iv (ci (out ++ [k]))) := by simpa [iv, ci] using hown4
          have hst3 : L3 (w.heap.size + 1) (w.heap.size + 1) (w1.heap.size + 1) g.nodes.length (insN g) ws vh0 (.slice (some ⟨go, 0, none⟩) (out.length + 1) co) out k [] w4 :=
            ⟨vh3, xs3, lf', nx3, hHL4, HKin.out, hown4', hm4, haw4⟩
          have hr4 := Hrows.out.mod hm4 (fun b hb _ => HS0.out b hb)
          have hck := hr4.top.cellAt k (by omega)
          have hek : vs[k]? = some (vs.getD k undef) := by simp [List.getD, show k < vs.length by rw [hr4.len]; exact hkn]
          rw [hek] at hck
          obtain ⟨pk, ck, hvk⟩ := ownsRow_form (hr4.row k hkn)
          rw [hvk] at hck
          have hrk := Hrows.out.row k hkn
          rw [hvk] at hrk
          obtain ⟨hu1, hu2, hu3⟩ := usesL_mem g k
          have hul : (usesL (insG g) g.nodes.length 0 k).length ≤ 2000 := by have := usesL_len (insG g) g.nodes.length 0 k; omega
          have Hst3 := Lib.hid hst3
          have Hrk := Lib.hid hrk
          have Hu1 := Lib.hid hu1
          have Hu2 := Lib.hid hu2
          have Hu3 := Lib.hid hu3
          clear hst3 hrk hu1 hu2 hu3 hr4 hek hvk hown4' haw4 hm4 hHL4 hm34 hown4 hgrow4 hat4 hvo3
          have hk0 : (0 : Int) ≤ (k : Int) := by omega
          have hkn' : (k : Int) < (g.nodes.length : Int) := by omega
          generalize usesL (insG g) g.nodes.length 0 k = row at *
          go_wp2_with fail
          obtain ⟨wo, rfl⟩ : ∃ wo : World, wo = wr := ⟨_, rfl⟩
          go_loopw [61] (fun c wr => ∃ t : Nat, c = .int .i64 t ∧ t ≤ row.length ∧ L3 (w.heap.size + 1) (w.heap.size + 1) (w1.heap.size + 1) g.nodes.length (insN g) ws vh0 (.slice (some ⟨go, 0, none⟩) (out.length + 1) co) out k ((row.take t).map Int.toNat) wr) (fun c _ => row.length - (intOf c).toNat)
          case atStart => exact ⟨0, rfl, Nat.zero_le _, Hst3.out⟩
          case round =>
            obtain ⟨t, rfl, ht, vh5, xs5, lf5, nx5, hHL5, hK5, hown5, hm5, haw5⟩ := hrel
            clear Hst3
            by_cases htl : t < row.length
            · have hux := Hu1.out _ (List.getElem_mem htl)
              obtain ⟨u, hu⟩ : ∃ u : Nat, row[t] = (u : Int) := ⟨row[t].toNat, by omega⟩
              have hum := (Hu2.out u).1 (by rw [← hu]; exact List.getElem_mem htl)
              obtain ⟨hun, hku⟩ := hum
              have htold : u ∉ (row.take t).map Int.toNat := by
                rw [mem_toNat (fun x hx => Hu1.out x (List.mem_of_mem_take hx)), ← hu]
                intro hm
                obtain ⟨j, hj, hje⟩ := List.mem_take_iff_getElem.1 hm
                have := (List.getElem_inj (i := j) (j := t) Hu3.out).1 hje
                omega
              have htk : (row.take (t + 1)).map Int.toNat = (row.take t).map Int.toNat ++ [u] := by
                rw [List.take_succ_eq_append_getElem htl, List.map_append, hu]
                simp
              have hr5 := ownsRow_mod Hrk.out hm5 (fun b hb => HS0.out b (Hrk.out.lt b hb).1)
              obtain ⟨gk, ck', hvk5, _, _⟩ := hr5.form (by omega)
              simp only [Value.slice.injEq] at hvk5
              obtain ⟨rfl, _, rfl⟩ := hvk5
              have hct := hr5.cellAt t (by omega)
              have het : (iv row)[t]? = some (.int .i64 (u : Int)) := by simp [iv, htl, hu]
              rw [het] at hct
              have hcl := hHL5.left.cellAt u (by omega)
              have hlen5 : lf5.length = g.nodes.length := by rw [hK5.len, insN_len]
              have hel : (iv lf5)[u]? = some (.int .i64 (lf5.getD u 0)) := by simp [iv, List.getD, show u < lf5.length by omega]
              rw [hel] at hcl
              have hfl := hHL5.left.frozenAt u
              have hcount := hK5.count u (by rw [insN_len]; exact hun)
              have hrl := rest_le out ((insN g).getD u [])
              have hil : ((insN g).getD u []).length ≤ 1000 := by
                rw [insN_get, List.length_map, insG_get g u hun]
                have h1 := insL_len g.nodes.length g.nodes[u].ins g.nodes[u].ins.length
                rw [List.take_length] at h1
                have := Hok.out.ins _ (List.getElem_mem hun)
                omega
              have hlb : -1 ≤ lf5.getD u 0 ∧ lf5.getD u 0 ≤ 1000 := by
                rw [hcount]
                split <;> omega
              have htell := hK5.tell (u := u) (by rw [insN_len]; exact hun) hku htold
              have hHL6 := hHL5.store u (lf5.getD u 0 - 1)
              have hLws : w.heap.size + 1 < ws.heap.size := by omega
              have hm6 : Mod (S0 (w.heap.size + 1) (w1.heap.size + 1) vh0) ws (wr.setCell ⟨w.heap.size + 1, u, none⟩ (.int .i64 (lf5.getD u 0 - 1))) := hm5.trans (Mod.setCell _ _ _) (fun b _ e => .inl e)
              have hown6 := ownsRow_mod hown5 (Mod.setCell wr ⟨w.heap.size + 1, u, none⟩ (.int .i64 (lf5.getD u 0 - 1))) (fun b hb e => by
                have h1 := (hown5.lt b hb).1
                simp at e
                omega)
              have hxl5 : xs5.length ≤ 1000 := by
                have h1 := hHL5.perm.length_eq
                have h2 := nodup_length_le (m := List.range (insN g).length) hK5.nodup fun j hj => List.mem_range.2 (hK5.lt j hj)
                rw [List.length_range, insN_len, List.length_append] at h2
                simp [ci] at h1
                omega
              have Htell := Lib.hid htell
              have HHL6 := Lib.hid hHL6
              have Hm6 := Lib.hid hm6
              have Hown6 := Lib.hid hown6
              have Haw5 := Lib.hid haw5
              have Htk := Lib.hid htk
              have hu0 : (0 : Int) ≤ (u : Int) := by omega
              have hun' : (u : Int) < (g.nodes.length : Int) := by omega
              have hzs6 : ws.heap.size ≤ wr.heap.size := hm5.size
              clear htell hHL6 hm6 hown6 haw5 htk hK5 hHL5 hown5 hm5 htold hku hcount hrl hil hr5 het hel hlen5 hux hu
              generalize lf5.getD u 0 = q at *
              by_cases hq : q - 1 = 0
              · have hq1 : q = 1 := by omega
                subst hq1
                have ht2 := Htell.out.2 (by omega)
                have h6 := HHL6.out
                have m6 := Hm6.out
                have o6 := Hown6.out
                rw [show (1 : Int) - 1 = 0 from rfl] at h6 m6 o6 ht2
                have Ht2 := Lib.hid ht2
                have H6 := Lib.hid h6
                have M6 := Lib.hid m6
                have O6 := Lib.hid o6
                clear ht2 Htell hq h6 m6 o6 HHL6 Hm6 Hown6
                go_wp2_with fail
                refine (heap_push _ _ (w.heap.size + 1) vh5 xs5 u H6.out.pl (by omega) (by simp; omega)).mono ?_
                rintro e w7 hpost
                obtain ⟨rfl, vh7, xs7, hHL7, hmod7, hlies7⟩ := H6.out.push hpost
                have hown7 := ownsRow_mod O6.out hmod7 (fun b hb hs => by
                  have h1 := Haw5.out.out b hb
                  rcases hs with rfl | hs
                  · omega
                  · exact h1.2 hs)
                have hm7 : Mod (S0 (w.heap.size + 1) (w1.heap.size + 1) vh0) ws w7 := M6.out.trans hmod7 (fun b hb hs => by
                  rcases hs with rfl | hs
                  · exact .inr (.inl rfl)
                  · rcases Haw5.out.heap with h | ⟨gg, h, hge⟩
                    · exact .inr (.inr (h ▸ hs))
                    · rw [h] at hs
                      have := Option.some.inj hs
                      omega)
                have haw7 : Away ws (w.heap.size + 1) vh0 vh7 (.slice (some ⟨go, 0, none⟩) (out.length + 1) co) := by
                  rcases hlies7 with hl | ⟨gg, hl, hge⟩
                  · exact ⟨by rw [hl]; exact Haw5.out.heap, fun b hb => ⟨(Haw5.out.out b hb).1, by rw [hl]; exact (Haw5.out.out b hb).2⟩⟩
                  · refine ⟨.inr ⟨gg, hl, by simp at hge; omega⟩, fun b hb => ⟨(Haw5.out.out b hb).1, ?_⟩⟩
                    rw [hl]
                    intro e
                    have h1 := Option.some.inj e
                    have h2 := (O6.out.lt b hb).2
                    omega
                have hK7 := Ht2.out _ (List.Perm.refl (u :: nx5))
                have HK7 := Lib.hid hK7
                have HHL7 := Lib.hid hHL7
                have Hown7 := Lib.hid hown7
                have Hm7 := Lib.hid hm7
                have Haw7 := Lib.hid haw7
                clear hK7 hHL7 hown7 hm7 haw7 hmod7 hlies7 hpost Ht2
                go_wp2_with fail
                go_roundw
                case rel => exact ⟨t + 1, by go_num, by omega, vh7, xs7, _, _, HHL7.out, by rw [Htk.out]; exact HK7.out, Hown7.out, Hm7.out, Haw7.out⟩
                case measure => simp [intOf]; omega
              · have ht1 := Htell.out.1 hq
                have hq1 : ((q - 1) == 0) = false := beq_eq_false_iff_ne.2 (by omega)
                have Ht1 := Lib.hid ht1
                clear ht1 Htell hq
                go_wp2_with fail
                go_roundw
                case rel => exact ⟨t + 1, by go_num, by omega, vh5, xs5, _, nx5, HHL6.out, by rw [Htk.out]; exact Ht1.out, Hown6.out, Hm6.out, Haw5.out⟩
                case measure => simp [intOf]; omega
            · obtain rfl : t = row.length := by omega
              have hfin := hK5.finish (fun i hi => insN_nodup g i (by rwa [insN_len] at hi)) (fun i hi => by
                rw [insN_len] at hi
                rw [List.take_length, mem_toNat Hu1.out, Hu2.out]
                exact ⟨fun h => h.2, fun h => ⟨hi, h⟩⟩)
              have hl2 : L2 (w.heap.size + 1) (w.heap.size + 1) (w1.heap.size + 1) g.nodes.length (insN g) ws vh0 (.slice (some ⟨go, 0, none⟩) (out.length + 1) co) wr := ⟨out ++ [k], vh5, xs5, lf5, nx5, hHL5, hfin, hown5, hm5, haw5⟩
              have Hl2 := Lib.hid hl2
              clear hl2 hfin hHL5 hK5 hown5 hm5 haw5
              go_wp2_with fail
              go_roundw
              case rel => exact Hl2.out
              case measure => simp [lenV]; omega

end Go.Proofs.Ytpbmfalokongfaa

/- order.Round. -/
set_option maxRecDepth 100000
namespace Go.Proofs.Ytpbmfalokongfaa
open Go.RowKit Go.Gou

open Classical in
/-- Some node leads round. -/
noncomputable def roundB (g : Gr) : Bool := decide (∃ i, i < g.nodes.length ∧ ¬ Done (insN g) i)

theorem round_len {g : Gr} {out : List Nat} (h : IsOrder (insN g) out) : decide (out.length < g.nodes.length) = roundB g := by
  have := h.round
  rw [insN_len] at this
  unfold roundB
  rw [decide_eq_decide]
  exact this

set_option maxHeartbeats 1000000 in
theorem round_any (w : World) (v : Value) (g : Gr) (hg : GrV w v g) (hok : GrOk g) :
    Calls Try.prog 65 #[v] w fun e w' => e = .returned (.bool (roundB g)) ∧ Below w.heap.size w w' := by
  have Hg := Lib.hid hg
  have Hok := Lib.hid hok
  have hfew := hok.few
  obtain ⟨p, cap, rfl⟩ := hg.form
  clear hg hok
  have hb0 := (Below.refl w.heap.size w).alloc (Nat.le_refl _) (.cells #[.slice p g.nodes.length cap, .int .i64 g.out] 40)
  have hlt : w.heap.size < (w.alloc (.cells #[.slice p g.nodes.length cap, .int .i64 g.out] 40)).heap.size := by simp
  have hc0 : (w.alloc (.cells #[.slice p g.nodes.length cap, .int .i64 g.out] 40)).cell? ⟨w.heap.size, 0, none⟩ = some (.slice p g.nodes.length cap) := by simp [go_sem]
  have hc1 : (w.alloc (.cells #[.slice p g.nodes.length cap, .int .i64 g.out] 40)).cell? ⟨w.heap.size, 1, none⟩ = some (.int .i64 g.out) := by simp [go_sem]
  go_enter Try.func65, Try.ntmps65
  go_wp2_with fail
  generalize w.alloc (.cells #[.slice p g.nodes.length cap, .int .i64 g.out] 40) = wb at *
  go_region_held3 (fun w' => (Below wb.heap.size wb w' ∧ w'.cell? ⟨w.heap.size, 0, none⟩ = some (.slice p g.nodes.length cap) ∧ w'.cell? ⟨w.heap.size, 1, none⟩ = some (.int .i64 g.out)))
    (first
      | exact ⟨(Below.refl _ _).drew, hc0, hc1⟩
      | (obtain ⟨g0, g1, g2⟩ := ‹Below wb.heap.size wb _ ∧ _›; exact ⟨later_below g0 (hb3.mono (by omega)), later_cell g0 hb3 hlt g1, later_cell g0 hb3 hlt g2⟩))
    (first
      | (go_at_call 71; refine (all_ord _ _ g (Hg.out.up (hb0.trans ((‹Below wb.heap.size wb _ ∧ _›).1.mono (by omega)))) Hok.out).mono ?_; rintro e w3 ⟨v3, out, rfl, hown3, hord, hb3⟩; obtain ⟨p3, c3, rfl⟩ := ownsRow_form hown3; have hle := hord.le; rw [insN_len] at hle))
  have hfin := hb0.trans ((‹Below wb.heap.size wb w3 ∧ _›).1.mono (by omega))
  go_wp2
  go_ret
  exact ⟨ret_bool (round_len hord), hfin⟩

end Go.Proofs.Ytpbmfalokongfaa

/- The node check: pixels, tiles, matrices. -/
set_option maxRecDepth 100000
namespace Go.Proofs.Ytpbmfalokongfaa
open Go.RowKit Go.Gou

theorem wrap_u8 {x : Int} (h0 : 0 ≤ x) (h1 : x ≤ 255) : IntKind.u8.wrap x = x := by
  simp [IntKind.wrap, IntKind.signed, IntKind.bits]; omega

def pxRight (a b c d : Int) : Bool := decide (a ≤ d) && (decide (b ≤ d) && decide (c ≤ d))

set_option maxHeartbeats 400000 in
theorem right_any (a b c d : Int) (w : World) :
    Calls Try.prog 58 #[.agg #[.int .u8 a, .int .u8 b, .int .u8 c, .int .u8 d]] w fun e w' => e = .returned (.bool (pxRight a b c d)) ∧ Below w.heap.size w w' := by
  go_enter Try.func58, Try.ntmps58
  go_wp2
  all_goals go_ret
  all_goals refine ⟨ret_bool ?_, (Below.refl _ _).alloc (Nat.le_refl _) _⟩
  all_goals simp only [pxRight]
  all_goals first | (simp; omega) | (simp [*]; done)

def matB (m : List Int) : Bool := decide (m.length = 20) && m.all (withinB (-32768) 32767)

set_option maxHeartbeats 400000 in
theorem matrix_any (w : World) (v : Value) (xs : List Int) (hx : IntsAt w.heap.size w v xs) (hl : xs.length ≤ maxLen) :
    Calls Try.prog 73 #[v] w fun e w' => e = .returned (.bool (matB xs)) ∧ Below w.heap.size w w' := by
  obtain ⟨p, cap, rfl, _, hp⟩ := hx
  unfold maxLen at hl
  by_cases h20 : xs.length = 20
  · have H20 := Lib.hid h20
    have e20 : ((xs.length : Int) != 20) = false := by rw [h20]; rfl
    have hl20 : xs.length ≤ 20 := by omega
    clear h20
    go_enter Try.func73, Try.ntmps73
    go_wp2
    go_loop [10] (fun i => ∃ k : Nat, k ≤ xs.length ∧ i = .int .i64 k ∧ (xs.take k).all (withinB (-32768) 32767) = true) (fun i => xs.length - (intOf i).toNat)
    case atStart => exact ⟨0, Nat.zero_le _, rfl, rfl⟩
    case round =>
      obtain ⟨k, hk, rfl, hall⟩ := hrel
      have Hall := Lib.hid hall
      clear hall
      by_cases hlt : k < xs.length
      · rcases hp with rfl | ⟨b, o, rfl, hb, hc⟩
        · simp at hlt
        have hc' := hc k hlt
        clear hc
        have hn : ∀ h : withinB (-32768) 32767 xs[k] = false, matB xs = false := by
          intro h
          rw [Bool.eq_false_iff]
          intro hm
          simp only [matB, Bool.and_eq_true, List.all_eq_true] at hm
          have := hm.2 _ (List.getElem_mem hlt)
          rw [h] at this
          cases this
        have HN := Lib.hid hn
        clear hn
        by_cases h1 : xs[k] < -32768
        · go_wp2
          go_ret
          exact ⟨ret_bool (by rw [HN.out (by simp [withinB]; omega)]), Below.refl _ _⟩
        · by_cases h2 : 32767 < xs[k]
          · go_wp2
            go_ret
            exact ⟨ret_bool (by rw [HN.out (by simp [withinB]; omega)]), Below.refl _ _⟩
          · go_wp2
            go_round
            case rel => exact ⟨k + 1, by omega, by go_num, by rw [List.all_take_succ _ _ _ hlt, Hall.out]; simp [withinB]; omega⟩
            case measure => simp [intOf]; omega
      · go_wp2
        go_ret
        have : xs.length = k := by omega
        exact ⟨ret_bool (by unfold matB; rw [← Hall.out, List.take_of_length_le (by omega)]; simp [H20.out]), Below.refl _ _⟩
  · have e20 : ((xs.length : Int) != 20) = true := by rw [bne_iff_ne]; omega
    have H20 := Lib.hid h20
    clear h20
    go_enter Try.func73, Try.ntmps73
    go_wp2
    go_ret
    exact ⟨ret_bool (by simp [matB, H20.out]), Below.refl _ _⟩

/-- Of four numbers at least, the first four: in 0 to 255, and a right pixel. -/
def pixB (l : List Int) : Bool := l.all (withinB 0 255) && pxRight (l.getD 0 0) (l.getD 1 0) (l.getD 2 0) (l.getD 3 0)

theorem within_getD {lo hi : Int} {l : List Int} (h : l.all (withinB lo hi) = true) {i : Nat} (hi' : i < l.length) : lo ≤ l.getD i 0 ∧ l.getD i 0 ≤ hi := by
  rw [List.all_eq_true] at h
  have := h l[i] (List.getElem_mem hi')
  simp only [withinB, Bool.and_eq_true, decide_eq_true_eq] at this
  simpa [List.getD, hi'] using this

set_option maxHeartbeats 1000000 in
theorem pixel_any (w : World) (v : Value) (xs : List Int) (hx : IntsAt w.heap.size w v xs) (hl : xs.length = 4) :
    Calls Try.prog 74 #[v] w fun e w' => e = .returned (.bool (pixB xs)) ∧ Below w.heap.size w w' := by
  have hx0 := hx
  obtain ⟨b, o, cap, rfl, hcap, hb, hc⟩ := ints_cells hx (by omega)
  have Hl := Lib.hid hl
  have hle : xs.length ≤ maxLen := by unfold maxLen; omega
  rw [hl] at hc hx0 ⊢
  clear hl
  cases hall : xs.all (withinB 0 255) with
  | false =>
    have Hall := Lib.hid hall
    go_enter Try.func74, Try.ntmps74
    go_wp2_with fail
    refine (within_any _ _ _).mono ?_
    rintro e w1 ⟨fv, rfl, hq, hb1⟩
    have hz1 : w.heap.size ≤ w1.heap.size := hb1.size
    go_wp2_with fail
    refine (all_any w1 _ _ xs _ (hx0.up hb1) (hq.asks xs) hle).mono ?_
    rintro e w2 ⟨rfl, hb2⟩
    go_wp2
    go_ret
    exact ⟨ret_bool (by simp [pixB, Hall.out]), hb1.trans (hb2.mono hz1)⟩
  | true =>
    have Hall := Lib.hid hall
    go_enter Try.func74, Try.ntmps74
    go_wp2_with fail
    refine (within_any _ _ _).mono ?_
    rintro e w1 ⟨fv, rfl, hq, hb1⟩
    have hz1 : w.heap.size ≤ w1.heap.size := hb1.size
    go_wp2_with fail
    refine (all_any w1 _ _ xs _ (hx0.up hb1) (hq.asks xs) hle).mono ?_
    rintro e w2 ⟨rfl, hb2⟩
    rw [hall]
    have hbw2 : b < w2.heap.size := by have := hb2.size; omega
    have hb12 := hb1.trans (hb2.mono hz1)
    have c0 := hc 0 (by omega)
    have c1 := hc 1 (by omega)
    have c2 := hc 2 (by omega)
    have c3 := hc 3 (by omega)
    rw [← hb12.cell (p := ⟨b, o + 0, none⟩) hb] at c0
    rw [← hb12.cell (p := ⟨b, o + 1, none⟩) hb] at c1
    rw [← hb12.cell (p := ⟨b, o + 2, none⟩) hb] at c2
    rw [← hb12.cell (p := ⟨b, o + 3, none⟩) hb] at c3
    obtain ⟨l0, u0⟩ := within_getD hall (i := 0) (by rw [Hl.out]; omega)
    obtain ⟨l1, u1⟩ := within_getD hall (i := 1) (by rw [Hl.out]; omega)
    obtain ⟨l2, u2⟩ := within_getD hall (i := 2) (by rw [Hl.out]; omega)
    obtain ⟨l3, u3⟩ := within_getD hall (i := 3) (by rw [Hl.out]; omega)
    have Hp : Hid (pixB xs = pxRight (xs.getD 0 0) (xs.getD 1 0) (xs.getD 2 0) (xs.getD 3 0)) := by
      show _ = _
      simp only [pixB, hall, Bool.true_and]
    generalize xs.getD 0 0 = x0 at *
    generalize xs.getD 1 0 = x1 at *
    generalize xs.getD 2 0 = x2 at *
    generalize xs.getD 3 0 = x3 at *
    clear hc hall hx0 hx
    rw [Nat.add_zero] at c0
    go_wp2_with fail
    go_region_held3 (fun w' => Below w.heap.size w w' ∧ w'.cell? ⟨b, o, none⟩ = some (.int .i64 x0) ∧ w'.cell? ⟨b, o + 1, none⟩ = some (.int .i64 x1) ∧ w'.cell? ⟨b, o + 2, none⟩ = some (.int .i64 x2) ∧ w'.cell? ⟨b, o + 3, none⟩ = some (.int .i64 x3))
      (first | exact ⟨hb12.drew, c0, c1, c2, c3⟩ | (obtain ⟨g0, g1, g2, g3, g4⟩ := ‹Below w.heap.size w _ ∧ _›; exact ⟨later_below g0 hb3, later_cell g0 hb3 hb g1, later_cell g0 hb3 hb g2, later_cell g0 hb3 hb g3, later_cell g0 hb3 hb g4⟩))
      (first | (go_at_call 58; refine (right_any _ _ _ _ _).mono ?_; rintro e w3 ⟨rfl, hb3⟩))
    go_wp2
    go_ret
    exact ⟨ret_bool (by rw [Hp.out, wrap_u8 l0 u0, wrap_u8 l1 u1, wrap_u8 l2 u2, wrap_u8 l3 u3]), later_below hb12.drew hb3⟩

def tileB (l : List Int) : Bool :=
  decide (0 < l.getD 2 0 - l.getD 0 0) && decide (0 < l.getD 3 0 - l.getD 1 0) && decide (l.getD 2 0 - l.getD 0 0 ≤ 4096) && decide (l.getD 3 0 - l.getD 1 0 ≤ 4096)

set_option maxHeartbeats 1000000 in
theorem tile_any (w : World) (v : Value) (xs : List Int) (hx : IntsAt w.heap.size w v xs) (hl : xs.length = 4) (hall : xs.all (withinB (-1048576) 1048576) = true) :
    Calls Try.prog 75 #[v] w fun e w' => e = .returned (.bool (tileB xs)) ∧ Below w.heap.size w w' := by
  obtain ⟨b, o, cap, rfl, hcap, hb, hc⟩ := ints_cells hx (by omega)
  have c0 := hc 0 (by omega)
  have c1 := hc 1 (by omega)
  have c2 := hc 2 (by omega)
  have c3 := hc 3 (by omega)
  rw [Nat.add_zero] at c0
  obtain ⟨l0, u0⟩ := within_getD hall (i := 0) (by omega)
  obtain ⟨l1, u1⟩ := within_getD hall (i := 1) (by omega)
  obtain ⟨l2, u2⟩ := within_getD hall (i := 2) (by omega)
  obtain ⟨l3, u3⟩ := within_getD hall (i := 3) (by omega)
  rw [hl]
  clear hc hall hx hl
  unfold tileB
  generalize xs.getD 0 0 = x0 at *
  generalize xs.getD 1 0 = x1 at *
  generalize xs.getD 2 0 = x2 at *
  generalize xs.getD 3 0 = x3 at *
  have e1 : IntKind.i64.wrap (x2 - x0) = x2 - x0 := IntWalk.i64_in _ (by omega)
  have e2 : IntKind.i64.wrap (x3 - x1) = x3 - x1 := IntWalk.i64_in _ (by omega)
  go_enter Try.func75, Try.ntmps75
  go_wp2
  go_quiet (fail)
  clear e1 e2
  go_wp2
  all_goals go_ret
  all_goals refine ⟨ret_bool ?_, below_drewN (Below.refl _ _) _⟩
  all_goals first | (simp; omega) | (simp [*]; done)

def boundsB (n : GNode) : Bool :=
  if n.op = 1 ∨ n.op = 12 then n.ps.all (withinB (-1048576) 1048576)
  else if n.op = 2 ∨ n.op = 3 ∨ n.op = 4 then n.ps.all (withinB 0 255)
  else if n.op = 5 then matB n.ps
  else if n.op = 6 then pixB (n.ps.take 4) && (n.ps.drop 4).all (withinB (-1048576) 1048576)
  else if n.op = 7 then n.ps.all (withinB 0 6)
  else if n.op = 8 then n.ps.all (withinB 0 5)
  else if n.op = 10 then n.ps.all (withinB (-1048576) 1048576) && tileB n.ps
  else if n.op = 11 then (n.ps.take 2).all (withinB (-1048576) 1048576) && ((n.ps.drop 2).take 2).all (withinB 0 255) && pixB (n.ps.drop 4)
  else true

end Go.Proofs.Ytpbmfalokongfaa

/- The node check: the bounds of a node's parameters, kind by kind (written by gen_nodec.py). -/
set_option maxRecDepth 100000
namespace Go.Proofs.Ytpbmfalokongfaa
open Go.RowKit Go.Gou

theorem eqF {a b : Int} (h : a ≠ b) : (a == b) = false := by simpa using h

theorem bounds_start (w w1 w2 : World) (o : Obj) (hb1 : Below (w.alloc o).heap.size (w.alloc o) w1) (hb2 : Below w1.heap.size w1 w2) : Below w.heap.size w w2 :=
  later_below ((Below.refl w.heap.size w).alloc (Nat.le_refl _) _) (later_below hb1 hb2)

set_option maxHeartbeats 1000000 in
theorem bounds_place (op : Int) (hop : op = 1 ∨ op = 12) (w : World) (vi vp : Value) (ps : List Int) (hx : IntsAt w.heap.size w vp ps) (hl : ps.length ≤ 100) :
    Calls Try.prog 70 #[.agg #[.int .i64 op, vi, vp]] w fun e w' => e = .returned (.bool (ps.all (withinB (-1048576) 1048576))) ∧ Below w.heap.size w w' := by
  have hle : ps.length ≤ maxLen := by unfold maxLen; omega
  rcases hop with rfl | rfl
  all_goals
    go_enter Try.func70, Try.ntmps70
    go_wp2_with fail
    refine (within_any _ _ _).mono ?_
    rintro e w1 ⟨fv1, rfl, hq1, hb1⟩
    have hz1 : w.heap.size < w1.heap.size := by have := hb1.size; simp at this; omega
    obtain ⟨hc1, _⟩ := bcell hb1
    go_wp2_with fail
    refine (within_any _ _ _).mono ?_
    rintro e w2 ⟨fv2, rfl, hq2, hb2⟩
    have hz2 : w.heap.size < w2.heap.size := by have := hb2.size; omega
    obtain ⟨hc2, _⟩ := bcell hb2
    have hb02 := later_below ((Below.refl w.heap.size w).alloc (Nat.le_refl _) _) (later_below hb1 hb2)
    replace hq1 := hq1.up hb2
    go_wp2_with fail
    refine (all_any w2 _ _ ps _ (hx.up hb02) (hq1.asks ps) hle).mono ?_
    rintro e w3 ⟨rfl, hb3⟩
    go_wp2
    go_ret
    exact ⟨rfl, later_below hb02 hb3⟩

set_option maxHeartbeats 1000000 in
theorem bounds_radius (op : Int) (hop : op = 2 ∨ op = 3 ∨ op = 4) (w : World) (vi vp : Value) (ps : List Int) (hx : IntsAt w.heap.size w vp ps) (hl : ps.length ≤ 100) :
    Calls Try.prog 70 #[.agg #[.int .i64 op, vi, vp]] w fun e w' => e = .returned (.bool (ps.all (withinB 0 255))) ∧ Below w.heap.size w w' := by
  have hle : ps.length ≤ maxLen := by unfold maxLen; omega
  rcases hop with rfl | rfl | rfl
  all_goals
    go_enter Try.func70, Try.ntmps70
    go_wp2_with fail
    refine (within_any _ _ _).mono ?_
    rintro e w1 ⟨fv1, rfl, hq1, hb1⟩
    have hz1 : w.heap.size < w1.heap.size := by have := hb1.size; simp at this; omega
    obtain ⟨hc1, _⟩ := bcell hb1
    go_wp2_with fail
    refine (within_any _ _ _).mono ?_
    rintro e w2 ⟨fv2, rfl, hq2, hb2⟩
    have hz2 : w.heap.size < w2.heap.size := by have := hb2.size; omega
    obtain ⟨hc2, _⟩ := bcell hb2
    have hb02 := later_below ((Below.refl w.heap.size w).alloc (Nat.le_refl _) _) (later_below hb1 hb2)
    replace hq1 := hq1.up hb2
    go_wp2_with fail
    refine (all_any w2 _ _ ps _ (hx.up hb02) (hq2.asks ps) hle).mono ?_
    rintro e w3 ⟨rfl, hb3⟩
    go_wp2
    go_ret
    exact ⟨rfl, later_below hb02 hb3⟩

set_option maxHeartbeats 1000000 in
theorem bounds_matrix (op : Int) (hop : op = 5) (w : World) (vi vp : Value) (ps : List Int) (hx : IntsAt w.heap.size w vp ps) (hl : ps.length ≤ 100) :
    Calls Try.prog 70 #[.agg #[.int .i64 op, vi, vp]] w fun e w' => e = .returned (.bool (matB ps)) ∧ Below w.heap.size w w' := by
  have hle : ps.length ≤ maxLen := by unfold maxLen; omega
  subst hop
  go_enter Try.func70, Try.ntmps70
  go_wp2_with fail
  refine (within_any _ _ _).mono ?_
  rintro e w1 ⟨fv1, rfl, hq1, hb1⟩
  have hz1 : w.heap.size < w1.heap.size := by have := hb1.size; simp at this; omega
  obtain ⟨hc1, _⟩ := bcell hb1
  go_wp2_with fail
  refine (within_any _ _ _).mono ?_
  rintro e w2 ⟨fv2, rfl, hq2, hb2⟩
  have hz2 : w.heap.size < w2.heap.size := by have := hb2.size; omega
  obtain ⟨hc2, _⟩ := bcell hb2
  have hb02 := later_below ((Below.refl w.heap.size w).alloc (Nat.le_refl _) _) (later_below hb1 hb2)
  replace hq1 := hq1.up hb2
  go_wp2_with fail
  refine (matrix_any w2 _ ps (hx.up hb02) hle).mono ?_
  rintro e w3 ⟨rfl, hb3⟩
  go_wp2
  go_ret
  exact ⟨rfl, later_below hb02 hb3⟩

set_option maxHeartbeats 1000000 in
theorem bounds_flood (op : Int) (hop : op = 6) (w : World) (vi vp : Value) (ps : List Int) (hx : IntsAt w.heap.size w vp ps) (hl8 : ps.length = 8) :
    Calls Try.prog 70 #[.agg #[.int .i64 op, vi, vp]] w fun e w' => e = .returned (.bool (pixB (ps.take 4) && (ps.drop 4).all (withinB (-1048576) 1048576))) ∧ Below w.heap.size w w' := by
  have hle : ps.length ≤ maxLen := by unfold maxLen; omega
  subst hop
  obtain ⟨b, o, cap, rfl, hcap, hb, _⟩ := ints_cells hx (by omega)
  have hx4 := hx.part 0 4 cap (by omega) (by omega) (by omega)
  have hx8 := hx.part 4 4 (cap - 4) (by omega) (by omega) (by omega)
  simp only [List.drop_zero, Nat.add_zero] at hx4
  rw [List.take_of_length_le (by simp; omega)] at hx8
  have hcap' : 8 ≤ cap := by omega
  have hne : ¬ (4 = cap) := by omega
  have hl4 : (ps.take 4).length = 4 := by simp; omega
  have hm4 : (ps.drop 4).length ≤ maxLen := by unfold maxLen; simp; omega
  rw [hl8]
  have Hl4 := Lib.hid hl4
  have Hm4 := Lib.hid hm4
  clear hl8 hcap hl4 hm4 hx hle
  generalize ps.take 4 = p4 at *
  generalize ps.drop 4 = p8 at *
  cases hp4 : pixB p4 with
  | false =>
    have Hp4 := Lib.hid hp4
    clear hp4
    go_enter Try.func70, Try.ntmps70
    go_wp2_with fail
    refine (within_any _ _ _).mono ?_
    rintro e w1 ⟨fv1, rfl, hq1, hb1⟩
    have hz1 : w.heap.size < w1.heap.size := by have := hb1.size; simp at this; omega
    obtain ⟨hc1, _⟩ := bcell hb1
    go_wp2_with fail
    refine (within_any _ _ _).mono ?_
    rintro e w2 ⟨fv2, rfl, hq2, hb2⟩
    have hz2 : w.heap.size < w2.heap.size := by have := hb2.size; omega
    obtain ⟨hc2, _⟩ := bcell hb2
    have hb02 := later_below ((Below.refl w.heap.size w).alloc (Nat.le_refl _) _) (later_below hb1 hb2)
    replace hq1 := hq1.up hb2
    go_wp2_with fail
    refine (pixel_any w2 _ p4 (hx4.up hb02) Hl4.out).mono ?_
    rintro e w3 ⟨rfl, hb3⟩
    rw [Hp4.out]
    go_wp2
    go_ret
    exact ⟨rfl, later_below hb02 hb3⟩
  | true =>
    have Hp4 := Lib.hid hp4
    clear hp4
    go_enter Try.func70, Try.ntmps70
    go_wp2_with fail
    refine (within_any _ _ _).mono ?_
    rintro e w1 ⟨fv1, rfl, hq1, hb1⟩
    have hz1 : w.heap.size < w1.heap.size := by have := hb1.size; simp at this; omega
    obtain ⟨hc1, _⟩ := bcell hb1
    go_wp2_with fail
    refine (within_any _ _ _).mono ?_
    rintro e w2 ⟨fv2, rfl, hq2, hb2⟩
    have hz2 : w.heap.size < w2.heap.size := by have := hb2.size; omega
    obtain ⟨hc2, _⟩ := bcell hb2
    have hb02 := later_below ((Below.refl w.heap.size w).alloc (Nat.le_refl _) _) (later_below hb1 hb2)
    replace hq1 := hq1.up hb2
    go_wp2_with fail
    refine (pixel_any w2 _ p4 (hx4.up hb02) Hl4.out).mono ?_
    rintro e w3 ⟨rfl, hb3⟩
    rw [Hp4.out]
    have hz3 : w.heap.size < w3.heap.size := by have := hb3.size; omega
    have hb03 := later_below hb02 hb3
    obtain ⟨hc3, _⟩ := bcell hb3
    go_wp2_with fail
    refine (all_any w3 _ _ p8 _ (hx8.up hb03) ((hq1.up hb3).asks p8) Hm4.out).mono ?_
    rintro e w4 ⟨rfl, hb4⟩
    go_wp2
    go_ret
    exact ⟨rfl, later_below hb03 hb4⟩

set_option maxHeartbeats 1000000 in
theorem bounds_blend (op : Int) (hop : op = 7) (w : World) (vi vp : Value) (ps : List Int) (hx : IntsAt w.heap.size w vp ps) (hl : ps.length ≤ 100) :
    Calls Try.prog 70 #[.agg #[.int .i64 op, vi, vp]] w fun e w' => e = .returned (.bool (ps.all (withinB 0 6))) ∧ Below w.heap.size w w' := by
  have hle : ps.length ≤ maxLen := by unfold maxLen; omega
  subst hop
  go_enter Try.func70, Try.ntmps70
  go_wp2_with fail
  refine (within_any _ _ _).mono ?_
  rintro e w1 ⟨fv1, rfl, hq1, hb1⟩
  have hz1 : w.heap.size < w1.heap.size := by have := hb1.size; simp at this; omega
  obtain ⟨hc1, _⟩ := bcell hb1
  go_wp2_with fail
  refine (within_any _ _ _).mono ?_
  rintro e w2 ⟨fv2, rfl, hq2, hb2⟩
  have hz2 : w.heap.size < w2.heap.size := by have := hb2.size; omega
  obtain ⟨hc2, _⟩ := bcell hb2
  have hb02 := later_below ((Below.refl w.heap.size w).alloc (Nat.le_refl _) _) (later_below hb1 hb2)
  replace hq1 := hq1.up hb2
  go_wp2_with fail
  have hcp : w2.cell? ⟨w.heap.size, 2, none⟩ = some vp := by rw [hc2 _ _ (by omega), hc1 _ _ (by simp)]; simp [go_sem]
  go_region_held3 (fun w' => (Below w2.heap.size w2 w' ∧ w'.cell? ⟨w.heap.size, 2, none⟩ = some vp))
    (first
      | exact ⟨(Below.refl _ _).drew, hcp⟩
      | (obtain ⟨g0, g1⟩ := ‹Below w2.heap.size w2 _ ∧ _›; exact ⟨later_below g0 hb3, later_cell g0 hb3 hz2 g1⟩)
      | (obtain ⟨g0, g1⟩ := ‹Below w2.heap.size w2 _ ∧ _›; exact ⟨later_below g0 hb4, later_cell g0 hb4 hz2 g1⟩))
    (first
      | (go_at_call 72; refine (within_any _ _ _).mono ?_; rintro e w3 ⟨fv3, rfl, hq3, hb3⟩)
      | (go_at_call 68; refine (all_any _ _ _ ps _ ?_ (hq3.asks ps) hle).mono ?_; (exact hx.up (later_below hb02 (‹Below w2.heap.size w2 _ ∧ _›).1)); rintro e w4 ⟨rfl, hb4⟩))
  go_wp2
  go_ret
  exact ⟨rfl, later_below hb02 (‹Below w2.heap.size w2 _ ∧ _›).1⟩

set_option maxHeartbeats 1000000 in
theorem bounds_compose (op : Int) (hop : op = 8) (w : World) (vi vp : Value) (ps : List Int) (hx : IntsAt w.heap.size w vp ps) (hl : ps.length ≤ 100) :
    Calls Try.prog 70 #[.agg #[.int .i64 op, vi, vp]] w fun e w' => e = .returned (.bool (ps.all (withinB 0 5))) ∧ Below w.heap.size w w' := by
  have hle : ps.length ≤ maxLen := by unfold maxLen; omega
  subst hop
  go_enter Try.func70, Try.ntmps70
  go_wp2_with fail
  refine (within_any _ _ _).mono ?_
  rintro e w1 ⟨fv1, rfl, hq1, hb1⟩
  have hz1 : w.heap.size < w1.heap.size := by have := hb1.size; simp at this; omega
  obtain ⟨hc1, _⟩ := bcell hb1
  go_wp2_with fail
  refine (within_any _ _ _).mono ?_
  rintro e w2 ⟨fv2, rfl, hq2, hb2⟩
  have hz2 : w.heap.size < w2.heap.size := by have := hb2.size; omega
  obtain ⟨hc2, _⟩ := bcell hb2
  have hb02 := later_below ((Below.refl w.heap.size w).alloc (Nat.le_refl _) _) (later_below hb1 hb2)
  replace hq1 := hq1.up hb2
  go_wp2_with fail
  have hcp : w2.cell? ⟨w.heap.size, 2, none⟩ = some vp := by rw [hc2 _ _ (by omega), hc1 _ _ (by simp)]; simp [go_sem]
  go_region_held3 (fun w' => (Below w2.heap.size w2 w' ∧ w'.cell? ⟨w.heap.size, 2, none⟩ = some vp))
    (first
      | exact ⟨(Below.refl _ _).drew, hcp⟩
      | (obtain ⟨g0, g1⟩ := ‹Below w2.heap.size w2 _ ∧ _›; exact ⟨later_below g0 hb3, later_cell g0 hb3 hz2 g1⟩)
      | (obtain ⟨g0, g1⟩ := ‹Below w2.heap.size w2 _ ∧ _›; exact ⟨later_below g0 hb4, later_cell g0 hb4 hz2 g1⟩))
    (first
      | (go_at_call 72; refine (within_any _ _ _).mono ?_; rintro e w3 ⟨fv3, rfl, hq3, hb3⟩)
      | (go_at_call 68; refine (all_any _ _ _ ps _ ?_ (hq3.asks ps) hle).mono ?_; (exact hx.up (later_below hb02 (‹Below w2.heap.size w2 _ ∧ _›).1)); rintro e w4 ⟨rfl, hb4⟩))
  go_wp2
  go_ret
  exact ⟨rfl, later_below hb02 (‹Below w2.heap.size w2 _ ∧ _›).1⟩

set_option maxHeartbeats 1000000 in
theorem bounds_tile (op : Int) (hop : op = 10) (w : World) (vi vp : Value) (ps : List Int) (hx : IntsAt w.heap.size w vp ps) (hl4 : ps.length = 4) :
    Calls Try.prog 70 #[.agg #[.int .i64 op, vi, vp]] w fun e w' => e = .returned (.bool (ps.all (withinB (-1048576) 1048576) && tileB ps)) ∧ Below w.heap.size w w' := by
  have hle : ps.length ≤ maxLen := by unfold maxLen; omega
  subst hop
  have Hl4 := Lib.hid hl4
  clear hl4
  cases hp4 : ps.all (withinB (-1048576) 1048576) with
  | false =>
    have Hp4 := Lib.hid hp4
    clear hp4
    go_enter Try.func70, Try.ntmps70
    go_wp2_with fail
    refine (within_any _ _ _).mono ?_
    rintro e w1 ⟨fv1, rfl, hq1, hb1⟩
    have hz1 : w.heap.size < w1.heap.size := by have := hb1.size; simp at this; omega
    obtain ⟨hc1, _⟩ := bcell hb1
    go_wp2_with fail
    refine (within_any _ _ _).mono ?_
    rintro e w2 ⟨fv2, rfl, hq2, hb2⟩
    have hz2 : w.heap.size < w2.heap.size := by have := hb2.size; omega
    obtain ⟨hc2, _⟩ := bcell hb2
    have hb02 := later_below ((Below.refl w.heap.size w).alloc (Nat.le_refl _) _) (later_below hb1 hb2)
    replace hq1 := hq1.up hb2
    go_wp2_with fail
    refine (all_any w2 _ _ ps _ (hx.up hb02) (hq1.asks ps) hle).mono ?_
    rintro e w3 ⟨rfl, hb3⟩
    rw [Hp4.out]
    go_wp2
    go_ret
    exact ⟨rfl, later_below hb02 hb3⟩
  | true =>
    have Hp4 := Lib.hid hp4
    clear hp4
    go_enter Try.func70, Try.ntmps70
    go_wp2_with fail
    refine (within_any _ _ _).mono ?_
    rintro e w1 ⟨fv1, rfl, hq1, hb1⟩
    have hz1 : w.heap.size < w1.heap.size := by have := hb1.size; simp at this; omega
    obtain ⟨hc1, _⟩ := bcell hb1
    go_wp2_with fail
    refine (within_any _ _ _).mono ?_
    rintro e w2 ⟨fv2, rfl, hq2, hb2⟩
    have hz2 : w.heap.size < w2.heap.size := by have := hb2.size; omega
    obtain ⟨hc2, _⟩ := bcell hb2
    have hb02 := later_below ((Below.refl w.heap.size w).alloc (Nat.le_refl _) _) (later_below hb1 hb2)
    replace hq1 := hq1.up hb2
    go_wp2_with fail
    refine (all_any w2 _ _ ps _ (hx.up hb02) (hq1.asks ps) hle).mono ?_
    rintro e w3 ⟨rfl, hb3⟩
    rw [Hp4.out]
    have hz3 : w.heap.size < w3.heap.size := by have := hb3.size; omega
    have hb03 := later_below hb02 hb3
    obtain ⟨hc3, _⟩ := bcell hb3
    go_wp2_with fail
    refine (tile_any w3 _ ps (hx.up hb03) Hl4.out Hp4.out).mono ?_
    rintro e w4 ⟨rfl, hb4⟩
    go_wp2
    go_ret
    exact ⟨rfl, later_below hb03 hb4⟩

set_option maxHeartbeats 1000000 in
theorem bounds_shadow (op : Int) (hop : op = 11) (w : World) (vi vp : Value) (ps : List Int) (hx : IntsAt w.heap.size w vp ps) (hl8 : ps.length = 8) :
    Calls Try.prog 70 #[.agg #[.int .i64 op, vi, vp]] w fun e w' => e = .returned (.bool ((ps.take 2).all (withinB (-1048576) 1048576) && ((ps.drop 2).take 2).all (withinB 0 255) && pixB (ps.drop 4))) ∧ Below w.heap.size w w' := by
  have hle : ps.length ≤ maxLen := by unfold maxLen; omega
  subst hop
  obtain ⟨b, o, cap, rfl, hcap, hb, _⟩ := ints_cells hx (by omega)
  have hx2 := hx.part 0 2 cap (by omega) (by omega) (by omega)
  have hx4 := hx.part 2 2 (cap - 2) (by omega) (by omega) (by omega)
  have hx8 := hx.part 4 4 (cap - 4) (by omega) (by omega) (by omega)
  simp only [List.drop_zero, Nat.add_zero] at hx2
  rw [List.take_of_length_le (by simp; omega)] at hx8
  have hcap' : 8 ≤ cap := by omega
  have hne : ¬ (4 = cap) := by omega
  have hne2 : ¬ (2 = cap) := by omega
  have hl2 : (ps.take 2).length ≤ maxLen := by unfold maxLen; simp; omega
  have hl4 : ((ps.drop 2).take 2).length ≤ maxLen := by unfold maxLen; simp; omega
  have hm4 : (ps.drop 4).length = 4 := by simp; omega
  rw [hl8]
  have Hl2 := Lib.hid hl2
  have Hl4 := Lib.hid hl4
  have Hm4 := Lib.hid hm4
  clear hl8 hcap hl2 hl4 hm4 hx hle
  generalize ps.take 2 = p2 at *
  generalize (ps.drop 2).take 2 = p4 at *
  generalize ps.drop 4 = p8 at *
  cases hp2 : p2.all (withinB (-1048576) 1048576) with
  | false =>
    have Hp2 := Lib.hid hp2
    clear hp2
    go_enter Try.func70, Try.ntmps70
    go_wp2_with fail
    refine (within_any _ _ _).mono ?_
    rintro e w1 ⟨fv1, rfl, hq1, hb1⟩
    have hz1 : w.heap.size < w1.heap.size := by have := hb1.size; simp at this; omega
    obtain ⟨hc1, _⟩ := bcell hb1
    go_wp2_with fail
    refine (within_any _ _ _).mono ?_
    rintro e w2 ⟨fv2, rfl, hq2, hb2⟩
    have hz2 : w.heap.size < w2.heap.size := by have := hb2.size; omega
    obtain ⟨hc2, _⟩ := bcell hb2
    have hb02 := later_below ((Below.refl w.heap.size w).alloc (Nat.le_refl _) _) (later_below hb1 hb2)
    replace hq1 := hq1.up hb2
    go_wp2_with fail
    refine (all_any w2 _ _ p2 _ (hx2.up hb02) (hq1.asks p2) Hl2.out).mono ?_
    rintro e w3 ⟨rfl, hb3⟩
    rw [Hp2.out]
    go_wp2
    go_ret
    exact ⟨rfl, later_below hb02 hb3⟩
  | true =>
    have Hp2 := Lib.hid hp2
    clear hp2
    cases hp4 : p4.all (withinB 0 255) with
    | false =>
      have Hp4 := Lib.hid hp4
      clear hp4
      go_enter Try.func70, Try.ntmps70
      go_wp2_with fail
      refine (within_any _ _ _).mono ?_
      rintro e w1 ⟨fv1, rfl, hq1, hb1⟩
      have hz1 : w.heap.size < w1.heap.size := by have := hb1.size; simp at this; omega
      obtain ⟨hc1, _⟩ := bcell hb1
      go_wp2_with fail
      refine (within_any _ _ _).mono ?_
      rintro e w2 ⟨fv2, rfl, hq2, hb2⟩
      have hz2 : w.heap.size < w2.heap.size := by have := hb2.size; omega
      obtain ⟨hc2, _⟩ := bcell hb2
      have hb02 := later_below ((Below.refl w.heap.size w).alloc (Nat.le_refl _) _) (later_below hb1 hb2)
      replace hq1 := hq1.up hb2
      go_wp2_with fail
      refine (all_any w2 _ _ p2 _ (hx2.up hb02) (hq1.asks p2) Hl2.out).mono ?_
      rintro e w3 ⟨rfl, hb3⟩
      rw [Hp2.out]
      have hz3 : w.heap.size < w3.heap.size := by have := hb3.size; omega
      have hb03 := later_below hb02 hb3
      obtain ⟨hc3, _⟩ := bcell hb3
      go_wp2_with fail
      refine (all_any w3 _ _ p4 _ (hx4.up hb03) ((hq2.up hb3).asks p4) Hl4.out).mono ?_
      rintro e w4 ⟨rfl, hb4⟩
      rw [Hp4.out]
      go_wp2
      go_ret
      exact ⟨rfl, later_below hb03 hb4⟩
    | true =>
      have Hp4 := Lib.hid hp4
      clear hp4
      go_enter Try.func70, Try.ntmps70
      go_wp2_with fail
      refine (within_any _ _ _).mono ?_
      rintro e w1 ⟨fv1, rfl, hq1, hb1⟩
      have hz1 : w.heap.size < w1.heap.size := by have := hb1.size; simp at this; omega
      obtain ⟨hc1, _⟩ := bcell hb1
      go_wp2_with fail
      refine (within_any _ _ _).mono ?_
      rintro e w2 ⟨fv2, rfl, hq2, hb2⟩
      have hz2 : w.heap.size < w2.heap.size := by have := hb2.size; omega
      obtain ⟨hc2, _⟩ := bcell hb2
      have hb02 := later_below ((Below.refl w.heap.size w).alloc (Nat.le_refl _) _) (later_below hb1 hb2)
      replace hq1 := hq1.up hb2
      go_wp2_with fail
      refine (all_any w2 _ _ p2 _ (hx2.up hb02) (hq1.asks p2) Hl2.out).mono ?_
      rintro e w3 ⟨rfl, hb3⟩
      rw [Hp2.out]
      have hz3 : w.heap.size < w3.heap.size := by have := hb3.size; omega
      have hb03 := later_below hb02 hb3
      obtain ⟨hc3, _⟩ := bcell hb3
      go_wp2_with fail
      refine (all_any w3 _ _ p4 _ (hx4.up hb03) ((hq2.up hb3).asks p4) Hl4.out).mono ?_
      rintro e w4 ⟨rfl, hb4⟩
      rw [Hp4.out]
      have hz4 : w.heap.size < w4.heap.size := by have := hb4.size; omega
      have hb04 := later_below hb03 hb4
      obtain ⟨hc4, _⟩ := bcell hb4
      go_wp2_with fail
      refine (pixel_any w4 _ p8 (hx8.up hb04) Hm4.out).mono ?_
      rintro e w5 ⟨rfl, hb5⟩
      go_wp2
      go_ret
      exact ⟨rfl, later_below hb04 hb5⟩

set_option maxHeartbeats 1000000 in
theorem bounds_merge (op : Int) (hop : op = 9) (w : World) (vi vp : Value) (ps : List Int) (hx : IntsAt w.heap.size w vp ps) (hl : ps.length ≤ 100) :
    Calls Try.prog 70 #[.agg #[.int .i64 op, vi, vp]] w fun e w' => e = .returned (.bool (true)) ∧ Below w.heap.size w w' := by
  subst hop
  go_enter Try.func70, Try.ntmps70
  go_wp2_with fail
  refine (within_any _ _ _).mono ?_
  rintro e w1 ⟨fv1, rfl, hq1, hb1⟩
  have hz1 : w.heap.size < w1.heap.size := by have := hb1.size; simp at this; omega
  obtain ⟨hc1, _⟩ := bcell hb1
  go_wp2_with fail
  refine (within_any _ _ _).mono ?_
  rintro e w2 ⟨fv2, rfl, hq2, hb2⟩
  have hz2 : w.heap.size < w2.heap.size := by have := hb2.size; omega
  obtain ⟨hc2, _⟩ := bcell hb2
  have hb02 := later_below ((Below.refl w.heap.size w).alloc (Nat.le_refl _) _) (later_below hb1 hb2)
  replace hq1 := hq1.up hb2
  go_wp2
  go_ret
  exact ⟨rfl, hb02⟩

/-- The whole. -/
theorem bounds_any (w : World) (vi vp : Value) (n : GNode) (hx : IntsAt w.heap.size w vp n.ps) (hok : (ofS n.op).2 = true) (hl : (n.ps.length : Int) = (ofS n.op).1.2.2) :
    Calls Try.prog 70 #[.agg #[.int .i64 n.op, vi, vp]] w fun e w' => e = .returned (.bool (boundsB n)) ∧ Below w.heap.size w w' := by
  obtain ⟨op, ins, ps⟩ := n
  dsimp only at hx hok hl ⊢
  have hcases : op = 1 ∨ op = 2 ∨ op = 3 ∨ op = 4 ∨ op = 5 ∨ op = 6 ∨ op = 7 ∨ op = 8 ∨ op = 9 ∨ op = 10 ∨ op = 11 ∨ op = 12 := by
    apply Classical.byContradiction
    intro hn
    simp only [not_or] at hn
    obtain ⟨h1, h2, h3, h4, h5, h6, h7, h8, h9, h10, h11, h12⟩ := hn
    simp [ofS, h1, h2, h3, h4, h5, h6, h7, h8, h9, h10, h11, h12] at hok
  rcases hcases with rfl | rfl | rfl | rfl | rfl | rfl | rfl | rfl | rfl | rfl | rfl | rfl
  all_goals simp [ofS] at hl
  · have := bounds_place 1 (.inl rfl) w vi vp ps hx (by omega)
    simpa [boundsB] using this
  · have := bounds_radius 2 (by omega) w vi vp ps hx (by omega)
    simpa [boundsB] using this
  · have := bounds_radius 3 (by omega) w vi vp ps hx (by omega)
    simpa [boundsB] using this
  · have := bounds_radius 4 (by omega) w vi vp ps hx (by omega)
    simpa [boundsB] using this
  · have := bounds_matrix 5 rfl w vi vp ps hx (by omega)
    simpa [boundsB] using this
  · have := bounds_flood 6 rfl w vi vp ps hx (by omega)
    simpa [boundsB] using this
  · have := bounds_blend 7 rfl w vi vp ps hx (by omega)
    simpa [boundsB] using this
  · have := bounds_compose 8 rfl w vi vp ps hx (by omega)
    simpa [boundsB] using this
  · have := bounds_merge 9 rfl w vi vp ps hx (by simp [hl])
    simpa [boundsB] using this
  · have := bounds_tile 10 rfl w vi vp ps hx (by omega)
    simpa [boundsB] using this
  · have := bounds_shadow 11 rfl w vi vp ps hx (by omega)
    simpa [boundsB] using this
  · have := bounds_place 12 (.inr rfl) w vi vp ps hx (by omega)
    simpa [boundsB] using this

end Go.Proofs.Ytpbmfalokongfaa

/- The node check: one node. -/
set_option maxRecDepth 100000
namespace Go.Proofs.Ytpbmfalokongfaa
open Go.RowKit Go.Gou

def aritB (n : GNode) : Bool := decide ((n.ins.length : Int) < (ofS n.op).1.1) || decide ((ofS n.op).1.2.1 < (n.ins.length : Int)) || !decide ((n.ps.length : Int) = (ofS n.op).1.2.2)

def oneS (n : GNode) (count : Int) : Int :=
  if (ofS n.op).2 = false then 1 else if aritB n = true then 7 else if n.ins.all (withinB (-1) (count - 1)) = false then 8 else if boundsB n = false then 3 else 0

/-- A node's value: its number, and its two lists. -/
def NodeV (w : World) (v : Value) (n : GNode) : Prop := ∃ vi vp, v = .agg #[.int .i64 n.op, vi, vp] ∧ IntsAt w.heap.size w vi n.ins ∧ IntsAt w.heap.size w vp n.ps

theorem ret_int {k : IntKind} {a b : Int} (h : a = b) : Ending.returned (.int k a) = .returned (.int k b) := by rw [h]

theorem of_eq (op a b c : Int) (ok : Bool) (w : World) (h : ofS op = ((a, b, c), ok)) :
    Calls Try.prog 67 #[.int .i64 op] w fun e w' => e = .returned (.tuple #[.agg #[.int .i64 a, .int .i64 b, .int .i64 c], .bool ok]) ∧ Below w.heap.size w w' := by
  have := of_any op w
  simpa [ofV, h] using this

theorem Asks.up {w w1 : World} {v : Value} {xs : List Int} {q : Int → Bool} (h : Asks w.heap.size w v xs q) (hb : Below w.heap.size w w1) : Asks w1.heap.size w1 v xs q := by
  obtain ⟨f, caps, rfl, hr, h⟩ := h
  exact ⟨f, caps, rfl, hr, fun w' n hn hb' => h w' n hn (later_below hb hb')⟩

set_option maxHeartbeats 1000000 in
theorem one_any (w : World) (v : Value) (n : GNode) (count : Int) (hv : NodeV w v n) (hli : n.ins.length ≤ maxLen) (hlp : n.ps.length ≤ maxLen) :
    Calls Try.prog 64 #[v, .int .i64 count] w fun e w' => e = .returned (.int .i64 (oneS n count)) ∧ Below w.heap.size w w' := by
  obtain ⟨vi, vp, rfl, hi, hp⟩ := hv
  obtain ⟨pi, ci, rfl⟩ := hi.len
  obtain ⟨pp, cp, rfl⟩ := hp.len
  have bst := fun (w1 : World) (o1 o2 o3 : Obj) (hb1 : Below ((w.alloc o1).alloc o2).heap.size ((w.alloc o1).alloc o2) w1) =>
    (later_below (((Below.refl w.heap.size w).alloc (Nat.le_refl _) o1).alloc (by simp) o2) hb1).alloc (Nat.le_trans (by simp; omega) hb1.size) o3
  have Bst := Lib.hid bst
  clear bst
  cases hof : ofS n.op with
  | mk abc ok =>
  obtain ⟨a, b, c⟩ := abc
  have Hof := Lib.hid hof
  clear hof
  cases ok with
  | false =>
    have Hs : Hid (oneS n count = 1) := by show _ = _; simp [oneS, Hof.out]
    go_enter Try.func64, Try.ntmps64
    go_wp2_with fail
    refine (of_eq _ a b c false _ Hof.out).mono ?_
    rintro e w1 ⟨rfl, hb1⟩
    have hz1 : w.heap.size < w1.heap.size := by have := hb1.size; simp at this; omega
    obtain ⟨hc1, _⟩ := bcell hb1
    go_wp2
    go_ret
    exact ⟨ret_int Hs.out.symm, Bst.out _ _ _ _ hb1⟩
  | true =>
    by_cases har : aritB n = true
    · have Hs : Hid (oneS n count = 7) := by show _ = _; simp [oneS, Hof.out, har]
      have Har := Lib.hid har
      clear har
      have hq : (a ≤ n.ins.length ∧ n.ins.length ≤ b) → ((n.ps.length : Int) != c) = true := by
        have h := Har.out
        simp only [aritB, Hof.out, Bool.or_eq_true, decide_eq_true_eq, Bool.not_eq_true', decide_eq_false_iff_not] at h
        intro ⟨h1, h2⟩
        rw [bne_iff_ne]
        omega
      have Hq := Lib.hid hq
      clear hq
      go_enter Try.func64, Try.ntmps64
      go_wp2_with fail
      refine (of_eq _ a b c true _ Hof.out).mono ?_
      rintro e w1 ⟨rfl, hb1⟩
      have hz1 : w.heap.size + 1 < w1.heap.size := by have := hb1.size; simp at this; omega
      have hz0 : w.heap.size < w1.heap.size := by omega
      obtain ⟨hc1, _⟩ := bcell hb1
      unfold maxLen at hli hlp
      by_cases h1 : a ≤ n.ins.length
      · by_cases h2 : n.ins.length ≤ b
        · have h3 := Hq.out ⟨h1, h2⟩
          go_wp2_with fail
          go_ret
          exact ⟨ret_int Hs.out.symm, Bst.out _ _ _ _ hb1⟩
        · go_wp2_with fail
          go_ret
          exact ⟨ret_int Hs.out.symm, Bst.out _ _ _ _ hb1⟩
      · go_wp2_with fail
        go_ret
        exact ⟨ret_int Hs.out.symm, Bst.out _ _ _ _ hb1⟩
    · have Har := Lib.hid har
      clear har
      have h := Har.out
      simp only [aritB, Hof.out, Bool.or_eq_true, decide_eq_true_eq, Bool.not_eq_true', decide_eq_false_iff_not, not_or, Classical.not_not, Int.not_lt] at h
      obtain ⟨⟨h1, h2⟩, h3⟩ := h
      have Hlc : Hid ((n.ps.length : Int) = (ofS n.op).1.2.2) := by show _ = _; rw [Hof.out]; exact h3
      have hlc : ((n.ps.length : Int) != c) = false := by rw [h3]; simp
      clear h3
      have hli' := Lib.hid hli
      have hlp' := Lib.hid hlp
      have hcnt : ∀ (w1 : World) (ob : Obj), Below ((w.alloc ob).alloc (.cells #[.int .i64 count] 3)).heap.size ((w.alloc ob).alloc (.cells #[.int .i64 count] 3)) w1 →
          Asks w1.heap.size w1 (.func (.func 69) #[] #[.pointer (some ⟨w.heap.size + 1, 0, none⟩)]) n.ins (withinB (-1) (count - 1)) := by
        intro w1 ob hb1
        have hlt : w.heap.size + 1 < ((w.alloc ob).alloc (.cells #[.int .i64 count] 3)).heap.size := by simp
        have hcell : ((w.alloc ob).alloc (.cells #[.int .i64 count] 3)).cell? ⟨w.heap.size + 1, 0, none⟩ = some (.int .i64 count) := by simp [go_sem]
        exact ⟨_, _, rfl, run_one1, fun w' m _ hb => one1_any count m w' _ (later_cell hb1 hb hlt ((hb1.cell (p := ⟨_, _, none⟩) hlt).trans hcell))⟩
      have Hcnt := Lib.hid hcnt
      clear hcnt
      go_enter Try.func64, Try.ntmps64
      go_wp2_with fail
      refine (of_eq _ a b c true _ Hof.out).mono ?_
      rintro e w1 ⟨rfl, hb1⟩
      have hz1 : w.heap.size + 1 < w1.heap.size := by have := hb1.size; simp at this; omega
      have hz0 : w.heap.size < w1.heap.size := by omega
      obtain ⟨hc1, _⟩ := bcell hb1
      unfold maxLen at hli hlp
      have hask := Hcnt.out _ _ hb1
      have hbs := Bst.out _ _ _ (.cells #[.int .i64 a, .int .i64 b, .int .i64 c] 118) hb1
      have hba := (Below.refl w1.heap.size w1).alloc (Nat.le_refl _) (.cells #[.int .i64 a, .int .i64 b, .int .i64 c] 118)
      go_wp2_with fail
      cases hin : n.ins.all (withinB (-1) (count - 1)) with
      | false =>
        have Hs : Hid (oneS n count = 8) := by show _ = _; simp [oneS, Hof.out, Har.out, hin]
        refine (all_any _ _ _ n.ins _ (hi.up hbs) (hask.up hba) hli'.out).mono ?_
        rintro e w2 ⟨rfl, hb2⟩
        rw [hin]
        clear hin
        go_wp2_with fail
        go_ret
        exact ⟨ret_int Hs.out.symm, later_below hbs hb2⟩
      | true =>
        have Hin := Lib.hid hin
        refine (all_any _ _ _ n.ins _ (hi.up hbs) (hask.up hba) hli'.out).mono ?_
        rintro e w2 ⟨rfl, hb2⟩
        rw [hin]
        clear hin
        have hbs2 := later_below hbs hb2
        have hz2 : w.heap.size < w2.heap.size := by have := hb2.size; simp at this; omega
        have hc2 : ∀ o, w2.cell? ⟨w.heap.size, o, none⟩ = w1.cell? ⟨w.heap.size, o, none⟩ := fun o => by
          rw [hb2.cell (p := ⟨w.heap.size, o, none⟩) (by simp; omega), hba.cell (p := ⟨w.heap.size, o, none⟩) hz0]
        go_wp2_with fail
        cases hbo : boundsB n with
        | false =>
          have Hs : Hid (oneS n count = 3) := by show _ = _; simp [oneS, Hof.out, Har.out, Hin.out, hbo]
          refine (bounds_any _ _ _ n (hp.up hbs2) (by rw [Hof.out]) Hlc.out).mono ?_
          rintro e w3 ⟨rfl, hb3⟩
          rw [hbo]
          clear hbo
          go_wp2_with fail
          go_ret
          exact ⟨ret_int Hs.out.symm, later_below hbs2 hb3⟩
        | true =>
          have Hs : Hid (oneS n count = 0) := by show _ = _; simp [oneS, Hof.out, Har.out, Hin.out, hbo]
          refine (bounds_any _ _ _ n (hp.up hbs2) (by rw [Hof.out]) Hlc.out).mono ?_
          rintro e w3 ⟨rfl, hb3⟩
          rw [hbo]
          clear hbo
          go_wp2_with fail
          go_ret
          exact ⟨ret_int Hs.out.symm, later_below hbs2 hb3⟩

end Go.Proofs.Ytpbmfalokongfaa

/- The node check, whole. -/
set_option maxRecDepth 100000
namespace Go.Proofs.Ytpbmfalokongfaa
open Go.RowKit Go.Gou

/-- The first node that may not be says why. -/
def firstBad (count : Int) : List GNode → Int
  | [] => 0
  | n :: l => if oneS n count = 0 then firstBad count l else oneS n count

noncomputable def checkS (g : Gr) : Int :=
  if g.nodes.length = 0 ∨ 256 < g.nodes.length then 3
  else if firstBad g.nodes.length g.nodes ≠ 0 then firstBad g.nodes.length g.nodes
  else if g.out < 0 ∨ (g.nodes.length : Int) ≤ g.out then 8
  else if roundB g = true then 6 else 0

/-- A filter whose numbers are numbers of the machine. -/
structure GrWf (g : Gr) : Prop where
  op : ∀ n ∈ g.nodes, (Lit.int .i64 n.op).wf = true
  ins : ∀ n ∈ g.nodes, ∀ x ∈ n.ins, (Lit.int .i64 x).wf = true
  ps : ∀ n ∈ g.nodes, ∀ x ∈ n.ps, (Lit.int .i64 x).wf = true
  out : (Lit.int .i64 g.out).wf = true
  insl : ∀ n ∈ g.nodes, n.ins.length ≤ maxLen
  psl : ∀ n ∈ g.nodes, n.ps.length ≤ maxLen
  len : g.nodes.length ≤ maxLen

theorem firstBad_zero {count : Int} {l : List GNode} (h : firstBad count l = 0) : ∀ n ∈ l, oneS n count = 0 := by
  induction l with
  | nil => simp
  | cons a l ih =>
    unfold firstBad at h
    split at h
    · rename_i h0
      intro n hn
      rcases List.mem_cons.1 hn with rfl | hn
      · exact h0
      · exact ih h n hn
    · rename_i h0
      exact absurd h h0

theorem firstBad_take {count : Int} {l : List GNode} {k : Nat} (hk : k < l.length) (h : firstBad count (l.take k) = 0) : firstBad count (l.take (k + 1)) = oneS l[k] count ∧ (oneS l[k] count ≠ 0 → firstBad count l = oneS l[k] count) := by
  induction l generalizing k with
  | nil => simp at hk
  | cons a l ih =>
    cases k with
    | zero =>
      constructor
      · simp only [List.take_succ_cons, List.take_zero, firstBad, List.getElem_cons_zero]
        split
        · rename_i h0; exact h0.symm
        · rfl
      · intro hne
        simp only [List.getElem_cons_zero] at hne
        simp [firstBad, hne]
    | succ k =>
      simp only [List.take_succ_cons, firstBad] at h
      split at h
      · rename_i h0
        obtain ⟨h1, h2⟩ := ih (by simpa using hk) h
        constructor
        · rw [List.take_succ_cons]
          unfold firstBad
          rw [if_pos h0]
          simpa using h1
        · intro hne
          unfold firstBad
          rw [if_pos h0]
          simpa using h2 (by simpa using hne)
      · rename_i h0
        exact absurd h h0

theorem oneS_zero {n : GNode} {count : Int} (h : oneS n count = 0) : (ofS n.op).2 = true ∧ aritB n = false ∧ n.ins.all (withinB (-1) (count - 1)) = true ∧ boundsB n = true := by
  unfold oneS at h
  split at h
  · omega
  · rename_i h1
    split at h
    · omega
    · rename_i h2
      split at h
      · omega
      · rename_i h3
        split at h
        · omega
        · rename_i h4
          exact ⟨by simpa using h1, by simpa using h2, by simpa using h3, by simpa using h4⟩

theorem ite_ok {α : Type} {P : α → Prop} {c : Prop} [Decidable c] {a b : α} (ha : P a) (hb : P b) : P (if c then a else b) := by
  split
  · exact ha
  · exact hb

def MostOk (r : (Int × Int × Int) × Bool) : Prop := r.1.2.1 ≤ 8 ∧ 0 ≤ r.1.2.2 ∧ r.1.2.2 ≤ 20

theorem ofS_most (op : Int) : MostOk (ofS op) := by
  unfold ofS
  repeat (refine ite_ok (by unfold MostOk; decide) ?_)
  unfold MostOk
  decide

theorem oneS_ins {n : GNode} {count : Int} (h : oneS n count = 0) : n.ins.length ≤ 8 := by
  have := (oneS_zero h).2.1
  simp only [aritB, Bool.or_eq_false_iff, decide_eq_false_iff_not] at this
  have h2 : (ofS n.op).1.2.1 ≤ 8 := (ofS_most n.op).1
  omega

/-- What stands at the label 'over': the answer in its slot. -/
def OverC (w : World) (c : Int) (a : Act) (w' : World) : Prop :=
  ∃ u0 u1 u2 u4 u5 u6 u7 u8 u9 u10 u11 u12 u13 u14 u15 u16 u17 u18 u19 u20 u21 u22 u23 u24 u25 u26 u27 u28 u29 u30 u31 u32 u33 u34 u35 u36 u37 u38 u39 u40 u41 u42 u43 u44 u45 : Value, a = { tmps := #[u0, u1, u2, .int .i64 c, u4, u5, u6, u7, u8, u9, u10, u11, u12, u13, u14, u15, u16, u17, u18, u19, u20, u21, u22, u23, u24, u25, u26, u27, u28, u29, u30, u31, u32, u33, u34, u35, u36, u37, u38, u39, u40, u41, u42, u43, u44, u45], defers := [] } ∧ Below w.heap.size w w'
def Over (w : World) (g : Gr) (a : Act) (w' : World) : Prop := OverC w (checkS g) a w'
theorem over_of {w w' : World} {g : Gr} {c : Int} {a : Act} (h : checkS g = c) (ho : OverC w c a w') : Over w g a w' := by
  unfold Over
  rw [h]
  exact ho

set_option maxHeartbeats 2000000 in
theorem check_any (w : World) (v : Value) (g : Gr) (hg : GrV w v g) (hwf : GrWf g) :
    Calls Try.prog 61 #[v] w fun e w' => e = .returned (.int .i64 (checkS g)) ∧ Below w.heap.size w w' := by
  have Hg := Lib.hid hg
  have Hwf := Lib.hid hwf
  obtain ⟨p, cap, rfl⟩ := hg.form
  have hmax := hwf.len
  unfold maxLen at hmax
  clear hg hwf
  have hb0 := (Below.refl w.heap.size w).alloc (Nat.le_refl _) (.cells #[.slice p g.nodes.length cap, .int .i64 g.out] 40)
  have Hb0 := Lib.hid hb0
  clear hb0
  go_enter Try.func61, Try.ntmps61
  go_wp2_with fail
  refine wp_scope_jumps 0 (Over w g) (fun _ _ => 0) rfl ?first ?pass
  case pass =>
    rintro a w' ⟨u0, u1, u2, u4, u5, u6, u7, u8, u9, u10, u11, u12, u13, u14, u15, u16, u17, u18, u19, u20, u21, u22, u23, u24, u25, u26, u27, u28, u29, u30, u31, u32, u33, u34, u35, u36, u37, u38, u39, u40, u41, u42, u43, u44, u45, rfl, hb⟩
    go_wp2
    simp only [Exit.jump]
    go_ret
    exact ⟨rfl, hb⟩
  case first =>
    by_cases h0 : g.nodes.length = 0
    · have hs : checkS g = 3 := by unfold checkS; rw [if_pos (.inl h0)]
      have Hs := Lib.hid hs
      have e0 : ((g.nodes.length : Int) == 0) = true := by rw [h0]; rfl
      clear h0 hs
      go_wp2_with fail
      go_step3
      simp only [Exit.then, Exit.jump]
      exact ⟨by first | trivial | rfl, over_of Hs.out ⟨_, _, _, _, _, _, _, _, _, _, _, _, _, _, _, _, _, _, _, _, _, _, _, _, _, _, _, _, _, _, _, _, _, _, _, _, _, _, _, _, _, _, _, _, _, rfl, Hb0.out⟩⟩
    · have e0 : ((g.nodes.length : Int) == 0) = false := beq_eq_false_iff_ne.2 (by omega)
      by_cases h256 : 256 < g.nodes.length
      · have hs : checkS g = 3 := by unfold checkS; rw [if_pos (.inr h256)]
        have Hs := Lib.hid hs
        clear h0 hs
        go_wp2_with fail
        go_step3
        simp only [Exit.then, Exit.jump]
        exact ⟨by first | trivial | rfl, over_of Hs.out ⟨_, _, _, _, _, _, _, _, _, _, _, _, _, _, _, _, _, _, _, _, _, _, _, _, _, _, _, _, _, _, _, _, _, _, _, _, _, _, _, _, _, _, _, _, _, rfl, Hb0.out⟩⟩
      · have hcs : checkS g = if firstBad g.nodes.length g.nodes ≠ 0 then firstBad g.nodes.length g.nodes else if g.out < 0 ∨ (g.nodes.length : Int) ≤ g.out then 8 else if roundB g = true then 6 else 0 := by
          unfold checkS; rw [if_neg (by omega)]
        have Hcs := Lib.hid hcs
        clear hcs
        go_wp2_with fail
        go_loopw [3, 19] (fun c i wr => ∃ k : Nat, i = .int .i64 k ∧ k ≤ g.nodes.length ∧ firstBad g.nodes.length (g.nodes.take k) = 0 ∧ Below (w.heap.size + 1) (w.alloc (.cells #[.slice p g.nodes.length cap, .int .i64 g.out] 40)) wr) (fun _ i _ => g.nodes.length - (intOf i).toNat)
        case atStart => exact ⟨0, rfl, Nat.zero_le _, rfl, Below.refl _ _⟩
        case round =>
          obtain ⟨k, rfl, hk, hfb, hb⟩ := hrel
          have hc0' : wr.cell? ⟨w.heap.size, 0, none⟩ = some (.slice p g.nodes.length cap) := by rw [hb.cell (p := ⟨w.heap.size, 0, none⟩) (by simp)]; simp [go_sem]
          have hc1' : wr.cell? ⟨w.heap.size, 1, none⟩ = some (.int .i64 g.out) := by rw [hb.cell (p := ⟨w.heap.size, 1, none⟩) (by simp)]; simp [go_sem]
          have hzr : w.heap.size < wr.heap.size := by have := hb.size; simp at this; omega
          have hbw : Below w.heap.size w wr := Hb0.out.trans (hb.mono (by omega))
          have Hb := Lib.hid hb
          have Hbw := Lib.hid hbw
          clear hb hbw
          by_cases hlt : k < g.nodes.length
          · obtain ⟨vn, hvn, hns⟩ := Hg.out
            simp only [Value.agg.injEq, Array.mk.injEq, List.cons.injEq, and_true] at hvn
            subst hvn
            obtain ⟨p', cap', hp', _, hp⟩ := hns
            simp only [Value.slice.injEq, true_and] at hp'
            obtain ⟨rfl, rfl⟩ := hp'
            rcases hp with hp | ⟨b, o, rfl, hbb, hc⟩
            · rw [hp] at hlt; simp at hlt
            obtain ⟨vi, vp, k0, k1, k2, hi, hps⟩ := hc k hlt
            obtain ⟨pi, ci, rfl⟩ := hi.len
            obtain ⟨pp, cp, rfl⟩ := hps.len
            rw [← Hbw.out.cell (p := ⟨b, _, none⟩) hbb] at k0 k1 k2
            have hft := firstBad_take hlt hfb
            have hone := fun (wx : World) (hbx : Below w.heap.size w wx) => one_any wx _ g.nodes[k] (g.nodes.length : Int) ⟨_, _, rfl, hi.up hbx, hps.up hbx⟩ (Hwf.out.insl _ (List.getElem_mem hlt)) (Hwf.out.psl _ (List.getElem_mem hlt))
            have Hone := Lib.hid hone
            have Hft := Lib.hid hft
            clear hone hft hc hi hps hfb
            generalize hnk : g.nodes[k] = nk at *
            have Hnk := Lib.hid hnk
            clear hnk
            generalize nk.ins.length = li at *
            generalize nk.ps.length = lp at *
            go_wp2_with fail
            refine (Hone.out _ (Hbw.out.alloc (by omega) _)).mono ?_
            rintro e w3 ⟨rfl, hb3⟩
            have hb3' : Below (w.heap.size + 1) (w.alloc (.cells #[.slice (some ⟨b, o, none⟩) g.nodes.length cap, .int .i64 g.out] 40)) w3 := (Hb.out.alloc (by omega) _).trans (hb3.mono (by simp; omega))
            have Hb3 := Lib.hid hb3'
            clear hb3 hb3'
            by_cases hz : oneS nk g.nodes.length = 0
            · have hf1 : firstBad g.nodes.length (g.nodes.take (k + 1)) = 0 := by rw [Hft.out.1]; exact hz
              have Hf1 := Lib.hid hf1
              rw [hz]
              clear hz hf1
              go_wp2_with fail
              go_roundw
              case rel => exact ⟨k + 1, by go_num, by omega, Hf1.out, Hb3.out⟩
              case measure => simp [intOf]; omega
            · have hne : (oneS nk g.nodes.length != 0) = true := by rw [bne_iff_ne]; exact hz
              have hs : checkS g = oneS nk g.nodes.length := by
                have h1 := Hft.out.2 hz
                rw [Hcs.out, h1, if_pos hz]
              have Hs := Lib.hid hs
              clear hz hs
              have hbf : Below w.heap.size w w3 := ((Below.refl _ _).alloc (Nat.le_refl _) _).trans (Hb3.out.mono (by omega))
              have Hbf := Lib.hid hbf
              clear hbf
              go_wp2_with fail
              go_step3
              simp only [Exit.then, Exit.inBlock, Exit.jump]
              exact ⟨by first | trivial | rfl, over_of Hs.out ⟨_, _, _, _, _, _, _, _, _, _, _, _, _, _, _, _, _, _, _, _, _, _, _, _, _, _, _, _, _, _, _, _, _, _, _, _, _, _, _, _, _, _, _, _, _, rfl, Hbf.out⟩⟩
          · have hall : firstBad g.nodes.length g.nodes = 0 := by rw [List.take_of_length_le (by omega)] at hfb; exact hfb
            have hcs2 : checkS g = if g.out < 0 ∨ (g.nodes.length : Int) ≤ g.out then 8 else if roundB g = true then 6 else 0 := by
              rw [Hcs.out, if_neg (by rw [hall]; simp)]
            have Hcs2 := Lib.hid hcs2
            have Hall := Lib.hid hall
            clear hcs2 hall hfb Hcs
            by_cases ho : g.out < 0
            · have hs : checkS g = 8 := by rw [Hcs2.out, if_pos (.inl ho)]
              have Hs := Lib.hid hs
              clear hs
              go_wp2_with fail
              go_step3
              simp only [Exit.then, Exit.inBlock, Exit.jump]
              exact ⟨by first | trivial | rfl, over_of Hs.out ⟨_, _, _, _, _, _, _, _, _, _, _, _, _, _, _, _, _, _, _, _, _, _, _, _, _, _, _, _, _, _, _, _, _, _, _, _, _, _, _, _, _, _, _, _, _, rfl, Hbw.out⟩⟩
            · by_cases ho2 : (g.nodes.length : Int) ≤ g.out
              · have hs : checkS g = 8 := by rw [Hcs2.out, if_pos (.inr ho2)]
                have Hs := Lib.hid hs
                clear hs
                go_wp2_with fail
                go_step3
                simp only [Exit.then, Exit.inBlock, Exit.jump]
                exact ⟨by first | trivial | rfl, over_of Hs.out ⟨_, _, _, _, _, _, _, _, _, _, _, _, _, _, _, _, _, _, _, _, _, _, _, _, _, _, _, _, _, _, _, _, _, _, _, _, _, _, _, _, _, _, _, _, _, rfl, Hbw.out⟩⟩
              · have hs : checkS g = if roundB g = true then 6 else 0 := by rw [Hcs2.out, if_neg (by omega)]
                have hgok : GrOk g := ⟨by omega, fun n hn => by have := oneS_ins (firstBad_zero Hall.out n hn); omega, Hwf.out.ins⟩
                have hrd := round_any wr _ g (Hg.out.up Hbw.out) hgok
                have Hs := Lib.hid hs
                have Hrd := Lib.hid hrd
                clear hs hgok hrd
                cases hr : roundB g with
                | true =>
                  have hs6 : checkS g = 6 := by rw [Hs.out, if_pos hr]
                  have Hs6 := Lib.hid hs6
                  clear hs6
                  rw [hr] at Hrd
                  clear hr
                  go_wp2_with fail
                  refine (Hrd.out).mono ?_
                  rintro e w4 ⟨rfl, hb4⟩
                  have hbf := Hbw.out.trans (hb4.mono Hbw.out.size)
                  have Hbf := Lib.hid hbf
                  clear hbf hb4
                  go_wp2_with fail
                  go_step3
                  go_wp2_with fail
                  simp only [Exit.jump]
                  go_ret
                  exact ⟨ret_int Hs6.out.symm, Hbf.out⟩
                | false =>
                  have hs0 : checkS g = 0 := by rw [Hs.out, if_neg (by rw [hr]; simp)]
                  have Hs0 := Lib.hid hs0
                  clear hs0
                  rw [hr] at Hrd
                  clear hr
                  go_wp2_with fail
                  refine (Hrd.out).mono ?_
                  rintro e w4 ⟨rfl, hb4⟩
                  have hbf := Hbw.out.trans (hb4.mono Hbw.out.size)
                  have Hbf := Lib.hid hbf
                  clear hbf hb4
                  go_wp2_with fail
                  go_step3
                  go_wp2_with fail
                  simp only [Exit.jump]
                  go_ret
                  exact ⟨ret_int Hs0.out.symm, Hbf.out⟩

end Go.Proofs.Ytpbmfalokongfaa

/- Scenes: contents that are right, in the code. -/
namespace Go.Gou
open Go.RowKit
set_option linter.constructorNameAsVariable false
instance instInhPxl : Inhabited Pxl := ⟨Pxl.zero⟩
theorem pxs_row (ps : List Pxl) : ∀ (j : Nat), j < ps.length → ∀ (i : Nat) (v : Value), (Pxl.cells ps[j]!)[i]? = some v → (pxs ps)[j * 4 + i]? = some v := by
  induction ps with
  | nil => intro j h; simp at h
  | cons p r ih =>
    intro j h i v hv
    have e : pxs (p :: r) = p.cells ++ pxs r := by simp [pxs]
    have hl : p.cells.length = 4 := rfl
    rw [e]
    cases j with
    | zero =>
      have hi := (List.getElem?_eq_some_iff.1 hv).1
      have hi4 : i < 4 := hi
      rw [List.getElem?_append_left (by omega), Nat.zero_mul, Nat.zero_add]
      exact hv
    | succ j =>
      rw [List.getElem?_append_right (by omega), hl, show (j + 1) * 4 + i - 4 = j * 4 + i by omega]
      exact ih j (by simpa using h) i v hv
theorem PixR.row {G : Nat → Prop} {w : World} {p : Option Addr} {n c : Nat} {ps : List Pxl} (h : RowG G w 4 (.slice p n c) ps.length (pxs ps)) (h0 : 0 < ps.length) : ∃ b o, p = some ⟨b, o, none⟩ ∧ b < w.heap.size ∧ ∀ j, j < ps.length → ∀ i v, (Pxl.cells ps[j]!)[i]? = some v → w.cell? ⟨b, o + j * 4 + i, none⟩ = some v := by
  obtain ⟨_, p', cap, e, _, h⟩ := h
  simp only [Value.slice.injEq] at e
  obtain ⟨rfl, -, -⟩ := e
  rcases h with h | ⟨b, o, rfl, hb, _, hc⟩
  · omega
  · refine ⟨b, o, rfl, hb, fun j hj i v hv => ?_⟩
    have := hc _ _ (pxs_row ps j hj i v hv)
    rwa [← Nat.add_assoc] at this
theorem RowG.ints {G : Nat → Prop} {w : World} {v : Value} {xs : List Int} (h : IntsR G w v xs) : IntsAt w.heap.size w v xs := by
  obtain ⟨_, p, cap, rfl, hcap, h⟩ := h
  refine ⟨p, cap, rfl, hcap, ?_⟩
  rcases h with h | ⟨b, o, rfl, hb, _, hc⟩
  · exact .inl (List.length_eq_zero_iff.1 h)
  · exact .inr ⟨b, o, rfl, hb, fun i hi => hc i _ (by simp [ivs, hi])⟩
theorem NodesR.at_ {G : Nat → Prop} {w : World} {v : Value} {ns : List GNode} (h : NodesR G w v ns) : NodesAt w.heap.size w v ns := by
  obtain ⟨cs, ⟨_, p, cap, rfl, hcap, h⟩, h2, h3⟩ := h
  refine ⟨p, cap, rfl, hcap, ?_⟩
  rcases h with h | ⟨b, o, rfl, hb, _, hc⟩
  · exact .inl (List.length_eq_zero_iff.1 h)
  · refine .inr ⟨b, o, rfl, hb, fun i hi => ?_⟩
    obtain ⟨vi, vp, g0, g1, g2, g3, g4⟩ := h3 i hi
    exact ⟨vi, vp, hc _ _ g0, by have := hc _ _ g1; rwa [← Nat.add_assoc] at this, by have := hc _ _ g2; rwa [← Nat.add_assoc] at this, RowG.ints g3, RowG.ints g4⟩
theorem Ct.right2_bad {c : Ct} (hk : c.kind = 2) (h : c.w < 1 ∨ c.h < 1 ∨ 4096 < c.w ∨ 4096 < c.h ∨ 65536 < c.w * c.h ∨ (c.pix.length : Int) ≠ c.w * c.h ∨ c.turn < 0 ∨ 3 < c.turn ∨ nearB c.box.x0 = false ∨ nearB c.box.y0 = false) : c.rightB = false := by
  unfold Ct.rightB
  rw [if_neg (by omega), if_pos hk]
  rcases h with h | h | h | h | h | h | h | h | h | h
  · rw [decide_eq_true h]; simp
  · rw [decide_eq_true h]; simp
  · rw [decide_eq_true h]; simp
  · rw [decide_eq_true h]; simp
  · rw [decide_eq_true h]; simp
  · rw [decide_eq_true h]; simp
  · rw [decide_eq_true h]; simp
  · rw [decide_eq_true h]; simp
  · rw [h]; simp
  · rw [h]; simp
theorem Ct.right2_ok {c : Ct} (hk : c.kind = 2) (h1 : ¬ c.w < 1) (h2 : ¬ c.h < 1) (h3 : ¬ 4096 < c.w) (h4 : ¬ 4096 < c.h) (h5 : ¬ 65536 < c.w * c.h) (h6 : (c.pix.length : Int) = c.w * c.h) (h7 : ¬ c.turn < 0) (h8 : ¬ 3 < c.turn) (h9 : nearB c.box.x0 = true) (h10 : nearB c.box.y0 = true) : c.rightB = c.pix.all Pxl.rightB := by
  unfold Ct.rightB
  rw [if_neg (by omega), if_pos hk, decide_eq_false h1, decide_eq_false h2, decide_eq_false h3, decide_eq_false h4, decide_eq_false h5, decide_eq_false (fun hh => hh h6), decide_eq_false h7, decide_eq_false h8, h9, h10]
  simp
theorem Ct.right1 {c : Ct} (hk : c.kind = 1) : c.rightB = (c.box.nearB && c.px.rightB) := by
  unfold Ct.rightB
  rw [if_pos hk]
theorem Ct.right0 {c : Ct} (hk : c.kind = 0) : c.rightB = true := by
  unfold Ct.rightB
  rw [if_neg (by omega), if_neg (by omega), hk]
  rfl
theorem mul_small {a b : Int} (h1 : ¬ a < 1) (h2 : ¬ b < 1) (h3 : ¬ 4096 < a) (h4 : ¬ 4096 < b) : IntKind.i64.wrap (a * b) = a * b := by
  have h5 : 1 * 1 ≤ a * b := Int.mul_le_mul (by omega) (by omega) (by omega) (by omega)
  have h6 : a * b ≤ 4096 * 4096 := Int.mul_le_mul (by omega) (by omega) (by omega) (by omega)
  rw [IntKind.wrap_i64]
  generalize a * b = x at *
  omega
end Go.Gou
namespace Go.Proofs.Ytpbmfalokongfaa
open Go.RowKit Go.Gou Go.Lib
set_option maxRecDepth 100000
set_option linter.constructorNameAsVariable false

theorem toneRight_any (p : Pxl) (w : World) : Calls Try.prog 58 #[.agg (Pxl.cells p).toArray] w fun e w' => e = .returned (.bool p.rightB) ∧ Gou.Mod (fun _ => False) w w' := by
  have Hb : Hid (p.rightB = (decide (p.p0 ≤ p.p3) && (decide (p.p1 ≤ p.p3) && decide (p.p2 ≤ p.p3)))) := Lib.hid rfl
  have HB := Lib.hid (Blk.new w 34 #[Value.int .u8 ((p.p0 : Nat) : Int), Value.int .u8 ((p.p1 : Nat) : Int), Value.int .u8 ((p.p2 : Nat) : Int), Value.int .u8 ((p.p3 : Nat) : Int)])
  have HM := Lib.hid (Gou.Mod.alloc0 w (.cells #[Value.int .u8 ((p.p0 : Nat) : Int), Value.int .u8 ((p.p1 : Nat) : Int), Value.int .u8 ((p.p2 : Nat) : Int), Value.int .u8 ((p.p3 : Nat) : Int)] 34))
  show Calls Try.prog 58 #[.agg #[Value.int .u8 ((p.p0 : Nat) : Int), Value.int .u8 ((p.p1 : Nat) : Int), Value.int .u8 ((p.p2 : Nat) : Int), Value.int .u8 ((p.p3 : Nat) : Int)]] w _
  go_enter Try.func58, Try.ntmps58
  go_upto_region 1 with fail
  generalize w.alloc (.cells #[Value.int .u8 ((p.p0 : Nat) : Int), Value.int .u8 ((p.p1 : Nat) : Int), Value.int .u8 ((p.p2 : Nat) : Int), Value.int .u8 ((p.p3 : Nat) : Int)] 34) = W1 at *
  have c0 : W1.cell? ⟨w.heap.size, 0, none⟩ = some (.int .u8 ((p.p0 : Nat) : Int)) := HB.out.cell 0 rfl
  have c1 : W1.cell? ⟨w.heap.size, 1, none⟩ = some (.int .u8 ((p.p1 : Nat) : Int)) := HB.out.cell 1 rfl
  have c2 : W1.cell? ⟨w.heap.size, 2, none⟩ = some (.int .u8 ((p.p2 : Nat) : Int)) := HB.out.cell 2 rfl
  have c3 : W1.cell? ⟨w.heap.size, 3, none⟩ = some (.int .u8 ((p.p3 : Nat) : Int)) := HB.out.cell 3 rfl
  by_cases h0 : p.p0 ≤ p.p3
  · have e0 : decide (((p.p0 : Nat) : Int) ≤ ((p.p3 : Nat) : Int)) = true := decide_eq_true (by omega)
    by_cases h1 : p.p1 ≤ p.p3
    · have e1 : decide (((p.p1 : Nat) : Int) ≤ ((p.p3 : Nat) : Int)) = true := decide_eq_true (by omega)
      by_cases h2 : p.p2 ≤ p.p3
      · have e2 : decide (((p.p2 : Nat) : Int) ≤ ((p.p3 : Nat) : Int)) = true := decide_eq_true (by omega)
        go_wp2_with fail
        go_ret
        exact ⟨by rw [Hb.out]; simp [*], HM.out⟩
      · have e2 : decide (((p.p2 : Nat) : Int) ≤ ((p.p3 : Nat) : Int)) = false := decide_eq_false (by omega)
        go_wp2_with fail
        go_ret
        exact ⟨by rw [Hb.out]; simp [*], HM.out⟩
    · have e1 : decide (((p.p1 : Nat) : Int) ≤ ((p.p3 : Nat) : Int)) = false := decide_eq_false (by omega)
      go_wp2_with fail
      go_ret
      exact ⟨by rw [Hb.out]; simp [*], HM.out⟩
  · have e0 : decide (((p.p0 : Nat) : Int) ≤ ((p.p3 : Nat) : Int)) = false := decide_eq_false (by omega)
    go_wp2_with fail
    go_ret
    exact ⟨by rw [Hb.out]; simp [*], HM.out⟩

theorem content1_any (p : Pxl) (w : World) : Calls Try.prog 60 #[.agg (Pxl.cells p).toArray] w fun e w' => e = .returned (.bool (!p.rightB)) ∧ Gou.Mod (fun _ => False) w w' := by
  have HB := Lib.hid (Blk.new w 34 #[Value.int .u8 ((p.p0 : Nat) : Int), Value.int .u8 ((p.p1 : Nat) : Int), Value.int .u8 ((p.p2 : Nat) : Int), Value.int .u8 ((p.p3 : Nat) : Int)])
  have HM := Lib.hid (Gou.Mod.alloc0 w (.cells #[Value.int .u8 ((p.p0 : Nat) : Int), Value.int .u8 ((p.p1 : Nat) : Int), Value.int .u8 ((p.p2 : Nat) : Int), Value.int .u8 ((p.p3 : Nat) : Int)] 34))
  show Calls Try.prog 60 #[.agg #[Value.int .u8 ((p.p0 : Nat) : Int), Value.int .u8 ((p.p1 : Nat) : Int), Value.int .u8 ((p.p2 : Nat) : Int), Value.int .u8 ((p.p3 : Nat) : Int)]] w _
  go_enter Try.func60, Try.ntmps60
  go_upto_region 1 with fail
  generalize w.alloc (.cells #[Value.int .u8 ((p.p0 : Nat) : Int), Value.int .u8 ((p.p1 : Nat) : Int), Value.int .u8 ((p.p2 : Nat) : Int), Value.int .u8 ((p.p3 : Nat) : Int)] 34) = W1 at *
  have c0 : W1.cell? ⟨w.heap.size, 0, none⟩ = some (.int .u8 ((p.p0 : Nat) : Int)) := HB.out.cell 0 rfl
  have c1 : W1.cell? ⟨w.heap.size, 1, none⟩ = some (.int .u8 ((p.p1 : Nat) : Int)) := HB.out.cell 1 rfl
  have c2 : W1.cell? ⟨w.heap.size, 2, none⟩ = some (.int .u8 ((p.p2 : Nat) : Int)) := HB.out.cell 2 rfl
  have c3 : W1.cell? ⟨w.heap.size, 3, none⟩ = some (.int .u8 ((p.p3 : Nat) : Int)) := HB.out.cell 3 rfl
  go_wp2_with fail
  refine (toneRight_any p _).mono ?_
  rintro e w2 ⟨rfl, hm2⟩
  have HM2 := Lib.hid (HM.out.trans' hm2)
  clear hm2 c0 c1 c2 c3
  go_wp2_with fail
  go_ret
  exact ⟨rfl, HM2.out⟩

theorem corners_any (r : Rc) (w : World) : Calls Try.prog 36 #[.agg #[Value.int .i64 r.x0, Value.int .i64 r.y0, Value.int .i64 r.x1, Value.int .i64 r.y1]] w fun e w' => e = .returned (.bool r.nearB) ∧ Gou.Mod (fun _ => False) w w' := by
  have HB := Lib.hid (Blk.new w 32 #[Value.int .i64 r.x0, Value.int .i64 r.y0, Value.int .i64 r.x1, Value.int .i64 r.y1])
  have HM := Lib.hid (Gou.Mod.alloc0 w (.cells #[Value.int .i64 r.x0, Value.int .i64 r.y0, Value.int .i64 r.x1, Value.int .i64 r.y1] 32))
  go_enter Try.func36, Try.ntmps36
  go_upto_region 1 with fail
  generalize w.alloc (.cells #[Value.int .i64 r.x0, Value.int .i64 r.y0, Value.int .i64 r.x1, Value.int .i64 r.y1] 32) = W1 at *
  have c0 : W1.cell? ⟨w.heap.size, 0, none⟩ = some (.int .i64 r.x0) := HB.out.cell 0 rfl
  have c1 : W1.cell? ⟨w.heap.size, 1, none⟩ = some (.int .i64 r.y0) := HB.out.cell 1 rfl
  have c2 : W1.cell? ⟨w.heap.size, 2, none⟩ = some (.int .i64 r.x1) := HB.out.cell 2 rfl
  have c3 : W1.cell? ⟨w.heap.size, 3, none⟩ = some (.int .i64 r.y1) := HB.out.cell 3 rfl
  go_wp2_with fail
  have HN := Lib.hid (Blk.new W1 3 #[Value.int .i64 r.x0, Value.int .i64 r.y0, Value.int .i64 r.x1, Value.int .i64 r.y1])
  refine (nearL_any _ W1.heap.size 4 4 [r.x0, r.y0, r.x1, r.y1] rfl (by omega) (fun j hj => ?_)).mono ?_
  · match j, hj with
    | 0, _ => exact HN.out.cell 0 rfl
    | 1, _ => exact HN.out.cell 1 rfl
    | 2, _ => exact HN.out.cell 2 rfl
    | 3, _ => exact HN.out.cell 3 rfl
  · rintro e w2 ⟨rfl, hm2⟩
    have HM2 := Lib.hid (HM.out.trans' ((Gou.Mod.alloc0 W1 _).trans' hm2))
    clear hm2 c0 c1 c2 c3
    go_wp2_with fail
    go_ret
    exact ⟨by simp [Rc.nearB, List.all], HM2.out⟩

set_option maxHeartbeats 4000000 in
theorem content_any (w : World) (c : Ct) (vp : Value) (h : PixR (fun _ => True) w vp c.pix) (hn : c.pix.length ≤ 1000000) (hk0 : 0 ≤ c.kind) (hk2 : c.kind ≤ 2) :
    Calls Try.prog 51 #[.agg (contC c vp)] w fun e w' => e = .returned (.bool c.rightB) ∧ Gou.Mod (fun _ => False) w w' := by
  obtain ⟨pp, cp, rfl⟩ := RowG.slice h
  have HB := Lib.hid (Blk.new w 37 (contC c (.slice pp c.pix.length cp)))
  have HM := Lib.hid (Gou.Mod.alloc0 w (.cells (contC c (.slice pp c.pix.length cp)) 37))
  have Hp := Lib.hid h
  have Hn := Lib.hid hn
  clear h hn
  go_enter Try.func51, Try.ntmps51
  go_upto_region 1 with fail
  generalize w.alloc (.cells (contC c (.slice pp c.pix.length cp)) 37) = W1 at *
  have c0 : W1.cell? ⟨w.heap.size, 0, none⟩ = some (.int .i64 c.kind) := HB.out.cell 0 rfl
  have c1 : W1.cell? ⟨w.heap.size, 1, none⟩ = some (.int .i64 c.box.x0) := HB.out.cell 1 rfl
  have c2 : W1.cell? ⟨w.heap.size, 2, none⟩ = some (.int .i64 c.box.y0) := HB.out.cell 2 rfl
  have c3 : W1.cell? ⟨w.heap.size, 3, none⟩ = some (.int .i64 c.box.x1) := HB.out.cell 3 rfl
  have c4 : W1.cell? ⟨w.heap.size, 4, none⟩ = some (.int .i64 c.box.y1) := HB.out.cell 4 rfl
  have c5 : W1.cell? ⟨w.heap.size, 5, none⟩ = some (.int .u8 ((c.px.p0 : Nat) : Int)) := HB.out.cell 5 rfl
  have c6 : W1.cell? ⟨w.heap.size, 6, none⟩ = some (.int .u8 ((c.px.p1 : Nat) : Int)) := HB.out.cell 6 rfl
  have c7 : W1.cell? ⟨w.heap.size, 7, none⟩ = some (.int .u8 ((c.px.p2 : Nat) : Int)) := HB.out.cell 7 rfl
  have c8 : W1.cell? ⟨w.heap.size, 8, none⟩ = some (.int .u8 ((c.px.p3 : Nat) : Int)) := HB.out.cell 8 rfl
  have c9 : W1.cell? ⟨w.heap.size, 9, none⟩ = some (.int .i64 c.w) := HB.out.cell 9 rfl
  have c10 : W1.cell? ⟨w.heap.size, 10, none⟩ = some (.int .i64 c.h) := HB.out.cell 10 rfl
  have c11 : W1.cell? ⟨w.heap.size, 11, none⟩ = some (.int .i64 c.turn) := HB.out.cell 11 rfl
  have c12 : W1.cell? ⟨w.heap.size, 12, none⟩ = some (.slice pp c.pix.length cp) := HB.out.cell 12 rfl
  by_cases k1 : c.kind = 1
  · have Hk := Lib.hid k1
    rw [k1] at c0
    clear hk0 hk2 k1 c9 c10 c11 c12
    go_wp2_with fail
    refine (corners_any c.box _).mono ?_
    rintro e w2 ⟨rfl, hm2⟩
    have HM2 := Lib.hid (HM.out.trans' hm2)
    have HB2 := Lib.hid (HB.out.up hm2)
    clear hm2 c0 c1 c2 c3 c4 c5 c6 c7 c8
    have c5 : w2.cell? ⟨w.heap.size, 5, none⟩ = some (.int .u8 ((c.px.p0 : Nat) : Int)) := HB2.out.cell 5 rfl
    have c6 : w2.cell? ⟨w.heap.size, 6, none⟩ = some (.int .u8 ((c.px.p1 : Nat) : Int)) := HB2.out.cell 6 rfl
    have c7 : w2.cell? ⟨w.heap.size, 7, none⟩ = some (.int .u8 ((c.px.p2 : Nat) : Int)) := HB2.out.cell 7 rfl
    have c8 : w2.cell? ⟨w.heap.size, 8, none⟩ = some (.int .u8 ((c.px.p3 : Nat) : Int)) := HB2.out.cell 8 rfl
    have Hr := Lib.hid (Ct.right1 Hk.out)
    generalize c.box.nearB = x at *
    cases x
    · go_wp2_with fail
      go_ret
      exact ⟨by rw [Hr.out]; rfl, HM2.out⟩
    · go_wp2_with fail
      refine (toneRight_any c.px _).mono ?_
      rintro e w3 ⟨rfl, hm3⟩
      have HM3 := Lib.hid (HM2.out.trans' hm3)
      clear hm3 c5 c6 c7 c8
      go_wp2_with fail
      go_ret
      exact ⟨by rw [Hr.out]; rfl, HM3.out⟩
  · have e1 : (c.kind == 1) = false := beq_eq_false_iff_ne.2 k1
    by_cases k2 : c.kind = 2
    · have Hk := Lib.hid k2
      rw [k2] at c0
      clear hk0 hk2 k1 e1 k2
      go_upto_region 5 with fail
      by_cases h0 : c.w < 1
      · have e0 : decide (c.w < 1) = true := decide_eq_true h0
        have Hbad : Hid (c.rightB = false) := Lib.hid (Ct.right2_bad Hk.out (.inl h0))
        go_wp2_with fail
        go_ret
        exact ⟨by rw [Hbad.out]; rfl, HM.out⟩
      · have e0 : decide (c.w < 1) = false := decide_eq_false h0
        by_cases h1 : c.h < 1
        · have e1 : decide (c.h < 1) = true := decide_eq_true h1
          have Hbad : Hid (c.rightB = false) := Lib.hid (Ct.right2_bad Hk.out (.inr (.inl h1)))
          go_wp2_with fail
          go_ret
          exact ⟨by rw [Hbad.out]; rfl, HM.out⟩
        · have e1 : decide (c.h < 1) = false := decide_eq_false h1
          by_cases h2 : 4096 < c.w
          · have e2 : decide (4096 < c.w) = true := decide_eq_true h2
            have Hbad : Hid (c.rightB = false) := Lib.hid (Ct.right2_bad Hk.out (.inr (.inr (.inl h2))))
            go_wp2_with fail
            go_ret
            exact ⟨by rw [Hbad.out]; rfl, HM.out⟩
          · have e2 : decide (4096 < c.w) = false := decide_eq_false h2
            by_cases h3 : 4096 < c.h
            · have e3 : decide (4096 < c.h) = true := decide_eq_true h3
              have Hbad : Hid (c.rightB = false) := Lib.hid (Ct.right2_bad Hk.out (.inr (.inr (.inr (.inl h3)))))
              go_wp2_with fail
              go_ret
              exact ⟨by rw [Hbad.out]; rfl, HM.out⟩
            · have e3 : decide (4096 < c.h) = false := decide_eq_false h3
              have hw := mul_small h0 h1 h2 h3
              by_cases h4 : 65536 < c.w * c.h
              · have e4 : decide (65536 < c.w * c.h) = true := decide_eq_true h4
                have Hbad : Hid (c.rightB = false) := Lib.hid (Ct.right2_bad Hk.out (.inr (.inr (.inr (.inr (.inl h4))))))
                go_wp2_with fail
                go_ret
                exact ⟨by rw [Hbad.out]; rfl, HM.out⟩
              · have e4 : decide (65536 < c.w * c.h) = false := decide_eq_false h4
                by_cases h5 : (c.pix.length : Int) = c.w * c.h
                · have e5 : (((c.pix.length : Nat) : Int) == c.w * c.h) = true := beq_iff_eq.2 h5
                  go_upto_region 7 with fail
                  by_cases h6 : c.turn < 0
                  · have e6 : decide (0 ≤ c.turn) = false := decide_eq_false (by omega)
                    have Hbad : Hid (c.rightB = false) := Lib.hid (Ct.right2_bad Hk.out (.inr (.inr (.inr (.inr (.inr (.inr (.inl h6))))))))
                    go_wp2_with fail
                    go_ret
                    exact ⟨by rw [Hbad.out]; rfl, HM.out⟩
                  · have e6 : decide (0 ≤ c.turn) = true := decide_eq_true (by omega)
                    by_cases h7 : 3 < c.turn
                    · have e7 : decide (c.turn ≤ 3) = false := decide_eq_false (by omega)
                      have Hbad : Hid (c.rightB = false) := Lib.hid (Ct.right2_bad Hk.out (.inr (.inr (.inr (.inr (.inr (.inr (.inr (.inl h7)))))))))
                      go_wp2_with fail
                      go_ret
                      exact ⟨by rw [Hbad.out]; rfl, HM.out⟩
                    · have e7 : decide (c.turn ≤ 3) = true := decide_eq_true (by omega)
                      have Hbad : Hid (nearB c.box.x0 = false ∨ nearB c.box.y0 = false → c.rightB = false) := Lib.hid (fun hh => Ct.right2_bad Hk.out (by rcases hh with hh | hh; exact .inr (.inr (.inr (.inr (.inr (.inr (.inr (.inr (.inl hh)))))))); exact .inr (.inr (.inr (.inr (.inr (.inr (.inr (.inr (.inr hh))))))))))
                      have Hgood : Hid (nearB c.box.x0 = true → nearB c.box.y0 = true → c.rightB = c.pix.all Pxl.rightB) := Lib.hid (fun a b => Ct.right2_ok Hk.out h0 h1 h2 h3 h4 h5 h6 h7 a b)
                      have Hpos : Hid (0 < c.pix.length) := Lib.hid (by have : 1 * 1 ≤ c.w * c.h := Int.mul_le_mul (by omega) (by omega) (by omega) (by omega); omega)
                      clear h0 h1 h2 h3 h4 h5 h6 h7 hw e0 e1 e2 e3 e4 e5
                      go_wp2_with fail
                      have HN := Lib.hid (Blk.new W1 3 #[Value.int .i64 c.box.x0, Value.int .i64 c.box.y0])
                      refine (nearL_any _ W1.heap.size 2 2 [c.box.x0, c.box.y0] rfl (by omega) (fun j hj => ?_)).mono ?_
                      · match j, hj with
                        | 0, _ => exact HN.out.cell 0 rfl
                        | 1, _ => exact HN.out.cell 1 rfl
                      rintro e w2 ⟨rfl, hm2⟩
                      have HM2 := Lib.hid (HM.out.trans' ((Gou.Mod.alloc0 W1 _).trans' hm2))
                      have HB2 := Lib.hid ((HB.out.up (Gou.Mod.alloc0 W1 _)).up hm2)
                      clear hm2 c0 c1 c2 c3 c4 c5 c6 c7 c8 c9 c10 c11 c12 HN
                      have Hnn : Hid ([c.box.x0, c.box.y0].all nearB = (nearB c.box.x0 && nearB c.box.y0)) := Lib.hid (by simp [List.all])
                      cases hx : [c.box.x0, c.box.y0].all nearB
                      · have Hx : Hid (c.rightB = false) := Lib.hid (Hbad.out (by rw [Hnn.out] at hx; cases ha : nearB c.box.x0; exact .inl rfl; rw [ha] at hx; exact .inr (by simpa using hx)))
                        clear hx
                        go_wp2_with fail
                        go_ret
                        exact ⟨by rw [Hx.out]; rfl, HM2.out⟩
                      · have Hx : Hid (c.rightB = c.pix.all Pxl.rightB) := Lib.hid (by rw [Hnn.out, Bool.and_eq_true] at hx; exact Hgood.out hx.1 hx.2)
                        clear hx
                        obtain ⟨pb, po, rfl, hpb, hpc⟩ := PixR.row Hp.out Hpos.out
                        have c12 : w2.cell? ⟨w.heap.size, 12, none⟩ = some (.slice (some ⟨pb, po, none⟩) c.pix.length cp) := HB2.out.cell 12 rfl
                        have Hpb := Lib.hid hpb
                        have Hpc := Lib.hid hpc
                        clear hpb hpc
                        go_wp2_with fail
                        refine (AnyQ.slices_ContainsFunc anyPx 4 Try.isAgg34 Try.sizeOf34 Pxl.cells (fun _ => rfl) (fun p => !p.rightB) 60 #[] (enters_of Try.func60 (by kernel_rfl) rfl) pb po c.pix.length cp c.pix w2 (fun W x hW => (content1_any x W).mono ?_) (Nat.le_refl _) (by have := Hn.out; omega) (by have := Hpb.out; have := HM2.out.size; omega) (fun j hj i v hv => (HM2.out.cell (p := ⟨pb, po + j * 4 + i, none⟩) Hpb.out (fun h => h)).trans (Hpc.out j hj i v hv))).mono ?_
                        · rintro e w3 ⟨rfl, hm3⟩
                          exact ⟨rfl, hW.trans (hm3.below hW.size (fun _ _ h => h))⟩
                        · rintro e w3 ⟨rfl, hb3⟩
                          have HM3 := Lib.hid (HM2.out.trans' (Gou.Mod.of_below hb3 _))
                          have Ha : Hid (((c.pix.take c.pix.length).any fun p => !p.rightB) = !c.pix.all Pxl.rightB) := Lib.hid (by rw [List.take_length, List.any_eq_not_all_not]; simp)
                          clear hb3 c12
                          rw [Ha.out]
                          go_wp2_with fail
                          go_ret
                          exact ⟨by rw [Hx.out]; simp, HM3.out⟩
                · have e5 : (((c.pix.length : Nat) : Int) == c.w * c.h) = false := beq_eq_false_iff_ne.2 h5
                  have Hbad : Hid (c.rightB = false) := Lib.hid (Ct.right2_bad Hk.out (.inr (.inr (.inr (.inr (.inr (.inl h5)))))))
                  go_wp2_with fail
                  go_ret
                  exact ⟨by rw [Hbad.out]; rfl, HM.out⟩
    · have e2 : (c.kind == 2) = false := beq_eq_false_iff_ne.2 k2
      have Hr := Lib.hid (Ct.right0 (c := c) (by omega))
      go_wp2_with fail
      go_ret
      exact ⟨by rw [Hr.out]; rfl, HM.out⟩

end Go.Proofs.Ytpbmfalokongfaa

