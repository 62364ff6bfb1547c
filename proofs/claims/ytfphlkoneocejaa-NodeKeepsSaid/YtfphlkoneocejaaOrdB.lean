/- order.Uses: for each node those that have it as an input. -/
import Derived.Test.YtfphlkoneocejaaOrdA
namespace Go.Proofs.Ytfphlkoneocejaa
open Go.RowKit Go.Gou

/-- A slice of n rows of ints, all of the call's own, in blocks apart. -/
structure RowsOwn (w : World) (base U n : Nat) (rows : Nat → List Int) (vs : List Value) : Prop where
  len : vs.length = n
  top : w.ownsRow base 25 1 (.slice (some ⟨U, 0, none⟩) n n) n vs
  row : ∀ k, k < n → w.ownsRow base 3 1 (vs.getD k undef) (rows k).length (iv (rows k))
  apartU : ∀ k, k < n → (vs.getD k undef).ownBlock ≠ some U
  apart : ∀ j k, j < n → k < n → j ≠ k → ∀ b, (vs.getD j undef).ownBlock = some b → (vs.getD k undef).ownBlock ≠ some b

theorem RowsOwn.mod {w w' : World} {base U n : Nat} {rows : Nat → List Int} {vs : List Value} {S : Nat → Prop} (h : RowsOwn w base U n rows vs) (hm : Mod S w w') (hs : ∀ b, base ≤ b → b < w.heap.size → ¬ S b) : RowsOwn w' base U n rows vs :=
  ⟨h.len, ownsRow_mod h.top hm (fun k hk => hs k (h.top.lt k hk).1 (h.top.lt k hk).2), fun k hk => ownsRow_mod (h.row k hk) hm (fun b hb => hs b ((h.row k hk).lt b hb).1 ((h.row k hk).lt b hb).2), h.apartU, h.apart⟩

theorem RowsOwn.congr {w : World} {base U n : Nat} {rows rows' : Nat → List Int} {vs : List Value} (h : RowsOwn w base U n rows vs) (he : ∀ k, k < n → rows' k = rows k) : RowsOwn w base U n rows' vs :=
  ⟨h.len, h.top, fun k hk => by rw [he k hk]; exact h.row k hk, h.apartU, h.apart⟩

theorem getD_set' {α : Type} (l : List α) (u : Nat) (x d : α) (hu : u < l.length) (i : Nat) : (l.set u x).getD i d = if i = u then x else l.getD i d := by
  simp only [List.getD, List.getElem?_set]
  by_cases e : i = u
  · subst e; simp [hu]
  · simp [e, Ne.symm e]

/-- One row more long, in its old block or in a new one; and its value stored at its place. -/
theorem RowsOwn.append {w w1 : World} {base U n : Nat} {rows : Nat → List Int} {vs : List Value} (h : RowsOwn w base U n rows vs) (o : Obj) (k : Nat) (hk : k < n) (x : Int) (g cap : Nat)
    (hown1 : w1.ownsRow base 3 1 (.slice (some ⟨g, 0, none⟩) ((rows k).length + 1) cap) ((rows k).length + 1) (iv (rows k) ++ [.int .i64 x])) (hgrow : (w.alloc o).grownBy w1 (vs.getD k undef).ownBlock)
    (hat : (vs.getD k undef).ownBlock = some g ∨ g = w.heap.size + 1) :
    RowsOwn (w1.setCell ⟨U, k, none⟩ (.slice (some ⟨g, 0, none⟩) ((rows k).length + 1) cap)) base U n (fun j => if j = k then rows j ++ [x] else rows j) (vs.set k (.slice (some ⟨g, 0, none⟩) ((rows k).length + 1) cap)) ∧
      Mod (fun b => b = U ∨ (vs.getD k undef).ownBlock = some b) w (w1.setCell ⟨U, k, none⟩ (.slice (some ⟨g, 0, none⟩) ((rows k).length + 1) cap)) := by
  have hU : U < w.heap.size := (h.top.lt U rfl).2
  have hkl : k < vs.length := by rw [h.len]; exact hk
  have hgU : g ≠ U := by
    rcases hat with hat | rfl
    · intro e; exact h.apartU k hk (e ▸ hat)
    · omega
  have m1 : Mod (fun b => (vs.getD k undef).ownBlock = some b) w w1 := (Mod.alloc _ w o).trans (Mod.of_grown hgrow) (fun _ _ h => h)
  have t1 := ownsRow_mod h.top m1 (fun b hb => by
    simp [Value.ownBlock] at hb
    subst hb
    exact h.apartU k hk)
  obtain ⟨t2, g2⟩ := t1.stored k (.slice (some ⟨g, 0, none⟩) ((rows k).length + 1) cap)
  have m2 := Mod.setCell w1 ⟨U, k, none⟩ (.slice (some ⟨g, 0, none⟩) ((rows k).length + 1) cap)
  refine ⟨⟨by simpa using h.len, t2, fun j hj => ?_, fun j hj => ?_, fun i j hi hj hij b hb => ?_⟩, m1.imp (fun _ _ h => .inr h) |>.trans m2 fun _ _ e => .inl e⟩
  · rw [getD_set' _ _ _ _ hkl]
    by_cases e : j = k
    · subst e
      simp only [if_true]
      have := ownsRow_mod hown1 m2 (fun b hb => by
        simp [Value.ownBlock] at hb
        subst hb
        exact hgU)
      simpa [iv] using this
    · rw [if_neg e, if_neg e]
      refine ownsRow_mod (ownsRow_mod (h.row j hj) m1 (fun b hb he => h.apart j k hj hk e b hb he)) m2 (fun b hb he => ?_)
      simp at he
      subst he
      exact h.apartU j hj hb
  · rw [getD_set' _ _ _ _ hkl]
    by_cases e : j = k
    · rw [if_pos e]
      simp [Value.ownBlock]
      exact hgU
    · rw [if_neg e]
      exact h.apartU j hj
  · rw [getD_set' _ _ _ _ hkl] at hb ⊢
    by_cases e1 : i = k
    · subst e1
      rw [if_pos rfl] at hb
      rw [if_neg (Ne.symm hij)]
      have hgb : g = b := by simpa [Value.ownBlock] using hb
      subst hgb
      intro he
      rcases hat with hat | rfl
      · exact h.apart _ _ hi hj hij _ hat he
      · have := ((h.row j hj).lt _ he).2
        omega
    · rw [if_neg e1] at hb
      by_cases e2 : j = k
      · subst e2
        rw [if_pos rfl]
        intro he
        have hgb : g = b := by simpa [Value.ownBlock] using he
        subst hgb
        rcases hat with hat | rfl
        · exact h.apart _ _ hi hj hij _ hb hat
        · have := ((h.row i hi).lt _ hb).2
          omega
      · rw [if_neg e2]
        exact h.apart i j hi hj hij b hb

/-- Which nodes have k as an input, among the first i, and node i if k is among its first t inputs. -/
def usesL (G : List (List Int)) (i t k : Nat) : List Int :=
  ((List.range i).filter (fun (j : Nat) => decide ((k : Int) ∈ G.getD j []))).map (fun (j : Nat) => (j : Int)) ++ if (k : Int) ∈ (G.getD i []).take t then [(i : Int)] else []

theorem usesL_zero (G : List (List Int)) (k : Nat) : usesL G 0 0 k = [] := by simp [usesL]

theorem usesL_next (G : List (List Int)) (i k : Nat) (t : Nat) (ht : (G.getD i []).length ≤ t) : usesL G (i + 1) 0 k = usesL G i t k := by
  unfold usesL
  rw [List.take_of_length_le ht, List.range_succ, List.filter_append, List.map_append]
  by_cases h : (k : Int) ∈ G.getD i []
  · have e : (List.filter (fun (j : Nat) => decide ((k : Int) ∈ G.getD j [])) [i]) = [i] := by
      rw [List.filter_cons_of_pos (by simpa using h)]; rfl
    rw [e, if_pos h]; simp
  · have e : (List.filter (fun (j : Nat) => decide ((k : Int) ∈ G.getD j [])) [i]) = [] := by
      rw [List.filter_cons_of_neg (by simpa using h)]; rfl
    rw [e, if_neg h]; simp

theorem usesL_step (G : List (List Int)) (i t k : Nat) (hn : (G.getD i []).Nodup) (ht : t < (G.getD i []).length) : usesL G i (t + 1) k = if (k : Int) = (G.getD i [])[t] then usesL G i t k ++ [(i : Int)] else usesL G i t k := by
  unfold usesL
  rw [List.take_succ_eq_append_getElem ht]
  by_cases h : (k : Int) = (G.getD i [])[t]
  · rw [if_pos h]
    have hnot : (k : Int) ∉ (G.getD i []).take t := by
      rw [h]
      intro hm
      obtain ⟨j, hj, hje⟩ := List.mem_take_iff_getElem.1 hm
      have := (List.getElem_inj (i := j) (j := t) hn).1 hje
      omega
    rw [if_pos (List.mem_append.2 (.inr (by rw [h]; exact List.mem_singleton.2 rfl))), if_neg hnot]
    simp
  · rw [if_neg h]
    have : ((k : Int) ∈ (G.getD i []).take t ++ [(G.getD i [])[t]]) ↔ (k : Int) ∈ (G.getD i []).take t := by rw [List.mem_append, List.mem_singleton]; exact ⟨fun h' => h'.resolve_right h, .inl⟩
    simp only [this]

/-- What 'Uses' hands back. -/
def UsesPost (w : World) (G : List (List Int)) (e : Ending) (w' : World) : Prop :=
  ∃ U vs, e = .returned (.slice (some ⟨U, 0, none⟩) G.length G.length) ∧ RowsOwn w' w.heap.size U G.length (usesL G G.length 0) vs ∧ Below w.heap.size w w'

theorem info_ints : (Try.prog.info? 25).map (fun i => (i.zero, i.size, i.bytes)) = some (some (.slice none 0 0), 1, 24) := by kernel_rfl

/-- The inputs of each node that are nodes, each once. -/
def insG (g : Gr) : List (List Int) := g.nodes.map fun n => insL g.nodes.length n.ins

/-- Small enough to be walked. -/
structure GrOk (g : Gr) : Prop where
  few : g.nodes.length ≤ 1000
  ins : ∀ n ∈ g.nodes, n.ins.length ≤ 1000
  wf : ∀ n ∈ g.nodes, ∀ x ∈ n.ins, (Lit.int .i64 x).wf = true

theorem GrV.up {w w1 : World} {v : Value} {g : Gr} (h : GrV w v g) (hb : Below w.heap.size w w1) : GrV w1 v g := by
  obtain ⟨vn, rfl, hn⟩ := h
  exact ⟨vn, rfl, hn.up hb⟩

theorem GrV.form {w : World} {v : Value} {g : Gr} (h : GrV w v g) : ∃ p cap, v = .agg #[.slice p g.nodes.length cap, .int .i64 g.out] := by
  obtain ⟨vn, rfl, p, cap, rfl, _⟩ := h
  exact ⟨p, cap, rfl⟩

/-- Ahead of a round of the inner loop. -/
def UIn (B s U n : Nat) (G : List (List Int)) (w2 : World) (i t : Nat) (wr : World) : Prop :=
  ∃ vs, RowsOwn wr B U n (usesL G i t) vs ∧ Mod (fun b => B ≤ b ∧ b < s) w2 wr ∧ ∀ k, k < n → ∀ b, (vs.getD k undef).ownBlock = some b → b < s ∨ w2.heap.size ≤ b

theorem UIn.step {B s U n : Nat} {G : List (List Int)} {w2 wr w3 : World} {i t : Nat} (vs : List Value) (hrow : RowsOwn wr B U n (usesL G i t) vs) (hmod : Mod (fun b => B ≤ b ∧ b < s) w2 wr)
    (hlies : ∀ k, k < n → ∀ b, (vs.getD k undef).ownBlock = some b → b < s ∨ w2.heap.size ≤ b) (hnd : (G.getD i []).Nodup) (ht : t < (G.getD i []).length) (hUs : U < s) (hsw : s ≤ w2.heap.size)
    (o : Obj) (k : Nat) (hk : k < n) (hkx : (G.getD i [])[t] = (k : Int)) (g cap : Nat)
    (hown1 : w3.ownsRow B 3 1 (.slice (some ⟨g, 0, none⟩) ((usesL G i t k).length + 1) cap) ((usesL G i t k).length + 1) (iv (usesL G i t k) ++ [.int .i64 i])) (hgrow : (wr.alloc o).grownBy w3 (vs.getD k undef).ownBlock)
    (hat : (vs.getD k undef).ownBlock = some g ∨ g = wr.heap.size + 1) :
    UIn B s U n G w2 i (t + 1) (w3.setCell ⟨U, k, none⟩ (.slice (some ⟨g, 0, none⟩) ((usesL G i t k).length + 1) cap)) := by
  obtain ⟨h1, h2⟩ := hrow.append o k hk i g cap hown1 hgrow hat
  refine ⟨_, h1.congr fun j hj => ?_, hmod.trans h2 fun b hb he => ?_, fun j hj b hb => ?_⟩
  · rw [usesL_step G i t j hnd ht, hkx]
    by_cases e : j = k
    · subst e; simp
    · rw [if_neg (by omega), if_neg e]
  · rcases he with rfl | he
    · exact ⟨(hrow.top.lt _ rfl).1, hUs⟩
    · rcases hlies k hk b he with h | h
      · exact ⟨((hrow.row k hk).lt b he).1, h⟩
      · omega
  · rw [getD_set' _ _ _ _ (by rw [hrow.len]; exact hk)] at hb
    by_cases e : j = k
    · rw [if_pos e] at hb
      have hgb : g = b := by simpa [Value.ownBlock] using hb
      subst hgb
      rcases hat with hat | rfl
      · exact hlies k hk _ hat
      · right
        have := hmod.size
        omega
    · rw [if_neg e] at hb
      exact hlies j hj b hb

theorem usesL_len (G : List (List Int)) (i t k : Nat) : (usesL G i t k).length ≤ i + 1 := by
  unfold usesL
  rw [List.length_append, List.length_map]
  have := List.length_filter_le (fun (j : Nat) => decide ((k : Int) ∈ G.getD j [])) (List.range i)
  rw [List.length_range] at this
  split <;> simp only [List.length_cons, List.length_nil] <;> omega

set_option maxHeartbeats 1000000 in
theorem uses_any (w : World) (v : Value) (g : Gr) (hg : GrV w v g) (hok : GrOk g) :
    Calls Try.prog 26 #[v] w (UsesPost w (insG g)) := by
  obtain ⟨i0, hi0, hz0, hz1, hz2⟩ := info_parts info_int
  obtain ⟨i1, hj0, hjz, hj1, hj2⟩ := info_parts info_ints
  have hlen : (insG g).length = g.nodes.length := by simp [insG]
  have Hlen := Lib.hid hlen
  have Hg := Lib.hid hg
  have Hok := Lib.hid hok
  have hfew := hok.few
  obtain ⟨p, cap, rfl⟩ := hg.form
  clear hg hok hlen
  go_enter Try.func26, Try.ntmps26
  go_wp2_with (first
    | (at_make; refine wpList_make_full _ rfl _ _ 54 rfl w.heap.size 25 i1 (.slice none 0 0) 1 Try.underlying54 hj0 hjz hj1 _ _ _ _ g.nodes.length rfl rfl rfl rfl ?b1 ?b2 ?b3 ?_))
  case b1 => rw [hj2]; omega
  case b2 => unfold maxLen; omega
  case b3 => simp
  intro w1 hown hgrow
  have hzb1 : w.heap.size + 1 < w1.heap.size := (hown.lt _ rfl).2
  have hb1 : Below (w.heap.size + 1) (w.alloc (.cells #[.slice p g.nodes.length cap, .int .i64 g.out] 24)) w1 := (Below.refl _ _).grown hgrow (by simp) (fun k e => by cases e)
  have hc0 : w1.cell? ⟨w.heap.size, 0, none⟩ = some (.slice p g.nodes.length cap) := by rw [hb1.cell (p := ⟨w.heap.size, 0, none⟩) (by simp)]; simp [go_sem]
  have hc1 : w1.cell? ⟨w.heap.size, 1, none⟩ = some (.int .i64 g.out) := by rw [hb1.cell (p := ⟨w.heap.size, 1, none⟩) (by simp)]; simp [go_sem]
  have hbel : Below w.heap.size w w1 := ((Below.refl _ _).alloc (Nat.le_refl _) _).trans (hb1.mono (by omega))
  have hrows : RowsOwn w1 (w.heap.size + 1) (w.heap.size + 1) g.nodes.length (usesL (insG g) 0 0) (List.replicate g.nodes.length (.slice none 0 0)) := by
    rw [toList_madeCells_one] at hown
    refine ⟨by simp, ?_, fun k hk => ?_, fun k hk => ?_, fun j k hj hk _ b hb => ?_⟩
    · refine ⟨hown.1, ?_⟩
      rcases hown.2 with ⟨h, _⟩ | ⟨g', cap', cur, hv, hg', r⟩
      · cases h
      · simp only [Value.slice.injEq, Option.some.injEq, Addr.mk.injEq, and_true] at hv
        obtain ⟨rfl, _, rfl⟩ := hv
        exact .inr ⟨_, _, cur, rfl, by omega, r⟩
    · rw [usesL_zero]
      simp [List.getD, hk]
      exact World.ownsRow_nil _ _ _ _
    · simp [List.getD, hk, Value.ownBlock]
    · simp [List.getD, hj, Value.ownBlock] at hb
  have Hrows := Lib.hid hrows
  have Hbel := Lib.hid hbel
  clear hrows hbel hown hgrow hb1
  go_wp2_with fail
  go_loopw [14] (fun c wr => ∃ i : Nat, c = .int .i64 i ∧ i ≤ g.nodes.length ∧ (∃ vs, RowsOwn wr (w.heap.size + 1) (w.heap.size + 1) g.nodes.length (usesL (insG g) i 0) vs) ∧ Below (w.heap.size + 1) w1 wr) (fun c _ => g.nodes.length - (intOf c).toNat)
  case atStart => exact ⟨0, rfl, Nat.zero_le _, ⟨_, Hrows.out⟩, Below.refl _ _⟩
  case round =>
    obtain ⟨i, rfl, hi, ⟨vs, hrows⟩, hb⟩ := hrel
    clear Hrows
    have hc0' : wr.cell? ⟨w.heap.size, 0, none⟩ = some (.slice p g.nodes.length cap) := by rw [hb.cell (p := ⟨w.heap.size, 0, none⟩) (by simp)]; exact hc0
    have hc1' : wr.cell? ⟨w.heap.size, 1, none⟩ = some (.int .i64 g.out) := by rw [hb.cell (p := ⟨w.heap.size, 1, none⟩) (by simp)]; exact hc1
    have hbw : Below w.heap.size w wr := Hbel.out.trans (hb.mono (by omega))
    have Hrows := Lib.hid hrows
    have Hb := Lib.hid hb
    have Hbw := Lib.hid hbw
    clear hrows hb hbw
    by_cases hlt : i < g.nodes.length
    · have hin := inputs_any wr _ g i (Hg.out.up Hbw.out) hlt (by omega) (Hok.out.ins _ (List.getElem_mem hlt)) (Hok.out.wf _ (List.getElem_mem hlt))
      have Hin := Lib.hid hin
      clear hin
      have hGi : (insG g).getD i [] = insL g.nodes.length g.nodes[i].ins := by simp [insG, List.getD, hlt]
      have hnd := (insL_nodup g.nodes.length g.nodes[i].ins).1
      have hmem := (insL_nodup g.nodes.length g.nodes[i].ins).2
      have hml : (insL g.nodes.length g.nodes[i].ins).length ≤ 1000 := by
        have h1 := insL_len g.nodes.length g.nodes[i].ins g.nodes[i].ins.length
        rw [List.take_length] at h1
        have := Hok.out.ins _ (List.getElem_mem hlt)
        omega
      have Hnd := Lib.hid hnd
      have Hmem := Lib.hid hmem
      have HGi := Lib.hid hGi
      clear hnd hmem hGi
      generalize insL g.nodes.length g.nodes[i].ins = L at *
      go_wp2_with fail
      refine (Hin.out).mono ?_
      rintro e w2 ⟨v2, rfl, hown2, hb2⟩
      obtain ⟨p2, c2, rfl⟩ := ownsRow_form hown2
      have hzr : w.heap.size + 1 < wr.heap.size := by have := Hb.out.size; omega
      have hst : UIn (w.heap.size + 1) wr.heap.size (w.heap.size + 1) g.nodes.length (insG g) w2 i 0 w2 :=
        ⟨vs, Hrows.out.mod (Mod.of_below hb2 (fun _ => False)) (fun _ _ _ h => h), Mod.refl _ _, fun k hk b hb => .inl ((Hrows.out.row k hk).lt b hb).2⟩
      have Hst := Lib.hid hst
      have Hown2 := Lib.hid hown2
      have hzw := hb2.size
      have Hb2 := Lib.hid hb2
      clear hst hown2 hb2
      go_wp2_with fail
      obtain ⟨wo, rfl⟩ : ∃ wo : World, wo = wr := ⟨_, rfl⟩
      go_loopw [21] (fun c wx => ∃ t : Nat, c = .int .i64 t ∧ t ≤ L.length ∧ UIn (w.heap.size + 1) wo.heap.size (w.heap.size + 1) g.nodes.length (insG g) w2 i t wx) (fun c _ => L.length - (intOf c).toNat)
      case atStart => exact ⟨0, rfl, Nat.zero_le _, Hst.out⟩
      case round =>
        obtain ⟨t, rfl, ht, vs', hrow', hmod', hlies'⟩ := hrel
        clear Hst
        by_cases htl : t < L.length
        · obtain ⟨g2, c2', hv2, hg2, _⟩ := Hown2.out.form (by omega)
          simp only [Value.slice.injEq] at hv2
          obtain ⟨rfl, _, rfl⟩ := hv2
          have hx0 : 0 ≤ L[t] ∧ L[t] < (g.nodes.length : Int) := ((Hmem.out _).1 (List.getElem_mem htl)).2
          obtain ⟨k, hkx⟩ : ∃ k : Nat, L[t] = (k : Int) := ⟨L[t].toNat, by omega⟩
          have hk : k < g.nodes.length := by omega
          have hownx := ownsRow_mod Hown2.out hmod' (fun b hb hs => by
            have h1 := (Hown2.out.lt b hb).1
            omega)
          have hct := hownx.cellAt t (by omega)
          have het : (iv L)[t]? = some (.int .i64 (k : Int)) := by simp [iv, htl, hkx]
          rw [het] at hct
          have hck := hrow'.top.cellAt k (by omega)
          have hek : vs'[k]? = some (vs'.getD k undef) := by simp [List.getD, show k < vs'.length by rw [hrow'.len]; exact hk]
          rw [hek] at hck
          have hfk := hrow'.top.frozenAt k
          have hUx : w.heap.size + 1 < wr.heap.size := (hrow'.top.lt _ rfl).2
          have hbx : Below (w.heap.size + 1) w1 wr := (Hb.out.trans (Hb2.out.mono (by omega))).trans (hmod'.below (by omega) (fun b hb hs => by omega))
          have hrk := hrow'.row k hk
          have hkU := hrow'.apartU k hk
          have hll := usesL_len (insG g) i t k
          have hstep := fun (w3 : World) (o : Obj) (gg cp : Nat) h1 h2 h3 => UIn.step (w3 := w3) vs' hrow' hmod' hlies' (by rw [HGi.out]; exact Hnd.out) (by rw [HGi.out]; exact htl) hzr hzw o k hk (by simp only [HGi.out]; exact hkx) gg cp h1 h2 h3
          have Hstep := Lib.hid hstep
          have Hbx := Lib.hid hbx
          have HkU := Lib.hid hkU
          have Hkx := Lib.hid hkx
          clear hstep hbx hkU hrow' hmod' hlies' hkx hownx het hek hx0
          generalize hvk : vs'.getD k undef = vk at *
          clear hvk
          go_wp2_with (at_builtin; refine wpList_append_lies _ rfl _ _ 25 rfl (w.heap.size + 1) 3 i0 (.int .i64 0) 1 8 Try.underlying25 hi0 hz0 hz1 hz2 rfl (by omega) vk (usesL (insG g) i t k).length (iv (usesL (insG g) i t k)) rfl (hrk.alloc _) ⟨wr.heap.size, 0, none⟩ 1 1 [.int .i64 i] rfl rfl (cell_one_new _ _ _) (by simp [Value.oneCell']) (by omega) (by unfold maxLen; omega) (by omega) (by simp; omega) (wr.heap.size + 1) (by simp) ?_)
          intro gg cp w3 hown3 hgrow3 hat3 hlt3
          have hc3 : w3.cell? ⟨w.heap.size + 1, k, none⟩ = some vk := by
            rw [hgrow3.cell_far ⟨w.heap.size + 1, k, none⟩ (by simp; omega) (fun e => HkU.out e.symm), World.cell?_alloc_lt (h := hUx)]
            exact hck
          have hf3 : w3.frozen? ⟨w.heap.size + 1, k, none⟩ = false := by
            rw [hgrow3.frozen_far ⟨w.heap.size + 1, k, none⟩ (by simp; omega) (fun e => HkU.out e.symm), World.frozen?_alloc_old (h := by simp; omega)]
            exact hfk
          have hu := Hstep.out w3 _ gg cp hown3 hgrow3 hat3
          have Hu := Lib.hid hu
          clear hu hown3 hgrow3 hat3 Hstep hck hfk hrk
          go_wp2_with fail
          go_roundw
          case rel => exact ⟨t + 1, by go_num, by omega, Hu.out⟩
          case measure => simp [intOf]; omega
        · have hte : t = L.length := by omega
          subst hte
          have hnext : ∀ k, usesL (insG g) (i + 1) 0 k = usesL (insG g) i L.length k := fun k => usesL_next _ _ _ _ (by rw [HGi.out]; exact Nat.le_refl _)
          have hrow2 := hrow'.congr (fun k _ => hnext k)
          have hbx : Below (w.heap.size + 1) w1 wr := (Hb.out.trans (Hb2.out.mono (by omega))).trans (hmod'.below (by omega) (fun b hb hs => by omega))
          have Hrow2 := Lib.hid hrow2
          have Hbx := Lib.hid hbx
          clear hrow2 hbx hrow' hmod' hlies' hnext
          go_wp2_with fail
          go_roundw
          case rel => exact ⟨i + 1, by go_num, by omega, ⟨_, Hrow2.out⟩, Hbx.out⟩
          case measure => simp [intOf]; omega
    · go_wp2_with fail
      go_ret
      have hie : i = g.nodes.length := by omega
      subst hie
      refine ⟨_, vs, by rw [Hlen.out]; rfl, ?_, Hbw.out⟩
      have h := Hrows.out
      rw [Hlen.out]
      exact ⟨h.len, ownsRow_base h.top (by omega), fun k hk => ownsRow_base (h.row k hk) (by omega), h.apartU, h.apart⟩

end Go.Proofs.Ytfphlkoneocejaa
