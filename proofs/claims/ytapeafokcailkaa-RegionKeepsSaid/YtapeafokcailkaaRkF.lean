/- Regions: the edges in Y: gathered, sorted, each once. -/
import Derived.Test.YtapeafokcailkaaRkE
set_option linter.unusedSimpArgs false
set_option linter.unusedVariables false
set_option linter.unusedSectionVars false
set_option linter.constructorNameAsVariable false
namespace Go.Gou
open Go.RowKit Go.Reg

/-- The edges in Y of the rectangles that have points. -/
def edgeNums (l : List Rt) : List Int := l.flatMap fun r => if r.Some then [r.y0, r.y1] else []
theorem edgeNums_app (a b : List Rt) : edgeNums (a ++ b) = edgeNums a ++ edgeNums b := by simp [edgeNums]
theorem edgeNums_snoc (l : List Rt) (r : Rt) : edgeNums (l ++ [r]) = edgeNums l ++ (if r.Some then [r.y0, r.y1] else []) := by simp [edgeNums]
theorem edgeNums_len (l : List Rt) : (edgeNums l).length ≤ 2 * l.length := by
  induction l with
  | nil => simp [edgeNums]
  | cons r l ih =>
    rw [show edgeNums (r :: l) = (if r.Some then [r.y0, r.y1] else []) ++ edgeNums l from rfl, List.length_append, List.length_cons]
    split
    · simp only [List.length_cons, List.length_nil]; omega
    · simp only [List.length_nil]; omega
theorem edgeNums_y {l : List Rt} {ys : List Int} (h : ∀ y, y ∈ ys ↔ y ∈ edgeNums l) {a : List Rt} (ha : ∀ r ∈ a, r ∈ l) : YEdges ys a := by
  intro r hr hs
  have h1 : ∀ y, y ∈ (if r.Some then [r.y0, r.y1] else []) → y ∈ edgeNums l := fun y hy => List.mem_flatMap.2 ⟨r, ha r hr, hy⟩
  exact ⟨(h _).2 (h1 _ (by simp [hs])), (h _).2 (h1 _ (by simp [hs]))⟩

/-- Go's Compact, of numbers that rise. -/
theorem compact_mem {zs : List Int} (x : Int) : x ∈ Lib.compact zs ↔ x ∈ zs := by
  unfold Lib.compact Lib.compactUpTo
  simp only [List.mem_map, List.mem_filter, List.mem_range]
  constructor
  · rintro ⟨j, ⟨hj, _⟩, rfl⟩
    have : zs.toArray[j]! = zs[j] := by simp [hj]
    rw [this]
    exact List.getElem_mem hj
  · intro hx
    obtain ⟨j, hj, rfl⟩ := List.getElem_of_mem hx
    clear hx
    induction j with
    | zero => exact ⟨0, ⟨hj, by simp [Lib.keeps]⟩, by simp [hj]⟩
    | succ j ih =>
      by_cases he : zs[j + 1] = zs[j]
      · rw [he]
        exact ih (by omega)
      · refine ⟨j + 1, ⟨hj, ?_⟩, by simp [hj]⟩
        have hj' : j < zs.length := by omega
        simp [Lib.keeps, hj, hj', he]
theorem compact_up {zs : List Int} (h : Sorted zs) : Up (Lib.compact zs) := by
  unfold Lib.compact Lib.compactUpTo Up
  rw [List.pairwise_map]
  refine List.Pairwise.imp_of_mem ?_ (List.pairwise_lt_range.filter _)
  intro i j hi hj hij
  simp only [List.mem_filter, List.mem_range] at hi hj
  have ei : zs.toArray[i]! = zs[i] := by simp [hi.1]
  have ej : zs.toArray[j]! = zs[j] := by simp [hj.1]
  have hj' : j - 1 < zs.length := by omega
  have ek : zs.toArray[j - 1]! = zs[j - 1] := by simp [hj']
  have hk := hj.2
  unfold Lib.keeps at hk
  rw [ej, ek] at hk
  simp only [decide_eq_true_eq] at hk
  rw [ei, ej]
  have hs := List.pairwise_iff_getElem.1 h
  have h1 : zs[j - 1] ≤ zs[j] := hs (j - 1) j hj' hj.1 (by omega)
  have h2 : zs[i] ≤ zs[j - 1] := by
    rcases Nat.lt_or_ge i (j - 1) with h | h
    · exact hs i (j - 1) hi.1 hj' h
    · have : i = j - 1 := by omega
      subst this
      exact Int.le_refl _
  rcases hk with hk | hk <;> omega
theorem compact_len (zs : List Int) : (Lib.compact zs).length ≤ zs.length := by
  unfold Lib.compact Lib.compactUpTo
  rw [List.length_map]
  exact Nat.le_trans (List.length_filter_le _ _) (by simp)

theorem holds_ivs {w : World} {B g cap n : Nat} {e : TypeId} {xs : List Int} (hn : n = xs.length) (h : w.ownsRow B e 1 (.slice (some ⟨g, 0, none⟩) n cap) n (ivs xs)) : Sort.Holds (Value.int .i64) w g 0 xs.toArray := by
  subst hn
  intro j hj
  have hj' : j < xs.length := by simpa using hj
  rw [Nat.zero_add]
  refine ⟨?_, h.frozenAt j⟩
  rw [h.cellAt j (by omega)]
  simp [ivs, hj']

end Go.Gou
namespace Go.Proofs.Ytapeafokcailkaa
open Go.RowKit Go.Gou Go.Reg Go.Shelf
set_option maxRecDepth 100000

/-- Sorted: the same numbers, rising; they may be left out in place. -/
theorem sortInt_any (w : World) (B : Nat) (v : Value) (xs : List Int) (hown : w.ownsRow B 3 1 v xs.length (ivs xs)) (hl : xs.length ≤ 100000000) :
    Calls Try.prog 65 #[v] w fun e w' => e = .returned (.tuple #[]) ∧ Gou.Mod (fun k => v.ownBlock = some k) w w' ∧ ∃ ys : List Int, ys.Perm xs ∧ Sorted ys ∧
      ((v = .slice none 0 0 ∧ ys = []) ∨ ∃ g cap, v = .slice (some ⟨g, 0, none⟩) ys.length cap ∧ B ≤ g ∧ g < w'.heap.size ∧ ys.length ≤ cap ∧ Go.Sort.Holds (Value.int .i64) w' g 0 ys.toArray) := by
  have hlt := hown.lt
  rcases hown.2 with ⟨rfl, h0⟩ | ⟨g, cap, cur, rfl, hg, hh, hn, _⟩
  · have hl0 : xs = [] := List.length_eq_zero_iff.1 h0
    subst hl0
    refine (AnyG.slices_Sort_int_none sortInt none 0 w).mono ?_
    rintro e w' ⟨rfl, rfl⟩
    exact ⟨rfl, Gou.Mod.refl _ _, [], List.Perm.refl _, List.Pairwise.nil, .inl ⟨rfl, rfl⟩⟩
  · have hH := holds_ivs rfl hown
    refine (AnyG.slices_Sort_int sortInt g 0 cap xs w hH (hlt g rfl).2 (by omega)).mono ?_
    rintro e w' ⟨rfl, n, os, rfl⟩
    have hp : (xs.mergeSort fun x y => decide (x ≤ y)).Perm xs := List.mergeSort_perm _ _
    have hs : Sorted (xs.mergeSort fun x y => decide (x ≤ y)) := by
      have := List.pairwise_mergeSort (le := fun x y : Int => decide (x ≤ y)) (fun a b c h1 h2 => by simp at *; omega) (fun a b => by simp; omega) xs
      exact this.imp fun h => by simpa using h
    refine ⟨rfl, (mod_putRow _ w n g 0 _ os).imp (fun k _ h => by rw [h]; rfl), _, hp, hs, .inr ⟨g, cap, by rw [hp.length_eq], hg, ?_, by rw [hp.length_eq]; exact hn, ?_⟩⟩
    · exact Nat.lt_of_lt_of_le (hlt g rfl).2 (mod_putRow _ w n g 0 _ os).size
    · refine Go.Sort.holds_grow _ _ os g 0 _ (by rw [Go.Sort.size_putRow]; exact (hlt g rfl).2) ?_
      exact Go.Sort.holds_putRow _ _ g 0 xs.toArray _ (Go.Sort.holds_ahead _ w n g 0 _ hH) (by simp [hp.length_eq])

/-- Each number once. -/
theorem compInt_any (w : World) (g cap : Nat) (ys : List Int) (hH : Go.Sort.Holds (Value.int .i64) w g 0 ys.toArray) (hg : g < w.heap.size) (hcap : ys.length ≤ cap) (hl : ys.length ≤ 100000000) :
    Calls Try.prog 66 #[.slice (some ⟨g, 0, none⟩) ys.length cap] w fun e w' => Gou.Mod (fun k => k = g) w w' ∧ e = .returned (.slice (some ⟨g, 0, none⟩) (Go.Lib.compact ys).length cap) ∧ IntsR (fun b => b = g) w' (.slice (some ⟨g, 0, none⟩) (Go.Lib.compact ys).length cap) (Go.Lib.compact ys) := by
  refine (AnyG.slices_Compact_int compInt g 0 cap ys w hH (by omega) hcap).mono ?_
  rintro e w' ⟨rfl, q, rfl⟩
  have hl := compact_len ys
  have hm := mod_putRow (Value.int .i64) w q g 0 (Go.Lib.compact ys ++ List.replicate (ys.length - (Go.Lib.compact ys).length) 0).toArray #[]
  rw [Go.Sort.grow_empty] at hm
  refine ⟨hm, rfl, ⟨by simp [ivs], _, cap, rfl, by omega, .inr ⟨g, 0, rfl, Nat.lt_of_lt_of_le hg hm.size, rfl, fun j u hu => ?_⟩⟩⟩
  have hj : j < (Go.Lib.compact ys).length := by
    have := (List.getElem?_eq_some_iff.1 hu).1
    simpa [ivs] using this
  have hH2 := Go.Sort.holds_putRow (Value.int .i64) (Go.Sort.ahead w q) g 0 ys.toArray (Go.Lib.compact ys ++ List.replicate (ys.length - (Go.Lib.compact ys).length) 0).toArray (Go.Sort.holds_ahead _ w q g 0 _ hH) (by simp; omega)
  rw [(hH2 j (by simp; omega)).1, ← hu]
  simp [ivs, hj, List.getElem_append_left, show j < (Go.Lib.compact ys).length + (ys.length - (Go.Lib.compact ys).length) from by omega]

/-- What the edges come to. -/
def EdgesP (w : World) (l : List Rt) (e : Ending) (w' : World) : Prop :=
  Gou.Mod (fun _ => False) w w' ∧ ∃ v ys, e = .returned v ∧ IntsR (fun b => w.heap.size ≤ b) w' v ys ∧ Up ys ∧ (∀ y, y ∈ ys ↔ y ∈ edgeNums l) ∧ ys.length ≤ 2 * l.length

def preOf (a b : List Rt) (j : Nat) : List Rt := if j = 0 then [] else if j = 1 then a else a ++ b

set_option maxHeartbeats 8000000 in
theorem edges_any (w : World) (M : Nat) (T : TypeId) (pa pb : Option Addr) (ca cb : Nat) (a b : List Rt) (hA : RtR (fun _ => True) w (.slice pa a.length ca) a) (hB : RtR (fun _ => True) w (.slice pb b.length cb) b)
    (hM : Blk w M T #[.slice pa a.length ca, .slice pb b.length cb]) (hna : a.length ≤ 1000000) (hnb : b.length ≤ 1000000) :
    Calls Try.prog 53 #[.slice (some ⟨M, 0, none⟩) 2 2] w (EdgesP w (a ++ b)) := by
  have HA := Lib.hid hA
  have HB := Lib.hid hB
  have HM := Lib.hid hM
  have Hn : Hid (a.length ≤ 1000000 ∧ b.length ≤ 1000000) := Lib.hid ⟨hna, hnb⟩
  clear hA hB hM hna hnb
  go_enter Try.func53, Try.ntmps53
  go_wp2_with fail
  go_loopw [3, 10] (fun vo vj wr => ∃ (j : Nat) (xs : List Int), vj = .int .i64 j ∧ j ≤ 2 ∧ xs = edgeNums (preOf a b j) ∧ wr.ownsRow w.heap.size 3 1 vo xs.length (ivs xs) ∧ Gou.Mod (fun _ => False) w wr) (fun _ vj _ => 2 - (intOf vj).toNat)
  case atStart => exact ⟨0, [], rfl, by omega, rfl, World.ownsRow_nil _ _ _ _, Gou.Mod.refl _ _⟩
  case round =>
    obtain ⟨j, xs, rfl, hj, hxs, hown, hm⟩ := hrel
    obtain ⟨po, co, rfl⟩ := Gou.ownsRow_form hown
    by_cases hj2 : j < 2
    · have e1 : decide ((j : Int) < 2) = true := decide_eq_true (by omega)
      have hj0 : (0 : Int) ≤ (j : Int) := by omega
      have hj1 : (j : Int) < 2 := by omega
      have wj : IntKind.i64.wrap ((j : Int) + 1) = (j : Int) + 1 := wrap_id (by omega) (by omega)
      obtain ⟨l, p, c, hcell, hl, hpre, hln⟩ : ∃ l p c, wr.cell? ⟨M, j, none⟩ = some (.slice p l.length c) ∧ RtR (fun _ => True) w (.slice p l.length c) l ∧ preOf a b (j + 1) = preOf a b j ++ l ∧ l.length ≤ 1000000 ∧ (preOf a b j).length ≤ 1000000 := by
        have hM2 := HM.out.mod0 hm
        rcases (by omega : j = 0 ∨ j = 1) with rfl | rfl
        · exact ⟨a, pa, ca, hM2.cell 0 rfl, HA.out, rfl, Hn.out.1, by simp [preOf]⟩
        · exact ⟨b, pb, cb, hM2.cell 1 rfl, HB.out, rfl, Hn.out.2, Hn.out.1⟩
      have HL := Lib.hid hl
      have Hpre := Lib.hid hpre
      have Hln := Lib.hid hln
      have Hj := Lib.hid (And.intro hj hj2)
      have Hxs := Lib.hid hxs
      have Hown0 := Lib.hid hown
      have Hm0 := Lib.hid hm
      clear hl hpre hln hxs hown hm
      go_wp2_with fail
      go_loopw [3, 16] (fun vo vi wx => ∃ (i : Nat) (ys : List Int), vi = .int .i64 i ∧ i ≤ l.length ∧ ys = edgeNums (preOf a b j ++ l.take i) ∧ wx.ownsRow w.heap.size 3 1 vo ys.length (ivs ys) ∧ Gou.Mod (fun _ => False) w wx) (fun _ vi _ => l.length - (intOf vi).toNat)
      case atStart => exact ⟨0, xs, rfl, by omega, by rw [Hxs.out]; simp, Hown0.out, Hm0.out⟩
      case round =>
        obtain ⟨i, xs, rfl, hi, hxs, hown, hm⟩ := hrel
        obtain ⟨po, co, rfl⟩ := Gou.ownsRow_form hown
        have Hxl : Hid (xs.length ≤ 2 * (1000000 + i)) := Lib.hid (by rw [hxs]; have h1 := edgeNums_len (preOf a b j ++ l.take i); have h2 := Hln.out.2; simp only [List.length_append, List.length_take] at h1; omega)
        have Hxs := Lib.hid hxs
        have Hown := Lib.hid hown
        have Hm := Lib.hid hm
        clear hxs hown hm
        by_cases hil : i < l.length
        · have t1 : decide ((i : Int) < (l.length : Int)) = true := decide_eq_true (by omega)
          obtain ⟨-, bl, off, rfl, hb, -, hc⟩ := HL.out.cells (by omega)
          obtain ⟨k0, k1, k2, k3⟩ := hc i hil
          rw [← Hm.out.cell (p := ⟨bl, off + i * 4, none⟩) hb (fun h => h)] at k0
          rw [← Hm.out.cell (p := ⟨bl, off + i * 4 + 1, none⟩) hb (fun h => h)] at k1
          rw [← Hm.out.cell (p := ⟨bl, off + i * 4 + 2, none⟩) hb (fun h => h)] at k2
          rw [← Hm.out.cell (p := ⟨bl, off + i * 4 + 3, none⟩) hb (fun h => h)] at k3
          have hi1 : (i : Int) < (l.length : Int) := by omega
          have hi0 : (0 : Int) ≤ (i : Int) := by omega
          have wi : IntKind.i64.wrap ((i : Int) + 1) = (i : Int) + 1 := wrap_id (by omega) (by have := Hln.out; omega)
          have Hstep : Hid (edgeNums (preOf a b j ++ l.take (i + 1)) = xs ++ (if l[i].Some then [l[i].y0, l[i].y1] else [])) := Lib.hid (by rw [Hxs.out, List.take_succ_eq_append_getElem hil, ← List.append_assoc, edgeNums_snoc])
          have Hin := Lib.hid (And.intro hi hil)
          clear hc
          generalize l[i] = s at *
          obtain ⟨a', b', c', d⟩ := s
          simp only at k0 k1 k2 k3
          have Hem := Lib.hid (fun (w' : World) => rectEmpty_any ⟨a', b', c', d⟩ w')
          obtain ⟨q, hq⟩ : ∃ q, q = decide (Rt.Some ⟨a', b', c', d⟩) := ⟨_, rfl⟩
          have Hq := Lib.hid hq
          rw [← hq] at Hem
          clear hq
          go_wp2_with fail
          refine (Hem.out _).mono ?_
          rintro e w2 ⟨rfl, hb2⟩
          have HB2 := Lib.hid ((Blk.new _ 36 #[.int .i64 a', .int .i64 b', .int .i64 c', .int .i64 d]).up hb2)
          have Hm2 := Lib.hid ((Hm.out.trans' (Gou.Mod.alloc0 _ _)).trans' (Gou.Mod.of_below hb2 (fun _ => False)))
          have Hown2 := Lib.hid (own_up Hown.out ((Gou.Mod.alloc0 _ _).trans' (Gou.Mod.of_below hb2 (fun _ => False))))
          clear hb2 Hown Hm k0 k1 k2 k3
          obtain ⟨⟨k0, k1, k2, k3⟩, -⟩ := four HB2.out
          cases q with
          | true =>
            have Hs2 : Hid (edgeNums (preOf a b j ++ l.take (i + 1)) = xs ++ [b', d]) := Lib.hid (by rw [Hstep.out, if_pos (of_decide_eq_true Hq.out.symm)])
            clear Hstep Hq
            go_wp2_with (first | ((with_reducible show wpList _ _ _ (⟨_, Op.call ⟨.builtin .append, _, _⟩, _, _, _, _⟩ :: _) _ _); refine halt ?_) | fail)
            refine wpList_append_row T_int rfl _ _ rfl (w.heap.size) (.slice po xs.length co) (xs.length) (ivs xs) (fun _ => True) (.slice (some ⟨w2.heap.size, 0, none⟩) 2 2) (2) ([.int .i64 b', .int .i64 d]) rfl rfl (by have := Hm2.out.size; simp; omega) (own_up Hown2.out (Gou.Mod.alloc0 _ _)) (RowG.of_blk (Blk.new _ _ #[.int .i64 b', .int .i64 d]) 1 2 rfl _ trivial) (ivs_one [b', d]) (by have := Hxl.out; have := Hn.out; have := Hln.out; first | (unfold maxLen; omega) | omega) (by have := Hxl.out; have := Hn.out; have := Hln.out; first | (unfold maxLen; omega) | omega) ?_
            intro v5 w5 G5
            have Hm5 := Lib.hid (G5.mod0 (Hm2.out.trans' (Gou.Mod.alloc0 _ _)) (own_ge Hown2.out))
            have Hown5 := Lib.hid G5.own
            clear G5
            obtain ⟨p5, c5, rfl⟩ := Gou.ownsRow_form Hown5.out
            go_wp2_with fail
            go_roundw
            case rel =>
              refine ⟨i + 1, edgeNums (preOf a b j ++ l.take (i + 1)), by go_num, by have := Hin.out; omega, rfl, ?_, Hm5.out⟩
              rw [Hs2.out]; have h := Hown5.out; simpa [ivs] using h
            case measure => have := Hin.out; simp [intOf, wi]; omega
          | false =>
            have Hs2 : Hid (edgeNums (preOf a b j ++ l.take (i + 1)) = xs) := Lib.hid (by rw [Hstep.out, if_neg (of_decide_eq_false Hq.out.symm), List.append_nil])
            clear Hstep Hq
            go_wp2_with fail
            go_roundw
            case rel =>
              exact ⟨i + 1, edgeNums (preOf a b j ++ l.take (i + 1)), by go_num, by have := Hin.out; omega, rfl, by rw [Hs2.out]; exact Hown2.out, Hm2.out⟩
            case measure => have := Hin.out; simp [intOf, wi]; omega
        · obtain rfl : i = l.length := by omega
          have t1 : decide ((l.length : Int) < (l.length : Int)) = false := decide_eq_false (by omega)
          rw [List.take_length, ← Hpre.out] at Hxs
          go_wp2_with fail
          go_roundw
          case rel => exact ⟨j + 1, xs, by go_num, by have := Hj.out; omega, Hxs.out, Hown.out, Hm.out⟩
          case measure => have := Hj.out; simp [intOf, wj]; omega
    · obtain rfl : j = 2 := by omega
      have e1 : decide (((2 : Nat) : Int) < 2) = false := rfl
      have hxl : xs.length ≤ 2 * (a ++ b).length := by rw [hxs]; exact edgeNums_len _
      have Hxl : Hid (xs.length ≤ 2 * (a ++ b).length ∧ xs.length ≤ 4000000) := Lib.hid ⟨hxl, by have := Hn.out; simp at hxl; omega⟩
      have Hxs : Hid (xs = edgeNums (a ++ b)) := Lib.hid hxs
      have Hown := Lib.hid hown
      have Hm := Lib.hid hm
      clear hxs hown hm hxl
      go_wp2_with fail
      refine (sortInt_any _ w.heap.size (.slice po xs.length co) xs Hown.out (by have := Hxl.out; omega)).mono ?_
      rintro e w2 ⟨rfl, hm2, ys, hp, hs, hv⟩
      have Hm2 := Lib.hid (Gou.Mod.own Hm.out Hown.out hm2)
      have Hys := Lib.hid (And.intro hp hs)
      have hyl := hp.length_eq
      clear hm2 hp hs
      rcases hv with ⟨hv, hy0⟩ | ⟨g, cap, hv, hgB, hg, hcap, hH⟩
      · simp only [Value.slice.injEq] at hv
        obtain ⟨rfl, hx0, rfl⟩ := hv
        subst hy0
        have hx0' : xs = [] := List.length_eq_zero_iff.1 hx0
        subst hx0'
        go_wp2_with fail
        refine (AnyG.slices_Compact_int_empty compInt none 0 _).mono ?_
        rintro e w3 ⟨rfl, rfl⟩
        go_wp2_with fail
        go_ret
        exact ⟨Hm2.out, _, [], rfl, RowG.nil _ _ _, List.Pairwise.nil, fun y => by rw [← Hxs.out], by simp⟩
      · simp only [Value.slice.injEq] at hv
        obtain ⟨rfl, hx0, rfl⟩ := hv
        have hcon := compInt_any w2 g co ys hH hg hcap (by have := Hxl.out; omega)
        rw [hyl] at hcon
        have Hg := Lib.hid hgB
        have Hyl := Lib.hid hyl
        clear hH hcap hx0 hyl
        go_wp2_with fail
        refine hcon.mono ?_
        clear hcon
        rintro e w3 ⟨hm3, rfl, hi3⟩
        have Hend : Hid (EdgesP w (a ++ b) (.returned (.slice (some ⟨g, 0, none⟩) (Go.Lib.compact ys).length co)) w3) := Lib.hid ⟨Hm2.out.trans hm3 (fun k hk h => by have := Hg.out; omega), _, Go.Lib.compact ys, rfl, hi3.imp (fun k _ h => by rw [h]; exact Hg.out), compact_up Hys.out.2,
          fun y => by rw [compact_mem, Hys.out.1.mem_iff, Hxs.out], Nat.le_trans (compact_len ys) (by have := Hxl.out; have := Hyl.out; omega)⟩
        clear hm3 hi3
        go_wp2_with fail
        go_ret
        exact Hend.out

end Go.Proofs.Ytapeafokcailkaa
