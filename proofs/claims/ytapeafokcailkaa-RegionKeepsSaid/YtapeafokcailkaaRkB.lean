/- Regions: a row of spans is sorted; a row of numbers is sorted. -/
import Derived.Test.YtapeafokcailkaaRkA
import Derived.Test.YtapeafokcailkaaRjL
set_option linter.unusedSimpArgs false
set_option linter.unusedVariables false
set_option linter.unusedSectionVars false
set_option linter.constructorNameAsVariable false
namespace Go.Gou
open Go.RowKit Go.Reg

instance : Inhabited Sp := ⟨⟨0, 0⟩⟩

theorem mod_putRow {α : Type} [Inhabited α] (enc : α → Value) (w : World) (n blk off : Nat) (d : Array α) (os : Array Obj) : Mod (fun k => k = blk) w (Sort.grow (Sort.putRow enc (Sort.ahead w n) blk off d) os) := by
  refine ⟨rfl, rfl, rfl, ?_, fun k hk hs => ?_⟩
  · show w.heap.size ≤ ((Sort.putRow enc (Sort.ahead w n) blk off d).heap ++ os).size
    rw [Array.size_append, Sort.size_putRow]
    show w.heap.size ≤ w.heap.size + _
    omega
  · show ((Sort.putRow enc (Sort.ahead w n) blk off d).heap ++ os)[k]? = _
    rw [Array.getElem?_append_left (by rw [Sort.size_putRow]; exact hk)]
    show (w.heap.modify blk _)[k]? = _
    rw [Array.getElem?_modify, if_neg (fun e => hs e.symm)]

/-- A span's cells, its beginning cut to the plane. -/
def encN (s : Sp) : List Value := [.int .i64 (cutN s.a), .int .i64 s.b]
def cfN (x y : Sp) : Int := cutN x.a - cutN y.a

theorem ltN (x y : Sp) : Go.Proofs.ltOf cfN x y = decide (cutN x.a < cutN y.a) := by
  unfold Go.Proofs.ltOf cfN
  rw [decide_eq_decide]
  omega
theorem swoN : Sort.SWO (Go.Proofs.ltOf cfN) where
  irrefl x := by rw [ltN]; simp
  trans x y z h1 h2 := by rw [ltN] at *; simp at *; omega
  ntrans x y z h1 h2 := by rw [ltN] at *; simp at *; omega

theorem encN_near {s : Sp} (h : Near s.a) : encN s = spC s := by
  unfold Near far at h
  have : cutN s.a = s.a := by unfold cutN far; omega
  simp [encN, spC, this]

theorem holds_sps {w : World} {B g cap n : Nat} {e : TypeId} {l : List Sp} (hn : n = l.length) (h : w.ownsRow B e 2 (.slice (some ⟨g, 0, none⟩) n cap) n (sps l)) (hN : ∀ s ∈ l, Near s.a) : Sort.HoldsK encN 2 w g 0 l.toArray := by
  subst hn
  intro j hj
  rw [Sort.size_flatK] at hj
  rw [Sort.get_flatK _ _ _ _ hj, Nat.zero_add]
  have hj' : j < l.length * 2 := by simpa using hj
  refine ⟨?_, h.frozenAt j⟩
  rw [h.cellAt j hj']
  clear hj h
  obtain ⟨q, r, hr, rfl⟩ : ∃ q r, r < 2 ∧ j = q * 2 + r := ⟨j / 2, j % 2, by omega, by omega⟩
  have hi : q < l.length := by omega
  have hq : (q * 2 + r) / 2 = q := by omega
  have hm : (q * 2 + r) % 2 = r := by omega
  have hb : l.toArray[q]! = l[q] := by simp [hi]
  obtain ⟨g0, g1⟩ := sps_get l q hi
  rw [hq, hm, hb, encN_near (hN _ (List.getElem_mem hi))]
  rcases (by omega : r = 0 ∨ r = 1) with rfl | rfl
  · rw [Nat.add_zero, g0]; rfl
  · rw [g1]; rfl

theorem spR_of_holds {w : World} {g cap n : Nat} {l : List Sp} (hn : n = l.length) (hcap : n ≤ cap) (hg : g < w.heap.size) (h : Sort.HoldsK encN 2 w g 0 l.toArray) (hN : ∀ s ∈ l, Near s.a) (G : Nat → Prop) (hG : G g) : SpR G w (.slice (some ⟨g, 0, none⟩) n cap) l := by
  subst hn
  refine ⟨by rw [sps_len], _, cap, rfl, hcap, .inr ⟨g, 0, rfl, hg, hG, fun j u hu => ?_⟩⟩
  have hj : j < l.length * 2 := by
    have := (List.getElem?_eq_some_iff.1 hu).1
    rwa [sps_len] at this
  obtain ⟨q, r, hr, rfl⟩ : ∃ q r, r < 2 ∧ j = q * 2 + r := ⟨j / 2, j % 2, by omega, by omega⟩
  have hi : q < l.length := by omega
  have hc := (Sort.HoldsK.cell h (i := q) (c := r) (by simpa using hi) (by omega)).1
  have hb : l.toArray[q]! = l[q] := by simp [hi]
  rw [hb, encN_near (hN _ (List.getElem_mem hi))] at hc
  obtain ⟨g0, g1⟩ := sps_get l q hi
  rw [← Nat.add_assoc, hc, ← hu]
  rcases (by omega : r = 0 ∨ r = 1) with rfl | rfl
  · rw [Nat.add_zero, g0]; rfl
  · rw [g1]; rfl

/-- What the sort has left: the same spans, rising. -/
theorem sorted_rise {l : List Sp} {d' : Array Sp} (hp : Sort.PermIn 0 l.toArray.size l.toArray d') (hs : Sort.SortedIn (Go.Proofs.ltOf cfN) 0 l.toArray.size d') (hN : ∀ s ∈ l, Near s.a) : d'.size = l.length ∧ d'.toList.Perm l ∧ Rise d'.toList := by
  obtain ⟨h1, _, h3⟩ := hp
  have hz : d'.size = l.length := by simpa using h1
  have hperm : d'.toList.Perm l := by
    have e1 : d'.extract 0 l.toArray.size = d' := by rw [← h1]; simp
    have e2 : l.toArray.extract 0 l.toArray.size = l.toArray := by simp
    rw [e1, e2] at h3
    simpa using h3
  refine ⟨hz, hperm, ?_⟩
  rw [Rise, List.pairwise_iff_getElem]
  intro i j hi hj hij
  have hj' : j < d'.size := by simpa using hj
  have hi' : i < d'.size := by simpa using hi
  have := hs i j (by omega) hij (by rw [← h1]; exact hj')
  rw [ltN] at this
  have n1 := hN _ (hperm.mem_iff.1 (List.getElem_mem hi))
  have n2 := hN _ (hperm.mem_iff.1 (List.getElem_mem hj))
  have e1 : d'[i]! = d'.toList[i] := by simp [hi']
  have e2 : d'[j]! = d'.toList[j] := by simp [hj']
  rw [e1, e2] at this
  simp only [decide_eq_false_iff_not] at this
  unfold Near cutN far at *
  omega

end Go.Gou
namespace Go.Proofs.Ytapeafokcailkaa
open Go.RowKit Go.Gou Go.Reg Go.Shelf
set_option maxRecDepth 100000

set_option maxHeartbeats 1000000 in
theorem closure_any (a0 a1 b0 b1 : Int) (W : World) (hw : IntKind.i64.wrap (a0 - b0) = a0 - b0) :
    Calls Try.prog 69 #[.agg #[.int .i64 a0, .int .i64 a1], .agg #[.int .i64 b0, .int .i64 b1]] W fun e w' => e = .returned (.int .i64 (a0 - b0)) ∧ ∃ q os', w' = Sort.grow (W.drewN q) os' := by
  go_enter Try.func69, Try.ntmps69
  go_wp2
  go_ret
  exact ⟨rfl, 0, _, by rw [Sort.alloc_eq_grow, Sort.alloc_eq_grow, Sort.grow_grow]; rfl⟩

theorem sortSp_any (w : World) (B : Nat) (v : Value) (l : List Sp) (hown : w.ownsRow B 63 2 v l.length (sps l)) (hN : ∀ s ∈ l, Near s.a) (hl : l.length ≤ 1000000) :
    Calls Try.prog 68 #[v, .func (.func 69) #[] #[]] w fun e w' => e = .returned (.tuple #[]) ∧ Gou.Mod (fun k => v.ownBlock = some k) w w' ∧ ∃ l' : List Sp, l'.Perm l ∧ Rise l' ∧ SpR (fun _ => True) w' v l' := by
  have hlt := hown.lt
  rcases hown.2 with ⟨rfl, h0⟩ | ⟨g, cap, cur, rfl, hg, hh, hn, _⟩
  · have hl0 : l = [] := List.length_eq_zero_iff.1 h0
    subst hl0
    refine (AnyF.slices_SortFunc_none sortSp none 0 _ w).mono ?_
    rintro e w' ⟨rfl, rfl⟩
    exact ⟨rfl, Gou.Mod.refl _ _, [], List.Perm.refl _, List.Pairwise.nil, RowG.nil _ _ _⟩
  · have eg : ∀ args w, (callFunc 69 args).run Try.prog w = .ok (.enter 69 args) w := enters_of Try.func69 (by kernel_rfl) rfl
    have hH := holds_sps rfl hown hN
    have hc : CmpLays Try.prog 69 #[] encN 2 cfN g 0 l.toArray.size w := fun _ _ _ _ x y => closure_any _ _ _ _ _ (wrap_id (by unfold cutN far; omega) (by unfold cutN far; omega))
    have hcon := AnyQ.slices_SortFunc sortSp 2 Try.isAgg63 Try.sizeOf63 encN (fun _ => rfl) (fun x v hv => by simp [encN] at hv; rcases hv with rfl | rfl <;> rfl) cfN swoN 69 #[] g 0 cap l.toArray w eg hc hH (hlt g rfl).2 (by simp; omega)
    have hsz : l.toArray.size = l.length := by simp
    rw [hsz] at hcon
    refine hcon.mono ?_
    rintro e w' ⟨rfl, d', n, os, hp, hs, rfl⟩
    obtain ⟨hz, hperm, hrise⟩ := sorted_rise (by rw [hsz]; exact hp) (by rw [hsz]; exact hs) hN
    refine ⟨rfl, (mod_putRow _ w n g 0 _ os).imp (fun k _ h => by rw [h]; rfl), d'.toList, hperm, hrise, ?_⟩
    have hH' := holdsK_sortWorldK_c encN 2 w g 0 l.toArray d' n os hH (hlt g rfl).2 (by rw [hsz]; exact hz)
    refine spR_of_holds (by rw [Array.length_toList]; exact hz.symm) hn ?_ (by simpa using hH') (fun s hs => hN s (hperm.mem_iff.1 hs)) _ trivial
    exact Nat.lt_of_lt_of_le (hlt g rfl).2 (size_sortWorldK_c encN 2 w g 0 n d' os)

end Go.Proofs.Ytapeafokcailkaa
