/- Texts of the scenes' proofs, laid together: ScC, ScG, ScL, ScW, Defer, Rk, ScH, ScI. -/
import Derived.Test.YtpbmfalokongfaaGreatDoorZaa
import Derived.Shelf.SlicesE.Clone
import Derived.Shelf.SlicesE.Index
import Derived.Shelf.SlicesE.IndexFunc
import Derived.Shelf.SlicesQ.IndexFunc
import Derived.Test.YtpbmfalokongfaaGreatDoorProg
import Derived.Maps.AppendAt
import Derived.Deep.RegionHeld
import Derived.Great.BuildSlice
import Derived.Laws.Rows
set_option maxHeartbeats 64000000
set_option linter.unusedSimpArgs false
set_option linter.unusedVariables false
set_option linter.unusedSectionVars false
set_option linter.constructorNameAsVariable false
namespace Go.Gou
namespace Ly
theorem ugc {ks : List Ly} {i : Nat} {k : Ly} (h : ks[i]? = some k) : ∃ r, (idsL ks).Perm (k.ids ++ r) ∧ ∀ k' : Ly, (idsL (ks.set i k')).Perm (k'.ids ++ r) := by
 induction ks generalizing i with
 | nil => simp at h
 | cons a ks ih =>
  cases i with
  | zero =>
   simp at h
   subst h
   exact ⟨idsL ks, by rw [idsL], fun k' => by rw [List.set_cons_zero, idsL]⟩
  | succ i =>
   rw [List.getElem?_cons_succ] at h
   obtain ⟨r, h1, h2⟩ := ih h
   have sw : ∀ x : List Idt, (a.ids ++ (x ++ r)).Perm (x ++ (a.ids ++ r)) := fun x => by
    rw [← List.append_assoc, ← List.append_assoc]
    exact List.Perm.append_right _ List.perm_append_comm
   exact ⟨a.ids ++ r, by rw [idsL]; exact (List.Perm.append_left _ h1).trans (sw _), fun k' => by rw [List.set_cons_succ, idsL]; exact (List.Perm.append_left _ (h2 k')).trans (sw _)⟩
theorem uf1 : ∀ {π : List Nat} {l s : Ly}, l.get? π = some s → ∃ r, l.ids.Perm (s.ids ++ r) ∧ ∀ s' : Ly, (l.put π s').ids.Perm (s'.ids ++ r)
 | [], l, s, h => by cases h; exact ⟨[], by simp, fun s' => by simp [put]⟩
 | i :: π, l, s, h => by
  obtain ⟨j, lk, ks⟩ := l
  rw [get?, kids_mk] at h
  cases hk : ks[i]? with
  | none => rw [hk] at h; cases h
  | some k =>
   rw [hk] at h
   obtain ⟨r1, h1, h2⟩ := uf1 (π := π) (l := k) h
   obtain ⟨r2, h3, h4⟩ := ugc hk
   have sw : ∀ x : List Idt, (j :: ((x ++ r1) ++ r2)).Perm (x ++ (j :: (r1 ++ r2))) := fun x => by
    rw [List.append_assoc]
    exact List.perm_middle.symm
   refine ⟨j :: (r1 ++ r2), ?_, fun s' => ?_⟩
   ·rw [ids]
    exact ((h3.trans (List.Perm.append_right _ h1)).cons j).trans (sw _)
   ·rw [put, kids_mk, hk]
    simp only [ids]
    exact (((h4 _).trans (List.Perm.append_right _ (h2 s'))).cons j).trans (sw _)
theorem put_id {π : List Nat} {l s : Ly} (h : l.get? π = some s) (s' : Ly) (hs : s'.id = s.id) : (l.put π s').id = l.id := by
 cases π with
 | nil => cases h; exact hs
 | cons i π =>
  rw [put]
  cases hk : l.kids[i]? with
  | none => rfl
  | some k => rfl
theorem get_height : ∀ {π : List Nat} {l s : Ly}, l.get? π = some s → π.length + s.height ≤ l.height
 | [], l, s, h => by cases h; simp
 | i :: π, l, s, h => by
  rw [get?] at h
  cases hk : l.kids[i]? with
  | none => rw [hk] at h; cases h
  | some k =>
   rw [hk] at h
   have h1 := get_height (π := π) (l := k) h
   have h2 := (heightL_le.1 (Nat.le_refl (heightL l.kids))) k (lmG hk)
   rw [ubp l, List.length_cons]
   omega
theorem udi : ∀ {π : List Nat} {l s : Ly} {n : Nat} (s' : Ly), l.get? π = some s → l.height ≤ n → π.length + s'.height ≤ n → (l.put π s').height ≤ n
 | [], l, s, n, s', h, h1, h2 => by rw [put]; simpa using h2
 | i :: π, l, s, n, s', h, h1, h2 => by
  rw [get?] at h
  cases hk : l.kids[i]? with
  | none => rw [hk] at h; cases h
  | some k =>
   rw [hk] at h
   rw [put, hk]
   simp only
   rw [ubp, kids_mk, heightL_le]
   rw [ubp, heightL_le] at h1
   intro a ha
   rcases List.mem_or_eq_of_mem_set ha with ha | rfl
   ·exact h1 a ha
   ·have h3 := h1 k (lmG hk)
    rw [List.length_cons] at h2
    have := udi (π := π) (l := k) (n := n - 1) s' h (by omega) (by omega)
    omega
theorem uju {n : Int} {m : Ly} {ks : List Ly} (h : 0 ≤ n ∧ n ≤ ks.length) : (idsL (insAt n m ks)).Perm (m.ids ++ idsL ks) := by
 rw [insAt, if_pos h, idsL_eq, idsL_eq]
 conv => rhs; rw [← List.take_append_drop n.toNat ks]
 rw [List.flatMap_append, List.flatMap_append, List.flatMap_cons, ← List.append_assoc, ← List.append_assoc]
 exact List.Perm.append_right _ List.perm_append_comm
theorem ug5 {n : Int} {m : Ly} {ks : List Ly} {b : Nat} (h1 : heightL ks ≤ b) (h2 : 1 + m.height ≤ b) : heightL (insAt n m ks) ≤ b := by
 rw [heightL_le] at h1 ⊢
 intro k hk
 rw [insAt] at hk
 split at hk
 ·rw [List.mem_append, List.mem_cons] at hk
  rcases hk with hk | rfl | hk
  ·exact h1 k (List.mem_of_mem_take hk)
  ·exact h2
  ·exact h1 k (List.mem_of_mem_drop hk)
 ·exact h1 k hk
theorem ujx {ks : List Ly} {i : Nat} {k : Ly} (h : ks[i]? = some k) : (idsL ks).Perm (k.ids ++ idsL (ks.eraseIdx i)) := by
 induction ks generalizing i with
 | nil => simp at h
 | cons a ks ih =>
  cases i with
  | zero =>
   simp at h
   subst h
   rw [List.eraseIdx_cons_zero, idsL]
  | succ i =>
   rw [List.getElem?_cons_succ] at h
   rw [List.eraseIdx_cons_succ, idsL, idsL]
   refine (List.Perm.append_left _ (ih h)).trans ?_
   rw [← List.append_assoc, ← List.append_assoc]
   exact List.Perm.append_right _ List.perm_append_comm
theorem uha {ks : List Ly} {i : Nat} {b : Nat} (h1 : heightL ks ≤ b) : heightL (ks.eraseIdx i) ≤ b := by
 rw [heightL_le] at h1 ⊢
 exact fun k hk => h1 k (List.mem_of_mem_eraseIdx hk)
theorem with_facts {l x : Ly} {to : Idt} {d : Nat} {n : Int} (m : Ly) (hn : l.ids.Nodup) (hf : l.find to = some (x, d)) (hat : 0 ≤ n ∧ n ≤ x.kids.length) :
 (l.with_ to n m).ids.Perm (m.ids ++ l.ids) ∧ (l.with_ to n m).id = l.id ∧ ∀ b, l.height ≤ b → d + 1 + m.height ≤ b → (l.with_ to n m).height ≤ b := by
 obtain ⟨π, h1, h2, rfl, h4⟩ := find_some hf
 have e : l.with_ to n m = _ := updK_put (f := insAt n m) hn h1 h2
 rw [e]
 obtain ⟨r, h5, h6⟩ := uf1 h2
 have h7 := h6 (.mk x.id x.look (insAt n m x.kids))
 refine ⟨?_, put_id h2 _ rfl, fun b hb1 hb2 => ?_⟩
 ·refine h7.trans ?_
  rw [ids]
  refine ((uju hat).cons x.id |>.append_right r).trans ?_
  refine List.Perm.trans ?_ (List.Perm.append_left _ h5.symm)
  have e2 : x.ids = x.id :: idsL x.kids := by rw [← ids_mk x.id x.look x.kids, eta]
  rw [e2, List.cons_append, List.append_assoc, List.cons_append]
  exact List.perm_middle.symm
 ·have h8 := get_height h2
  refine udi _ h2 hb1 ?_
  rw [ubp, kids_mk]
  have h9 : heightL (insAt n m x.kids) ≤ b - π.length := ug5 (by rw [← ubp]; omega) (by omega)
  omega
theorem ujn {l : Ly} {x : Idt} (hx : x ∈ l.ids) (hr : l.id ≠ x) : ∃ p s k, l.parPath x = some p ∧ l.get? p.1 = some s ∧ s.kids[p.2]? = some k ∧ k.id = x := by
 cases h : l.parPath x with
 | none =>
  refine absurd ?_ ((udr l).1 h)
  rw [← eta l, ids, List.mem_cons] at hx
  exact hx.resolve_left (fun e => hr e.symm)
 | some p =>
  obtain ⟨s, k, h1, h2, h3⟩ := uem h
  exact ⟨p, s, k, rfl, h1, h2, h3⟩
theorem get_snoc : ∀ {π : List Nat} {l s k : Ly} {i : Nat}, l.get? π = some s → s.kids[i]? = some k → l.get? (π ++ [i]) = some k
 | [], l, s, k, i, h, hk => by
  cases h
  rw [List.nil_append, get?, hk]
  rfl
 | j :: π, l, s, k, i, h, hk => by
  rw [get?] at h
  rw [List.cons_append, get?]
  cases hj : l.kids[j]? with
  | none => rw [hj] at h; cases h
  | some k' => rw [hj] at h; exact get_snoc (π := π) (l := k') h hk
theorem get_path {x : Idt} : ∀ {π : List Nat} {l s : Ly}, l.ids.Nodup → l.get? π = some s → s.id = x → l.pathOf x = some π := by
 intro π
 induction π with
 | nil =>
  intro l s hn h hs
  cases h
  obtain ⟨i, lk, ks⟩ := l
  rw [id_mk] at hs
  rw [pathOf, if_pos hs]
 | cons i π ih =>
  intro l s hn h hs
  obtain ⟨j, lk, ks⟩ := l
  rw [get?, kids_mk] at h
  rw [ids, List.nodup_cons] at hn
  cases hk : ks[i]? with
  | none => rw [hk] at h; cases h
  | some k =>
   rw [hk] at h
   obtain ⟨hn1, hn2⟩ := ucb hn.2 hk
   have h1 := ih hn1 h hs
   have hx : x ∈ k.ids := by
    by_cases hx : x ∈ k.ids
    ·exact hx
    ·rw [(pathOf_none k).2 hx] at h1; cases h1
   rw [pathOf, if_neg (fun (e : j = x) => hn.1 (mem_idsL.2 ⟨k, lmG hk, e.symm ▸ hx⟩))]
   cases hp : ucr x 0 ks with
   | none =>
    rw [pathL_none.1 hp k (lmG hk)] at h1
    cases h1
   | some ρ =>
    obtain ⟨j', k', ρ', g1, g2, g3, _⟩ := ub7 hp
    have hx' : x ∈ k'.ids := by
     by_cases hx : x ∈ k'.ids
     ·exact hx
     ·rw [(pathOf_none k').2 hx] at g2; cases g2
    have : j' = i := Classical.byContradiction fun hne => hn2 x hx j' k' hne g1 hx'
    subst this
    rw [hk] at g1
    cases g1
    rw [h1] at g2
    cases g2
    rw [g3, Nat.zero_add]
theorem find_of_get {x : Idt} {π : List Nat} {l s : Ly} (hn : l.ids.Nodup) (h : l.get? π = some s) (hs : s.id = x) : l.find x = some (s, π.length) := by
 rw [find_eq, get_path hn h hs]
 simp [h]
theorem without_facts {l : Ly} {x : Idt} (hn : l.ids.Nodup) (hx : x ∈ l.ids) (hr : l.id ≠ x) : ∃ p s k, l.parPath x = some p ∧ l.get? p.1 = some s ∧ s.kids[p.2]? = some k ∧ k.id = x ∧
 l.find x = some (k, p.1.length + 1) ∧ l.without x = l.put p.1 (.mk s.id s.look (s.kids.eraseIdx p.2)) ∧ l.ids.Perm (k.ids ++ (l.without x).ids) ∧ (l.without x).id = l.id ∧ (l.without x).height ≤ l.height ∧
 (l.without x).get? p.1 = some (.mk s.id s.look (s.kids.eraseIdx p.2)) := by
 obtain ⟨p, s, k, h1, h2, h3, h4⟩ := ujn hx hr
 have e := uhp hn h1 h2
 refine ⟨p, s, k, h1, h2, h3, h4, ?_, e, ?_, ?_, ?_, ?_⟩
 ·rw [find_of_get hn (get_snoc h2 h3) h4]
  simp
 ·rw [e]
  obtain ⟨r, h5, h6⟩ := uf1 h2
  refine h5.trans (List.Perm.trans ?_ (List.Perm.append_left _ (h6 _)).symm)
  have e2 : s.ids = s.id :: idsL s.kids := by rw [← ids_mk s.id s.look s.kids, eta]
  rw [e2, ids, ← List.append_assoc]
  refine List.Perm.append_right _ ?_
  exact ((ujx h3).cons s.id).trans List.perm_middle.symm
 ·rw [e]; exact put_id h2 _ rfl
 ·rw [e]
  have h8 := get_height h2
  refine udi _ h2 (Nat.le_refl _) ?_
  rw [ubp, kids_mk]
  have := uha (i := p.2) (Nat.le_refl (heightL s.kids))
  rw [← ubp s] at this
  omega
 ·rw [e]
  clear e h1 h3 h4
  obtain ⟨π, i⟩ := p
  simp only at h2 ⊢
  clear hn hx hr
  induction π generalizing l with
  | nil => rfl
  | cons j π ih =>
   rw [get?] at h2
   rw [put]
   cases hj : l.kids[j]? with
   | none => rw [hj] at h2; cases h2
   | some k' =>
    rw [hj] at h2
    simp only
    rw [get?, kids_mk, List.getElem?_set_self (lgS.1 hj).1]
    exact ih h2
theorem looks_facts {l : Ly} {x : Idt} (v : Lk) : (l.looks x v).ids = l.ids ∧ (l.looks x v).height = l.height ∧ (l.looks x v).id = l.id := by
 refine ⟨?_, ?_, ?_⟩
 ·induction l using ind with
  | h i lk ks ih =>
   rw [looks, ubu, ids, ids, idsL_eq, idsL_eq]
   congr 1
   rw [List.flatMap_map, List.flatMap_def, List.flatMap_def, List.map_congr_left (fun k hk => ih k hk)]
 ·induction l using ind with
  | h i lk ks ih =>
   rw [looks, ubu, height, height]
   have key : ∀ ks : List Ly, (∀ k ∈ ks, (k.looks x v).height = k.height) → heightL (ks.map (looks x v)) = heightL ks := by
    intro ks
    induction ks with
    | nil => intro _; rfl
    | cons k ks ihk => intro h; rw [List.map_cons, heightL, heightL, h k (by simp), ihk (fun a ha => h a (by simp [ha]))]
   exact key ks ih
 ·cases l; rw [looks]; rfl
end Ly
theorem ue6 {l : List Bool} {i : Nat} (h : l[i]? = some true) : (l.set i false).count true + 1 = l.count true := by
 induction l generalizing i with
 | nil => simp at h
 | cons a l ih =>
  cases i with
  | zero => simp at h; subst h; simp
  | succ i =>
   rw [List.getElem?_cons_succ] at h
   rw [List.set_cons_succ, List.count_cons, List.count_cons, ← ih h]
   omega
theorem ufg {l : List Bool} {i : Nat} (h : l[i]? = some false) : (l.set i true).count true = l.count true + 1 := by
 induction l generalizing i with
 | nil => simp at h
 | cons a l ih =>
  cases i with
  | zero => simp at h; subst h; simp
  | succ i =>
   rw [List.getElem?_cons_succ] at h
   rw [List.set_cons_succ, List.count_cons, List.count_cons, ih h]
   omega
theorem Ar.has_iff {a : Ar} {x : Idt} : a.has x = true ↔ ∃ i : Nat, x.1 = i ∧ a.live[i]? = some true ∧ a.gens[i]? = some x.2 := by
 unfold Ar.has
 simp only [Bool.and_eq_true, decide_eq_true_eq]
 constructor
 ·rintro ⟨h1, h2, h3⟩
  refine ⟨x.1.toNat, by omega, ?_, h3⟩
  rw [List.getD_eq_getElem?_getD] at h2
  cases h : a.live[x.1.toNat]? with
  | none => rw [h] at h2; cases h2
  | some q => rw [h] at h2; simp at h2; rw [h2]
 ·rintro ⟨i, h1, h2, h3⟩
  rw [h1]
  refine ⟨by omega, ?_, by simpa using h3⟩
  rw [List.getD_eq_getElem?_getD, Int.toNat_natCast, h2]
  rfl
structure ArOk (a : Ar) (n : Nat) : Prop where
 len : a.gens.length = a.live.length
 gen : ∀ g ∈ a.gens, 0 ≤ g ∧ g ≤ n
 g0 : a.gens[0]? = some 0
 l0 : a.live[0]? = some true
theorem Ar.has_at0 {a : Ar} {n : Nat} (h : ArOk a n) {x : Idt} (hx : a.has x = true) (h0 : x.1 = 0) : x = (0, 0) := by
 obtain ⟨i, h1, h2, h3⟩ := Ar.has_iff.1 hx
 obtain rfl : i = 0 := by omega
 rw [h.g0] at h3
 obtain ⟨u, v⟩ := x
 simp at h0 h3
 rw [h0, ← h3]
theorem Ar.free_ok {a : Ar} {n : Nat} (h : ArOk a n) {y : Idt} (hy : a.has y = true) (h0 : y ≠ (0, 0)) :
 ArOk (a.free y) (n + 1) ∧ (a.free y).gens.length = a.gens.length ∧ (a.free y).count + 1 = a.count ∧ ∀ x, (a.free y).has x = true ↔ a.has x = true ∧ x ≠ y := by
 have hy0 : y.1 ≠ 0 := fun e => h0 (Ar.has_at0 h hy e)
 obtain ⟨i, h1, h2, h3⟩ := Ar.has_iff.1 hy
 have e : a.free y = ⟨a.gens.set i (y.2 + 1), a.live.set i false⟩ := by
  unfold Ar.free
  rw [if_pos ⟨hy, hy0⟩, h1, Int.toNat_natCast]
 have hi : i ≠ 0 := by omega
 rw [e]
 refine ⟨⟨?_, ?_, ?_, ?_⟩, ?_, ?_, ?_⟩
 ·simp [h.len]
 ·intro g hg
  rcases List.mem_or_eq_of_mem_set hg with hg | rfl
  ·have := h.gen g hg; omega
  ·have := h.gen y.2 (lmG h3); omega
 ·simp only; rw [List.getElem?_set_ne hi]; exact h.g0
 ·simp only; rw [List.getElem?_set_ne hi]; exact h.l0
 ·simp
 ·exact ue6 h2
 ·intro x
  rw [Ar.has_iff, Ar.has_iff]
  simp only
  constructor
  ·rintro ⟨j, g1, g2, g3⟩
   by_cases hj : i = j
   ·subst hj
    rw [List.getElem?_set_self (lgS.1 h2).1] at g2
    cases g2
   ·rw [List.getElem?_set_ne hj] at g2 g3
    exact ⟨⟨j, g1, g2, g3⟩, fun e => hj (by rw [e, h1] at g1; omega)⟩
  ·rintro ⟨⟨j, g1, g2, g3⟩, hne⟩
   by_cases hj : i = j
   ·subst hj
    rw [h3] at g3
    refine absurd ?_ hne
    obtain ⟨u, v⟩ := x
    obtain ⟨u', v'⟩ := y
    simp at g1 h1 g3
    rw [g1, h1, g3]
   ·exact ⟨j, g1, by rw [List.getElem?_set_ne hj]; exact g2, by rw [List.getElem?_set_ne hj]; exact g3⟩
theorem Ar.frees_ok : ∀ {L : List Idt} {a : Ar} {n : Nat}, ArOk a n → L.Nodup → (∀ y ∈ L, a.has y = true ∧ y ≠ (0, 0)) →
 ArOk (L.foldl Ar.free a) (n + L.length) ∧ (L.foldl Ar.free a).gens.length = a.gens.length ∧ (L.foldl Ar.free a).count + L.length = a.count ∧ ∀ x, (L.foldl Ar.free a).has x = true ↔ a.has x = true ∧ x ∉ L
 | [], a, n, h, _, _ => ⟨h, rfl, rfl, fun x => by simp⟩
 | y :: L, a, n, h, hn, hL => by
  rw [List.nodup_cons] at hn
  obtain ⟨h1, h2, h3, h4⟩ := Ar.free_ok h (hL y (by simp)).1 (hL y (by simp)).2
  obtain ⟨g1, g2, g3, g4⟩ := Ar.frees_ok h1 hn.2 (fun x hx => ⟨(h4 x).2 ⟨(hL x (by simp [hx])).1, fun e => hn.1 (e ▸ hx)⟩, (hL x (by simp [hx])).2⟩)
  refine ⟨?_, ?_, ?_, fun x => ?_⟩
  ·rw [List.foldl_cons, List.length_cons, show n + (L.length + 1) = n + 1 + L.length by omega]; exact g1
  ·rw [List.foldl_cons, g2, h2]
  ·rw [List.foldl_cons, List.length_cons]; omega
  ·rw [List.foldl_cons, g4, h4, List.mem_cons, not_or, and_assoc]
theorem Ar.take_ok {a : Ar} {n : Nat} (h : ArOk a n) {b : Ar} {y : Idt} (ht : a.take = some (b, y)) :
 ArOk b n ∧ b.gens.length ≤ a.gens.length + 1 ∧ b.count = a.count + 1 ∧ a.has y = false ∧ ∀ x, b.has x = true ↔ a.has x = true ∨ x = y := by
 have key : a.has y = false ∧ (∀ x, b.has x = true ↔ a.has x = true ∨ x = y) → a.has y = false ∧ ∀ x, b.has x = true ↔ a.has x = true ∨ x = y := fun h => h
 unfold Ar.take at ht
 cases hf : a.live.findIdx? (fun q => !q) with
 | some i =>
  rw [hf] at ht
  simp only [Option.some.injEq, Prod.mk.injEq] at ht
  obtain ⟨rfl, rfl⟩ := ht
  obtain ⟨hi, hp, _⟩ := List.findIdx?_eq_some_iff_getElem.1 hf
  have hl : a.live[i]? = some false := by rw [lgE hi]; simpa using hp
  have hg : a.gens[i]? = some (a.gens.getD i 0) := by
   rw [List.getD_eq_getElem?_getD, lgE (by rw [h.len]; exact hi)]; rfl
  have hi0 : i ≠ 0 := fun e => by rw [e, h.l0] at hl; cases hl
  refine ⟨⟨by simp [h.len], h.gen, h.g0, ?_⟩, by simp, ufg hl, ?_, fun x => ?_⟩
  ·simp only; rw [List.getElem?_set_ne hi0]; exact h.l0
  ·rw [Bool.eq_false_iff]
   intro hh
   obtain ⟨j, g1, g2, g3⟩ := Ar.has_iff.1 hh
   obtain rfl : i = j := Int.ofNat.inj g1
   rw [hl] at g2
   cases g2
  ·rw [Ar.has_iff, Ar.has_iff]
   simp only
   constructor
   ·rintro ⟨j, g1, g2, g3⟩
    by_cases hj : i = j
    ·subst hj
     right
     rw [hg] at g3
     obtain ⟨u, v⟩ := x
     simp at g1 g3
     rw [g1, List.getD_eq_getElem?_getD, ← g3]
    ·rw [List.getElem?_set_ne hj] at g2
     exact .inl ⟨j, g1, g2, g3⟩
   ·rintro (⟨j, g1, g2, g3⟩ | rfl)
    ·by_cases hj : i = j
     ·subst hj; rw [hl] at g2; cases g2
     ·exact ⟨j, g1, by rw [List.getElem?_set_ne hj]; exact g2, g3⟩
    ·exact ⟨i, rfl, by rw [List.getElem?_set_self hi], hg⟩
 | none =>
  rw [hf] at ht
  simp only at ht
  split at ht
  ·cases ht
  ·simp only [Option.some.injEq, Prod.mk.injEq] at ht
   obtain ⟨rfl, rfl⟩ := ht
   have hpos : 0 < a.gens.length := (lgS.1 h.g0).1
   have hlen := h.len
   refine ⟨⟨by simp [h.len], ?_, ?_, ?_⟩, by simp, by simp [Ar.count], ?_, fun x => ?_⟩
   ·intro g hg
    rw [List.mem_append] at hg
    rcases hg with hg | hg
    ·exact h.gen g hg
    ·simp at hg; omega
   ·simp only; rw [lgL hpos]; exact h.g0
   ·simp only; rw [lgL (by omega)]; exact h.l0
   ·rw [Bool.eq_false_iff]
    intro hh
    obtain ⟨j, g1, g2, g3⟩ := Ar.has_iff.1 hh
    simp at g1
    have := (lgS.1 g2).1
    omega
   ·rw [Ar.has_iff, Ar.has_iff]
    simp only
    constructor
    ·rintro ⟨j, g1, g2, g3⟩
     by_cases hj : j < a.live.length
     ·rw [lgL hj] at g2
      rw [lgL (by omega)] at g3
      exact .inl ⟨j, g1, g2, g3⟩
     ·have h5 := (lgS.1 g2).1
      simp at h5
      obtain rfl : j = a.live.length := by omega
      right
      rw [lgR (by omega)] at g3
      obtain ⟨u, v⟩ := x
      simp only at g1 g3
      rw [hlen, Nat.sub_self] at g3
      simp at g3
      rw [g1, ← g3]
    ·rintro (⟨j, g1, g2, g3⟩ | rfl)
     ·have h5 := (lgS.1 g2).1
      exact ⟨j, g1, by rw [lgL h5]; exact g2, by rw [lgL (by omega)]; exact g3⟩
     ·exact ⟨a.live.length, rfl, by rw [lgR (by omega)]; simp, by rw [lgR (by omega), hlen]; simp⟩
theorem Ar.count_le {a : Ar} : a.count ≤ a.live.length := List.count_le_length
structure Inv (n : Nat) (s : Sn) : Prop where
 ok : ArOk s.arena (n * n)
 small : s.arena.gens.length ≤ n + 1
 root : s.root.id = (0, 0)
 nd : s.root.ids.Nodup
 iff : ∀ x, x ∈ s.root.ids ↔ s.arena.has x = true
 cnt : s.root.ids.length = s.arena.count
 deep : s.root.height ≤ 64
theorem Inv.up {n : Nat} {s : Sn} (h : Inv n s) : Inv (n + 1) s :=
 ⟨⟨h.ok.len, fun g hg => ⟨(h.ok.gen g hg).1, Int.le_trans (h.ok.gen g hg).2 (by exact_mod_cast Nat.mul_le_mul (Nat.le_succ n) (Nat.le_succ n))⟩, h.ok.g0, h.ok.l0⟩, by have := h.small; omega, h.root, h.nd, h.iff, h.cnt, h.deep⟩
theorem ArOk.more {a : Ar} {n m : Nat} (h : ArOk a n) (hm : n ≤ m) : ArOk a m := ⟨h.len, fun g hg => ⟨(h.gen g hg).1, by have := (h.gen g hg).2; omega⟩, h.g0, h.l0⟩
theorem Inv.new : Inv 0 Sn.new :=
 ⟨⟨rfl, fun g hg => by simp [Sn.new, Ar.new] at hg; omega, rfl, rfl⟩, by decide, rfl, by simp [Sn.new, Ly.ids, Ly.idsL], fun x => by
  simp only [Sn.new, Ly.ids, Ly.idsL, List.mem_singleton, Ar.has_iff, Ar.new]
  constructor
  ·rintro rfl
   exact ⟨0, rfl, rfl, rfl⟩
  ·rintro ⟨i, h1, h2, h3⟩
   cases i with
   | zero =>
    obtain ⟨u, v⟩ := x
    simp at h1 h3
    rw [h1, ← h3]
   | succ i => simp at h2, rfl, by simp [Sn.new, Ly.height, Ly.heightL]⟩
theorem Inv.do_ {n : Nat} {s : Sn} (h : Inv n s) (check : Gr → Int) (o : Opr) : Inv (n + 1) (doP check s o).1 := by
 have hfd : ∀ x, s.arena.has x = true → ∃ y d, s.root.find x = some (y, d) := fun x hx => by
  cases hf : s.root.find x with
  | none => exact absurd ((h.iff x).2 hx) (Ly.find_none.1 hf)
  | some p => exact ⟨p.1, p.2, rfl⟩
 have hsq : n * n ≤ (n + 1) * (n + 1) := Nat.mul_le_mul (Nat.le_succ n) (Nat.le_succ n)
 -- a layer more in a tree whose layers are known
 have more : ∀ (rest : Ly) (to : Idt) (x m : Ly) (d : Nat) (k : Int) (a : Ar), rest.ids.Nodup → rest.id = (0, 0) → rest.height ≤ 64 → rest.find to = some (x, d) → (0 ≤ k ∧ k ≤ x.kids.length) → d + 1 + m.height ≤ 64 →
     ArOk a ((n + 1) * (n + 1)) → a.gens.length ≤ n + 2 → (m.ids ++ rest.ids).Nodup → (∀ y, y ∈ m.ids ++ rest.ids ↔ a.has y = true) → (m.ids ++ rest.ids).length = a.count → Inv (n + 1) ⟨a, rest.with_ to k m⟩ := by
  intro rest to x m d k a h1 h2 h3 h4 h5 h6 h7 h8 h9 h10 h11
  obtain ⟨g1, g2, g3⟩ := Ly.with_facts m h1 h4 h5
  exact ⟨h7, h8, g2.trans h2, g1.nodup_iff.2 h9, fun y => (g1.mem_iff).trans (h10 y), g1.length_eq.trans h11, g3 64 h3 h6⟩
 unfold doP
 split
 ·exact h.up
 split
 ·exact h.up
 split
 ·split
  ·exact h.up
  ·rename_i x d hf
   simp only
   split
   ·exact h.up
   ·obtain ⟨h1, h2, h3⟩ := Ly.looks_facts (l := s.root) (x := o.id) (uas check x.look o).1
    exact ⟨h.ok.more hsq, by have := h.small; simp only; omega, h3.trans h.root, by simp only; rw [h1]; exact h.nd, by simp only; rw [h1]; exact h.iff, by simp only; rw [h1]; exact h.cnt, by simp only; rw [h2]; exact h.deep⟩
 split
 ·split
  ·exact h.up
  ·rename_i x d hf
   split
   ·exact h.up
   ·rename_i hb
    rw [not_or, not_or] at hb
    split
    ·exact h.up
    ·rename_i a fresh ht
     obtain ⟨h1, h2, h3, h4, h5⟩ := Ar.take_ok h.ok ht
     have hni : fresh ∉ s.root.ids := fun hx => by rw [(h.iff fresh).1 hx] at h4; cases h4
     refine more s.root o.to x _ d o.at_ a h.nd h.root h.deep hf ⟨by omega, by omega⟩ ?_ (h1.more hsq) (by have := h.small; omega) ?_ ?_ ?_
     ·simp only [Ly.height, Ly.heightL]; omega
     ·simp only [Ly.ids, Ly.idsL, List.singleton_append, List.nodup_cons]
      exact ⟨hni, h.nd⟩
     ·intro y
      simp only [Ly.ids, Ly.idsL, List.singleton_append, List.mem_cons]
      rw [h5, h.iff, or_comm]
     ·simp only [Ly.ids, Ly.idsL, List.singleton_append, List.length_cons]
      rw [h3, h.cnt]
 split
 ·exact h.up
 ·rename_i hst _ _ hid
  split
  ·exact h.up
  ·rename_i self d hf
   have hx : o.id ∈ s.root.ids := Classical.byContradiction fun hx => by rw [Ly.find_none.2 hx] at hf; cases hf
   obtain ⟨p, q, k, h1, h2, h3, h4, h5, h6, h7, h8, h9, h10⟩ := Ly.without_facts h.nd hx (fun e => hid (by rw [← e, h.root]))
   rw [hf] at h5
   simp only [Option.some.injEq, Prod.mk.injEq] at h5
   obtain ⟨rfl, rfl⟩ := h5
   have hnd := h7.nodup_iff.1 h.nd
   obtain ⟨n1, n2, n3⟩ := List.nodup_append.1 hnd
   have hroot : (0, 0) ∈ (s.root.without o.id).ids := by rw [← h.root, ← h8]; exact Ly.id_mem _
   have hdeep := h.deep
   have hall : ∀ y, y ∈ self.ids ++ (s.root.without o.id).ids ↔ s.arena.has y = true := fun y => (h7.mem_iff.symm).trans (h.iff y)
   have hlen := h7.length_eq.symm.trans h.cnt
   simp only
   split
   ·obtain ⟨f1, f2, f3, f4⟩ := Ar.frees_ok h.ok n1 (fun y hy => ⟨(hall y).1 (by simp [hy]), fun e => n3 y hy (0, 0) hroot e⟩)
    have hcl := Ar.count_le (a := s.arena)
    have hsm := h.small
    have hok := h.ok.len
    rw [List.length_append] at hlen
    refine ⟨f1.more ?_, by rw [f2]; omega, h8.trans h.root, n2, fun y => ?_, ?_, Nat.le_trans h9 h.deep⟩
    ·have h11 : self.ids.length ≤ n + 1 := by omega
     have h12 : (n + 1) * (n + 1) = n * n + n + n + 1 := by rw [Nat.add_mul, Nat.mul_add]; omega
     omega
    ·simp only
     rw [f4, ← hall, List.mem_append]
     constructor
     ·intro hy
      exact ⟨.inr hy, fun hs => n3 y hs y hy rfl⟩
     ·rintro ⟨hs | hy, hns⟩
      ·exact absurd hs hns
      ·exact hy
    ·simp only
     omega
   split
   ·split
    ·exact h.up
    ·split
     ·exact h.up
     ·rename_i x d2 hf2
      split
      ·exact h.up
      ·rename_i hb
       rw [not_or, not_or] at hb
       exact more _ o.to x self d2 o.at_ s.arena n2 (h8.trans h.root) (by omega) hf2 ⟨by omega, by omega⟩ (by omega) (h.ok.more hsq) (by have := h.small; omega) hnd hall hlen
   ·split
    ·exact h.up
    ·split
     ·exact h.up
     ·rename_i _ pp hpp _ x d2 hf2
      split
      ·exact h.up
      ·rename_i hb
       rw [not_or, not_or] at hb
       exact more _ pp.id x self d2 o.at_ s.arena n2 (h8.trans h.root) (by omega) hf2 ⟨by omega, by omega⟩ (by omega) (h.ok.more hsq) (by have := h.small; omega) hnd hall hlen
open Go.RowKit
abbrev bvs (l : List Bool) : List Value := l.map .bool
structure ArR (w : World) (vg vl : Value) (a : Ar) : Prop where
 g : RowG (fun _ => True) w 1 vg a.gens.length (ivs a.gens)
 l : RowG (fun _ => True) w 1 vl a.live.length (bvs a.live)
theorem ArR.mod {S : Nat → Prop} {w w' : World} {vg vl : Value} {a : Ar} (h : ArR w vg vl a) (hm : Mod S w w') (hS : ∀ k, k < w.heap.size → ¬ S k) : ArR w' vg vl a := ⟨h.g.mod hm (fun k hk _ => hS k hk), h.l.mod hm (fun k hk _ => hS k hk)⟩
theorem ArR.up {w w' : World} {vg vl : Value} {a : Ar} (h : ArR w vg vl a) (hm : Mod (fun _ => False) w w') : ArR w' vg vl a := h.mod hm (fun _ _ h => h)
theorem RowG.cell1 {w : World} {p : Option Addr} {n c : Nat} {G : Nat → Prop} {cs : List Value} (h : RowG G w 1 (.slice p n c) n cs) (h0 : 0 < n) : ∃ b o, p = some ⟨b, o, none⟩ ∧ b < w.heap.size ∧ ∀ i (hi : i < cs.length), w.cell? ⟨b, o + i, none⟩ = some cs[i] := by
 obtain ⟨hl, p', c', e, hcap, h⟩ := h
 simp only [Value.slice.injEq] at e
 obtain ⟨rfl, -, rfl⟩ := e
 rcases h with h | ⟨b, o, rfl, hb, _, hc⟩
 ·omega
 ·exact ⟨b, o, rfl, hb, fun i hi => hc i _ (lgE hi)⟩
theorem uaq {a b : Bool} (h : a = b) : Ending.returned (.bool a) = .returned (.bool b) := by rw [h]
theorem Blk.new (w : World) (T : TypeId) (cs : Array Value) : Blk (w.alloc (.cells cs T)) w.heap.size T cs := heap_alloc_new _ _
theorem Blk.up {w w' : World} {b : Nat} {T : TypeId} {cs : Array Value} (h : Blk w b T cs) (hm : Mod (fun _ => False) w w') : Blk w' b T cs := h.mod hm (fun h => h)
theorem Mod.alloc0 (w : World) (o : Obj) : Mod (fun _ => False) w (w.alloc o) := Mod.alloc _ w o
theorem uaw (w : World) (T U : TypeId) (cs ds : Array Value) : Blk ((w.alloc (.cells cs T)).alloc (.cells ds U)) w.heap.size T cs ∧ Blk ((w.alloc (.cells cs T)).alloc (.cells ds U)) (w.heap.size + 1) U ds ∧ Mod (fun _ => False) w ((w.alloc (.cells cs T)).alloc (.cells ds U)) :=
 ⟨(Blk.new w T cs).up (Mod.alloc0 _ _), by have := Blk.new (w.alloc (.cells cs T)) U ds; simpa only [World.size_alloc] using this, (Mod.alloc0 _ _).trans' (Mod.alloc0 _ _)⟩
end Go.Gou
namespace Go.Proofs.YtpbmfalokongfaaGreatDoor
open Go.RowKit Go.Gou
set_option maxRecDepth 100000
theorem ucv (w : World) (pg pl : Option Addr) (cg cl : Nat) (a : Ar) (x : Idt) (hr : ArR w (.slice pg a.gens.length cg) (.slice pl a.live.length cl) a) (hl : a.gens.length = a.live.length) :
 Calls Tryz.prog 21 #[.agg #[.slice pg a.gens.length cg, .slice pl a.live.length cl], .agg #[iV x.1, iV x.2]] w fun e w' => e = .returned (.bool (a.has x)) ∧ Gou.Mod (fun _ => False) w w' := by
 obtain ⟨hA, hX, hm⟩ := uaw w 28 30 #[.slice pg a.gens.length cg, .slice pl a.live.length cl] #[iV x.1, iV x.2]
 have Hr := hd' (hr.up hm)
 have Hm := hd' hm
 have a0 := hA.cell 0 rfl
 have a1 := hA.cell 1 rfl
 have x0 := hX.cell 0 rfl
 have x1 := hX.cell 1 rfl
 have Hl := hd' hl
 clear hr hA hX hm hl
 obtain ⟨u, v⟩ := x
 simp only at x0 x1
 go_enter Tryz.func21, Tryz.ntmps21
 go_wp2_with fail
 generalize (w.alloc (.cells #[.slice pg a.gens.length cg, .slice pl a.live.length cl] 28)).alloc (.cells #[iV u, iV v] 30) = w1 at *
 generalize w.heap.size = N at *
 by_cases h0 : 0 ≤ u
 ·have e0 : decide ((0 : Int) ≤ u) = true := dqt h0
  by_cases h1 : u < (a.gens.length : Int)
  ·have e1 : decide (u < (a.gens.length : Int)) = true := dqt h1
   obtain ⟨i, rfl⟩ : ∃ i : Nat, u = i := ⟨u.toNat, by omega⟩
   have hi : i < a.gens.length := by omega
   have hi2 : i < a.live.length := by have := Hl.o; omega
   obtain ⟨bg, og, rfl, hbg, hg⟩ := RowG.cell1 Hr.o.g (by omega)
   obtain ⟨bl, ol, rfl, hbl, hl'⟩ := RowG.cell1 Hr.o.l (by omega)
   have cg' := hg i (by simpa using hi)
   have cl' := hl' i (by simpa using hi2)
   have hlv : a.live.getD i false = a.live[i] := by rw [List.getD_eq_getElem?_getD, lgE hi2]; rfl
   have Hh : Hid (a.has ((i : Int), v) = (a.live[i] && decide (a.gens[i] = v))) := hd' (by
    unfold Ar.has
    simp only [Int.toNat_natCast, hlv, lgE hi, Option.some.injEq]
    rw [dqt (show (0 : Int) ≤ i by omega)]
    rfl)
   simp only [ivs, bvs, List.getElem_map] at cg' cl'
   clear hg hl' hlv h0 h1
   generalize a.gens[i] = gi at *
   generalize a.live[i] = li at *
   cases li with
   | false =>
    go_quiet (fail)
    go_wp2_with fail
    go_ret
    exact ⟨by rw [Hh.o]; rfl, Hm.o.trans' (Gou.Mod.drewN _ _ _)⟩
   | true =>
    go_quiet (fail)
    go_wp2_with fail
    go_ret
    exact ⟨by rw [Hh.o, Bool.true_and]; rfl, Hm.o.trans' (Gou.Mod.drewN _ _ _)⟩
  ·have e1 : decide (u < (a.gens.length : Int)) = false := dqf h1
   have Hh : Hid (a.has (u, v) = false) := hd' (by
    rw [Bool.eq_false_iff]
    intro hh
    obtain ⟨i, g1, g2, g3⟩ := Ar.has_iff.1 hh
    have := (lgS.1 g3).1
    simp only at g1
    omega)
   clear h0 h1
   go_quiet (fail)
   go_wp2_with fail
   go_ret
   exact ⟨by rw [Hh.o]; rfl, Hm.o.trans' (Gou.Mod.drewN _ _ _)⟩
 ·have e0 : decide ((0 : Int) ≤ u) = false := dqf h0
  have Hh : Hid (a.has (u, v) = false) := hd' (by
   unfold Ar.has
   simp only [e0, Bool.false_and])
  clear h0
  go_quiet (fail)
  go_wp2_with fail
  go_ret
  exact ⟨by rw [Hh.o]; rfl, Hm.o.trans' (Gou.Mod.drewN _ _ _)⟩
open Go.Shelf
def uga : Go.Shelf.Ren := ⟨fun | 29 => 77 | n => n, fun | 22 => 26 | 23 => 4 | 3 => 3 | 0 => 0 | 4 => 4 | n => n, fun | n => n⟩
theorem indexBool : Go.Proofs.SlLaysE.n29 Tryz.prog uga := {
 mixed := by kernel_rfl
 f29 := ⟨Tryz.f77.name, by decide, Tryz.func77.trans (congrArg some (by kernel_rfl))⟩
 t0 := Tryz.underlying0
 a0 := Tryz.isAgg0
 z0 := Tryz.sizeOf0
 v0 := Tryz.zeroValue0
 t3 := Tryz.underlying3
 a3 := Tryz.isAgg3
 z3 := Tryz.sizeOf3
 v3 := Tryz.zeroValue3
 t4 := Tryz.underlying4
 a4 := Tryz.isAgg4
 z4 := Tryz.sizeOf4
 v4 := Tryz.zeroValue4
 t22 := Tryz.underlying26
 a22 := Tryz.isAgg26
 z22 := Tryz.sizeOf26
 v22 := Tryz.zeroValue26
 a23 := Tryz.isAgg4
 z23 := Tryz.sizeOf4 }
def uj3 : Go.Shelf.Ren := ⟨fun | 8 => 79 | 6 => 90 | n => n, fun | 22 => 25 | 23 => 3 | 25 => 101 | 4 => 4 | 3 => 3 | 0 => 0 | n => n, fun | n => n⟩
theorem anyInt : Go.Proofs.SlLaysH.n8 Tryz.prog uj3 := {
 mixed := by kernel_rfl
 f6 := ⟨Tryz.f90.name, by decide, Tryz.func90.trans (congrArg some (by kernel_rfl))⟩
 f8 := ⟨Tryz.f79.name, by decide, Tryz.func79.trans (congrArg some (by kernel_rfl))⟩
 t0 := Tryz.underlying0
 a0 := Tryz.isAgg0
 z0 := Tryz.sizeOf0
 v0 := Tryz.zeroValue0
 t3 := Tryz.underlying3
 a3 := Tryz.isAgg3
 z3 := Tryz.sizeOf3
 v3 := Tryz.zeroValue3
 t4 := Tryz.underlying4
 a4 := Tryz.isAgg4
 z4 := Tryz.sizeOf4
 v4 := Tryz.zeroValue4
 t22 := Tryz.underlying25
 a22 := Tryz.isAgg25
 z22 := Tryz.sizeOf25
 v22 := Tryz.zeroValue25
 a23 := Tryz.isAgg3
 z23 := Tryz.sizeOf3
 t25 := Tryz.underlying101
 a25 := Tryz.isAgg101
 z25 := Tryz.sizeOf101
 v25 := Tryz.zeroValue101 }
def anyPx_ren : Go.Shelf.Ren := ⟨fun | 8 => 92 | 6 => 98 | n => n, fun | 22 => 35 | 23 => 34 | 25 => 118 | 4 => 4 | 3 => 3 | 0 => 0 | n => n, fun | n => n⟩
theorem anyPx : Go.Proofs.SlLaysH0.n8 Tryz.prog anyPx_ren := {
 mixed := by kernel_rfl
 f6 := ⟨Tryz.f98.name, by decide, Tryz.func98.trans (congrArg some (by kernel_rfl))⟩
 f8 := ⟨Tryz.f92.name, by decide, Tryz.func92.trans (congrArg some (by kernel_rfl))⟩
 t0 := Tryz.underlying0
 a0 := Tryz.isAgg0
 z0 := Tryz.sizeOf0
 v0 := Tryz.zeroValue0
 t3 := Tryz.underlying3
 a3 := Tryz.isAgg3
 z3 := Tryz.sizeOf3
 v3 := Tryz.zeroValue3
 t4 := Tryz.underlying4
 a4 := Tryz.isAgg4
 z4 := Tryz.sizeOf4
 v4 := Tryz.zeroValue4
 t22 := Tryz.underlying35
 a22 := Tryz.isAgg35
 z22 := Tryz.sizeOf35
 v22 := Tryz.zeroValue35
 t25 := Tryz.underlying118
 a25 := Tryz.isAgg118
 z25 := Tryz.sizeOf118
 v25 := Tryz.zeroValue118 }
end Go.Proofs.YtpbmfalokongfaaGreatDoor
namespace Go.Gou
open Go.RowKit
theorem halt {p : Prop} (h : Shut p) : p := h
structure RowT (P : Program) (t e : TypeId) (k bytes : Nat) (z : Value) : Prop where
 und : P.underlying t = some (.slice e)
 info : (P.info? e).map (fun i => (i.zero, i.size, i.bytes)) = some (some z, k, bytes)
 zc : z.cells.size = k
 pos : 0 < k
theorem ueh {P : Program} (t ty e : TypeId) (i : TypeInfo) (ht : P.underlying t = some (.slice e)) (hi : P.info? e = some i) (w : World) (p : Option Addr) (n cap c : Nat) (hnc : n ≤ cap) :
 (Builtin.append_ #[t, t] ty #[.slice p n cap, .slice none 0 c]).run P w = .ok (.slice p n cap) w := by
 cases p <;> simp [Builtin.append_, run_underlying ht, sizeOf, typeInfo, hi, Builtin.lenOf, Builtin.firstCells, hnc, storeCells]
structure Grown (w : World) (B : Nat) (e : TypeId) (k : Nat) (v : Value) (n : Nat) (cs : List Value) (v' : Value) (w' : World) : Prop where
 own : w'.ownsRow B e k v' n cs
 mod : Mod (fun b => v.ownBlock = some b) w w'
 blk : ∀ g, v'.ownBlock = some g → v.ownBlock = some g ∨ w.heap.size ≤ g
theorem uco {P : Program} {t e : TypeId} {k bytes : Nat} {z : Value} (T : RowT P t e k bytes z) (ty : TypeId) (w : World) (B : Nat) (v : Value) (n : Nat) (cs : List Value) (G : Nat → Prop) (u : Value) (m : Nat) (ds : List Value) (hB : B ≤ w.heap.size) (hown : w.ownsRow B e k v n cs)
 (hy : RowG G w k u m ds) (h1 : ∀ d ∈ ds, d.oneCell' = true) (hn : n + m ≤ maxLen) (hby : (n + m) * bytes ≤ 140737488355328) :
 ∃ v' w', (Builtin.append_ #[t, t] ty #[v, u]).run P w = .ok v' w' ∧ Grown w B e k v (n + m) (cs ++ ds) v' w' := by
 obtain ⟨i0, hi0, hz0, hz1, hz2⟩ := info_parts T.info
 obtain ⟨hyl, p, cap, rfl, hcap, hc⟩ := hy
 cases p with
 | none =>
  have h0 : m = 0 := by
   rcases hc with hc | ⟨b, o, h, _⟩
   ·exact hc
   ·cases h
  subst h0
  have hds : ds = [] := List.length_eq_zero_iff.1 (by simpa using hyl)
  subst hds
  have hv : ∃ p n c, v = .slice p n c ∧ n ≤ c := by
   rcases hown.2 with ⟨h, _⟩ | ⟨g, c, cur, h, _, _, hn, _⟩
   ·exact ⟨none, 0, 0, h, Nat.le_refl _⟩
   ·exact ⟨_, _, c, h, hn⟩
  obtain ⟨p, n', c, rfl, hnc⟩ := hv
  exact ⟨_, w, ueh _ _ _ i0 T.und hi0 w p n' c cap hnc, by simpa using hown, Mod.refl _ _, fun g hg => .inl hg⟩
 | some ad =>
  obtain ⟨v', w', hr, h2, h3, h4, h5⟩ := run_append_own_at (P := P) w B t ty e i0 z k bytes T.und hi0 hz0 hz1 hz2 T.zc T.pos v n cs hown ad m cap ds hyl
      (fun j u hu => by
       have hj := (lgS.1 hu).1
       rcases hc with h0 | ⟨b, o2, e, hb, _, hc⟩
       ·subst h0
        omega
       ·simp only [Option.some.injEq] at e
        subst e
        have hadd : (⟨b, o2, none⟩ : Addr).add j = ⟨b, o2 + j, none⟩ := by unfold Addr.add; split <;> simp_all
        rw [hadd, hc j u hu]) h1 hn hby hB
  refine ⟨v', w', hr, h2, Mod.of_grown h3, fun g hg => ?_⟩
  rcases h5 with h5 | h5
  ·left; rw [← h5]; exact hg
  ·right
   rw [h5] at hg
   simp only [Option.some.injEq] at hg
   omega
theorem uaz {P : Program} {t e : TypeId} {k bytes : Nat} {z : Value} (T : RowT P t e k bytes z) {ops : Array Oper} {rest : List Oper} {o : Oper} {a : Act} {w : World} {Q : Exit → Act → World → Prop} (hgd : o.guard = none) (s x : Operand) (hop : o.op = .call { callee := .builtin .append, args := #[s, x], argTypes := #[t, t] })
 (B : Nat) (v : Value) (n : Nat) (cs : List Value) (G : Nat → Prop) (u : Value) (m : Nat) (ds : List Value) (hs : a.eval s = v) (hx : a.eval x = u) (hB : B ≤ w.heap.size) (hown : w.ownsRow B e k v n cs) (hy : RowG G w k u m ds) (h1 : ∀ d ∈ ds, d.oneCell' = true)
 (hn : n + m ≤ maxLen) (hby : (n + m) * bytes ≤ 140737488355328) (h : ∀ v' w1, Grown w B e k v (n + m) (cs ++ ds) v' w1 → wpList P ops Q rest (a.put o.dst v') w1) : wpList P ops Q (o :: rest) a w := by
 obtain ⟨v', w1, hr, h2⟩ := uco T o.type w B v n cs G u m ds hB hown hy h1 hn hby
 refine wpList_plain hgd fun K hK => ?_
 unfold Oper.wp execOp
 simp only [hop, resolve, invoke, builtin, Sem.run_bind, Sem.run_pure, Result.andThen_ok, List.map_toArray, List.map_cons, List.map_nil, hs, hx, hr]
 exact hK _ _ (h v' w1 h2)
theorem ual {P : Program} {t e : TypeId} {k bytes : Nat} {z : Value} (T : RowT P t e k bytes z) {o : Oper} {a : Act} {w : World} {K : Act → World → Prop} {Q : Exit → Act → World → Prop} (s x : Operand) (hop : o.op = .call { callee := .builtin .append, args := #[s, x], argTypes := #[t, t] })
 (B : Nat) (v : Value) (n : Nat) (cs : List Value) (G : Nat → Prop) (u : Value) (m : Nat) (ds : List Value) (hs : a.eval s = v) (hx : a.eval x = u) (hB : B ≤ w.heap.size) (hown : w.ownsRow B e k v n cs) (hy : RowG G w k u m ds) (h1 : ∀ d ∈ ds, d.oneCell' = true)
 (hn : n + m ≤ maxLen) (hby : (n + m) * bytes ≤ 140737488355328) (h : ∀ v' w1, Grown w B e k v (n + m) (cs ++ ds) v' w1 → K (a.put o.dst v') w1) : o.wp P a w K Q := by
 obtain ⟨v', w1, hr, h2⟩ := uco T o.type w B v n cs G u m ds hB hown hy h1 hn hby
 unfold Oper.wp execOp
 simp only [hop, resolve, invoke, builtin, Sem.run_bind, Sem.run_pure, Result.andThen_ok, List.map_toArray, List.map_cons, List.map_nil, hs, hx, hr]
 exact h v' w1 h2
theorem RowG.of_blk {w : World} {b : Nat} {T : TypeId} {cs : Array Value} (h : Blk w b T cs) (k n : Nat) (hn : cs.size = n * k) (G : Nat → Prop) (hG : G b) : RowG G w k (.slice (some ⟨b, 0, none⟩) n n) n cs.toList :=
 ⟨by simpa using hn, _, n, rfl, Nat.le_refl _, .inr ⟨b, 0, rfl, h.lt, hG, fun j u hu => by
  rw [Nat.zero_add]
  exact h.cell j (by rw [← hu, agT])⟩⟩
theorem Grown.mod0 {w : World} {B : Nat} {e : TypeId} {k : Nat} {v v' : Value} {n : Nat} {cs : List Value} {w0 w' : World} (h : Grown w B e k v n cs v' w') (h0 : Mod (fun _ => False) w0 w) (hv : ∀ b, v.ownBlock = some b → w0.heap.size ≤ b) : Mod (fun _ => False) w0 w' :=
 h0.trans h.mod fun i hi hs => absurd (hv i hs) (by omega)
theorem uba {w : World} {B : Nat} {e : TypeId} {k : Nat} {v : Value} {n : Nat} {cs : List Value} (h : w.ownsRow B e k v n cs) : ∀ b, v.ownBlock = some b → B ≤ b := fun b hb => (h.lt b hb).1
theorem ueo {w : World} {B : Nat} {e : TypeId} {k g n cap : Nat} {cs : List Value} (h : w.ownsRow B e k (.slice (some ⟨g, 0, none⟩) n cap) n cs) (j : Nat) (u : Value) : (w.setCell ⟨g, j, none⟩ u).ownsRow B e k (.slice (some ⟨g, 0, none⟩) n cap) n (cs.set j u) := (h.stored j u).1
theorem ua4 {w w' : World} {B : Nat} {e : TypeId} {k : Nat} {v : Value} {n : Nat} {cs : List Value} (h : w.ownsRow B e k v n cs) (hm : Mod (fun _ => False) w w') : w'.ownsRow B e k v n cs := uac h hm (fun _ _ h => h)
theorem uf8 (xs : List Int) : ∀ d ∈ ivs xs, d.oneCell' = true := by
 intro d hd
 simp [ivs] at hd
 obtain ⟨x, _, rfl⟩ := hd
 simp [Value.oneCell']
theorem bvs_one (xs : List Bool) : ∀ d ∈ bvs xs, d.oneCell' = true := by
 intro d hd
 simp [bvs] at hd
 rcases hd with ⟨_, rfl⟩ | ⟨_, rfl⟩ <;> simp [Value.oneCell']
theorem uh1 (l : List Pxl) : ∀ d ∈ pxs l, d.oneCell' = true := by
 intro d hd
 simp only [pxs, List.mem_flatMap] at hd
 obtain ⟨r, _, h⟩ := hd
 simp [Pxl.cells] at h
 rcases h with rfl | rfl | rfl | rfl <;> simp [Value.oneCell']
theorem RowG.under {w w' : World} {k n : Nat} {u : Value} {cs : List Value} {G : Nat → Prop} (h : RowG G w k u n cs) (hm : Mod (fun _ => False) w w') : RowG G w' k u n cs := h.mod hm (fun _ _ _ h => h)
theorem ub8 (w : World) (T : TypeId) (k : Nat) : (w.alloc (.cells #[] T)).ownsRow w.heap.size T k (.slice (some ⟨w.heap.size, 0, none⟩) 0 0) 0 [] :=
 ⟨by simp, .inr ⟨w.heap.size, 0, #[], rfl, Nat.le_refl _, heap_alloc_new w _, Nat.le_refl _, Nat.zero_le _, by simp, by simp⟩⟩
def CloneP (T : TypeId) (k : Nat) (w : World) (n : Nat) (cs : List Value) (e : Ending) (w' : World) : Prop := ∃ p c, e = .returned (.slice p n c) ∧ w'.ownsRow w.heap.size T k (.slice p n c) n cs ∧ Mod (fun _ => False) w w'
end Go.Gou
namespace Go.Proofs.YtpbmfalokongfaaGreatDoor
open Go.RowKit Go.Gou
set_option maxRecDepth 100000
theorem ud0 : RowT Tryz.prog 25 3 1 8 (iV 0) := ⟨Tryz.underlying25, by kernel_rfl, rfl, by omega⟩
theorem ucg : RowT Tryz.prog 26 4 1 1 (.bool false) := ⟨Tryz.underlying26, by kernel_rfl, rfl, by omega⟩
theorem T_px : RowT Tryz.prog 35 34 4 4 (.agg #[.int .u8 0, .int .u8 0, .int .u8 0, .int .u8 0]) := ⟨Tryz.underlying35, by kernel_rfl, rfl, by omega⟩
theorem T_node : RowT Tryz.prog 38 95 3 56 (.agg #[iV 0, .slice none 0 0, .slice none 0 0]) := ⟨Tryz.underlying38, by kernel_rfl, rfl, by omega⟩
theorem T_ly : RowT Tryz.prog 43 45 31 288 (.agg lyL) := ⟨Tryz.underlying43, by kernel_rfl, rfl, by omega⟩
theorem ub5 (w : World) (p : Option Addr) (n c : Nat) (cs : List Value) (G : Nat → Prop) (h : RowG G w 1 (.slice p n c) n cs) (h1 : ∀ d ∈ cs, d.oneCell' = true) (hn : n ≤ 1000000000) :
 Calls Tryz.prog 41 #[.slice p n c] w (CloneP 3 1 w n cs) := by
 have q22 : ∀ (w : World) (a : Option Addr) (n c n' c' : Nat), (binOp .eql 25 (.slice a n c) (.slice none n' c')).run Tryz.prog w = .ok (.bool a.isNone) w := fun w a n c n' c' => Lib.run_eql_slice_nil w _ _ a n c n' c' Tryz.underlying25
 have H := hd' h
 have H1 := hd' h1
 have hl := h.1
 cases p with
 | none =>
  obtain ⟨_, p', c', e, _, h0⟩ := h
  have hn0 : n = 0 := by
   rcases h0 with h0 | ⟨b, o, e2, _⟩
   ·exact h0
   ·simp only [Value.slice.injEq] at e
    rw [← e.1] at e2
    cases e2
  subst hn0
  obtain rfl := List.length_eq_zero_iff.1 (by simpa using hl)
  clear H H1 h1
  go_enter Tryz.func41, Tryz.ntmps41
  go_wp2_with fail
  go_ret
  exact ⟨none, 0, rfl, World.ownsRow_nil _ _ _ _, Gou.Mod.refl _ _⟩
 | some ad =>
  clear h h1
  go_enter Tryz.func41, Tryz.ntmps41
  go_wp2_with (first | ((with_reducible show wpList _ _ _ (⟨_, Op.call ⟨.builtin .append, _, _⟩, _, _, _, _⟩ :: _) _ _); refine halt ?_) | fail)
  refine uaz ud0 rfl _ _ rfl (w.heap.size) (.slice (some ⟨w.heap.size, 0, none⟩) 0 0) 0 [] G (.slice (some ad) n c) n cs rfl rfl (by rw [World.size_alloc]; omega) (ub8 w 3 1) (H.o.under (Gou.Mod.alloc0 _ _)) H1.o (by unfold maxLen; omega) (by omega) ?_
  intro v5 w5 G5
  have hm := G5.mod0 (Gou.Mod.alloc0 w (.cells #[] 3)) (uba (ub8 w 3 1))
  have hown := G5.own
  rw [Nat.zero_add, List.nil_append] at hown
  obtain ⟨p5, c5, rfl⟩ := Gou.ownsRow_form hown
  have Ho := hd' hown
  have Hm := hd' hm
  clear G5 hm hown H H1
  go_wp2_with fail
  go_ret
  exact ⟨p5, c5, rfl, Ho.o, Hm.o⟩
theorem udf (w : World) (p : Option Addr) (n c : Nat) (cs : List Value) (G : Nat → Prop) (h : RowG G w 1 (.slice p n c) n cs) (h1 : ∀ d ∈ cs, d.oneCell' = true) (hn : n ≤ 1000000000) :
 Calls Tryz.prog 42 #[.slice p n c] w (CloneP 4 1 w n cs) := by
 have q22 : ∀ (w : World) (a : Option Addr) (n c n' c' : Nat), (binOp .eql 26 (.slice a n c) (.slice none n' c')).run Tryz.prog w = .ok (.bool a.isNone) w := fun w a n c n' c' => Lib.run_eql_slice_nil w _ _ a n c n' c' Tryz.underlying26
 have H := hd' h
 have H1 := hd' h1
 have hl := h.1
 cases p with
 | none =>
  obtain ⟨_, p', c', e, _, h0⟩ := h
  have hn0 : n = 0 := by
   rcases h0 with h0 | ⟨b, o, e2, _⟩
   ·exact h0
   ·simp only [Value.slice.injEq] at e
    rw [← e.1] at e2
    cases e2
  subst hn0
  obtain rfl := List.length_eq_zero_iff.1 (by simpa using hl)
  clear H H1 h1
  go_enter Tryz.func42, Tryz.ntmps42
  go_wp2_with fail
  go_ret
  exact ⟨none, 0, rfl, World.ownsRow_nil _ _ _ _, Gou.Mod.refl _ _⟩
 | some ad =>
  clear h h1
  go_enter Tryz.func42, Tryz.ntmps42
  go_wp2_with (first | ((with_reducible show wpList _ _ _ (⟨_, Op.call ⟨.builtin .append, _, _⟩, _, _, _, _⟩ :: _) _ _); refine halt ?_) | fail)
  refine uaz ucg rfl _ _ rfl (w.heap.size) (.slice (some ⟨w.heap.size, 0, none⟩) 0 0) 0 [] G (.slice (some ad) n c) n cs rfl rfl (by rw [World.size_alloc]; omega) (ub8 w 4 1) (H.o.under (Gou.Mod.alloc0 _ _)) H1.o (by unfold maxLen; omega) (by omega) ?_
  intro v5 w5 G5
  have hm := G5.mod0 (Gou.Mod.alloc0 w (.cells #[] 4)) (uba (ub8 w 4 1))
  have hown := G5.own
  rw [Nat.zero_add, List.nil_append] at hown
  obtain ⟨p5, c5, rfl⟩ := Gou.ownsRow_form hown
  have Ho := hd' hown
  have Hm := hd' hm
  clear G5 hm hown H H1
  go_wp2_with fail
  go_ret
  exact ⟨p5, c5, rfl, Ho.o, Hm.o⟩
theorem ue8 (w : World) (p : Option Addr) (n c : Nat) (cs : List Value) (G : Nat → Prop) (h : RowG G w 4 (.slice p n c) n cs) (h1 : ∀ d ∈ cs, d.oneCell' = true) (hn : n ≤ 1000000000) :
 Calls Tryz.prog 73 #[.slice p n c] w (CloneP 34 4 w n cs) := by
 have q22 : ∀ (w : World) (a : Option Addr) (n c n' c' : Nat), (binOp .eql 35 (.slice a n c) (.slice none n' c')).run Tryz.prog w = .ok (.bool a.isNone) w := fun w a n c n' c' => Lib.run_eql_slice_nil w _ _ a n c n' c' Tryz.underlying35
 have H := hd' h
 have H1 := hd' h1
 have hl := h.1
 cases p with
 | none =>
  obtain ⟨_, p', c', e, _, h0⟩ := h
  have hn0 : n = 0 := by
   rcases h0 with h0 | ⟨b, o, e2, _⟩
   ·exact h0
   ·simp only [Value.slice.injEq] at e
    rw [← e.1] at e2
    cases e2
  subst hn0
  obtain rfl := List.length_eq_zero_iff.1 (by simpa using hl)
  clear H H1 h1
  go_enter Tryz.func73, Tryz.ntmps73
  go_wp2_with fail
  go_ret
  exact ⟨none, 0, rfl, World.ownsRow_nil _ _ _ _, Gou.Mod.refl _ _⟩
 | some ad =>
  clear h h1
  go_enter Tryz.func73, Tryz.ntmps73
  go_wp2_with (first | ((with_reducible show wpList _ _ _ (⟨_, Op.call ⟨.builtin .append, _, _⟩, _, _, _, _⟩ :: _) _ _); refine halt ?_) | fail)
  refine uaz T_px rfl _ _ rfl (w.heap.size) (.slice (some ⟨w.heap.size, 0, none⟩) 0 0) 0 [] G (.slice (some ad) n c) n cs rfl rfl (by rw [World.size_alloc]; omega) (ub8 w 34 4) (H.o.under (Gou.Mod.alloc0 _ _)) H1.o (by unfold maxLen; omega) (by omega) ?_
  intro v5 w5 G5
  have hm := G5.mod0 (Gou.Mod.alloc0 w (.cells #[] 34)) (uba (ub8 w 34 4))
  have hown := G5.own
  rw [Nat.zero_add, List.nil_append] at hown
  obtain ⟨p5, c5, rfl⟩ := Gou.ownsRow_form hown
  have Ho := hd' hown
  have Hm := hd' hm
  clear G5 hm hown H H1
  go_wp2_with fail
  go_ret
  exact ⟨p5, c5, rfl, Ho.o, Hm.o⟩
end Go.Proofs.YtpbmfalokongfaaGreatDoor
namespace Go.Gou
open Go
def dfr (ops : Array Oper) (n : Nat) (o : Oper) : Array Oper := ops.setIfInBounds n { o with op := .assign (.const (.bool true)) }
def ufs (P : Program) (o : Oper) (Q : Exit → Act → World → Prop) : Exit → Act → World → Prop
 | .normal, a, w => o.wp P a w (fun a' w' => Q .normal a' w') Q
 | .exit i, a, w => Q (.exit i) a w
 | .goto l, a, w => Q (.goto l) a w
 | .ret, a, w => Q .ret a w
 | .panic c, a, w => Q (.panic c) a w
 | .outgrown, a, w => Q .outgrown a w
def backB (md : Region.Mode) (ops : Array Oper) : Bool :=
 (List.range ops.size).all fun j => ((ops[j]?).map (fun o => o.after.all fun e => !Region.binds md e || decide (e.on < j))).getD false
def sinkN (md : Region.Mode) (ops : Array Oper) (n : Nat) : Bool :=
 (List.range ops.size).all fun j => decide (j = n) || ((ops[n]?).map (fun o => o.after.any fun e => Region.binds md e && e.on == j)).getD false
section
variable {P : Program} {ops : Array Oper} {md : Region.Mode} {n : Nat} {o : Oper} {Q : Exit → Act → World → Prop} {S : World → Prop}
theorem dfr_size : (dfr ops n o).size = ops.size := by simp [dfr]
theorem dfr_ne {j : Nat} (h : j ≠ n) : (dfr ops n o)[j]? = ops[j]? := by
 unfold dfr
 rw [Array.getElem?_setIfInBounds_ne (Ne.symm h)]
theorem dfr_eq (ho : ops[n]? = some o) : (dfr ops n o)[n]? = some { o with op := .assign (.const (.bool true)) } := by
 have hlt : n < ops.size := (Array.getElem?_eq_some_iff.1 ho).1
 unfold dfr
 simp [hlt]
theorem uej (ho : ops[n]? = some o) (listed : Array Bool) : Region.ready md (dfr ops n o) listed = Region.ready md ops listed := by
 unfold Region.ready
 rw [dfr_size]
 congr 1
 funext i
 by_cases h : i = n
 ·subst h
  rw [dfr_eq ho, ho]
  rfl
 ·rw [dfr_ne h]
theorem uhm (ho : ops[n]? = some o) (tmps : Array Value) : yielded (dfr ops n o) tmps = yielded ops tmps := by
 funext j
 unfold yielded
 by_cases h : j = n
 ·subst h
  rw [dfr_eq ho, ho]
  rfl
 ·rw [dfr_ne h]
theorem wp_deferQ {x : Oper} {a : Act} {w : World} {K : Act → World → Prop} (h : x.wp P a w K (ufs P o Q)) : x.wp P a w K Q := by
 unfold Oper.wp at *
 generalize (execOp a.eval x).run P w = r at *
 cases r with
 | ok n w' =>
  cases n <;> simp only [Oper.upon] at h ⊢ <;>
      first
          | exact h
          | exact Calls.mono h (fun e w'' he => by cases e <;> exact he)
          | exact Rows.mono h (fun _ _ he => he)
 | halt x w' => cases x <;> simp only [Oper.upon] at h ⊢ <;> exact h
theorem wpOp_dfr (ho : ops[n]? = some o) {i : Nat} (hi : i ≠ n) {K : Act → World → Prop} {a : Act} {w : World} (h : wpOp P (dfr ops n o) (ufs P o Q) i K a w) : wpOp P ops Q i K a w := by
 unfold wpOp at *
 rw [dfr_ne hi] at h
 rw [uhm ho] at h
 split
 ·rename_i hn
  simpa [hn] using h
 ·rename_i x hx
  simp only [hx] at h
  split
  ·rename_i hw
   simp only [hw, if_true] at h
   exact h.imp wp_deferQ id
  ·rename_i hw
   simpa [hw] using h
theorem uj4 (hb : backB md ops = true) {listed : Array Bool} (hsz : listed.size = ops.size) (h : Region.ready md ops listed = []) : ∀ j, j < ops.size → listed.getD j false = true := by
 intro j
 induction j using Nat.strongRecOn with
 | _ j ih =>
  intro hj
  cases hl : listed.getD j false with
  | true => rfl
  | false =>
   exfalso
   have hl' : listed.getD j true = false := by
    have : j < listed.size := by omega
    simp [this] at hl ⊢
    exact hl
   have hm : j ∈ Region.ready md ops listed := by
    rw [mem_ready]
    refine ⟨hl', ops[j], by simp [hj], fun e he hbnd => ?_⟩
    have h1 := List.all_eq_true.1 hb j (List.mem_range.2 hj)
    simp only [Array.getElem?_eq_getElem hj, Option.map_some, Option.getD_some] at h1
    have h2 := (Array.all_eq_true_iff_forall_mem.1 h1) e he
    simp only [hbnd, Bool.not_true, Bool.false_or, decide_eq_true_eq] at h2
    exact ih e.on h2 (by omega)
   rw [h] at hm
   cases hm
theorem ready_nil {listed : Array Bool} (h : ∀ j, j < ops.size → listed.getD j true = true) : Region.ready md ops listed = [] := by
 rw [List.eq_nil_iff_forall_not_mem]
 intro j hj
 obtain ⟨h1, x, hx, _⟩ := mem_ready.1 hj
 rw [h j (Array.getElem?_eq_some_iff.1 hx).1] at h1
 cases h1
theorem uho (ho : ops[n]? = some o) (hd : o.dst = none) (hg : o.guard = none) (hb : backB md ops = true) (hs : sinkN md ops n = true) :
 ∀ (fuel : Nat) (listed : Array Bool) (a : Act) (w : World), listed.size = ops.size → listed.getD n true = false → wpAny P md (dfr ops n o) (ufs P o Q) fuel listed a w → wpAny P md ops Q fuel listed a w := by
 have hlt : n < ops.size := (Array.getElem?_eq_some_iff.1 ho).1
 have never : ∀ listed : Array Bool, listed.size = ops.size → listed.getD n true = false → Region.ready md ops listed ≠ [] := fun listed hsz hn h => by
  have h1 := uj4 hb hsz h n hlt
  have : n < listed.size := by omega
  simp [this] at h1 hn
  rw [h1] at hn
  cases hn
 intro fuel
 induction fuel with
 | zero =>
  intro listed a w hsz hn h
  have h1 := h.1
  rw [uej ho] at h1
  exact absurd h1 (never listed hsz hn)
 | succ fuel ih =>
  intro listed a w hsz hn h
  refine ⟨fun h0 => absurd h0 (never listed hsz hn), fun i hi => ?_⟩
  have h2 := h.2 i (by rw [uej ho]; exact hi)
  by_cases hin : i = n
  ·subst hin
   have hall : Region.ready md ops (listed.setIfInBounds i true) = [] := by
    refine ready_nil fun j hj => ?_
    obtain ⟨_, x, hx, hxa⟩ := mem_ready.1 hi
    rw [ho] at hx
    obtain rfl := Option.some.inj hx
    by_cases hji : j = i
    ·subst hji
     have : j < listed.size := by omega
     simp [this]
    ·rw [getD_set_ne true (Ne.symm hji)]
     have h3 := List.all_eq_true.1 hs j (List.mem_range.2 hj)
     simp only [hji, decide_false, Bool.false_or, ho, Option.map_some, Option.getD_some] at h3
     obtain ⟨e, he, he2⟩ := Array.any_eq_true'.1 h3
     simp only [Bool.and_eq_true, beq_iff_eq] at he2
     have h4 := hxa e he he2.1
     rw [he2.2] at h4
     have : j < listed.size := by omega
     simp [this] at h4 ⊢
     exact h4
   have key : wpAny P md (dfr ops i o) (ufs P o Q) fuel (listed.setIfInBounds i true) a w := by
    unfold wpOp at h2
    rw [dfr_eq ho] at h2
    have hw : Region.wanted { o with op := .assign (.const (.bool true)) } (yielded (dfr ops i o) a.tmps) = true := by simp [Region.wanted, hg]
    simp only [hw, if_true] at h2
    rcases h2 with h2 | ⟨h2, _⟩
    ·simp only [Oper.wp, execOp, Sem.run_pure, Oper.upon, hd, Act.put] at h2
     exact h2
    ·exfalso
     unfold Oper.asks at h2
     have := h2.1
     have h0 : (Sem.runT P (execOp a.eval { o with op := .assign (.const (.bool true)) }) w #[]).2 = #[] := rfl
     rw [h0] at this
     simp at this
   have key2 : o.wp P a w (fun a' w' => Q .normal a' w') Q := by
    cases fuel with
    | zero => exact key.2
    | succ f => exact key.1 (by rw [uej ho]; exact hall)
   unfold wpOp
   rw [ho]
   have hw : Region.wanted o (yielded ops a.tmps) = true := by simp [Region.wanted, hg]
   simp only [hw, if_true]
   refine .inl (Oper.wp_mono (fun a' w' hq => ?_) key2)
   cases fuel with
   | zero => exact ⟨hall, hq⟩
   | succ f => exact ⟨fun _ => hq, by rw [hall]; simp⟩
  ·refine wpOp_mono (fun a' w' h3 => ih _ a' w' (by simpa using hsz) ?_ h3) (wpOp_dfr ho hin h2)
   rw [getD_set_ne true hin]
   exact hn
theorem ud8 {id : Nat} {a : Act} {w : World} (n : Nat) (o : Oper) (ho : ops[n]? = some o) (hm : P.follows .mixedOrders = true) (hd : o.dst = none) (hg : o.guard = none) (hb : backB .any ops = true) (hs : sinkN .any ops n = true)
 (hS : S w.drew) (h : S w.drew → wpAnyH P .any (dfr ops n o) (ufs P o Q) S ops.size (Array.replicate ops.size false) a w.drew) : (Code.region id ops true).wp P Q a w :=
 have hlt : n < ops.size := (Array.getElem?_eq_some_iff.1 ho).1
 wp_region_any hm (uho ho hd hg hb hs _ _ _ _ (by simp) (by simp [hlt]) (wpAny_of_held _ _ _ _ (h hS)))
end
open Go.RowKit
theorem uSa {α : Type _} (l : List α) (i : Nat) (a : α) : l.toArray.setIfInBounds i a = (l.set i a).toArray := by rw [List.setIfInBounds_toArray]
theorem uSb {α : Type _} (a : α) (l : List α) (b : α) : (a :: l).set 0 b = b :: l := rfl
theorem uSc {α : Type _} (a : α) (l : List α) (n : Nat) (b : α) : (a :: l).set (n + 1) b = a :: l.set n b := rfl
inductive Nth : List Oper → Nat → Oper → Prop
 | z {o : Oper} {l : List Oper} : Nth (o :: l) 0 o
 | s {o x : Oper} {l : List Oper} {n : Nat} : Nth l n o → Nth (x :: l) (n + 1) o
theorem Nth.get {l : List Oper} {n : Nat} {o : Oper} (h : Nth l n o) : l.toArray[n]? = some o := by
 induction h with
 | z => rfl
 | s _ ih => simpa using ih
inductive Dfr : List Oper → Nat → Oper → List Oper → Prop
 | z {d : Option Tmp} {op : Op} {t : TypeId} {p : String} {e : Array Edge} {g : Option (Nat × Bool)} {l : List Oper} : Dfr ({ dst := d, op := op, type := t, pos := p, after := e, guard := g } :: l) 0 { dst := d, op := op, type := t, pos := p, after := e, guard := g } ({ dst := d, op := .assign (.const (.bool true)), type := t, pos := p, after := e, guard := g } :: l)
 | s {o x : Oper} {l l' : List Oper} {n : Nat} : Dfr l n o l' → Dfr (x :: l) (n + 1) o (x :: l')
theorem Dfr.get {l l' : List Oper} {n : Nat} {o : Oper} (h : Dfr l n o l') : l[n]? = some o ∧ l.set n { o with op := .assign (.const (.bool true)) } = l' := by
 induction h with
 | z => exact ⟨rfl, rfl⟩
 | s _ ih => exact ⟨by simpa using ih.1, by simpa using ih.2⟩
theorem rup {S : Nat → Prop} {w w' : World} {b o : Nat} {cs : List Value} (h : w.rangeAt b o cs) (hm : Gou.Mod S w w') (hS : ¬ S b) : w'.rangeAt b o cs := fun j v hv => by
 have h1 := h j v hv
 exact (hm.cell (p := ⟨b, o + j, none⟩) (wbc _ _ h1) hS).trans h1
section
variable {P : Program} {md : Region.Mode} {l : List Oper} {Q : Exit → Act → World → Prop} {S : World → Prop} {fuel : Nat} {listed : Array Bool} {a : Act} {w : World}
theorem tk (i : Nat) (v : Value) (hS : S w) {oi : Oper} {b' : Act} (hn : Nth l i oi := by repeat constructor) (hs : Region.noSelect l.toArray = true := by kernel_rfl) (hf : Region.free md l.toArray listed i = true := by kernel_rfl) (hr : (Region.ready md l.toArray listed).contains i = true := by kernel_rfl)
 (hw : Region.wanted oi (yielded l.toArray a.tmps) = true := by rfl) (hy : ∀ w', (execOp a.eval oi).run P w' = .ok (.value v) w' := by (intro w'; go_simp; try with_reducible rfl))
 (ha : a.put oi.dst v = b' := by first | (simp only [Act.put, uSa, uSb, uSc]; done) | (simp only [Act.put, uSa, uSb, uSc]; exact rfl) | exact rfl)
 (hQ : ∀ c a w, Q (.panic c) (a.put oi.dst v) w → Q (.panic c) a w := by exact fun _ _ _ h => h)
 (h : wpAnyH P md l.toArray Q S fuel (listed.setIfInBounds i true) b' w) : wpAnyH P md l.toArray Q S (fuel + 1) listed a w :=
 wpAnyH_take hn.get hs hf hr hQ (.inl ⟨hw, fun w' _ => hy w'⟩) hS (ha ▸ h)
theorem tkK (i : Nat) (v : Value) (hS : S w) {oi : Oper} {b' : Act} (hn : Nth l i oi := by repeat constructor) (hs : Region.noSelect l.toArray = true := by kernel_rfl) (hf : Region.free md l.toArray listed i = true := by kernel_rfl) (hr : (Region.ready md l.toArray listed).contains i = true := by kernel_rfl)
 (hw : Region.wanted oi (yielded l.toArray a.tmps) = true := by rfl) (hy : ∀ w', (execOp a.eval oi).run P w' = .ok (.value v) w' := by (intro w'; kernel_rfl))
 (ha : a.put oi.dst v = b' := by first | (simp only [Act.put, uSa, uSb, uSc]; done) | (simp only [Act.put, uSa, uSb, uSc]; exact rfl) | exact rfl)
 (hQ : ∀ c a w, Q (.panic c) (a.put oi.dst v) w → Q (.panic c) a w := by exact fun _ _ _ h => h)
 (h : wpAnyH P md l.toArray Q S fuel (listed.setIfInBounds i true) b' w) : wpAnyH P md l.toArray Q S (fuel + 1) listed a w :=
 wpAnyH_take hn.get hs hf hr hQ (.inl ⟨hw, fun w' _ => hy w'⟩) hS (ha ▸ h)
theorem tkC {SB : Nat → Prop} {W : World} (i : Nat) {b o : Nat} {v : Value} (g : W.cell? ⟨b, o, none⟩ = some v) (ns : ¬ SB b) (hS : Gou.Mod SB W w) {oi : Oper} {b' : Act} (hn : Nth l i oi := by repeat constructor) (hs : Region.noSelect l.toArray = true := by kernel_rfl) (hf : Region.free md l.toArray listed i = true := by kernel_rfl) (hr : (Region.ready md l.toArray listed).contains i = true := by kernel_rfl)
 (hw : Region.wanted oi (yielded l.toArray a.tmps) = true := by rfl) (hy : ∀ w' : World, w'.cell? ⟨b, o, none⟩ = some v → (execOp a.eval oi).run P w' = .ok (.value v) w' := by (intro w' g; go_simp; try with_reducible rfl))
 (ha : a.put oi.dst v = b' := by first | (simp only [Act.put, uSa, uSb, uSc]; done) | (simp only [Act.put, uSa, uSb, uSc]; exact rfl) | exact rfl)
 (hQ : ∀ c a w, Q (.panic c) (a.put oi.dst v) w → Q (.panic c) a w := by exact fun _ _ _ h => h)
 (h : wpAnyH P md l.toArray Q (fun w' => Gou.Mod SB W w') fuel (listed.setIfInBounds i true) b' w) : wpAnyH P md l.toArray Q (fun w' => Gou.Mod SB W w') (fuel + 1) listed a w :=
 wpAnyH_take hn.get hs hf hr hQ (.inl ⟨hw, fun w' hw' => hy w' ((hw'.cell (p := ⟨b, o, none⟩) (wbc _ _ g) ns).trans g)⟩) hS (ha ▸ h)
theorem tkR {SB : Nat → Prop} {W : World} (i : Nat) (v : Value) {b o : Nat} {cs : List Value} (g : W.rangeAt b o cs) (ns : ¬ SB b) {T : TypeId} {d : TypeDesc} (hu : P.underlying T = some d) (hi : (P.info? T).map (·.size) = some cs.length) (hS : Gou.Mod SB W w)
 {oi : Oper} {b' : Act} (hn : Nth l i oi := by repeat constructor) (hs : Region.noSelect l.toArray = true := by kernel_rfl) (hf : Region.free md l.toArray listed i = true := by kernel_rfl) (hr : (Region.ready md l.toArray listed).contains i = true := by kernel_rfl)
 (hw : Region.wanted oi (yielded l.toArray a.tmps) = true := by rfl) {x : Operand} (ho : oi.op = .load T x := by rfl) (hx : a.eval x = .pointer (some ⟨b, o, none⟩) := by rfl) (hd : d.isRow = true := by rfl) (hv : v = .agg cs.toArray := by rfl)
 (ha : a.put oi.dst v = b' := by first | (simp only [Act.put, uSa, uSb, uSc]; done) | (simp only [Act.put, uSa, uSb, uSc]; exact rfl) | exact rfl)
 (hQ : ∀ c a w, Q (.panic c) (a.put oi.dst v) w → Q (.panic c) a w := by exact fun _ _ _ h => h)
 (h : wpAnyH P md l.toArray Q (fun w' => Gou.Mod SB W w') fuel (listed.setIfInBounds i true) b' w) : wpAnyH P md l.toArray Q (fun w' => Gou.Mod SB W w') (fuel + 1) listed a w := by
 subst hv
 exact wpAnyH_take hn.get hs hf hr hQ (yieldsIf_load_mid hw T _ ho b o hx cs _ (fun w' hw' => rup g hw' ns) hu hd hi) hS (ha ▸ h)
theorem rd (i : Nat) {o : Oper} (hn : Nth l i o := by repeat constructor) (hr : Region.ready md l.toArray listed = [i] := by kernel_rfl) (hw : Region.wanted o (yielded l.toArray a.tmps) = true := by rfl)
 (h : ∀ K : Act → World → Prop, Shut (∀ a w, S w → (S w → wpAnyH P md l.toArray Q S fuel (listed.setIfInBounds i true) a w) → K a w) → Oper.wp P o a w K Q) : wpAnyH P md l.toArray Q S (fuel + 1) listed a w :=
 wpAnyH_ready hr (by simp) (AllReadyH.cons hn.get (fun K hK => by rw [if_pos hw]; exact h K hK) AllReadyH.nil)
theorem dn (hS : S w) (hr : Region.ready md l.toArray listed = [] := by kernel_rfl) (h : Q .normal a w) : wpAnyH P md l.toArray Q S fuel listed a w := wpAnyH_done hr h _
theorem stR {SB : Nat → Prop} {W : World} (i : Nat) (b o : Nat) (cells : Array Value) (hS : Gou.Mod SB W w) (hb : SB b) {T : TypeId} (ht : w.there b o cells.size) (hi : (P.info? T).map (·.size) = some cells.size) (h1 : cells.all (·.oneCell') = true)
 {oi : Oper} (hn : Nth l i oi := by repeat constructor) (hr : Region.ready md l.toArray listed = [i] := by kernel_rfl) (hw : Region.wanted oi (yielded l.toArray a.tmps) = true := by rfl) {x y : Operand} (ho : oi.op = .store T x y := by rfl) (hd : oi.dst = none := by rfl) (hx : a.eval x = .pointer (some ⟨b, o, none⟩) := by rfl) (hy : a.eval y = .agg cells := by rfl)
 (h : Gou.Mod SB W (w.setCells b o cells.toList) → wpAnyH P md l.toArray Q (fun w' => Gou.Mod SB W w') fuel (listed.setIfInBounds i true) a (w.setCells b o cells.toList)) : wpAnyH P md l.toArray Q (fun w' => Gou.Mod SB W w') (fuel + 1) listed a w := by
 refine rd i hn hr hw (h := fun K hK => ?_)
 refine wp_store_mid T x y ho b o cells hx hy ht hi h1 ?_
 have e : a.put oi.dst undef = a := by rw [hd]; rfl
 rw [e]
 have M : Gou.Mod SB W (w.setCells b o cells.toList) := hS.trans' ((Blk.setMod w b o cells.toList).imp (fun k _ h => by rw [h]; exact hb))
 exact hK _ _ M h
theorem wdf (n : Nat) {id : Nat} {o : Oper} {l' : List Oper} (hS : S w.drew) (hn : Dfr l n o l' := by repeat constructor) (hm : P.follows .mixedOrders = true := by kernel_rfl) (hd : o.dst = none := by rfl) (hg : o.guard = none := by rfl) (hb : backB .any l.toArray = true := by kernel_rfl) (hs : sinkN .any l.toArray n = true := by kernel_rfl)
 (h : S w.drew → wpAnyH P .any l'.toArray (ufs P o Q) S l.toArray.size (Array.replicate l.toArray.size false) a w.drew) : (Code.region id l.toArray true).wp P Q a w :=
 ud8 n o (by simpa using hn.get.1) hm hd hg hb hs hS (fun g => by
  have e : dfr l.toArray n o = l'.toArray := by unfold dfr; rw [List.setIfInBounds_toArray, hn.get.2]
  rw [e]; exact h g)
theorem rd2 (i j : Nat) {o p : Oper} (hn : Nth l i o := by repeat constructor) (hp : Nth l j p := by repeat constructor) (hr : Region.ready md l.toArray listed = [i, j] := by kernel_rfl) (hw : Region.wanted o (yielded l.toArray a.tmps) = true := by rfl) (hv : Region.wanted p (yielded l.toArray a.tmps) = true := by rfl)
 (h : ∀ K : Act → World → Prop, Shut (∀ a w, S w → (S w → wpAnyH P md l.toArray Q S fuel (listed.setIfInBounds i true) a w) → K a w) → Oper.wp P o a w K Q)
 (g : ∀ K : Act → World → Prop, Shut (∀ a w, S w → (S w → wpAnyH P md l.toArray Q S fuel (listed.setIfInBounds j true) a w) → K a w) → Oper.wp P p a w K Q) : wpAnyH P md l.toArray Q S (fuel + 1) listed a w :=
 wpAnyH_ready hr (by simp) (AllReadyH.cons hn.get (fun K hK => by rw [if_pos hw]; exact h K hK) (AllReadyH.cons hp.get (fun K hK => by rw [if_pos hv]; exact g K hK) AllReadyH.nil))
end
section
variable {P : Program} {ops : Array Oper} {rest : List Oper} {a : Act} {w : World} {Q : Exit → Act → World → Prop} {T : TypeId} {b o n : Nat} {d : TypeDesc} {dst : Option Tmp} {x y : Operand} {t : TypeId} {p : String} {e : Array Edge} {g : Option (Nat × Bool)}
theorem lT (T : TypeId) (h : wpList P ops Q ({ dst := dst, op := .load T x, type := t, pos := p, after := e, guard := g } :: rest) a w) : wpList P ops Q ({ dst := dst, op := .load T x, type := t, pos := p, after := e, guard := g } :: rest) a w := h
theorem sT (T : TypeId) (h : wpList P ops Q ({ dst := dst, op := .store T x y, type := t, pos := p, after := e, guard := g } :: rest) a w) : wpList P ops Q ({ dst := dst, op := .store T x y, type := t, pos := p, after := e, guard := g } :: rest) a w := h
theorem ldA {cs : List Value} {v : Array Value} (hc : w.rangeAt b o cs) (hu : P.underlying T = some d) (hi : (P.info? T).map (·.size) = some n) (hn : cs.length = n := by rfl) (hx : a.eval x = .pointer (some ⟨b, o, none⟩) := by rfl) (hd : d.isRow = true := by rfl) (hv : cs.toArray = v := by first | exact Array.toArray_toList .. | rfl)
 (h : wpList P ops Q rest (a.put dst (.agg v)) w) : wpList P ops Q ({ dst := dst, op := .load T x, type := t, pos := p, after := e, guard := none } :: rest) a w :=
 wpList_load_mid rfl T x rfl b o hx cs d hc hu hd (by rw [hn]; exact hi) (by rw [hv]; exact h)
theorem ldG {cs : List Value} {v : Array Value} (hc : w.rangeAt b o cs) (hu : P.underlying T = some d) (hi : (P.info? T).map (·.size) = some n) (hw : Region.wanted { dst := dst, op := .load T x, type := t, pos := p, after := e, guard := g } (yielded ops a.tmps) = true := by rfl) (hn : cs.length = n := by rfl) (hx : a.eval x = .pointer (some ⟨b, o, none⟩) := by rfl) (hd : d.isRow = true := by rfl) (hv : cs.toArray = v := by first | exact Array.toArray_toList .. | rfl)
 (h : wpList P ops Q rest (a.put dst (.agg v)) w) : wpList P ops Q ({ dst := dst, op := .load T x, type := t, pos := p, after := e, guard := g } :: rest) a w :=
 wpList_step fun K hK => by rw [if_pos hw]; exact wp_load_mid T x rfl b o hx cs d hc hu hd (by rw [hn]; exact hi) (hK _ _ (by rw [hv]; exact h))
theorem stA (cells : Array Value) (ht : w.there b o n) (hi : (P.info? T).map (·.size) = some n) (h1 : cells.all (·.oneCell') = true) (hn : cells.size = n := by rfl) (hx : a.eval x = .pointer (some ⟨b, o, none⟩) := by rfl) (hy : a.eval y = .agg cells := by rfl)
 (h : wpList P ops Q rest a (w.setCells b o cells.toList)) : wpList P ops Q ({ dst := none, op := .store T x y, type := t, pos := p, after := e, guard := none } :: rest) a w :=
 wpList_store_mid rfl T x y rfl b o cells hx hy (by rw [hn]; exact ht) (by rw [hn]; exact hi) h1 h
end
theorem newB {P : Program} {c : Code} {Q : Exit → Act → World → Prop} {a : Act} {w : World} {T : TypeId} {z cs : Array Value} (hs : z.size = cs.size) (h : ∀ W', Blk W' w.heap.size T cs → Gou.Mod (fun _ => False) w W' → Code.wp P c Q a W') : Code.wp P c Q a ((w.alloc (.cells z T)).setCells w.heap.size 0 cs.toList) := by
 have h1 : Blk (w.alloc (.cells z T)) w.heap.size T z := heap_alloc_new _ _
 have h2 := h1.sets 0 cs.toList
 rw [uef z cs.toList (by rw [hs]; simp), Array.toArray_toList] at h2
 exact h _ h2 ((Gou.Mod.alloc (fun _ => False) w (.cells z T)).trans (Blk.setMod _ w.heap.size 0 cs.toList) (fun k hk e => by omega))
theorem putB {P : Program} {c : Code} {Q : Exit → Act → World → Prop} {a : Act} {w : World} {b o : Nat} {vs : List Value} (h : ∀ W', Gou.Mod (fun k => k = b) w W' → (∀ T cs, Blk w b T cs → Blk W' b T (uao cs o vs)) → Code.wp P c Q a W') : Code.wp P c Q a (w.setCells b o vs) :=
 h _ (Blk.setMod w b o vs) (fun _ _ hb => hb.sets o vs)
theorem uax {S : Nat → Prop} {w w' : World} {b o : Nat} {cs : List Value} (h : w.rangeAt b o cs) (hm : Mod S w w') (hS : ¬ S b) : w'.rangeAt b o cs := fun j v hv => by
 have h1 := h j v hv
 exact (hm.cell (p := ⟨b, o + j, none⟩) (wbc _ _ h1) hS).trans h1
theorem Blk.range {w : World} {b : Nat} {T : TypeId} {cs : Array Value} (h : Blk w b T cs) {pre mid post : List Value} (hc : cs.toList = pre ++ (mid ++ post)) {k : Nat} (hk : k = pre.length) : w.rangeAt b k mid := fun j v hv => by
 subst hk
 refine h.cell _ ?_
 have hj : j < mid.length := (lgS.1 hv).1
 rw [← agT, hc, lgR (by omega), Nat.add_sub_cancel_left, lgL hj]
 exact hv
theorem ui6 {w : World} {b b' : Nat} {T T' : TypeId} {cs cs' : Array Value} (h : Blk w b T cs) (h' : Blk w b' T' cs') (hT : T ≠ T') : b ≠ b' := fun e => by
 subst e
 unfold Blk at h h'
 rw [h] at h'
 simp only [Option.some.injEq, Obj.cells.injEq] at h'
 exact hT h'.2.1
theorem uan {w : World} {base : Nat} {e T' : TypeId} {k n b' : Nat} {v : Value} {xs : List Value} {cs' : Array Value} (h : w.ownsRow base e k v n xs) (h' : Blk w b' T' cs') (hT : e ≠ T') : v.ownBlock ≠ some b' := fun hb => by
 obtain ⟨_, _, cur, cap, h1, _⟩ := uar h hb
 exact ui6 h1 h' hT rfl
theorem ubd (w : World) (T U V : TypeId) (cs ds es : Array Value) : Blk (((w.alloc (.cells cs T)).alloc (.cells ds U)).alloc (.cells es V)) w.heap.size T cs ∧ Blk (((w.alloc (.cells cs T)).alloc (.cells ds U)).alloc (.cells es V)) (w.heap.size + 1) U ds ∧ Blk (((w.alloc (.cells cs T)).alloc (.cells ds U)).alloc (.cells es V)) (w.heap.size + 1 + 1) V es ∧ Mod (fun _ => False) w (((w.alloc (.cells cs T)).alloc (.cells ds U)).alloc (.cells es V)) := by
 obtain ⟨h1, h2, h3⟩ := uaw (w.alloc (.cells cs T)) U V ds es
 exact ⟨((Blk.new w T cs).up (Mod.alloc0 _ _)).up (Mod.alloc0 _ _), by simpa only [World.size_alloc] using h1, by simpa only [World.size_alloc] using h2, (Mod.alloc0 _ _).trans' h3⟩
theorem NodesR.at {G : Nat → Prop} {w : World} {p : Option Addr} {n c : Nat} {ns : List ubb} (h : NodesR G w (.slice p n c) ns) {i : Nat} (hi : i < ns.length) : n = ns.length ∧ ∃ b o vi vp, p = some ⟨b, o, none⟩ ∧ b < w.heap.size ∧
 w.cell? ⟨b, o + i * 3, none⟩ = some (iV ns[i].op) ∧ w.cell? ⟨b, o + i * 3 + 1, none⟩ = some vi ∧ w.cell? ⟨b, o + i * 3 + 2, none⟩ = some vp ∧ IntsR G w vi ns[i].ins ∧ IntsR G w vp ns[i].ps := by
 obtain ⟨cs, ⟨hl, p', c', e, hcap, h⟩, hn, hc⟩ := h
 simp only [Value.slice.injEq] at e
 obtain ⟨rfl, rfl, rfl⟩ := e
 rcases h with h | ⟨b, o, rfl, hb, hG, h⟩
 ·omega
 ·obtain ⟨vi, vp, c0, c1, c2, h3, h4⟩ := hc i hi
  exact ⟨rfl, b, o, vi, vp, rfl, hb, h _ _ c0, by have := h _ _ c1; rwa [← Nat.add_assoc] at this, by have := h _ _ c2; rwa [← Nat.add_assoc] at this, h3, h4⟩
theorem LookG.of_mod {TL TD : TypeId} {base : Nat} {w w' : World} (hm : Mod (fun _ => False) w w') (k : Nat) (hk : LookG TL TD base w k) : LookG TL TD base w' k := ⟨hk.1, hk.2.mod hm (fun h => h)⟩
theorem uiw {TL TD : TypeId} {w : World} {base : Nat} {e : TypeId} {k n : Nat} {v : Value} {xs : List Value} (h : w.ownsRow base e k v n xs) (h1 : e ≠ TL) (h2 : e ≠ TD ∧ ucx e) : RowG (LookG TL TD base w) w k v n xs :=
 RowG.own_of h (fun b hb hge => by
  obtain ⟨_, _, cur, cap, h3, _⟩ := uar h hb
  exact ⟨hge, cur, e, h3, h1, h2⟩)
theorem Mod.set1 (w : World) (N o : Nat) (u : Value) : Mod (fun k => k = N) w (w.setCell ⟨N, o, none⟩ u) := Mod.setCell w ⟨N, o, none⟩ u
def TyG (T : TypeId) (base : Nat) (w : World) (b : Nat) : Prop := base ≤ b ∧ ∃ cur, Blk w b T cur
theorem own_ty {w : World} {base : Nat} {e : TypeId} {k n : Nat} {v : Value} {xs : List Value} (h : w.ownsRow base e k v n xs) {base' : Nat} (hb : base' ≤ base) : RowG (TyG e base' w) w k v n xs :=
 RowG.own_of h (fun b hb' hge => by
  obtain ⟨_, _, cur, cap, h3, _⟩ := uar h hb'
  exact ⟨Nat.le_trans hb hge, cur, h3⟩)
theorem TyG.mod {T : TypeId} {base : Nat} {S : Nat → Prop} {w w' : World} (hm : Mod S w w') (k : Nat) (hk : TyG T base w k) (hS : ¬ S k) : TyG T base w' k := ⟨hk.1, hk.2.imp fun cur h => Blk.mod h hm hS⟩
theorem TyG.look {T TL TD : TypeId} {base : Nat} {w : World} (h1 : T ≠ TL) (h2 : T ≠ TD ∧ ucx T) (k : Nat) (hk : TyG T base w k) : LookG TL TD base w k := ⟨hk.1, by obtain ⟨cur, h⟩ := hk.2; exact ⟨cur, T, h, h1, h2⟩⟩
theorem TyG.ne {T T' : TypeId} {base b : Nat} {w : World} {cs : Array Value} (h : Blk w b T' cs) (hT : T ≠ T') (k : Nat) (hk : TyG T base w k) : k ≠ b := by
 obtain ⟨_, cur, h'⟩ := hk
 exact ui6 h' h hT
theorem ubq {w : World} {base base' : Nat} {e T : TypeId} {k n : Nat} {v : Value} {xs : List Value} (h : w.ownsRow base e k v n xs) (hT : T ≠ e) (x : Nat) (hx : TyG T base' w x) : ¬ v.ownBlock = some x := fun hb => by
 obtain ⟨_, _, cur, cap, h3, _⟩ := uar h hb
 obtain ⟨_, cur', h4⟩ := hx
 exact ui6 h4 h3 hT rfl
theorem RowG.fam {G G' S : Nat → Prop} {w w' : World} {k n : Nat} {v : Value} {xs : List Value} (h : RowG G w k v n xs) (hm : Mod S w w') (h1 : ∀ k, G k → ¬ S k) (h2 : ∀ k, G k → G' k) : RowG G' w' k v n xs :=
 (RowG.mod h hm (fun k _ hk => h1 k hk)).imp (fun k _ hk => h2 k hk)
theorem NodeC.fam {G G' S : Nat → Prop} {w w' : World} {xs : List Value} {ns : List ubb} (h : NodeC G w xs ns) (hm : Mod S w w') (h1 : ∀ k, G k → ¬ S k) (h2 : ∀ k, G k → G' k) : NodeC G' w' xs ns :=
 (NodeC.mod h hm (fun k _ hk => h1 k hk)).imp (fun k _ hk => h2 k hk)
theorem RowG.look_mod {TL TD : TypeId} {base : Nat} {S : Nat → Prop} {w w' : World} {k n : Nat} {v : Value} {xs : List Value} (h : RowG (LookG TL TD base w) w k v n xs) (hm : Mod S w w') (hS : ∀ k, base ≤ k → LookBlk TL TD w k → ¬ S k) : RowG (LookG TL TD base w') w' k v n xs :=
 ((h.imp (G' := fun b => LookG TL TD base w b ∧ LookG TL TD base w' b) (fun k _ hk => ⟨hk, hk.1, hk.2.mod hm (hS k hk.1 hk.2)⟩)).mod hm (fun k _ hk => hS k hk.1.1 hk.1.2)).imp (fun k _ hk => hk.2)
theorem NodeC.look_mod {TL TD : TypeId} {base : Nat} {S : Nat → Prop} {w w' : World} {xs : List Value} {ns : List ubb} (h : NodeC (LookG TL TD base w) w xs ns) (hm : Mod S w w') (hS : ∀ k, base ≤ k → LookBlk TL TD w k → ¬ S k) : NodeC (LookG TL TD base w') w' xs ns :=
 ⟨h.1, fun i hi => by
  obtain ⟨a, b, c0, c1, c2, c3, c4⟩ := h.2 i hi
  exact ⟨a, b, c0, c1, c2, RowG.look_mod c3 hm hS, RowG.look_mod c4 hm hS⟩⟩
end Go.Gou
namespace Go.Proofs.YtpbmfalokongfaaGreatDoor
open Go.RowKit Go.Gou
set_option maxRecDepth 100000
def GraphP (w : World) (g : Gr) (e : Ending) (w' : World) : Prop := ∃ p c, e = .returned (.agg #[.slice p g.nodes.length c, iV g.out]) ∧ NodesR (LookG 45 77 w.heap.size w') w' (.slice p g.nodes.length c) g.nodes ∧ Gou.Mod (fun _ => False) w w'
structure GBox (w wr : World) (vs : Value) (out : Int) : Prop where
 R : Blk wr (w.heap.size + 1) 40 #[.slice none 0 0, iV 0]
 O : Blk wr (w.heap.size + 1 + 1) 40 #[vs, iV out]
 M : Gou.Mod (fun _ => False) w wr
theorem GBox.mod {w wr w' : World} {vs : Value} {out : Int} {S : Nat → Prop} (h : GBox w wr vs out) (hm : Gou.Mod S wr w') (h1 : ¬ S (w.heap.size + 1)) (h2 : ¬ S (w.heap.size + 1 + 1)) (h3 : ∀ k, k < w.heap.size → ¬ S k) : GBox w w' vs out :=
 ⟨h.R.mod hm h1, h.O.mod hm h2, h.M.trans hm (fun k hk hs => h3 k hk hs)⟩
theorem ue1 (w : World) (p : Option Addr) (c : Nat) (g : Gr) (h : NodesR (fun _ => True) w (.slice p g.nodes.length c) g.nodes) (hn : g.nodes.length ≤ 1000000) (hl : ∀ n ∈ g.nodes, n.ins.length ≤ 1000000 ∧ n.ps.length ≤ 1000000) :
 Calls Tryz.prog 74 #[.agg #[.slice p g.nodes.length c, iV g.out]] w (GraphP w g) := by
 obtain ⟨ns, out⟩ := g
 simp only at h hn hl
 have Hh := hd' h
 have Hn := hd' hn
 have Hl := hd' hl
 clear h hn hl
 go_enter Tryz.func74, Tryz.ntmps74
 go_wp2_with fail
 obtain ⟨b0, b1, b2, bm⟩ := ubd w 40 40 40 #[.slice p ns.length c, iV out] #[.slice none 0 0, iV 0] #[.slice none 0 0, iV out]
 have HB : Hid (GBox w _ nlS out) := hd' ⟨b1, b2, bm⟩
 clear b0 b1 b2 bm
 generalize ((w.alloc (.cells #[.slice p ns.length c, iV out] 40)).alloc (.cells #[.slice none 0 0, iV 0] 40)).alloc (.cells #[.slice none 0 0, iV out] 40) = w1 at *
 go_loopw [12] (fun vi wr => ∃ i : Nat, vi = iV i ∧ i ≤ ns.length ∧ ∃ vs cs, GBox w wr vs out ∧ wr.ownsRow w.heap.size 95 3 vs i cs ∧ NodeC (TyG 3 w.heap.size wr) wr cs (ns.take i)) (fun vi _ => ns.length - (intOf vi).toNat)
 case atStart => exact ⟨0, rfl, Nat.zero_le _, _, [], HB.o, World.ownsRow_nil _ _ _ _, NodeC.nil _ _⟩
 case round =>
  obtain ⟨i, rfl, hi, vs, cs, hb, hown, hnc⟩ := hrel
  obtain ⟨ps, cp, rfl⟩ := Gou.ownsRow_form hown
  have Hb := hd' hb
  have Hown := hd' hown
  have Hnc := hd' hnc
  clear hb hown hnc HB
  by_cases hil : i < ns.length
  ·obtain ⟨_, b, o, vi, vp, rfl, hbl, k0, k1, k2, hI, hP⟩ := Hh.o.at hil
   have Hbl := hd' hbl
   have k0 := (Hb.o.M.cell (p := ⟨b, o + i * 3, none⟩) hbl (fun h => h)).trans k0
   have k1 := (Hb.o.M.cell (p := ⟨b, o + i * 3 + 1, none⟩) hbl (fun h => h)).trans k1
   have k2 := (Hb.o.M.cell (p := ⟨b, o + i * 3 + 2, none⟩) hbl (fun h => h)).trans k2
   have HI := hd' (RowG.under (RowG.imp hI (G' := fun k => k < w.heap.size) (fun k hk _ => hk)) Hb.o.M)
   have HP := hd' (RowG.under (RowG.imp hP (G' := fun k => k < w.heap.size) (fun k hk _ => hk)) Hb.o.M)
   obtain ⟨pi, ci, rfl, _⟩ := RowG.form hI
   obtain ⟨pp, cpp, rfl, _⟩ := RowG.form hP
   have Hnd : Hid (ns.take (i + 1) = ns.take i ++ [ns[i]]) := hd' (ltS hil)
   have Hlen := hd' (Hl.o ns[i] (lgM hil))
   have Hil := hd' hil
   clear hI hP hbl
   generalize ns[i] = nd at *
   obtain ⟨op, ins, pss⟩ := nd
   simp only at k0 k1 k2
   go_wp2_with fail
   have HN := hd' (Blk.new wr 95 #[iV op, .slice pi ins.length ci, .slice pp pss.length cpp])
   have HMa := hd' (Gou.Mod.alloc0 wr (.cells #[iV op, .slice pi ins.length ci, .slice pp pss.length cpp] 95))
   have HB3 : Hid (GBox w (wr.alloc (.cells #[iV op, .slice pi ins.length ci, .slice pp pss.length cpp] 95)) (.slice ps i cp) out) := hd' (Hb.o.mod HMa.o (fun h => h) (fun h => h) (fun _ _ h => h))
   have Hown3 := hd' (ua4 Hown.o HMa.o)
   have Hnc3 := hd' (NodeC.fam Hnc.o HMa.o (fun _ _ h => h) (fun k hk => TyG.mod HMa.o k hk (fun h => h)))
   have HI3 := hd' (HI.o.under HMa.o)
   have HP3 := hd' (HP.o.under HMa.o)
   have Hx : Hid ((Value.slice ps i cp).ownBlock ≠ some wr.heap.size) := hd' (fun hb => by have := Gou.ownsRow_nodup Hown.o _ hb; omega)
   clear Hb Hown Hnc HI HP HMa k0 k1 k2
   generalize wr.alloc (.cells #[iV op, .slice pi ins.length ci, .slice pp pss.length cpp] 95) = W3 at *
   generalize wr.heap.size = N at *
   have x0 := HN.o.cell 0 rfl
   have x1 := HN.o.cell 1 rfl
   have x2 := HN.o.cell 2 rfl
   have o0 := HB3.o.O.cell 0 rfl
   refine wdf (S := fun w' => Gou.Mod (fun k => (Value.slice ps i cp).ownBlock = some k) W3 w') 14 (Gou.Mod.drew _ _) (h := fun hH => ?_)
   refine tk 0 (.pointer (some ⟨(w.heap.size + 1 + 1), 0, none⟩)) hH (h := ?_)
   refine tkC 1 o0 (uan Hown3.o HB3.o.O (by decide)) hH (h := ?_)
   refine tk 2 (.pointer (some ⟨N, 0, none⟩)) hH (h := ?_)
   refine tkC 3 x0 (Hx.o) hH (h := ?_)
   refine tk 4 (.pointer (some ⟨N, 1, none⟩)) hH (h := ?_)
   refine tkC 5 x1 (Hx.o) hH (h := ?_)
   refine tk 7 (.pointer (some ⟨N, 2, none⟩)) hH (h := ?_)
   refine tkC 8 x2 (Hx.o) hH (h := ?_)
   refine rd 6 (h := fun K hK => ?_)
   go_simp
   refine (ub5 _ pi ins.length ci (ivs ins) (fun k => k < w.heap.size) (HI3.o.mod hH (fun k _ hk e => by have := uba Hown3.o k e; omega)) (uf8 _) (Nat.le_trans Hlen.o.1 (by omega))).mono ?_
   rintro e w4 ⟨pi4, ci4, rfl, ho4, hm4⟩
   have M := hd' (hH.trans' (hm4.imp (fun _ _ h => h.elim)))
   have Ho4 := hd' ho4
   have MF4 := hd' ((Gou.Mod.drew (fun _ => False) W3).trans' hm4)
   have Hz4 := hd' (Nat.le_trans HB3.o.M.size MF4.o.size)
   clear ho4
   clear hH
   refine hK _ _ M.o (fun hH => ?_)
   clear hK K M
   try simp only [Act.put, uSa, uSb, uSc]
   refine rd 9 (h := fun K hK => ?_)
   go_simp
   refine (ub5 _ pp pss.length cpp (ivs pss) (fun k => k < w.heap.size) (HP3.o.mod hH (fun k _ hk e => by have := uba Hown3.o k e; omega)) (uf8 _) (Nat.le_trans Hlen.o.2 (by omega))).mono ?_
   rintro e w5 ⟨pp5, cp5, rfl, ho5, hm5⟩
   have M := hd' (hH.trans' (hm5.imp (fun _ _ h => h.elim)))
   have Ho5 := hd' ho5
   have Ho4b := hd' (ua4 Ho4.o hm5)
   have MF5 := hd' (MF4.o.trans' hm5)
   clear ho5 Ho4 MF4
   clear hH
   refine hK _ _ M.o (fun hH => ?_)
   clear hK K M
   try simp only [Act.put, uSa, uSb, uSc]
   refine tk 10 (.agg #[iV op, .slice pi4 ins.length ci4, .slice pp5 pss.length cp5]) hH (h := ?_)
   refine rd 11 (h := fun K hK => ?_)
   go_simp
   have M := hd' (hH.trans' (Gou.Mod.alloc (fun k => (Value.slice ps i cp).ownBlock = some k) w5 (.cells #[iV op, .slice pi4 ins.length ci4, .slice pp5 pss.length cp5] 95)))
   clear hH
   refine hK _ _ M.o (fun hH => ?_)
   clear hK K M
   try simp only [Act.put, uSa, uSb, uSc]
   refine rd 12 (h := fun K hK => ?_)
   refine ual T_node _ _ rfl (w.heap.size) (.slice ps i cp) i cs (fun _ => True) (.slice (some ⟨w5.heap.size, 0, none⟩) 1 1) 1 [iV op, .slice pi4 ins.length ci4, .slice pp5 pss.length cp5] rfl rfl (by have := HB3.o.M.size; have := hH.size; omega) (ua4 Hown3.o (MF5.o.trans' (Gou.Mod.alloc0 _ _))) (RowG.of_blk (Blk.new w5 _ _) 3 1 rfl _ trivial) (by simp [Value.oneCell']) (by have := Hil.o; have := Hn.o; unfold maxLen; omega) (by have := Hil.o; have := Hn.o; omega) ?_
   intro v7 w7 G7
   obtain ⟨p7, c7, rfl⟩ := Gou.ownsRow_form G7.own
   have M := hd' (hH.trans' G7.mod)
   clear hH
   refine hK _ _ M.o (fun hH => ?_)
   clear hK K M
   try simp only [Act.put, uSa, uSb, uSc]
   refine tk 13 (.pointer (some ⟨(w.heap.size + 1 + 1), 0, none⟩)) hH (h := ?_)
   refine tk 14 (.bool true) hH (h := ?_)
   have MS := hd' hH
   refine wpAnyH_done (by kernel_rfl) ?_ _
   clear hH
   show Oper.wp _ _ _ _ _ _
   have MFa := hd' (MF5.o.trans' (Gou.Mod.alloc0 w5 (.cells #[iV op, .slice pi4 ins.length ci4, .slice pp5 pss.length cp5] 95)))
   have HB7 := hd' (HB3.o.mod MS.o (uan Hown3.o HB3.o.R (by decide)) (uan Hown3.o HB3.o.O (by decide)) (fun k hk e => by have := uba Hown3.o k e; omega))
   have o7 := HB7.o.O.cell 0 rfl
   have f7 := HB7.o.O.frozen 0
   have Ho4c := hd' (ua4 Ho4b.o (Gou.Mod.alloc0 w5 (.cells #[iV op, .slice pi4 ins.length ci4, .slice pp5 pss.length cp5] 95)))
   have Ho5c := hd' (ua4 Ho5.o (Gou.Mod.alloc0 w5 (.cells #[iV op, .slice pi4 ins.length ci4, .slice pp5 pss.length cp5] 95)))
   have Hva := hd' (ua4 Hown3.o MFa.o)
   have Hnca := hd' (NodeC.fam Hnc3.o MFa.o (fun _ _ h => h) (fun k hk => TyG.mod MFa.o k hk (fun h => h)))
   have H4 : Hid (RowG (TyG 3 w.heap.size w7) w7 1 (.slice pi4 ins.length ci4) ins.length (ivs ins)) := hd' ((own_ty Ho4c.o HB3.o.M.size).fam G7.mod (fun k hk => ubq Hva.o (by decide) k hk) (fun k hk => TyG.mod G7.mod k hk (ubq Hva.o (by decide) k hk)))
   have H5 : Hid (RowG (TyG 3 w.heap.size w7) w7 1 (.slice pp5 pss.length cp5) pss.length (ivs pss)) := hd' ((own_ty Ho5c.o Hz4.o).fam G7.mod (fun k hk => ubq Hva.o (by decide) k hk) (fun k hk => TyG.mod G7.mod k hk (ubq Hva.o (by decide) k hk)))
   have Hnc7 := hd' (NodeC.fam Hnca.o G7.mod (fun k hk => ubq Hva.o (by decide) k hk) (fun k hk => TyG.mod G7.mod k hk (ubq Hva.o (by decide) k hk)))
   have Hn7 := hd' (Hnc7.o.snoc ⟨op, ins, pss⟩ _ _ H4.o H5.o)
   have Hv7 := hd' G7.own
   clear G7 Hz4 Ho4b Ho5 Ho4c Ho5c Hva Hnca H4 H5 Hnc7 MF5 MFa HB3 Hown3 Hnc3 HI3 HP3 Hx HN x0 x1 x2 o0 MS
   go_simp
   have hwi : wrap64 ((i : Int) + 1) = ((i + 1 : Nat) : Int) := by have := Hil.o; have := Hn.o; unfold wrap64; omega
   have HB8 : Hid (GBox w (w7.setCell ⟨w.heap.size + 1 + 1, 0, none⟩ (.slice p7 (i + 1) c7)) (.slice p7 (i + 1) c7) out) := hd' ⟨HB7.o.R.mod (Gou.Mod.set1 w7 (w.heap.size + 1 + 1) 0 (.slice p7 (i + 1) c7)) (by omega), HB7.o.O.set 0 _, HB7.o.M.trans (Gou.Mod.set1 w7 (w.heap.size + 1 + 1) 0 (.slice p7 (i + 1) c7)) (fun k hk e => by omega)⟩
   have Hv8 := hd' (uac Hv7.o (Gou.Mod.set1 w7 (w.heap.size + 1 + 1) 0 (.slice p7 (i + 1) c7)) (fun k hk e => uan Hv7.o HB7.o.O (by decide) (by rw [hk, e])))
   have Hn8 := hd' (NodeC.fam Hn7.o (Gou.Mod.set1 w7 (w.heap.size + 1 + 1) 0 (.slice p7 (i + 1) c7)) (fun k hk e => TyG.ne HB7.o.O (by decide) k hk e) (fun k hk => TyG.mod (Gou.Mod.set1 w7 (w.heap.size + 1 + 1) 0 (.slice p7 (i + 1) c7)) k hk (fun e => TyG.ne HB7.o.O (by decide) k hk e)))
   clear HB7 Hv7 Hn7 o7 f7
   go_wp2_with fail
   go_roundw
   case rel => exact ⟨i + 1, by rw [← hwi], by have := Hil.o; omega, _, _, HB8.o, Hv8.o, by rw [Hnd.o]; exact Hn8.o⟩
   case measure => rw [hwi]; have := Hil.o; simp only [intOf]; omega
  ·have hil' : i = ns.length := by omega
   subst hil'
   rw [List.take_length] at Hnc
   have o0 := Hb.o.O.cell 0 rfl
   have o1 := Hb.o.O.cell 1 rfl
   have r0 := Hb.o.R.cell 0 rfl
   have r1 := Hb.o.R.cell 1 rfl
   have f0 := Hb.o.R.frozen 0
   have f1 := Hb.o.R.frozen 1
   go_wp2_with fail
   have M1 := hd' ((Gou.Mod.set1 wr (w.heap.size + 1) 0 (.slice ps ns.length cp)).trans' (Gou.Mod.set1 _ (w.heap.size + 1) 1 (iV out)))
   have HR := hd' ((Hb.o.R.set 0 (.slice ps ns.length cp)).set 1 (iV out))
   have ha := (NodeC.fam Hnc.o M1.o (fun k hk e => TyG.ne Hb.o.R (by decide) k hk e) (fun k hk => TyG.mod M1.o k hk (fun e => TyG.ne Hb.o.R (by decide) k hk e))).imp (fun k _ hk => TyG.look (TL := 45) (TD := 77) (by decide) (by decide) k hk)
   have hb2 := uiw (TL := 45) (TD := 77) (uac Hown.o M1.o (fun k hk e => uan Hown.o Hb.o.R (by decide) (by rw [hk, e]))) (by decide) (by decide)
   refine bpr (results_cell_row rfl _ _ (w.heap.size + 1) 40 #[.slice ps ns.length cp, iV out] (0, 0) _ rfl HR.o Tryz.underlying40 rfl ua6) rfl ?_
   exact ⟨ps, cp, rfl, ⟨cs, hb2, ha⟩, Hb.o.M.trans M1.o (fun k hk e => by omega)⟩
end Go.Proofs.YtpbmfalokongfaaGreatDoor
namespace Go.Gou
open Go.RowKit
theorem RowG.slice {G : Nat → Prop} {w : World} {k n : Nat} {v : Value} {cs : List Value} (h : RowG G w k v n cs) : ∃ p c, v = .slice p n c := by
 obtain ⟨p, c, e, _⟩ := RowG.form h
 exact ⟨p, c, e⟩
theorem LookR.forms {G : Nat → Prop} {w : World} {l : Lk} {vp vf vb : Value} (h : LookR G w l vp vf vb) : (∃ p c, vp = .slice p l.content.pix.length c) ∧ (∃ p c, vf = .slice p l.filt.nodes.length c) ∧ (∃ p c, vb = .slice p l.back.nodes.length c) :=
 ⟨RowG.slice h.pix, (by obtain ⟨cs, h1, _⟩ := h.filt; exact RowG.slice h1), (by obtain ⟨cs, h1, _⟩ := h.back; exact RowG.slice h1)⟩
structure LkFit (l : Lk) : Prop where
 pix : l.content.pix.length ≤ 1000000
 filt : l.filt.nodes.length ≤ 1000000 ∧ ∀ n ∈ l.filt.nodes, n.ins.length ≤ 1000000 ∧ n.ps.length ≤ 1000000
 back : l.back.nodes.length ≤ 1000000 ∧ ∀ n ∈ l.back.nodes, n.ins.length ≤ 1000000 ∧ n.ps.length ≤ 1000000
theorem LookG.step {TL TD : TypeId} {base base' : Nat} {S : Nat → Prop} {w w' : World} {k : Nat} (hk : LookG TL TD base w k) (hm : Mod S w w') (hS : ¬ S k) (hb : base' ≤ base) : LookG TL TD base' w' k := ⟨Nat.le_trans hb hk.1, hk.2.mod hm hS⟩
theorem Blk.setAll {w : World} {b : Nat} {T : TypeId} {z : Array Value} (h : Blk w b T z) (cs : Array Value) (hs : z.size = cs.size) : Blk (w.setCells b 0 cs.toList) b T cs := by
 have h1 := h.sets 0 cs.toList
 rw [uef z cs.toList (by rw [hs]; simp), Array.toArray_toList] at h1
 exact h1
theorem Blk.whole {w : World} {b : Nat} {T : TypeId} {cs : Array Value} (h : Blk w b T cs) : w.rangeAt b 0 cs.toList := Blk.range (pre := []) (post := []) h (by rw [List.append_nil]; rfl) rfl
theorem NodesR.fam {G G' S : Nat → Prop} {w w' : World} {v : Value} {ns : List ubb} (h : NodesR G w v ns) (hm : Mod S w w') (h1 : ∀ k, G k → ¬ S k) (h2 : ∀ k, G k → G' k) : NodesR G' w' v ns := by
 obtain ⟨cs, a, b⟩ := h
 exact ⟨cs, a.fam hm h1 h2, b.fam hm h1 h2⟩
end Go.Gou
namespace Go.Proofs.YtpbmfalokongfaaGreatDoor
open Go.RowKit Go.Gou
set_option maxRecDepth 100000
def LookP (w : World) (l : Lk) (e : Ending) (w' : World) : Prop := ∃ vp vf vb, e = .returned (.agg (uai l vp vf vb)) ∧ LookR (LookG 45 77 w.heap.size w') w' l vp vf vb ∧ Gou.Mod (fun _ => False) w w'
theorem uiz (w : World) (vp vf vb : Value) (l : Lk) (h : LookR (fun _ => True) w l vp vf vb) (hf : LkFit l) :
 Calls Tryz.prog 56 #[.agg (uai l vp vf vb)] w (LookP w l) := by
 obtain ⟨⟨pp, cp, rfl⟩, ⟨pf, cf, rfl⟩, ⟨pb, cb, rfl⟩⟩ := h.forms
 have Hh := hd' h
 have Hf := hd' hf
 clear h hf
 go_enter Tryz.func56, Tryz.ntmps56
 go_wp2_with (first | ((with_reducible show wpList _ _ _ (⟨some 5, Op.load _ _, _, _, _, _⟩ :: _) _ _); refine halt ?_) | fail)
 obtain ⟨b0, b1, bm⟩ := uaw w 42 42 (lkS l pp cp pf cf pb cb) (List.toArray (iV 0 :: iV 0 :: Value.bool false :: iV 0 :: iV 0 :: iV 0 :: iV 0 :: iV 0 :: iV 0 :: iV 0 :: iV 0 :: iV 0 :: iV 0 :: iV 0 :: Value.int .u8 0 :: Value.int .u8 0 :: Value.int .u8 0 :: Value.int .u8 0 :: iV 0 :: iV 0 :: iV 0 :: Value.slice none 0 0 :: Value.bool false :: Value.slice none 0 0 :: iV 0 :: Value.bool false :: Value.slice none 0 0 :: iV 0 :: []))
 generalize (w.alloc (.cells (lkS l pp cp pf cf pb cb) 42)).alloc (.cells (List.toArray (iV 0 :: iV 0 :: Value.bool false :: iV 0 :: iV 0 :: iV 0 :: iV 0 :: iV 0 :: iV 0 :: iV 0 :: iV 0 :: iV 0 :: iV 0 :: iV 0 :: Value.int .u8 0 :: Value.int .u8 0 :: Value.int .u8 0 :: Value.int .u8 0 :: iV 0 :: iV 0 :: iV 0 :: Value.slice none 0 0 :: Value.bool false :: Value.slice none 0 0 :: iV 0 :: Value.bool false :: Value.slice none 0 0 :: iV 0 :: [])) 42) = W1 at *
 have Hb0 := hd' b0
 have Hb1 := hd' b1
 have Hbm := hd' bm
 have c21 := b0.cell 21 rfl
 have f21 := b0.frozen 21
 have HP := hd' (RowG.under (RowG.imp Hh.o.pix (G' := fun k => k < w.heap.size) (fun k hk _ => hk)) bm)
 clear b0 b1 bm
 show wpList _ _ _ _ _ _
 go_wp2_with fail
 refine (ue8 _ pp l.content.pix.length cp (pxs l.content.pix) (fun k => k < w.heap.size) HP.o (uh1 _) (by have := Hf.o.pix; omega)).mono ?_
 rintro e w4 ⟨pp4, cp4, rfl, ho4, hm4⟩
 have Ho4 := hd' ho4
 have Hc0 := hd' (Hb0.o.up hm4)
 have Hc1 := hd' (Hb1.o.up hm4)
 have Hcm := hd' (Hbm.o.trans' hm4)
 have Hz4 := hd' Hbm.o.size
 have c21 := Hc0.o.cell 21 rfl
 have f21 := Hc0.o.frozen 21
 clear ho4 hm4 Hb0 Hb1 Hbm HP
 go_wp2_with fail
 have HS5 := hd' (Gou.Mod.set1 w4 w.heap.size 21 (.slice pp4 l.content.pix.length cp4))
 have Hc5 : Hid (Blk (w4.setCell ⟨w.heap.size, 21, none⟩ (.slice pp4 l.content.pix.length cp4)) w.heap.size 42 (lkS l pp4 cp4 pf cf pb cb)) := hd' (Hc0.o.set 21 _)
 have Hr5 := hd' (Hc1.o.mod HS5.o (by omega))
 have Ho5 := hd' (uac Ho4.o HS5.o (fun k hk e => uan Ho4.o Hc0.o (by decide) (by rw [hk, e])))
 have Hm5 := hd' ((Hcm.o).trans HS5.o (fun k hk e => by omega))
 have HF5 := hd' (NodesR.fam (NodesR.imp Hh.o.filt (G' := fun k => k < w.heap.size) (fun k hk _ => hk)) (G' := fun k => k < w.heap.size) Hm5.o (fun _ _ h => h) (fun _ h => h))
 have HK5 := hd' (NodesR.fam (NodesR.imp Hh.o.back (G' := fun k => k < w.heap.size) (fun k hk _ => hk)) (G' := fun k => k < w.heap.size) Hm5.o (fun _ _ h => h) (fun _ h => h))
 clear Hc0 Hc1 Hcm Ho4 c21 f21 HS5
 generalize w4.setCell ⟨w.heap.size, 21, none⟩ (.slice pp4 l.content.pix.length cp4) = W5 at *
 have HR23 : Hid (W5.rangeAt w.heap.size 23 [.slice pf l.filt.nodes.length cf, iV l.filt.out]) := hd' (Blk.range (pre := (lkS l pp4 cp4 pf cf pb cb).toList.take 23) (post := (lkS l pp4 cp4 pf cf pb cb).toList.drop 25) Hc5.o rfl rfl)
 have HR26 : Hid (W5.rangeAt w.heap.size 26 [.slice pb l.back.nodes.length cb, iV l.back.out]) := hd' (Blk.range (pre := (lkS l pp4 cp4 pf cf pb cb).toList.take 26) (post := []) Hc5.o rfl rfl)
 refine wdf (S := fun w' => Gou.Mod (fun k => k = w.heap.size) W5 w' ∧ World.rangeAt w' w.heap.size 26 [.slice pb l.back.nodes.length cb, iV l.back.out]) 9 ⟨Gou.Mod.drew _ _, uax HR26.o (Gou.Mod.drew (fun _ => False) W5) (fun h => h)⟩ (h := fun hH => ?_)
 refine tk 0 (.pointer (some ⟨w.heap.size, 23, none⟩)) hH (h := ?_)
 refine tk 3 (.pointer (some ⟨w.heap.size, 26, none⟩)) hH (h := ?_)
 refine wpAnyH_take (i := 4) (oi := ({ dst := some 13, op := Op.load 40 (Operand.tmp 12), type := 40, pos := "scene.go:33", after := #[{ on := 3, ground := Ground.data }], guard := none } : Oper)) (v := .agg #[.slice pb l.back.nodes.length cb, iV l.back.out]) rfl (by kernel_rfl) (by kernel_rfl) (by kernel_rfl) (fun _ _ _ h => h) (yieldsIf_load_mid (by rfl) 40 _ rfl w.heap.size (26) rfl ([.slice pb l.back.nodes.length cb, iV l.back.out]) _ (fun w' hSw => hSw.2) Tryz.underlying40 rfl ua6) hH ?_
 try simp only [Act.put, uSa, uSb, uSc]
 refine rd 1 (h := fun K hK => ?_)
 refine wp_load_mid 40 _ rfl w.heap.size (23) rfl ([.slice pf l.filt.nodes.length cf, iV l.filt.out]) _ (uax HR23.o (Gou.Mod.drew (fun _ => False) W5) (fun h => h)) Tryz.underlying40 rfl ua6 ?_
 have M := hd' hH
 clear hH
 refine hK _ _ M.o (fun hH => ?_)
 clear hK K M
 try simp only [Act.put, uSa, uSb, uSc]
 refine rd 2 (h := fun K hK => ?_)
 go_simp
 refine (ue1 _ pf cf l.filt (NodesR.fam HF5.o (Gou.Mod.drew (fun _ => False) W5) (fun _ _ h => h) (fun _ _ => trivial)) Hf.o.filt.1 Hf.o.filt.2).mono ?_
 rintro e w6 ⟨p6, c6, rfl, hg6, hm6⟩
 have M := hd' (And.intro (hH.1.trans' (hm6.imp (fun _ _ h => h.elim))) (uax hH.2 hm6 (fun h => h)))
 have HG6 := hd' hg6
 have Hs6 := hd' hm6
 have MF6 := hd' (((Gou.Mod.drew (fun _ => False) W5)).trans' hm6)
 clear hg6
 clear hH
 refine hK _ _ M.o (fun hH => ?_)
 clear hK K M
 try simp only [Act.put, uSa, uSb, uSc]
 refine tk 6 (.pointer (some ⟨w.heap.size, 23, none⟩)) hH (h := ?_)
 refine rd 5 (h := fun K hK => ?_)
 go_simp
 refine (ue1 _ pb cb l.back (NodesR.fam HK5.o MF6.o (fun _ _ h => h) (fun _ _ => trivial)) Hf.o.back.1 Hf.o.back.2).mono ?_
 rintro e w7 ⟨p7, c7, rfl, hg7, hm7⟩
 have M := hd' (And.intro (hH.1.trans' (hm7.imp (fun _ _ h => h.elim))) (uax hH.2 hm7 (fun h => h)))
 have HG7 := hd' hg7
 have Hs7 := hd' hm7
 have MF7 := hd' ((MF6.o).trans' hm7)
 clear hg7
 clear hH
 refine hK _ _ M.o (fun hH => ?_)
 clear hK K M
 try simp only [Act.put, uSa, uSb, uSc]
 refine rd 7 (h := fun K hK => ?_)
 have Hc7 := hd' (Hc5.o.up MF7.o)
 refine wp_store_mid 40 _ _ rfl w.heap.size 23 #[.slice p6 l.filt.nodes.length c6, iV l.filt.out] rfl rfl (Hc7.o.there 23 2 (by simp [uai])) ua6 (by simp [Value.oneCell']) ?_
 have Hc8 : Hid (Blk (w7.setCells w.heap.size 23 [.slice p6 l.filt.nodes.length c6, iV l.filt.out]) w.heap.size 42 (lkS l pp4 cp4 p6 c6 pb cb)) := hd' (Hc7.o.sets 23 [.slice p6 l.filt.nodes.length c6, iV l.filt.out])
 have HS8 := hd' (Blk.setMod w7 w.heap.size 23 [.slice p6 l.filt.nodes.length c6, iV l.filt.out])
 have M : Hid (Gou.Mod (fun k => k = w.heap.size) W5 (w7.setCells w.heap.size 23 [.slice p6 l.filt.nodes.length c6, iV l.filt.out]) ∧ World.rangeAt (w7.setCells w.heap.size 23 [.slice p6 l.filt.nodes.length c6, iV l.filt.out]) w.heap.size 26 [.slice pb l.back.nodes.length cb, iV l.back.out]) := hd' ⟨hH.1.trans' HS8.o, Blk.range (pre := (lkS l pp4 cp4 p6 c6 pb cb).toList.take 26) (post := []) Hc8.o rfl rfl⟩
 clear hH Hc7
 refine hK _ _ M.o (fun hH => ?_)
 clear hK K M
 try simp only [Act.put, uSa, uSb, uSc]
 refine tk 8 (.pointer (some ⟨w.heap.size, 26, none⟩)) hH (h := ?_)
 refine tk 9 (.bool true) hH (h := ?_)
 have MS := hd' hH
 refine wpAnyH_done (by kernel_rfl) ?_ _
 clear hH
 show Oper.wp _ _ _ _ _ _
 refine wp_store_mid 40 _ _ rfl w.heap.size 26 #[.slice p7 l.back.nodes.length c7, iV l.back.out] rfl rfl (Hc8.o.there 26 2 (by simp [uai])) ua6 (by simp [Value.oneCell']) ?_
 have Hc9 : Hid (Blk ((w7.setCells w.heap.size 23 [.slice p6 l.filt.nodes.length c6, iV l.filt.out]).setCells w.heap.size 26 [.slice p7 l.back.nodes.length c7, iV l.back.out]) w.heap.size 42 (lkS l pp4 cp4 p6 c6 p7 c7)) := hd' (Hc8.o.sets 26 [.slice p7 l.back.nodes.length c7, iV l.back.out])
 have HS9 := hd' (HS8.o.trans' (Blk.setMod _ w.heap.size 26 [.slice p7 l.back.nodes.length c7, iV l.back.out]))
 clear HS8 Hc8 MS
 have hpx := hd' ((own_ty (base' := w.heap.size) Ho5.o (by have := Hz4.o; omega)).fam (G' := TyG 34 w.heap.size w7) MF7.o (fun _ _ h => h) (fun k hk => TyG.mod MF7.o k hk (fun h => h)))
 have hpx9 := hd' (hpx.out.fam (G' := TyG 34 w.heap.size ((w7.setCells w.heap.size 23 [.slice p6 l.filt.nodes.length c6, iV l.filt.out]).setCells w.heap.size 26 [.slice p7 l.back.nodes.length c7, iV l.back.out])) HS9.o (fun k hk e => TyG.ne (Hc5.o.up MF7.o) (by decide) k hk e) (fun k hk => TyG.mod HS9.o k hk (fun e => TyG.ne (Hc5.o.up MF7.o) (by decide) k hk e)))
 have Hr9 := hd' ((Hr5.o.up MF7.o).mod HS9.o (by omega))
 have HM9 := hd' ((Hm5.o.trans' MF7.o).trans HS9.o (fun k hk e => by omega))
 have H69 := hd' ((Hs7.o.imp (S' := fun k => k = w.heap.size) (fun _ _ h => h.elim)).trans' HS9.o)
 have hL := hd' (Blk.lt Hc5.o)
 have hz7 := hd' (Nat.lt_of_lt_of_le hL.out (Nat.le_trans (Nat.le_refl _) ((Gou.Mod.drew (fun _ => False) W5).trans' Hs6.o).size))
 have HF9 := hd' (NodesR.fam (G' := LookG 45 77 W5.heap.size ((w7.setCells w.heap.size 23 [.slice p6 l.filt.nodes.length c6, iV l.filt.out]).setCells w.heap.size 26 [.slice p7 l.back.nodes.length c7, iV l.back.out])) HG6.o H69.o (fun k hk e => by have h1 := hk.1; have h2 := hL.out; rw [e] at h1; exact absurd (Nat.lt_of_lt_of_le h2 h1) (Nat.lt_irrefl _)) (fun k hk => hk.step H69.o (fun e => by have h1 := hk.1; have h2 := hL.out; rw [e] at h1; exact absurd (Nat.lt_of_lt_of_le h2 h1) (Nat.lt_irrefl _)) (Nat.le_refl _)))
 have HK9 := hd' (NodesR.fam (G' := LookG 45 77 W5.heap.size ((w7.setCells w.heap.size 23 [.slice p6 l.filt.nodes.length c6, iV l.filt.out]).setCells w.heap.size 26 [.slice p7 l.back.nodes.length c7, iV l.back.out])) HG7.o HS9.o (fun k hk e => by have h1 := hk.1; have h2 := hz7.out; rw [e] at h1; exact absurd (Nat.lt_of_lt_of_le h2 h1) (Nat.lt_irrefl _)) (fun k hk => hk.step HS9.o (fun e => by have h1 := hk.1; have h2 := hz7.out; rw [e] at h1; exact absurd (Nat.lt_of_lt_of_le h2 h1) (Nat.lt_irrefl _)) ((Gou.Mod.drew (fun _ => False) W5).trans' Hs6.o).size))
 have hL2 := hd' (Blk.lt Hr5.o)
 clear hpx HG6 HG7 HS9 H69 Hs6 Hs7 hL hz7 MF6 MF7 HF5 HK5 Hm5 Hr5 Ho5 HR23 HR26 Hc5 Hz4
 generalize (w7.setCells w.heap.size 23 [.slice p6 l.filt.nodes.length c6, iV l.filt.out]).setCells w.heap.size 26 [.slice p7 l.back.nodes.length c7, iV l.back.out] = W9 at *
 have HTh := hd' (Hr9.o.there 0 28 (by simp))
 try simp only [Act.put]
 go_wp2_with (first | ((with_reducible refine lT 42 ?_); refine ldA (Blk.whole Hc9.o) Tryz.underlying42 uad (h := ?_)) | ((with_reducible refine sT 42 ?_); refine stA (lkS l pp4 cp4 p6 c6 p7 c7) HTh.o uad (by simp [uai, Value.oneCell']) (h := ?_)) | fail)
 have HS10 := hd' (Blk.setMod W9 (w.heap.size + 1) 0 (lkS l pp4 cp4 p6 c6 p7 c7).toList)
 have HR10 := Hr9.o.setAll (lkS l pp4 cp4 p6 c6 p7 c7) rfl
 have HN10 : Hid (∀ k, LookG 45 77 W5.heap.size W9 k → ¬ (k = w.heap.size + 1)) := hd' (fun k hk e => by have h1 := hk.1; have h2 := hL2.out; omega)
 have hle : w.heap.size ≤ W5.heap.size := by have := hL2.out; omega
 refine bpr (results_cell_row rfl _ _ (w.heap.size + 1) 42 (lkS l pp4 cp4 p6 c6 p7 c7) (0, 0) _ rfl HR10 Tryz.underlying42 rfl uad) rfl ?_
 refine ⟨_, _, _, rfl, ⟨?_, ?_, ?_⟩, HM9.o.trans HS10.o (fun k hk e => by omega)⟩
 ·exact hpx9.out.fam HS10.o (fun k hk e => TyG.ne Hr9.o (by decide) k hk e) (fun k hk => TyG.look (by decide) (by decide) k (TyG.mod HS10.o k hk (fun e => TyG.ne Hr9.o (by decide) k hk e)))
 ·exact HF9.o.fam HS10.o HN10.o (fun k hk => hk.step HS10.o (HN10.o k hk) hle)
 ·exact HK9.o.fam HS10.o HN10.o (fun k hk => hk.step HS10.o (HN10.o k hk) hle)
end Go.Proofs.YtpbmfalokongfaaGreatDoor
