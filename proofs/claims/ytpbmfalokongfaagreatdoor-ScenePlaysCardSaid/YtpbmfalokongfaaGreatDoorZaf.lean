/- Texts of the scenes' proofs, laid together: OrdA, OrdB, Kahn, OrdC, OrdD, OrdE, NodeB, NodeC. -/
import Derived.Test.YtpbmfalokongfaaGreatDoorZae
import Derived.Deep.RegionHeld3
set_option maxHeartbeats 64000000
set_option linter.unusedSimpArgs false
set_option linter.unusedVariables false
set_option linter.unusedSectionVars false
set_option linter.constructorNameAsVariable false
set_option maxRecDepth 100000
namespace Go.Proofs.YtpbmfalokongfaaGreatDoor
open Go.RowKit Go.Gou
def okIn (n : Nat) (acc : List Int) (k : Int) : Bool := decide (0 ≤ k) && decide (k < n) && !decide (k ∈ acc)
def ub1 (n : Nat) (acc : List Int) (k : Int) : List Int := if okIn n acc k = true then acc ++ [k] else acc
def insL (n : Nat) (l : List Int) : List Int := l.foldl (ub1 n) []
theorem ug3 (n : Nat) (l : List Int) (k : Nat) (h : k < l.length) : insL n (l.take (k + 1)) = ub1 n (insL n (l.take k)) l[k] := by
 unfold insL
 rw [ltS h, List.foldl_append]
 rfl
theorem uif (n : Nat) (acc : List Int) (k : Int) : (ub1 n acc k).length ≤ acc.length + 1 := by
 unfold ub1
 split <;> simp
theorem ud4 (n : Nat) (l : List Int) (k : Nat) : (insL n (l.take k)).length ≤ k := by
 induction k with
 | zero => simp [insL]
 | succ k ih =>
  by_cases h : k < l.length
  ·rw [ug3 n l k h]
   have := uif n (insL n (l.take k)) l[k]
   omega
  ·rw [List.take_of_length_le (by omega), ← List.take_of_length_le (show l.length ≤ k by omega)]
   omega
theorem uca (n : Nat) (l : List Int) : (insL n l).Nodup ∧ ∀ x, x ∈ insL n l ↔ x ∈ l ∧ 0 ≤ x ∧ x < n := by
 suffices ∀ (l acc : List Int), acc.Nodup → (l.foldl (ub1 n) acc).Nodup ∧ ∀ x, x ∈ l.foldl (ub1 n) acc ↔ x ∈ acc ∨ (x ∈ l ∧ 0 ≤ x ∧ x < n) by
  have := this l [] (by simp)
  simpa [insL] using this
 intro l
 induction l with
 | nil => intro acc h; simpa using h
 | cons a l ih =>
  intro acc h
  have hs : (ub1 n acc a).Nodup ∧ ∀ x, x ∈ ub1 n acc a ↔ x ∈ acc ∨ (x = a ∧ 0 ≤ x ∧ x < n) := by
   unfold ub1
   split
   ·rename_i hk
    simp only [okIn, Bool.and_eq_true, decide_eq_true_eq, Bool.not_eq_true', decide_eq_false_iff_not] at hk
    refine ⟨?_, fun x => ?_⟩
    ·rw [List.nodup_append]
     exact ⟨h, by simp, fun y hy z hz e => hk.2 (by simp at hz; rw [← hz, ← e]; exact hy)⟩
    ·simp only [List.mem_append, List.mem_singleton]
     constructor
     ·rintro (h | rfl)
      ·exact .inl h
      ·exact .inr ⟨rfl, hk.1.1, hk.1.2⟩
     ·rintro (h | ⟨rfl, _⟩)
      ·exact .inl h
      ·exact .inr rfl
   ·rename_i hk
    refine ⟨h, fun x => ⟨.inl, ?_⟩⟩
    rintro (h' | ⟨rfl, h1, h2⟩)
    ·exact h'
    ·apply Classical.byContradiction
     intro hn
     exact hk (by simp [okIn, h1, h2, hn])
  obtain ⟨h1, h2⟩ := ih _ hs.1
  refine ⟨h1, fun x => ?_⟩
  rw [List.foldl_cons, h2, hs.2]
  simp only [List.mem_cons]
  constructor
  ·rintro ((h | ⟨rfl, h⟩) | ⟨h, h'⟩)
   ·exact .inl h
   ·exact .inr ⟨.inl rfl, h⟩
   ·exact .inr ⟨.inr h, h'⟩
  ·rintro (h | ⟨(rfl | h), h'⟩)
   ·exact .inl (.inl h)
   ·exact .inl (.inr ⟨rfl, h'⟩)
   ·exact .inr ⟨h, h'⟩
def GrV (w : World) (v : Value) (g : Gr) : Prop := ∃ vn, v = .agg #[vn, iV g.out] ∧ NodesAt w.heap.size w vn g.nodes
def OwnInts (w : World) (xs : List Int) (e : Ending) (w' : World) : Prop :=
 ∃ v, e = .returned v ∧ w'.ownsRow w.heap.size 3 1 v xs.length (iv xs) ∧ Below w.heap.size w w'
theorem zero_bool (w : World) : (zeroValue 4).run Tryz.prog w = .ok (.bool false) w := by kernel_rfl
theorem ufq (w : World) (v : Value) (g : Gr) (at_ : Nat) (hg : GrV w v g) (hat : at_ < g.nodes.length) (hn : g.nodes.length ≤ 100000) (hl : g.nodes[at_].ins.length ≤ 1000)
 (hwf : ∀ x ∈ g.nodes[at_].ins, (Lit.int .i64 x).wf = true) :
 Calls Tryz.prog 111 #[v, .int .i64 at_] w (OwnInts w (insL g.nodes.length g.nodes[at_].ins)) := by
 obtain ⟨vn, rfl, p, cap, rfl, hcap, hp⟩ := hg
 rcases hp with hp | ⟨b, o, rfl, hb, hc⟩
 ·rw [hp] at hat
  simp at hat
 obtain ⟨vi, h1, hi⟩ : ∃ vi, w.cell? ⟨b, o + at_ * 3 + 1, none⟩ = some vi ∧ IntsAt w.heap.size w vi g.nodes[at_].ins := by
  obtain ⟨vi, vp, _, h1, _, hi, _⟩ := hc at_ hat
  exact ⟨vi, h1, hi⟩
 clear hc
 obtain ⟨pi, ci, rfl, hci, hpi⟩ := hi
 obtain ⟨i0, hi0, hz0, hz1, hz2⟩ := info_parts ud5
 generalize g.nodes[at_].ins = ins at *
 generalize g.nodes.length = n at *
 have hmm := @run_makeMap Tryz.prog
 go_enter Tryz.func111, Tryz.ntmps111
 have hkb : (w.alloc (.cells #[.slice (some ⟨b, o, none⟩) n cap, .int .i64 g.out] 40)).heap.size = w.heap.size + 1 := by simp
 have Hkb := hd' hkb
 clear hkb
 have hst : IntSet Tryz.prog 3 4 ((w.alloc (.cells #[.slice (some ⟨b, o, none⟩) n cap, .int .i64 g.out] 40)).alloc (.map #[] 0)) (w.heap.size + 1) 0 [] := by
  have := IntSet.made Tryz.prog 3 4 (w.alloc (.cells #[.slice (some ⟨b, o, none⟩) n cap, .int .i64 g.out] 40))
  rwa [Hkb.o] at this
 have Hst := hd' hst
 clear hst
 have hbel : Below (w.heap.size + 1) (w.alloc (.cells #[.slice (some ⟨b, o, none⟩) n cap, .int .i64 g.out] 40)) ((w.alloc (.cells #[.slice (some ⟨b, o, none⟩) n cap, .int .i64 g.out] 40)).alloc (.map #[] 0)) :=
  (Below.refl _ _).alloc (by rw [Hkb.o]; exact Nat.le_refl _) _
 have Hbel := hd' hbel
 clear hbel
 have hcellb : (w.alloc (.cells #[.slice (some ⟨b, o, none⟩) n cap, .int .i64 g.out] 40)).cell? ⟨w.heap.size, 0, none⟩ = some (.slice (some ⟨b, o, none⟩) n cap) := by simp [go_sem]
 have Hcellb := hd' hcellb
 clear hcellb
 go_wp2_with fail
 go_loopw [5, 17] (fun v i wr => ∃ k : Nat, k ≤ ins.length ∧ i = .int .i64 k ∧ wr.ownsRow (w.heap.size + 2) 3 1 v (insL n (ins.take k)).length (iv (insL n (ins.take k))) ∧
     IntSet Tryz.prog 3 4 wr (w.heap.size + 1) k (insL n (ins.take k)) ∧ Below (w.heap.size + 1) (w.alloc (.cells #[.slice (some ⟨b, o, none⟩) n cap, .int .i64 g.out] 40)) wr) (fun _ i _ => ins.length - (intOf i).toNat)
 case atStart =>
  exact ⟨0, Nat.zero_le _, rfl, World.ownsRow_nil _ _ _ _, Hst.o, Hbel.o⟩
 case round =>
  obtain ⟨k, hk, rfl, hown, hset, hbel⟩ := hrel
  clear Hst Hbel
  by_cases hlt : k < ins.length
  ·rcases hpi with rfl | ⟨b', o', rfl, hb', hc'⟩
   ·simp at hlt
   have hx := hc' k hlt
   have hxw := hwf _ (lgM hlt)
   clear hc' hwf
   have hx' : wr.cell? ⟨b', o' + k, none⟩ = some (.int .i64 ins[k]) := by
    rw [hbel.cell (p := ⟨b', o' + k, none⟩) (by simp; omega), World.cell?_alloc_lt (h := hb')]
    exact hx
   have hgb : wr.cell? ⟨w.heap.size, 0, none⟩ = some (.slice (some ⟨b, o, none⟩) n cap) := by
    rw [hbel.cell (p := ⟨w.heap.size, 0, none⟩) (by simp)]
    exact Hcellb.o
   clear hx
   have hs := ug3 n ins k hlt
   have hlk := hset.look Tryz.underlying3 Tryz.underlying4 Tryz.underlying160 (zero_bool wr) hxw
   have hll := ud4 n ins k
   have Hset := hd' hset
   have Hown := hd' hown
   have Hbel := hd' hbel
   have Hs := hd' hs
   have hsz : w.heap.size + 1 < wr.heap.size := hset.lt
   clear hset hown hbel hs
   have hkeep : okIn n (insL n (ins.take k)) ins[k] = false → insL n (ins.take (k + 1)) = insL n (ins.take k) := fun h => by rw [Hs.o]; simp [ub1, h]
   have Hkeep := hd' hkeep
   clear hkeep
   generalize hacc : insL n (ins.take k) = acc at *
   have Hacc := hd' hacc
   clear hacc
   generalize ins[k] = x at *
   by_cases hx0 : x < 0
   ·have hk0 : okIn n acc x = false := by simp [okIn]; omega
    have Hk0 := hd' hk0
    clear hk0 hlk
    go_wp2_with fail
    go_roundw
    case rel => exact ⟨k + 1, by omega, by go_num, by rw [Hkeep.o Hk0.o]; exact Hown.o, by rw [Hkeep.o Hk0.o]; exact Hset.o.mono (by omega), Hbel.o⟩
    case measure => simp [intOf]; omega
   ·by_cases hxn : n ≤ x
    ·have hk0 : okIn n acc x = false := by simp [okIn]; omega
     have Hk0 := hd' hk0
     clear hk0 hlk
     go_wp2_with fail
     go_roundw
     case rel => exact ⟨k + 1, by omega, by go_num, by rw [Hkeep.o Hk0.o]; exact Hown.o, by rw [Hkeep.o Hk0.o]; exact Hset.o.mono (by omega), Hbel.o⟩
     case measure => simp [intOf]; omega
    ·cases hmem : decide (x ∈ acc) with
     | true =>
      have hk0 : okIn n acc x = false := by simp [okIn]; intro _ _; simpa using hmem
      have Hk0 := hd' hk0
      rw [hmem] at hlk
      clear hk0 hmem
      go_wp2_with fail
      go_roundw
      case rel => exact ⟨k + 1, by omega, by go_num, by rw [Hkeep.o Hk0.o]; exact Hown.o, by rw [Hkeep.o Hk0.o]; exact Hset.o.mono (by omega), Hbel.o⟩
      case measure => simp [intOf]; omega
     | false =>
      have hk0 : okIn n acc x = true := by
       have : ¬ x ∈ acc := by simpa using hmem
       simp [okIn, this]; omega
      have hst : insL n (ins.take (k + 1)) = acc ++ [x] := by rw [Hs.o]; simp [ub1, hk0]
      have Hst := hd' hst
      rw [hmem] at hlk
      clear hk0 hmem hst
      obtain ⟨D, hD, hDat⟩ := Hset.o
      have hDm := hD.isMap
      have hkey : keyOf Tryz.prog 3 (.int .i64 x) = some (.int .i64 x) := Gou.keyOf_int Tryz.underlying3 hxw
      have hval : plainElem (H := Unit) Tryz.prog 4 (.bool true) = some (.lit (.bool true), []) := by simp [plainElem, Tryz.underlying4]
      go_wp2_with (first
          | (at_mapUpdate; refine wpList_mapUpdate_own _ rfl _ _ _ 160 rfl 3 4 (Maps.int_keyed Tryz.underlying3) Tryz.underlying160 _ (w.heap.size + 1) k D rfl hD (by unfold maxLen; omega) _ _ _ rfl rfl hkey _ [] hval ?_))
      intro w1 hown1 hgrow1
      have hset1 := IntSet.put hDm hDat hown1
      have hz1' : w.heap.size + 1 < w1.heap.size := by have := hgrow1.size; omega
      have hownI : w1.ownsRow (w.heap.size + 2) 3 1 u5 acc.length (iv acc) := uac Hown.o (Mod.of_grown hgrow1) (fun kk hkk e => by
       have h1 := (Hown.o.lt kk hkk).1
       have h2 := Option.some.inj e
       omega)
      have hbel1 : Below (w.heap.size + 1) (w.alloc (.cells #[.slice (some ⟨b, o, none⟩) n cap, .int .i64 g.out] 40)) w1 :=
       Hbel.o.grown hgrow1 (by omega) (fun kk e => by have := Option.some.inj e; omega)
      have Hset1 := hd' hset1
      have Hbel1 := hd' hbel1
      clear hset1 hbel1 hown1 hgrow1 hlk hD
      go_wp2_with (at_builtin; refine wpList_append_own _ rfl _ _ 25 rfl (w.heap.size + 2) 3 i0 (.int .i64 0) 1 8 Tryz.underlying25 hi0 hz0 hz1 hz2 rfl (by omega) _ _ _ rfl (hownI.alloc _) ⟨w1.heap.size, 0, none⟩ 1 1 [.int .i64 x] rfl rfl (cell_one_new _ _ _) (by simp [Value.oneCell']) (by unfold maxLen; omega) (by omega) (by simp; omega) ?_)
      intro v2 w2 hown2 hgrow2 _
      have hset2 : IntSet Tryz.prog 3 4 w2 (w.heap.size + 1) (k + 1) (acc ++ [x]) := (Hset1.o.mod (Mod.alloc (fun _ => False) w1 _) (fun h => h)).mod (Mod.of_grown hgrow2) (fun e => by
       have h1 := (hownI.lt _ e).1
       omega)
      have hbel2 : Below (w.heap.size + 1) (w.alloc (.cells #[.slice (some ⟨b, o, none⟩) n cap, .int .i64 g.out] 40)) w2 :=
       (Hbel1.o.alloc (by omega) _).grown hgrow2 (by simp; omega) (fun kk e => by have := (hownI.lt _ e).1; omega)
      have Hset2 := hd' hset2
      have Hbel2 := hd' hbel2
      have Hown2 := hd' hown2
      clear hset2 hbel2 hown2 hgrow2 hownI
      go_wp2_with fail
      go_roundw
      case rel => exact ⟨k + 1, by omega, by go_num, by rw [Hst.o]; simpa [iv] using Hown2.o, by rw [Hst.o]; exact Hset2.o, Hbel2.o⟩
      case measure => simp [intOf]; omega
  ·go_wp2_with fail
   go_ret
   have hke : ins.take k = ins := List.take_of_length_le (by omega)
   rw [hke] at hown
   refine ⟨_, rfl, uaj hown (by omega), ?_⟩
   exact ((Below.refl _ _).alloc (Nat.le_refl _) _).trans (hbel.mono (by omega))
end Go.Proofs.YtpbmfalokongfaaGreatDoor
namespace Go.Proofs.YtpbmfalokongfaaGreatDoor
open Go.RowKit Go.Gou
structure RowsOwn (w : World) (base U n : Nat) (rows : Nat → List Int) (vs : List Value) : Prop where
 len : vs.length = n
 top : w.ownsRow base 25 1 (.slice (some ⟨U, 0, none⟩) n n) n vs
 row : ∀ k, k < n → w.ownsRow base 3 1 (vs.getD k undef) (rows k).length (iv (rows k))
 apartU : ∀ k, k < n → (vs.getD k undef).ownBlock ≠ some U
 apart : ∀ j k, j < n → k < n → j ≠ k → ∀ b, (vs.getD j undef).ownBlock = some b → (vs.getD k undef).ownBlock ≠ some b
theorem RowsOwn.mod {w w' : World} {base U n : Nat} {rows : Nat → List Int} {vs : List Value} {S : Nat → Prop} (h : RowsOwn w base U n rows vs) (hm : Mod S w w') (hs : ∀ b, base ≤ b → b < w.heap.size → ¬ S b) : RowsOwn w' base U n rows vs :=
 ⟨h.len, uac h.top hm (fun k hk => hs k (h.top.lt k hk).1 (h.top.lt k hk).2), fun k hk => uac (h.row k hk) hm (fun b hb => hs b ((h.row k hk).lt b hb).1 ((h.row k hk).lt b hb).2), h.apartU, h.apart⟩
theorem RowsOwn.congr {w : World} {base U n : Nat} {rows rows' : Nat → List Int} {vs : List Value} (h : RowsOwn w base U n rows vs) (he : ∀ k, k < n → rows' k = rows k) : RowsOwn w base U n rows' vs :=
 ⟨h.len, h.top, fun k hk => by rw [he k hk]; exact h.row k hk, h.apartU, h.apart⟩
theorem uda {α : Type} (l : List α) (u : Nat) (x d : α) (hu : u < l.length) (i : Nat) : (l.set u x).getD i d = if i = u then x else l.getD i d := by
 simp only [List.getD, List.getElem?_set]
 by_cases e : i = u
 ·subst e; simp [hu]
 ·simp [e, Ne.symm e]
theorem RowsOwn.append {w w1 : World} {base U n : Nat} {rows : Nat → List Int} {vs : List Value} (h : RowsOwn w base U n rows vs) (o : Obj) (k : Nat) (hk : k < n) (x : Int) (g cap : Nat)
 (hown1 : w1.ownsRow base 3 1 (.slice (some ⟨g, 0, none⟩) ((rows k).length + 1) cap) ((rows k).length + 1) (iv (rows k) ++ [iV x])) (hgrow : (w.alloc o).grownBy w1 (vs.getD k undef).ownBlock)
 (hat : (vs.getD k undef).ownBlock = some g ∨ g = w.heap.size + 1) :
 RowsOwn (w1.setCell ⟨U, k, none⟩ (.slice (some ⟨g, 0, none⟩) ((rows k).length + 1) cap)) base U n (fun j => if j = k then rows j ++ [x] else rows j) (vs.set k (.slice (some ⟨g, 0, none⟩) ((rows k).length + 1) cap)) ∧
     Mod (fun b => b = U ∨ (vs.getD k undef).ownBlock = some b) w (w1.setCell ⟨U, k, none⟩ (.slice (some ⟨g, 0, none⟩) ((rows k).length + 1) cap)) := by
 have hU : U < w.heap.size := (h.top.lt U rfl).2
 have hkl : k < vs.length := by rw [h.len]; exact hk
 have hgU : g ≠ U := by
  rcases hat with hat | rfl
  ·intro e; exact h.apartU k hk (e ▸ hat)
  ·omega
 have m1 : Mod (fun b => (vs.getD k undef).ownBlock = some b) w w1 := (Mod.alloc _ w o).trans (Mod.of_grown hgrow) (fun _ _ h => h)
 have t1 := uac h.top m1 (fun b hb => by
  simp [Value.ownBlock] at hb
  subst hb
  exact h.apartU k hk)
 obtain ⟨t2, g2⟩ := t1.stored k (.slice (some ⟨g, 0, none⟩) ((rows k).length + 1) cap)
 have m2 := Mod.setCell w1 ⟨U, k, none⟩ (.slice (some ⟨g, 0, none⟩) ((rows k).length + 1) cap)
 refine ⟨⟨by simpa using h.len, t2, fun j hj => ?_, fun j hj => ?_, fun i j hi hj hij b hb => ?_⟩, m1.imp (fun _ _ h => .inr h) |>.trans m2 fun _ _ e => .inl e⟩
 ·rw [uda _ _ _ _ hkl]
  by_cases e : j = k
  ·subst e
   simp only [if_true]
   have := uac hown1 m2 (fun b hb => by
    simp [Value.ownBlock] at hb
    subst hb
    exact hgU)
   simpa [iv] using this
  ·rw [if_neg e, if_neg e]
   refine uac (uac (h.row j hj) m1 (fun b hb he => h.apart j k hj hk e b hb he)) m2 (fun b hb he => ?_)
   simp at he
   subst he
   exact h.apartU j hj hb
 ·rw [uda _ _ _ _ hkl]
  by_cases e : j = k
  ·rw [if_pos e]
   simp [Value.ownBlock]
   exact hgU
  ·rw [if_neg e]
   exact h.apartU j hj
 ·rw [uda _ _ _ _ hkl] at hb ⊢
  by_cases e1 : i = k
  ·subst e1
   rw [if_pos rfl] at hb
   rw [if_neg (Ne.symm hij)]
   have hgb : g = b := by simpa [Value.ownBlock] using hb
   subst hgb
   intro he
   rcases hat with hat | rfl
   ·exact h.apart _ _ hi hj hij _ hat he
   ·have := ((h.row j hj).lt _ he).2
    omega
  ·rw [if_neg e1] at hb
   by_cases e2 : j = k
   ·subst e2
    rw [if_pos rfl]
    intro he
    have hgb : g = b := by simpa [Value.ownBlock] using he
    subst hgb
    rcases hat with hat | rfl
    ·exact h.apart _ _ hi hj hij _ hb hat
    ·have := ((h.row i hi).lt _ hb).2
     omega
   ·rw [if_neg e2]
    exact h.apart i j hi hj hij b hb
def ubn (G : List (List Int)) (i t k : Nat) : List Int :=
 ((List.range i).filter (fun (j : Nat) => decide ((k : Int) ∈ G.getD j []))).map (fun (j : Nat) => (j : Int)) ++ if (k : Int) ∈ (G.getD i []).take t then [(i : Int)] else []
theorem ui8 (G : List (List Int)) (k : Nat) : ubn G 0 0 k = [] := by simp [ubn]
theorem uja (G : List (List Int)) (i k : Nat) (t : Nat) (ht : (G.getD i []).length ≤ t) : ubn G (i + 1) 0 k = ubn G i t k := by
 unfold ubn
 rw [List.take_of_length_le ht, List.range_succ, List.filter_append, List.map_append]
 by_cases h : (k : Int) ∈ G.getD i []
 ·have e : (List.filter (fun (j : Nat) => decide ((k : Int) ∈ G.getD j [])) [i]) = [i] := by
   rw [List.filter_cons_of_pos (by simpa using h)]; rfl
  rw [e, if_pos h]; simp
 ·have e : (List.filter (fun (j : Nat) => decide ((k : Int) ∈ G.getD j [])) [i]) = [] := by
   rw [List.filter_cons_of_neg (by simpa using h)]; rfl
  rw [e, if_neg h]; simp
theorem ui9 (G : List (List Int)) (i t k : Nat) (hn : (G.getD i []).Nodup) (ht : t < (G.getD i []).length) : ubn G i (t + 1) k = if (k : Int) = (G.getD i [])[t] then ubn G i t k ++ [(i : Int)] else ubn G i t k := by
 unfold ubn
 rw [ltS ht]
 by_cases h : (k : Int) = (G.getD i [])[t]
 ·rw [if_pos h]
  have hnot : (k : Int) ∉ (G.getD i []).take t := by
   rw [h]
   intro hm
   obtain ⟨j, hj, hje⟩ := List.mem_take_iff_getElem.1 hm
   have := (List.getElem_inj (i := j) (j := t) hn).1 hje
   omega
  rw [if_pos (List.mem_append.2 (.inr (by rw [h]; exact List.mem_singleton.2 rfl))), if_neg hnot]
  simp
 ·rw [if_neg h]
  have : ((k : Int) ∈ (G.getD i []).take t ++ [(G.getD i [])[t]]) ↔ (k : Int) ∈ (G.getD i []).take t := by rw [List.mem_append, List.mem_singleton]; exact ⟨fun h' => h'.resolve_right h, .inl⟩
  simp only [this]
def UsesPost (w : World) (G : List (List Int)) (e : Ending) (w' : World) : Prop :=
 ∃ U vs, e = .returned (.slice (some ⟨U, 0, none⟩) G.length G.length) ∧ RowsOwn w' w.heap.size U G.length (ubn G G.length 0) vs ∧ Below w.heap.size w w'
theorem info_ints : (Tryz.prog.info? 25).map (fun i => (i.zero, i.size, i.bytes)) = some (some nlS, 1, 24) := by kernel_rfl
def insG (g : Gr) : List (List Int) := g.nodes.map fun n => insL g.nodes.length n.ins
structure GrOk (g : Gr) : Prop where
 few : g.nodes.length ≤ 1000
 ins : ∀ n ∈ g.nodes, n.ins.length ≤ 1000
 wf : ∀ n ∈ g.nodes, ∀ x ∈ n.ins, (Lit.int .i64 x).wf = true
theorem GrV.up {w w1 : World} {v : Value} {g : Gr} (h : GrV w v g) (hb : Below w.heap.size w w1) : GrV w1 v g := by
 obtain ⟨vn, rfl, hn⟩ := h
 exact ⟨vn, rfl, hn.up hb⟩
theorem GrV.form {w : World} {v : Value} {g : Gr} (h : GrV w v g) : ∃ p cap, v = .agg #[.slice p g.nodes.length cap, iV g.out] := by
 obtain ⟨vn, rfl, p, cap, rfl, _⟩ := h
 exact ⟨p, cap, rfl⟩
def UIn (B s U n : Nat) (G : List (List Int)) (w2 : World) (i t : Nat) (wr : World) : Prop :=
 ∃ vs, RowsOwn wr B U n (ubn G i t) vs ∧ Mod (fun b => B ≤ b ∧ b < s) w2 wr ∧ ∀ k, k < n → ∀ b, (vs.getD k undef).ownBlock = some b → b < s ∨ w2.heap.size ≤ b
theorem UIn.step {B s U n : Nat} {G : List (List Int)} {w2 wr w3 : World} {i t : Nat} (vs : List Value) (hrow : RowsOwn wr B U n (ubn G i t) vs) (hmod : Mod (fun b => B ≤ b ∧ b < s) w2 wr)
 (hlies : ∀ k, k < n → ∀ b, (vs.getD k undef).ownBlock = some b → b < s ∨ w2.heap.size ≤ b) (hnd : (G.getD i []).Nodup) (ht : t < (G.getD i []).length) (hUs : U < s) (hsw : s ≤ w2.heap.size)
 (o : Obj) (k : Nat) (hk : k < n) (hkx : (G.getD i [])[t] = (k : Int)) (g cap : Nat)
 (hown1 : w3.ownsRow B 3 1 (.slice (some ⟨g, 0, none⟩) ((ubn G i t k).length + 1) cap) ((ubn G i t k).length + 1) (iv (ubn G i t k) ++ [iV i])) (hgrow : (wr.alloc o).grownBy w3 (vs.getD k undef).ownBlock)
 (hat : (vs.getD k undef).ownBlock = some g ∨ g = wr.heap.size + 1) :
 UIn B s U n G w2 i (t + 1) (w3.setCell ⟨U, k, none⟩ (.slice (some ⟨g, 0, none⟩) ((ubn G i t k).length + 1) cap)) := by
 obtain ⟨h1, h2⟩ := hrow.append o k hk i g cap hown1 hgrow hat
 refine ⟨_, h1.congr fun j hj => ?_, hmod.trans h2 fun b hb he => ?_, fun j hj b hb => ?_⟩
 ·rw [ui9 G i t j hnd ht, hkx]
  by_cases e : j = k
  ·subst e; simp
  ·rw [if_neg (by omega), if_neg e]
 ·rcases he with rfl | he
  ·exact ⟨(hrow.top.lt _ rfl).1, hUs⟩
  ·rcases hlies k hk b he with h | h
   ·exact ⟨((hrow.row k hk).lt b he).1, h⟩
   ·omega
 ·rw [uda _ _ _ _ (by rw [hrow.len]; exact hk)] at hb
  by_cases e : j = k
  ·rw [if_pos e] at hb
   have hgb : g = b := by simpa [Value.ownBlock] using hb
   subst hgb
   rcases hat with hat | rfl
   ·exact hlies k hk _ hat
   ·right
    have := hmod.size
    omega
  ·rw [if_neg e] at hb
   exact hlies j hj b hb
theorem ugn (G : List (List Int)) (i t k : Nat) : (ubn G i t k).length ≤ i + 1 := by
 unfold ubn
 rw [List.length_append, List.length_map]
 have := List.length_filter_le (fun (j : Nat) => decide ((k : Int) ∈ G.getD j [])) (List.range i)
 rw [List.length_range] at this
 split <;> simp only [List.length_cons, List.length_nil] <;> omega
theorem uses_any (w : World) (v : Value) (g : Gr) (hg : GrV w v g) (hok : GrOk g) :
 Calls Tryz.prog 113 #[v] w (UsesPost w (insG g)) := by
 obtain ⟨i0, hi0, hz0, hz1, hz2⟩ := info_parts ud5
 obtain ⟨i1, hj0, hjz, hj1, hj2⟩ := info_parts info_ints
 have hlen : (insG g).length = g.nodes.length := by simp [insG]
 have Hlen := hd' hlen
 have Hg := hd' hg
 have Hok := hd' hok
 have hfew := hok.few
 obtain ⟨p, cap, rfl⟩ := hg.form
 clear hg hok hlen
 go_enter Tryz.func113, Tryz.ntmps113
 go_wp2_with (first
     | (at_make; refine wpList_make_full _ rfl _ _ 156 rfl w.heap.size 25 i1 nlS 1 Tryz.underlying156 hj0 hjz hj1 _ _ _ _ g.nodes.length rfl rfl rfl rfl ?b1 ?b2 ?b3 ?_))
 case b1 => rw [hj2]; omega
 case b2 => unfold maxLen; omega
 case b3 => simp
 intro w1 hown hgrow
 have hzb1 : w.heap.size + 1 < w1.heap.size := (hown.lt _ rfl).2
 have hb1 : Below (w.heap.size + 1) (w.alloc (.cells #[.slice p g.nodes.length cap, iV g.out] 40)) w1 := (Below.refl _ _).grown hgrow (by simp) (fun k e => by cases e)
 have hc0 : w1.cell? ⟨w.heap.size, 0, none⟩ = some (.slice p g.nodes.length cap) := by rw [hb1.cell (p := ⟨w.heap.size, 0, none⟩) (by simp)]; simp [go_sem]
 have hc1 : w1.cell? ⟨w.heap.size, 1, none⟩ = some (iV g.out) := by rw [hb1.cell (p := ⟨w.heap.size, 1, none⟩) (by simp)]; simp [go_sem]
 have hbel : Below w.heap.size w w1 := ((Below.refl _ _).alloc (Nat.le_refl _) _).trans (hb1.mono (by omega))
 have hrows : RowsOwn w1 (w.heap.size + 1) (w.heap.size + 1) g.nodes.length (ubn (insG g) 0 0) (List.replicate g.nodes.length nlS) := by
  rw [toList_madeCells_one] at hown
  refine ⟨by simp, ?_, fun k hk => ?_, fun k hk => ?_, fun j k hj hk _ b hb => ?_⟩
  ·refine ⟨hown.1, ?_⟩
   rcases hown.2 with ⟨h, _⟩ | ⟨g', cap', cur, hv, hg', r⟩
   ·cases h
   ·simp only [Value.slice.injEq, Option.some.injEq, Addr.mk.injEq, and_true] at hv
    obtain ⟨rfl, _, rfl⟩ := hv
    exact .inr ⟨_, _, cur, rfl, by omega, r⟩
  ·rw [ui8]
   simp [List.getD, hk]
   exact World.ownsRow_nil _ _ _ _
  ·simp [List.getD, hk, Value.ownBlock]
  ·simp [List.getD, hj, Value.ownBlock] at hb
 have Hrows := hd' hrows
 have Hbel := hd' hbel
 clear hrows hbel hown hgrow hb1
 go_wp2_with fail
 go_loopw [14] (fun c wr => ∃ i : Nat, c = iV i ∧ i ≤ g.nodes.length ∧ (∃ vs, RowsOwn wr (w.heap.size + 1) (w.heap.size + 1) g.nodes.length (ubn (insG g) i 0) vs) ∧ Below (w.heap.size + 1) w1 wr) (fun c _ => g.nodes.length - (intOf c).toNat)
 case atStart => exact ⟨0, rfl, Nat.zero_le _, ⟨_, Hrows.o⟩, Below.refl _ _⟩
 case round =>
  obtain ⟨i, rfl, hi, ⟨vs, hrows⟩, hb⟩ := hrel
  clear Hrows
  have hc0' : wr.cell? ⟨w.heap.size, 0, none⟩ = some (.slice p g.nodes.length cap) := by rw [hb.cell (p := ⟨w.heap.size, 0, none⟩) (by simp)]; exact hc0
  have hc1' : wr.cell? ⟨w.heap.size, 1, none⟩ = some (iV g.out) := by rw [hb.cell (p := ⟨w.heap.size, 1, none⟩) (by simp)]; exact hc1
  have hbw : Below w.heap.size w wr := Hbel.o.trans (hb.mono (by omega))
  have Hrows := hd' hrows
  have Hb := hd' hb
  have Hbw := hd' hbw
  clear hrows hb hbw
  by_cases hlt : i < g.nodes.length
  ·have hin := ufq wr _ g i (Hg.o.up Hbw.o) hlt (by omega) (Hok.o.ins _ (lgM hlt)) (Hok.o.wf _ (lgM hlt))
   have Hin := hd' hin
   clear hin
   have hGi : (insG g).getD i [] = insL g.nodes.length g.nodes[i].ins := by simp [insG, List.getD, hlt]
   have hnd := (uca g.nodes.length g.nodes[i].ins).1
   have hmem := (uca g.nodes.length g.nodes[i].ins).2
   have hml : (insL g.nodes.length g.nodes[i].ins).length ≤ 1000 := by
    have h1 := ud4 g.nodes.length g.nodes[i].ins g.nodes[i].ins.length
    rw [List.take_length] at h1
    have := Hok.o.ins _ (lgM hlt)
    omega
   have Hnd := hd' hnd
   have Hmem := hd' hmem
   have HGi := hd' hGi
   clear hnd hmem hGi
   generalize insL g.nodes.length g.nodes[i].ins = L at *
   go_wp2_with fail
   refine (Hin.o).mono ?_
   rintro e w2 ⟨v2, rfl, hown2, hb2⟩
   obtain ⟨p2, c2, rfl⟩ := ownsRow_form hown2
   have hzr : w.heap.size + 1 < wr.heap.size := by have := Hb.o.size; omega
   have hst : UIn (w.heap.size + 1) wr.heap.size (w.heap.size + 1) g.nodes.length (insG g) w2 i 0 w2 :=
    ⟨vs, Hrows.o.mod (Mod.of_below hb2 (fun _ => False)) (fun _ _ _ h => h), Mod.refl _ _, fun k hk b hb => .inl ((Hrows.o.row k hk).lt b hb).2⟩
   have Hst := hd' hst
   have Hown2 := hd' hown2
   have hzw := hb2.size
   have Hb2 := hd' hb2
   clear hst hown2 hb2
   go_wp2_with fail
   obtain ⟨wo, rfl⟩ : ∃ wo : World, wo = wr := ⟨_, rfl⟩
   go_loopw [21] (fun c wx => ∃ t : Nat, c = iV t ∧ t ≤ L.length ∧ UIn (w.heap.size + 1) wo.heap.size (w.heap.size + 1) g.nodes.length (insG g) w2 i t wx) (fun c _ => L.length - (intOf c).toNat)
   case atStart => exact ⟨0, rfl, Nat.zero_le _, Hst.o⟩
   case round =>
    obtain ⟨t, rfl, ht, vs', hrow', hmod', hlies'⟩ := hrel
    clear Hst
    by_cases htl : t < L.length
    ·obtain ⟨g2, c2', hv2, hg2, _⟩ := Hown2.o.form (by omega)
     simp only [Value.slice.injEq] at hv2
     obtain ⟨rfl, _, rfl⟩ := hv2
     have hx0 : 0 ≤ L[t] ∧ L[t] < (g.nodes.length : Int) := ((Hmem.o _).1 (lgM htl)).2
     obtain ⟨k, hkx⟩ : ∃ k : Nat, L[t] = (k : Int) := ⟨L[t].toNat, by omega⟩
     have hk : k < g.nodes.length := by omega
     have hownx := uac Hown2.o hmod' (fun b hb hs => by
      have h1 := (Hown2.o.lt b hb).1
      omega)
     have hct := hownx.cellAt t (by omega)
     have het : (iv L)[t]? = some (iV (k : Int)) := by simp [iv, htl, hkx]
     rw [het] at hct
     have hck := hrow'.top.cellAt k (by omega)
     have hek : vs'[k]? = some (vs'.getD k undef) := by simp [List.getD, show k < vs'.length by rw [hrow'.len]; exact hk]
     rw [hek] at hck
     have hfk := hrow'.top.frozenAt k
     have hUx : w.heap.size + 1 < wr.heap.size := (hrow'.top.lt _ rfl).2
     have hbx : Below (w.heap.size + 1) w1 wr := (Hb.o.trans (Hb2.o.mono (by omega))).trans (hmod'.below (by omega) (fun b hb hs => by omega))
     have hrk := hrow'.row k hk
     have hkU := hrow'.apartU k hk
     have hll := ugn (insG g) i t k
     have hstep := fun (w3 : World) (o : Obj) (gg cp : Nat) h1 h2 h3 => UIn.step (w3 := w3) vs' hrow' hmod' hlies' (by rw [HGi.o]; exact Hnd.o) (by rw [HGi.o]; exact htl) hzr hzw o k hk (by simp only [HGi.o]; exact hkx) gg cp h1 h2 h3
     have Hstep := hd' hstep
     have Hbx := hd' hbx
     have HkU := hd' hkU
     have Hkx := hd' hkx
     clear hstep hbx hkU hrow' hmod' hlies' hkx hownx het hek hx0
     generalize hvk : vs'.getD k undef = vk at *
     clear hvk
     go_wp2_with (at_builtin; refine wpList_append_lies _ rfl _ _ 25 rfl (w.heap.size + 1) 3 i0 (iV 0) 1 8 Tryz.underlying25 hi0 hz0 hz1 hz2 rfl (by omega) vk (ubn (insG g) i t k).length (iv (ubn (insG g) i t k)) rfl (hrk.alloc _) ⟨wr.heap.size, 0, none⟩ 1 1 [iV i] rfl rfl (cell_one_new _ _ _) (by simp [Value.oneCell']) (by omega) (by unfold maxLen; omega) (by omega) (by simp; omega) (wr.heap.size + 1) (by simp) ?_)
     intro gg cp w3 hown3 hgrow3 hat3 hlt3
     have hc3 : w3.cell? ⟨w.heap.size + 1, k, none⟩ = some vk := by
      rw [hgrow3.cell_far ⟨w.heap.size + 1, k, none⟩ (by simp; omega) (fun e => HkU.o e.symm), World.cell?_alloc_lt (h := hUx)]
      exact hck
     have hf3 : w3.frozen? ⟨w.heap.size + 1, k, none⟩ = false := by
      rw [hgrow3.frozen_far ⟨w.heap.size + 1, k, none⟩ (by simp; omega) (fun e => HkU.o e.symm), World.frozen?_alloc_old (h := by simp; omega)]
      exact hfk
     have hu := Hstep.o w3 _ gg cp hown3 hgrow3 hat3
     have Hu := hd' hu
     clear hu hown3 hgrow3 hat3 Hstep hck hfk hrk
     go_wp2_with fail
     go_roundw
     case rel => exact ⟨t + 1, by go_num, by omega, Hu.o⟩
     case measure => simp [intOf]; omega
    ·have hte : t = L.length := by omega
     subst hte
     have hnext : ∀ k, ubn (insG g) (i + 1) 0 k = ubn (insG g) i L.length k := fun k => uja _ _ _ _ (by rw [HGi.o]; exact Nat.le_refl _)
     have hrow2 := hrow'.congr (fun k _ => hnext k)
     have hbx : Below (w.heap.size + 1) w1 wr := (Hb.o.trans (Hb2.o.mono (by omega))).trans (hmod'.below (by omega) (fun b hb hs => by omega))
     have Hrow2 := hd' hrow2
     have Hbx := hd' hbx
     clear hrow2 hbx hrow' hmod' hlies' hnext
     go_wp2_with fail
     go_roundw
     case rel => exact ⟨i + 1, by go_num, by omega, ⟨_, Hrow2.o⟩, Hbx.o⟩
     case measure => simp [intOf]; omega
  ·go_wp2_with fail
   go_ret
   have hie : i = g.nodes.length := by omega
   subst hie
   refine ⟨_, vs, by rw [Hlen.o]; rfl, ?_, Hbw.o⟩
   have h := Hrows.o
   rw [Hlen.o]
   exact ⟨h.len, uaj h.top (by omega), fun k hk => uaj (h.row k hk) (by omega), h.apartU, h.apart⟩
end Go.Proofs.YtpbmfalokongfaaGreatDoor
namespace Go.Gou
inductive Done (G : List (List Nat)) : Nat → Prop
 | mk (i : Nat) (h : i < G.length) (hk : ∀ k, k ∈ G[i] → Done G k) : Done G i
theorem Done.lt {G : List (List Nat)} {i : Nat} (h : Done G i) : i < G.length := by cases h; assumption
theorem Done.ins {G : List (List Nat)} {i k : Nat} (h : Done G i) (hk : k ∈ G.getD i []) : Done G k := by
 cases h with
 | mk _ hl hall => exact hall k (by simpa [List.getD, hl] using hk)
def rest (out l : List Nat) : Nat := l.countP (fun k => !decide (k ∈ out))
theorem rest_zero {out l : List Nat} : rest out l = 0 ↔ ∀ k ∈ l, k ∈ out := by
 simp [rest, List.countP_eq_zero]
theorem rest_nil (l : List Nat) : rest [] l = l.length := by
 simp [rest]
theorem rest_le (out l : List Nat) : rest out l ≤ l.length := List.countP_le_length
theorem uc2 {out l : List Nat} {k : Nat} (h : k ∉ l) : rest (out ++ [k]) l = rest out l := by
 unfold rest
 apply List.countP_congr
 intro x hx
 have : x ≠ k := fun e => h (e ▸ hx)
 simp [this]
theorem rest_snoc {out l : List Nat} {k : Nat} (hn : l.Nodup) (hk : k ∈ l) (ho : k ∉ out) : rest out l = rest (out ++ [k]) l + 1 := by
 induction l with
 | nil => simp at hk
 | cons a l ih =>
  rw [List.nodup_cons] at hn
  unfold rest
  rw [List.countP_cons, List.countP_cons]
  by_cases e : a = k
  ·subst e
   have := uc2 (out := out) hn.1
   unfold rest at this
   rw [this]
   simp [ho]
  ·have hkl : k ∈ l := by simpa [Ne.symm e] using hk
   have := ih hn.2 hkl
   unfold rest at this
   rw [this]
   simp [e]
   omega
structure KInv (G : List (List Nat)) (out next : List Nat) (left : List Int) : Prop where
 nodup : (out ++ next).Nodup
 len : left.length = G.length
 lt : ∀ i, i ∈ out ++ next → i < G.length
 count : ∀ i, i < G.length → left.getD i 0 = (rest out (G.getD i []) : Int)
 zero : ∀ i, i < G.length → (i ∈ out ++ next ↔ left.getD i 0 = 0)
 done : ∀ i, i ∈ out → Done G i
 topo : ∀ pre i post, out = pre ++ i :: post → ∀ k ∈ G.getD i [], k ∈ pre
structure KIn (G : List (List Nat)) (out : List Nat) (k : Nat) (told : List Nat) (next : List Nat) (left : List Int) : Prop where
 nodup : (out ++ [k] ++ next).Nodup
 len : left.length = G.length
 lt : ∀ i, i ∈ out ++ [k] ++ next → i < G.length
 count : ∀ i, i < G.length → left.getD i 0 = (rest out (G.getD i []) : Int) - (if i ∈ told then 1 else 0)
 zero : ∀ i, i < G.length → (i ∈ out ++ [k] ++ next ↔ left.getD i 0 = 0)
 done : ∀ i, i ∈ out ++ [k] → Done G i
 topo : ∀ pre i post, out ++ [k] = pre ++ i :: post → ∀ k ∈ G.getD i [], k ∈ pre
theorem uje {out pre post : List Nat} {k i : Nat} (h : out ++ [k] = pre ++ i :: post) : (pre = out ∧ i = k ∧ post = []) ∨ ∃ post', out = pre ++ i :: post' := by
 rcases List.eq_nil_or_concat post with rfl | ⟨l, b, rfl⟩
 ·left
  have := List.append_inj' h rfl
  simp at this
  exact ⟨this.1.symm, this.2.symm, rfl⟩
 ·right
  rw [List.concat_eq_append, ← List.cons_append, ← List.append_assoc] at h
  have := List.append_inj' h rfl
  exact ⟨l, this.1⟩
theorem KInv.start {G : List (List Nat)} {next : List Nat} (hn : next.Nodup) (hm : ∀ i, i ∈ next ↔ i < G.length ∧ G.getD i [] = []) : KInv G [] next (G.map fun l => (l.length : Int)) where
 nodup := by simpa using hn
 len := by simp
 lt := fun i hi => ((hm i).1 (by simpa using hi)).1
 count := fun i hi => by simp [rest_nil, List.getD, hi]
 zero := fun i hi => by
  rw [List.nil_append, hm]
  simp [List.getD, hi]
 done := by simp
 topo := fun pre i post h => by simp at h
theorem KInv.pop {G : List (List Nat)} {out next next' : List Nat} {left : List Int} {k : Nat} (h : KInv G out next left) (hp : next.Perm (k :: next')) : KIn G out k [] next' left := by
 have hperm : (out ++ [k] ++ next').Perm (out ++ next) := by
  rw [List.append_assoc]
  exact List.Perm.append_left out hp.symm
 have hin : ∀ i, i ∈ out ++ [k] ++ next' ↔ i ∈ out ++ next := fun i => hperm.mem_iff
 have hk : k < G.length := h.lt k ((hin k).1 (by simp))
 have hall : ∀ j ∈ G.getD k [], j ∈ out := by
  have h0 := (h.zero k hk).1 ((hin k).1 (by simp))
  rw [h.count k hk] at h0
  exact rest_zero.1 (by omega)
 refine ⟨hperm.nodup_iff.2 h.nodup, h.len, fun i hi => h.lt i ((hin i).1 hi), fun i hi => by simpa using h.count i hi, fun i hi => by rw [hin]; exact h.zero i hi, ?_, ?_⟩
 ·intro i hi
  rw [List.mem_append] at hi
  rcases hi with hi | hi
  ·exact h.done i hi
  ·obtain rfl : i = k := by simpa using hi
   refine Done.mk i hk fun j hj => h.done j (hall j ?_)
   simpa [List.getD, hk] using hj
 ·intro pre i post he
  rcases uje he with ⟨rfl, rfl, rfl⟩ | ⟨post', rfl⟩
  ·exact hall
  ·exact h.topo pre i post' rfl
theorem ud6 (l : List Int) (u : Nat) (x : Int) (hu : u < l.length) (i : Nat) : (l.set u x).getD i 0 = if i = u then x else l.getD i 0 := by
 simp only [List.getD, List.getElem?_set]
 by_cases e : i = u
 ·subst e; simp [hu]
 ·simp [e, Ne.symm e]
theorem KIn.tell {G : List (List Nat)} {out told next : List Nat} {left : List Int} {k u : Nat} (h : KIn G out k told next left) (hu : u < G.length) (hku : k ∈ G.getD u []) (ht : u ∉ told) :
 (left.getD u 0 - 1 ≠ 0 → KIn G out k (told ++ [u]) next (left.set u (left.getD u 0 - 1))) ∧
 (left.getD u 0 - 1 = 0 → ∀ next', next'.Perm (u :: next) → KIn G out k (told ++ [u]) next' (left.set u (left.getD u 0 - 1))) := by
 have hc := h.count u hu
 simp only [ht, if_false] at hc
 have hko : k ∉ out := by
  have := h.nodup
  simp only [List.nodup_append] at this
  intro hk
  exact this.1.2.2 k hk k (by simp) rfl
 have hpos : 0 < rest out (G.getD u []) := Nat.pos_of_ne_zero fun h0 => hko (rest_zero.1 h0 k hku)
 have hnot : u ∉ out ++ [k] ++ next := fun hm => by
  have := (h.zero u hu).1 hm
  omega
 have hul : u < left.length := by rw [h.len]; exact hu
 have hcount : ∀ i, i < G.length → (left.set u (left.getD u 0 - 1)).getD i 0 = (rest out (G.getD i []) : Int) - (if i ∈ told ++ [u] then 1 else 0) := by
  intro i hi
  rw [ud6 _ _ _ hul]
  by_cases e : i = u
  ·subst e
   rw [if_pos rfl, if_pos (by simp)]
   omega
  ·rw [if_neg e, h.count i hi]
   simp [e]
 constructor
 ·intro hne
  refine ⟨h.nodup, by simpa using h.len, h.lt, hcount, fun i hi => ?_, h.done, h.topo⟩
  rw [ud6 _ _ _ hul]
  by_cases e : i = u
  ·subst e
   simp only [if_true]
   exact ⟨fun hm => absurd hm hnot, fun h0 => absurd h0 hne⟩
  ·rw [if_neg e]
   exact h.zero i hi
 ·intro h0 next' hp
  have hperm : (out ++ [k] ++ next').Perm (u :: (out ++ [k] ++ next)) := (List.Perm.append_left _ hp).trans List.perm_middle
  have hin : ∀ i, i ∈ out ++ [k] ++ next' ↔ i = u ∨ i ∈ out ++ [k] ++ next := fun i => by rw [hperm.mem_iff, List.mem_cons]
  refine ⟨hperm.nodup_iff.2 (List.nodup_cons.2 ⟨hnot, h.nodup⟩), by simpa using h.len, fun i hi => ?_, hcount, fun i hi => ?_, h.done, h.topo⟩
  ·rcases (hin i).1 hi with rfl | hi
   ·exact hu
   ·exact h.lt i hi
  ·rw [ud6 _ _ _ hul, hin]
   by_cases e : i = u
   ·subst e
    rw [if_pos rfl]
    exact ⟨fun _ => h0, fun _ => .inl rfl⟩
   ·rw [if_neg e, ← h.zero i hi]
    simp [e]
theorem KIn.finish {G : List (List Nat)} {out told next : List Nat} {left : List Int} {k : Nat} (hG : ∀ i, i < G.length → (G.getD i []).Nodup) (h : KIn G out k told next left)
 (ht : ∀ i, i < G.length → (i ∈ told ↔ k ∈ G.getD i [])) : KInv G (out ++ [k]) next left where
 nodup := h.nodup
 len := h.len
 lt := h.lt
 count := fun i hi => by
  have hko : k ∉ out := by
   have := h.nodup
   simp only [List.nodup_append] at this
   intro hk
   exact this.1.2.2 k hk k (by simp) rfl
  rw [h.count i hi]
  by_cases e : k ∈ G.getD i []
  ·rw [if_pos ((ht i hi).2 e), rest_snoc (hG i hi) e hko]
   omega
  ·rw [if_neg (fun hm => e ((ht i hi).1 hm)), uc2 e]
   omega
 zero := h.zero
 done := h.done
 topo := h.topo
theorem KInv.all {G : List (List Nat)} {out : List Nat} {left : List Int} (h : KInv G out [] left) (i : Nat) : i ∈ out ↔ Done G i := by
 refine ⟨h.done i, fun hd => ?_⟩
 induction hd with
 | mk i hi hk ih =>
  have hz : left.getD i 0 = 0 := by
   rw [h.count i hi]
   have : rest out (G.getD i []) = 0 := rest_zero.2 fun k hkm => ih k (by simpa [List.getD, hi] using hkm)
   omega
  have := (h.zero i hi).2 hz
  simpa using this
structure IsOrder (G : List (List Nat)) (out : List Nat) : Prop where
 nodup : out.Nodup
 mem : ∀ i, i ∈ out ↔ Done G i
 topo : ∀ pre i post, out = pre ++ i :: post → ∀ k ∈ G.getD i [], k ∈ pre
theorem KInv.order {G : List (List Nat)} {out : List Nat} {left : List Int} (h : KInv G out [] left) : IsOrder G out := ⟨by simpa using h.nodup, h.all, h.topo⟩
theorem ube {l m : List Nat} (hl : l.Nodup) (h : ∀ i ∈ l, i ∈ m) : l.length ≤ m.length := by
 induction l generalizing m with
 | nil => simp
 | cons a l ih =>
  rw [List.nodup_cons] at hl
  have ha : a ∈ m := h a (by simp)
  have : l.length ≤ (m.erase a).length := ih hl.2 fun i hi => by
   have hne : i ≠ a := fun e => hl.1 (e ▸ hi)
   exact (List.mem_erase_of_ne hne).2 (h i (by simp [hi]))
  rw [List.length_erase_of_mem ha] at this
  have hp : 0 < m.length := List.length_pos_of_mem ha
  simp only [List.length_cons]
  omega
theorem IsOrder.le {G : List (List Nat)} {out : List Nat} (h : IsOrder G out) : out.length ≤ G.length := by
 have := ube (m := List.range G.length) h.nodup fun i hi => List.mem_range.2 ((h.mem i).1 hi).lt
 simpa using this
theorem IsOrder.round {G : List (List Nat)} {out : List Nat} (h : IsOrder G out) : out.length < G.length ↔ ∃ i, i < G.length ∧ ¬ Done G i := by
 constructor
 ·intro hlt
  apply Classical.byContradiction
  intro hn
  have hall : ∀ i, i < G.length → Done G i := fun i hi => Classical.byContradiction fun hd => hn ⟨i, hi, hd⟩
  have := ube (l := List.range G.length) (m := out) List.nodup_range fun i hi => (h.mem i).2 (hall i (List.mem_range.1 hi))
  rw [List.length_range] at this
  omega
 ·rintro ⟨i, hi, hd⟩
  have hni : i ∉ out := fun hm => hd ((h.mem i).1 hm)
  have := ube (l := i :: out) (m := List.range G.length) (List.nodup_cons.2 ⟨hni, h.nodup⟩) fun j hj => by
   rcases List.mem_cons.1 hj with rfl | hj
   ·exact List.mem_range.2 hi
   ·exact List.mem_range.2 ((h.mem j).1 hj).lt
  rw [List.length_range, List.length_cons] at this
  omega
end Go.Gou
namespace Go.Proofs.YtpbmfalokongfaaGreatDoor
open Go.RowKit Go.Gou
abbrev ci (l : List Nat) : List Int := l.map (fun (k : Nat) => (k : Int))
def insN (g : Gr) : List (List Nat) := (insG g).map fun l => l.map Int.toNat
theorem ubc (g : Gr) : (insN g).length = g.nodes.length := by simp [insN, insG]
theorem ui1 (g : Gr) : (insG g).length = g.nodes.length := by simp [insG]
theorem uc9 (g : Gr) (i : Nat) (hi : i < g.nodes.length) : (insG g).getD i [] = insL g.nodes.length g.nodes[i].ins := by simp [insG, List.getD, hi]
theorem uc8 (g : Gr) (i : Nat) : (insN g).getD i [] = ((insG g).getD i []).map Int.toNat := by
 simp only [insN, List.getD, List.getElem?_map]
 cases (insG g)[i]? <;> simp
theorem uf9 (g : Gr) (i : Nat) (hi : i < g.nodes.length) : ((insG g).getD i []).Nodup ∧ ∀ x ∈ (insG g).getD i [], 0 ≤ x ∧ x < g.nodes.length := by
 rw [uc9 g i hi]
 obtain ⟨h1, h2⟩ := uca g.nodes.length g.nodes[i].ins
 exact ⟨h1, fun x hx => ((h2 x).1 hx).2⟩
theorem uc6 {l : List Int} (h : ∀ x ∈ l, 0 ≤ x) (k : Nat) : k ∈ l.map Int.toNat ↔ (k : Int) ∈ l := by
 rw [List.mem_map]
 constructor
 ·rintro ⟨x, hx, rfl⟩
  rw [Int.toNat_of_nonneg (h x hx)]
  exact hx
 ·intro hk
  exact ⟨k, hk, by simp⟩
theorem uia {l : List Int} (h : ∀ x ∈ l, 0 ≤ x) (hn : l.Nodup) : (l.map Int.toNat).Nodup := by
 induction l with
 | nil => simp
 | cons a l ih =>
  rw [List.nodup_cons] at hn
  rw [List.map_cons, List.nodup_cons]
  refine ⟨fun hm => hn.1 ?_, ih (fun x hx => h x (by simp [hx])) hn.2⟩
  rw [uc6 (fun x hx => h x (by simp [hx]))] at hm
  rwa [Int.toNat_of_nonneg (h a (by simp))] at hm
theorem ud3 (g : Gr) (i : Nat) (hi : i < g.nodes.length) (k : Nat) : k ∈ (insN g).getD i [] ↔ (k : Int) ∈ (insG g).getD i [] := by
 rw [uc8]
 exact uc6 (fun x hx => ((uf9 g i hi).2 x hx).1) k
theorem ujt (g : Gr) (i : Nat) (hi : i < g.nodes.length) : ((insN g).getD i []).Nodup := by
 rw [uc8]
 exact uia (fun x hx => ((uf9 g i hi).2 x hx).1) (uf9 g i hi).1
theorem usesL_mem (g : Gr) (k : Nat) : (∀ x ∈ ubn (insG g) g.nodes.length 0 k, 0 ≤ x) ∧ (∀ u : Nat, (u : Int) ∈ ubn (insG g) g.nodes.length 0 k ↔ u < g.nodes.length ∧ k ∈ (insN g).getD u []) ∧ (ubn (insG g) g.nodes.length 0 k).Nodup := by
 have e : ubn (insG g) g.nodes.length 0 k = ci ((List.range g.nodes.length).filter (fun (j : Nat) => decide ((k : Int) ∈ (insG g).getD j []))) := by
  simp [ubn, ci]
 rw [e]
 refine ⟨fun x hx => ?_, fun u => ?_, ?_⟩
 ·obtain ⟨y, _, rfl⟩ := List.mem_map.1 hx
  omega
 ·rw [List.mem_map]
  constructor
  ·rintro ⟨y, hy, hyu⟩
   obtain rfl : y = u := by omega
   rw [List.mem_filter, List.mem_range] at hy
   exact ⟨hy.1, (ud3 g y hy.1 k).2 (by simpa using hy.2)⟩
  ·rintro ⟨hu, hk⟩
   exact ⟨u, List.mem_filter.2 ⟨List.mem_range.2 hu, by simpa using (ud3 g u hu k).1 hk⟩, rfl⟩
 ·have hn : ((List.range g.nodes.length).filter (fun (j : Nat) => decide ((k : Int) ∈ (insG g).getD j []))).Nodup := List.nodup_range.filter _
  exact List.Pairwise.map _ (fun a b hab => by omega) hn
structure HL (w : World) (base Lb N n : Nat) (vh : Value) (xs lf : List Int) (nx : List Nat) : Prop where
 pl : PlAt w N base vh xs
 perm : xs.Perm (ci nx)
 left : w.ownsRow base 3 1 (.slice (some ⟨Lb, 0, none⟩) n n) n (iv lf)
 LN : Lb ≠ N
 LH : vh.ownBlock ≠ some Lb
 baseN : base ≤ N
theorem HL.mod {w w' : World} {base Lb N n : Nat} {vh : Value} {xs lf : List Int} {nx : List Nat} (h : HL w base Lb N n vh xs lf nx) {S : Nat → Prop} (hm : Mod S w w') (hs : ∀ b, base ≤ b → b < w.heap.size → ¬ S b) : HL w' base Lb N n vh xs lf nx :=
 ⟨⟨h.pl.cell.mod hm (hs _ h.baseN h.pl.cell.lt), uac h.pl.own hm (fun b hb => hs b (h.pl.own.lt b hb).1 (h.pl.own.lt b hb).2), h.pl.apart⟩, h.perm,
     uac h.left hm (fun b hb => hs b (h.left.lt b hb).1 (h.left.lt b hb).2), h.LN, h.LH, h.baseN⟩
theorem HL.store {w : World} {base Lb N n : Nat} {vh : Value} {xs lf : List Int} {nx : List Nat} (h : HL w base Lb N n vh xs lf nx) (i : Nat) (x : Int) :
 HL (w.setCell ⟨Lb, i, none⟩ (iV x)) base Lb N n vh xs (lf.set i x) nx := by
 have hm := Mod.setCell w ⟨Lb, i, none⟩ (iV x)
 obtain ⟨s1, _⟩ := h.left.stored i (iV x)
 refine ⟨⟨h.pl.cell.mod hm (fun e => h.LN e.symm), uac h.pl.own hm (fun b hb e => h.LH (by simp at e; rw [← e]; exact hb)), h.pl.apart⟩, h.perm, ?_, h.LN, h.LH, h.baseN⟩
 rw [iv_set]
 exact s1
theorem HL.push {w w' : World} {base Lb N n : Nat} {vh : Value} {xs lf : List Int} {nx : List Nat} (h : HL w base Lb N n vh xs lf nx) {e : Ending} {i : Nat} (hp : ufc w N base vh i xs e w') :
 e = .returned (.tuple #[]) ∧ ∃ vh' xs', HL w' base Lb N n vh' xs' lf (i :: nx) ∧ Mod (Own2 N vh) w w' ∧ Lies w vh vh' := by
 obtain ⟨v', ys, rfl, hperm, hpl, hmod, hlies⟩ := hp
 have hLw : Lb < w.heap.size := (h.left.lt _ rfl).2
 refine ⟨rfl, v', ys, ⟨hpl, hperm.trans (List.Perm.cons _ h.perm), ?_, h.LN, ?_, h.baseN⟩, hmod, hlies⟩
 ·exact uac h.left hmod (fun b hb hs => by
   simp [Value.ownBlock] at hb
   subst hb
   rcases hs with hs | hs
   ·exact h.LN hs
   ·exact h.LH hs)
 ·rcases hlies with hl | ⟨g, hg, hge⟩
  ·rw [hl]; exact h.LH
  ·rw [hg]
   intro e
   have := Option.some.inj e
   omega
theorem HL.pop {w w' : World} {base Lb N n : Nat} {vh : Value} {xs lf : List Int} {nx : List Nat} (h : HL w base Lb N n vh xs lf nx) {e : Ending} (hp : ugl w N base vh xs e w') :
 ∃ k nx' vh' xs', e = .returned (.iface 3 (iV ((k : Nat) : Int))) ∧ nx.Perm (k :: nx') ∧ HL w' base Lb N n vh' xs' lf nx' ∧ Mod (Own2 N vh) w w' ∧ vh'.ownBlock = vh.ownBlock := by
 obtain ⟨v', x, ys, rfl, hperm, hpl, hmod, hob⟩ := hp
 have hall : (ci nx).Perm (x :: ys) := h.perm.symm.trans hperm
 have hx : x ∈ ci nx := hall.mem_iff.2 (by simp)
 obtain ⟨k, hk, rfl⟩ := List.mem_map.1 hx
 have hpk : nx.Perm (k :: nx.erase k) := List.perm_cons_erase hk
 have hys : ys.Perm (ci (nx.erase k)) := by
  have h1 : (ci nx).Perm (((k : Nat) : Int) :: ci (nx.erase k)) := hpk.map _
  exact (List.Perm.cons_inv (hall.symm.trans h1))
 refine ⟨k, nx.erase k, v', ys, rfl, hpk, ⟨hpl, hys, ?_, h.LN, ?_, h.baseN⟩, hmod, hob⟩
 ·exact uac h.left hmod (fun b hb hs => by
   simp [Value.ownBlock] at hb
   subst hb
   rcases hs with hs | hs
   ·exact h.LN hs
   ·exact h.LH hs)
 ·rw [hob]; exact h.LH
def L1 (base Lb N n : Nat) (G : List (List Int)) (i : Nat) (w : World) : Prop :=
 ∃ vh xs lf nx, HL w base Lb N n vh xs lf nx ∧ lf.length = n ∧ (∀ j, j < i → lf.getD j 0 = ((G.getD j []).length : Int)) ∧ nx.Nodup ∧ ∀ j, j ∈ nx ↔ j < i ∧ G.getD j [] = []
def S0 (Lb N : Nat) (vh0 : Value) : Nat → Prop := fun b => b = Lb ∨ b = N ∨ vh0.ownBlock = some b
structure Away (ws : World) (Lb : Nat) (vh0 vh vo : Value) : Prop where
 heap : vh.ownBlock = vh0.ownBlock ∨ ∃ g, vh.ownBlock = some g ∧ ws.heap.size ≤ g
 out : ∀ b, vo.ownBlock = some b → ws.heap.size ≤ b ∧ vh.ownBlock ≠ some b
def L2 (base Lb N n : Nat) (G : List (List Nat)) (ws : World) (vh0 : Value) (vo : Value) (w : World) : Prop :=
 ∃ out vh xs lf nx, HL w base Lb N n vh xs lf nx ∧ KInv G out nx lf ∧ w.ownsRow ws.heap.size 3 1 vo out.length (iv (ci out)) ∧ Mod (S0 Lb N vh0) ws w ∧ Away ws Lb vh0 vh vo
def L3 (base Lb N n : Nat) (G : List (List Nat)) (ws : World) (vh0 : Value) (vo : Value) (out : List Nat) (k : Nat) (told : List Nat) (w : World) : Prop :=
 ∃ vh xs lf nx, HL w base Lb N n vh xs lf nx ∧ KIn G out k told nx lf ∧ w.ownsRow ws.heap.size 3 1 vo (out ++ [k]).length (iv (ci (out ++ [k]))) ∧ Mod (S0 Lb N vh0) ws w ∧ Away ws Lb vh0 vh vo
def lenV : Value → Nat | .slice _ n _ => n | _ => 0
def AllPost (w : World) (g : Gr) (e : Ending) (w' : World) : Prop :=
 ∃ v out, e = .returned v ∧ w'.ownsRow w.heap.size 3 1 v out.length (iv (ci out)) ∧ IsOrder (insN g) out ∧ Below w.heap.size w w'
end Go.Proofs.YtpbmfalokongfaaGreatDoor
namespace Go.Proofs.YtpbmfalokongfaaGreatDoor
open Go.RowKit Go.Gou
theorem all_ord (w : World) (v : Value) (g : Gr) (hg : GrV w v g) (hok : GrOk g) :
 Calls Tryz.prog 106 #[v] w (AllPost w g) := by
 obtain ⟨i0, hi0, hz0, hz1, hz2⟩ := info_parts ud5
 have Hg := hd' hg
 have Hok := hd' hok
 have hfew := hok.few
 obtain ⟨p, cap, rfl⟩ := hg.form
 clear hg hok
 go_enter Tryz.func106, Tryz.ntmps106
 go_wp2_with (first
     | (at_make; refine wpList_make_full _ rfl _ _ 25 rfl w.heap.size 3 i0 (iV 0) 1 Tryz.underlying25 hi0 hz0 hz1 _ _ _ _ g.nodes.length rfl rfl rfl rfl ?b1 ?b2 ?b3 ?_))
 case b1 => rw [hz2]; omega
 case b2 => unfold maxLen; omega
 case b3 => simp
 intro w1 hown hgrow
 have hzb1 : w.heap.size + 1 < w1.heap.size := (hown.lt _ rfl).2
 have hb1 : Below (w.heap.size + 1) (w.alloc (.cells #[.slice p g.nodes.length cap, iV g.out] 40)) w1 := (Below.refl _ _).grown hgrow (by simp) (fun k e => by cases e)
 have hc0 : w1.cell? ⟨w.heap.size, 0, none⟩ = some (.slice p g.nodes.length cap) := by rw [hb1.cell (p := ⟨w.heap.size, 0, none⟩) (by simp)]; simp [go_sem]
 have hc1 : w1.cell? ⟨w.heap.size, 1, none⟩ = some (iV g.out) := by rw [hb1.cell (p := ⟨w.heap.size, 1, none⟩) (by simp)]; simp [go_sem]
 have hbel : Below w.heap.size w w1 := ((Below.refl _ _).alloc (Nat.le_refl _) _).trans (hb1.mono (by omega))
 have hzb0 : w.heap.size < w1.heap.size := by omega
 have hst : L1 (w.heap.size + 1) (w.heap.size + 1) (w1.heap.size + 1) g.nodes.length (insG g) 0
     ((w1.alloc (.cells #[] 3)).alloc (.cells #[.slice (some ⟨w1.heap.size, 0, none⟩) 0 0] 153)) := by
  rw [toList_madeCells_one] at hown
  have hl1 : w1.ownsRow (w.heap.size + 1) 3 1 (.slice (some ⟨w.heap.size + 1, 0, none⟩) g.nodes.length g.nodes.length) g.nodes.length (List.replicate g.nodes.length (iV 0)) := by
   refine ⟨hown.1, ?_⟩
   rcases hown.2 with ⟨h, _⟩ | ⟨g', cap', cur, hv, hg', r⟩
   ·cases h
   ·simp only [Value.slice.injEq, Option.some.injEq, Addr.mk.injEq, and_true] at hv
    obtain ⟨rfl, _, rfl⟩ := hv
    exact .inr ⟨_, _, cur, rfl, by omega, r⟩
  have hl2 := (hl1.alloc (.cells #[] 3)).alloc (.cells #[.slice (some ⟨w1.heap.size, 0, none⟩) 0 0] 153)
  refine ⟨.slice (some ⟨w1.heap.size, 0, none⟩) 0 0, [], List.replicate g.nodes.length 0, [], ⟨⟨?_, ?_, ?_⟩, List.Perm.refl _, by simpa [iv, List.map_replicate] using hl2, by omega, ?_, by omega⟩, by simp, fun j hj => by omega, by simp, fun j => by simp⟩
  ·have := Cell1.new (w1.alloc (.cells #[] 3)) 153 (.slice (some ⟨w1.heap.size, 0, none⟩) 0 0)
   simpa using this
  ·have := (World.ownsRow_lit (base := w.heap.size + 1) (e := 3) (size := 1) w1 #[] 0 (by omega) (by unfold maxLen; omega) (by simp)).alloc (.cells #[.slice (some ⟨w1.heap.size, 0, none⟩) 0 0] 153)
   simpa [iv] using this
  ·simp [Value.ownBlock]
  ·simp [Value.ownBlock]; omega
 have hbw : Below (w.heap.size + 1) w1 ((w1.alloc (.cells #[] 3)).alloc (.cells #[.slice (some ⟨w1.heap.size, 0, none⟩) 0 0] 153)) :=
  ((Below.refl _ _).alloc (by omega) _).alloc (by simp; omega) _
 have Hbel := hd' hbel
 have Hst := hd' hst
 have Hbw := hd' hbw
 clear hbel hown hgrow hb1 hst hbw
 go_wp2_with fail
 go_loopw [20] (fun c wr => ∃ i : Nat, c = iV i ∧ i ≤ g.nodes.length ∧ L1 (w.heap.size + 1) (w.heap.size + 1) (w1.heap.size + 1) g.nodes.length (insG g) i wr ∧ Below (w.heap.size + 1) w1 wr) (fun c _ => g.nodes.length - (intOf c).toNat)
 case atStart => exact ⟨0, rfl, Nat.zero_le _, Hst.o, Hbw.o⟩
 case round =>
  obtain ⟨i, rfl, hi, hl1, hb⟩ := hrel
  clear Hst Hbw
  have hc0' : wr.cell? ⟨w.heap.size, 0, none⟩ = some (.slice p g.nodes.length cap) := by rw [hb.cell (p := ⟨w.heap.size, 0, none⟩) (by simp)]; exact hc0
  have hc1' : wr.cell? ⟨w.heap.size, 1, none⟩ = some (iV g.out) := by rw [hb.cell (p := ⟨w.heap.size, 1, none⟩) (by simp)]; exact hc1
  have hbw : Below w.heap.size w wr := Hbel.o.trans (hb.mono (by omega))
  have hzr : w1.heap.size ≤ wr.heap.size := hb.size
  have Hl1 := hd' hl1
  have Hb := hd' hb
  have Hbw := hd' hbw
  clear hl1 hb hbw
  by_cases hlt : i < g.nodes.length
  ·have hin := ufq wr _ g i (Hg.o.up Hbw.o) hlt (by omega) (Hok.o.ins _ (lgM hlt)) (Hok.o.wf _ (lgM hlt))
   have Hin := hd' hin
   clear hin
   have hGi := uc9 g i hlt
   have HGi := hd' hGi
   have hml : (insL g.nodes.length g.nodes[i].ins).length ≤ 1000 := by
    have h1 := ud4 g.nodes.length g.nodes[i].ins g.nodes[i].ins.length
    rw [List.take_length] at h1
    have := Hok.o.ins _ (lgM hlt)
    omega
   clear hGi
   generalize insL g.nodes.length g.nodes[i].ins = L at *
   go_wp2_with fail
   refine (Hin.o).mono ?_
   rintro e w2 ⟨v2, rfl, hown2, hb2⟩
   obtain ⟨p2, c2, rfl⟩ := ownsRow_form hown2
   obtain ⟨vh, xs, lf, nx, hHL, hll, hcnt, hnd, hmem⟩ := Hl1.o
   have hHL2 := hHL.mod (Mod.of_below hb2 (fun _ => False)) (fun _ _ _ h => h)
   have hfl := hHL2.left.frozenAt i
   have hcl := hHL2.left.cellAt i (by omega)
   have hel : (iv lf)[i]? = some (iV (lf.getD i 0)) := by simp [iv, List.getD, show i < lf.length by omega]
   rw [hel] at hcl
   have hLw : w.heap.size + 1 < w2.heap.size := by have := hb2.size; omega
   have hHL3 := hHL2.store i (L.length : Int)
   have hbel3 : Below (w.heap.size + 1) w1 (w2.setCell ⟨w.heap.size + 1, i, none⟩ (iV (L.length : Int))) := (Hb.o.trans (hb2.mono (by omega))).setCell (by simp) _
   have hll3 : (lf.set i (L.length : Int)).length = g.nodes.length := by simpa using hll
   have hcnt3 : ∀ j, j < i + 1 → (lf.set i (L.length : Int)).getD j 0 = (((insG g).getD j []).length : Int) := by
    intro j hj
    rw [ud6 _ _ _ (by omega)]
    by_cases e : j = i
    ·subst e
     rw [if_pos rfl, HGi.o]
    ·rw [if_neg e]
     exact hcnt j (by omega)
   have HHL3 := hd' hHL3
   have Hbel3 := hd' hbel3
   have Hll3 := hd' hll3
   have Hcnt3 := hd' hcnt3
   have Hnd := hd' hnd
   have Hmem := hd' hmem
   clear hHL3 hbel3 hll3 hcnt3 hnd hmem hHL hHL2 hll hcnt hown2 hb2 hel
   have hnxlen : nx.length ≤ 1000 := by
    have := ube (m := List.range g.nodes.length) Hnd.o fun j hj => List.mem_range.2 (by have := ((Hmem.o j).1 hj).1; omega)
    rw [List.length_range] at this
    omega
   have hxlen : xs.length ≤ 1000 := by have := HHL3.o.perm.length_eq; simp [ci] at this; omega
   by_cases hL : L.length = 0
   ·have hz : ((L.length : Nat) : Int) = 0 := by omega
    have h3 := HHL3.o
    have hb3 := Hbel3.o
    have hc3 := Hcnt3.o
    have hl3 := Hll3.o
    rw [hz] at h3 hb3 hc3 hl3
    have H3 := hd' h3
    have HB3 := hd' hb3
    have HC3 := hd' hc3
    have HL3 := hd' hl3
    have HLe := hd' (List.eq_nil_of_length_eq_zero hL)
    clear h3 hb3 hc3 hl3 HHL3 Hbel3 Hcnt3 Hll3 hz
    go_wp2_with fail
    refine (ug6 _ _ (w.heap.size + 1) vh xs i H3.o.pl (by omega) (by simp; omega)).mono ?_
    rintro e w4 hpost
    obtain ⟨rfl, vh', xs', hHL4, hmod4, hlies4⟩ := H3.o.push hpost
    have hown2w : ∀ b, Own2 (w1.heap.size + 1) vh b → w.heap.size + 1 ≤ b := by
     intro b hb
     rcases hb with rfl | hb
     ·omega
     ·exact (H3.o.pl.own.lt b hb).1
    have hb4 : Below (w.heap.size + 1) w1 w4 := HB3.o.trans (hmod4.below (by simp; omega) (fun b hb hs => by have := hown2w b hs; omega))
    have hl4 : L1 (w.heap.size + 1) (w.heap.size + 1) (w1.heap.size + 1) g.nodes.length (insG g) (i + 1) w4 := by
     refine ⟨vh', xs', _, i :: nx, hHL4, HL3.o, HC3.o, List.nodup_cons.2 ⟨fun hm => by have := ((Hmem.o i).1 hm).1; omega, Hnd.o⟩, fun j => ?_⟩
     rw [List.mem_cons, Hmem.o]
     constructor
     ·rintro (rfl | ⟨h1, h2⟩)
      ·exact ⟨by omega, by rw [HGi.o, HLe.o]⟩
      ·exact ⟨by omega, h2⟩
     ·rintro ⟨h1, h2⟩
      by_cases e : j = i
      ·exact .inl e
      ·exact .inr ⟨by omega, h2⟩
    have Hb4 := hd' hb4
    have Hl4 := hd' hl4
    clear hb4 hl4 hown2w hHL4 hmod4 hlies4 hpost
    go_wp2_with fail
    go_roundw
    case rel => exact ⟨i + 1, by go_num, by omega, Hl4.o, Hb4.o⟩
    case measure => simp [intOf]; omega
   ·have hne : ((L.length : Int) == 0) = false := bqf.2 (by omega)
    have hl4 : L1 (w.heap.size + 1) (w.heap.size + 1) (w1.heap.size + 1) g.nodes.length (insG g) (i + 1) (w2.setCell ⟨w.heap.size + 1, i, none⟩ (iV (L.length : Int))) := by
     refine ⟨vh, xs, _, nx, HHL3.o, Hll3.o, Hcnt3.o, Hnd.o, fun j => ?_⟩
     rw [Hmem.o]
     constructor
     ·rintro ⟨h1, h2⟩
      exact ⟨by omega, h2⟩
     ·rintro ⟨h1, h2⟩
      refine ⟨?_, h2⟩
      by_cases e : j = i
      ·subst e
       rw [HGi.o] at h2
       rw [h2] at hL
       simp at hL
      ·omega
    have Hl4 := hd' hl4
    clear hl4
    go_wp2_with fail
    go_roundw
    case rel => exact ⟨i + 1, by go_num, by omega, Hl4.o, Hbel3.o⟩
    case measure => simp [intOf]; omega
  ·obtain rfl : i = g.nodes.length := by omega
   obtain ⟨vh0, xs, lf, nx, hHL, hll, hcnt, hnd, hmem⟩ := Hl1.o
   have hlf : lf = (insN g).map fun l => (l.length : Int) := by
    apply List.ext_getElem
    ·rw [hll, List.length_map, ubc]
    ·intro j h1 h2
     have := hcnt j (by omega)
     have hjl : j < (insG g).length := by rw [ui1]; omega
     simp only [List.getD, lgE h1, lgE hjl, Option.getD_some] at this
     rw [this]
     simp [insN]
   have hst : KInv (insN g) [] nx lf := by
    rw [hlf]
    refine KInv.start hnd fun j => ?_
    rw [hmem, ubc]
    constructor
    ·rintro ⟨h1, h2⟩
     exact ⟨h1, by rw [uc8, h2]; rfl⟩
    ·rintro ⟨h1, h2⟩
     rw [uc8] at h2
     exact ⟨h1, List.map_eq_nil_iff.1 h2⟩
   have Hst := hd' hst
   have HHL := hd' hHL
   clear hst hHL hll hcnt hnd hmem hlf
   go_wp2_with fail
   refine (uses_any wr _ g (Hg.o.up Hbw.o) Hok.o).mono ?_
   rintro e ws ⟨U, vs, rfl, hrows, hbs⟩
   rw [ui1] at hrows ⊢
   have hzs : wr.heap.size ≤ ws.heap.size := hbs.size
   have hHLs := HHL.o.mod (Mod.of_below hbs (fun _ => False)) (fun _ _ _ h => h)
   have hNr : w1.heap.size + 1 < wr.heap.size := HHL.o.pl.cell.lt
   have hst2 : L2 (w.heap.size + 1) (w.heap.size + 1) (w1.heap.size + 1) g.nodes.length (insN g) ws vh0 nlS ws :=
    ⟨[], vh0, xs, lf, nx, hHLs, Hst.o, World.ownsRow_nil _ _ _ _, Mod.refl _ _, ⟨.inl rfl, fun b hb => by simp [Value.ownBlock] at hb⟩⟩
   have hS0 : ∀ b, wr.heap.size ≤ b → ¬ S0 (w.heap.size + 1) (w1.heap.size + 1) vh0 b := by
    rintro b hb (rfl | rfl | h)
    ·omega
    ·omega
    ·have := (HHL.o.pl.own.lt b h).2
     omega
   have hS1 : ∀ b, b < w.heap.size + 1 → ¬ S0 (w.heap.size + 1) (w1.heap.size + 1) vh0 b := by
    rintro b hb (rfl | rfl | h)
    ·omega
    ·omega
    ·have := (HHL.o.pl.own.lt b h).1
     omega
   have hbws : Below w.heap.size w ws := Hbw.o.trans (hbs.mono (by have := Hbw.o.size; omega))
   obtain ⟨wu, hwu⟩ : ∃ wu : World, wu = wr := ⟨_, rfl⟩
   subst hwu
   have Hst2 := hd' hst2
   have HS0 := hd' hS0
   have HS1 := hd' hS1
   have Hrows := hd' hrows
   have Hbws := hd' hbws
   clear hst2 hS0 hS1 hrows hbws hHLs hbs HHL Hst Hl1 Hb Hbw hc0' hc1' hc0 hc1
   have has := ufv
   go_wp2_with fail
   go_loopw [7] (fun vo wr => L2 (w.heap.size + 1) (w.heap.size + 1) (w1.heap.size + 1) g.nodes.length (insN g) ws vh0 vo wr) (fun vo _ => g.nodes.length - lenV vo)
   case atStart => exact Hst2.o
   case round =>
    obtain ⟨out, vh, xs', lf', nx', hHL, hK, hown, hmod, haway⟩ := hrel
    clear Hst2
    obtain ⟨pvo, cvo, rfl⟩ := ownsRow_form hown
    obtain ⟨pvh, cvh, rfl⟩ := ownsRow_form hHL.pl.own
    have hcN := hHL.pl.cell.cell
    have hxl : xs'.length = nx'.length := by have := hHL.perm.length_eq; simpa [ci] using this
    have hnl : out.length + nx'.length ≤ g.nodes.length := by
     have := ube (m := List.range (insN g).length) hK.nodup fun j hj => List.mem_range.2 (hK.lt j hj)
     rw [List.length_range, ubc, List.length_append] at this
     exact this
    have HHL := hd' hHL
    have HK := hd' hK
    have Hown := hd' hown
    have Hmod := hd' hmod
    have Haway := hd' haway
    have Hxl := hd' hxl
    have hxle : xs'.length ≤ 1000 := by omega
    clear hHL hK hown hmod haway
    by_cases hn0 : nx'.length = 0
    ·have hxz : ¬ (0 < (xs'.length : Int)) := by omega
     have hmaxx : xs'.length ≤ maxLen := by unfold maxLen; omega
     have Hn0 := hd' hn0
     clear hn0 hxl
     go_wp2_with fail
     refine (uf7 _ _ _ _ hmaxx).mono ?_
     rintro e w9 ⟨rfl, rfl⟩
     go_wp2_with fail
     go_ret
     obtain rfl := List.eq_nil_of_length_eq_zero Hn0.o
     exact ⟨_, out, rfl, uaj Hown.o (by have := Hbws.o.size; omega), HK.o.order, Hbws.o.trans ((Hmod.o.below (B := w.heap.size) (by have := Hbws.o.size; omega) (fun b hb => HS1.o b (by omega))))⟩
    ·have hxp : (0 < (xs'.length : Int)) := by omega
     have hmaxx : xs'.length ≤ maxLen := by unfold maxLen; omega
     have hxp' : 0 < xs'.length := by omega
     have hout : out.length < g.nodes.length := by omega
     have Hn0 := hd' hn0
     clear hn0 hxl
     go_wp2_with fail
     refine (uf7 _ _ _ _ hmaxx).mono ?_
     rintro e w9 ⟨rfl, rfl⟩
     go_wp2_with fail
     refine (heap_pop _ _ (w.heap.size + 1) _ xs' HHL.o.pl (by omega) hxp').mono ?_
     rintro e w3 hpost
     obtain ⟨k, nx3, vh3, xs3, rfl, hp3, hHL3, hmod3, hob3⟩ := HHL.o.pop hpost
     have hKin := HK.o.pop hp3
     have hNs : w1.heap.size + 1 < ws.heap.size := by omega
     have hzw3 : ws.heap.size ≤ w3.heap.size := by have := Hmod.o.size; have := hmod3.size; omega
     have hvo3 := uac Hown.o hmod3 (fun b hb hs => by
      rcases hs with rfl | hs
      ·have := (Hown.o.lt _ hb).1; omega
      ·exact (Haway.o.out b hb).2 hs)
     have hm3 : Mod (S0 (w.heap.size + 1) (w1.heap.size + 1) vh0) ws w3 := Hmod.o.trans hmod3 (fun b hb hs => by
      rcases hs with rfl | hs
      ·exact .inr (.inl rfl)
      ·rcases Haway.o.heap with h | ⟨gg, h, hge⟩
       ·exact .inr (.inr (h ▸ hs))
       ·rw [h] at hs
        have := Option.some.inj hs
        omega)
     have haw3 : Away ws (w.heap.size + 1) vh0 vh3 (.slice pvo out.length cvo) := ⟨by rw [hob3]; exact Haway.o.heap, fun b hb => ⟨(Haway.o.out b hb).1, by rw [hob3]; exact (Haway.o.out b hb).2⟩⟩
     have hkn : k < g.nodes.length := by
      have := HK.o.lt k (by rw [List.mem_append]; exact .inr (hp3.mem_iff.2 (by simp)))
      rwa [ubc] at this
     have HKin := hd' hKin
     have HHL3 := hd' hHL3
     have Hm3 := hd' hm3
     have Haw3 := hd' haw3
     clear hKin hHL3 hm3 haw3 hmod3 hob3 hp3 hpost
     go_wp2_with (at_builtin; refine wpList_append_lies _ rfl _ _ 25 rfl ws.heap.size 3 i0 (iV 0) 1 8 Tryz.underlying25 hi0 hz0 hz1 hz2 rfl (by omega) _ out.length (iv (ci out)) rfl (hvo3.alloc _) ⟨w3.heap.size, 0, none⟩ 1 1 [iV ((k : Nat) : Int)] rfl rfl (cell_one_new _ _ _) (by simp [Value.oneCell']) (by omega) (by unfold maxLen; omega) (by omega) (by simp; omega) (w3.heap.size + 1) (by simp) ?_)
     intro go co w4 hown4 hgrow4 hat4 hlt4
     have hm34 : Mod (fun b => (Value.slice pvo out.length cvo).ownBlock = some b) w3 w4 := (Mod.alloc _ w3 _).trans (Mod.of_grown hgrow4) (fun _ _ h => h)
     have hHL4 : HL w4 (w.heap.size + 1) (w.heap.size + 1) (w1.heap.size + 1) g.nodes.length vh3 xs3 lf' nx3 := by
      have h := HHL3.o
      have hvob : ∀ b, (Value.slice pvo out.length cvo).ownBlock = some b → ws.heap.size ≤ b ∧ vh3.ownBlock ≠ some b := Haw3.o.out
      exact ⟨⟨h.pl.cell.mod hm34 (fun e => by have := (hvob _ e).1; omega), uac h.pl.own hm34 (fun b hb e => (hvob b e).2 hb), h.pl.apart⟩, h.perm,
          uac h.left hm34 (fun b hb e => by
           have h1 := (hvob b e).1
           simp [Value.ownBlock] at hb
           omega), h.LN, h.LH, h.baseN⟩
     have hm4 : Mod (S0 (w.heap.size + 1) (w1.heap.size + 1) vh0) ws w4 := Hm3.o.trans hm34 (fun b hb e => by have := (Haw3.o.out b e).1; omega)
     have hgo : ws.heap.size ≤ go := by
      rcases hat4 with h | rfl
      ·exact (Haw3.o.out go h).1
      ·omega
     have haw4 : Away ws (w.heap.size + 1) vh0 vh3 (.slice (some ⟨go, 0, none⟩) (out.length + 1) co) := by
      refine ⟨Haw3.o.heap, fun b hb => ?_⟩
      obtain rfl : go = b := by simpa [Value.ownBlock] using hb
      refine ⟨hgo, fun e => ?_⟩
      rcases hat4 with h | rfl
      ·exact (Haw3.o.out go h).2 e
      ·have := (HHL3.o.pl.own.lt _ e).2
       omega
     have hown4' : w4.ownsRow ws.heap.size 3 1 (.slice (some ⟨go, 0, none⟩) (out.length + 1) co) (out ++ [k]).length (iv (ci (out ++ [k]))) := by simpa [iv, ci] using hown4
     have hst3 : L3 (w.heap.size + 1) (w.heap.size + 1) (w1.heap.size + 1) g.nodes.length (insN g) ws vh0 (.slice (some ⟨go, 0, none⟩) (out.length + 1) co) out k [] w4 :=
      ⟨vh3, xs3, lf', nx3, hHL4, HKin.o, hown4', hm4, haw4⟩
     have hr4 := Hrows.o.mod hm4 (fun b hb _ => HS0.o b hb)
     have hck := hr4.top.cellAt k (by omega)
     have hek : vs[k]? = some (vs.getD k undef) := by simp [List.getD, show k < vs.length by rw [hr4.len]; exact hkn]
     rw [hek] at hck
     obtain ⟨pk, ck, hvk⟩ := ownsRow_form (hr4.row k hkn)
     rw [hvk] at hck
     have hrk := Hrows.o.row k hkn
     rw [hvk] at hrk
     obtain ⟨hu1, hu2, hu3⟩ := usesL_mem g k
     have hul : (ubn (insG g) g.nodes.length 0 k).length ≤ 2000 := by have := ugn (insG g) g.nodes.length 0 k; omega
     have Hst3 := hd' hst3
     have Hrk := hd' hrk
     have Hu1 := hd' hu1
     have Hu2 := hd' hu2
     have Hu3 := hd' hu3
     clear hst3 hrk hu1 hu2 hu3 hr4 hek hvk hown4' haw4 hm4 hHL4 hm34 hown4 hgrow4 hat4 hvo3
     have hk0 : (0 : Int) ≤ (k : Int) := by omega
     have hkn' : (k : Int) < (g.nodes.length : Int) := by omega
     generalize ubn (insG g) g.nodes.length 0 k = row at *
     go_wp2_with fail
     obtain ⟨wo, rfl⟩ : ∃ wo : World, wo = wr := ⟨_, rfl⟩
     go_loopw [61] (fun c wr => ∃ t : Nat, c = iV t ∧ t ≤ row.length ∧ L3 (w.heap.size + 1) (w.heap.size + 1) (w1.heap.size + 1) g.nodes.length (insN g) ws vh0 (.slice (some ⟨go, 0, none⟩) (out.length + 1) co) out k ((row.take t).map Int.toNat) wr) (fun c _ => row.length - (intOf c).toNat)
     case atStart => exact ⟨0, rfl, Nat.zero_le _, Hst3.o⟩
     case round =>
      obtain ⟨t, rfl, ht, vh5, xs5, lf5, nx5, hHL5, hK5, hown5, hm5, haw5⟩ := hrel
      clear Hst3
      by_cases htl : t < row.length
      ·have hux := Hu1.o _ (lgM htl)
       obtain ⟨u, hu⟩ : ∃ u : Nat, row[t] = (u : Int) := ⟨row[t].toNat, by omega⟩
       have hum := (Hu2.o u).1 (by rw [← hu]; exact lgM htl)
       obtain ⟨hun, hku⟩ := hum
       have htold : u ∉ (row.take t).map Int.toNat := by
        rw [uc6 (fun x hx => Hu1.o x (List.mem_of_mem_take hx)), ← hu]
        intro hm
        obtain ⟨j, hj, hje⟩ := List.mem_take_iff_getElem.1 hm
        have := (List.getElem_inj (i := j) (j := t) Hu3.o).1 hje
        omega
       have htk : (row.take (t + 1)).map Int.toNat = (row.take t).map Int.toNat ++ [u] := by
        rw [ltS htl, List.map_append, hu]
        simp
       have hr5 := uac Hrk.o hm5 (fun b hb => HS0.o b (Hrk.o.lt b hb).1)
       obtain ⟨gk, ck', hvk5, _, _⟩ := hr5.form (by omega)
       simp only [Value.slice.injEq] at hvk5
       obtain ⟨rfl, _, rfl⟩ := hvk5
       have hct := hr5.cellAt t (by omega)
       have het : (iv row)[t]? = some (iV (u : Int)) := by simp [iv, htl, hu]
       rw [het] at hct
       have hcl := hHL5.left.cellAt u (by omega)
       have hlen5 : lf5.length = g.nodes.length := by rw [hK5.len, ubc]
       have hel : (iv lf5)[u]? = some (iV (lf5.getD u 0)) := by simp [iv, List.getD, show u < lf5.length by omega]
       rw [hel] at hcl
       have hfl := hHL5.left.frozenAt u
       have hcount := hK5.count u (by rw [ubc]; exact hun)
       have hrl := rest_le out ((insN g).getD u [])
       have hil : ((insN g).getD u []).length ≤ 1000 := by
        rw [uc8, List.length_map, uc9 g u hun]
        have h1 := ud4 g.nodes.length g.nodes[u].ins g.nodes[u].ins.length
        rw [List.take_length] at h1
        have := Hok.o.ins _ (lgM hun)
        omega
       have hlb : -1 ≤ lf5.getD u 0 ∧ lf5.getD u 0 ≤ 1000 := by
        rw [hcount]
        split <;> omega
       have htell := hK5.tell (u := u) (by rw [ubc]; exact hun) hku htold
       have hHL6 := hHL5.store u (lf5.getD u 0 - 1)
       have hLws : w.heap.size + 1 < ws.heap.size := by omega
       have hm6 : Mod (S0 (w.heap.size + 1) (w1.heap.size + 1) vh0) ws (wr.setCell ⟨w.heap.size + 1, u, none⟩ (iV (lf5.getD u 0 - 1))) := hm5.trans (Mod.setCell _ _ _) (fun b _ e => .inl e)
       have hown6 := uac hown5 (Mod.setCell wr ⟨w.heap.size + 1, u, none⟩ (iV (lf5.getD u 0 - 1))) (fun b hb e => by
        have h1 := (hown5.lt b hb).1
        simp at e
        omega)
       have hxl5 : xs5.length ≤ 1000 := by
        have h1 := hHL5.perm.length_eq
        have h2 := ube (m := List.range (insN g).length) hK5.nodup fun j hj => List.mem_range.2 (hK5.lt j hj)
        rw [List.length_range, ubc, List.length_append] at h2
        simp [ci] at h1
        omega
       have Htell := hd' htell
       have HHL6 := hd' hHL6
       have Hm6 := hd' hm6
       have Hown6 := hd' hown6
       have Haw5 := hd' haw5
       have Htk := hd' htk
       have hu0 : (0 : Int) ≤ (u : Int) := by omega
       have hun' : (u : Int) < (g.nodes.length : Int) := by omega
       have hzs6 : ws.heap.size ≤ wr.heap.size := hm5.size
       clear htell hHL6 hm6 hown6 haw5 htk hK5 hHL5 hown5 hm5 htold hku hcount hrl hil hr5 het hel hlen5 hux hu
       generalize lf5.getD u 0 = q at *
       by_cases hq : q - 1 = 0
       ·have hq1 : q = 1 := by omega
        subst hq1
        have ht2 := Htell.o.2 (by omega)
        have h6 := HHL6.o
        have m6 := Hm6.o
        have o6 := Hown6.o
        rw [show (1 : Int) - 1 = 0 from rfl] at h6 m6 o6 ht2
        have Ht2 := hd' ht2
        have H6 := hd' h6
        have M6 := hd' m6
        have O6 := hd' o6
        clear ht2 Htell hq h6 m6 o6 HHL6 Hm6 Hown6
        go_wp2_with fail
        refine (ug6 _ _ (w.heap.size + 1) vh5 xs5 u H6.o.pl (by omega) (by simp; omega)).mono ?_
        rintro e w7 hpost
        obtain ⟨rfl, vh7, xs7, hHL7, hmod7, hlies7⟩ := H6.o.push hpost
        have hown7 := uac O6.o hmod7 (fun b hb hs => by
         have h1 := Haw5.o.out b hb
         rcases hs with rfl | hs
         ·omega
         ·exact h1.2 hs)
        have hm7 : Mod (S0 (w.heap.size + 1) (w1.heap.size + 1) vh0) ws w7 := M6.o.trans hmod7 (fun b hb hs => by
         rcases hs with rfl | hs
         ·exact .inr (.inl rfl)
         ·rcases Haw5.o.heap with h | ⟨gg, h, hge⟩
          ·exact .inr (.inr (h ▸ hs))
          ·rw [h] at hs
           have := Option.some.inj hs
           omega)
        have haw7 : Away ws (w.heap.size + 1) vh0 vh7 (.slice (some ⟨go, 0, none⟩) (out.length + 1) co) := by
         rcases hlies7 with hl | ⟨gg, hl, hge⟩
         ·exact ⟨by rw [hl]; exact Haw5.o.heap, fun b hb => ⟨(Haw5.o.out b hb).1, by rw [hl]; exact (Haw5.o.out b hb).2⟩⟩
         ·refine ⟨.inr ⟨gg, hl, by simp at hge; omega⟩, fun b hb => ⟨(Haw5.o.out b hb).1, ?_⟩⟩
          rw [hl]
          intro e
          have h1 := Option.some.inj e
          have h2 := (O6.o.lt b hb).2
          omega
        have hK7 := Ht2.o _ (List.Perm.refl (u :: nx5))
        have HK7 := hd' hK7
        have HHL7 := hd' hHL7
        have Hown7 := hd' hown7
        have Hm7 := hd' hm7
        have Haw7 := hd' haw7
        clear hK7 hHL7 hown7 hm7 haw7 hmod7 hlies7 hpost Ht2
        go_wp2_with fail
        go_roundw
        case rel => exact ⟨t + 1, by go_num, by omega, vh7, xs7, _, _, HHL7.o, by rw [Htk.o]; exact HK7.o, Hown7.o, Hm7.o, Haw7.o⟩
        case measure => simp [intOf]; omega
       ·have ht1 := Htell.o.1 hq
        have hq1 : ((q - 1) == 0) = false := bqf.2 (by omega)
        have Ht1 := hd' ht1
        clear ht1 Htell hq
        go_wp2_with fail
        go_roundw
        case rel => exact ⟨t + 1, by go_num, by omega, vh5, xs5, _, nx5, HHL6.o, by rw [Htk.o]; exact Ht1.o, Hown6.o, Hm6.o, Haw5.o⟩
        case measure => simp [intOf]; omega
      ·obtain rfl : t = row.length := by omega
       have hfin := hK5.finish (fun i hi => ujt g i (by rwa [ubc] at hi)) (fun i hi => by
        rw [ubc] at hi
        rw [List.take_length, uc6 Hu1.o, Hu2.o]
        exact ⟨fun h => h.2, fun h => ⟨hi, h⟩⟩)
       have hl2 : L2 (w.heap.size + 1) (w.heap.size + 1) (w1.heap.size + 1) g.nodes.length (insN g) ws vh0 (.slice (some ⟨go, 0, none⟩) (out.length + 1) co) wr := ⟨out ++ [k], vh5, xs5, lf5, nx5, hHL5, hfin, hown5, hm5, haw5⟩
       have Hl2 := hd' hl2
       clear hl2 hfin hHL5 hK5 hown5 hm5 haw5
       go_wp2_with fail
       go_roundw
       case rel => exact Hl2.o
       case measure => simp [lenV]; omega
end Go.Proofs.YtpbmfalokongfaaGreatDoor
namespace Go.Proofs.YtpbmfalokongfaaGreatDoor
open Go.RowKit Go.Gou
open Classical in
noncomputable def roundB (g : Gr) : Bool := decide (∃ i, i < g.nodes.length ∧ ¬ Done (insN g) i)
theorem round_len {g : Gr} {out : List Nat} (h : IsOrder (insN g) out) : decide (out.length < g.nodes.length) = roundB g := by
 have := h.round
 rw [ubc] at this
 unfold roundB
 rw [decide_eq_decide]
 exact this
theorem round_any (w : World) (v : Value) (g : Gr) (hg : GrV w v g) (hok : GrOk g) :
 Calls Tryz.prog 100 #[v] w fun e w' => e = .returned (.bool (roundB g)) ∧ Below w.heap.size w w' := by
 have Hg := hd' hg
 have Hok := hd' hok
 have hfew := hok.few
 obtain ⟨p, cap, rfl⟩ := hg.form
 clear hg hok
 have hb0 := (Below.refl w.heap.size w).alloc (Nat.le_refl _) (.cells #[.slice p g.nodes.length cap, iV g.out] 40)
 have hlt : w.heap.size < (w.alloc (.cells #[.slice p g.nodes.length cap, iV g.out] 40)).heap.size := by simp
 have hc0 : (w.alloc (.cells #[.slice p g.nodes.length cap, iV g.out] 40)).cell? ⟨w.heap.size, 0, none⟩ = some (.slice p g.nodes.length cap) := by simp [go_sem]
 have hc1 : (w.alloc (.cells #[.slice p g.nodes.length cap, iV g.out] 40)).cell? ⟨w.heap.size, 1, none⟩ = some (iV g.out) := by simp [go_sem]
 go_enter Tryz.func100, Tryz.ntmps100
 go_wp2_with fail
 generalize w.alloc (.cells #[.slice p g.nodes.length cap, iV g.out] 40) = wb at *
 go_region_held3 (fun w' => (Below wb.heap.size wb w' ∧ w'.cell? ⟨w.heap.size, 0, none⟩ = some (.slice p g.nodes.length cap) ∧ w'.cell? ⟨w.heap.size, 1, none⟩ = some (iV g.out)))
     (first
         | exact ⟨(Below.refl _ _).drew, hc0, hc1⟩
         | (obtain ⟨g0, g1, g2⟩ := ‹Below wb.heap.size wb _ ∧ _›; exact ⟨uab g0 (hb3.mono (by omega)), uau g0 hb3 hlt g1, uau g0 hb3 hlt g2⟩))
     (first
         | (go_at_call 106; refine (all_ord _ _ g (Hg.o.up (hb0.trans ((‹Below wb.heap.size wb _ ∧ _›).1.mono (by omega)))) Hok.o).mono ?_; rintro e w3 ⟨v3, out, rfl, hown3, hord, hb3⟩; obtain ⟨p3, c3, rfl⟩ := ownsRow_form hown3; have hle := hord.le; rw [ubc] at hle))
 have hfin := hb0.trans ((‹Below wb.heap.size wb w3 ∧ _›).1.mono (by omega))
 go_wp2
 go_ret
 exact ⟨uaq (round_len hord), hfin⟩
end Go.Proofs.YtpbmfalokongfaaGreatDoor
namespace Go.Proofs.YtpbmfalokongfaaGreatDoor
open Go.RowKit Go.Gou
theorem ubv {x : Int} (h0 : 0 ≤ x) (h1 : x ≤ 255) : IntKind.u8.wrap x = x := by
 simp [IntKind.wrap, IntKind.signed, IntKind.bits]; omega
def ub6 (a b c d : Int) : Bool := decide (a ≤ d) && (decide (b ≤ d) && decide (c ≤ d))
theorem right_any (a b c d : Int) (w : World) :
 Calls Tryz.prog 91 #[.agg #[.int .u8 a, .int .u8 b, .int .u8 c, .int .u8 d]] w fun e w' => e = .returned (.bool (ub6 a b c d)) ∧ Below w.heap.size w w' := by
 go_enter Tryz.func91, Tryz.ntmps91
 go_wp2
 all_goals go_ret
 all_goals refine ⟨uaq ?_, (Below.refl _ _).alloc (Nat.le_refl _) _⟩
 all_goals simp only [ub6]
 all_goals first | (simp; omega) | (simp [*]; done)
def matB (m : List Int) : Bool := decide (m.length = 20) && m.all (uag (-32768) 32767)
theorem ujq (w : World) (v : Value) (xs : List Int) (hx : IntsAt w.heap.size w v xs) (hl : xs.length ≤ maxLen) :
 Calls Tryz.prog 108 #[v] w fun e w' => e = .returned (.bool (matB xs)) ∧ Below w.heap.size w w' := by
 obtain ⟨p, cap, rfl, _, hp⟩ := hx
 unfold maxLen at hl
 by_cases h20 : xs.length = 20
 ·have H20 := hd' h20
  have e20 : ((xs.length : Int) != 20) = false := by rw [h20]; rfl
  have hl20 : xs.length ≤ 20 := by omega
  clear h20
  go_enter Tryz.func108, Tryz.ntmps108
  go_wp2
  go_loop [10] (fun i => ∃ k : Nat, k ≤ xs.length ∧ i = iV k ∧ (xs.take k).all (uag (-32768) 32767) = true) (fun i => xs.length - (intOf i).toNat)
  case atStart => exact ⟨0, Nat.zero_le _, rfl, rfl⟩
  case round =>
   obtain ⟨k, hk, rfl, hall⟩ := hrel
   have Hall := hd' hall
   clear hall
   by_cases hlt : k < xs.length
   ·rcases hp with rfl | ⟨b, o, rfl, hb, hc⟩
    ·simp at hlt
    have hc' := hc k hlt
    clear hc
    have hn : ∀ h : uag (-32768) 32767 xs[k] = false, matB xs = false := by
     intro h
     rw [Bool.eq_false_iff]
     intro hm
     simp only [matB, Bool.and_eq_true, List.all_eq_true] at hm
     have := hm.2 _ (lgM hlt)
     rw [h] at this
     cases this
    have HN := hd' hn
    clear hn
    by_cases h1 : xs[k] < -32768
    ·go_wp2
     go_ret
     exact ⟨uaq (by rw [HN.o (by simp [uag]; omega)]), Below.refl _ _⟩
    ·by_cases h2 : 32767 < xs[k]
     ·go_wp2
      go_ret
      exact ⟨uaq (by rw [HN.o (by simp [uag]; omega)]), Below.refl _ _⟩
     ·go_wp2
      go_round
      case rel => exact ⟨k + 1, by omega, by go_num, by rw [List.all_take_succ _ _ _ hlt, Hall.o]; simp [uag]; omega⟩
      case measure => simp [intOf]; omega
   ·go_wp2
    go_ret
    have : xs.length = k := by omega
    exact ⟨uaq (by unfold matB; rw [← Hall.o, List.take_of_length_le (by omega)]; simp [H20.o]), Below.refl _ _⟩
 ·have e20 : ((xs.length : Int) != 20) = true := by rw [bne_iff_ne]; omega
  have H20 := hd' h20
  clear h20
  go_enter Tryz.func108, Tryz.ntmps108
  go_wp2
  go_ret
  exact ⟨uaq (by simp [matB, H20.o]), Below.refl _ _⟩
def pixB (l : List Int) : Bool := l.all (uag 0 255) && ub6 (l.getD 0 0) (l.getD 1 0) (l.getD 2 0) (l.getD 3 0)
theorem ua5 {lo hi : Int} {l : List Int} (h : l.all (uag lo hi) = true) {i : Nat} (hi' : i < l.length) : lo ≤ l.getD i 0 ∧ l.getD i 0 ≤ hi := by
 rw [List.all_eq_true] at h
 have := h l[i] (lgM hi')
 simp only [uag, Bool.and_eq_true, decide_eq_true_eq] at this
 simpa [List.getD, hi'] using this
theorem uel (w : World) (v : Value) (xs : List Int) (hx : IntsAt w.heap.size w v xs) (hl : xs.length = 4) :
 Calls Tryz.prog 109 #[v] w fun e w' => e = .returned (.bool (pixB xs)) ∧ Below w.heap.size w w' := by
 have hx0 := hx
 obtain ⟨b, o, cap, rfl, hcap, hb, hc⟩ := ubs hx (by omega)
 have Hl := hd' hl
 have hle : xs.length ≤ maxLen := by unfold maxLen; omega
 rw [hl] at hc hx0 ⊢
 clear hl
 cases hall : xs.all (uag 0 255) with
 | false =>
  have Hall := hd' hall
  go_enter Tryz.func109, Tryz.ntmps109
  go_wp2_with fail
  refine (uap _ _ _).mono ?_
  rintro e w1 ⟨fv, rfl, hq, hb1⟩
  have hz1 : w.heap.size ≤ w1.heap.size := hb1.size
  go_wp2_with fail
  refine (ubm w1 _ _ xs _ (hx0.up hb1) (hq.asks xs) hle).mono ?_
  rintro e w2 ⟨rfl, hb2⟩
  go_wp2
  go_ret
  exact ⟨uaq (by simp [pixB, Hall.o]), hb1.trans (hb2.mono hz1)⟩
 | true =>
  have Hall := hd' hall
  go_enter Tryz.func109, Tryz.ntmps109
  go_wp2_with fail
  refine (uap _ _ _).mono ?_
  rintro e w1 ⟨fv, rfl, hq, hb1⟩
  have hz1 : w.heap.size ≤ w1.heap.size := hb1.size
  go_wp2_with fail
  refine (ubm w1 _ _ xs _ (hx0.up hb1) (hq.asks xs) hle).mono ?_
  rintro e w2 ⟨rfl, hb2⟩
  rw [hall]
  have hbw2 : b < w2.heap.size := by have := hb2.size; omega
  have hb12 := hb1.trans (hb2.mono hz1)
  have c0 := hc 0 (by omega)
  have c1 := hc 1 (by omega)
  have c2 := hc 2 (by omega)
  have c3 := hc 3 (by omega)
  rw [← hb12.cell (p := ⟨b, o + 0, none⟩) hb] at c0
  rw [← hb12.cell (p := ⟨b, o + 1, none⟩) hb] at c1
  rw [← hb12.cell (p := ⟨b, o + 2, none⟩) hb] at c2
  rw [← hb12.cell (p := ⟨b, o + 3, none⟩) hb] at c3
  obtain ⟨l0, u0⟩ := ua5 hall (i := 0) (by rw [Hl.o]; omega)
  obtain ⟨l1, u1⟩ := ua5 hall (i := 1) (by rw [Hl.o]; omega)
  obtain ⟨l2, u2⟩ := ua5 hall (i := 2) (by rw [Hl.o]; omega)
  obtain ⟨l3, u3⟩ := ua5 hall (i := 3) (by rw [Hl.o]; omega)
  have Hp : Hid (pixB xs = ub6 (xs.getD 0 0) (xs.getD 1 0) (xs.getD 2 0) (xs.getD 3 0)) := by
   show _ = _
   simp only [pixB, hall, Bool.true_and]
  generalize xs.getD 0 0 = x0 at *
  generalize xs.getD 1 0 = x1 at *
  generalize xs.getD 2 0 = x2 at *
  generalize xs.getD 3 0 = x3 at *
  clear hc hall hx0 hx
  rw [Nat.add_zero] at c0
  go_wp2_with fail
  go_region_held3 (fun w' => Below w.heap.size w w' ∧ w'.cell? ⟨b, o, none⟩ = some (iV x0) ∧ w'.cell? ⟨b, o + 1, none⟩ = some (iV x1) ∧ w'.cell? ⟨b, o + 2, none⟩ = some (iV x2) ∧ w'.cell? ⟨b, o + 3, none⟩ = some (iV x3))
      (first | exact ⟨hb12.drew, c0, c1, c2, c3⟩ | (obtain ⟨g0, g1, g2, g3, g4⟩ := ‹Below w.heap.size w _ ∧ _›; exact ⟨uab g0 hb3, uau g0 hb3 hb g1, uau g0 hb3 hb g2, uau g0 hb3 hb g3, uau g0 hb3 hb g4⟩))
      (first | (go_at_call 91; refine (right_any _ _ _ _ _).mono ?_; rintro e w3 ⟨rfl, hb3⟩))
  go_wp2
  go_ret
  exact ⟨uaq (by rw [Hp.o, ubv l0 u0, ubv l1 u1, ubv l2 u2, ubv l3 u3]), uab hb12.drew hb3⟩
def ujc (l : List Int) : Bool :=
 decide (0 < l.getD 2 0 - l.getD 0 0) && decide (0 < l.getD 3 0 - l.getD 1 0) && decide (l.getD 2 0 - l.getD 0 0 ≤ 4096) && decide (l.getD 3 0 - l.getD 1 0 ≤ 4096)
theorem tile_any (w : World) (v : Value) (xs : List Int) (hx : IntsAt w.heap.size w v xs) (hl : xs.length = 4) (hall : xs.all (uag (-1048576) 1048576) = true) :
 Calls Tryz.prog 110 #[v] w fun e w' => e = .returned (.bool (ujc xs)) ∧ Below w.heap.size w w' := by
 obtain ⟨b, o, cap, rfl, hcap, hb, hc⟩ := ubs hx (by omega)
 have c0 := hc 0 (by omega)
 have c1 := hc 1 (by omega)
 have c2 := hc 2 (by omega)
 have c3 := hc 3 (by omega)
 rw [Nat.add_zero] at c0
 obtain ⟨l0, u0⟩ := ua5 hall (i := 0) (by omega)
 obtain ⟨l1, u1⟩ := ua5 hall (i := 1) (by omega)
 obtain ⟨l2, u2⟩ := ua5 hall (i := 2) (by omega)
 obtain ⟨l3, u3⟩ := ua5 hall (i := 3) (by omega)
 rw [hl]
 clear hc hall hx hl
 unfold ujc
 generalize xs.getD 0 0 = x0 at *
 generalize xs.getD 1 0 = x1 at *
 generalize xs.getD 2 0 = x2 at *
 generalize xs.getD 3 0 = x3 at *
 have e1 : IntKind.i64.wrap (x2 - x0) = x2 - x0 := IntWalk.i64_in _ (by omega)
 have e2 : IntKind.i64.wrap (x3 - x1) = x3 - x1 := IntWalk.i64_in _ (by omega)
 go_enter Tryz.func110, Tryz.ntmps110
 go_wp2
 go_quiet (fail)
 clear e1 e2
 go_wp2
 all_goals go_ret
 all_goals refine ⟨uaq ?_, below_drewN (Below.refl _ _) _⟩
 all_goals first | (simp; omega) | (simp [*]; done)
def ua1 (n : ubb) : Bool :=
 if n.op = 1 ∨ n.op = 12 then n.ps.all (uag (-1048576) 1048576)
 else if n.op = 2 ∨ n.op = 3 ∨ n.op = 4 then n.ps.all (uag 0 255)
 else if n.op = 5 then matB n.ps
 else if n.op = 6 then pixB (n.ps.take 4) && (n.ps.drop 4).all (uag (-1048576) 1048576)
 else if n.op = 7 then n.ps.all (uag 0 6)
 else if n.op = 8 then n.ps.all (uag 0 5)
 else if n.op = 10 then n.ps.all (uag (-1048576) 1048576) && ujc n.ps
 else if n.op = 11 then (n.ps.take 2).all (uag (-1048576) 1048576) && ((n.ps.drop 2).take 2).all (uag 0 255) && pixB (n.ps.drop 4)
 else true
end Go.Proofs.YtpbmfalokongfaaGreatDoor
namespace Go.Proofs.YtpbmfalokongfaaGreatDoor
open Go.RowKit Go.Gou
theorem udv (op : Int) (hop : op = 1 ∨ op = 12) (w : World) (vi vp : Value) (ps : List Int) (hx : IntsAt w.heap.size w vp ps) (hl : ps.length ≤ 100) :
 Calls Tryz.prog 105 #[.agg #[iV op, vi, vp]] w fun e w' => e = .returned (.bool (ps.all (uag (-1048576) 1048576))) ∧ Below w.heap.size w w' := by
 have hle : ps.length ≤ maxLen := by unfold maxLen; omega
 rcases hop with rfl | rfl
 all_goals
     go_enter Tryz.func105, Tryz.ntmps105
     go_wp2_with fail
     refine (uap _ _ _).mono ?_
     rintro e w1 ⟨fv1, rfl, hq1, hb1⟩
     have hz1 : w.heap.size < w1.heap.size := by have := hb1.size; simp at this; omega
     obtain ⟨hc1, _⟩ := ubj hb1
     go_wp2_with fail
     refine (uap _ _ _).mono ?_
     rintro e w2 ⟨fv2, rfl, hq2, hb2⟩
     have hz2 : w.heap.size < w2.heap.size := by have := hb2.size; omega
     obtain ⟨hc2, _⟩ := ubj hb2
     have hb02 := uab ((Below.refl w.heap.size w).alloc (Nat.le_refl _) _) (uab hb1 hb2)
     replace hq1 := hq1.up hb2
     go_wp2_with fail
     refine (ubm w2 _ _ ps _ (hx.up hb02) (hq1.asks ps) hle).mono ?_
     rintro e w3 ⟨rfl, hb3⟩
     go_wp2
     go_ret
     exact ⟨rfl, uab hb02 hb3⟩
theorem ucf (op : Int) (hop : op = 2 ∨ op = 3 ∨ op = 4) (w : World) (vi vp : Value) (ps : List Int) (hx : IntsAt w.heap.size w vp ps) (hl : ps.length ≤ 100) :
 Calls Tryz.prog 105 #[.agg #[iV op, vi, vp]] w fun e w' => e = .returned (.bool (ps.all (uag 0 255))) ∧ Below w.heap.size w w' := by
 have hle : ps.length ≤ maxLen := by unfold maxLen; omega
 rcases hop with rfl | rfl | rfl
 all_goals
     go_enter Tryz.func105, Tryz.ntmps105
     go_wp2_with fail
     refine (uap _ _ _).mono ?_
     rintro e w1 ⟨fv1, rfl, hq1, hb1⟩
     have hz1 : w.heap.size < w1.heap.size := by have := hb1.size; simp at this; omega
     obtain ⟨hc1, _⟩ := ubj hb1
     go_wp2_with fail
     refine (uap _ _ _).mono ?_
     rintro e w2 ⟨fv2, rfl, hq2, hb2⟩
     have hz2 : w.heap.size < w2.heap.size := by have := hb2.size; omega
     obtain ⟨hc2, _⟩ := ubj hb2
     have hb02 := uab ((Below.refl w.heap.size w).alloc (Nat.le_refl _) _) (uab hb1 hb2)
     replace hq1 := hq1.up hb2
     go_wp2_with fail
     refine (ubm w2 _ _ ps _ (hx.up hb02) (hq2.asks ps) hle).mono ?_
     rintro e w3 ⟨rfl, hb3⟩
     go_wp2
     go_ret
     exact ⟨rfl, uab hb02 hb3⟩
theorem ugi (op : Int) (hop : op = 5) (w : World) (vi vp : Value) (ps : List Int) (hx : IntsAt w.heap.size w vp ps) (hl : ps.length ≤ 100) :
 Calls Tryz.prog 105 #[.agg #[iV op, vi, vp]] w fun e w' => e = .returned (.bool (matB ps)) ∧ Below w.heap.size w w' := by
 have hle : ps.length ≤ maxLen := by unfold maxLen; omega
 subst hop
 go_enter Tryz.func105, Tryz.ntmps105
 go_wp2_with fail
 refine (uap _ _ _).mono ?_
 rintro e w1 ⟨fv1, rfl, hq1, hb1⟩
 have hz1 : w.heap.size < w1.heap.size := by have := hb1.size; simp at this; omega
 obtain ⟨hc1, _⟩ := ubj hb1
 go_wp2_with fail
 refine (uap _ _ _).mono ?_
 rintro e w2 ⟨fv2, rfl, hq2, hb2⟩
 have hz2 : w.heap.size < w2.heap.size := by have := hb2.size; omega
 obtain ⟨hc2, _⟩ := ubj hb2
 have hb02 := uab ((Below.refl w.heap.size w).alloc (Nat.le_refl _) _) (uab hb1 hb2)
 replace hq1 := hq1.up hb2
 go_wp2_with fail
 refine (ujq w2 _ ps (hx.up hb02) hle).mono ?_
 rintro e w3 ⟨rfl, hb3⟩
 go_wp2
 go_ret
 exact ⟨rfl, uab hb02 hb3⟩
theorem uhj (op : Int) (hop : op = 6) (w : World) (vi vp : Value) (ps : List Int) (hx : IntsAt w.heap.size w vp ps) (hl8 : ps.length = 8) :
 Calls Tryz.prog 105 #[.agg #[iV op, vi, vp]] w fun e w' => e = .returned (.bool (pixB (ps.take 4) && (ps.drop 4).all (uag (-1048576) 1048576))) ∧ Below w.heap.size w w' := by
 have hle : ps.length ≤ maxLen := by unfold maxLen; omega
 subst hop
 obtain ⟨b, o, cap, rfl, hcap, hb, _⟩ := ubs hx (by omega)
 have hx4 := hx.part 0 4 cap (by omega) (by omega) (by omega)
 have hx8 := hx.part 4 4 (cap - 4) (by omega) (by omega) (by omega)
 simp only [List.drop_zero, Nat.add_zero] at hx4
 rw [List.take_of_length_le (by simp; omega)] at hx8
 have hcap' : 8 ≤ cap := by omega
 have hne : ¬ (4 = cap) := by omega
 have hl4 : (ps.take 4).length = 4 := by simp; omega
 have hm4 : (ps.drop 4).length ≤ maxLen := by unfold maxLen; simp; omega
 rw [hl8]
 have Hl4 := hd' hl4
 have Hm4 := hd' hm4
 clear hl8 hcap hl4 hm4 hx hle
 generalize ps.take 4 = p4 at *
 generalize ps.drop 4 = p8 at *
 cases hp4 : pixB p4 with
 | false =>
  have Hp4 := hd' hp4
  clear hp4
  go_enter Tryz.func105, Tryz.ntmps105
  go_wp2_with fail
  refine (uap _ _ _).mono ?_
  rintro e w1 ⟨fv1, rfl, hq1, hb1⟩
  have hz1 : w.heap.size < w1.heap.size := by have := hb1.size; simp at this; omega
  obtain ⟨hc1, _⟩ := ubj hb1
  go_wp2_with fail
  refine (uap _ _ _).mono ?_
  rintro e w2 ⟨fv2, rfl, hq2, hb2⟩
  have hz2 : w.heap.size < w2.heap.size := by have := hb2.size; omega
  obtain ⟨hc2, _⟩ := ubj hb2
  have hb02 := uab ((Below.refl w.heap.size w).alloc (Nat.le_refl _) _) (uab hb1 hb2)
  replace hq1 := hq1.up hb2
  go_wp2_with fail
  refine (uel w2 _ p4 (hx4.up hb02) Hl4.o).mono ?_
  rintro e w3 ⟨rfl, hb3⟩
  rw [Hp4.o]
  go_wp2
  go_ret
  exact ⟨rfl, uab hb02 hb3⟩
 | true =>
  have Hp4 := hd' hp4
  clear hp4
  go_enter Tryz.func105, Tryz.ntmps105
  go_wp2_with fail
  refine (uap _ _ _).mono ?_
  rintro e w1 ⟨fv1, rfl, hq1, hb1⟩
  have hz1 : w.heap.size < w1.heap.size := by have := hb1.size; simp at this; omega
  obtain ⟨hc1, _⟩ := ubj hb1
  go_wp2_with fail
  refine (uap _ _ _).mono ?_
  rintro e w2 ⟨fv2, rfl, hq2, hb2⟩
  have hz2 : w.heap.size < w2.heap.size := by have := hb2.size; omega
  obtain ⟨hc2, _⟩ := ubj hb2
  have hb02 := uab ((Below.refl w.heap.size w).alloc (Nat.le_refl _) _) (uab hb1 hb2)
  replace hq1 := hq1.up hb2
  go_wp2_with fail
  refine (uel w2 _ p4 (hx4.up hb02) Hl4.o).mono ?_
  rintro e w3 ⟨rfl, hb3⟩
  rw [Hp4.o]
  have hz3 : w.heap.size < w3.heap.size := by have := hb3.size; omega
  have hb03 := uab hb02 hb3
  obtain ⟨hc3, _⟩ := ubj hb3
  go_wp2_with fail
  refine (ubm w3 _ _ p8 _ (hx8.up hb03) ((hq1.up hb3).asks p8) Hm4.o).mono ?_
  rintro e w4 ⟨rfl, hb4⟩
  go_wp2
  go_ret
  exact ⟨rfl, uab hb03 hb4⟩
theorem uhk (op : Int) (hop : op = 7) (w : World) (vi vp : Value) (ps : List Int) (hx : IntsAt w.heap.size w vp ps) (hl : ps.length ≤ 100) :
 Calls Tryz.prog 105 #[.agg #[iV op, vi, vp]] w fun e w' => e = .returned (.bool (ps.all (uag 0 6))) ∧ Below w.heap.size w w' := by
 have hle : ps.length ≤ maxLen := by unfold maxLen; omega
 subst hop
 go_enter Tryz.func105, Tryz.ntmps105
 go_wp2_with fail
 refine (uap _ _ _).mono ?_
 rintro e w1 ⟨fv1, rfl, hq1, hb1⟩
 have hz1 : w.heap.size < w1.heap.size := by have := hb1.size; simp at this; omega
 obtain ⟨hc1, _⟩ := ubj hb1
 go_wp2_with fail
 refine (uap _ _ _).mono ?_
 rintro e w2 ⟨fv2, rfl, hq2, hb2⟩
 have hz2 : w.heap.size < w2.heap.size := by have := hb2.size; omega
 obtain ⟨hc2, _⟩ := ubj hb2
 have hb02 := uab ((Below.refl w.heap.size w).alloc (Nat.le_refl _) _) (uab hb1 hb2)
 replace hq1 := hq1.up hb2
 go_wp2_with fail
 have hcp : w2.cell? ⟨w.heap.size, 2, none⟩ = some vp := by rw [hc2 _ _ (by omega), hc1 _ _ (by simp)]; simp [go_sem]
 go_region_held3 (fun w' => (Below w2.heap.size w2 w' ∧ w'.cell? ⟨w.heap.size, 2, none⟩ = some vp))
     (first
         | exact ⟨(Below.refl _ _).drew, hcp⟩
         | (obtain ⟨g0, g1⟩ := ‹Below w2.heap.size w2 _ ∧ _›; exact ⟨uab g0 hb3, uau g0 hb3 hz2 g1⟩)
         | (obtain ⟨g0, g1⟩ := ‹Below w2.heap.size w2 _ ∧ _›; exact ⟨uab g0 hb4, uau g0 hb4 hz2 g1⟩))
     (first
         | (go_at_call 107; refine (uap _ _ _).mono ?_; rintro e w3 ⟨fv3, rfl, hq3, hb3⟩)
         | (go_at_call 103; refine (ubm _ _ _ ps _ ?_ (hq3.asks ps) hle).mono ?_; (exact hx.up (uab hb02 (‹Below w2.heap.size w2 _ ∧ _›).1)); rintro e w4 ⟨rfl, hb4⟩))
 go_wp2
 go_ret
 exact ⟨rfl, uab hb02 (‹Below w2.heap.size w2 _ ∧ _›).1⟩
theorem ufh (op : Int) (hop : op = 8) (w : World) (vi vp : Value) (ps : List Int) (hx : IntsAt w.heap.size w vp ps) (hl : ps.length ≤ 100) :
 Calls Tryz.prog 105 #[.agg #[iV op, vi, vp]] w fun e w' => e = .returned (.bool (ps.all (uag 0 5))) ∧ Below w.heap.size w w' := by
 have hle : ps.length ≤ maxLen := by unfold maxLen; omega
 subst hop
 go_enter Tryz.func105, Tryz.ntmps105
 go_wp2_with fail
 refine (uap _ _ _).mono ?_
 rintro e w1 ⟨fv1, rfl, hq1, hb1⟩
 have hz1 : w.heap.size < w1.heap.size := by have := hb1.size; simp at this; omega
 obtain ⟨hc1, _⟩ := ubj hb1
 go_wp2_with fail
 refine (uap _ _ _).mono ?_
 rintro e w2 ⟨fv2, rfl, hq2, hb2⟩
 have hz2 : w.heap.size < w2.heap.size := by have := hb2.size; omega
 obtain ⟨hc2, _⟩ := ubj hb2
 have hb02 := uab ((Below.refl w.heap.size w).alloc (Nat.le_refl _) _) (uab hb1 hb2)
 replace hq1 := hq1.up hb2
 go_wp2_with fail
 have hcp : w2.cell? ⟨w.heap.size, 2, none⟩ = some vp := by rw [hc2 _ _ (by omega), hc1 _ _ (by simp)]; simp [go_sem]
 go_region_held3 (fun w' => (Below w2.heap.size w2 w' ∧ w'.cell? ⟨w.heap.size, 2, none⟩ = some vp))
     (first
         | exact ⟨(Below.refl _ _).drew, hcp⟩
         | (obtain ⟨g0, g1⟩ := ‹Below w2.heap.size w2 _ ∧ _›; exact ⟨uab g0 hb3, uau g0 hb3 hz2 g1⟩)
         | (obtain ⟨g0, g1⟩ := ‹Below w2.heap.size w2 _ ∧ _›; exact ⟨uab g0 hb4, uau g0 hb4 hz2 g1⟩))
     (first
         | (go_at_call 107; refine (uap _ _ _).mono ?_; rintro e w3 ⟨fv3, rfl, hq3, hb3⟩)
         | (go_at_call 103; refine (ubm _ _ _ ps _ ?_ (hq3.asks ps) hle).mono ?_; (exact hx.up (uab hb02 (‹Below w2.heap.size w2 _ ∧ _›).1)); rintro e w4 ⟨rfl, hb4⟩))
 go_wp2
 go_ret
 exact ⟨rfl, uab hb02 (‹Below w2.heap.size w2 _ ∧ _›).1⟩
theorem uii (op : Int) (hop : op = 10) (w : World) (vi vp : Value) (ps : List Int) (hx : IntsAt w.heap.size w vp ps) (hl4 : ps.length = 4) :
 Calls Tryz.prog 105 #[.agg #[iV op, vi, vp]] w fun e w' => e = .returned (.bool (ps.all (uag (-1048576) 1048576) && ujc ps)) ∧ Below w.heap.size w w' := by
 have hle : ps.length ≤ maxLen := by unfold maxLen; omega
 subst hop
 have Hl4 := hd' hl4
 clear hl4
 cases hp4 : ps.all (uag (-1048576) 1048576) with
 | false =>
  have Hp4 := hd' hp4
  clear hp4
  go_enter Tryz.func105, Tryz.ntmps105
  go_wp2_with fail
  refine (uap _ _ _).mono ?_
  rintro e w1 ⟨fv1, rfl, hq1, hb1⟩
  have hz1 : w.heap.size < w1.heap.size := by have := hb1.size; simp at this; omega
  obtain ⟨hc1, _⟩ := ubj hb1
  go_wp2_with fail
  refine (uap _ _ _).mono ?_
  rintro e w2 ⟨fv2, rfl, hq2, hb2⟩
  have hz2 : w.heap.size < w2.heap.size := by have := hb2.size; omega
  obtain ⟨hc2, _⟩ := ubj hb2
  have hb02 := uab ((Below.refl w.heap.size w).alloc (Nat.le_refl _) _) (uab hb1 hb2)
  replace hq1 := hq1.up hb2
  go_wp2_with fail
  refine (ubm w2 _ _ ps _ (hx.up hb02) (hq1.asks ps) hle).mono ?_
  rintro e w3 ⟨rfl, hb3⟩
  rw [Hp4.o]
  go_wp2
  go_ret
  exact ⟨rfl, uab hb02 hb3⟩
 | true =>
  have Hp4 := hd' hp4
  clear hp4
  go_enter Tryz.func105, Tryz.ntmps105
  go_wp2_with fail
  refine (uap _ _ _).mono ?_
  rintro e w1 ⟨fv1, rfl, hq1, hb1⟩
  have hz1 : w.heap.size < w1.heap.size := by have := hb1.size; simp at this; omega
  obtain ⟨hc1, _⟩ := ubj hb1
  go_wp2_with fail
  refine (uap _ _ _).mono ?_
  rintro e w2 ⟨fv2, rfl, hq2, hb2⟩
  have hz2 : w.heap.size < w2.heap.size := by have := hb2.size; omega
  obtain ⟨hc2, _⟩ := ubj hb2
  have hb02 := uab ((Below.refl w.heap.size w).alloc (Nat.le_refl _) _) (uab hb1 hb2)
  replace hq1 := hq1.up hb2
  go_wp2_with fail
  refine (ubm w2 _ _ ps _ (hx.up hb02) (hq1.asks ps) hle).mono ?_
  rintro e w3 ⟨rfl, hb3⟩
  rw [Hp4.o]
  have hz3 : w.heap.size < w3.heap.size := by have := hb3.size; omega
  have hb03 := uab hb02 hb3
  obtain ⟨hc3, _⟩ := ubj hb3
  go_wp2_with fail
  refine (tile_any w3 _ ps (hx.up hb03) Hl4.o Hp4.o).mono ?_
  rintro e w4 ⟨rfl, hb4⟩
  go_wp2
  go_ret
  exact ⟨rfl, uab hb03 hb4⟩
theorem ugh (op : Int) (hop : op = 11) (w : World) (vi vp : Value) (ps : List Int) (hx : IntsAt w.heap.size w vp ps) (hl8 : ps.length = 8) :
 Calls Tryz.prog 105 #[.agg #[iV op, vi, vp]] w fun e w' => e = .returned (.bool ((ps.take 2).all (uag (-1048576) 1048576) && ((ps.drop 2).take 2).all (uag 0 255) && pixB (ps.drop 4))) ∧ Below w.heap.size w w' := by
 have hle : ps.length ≤ maxLen := by unfold maxLen; omega
 subst hop
 obtain ⟨b, o, cap, rfl, hcap, hb, _⟩ := ubs hx (by omega)
 have hx2 := hx.part 0 2 cap (by omega) (by omega) (by omega)
 have hx4 := hx.part 2 2 (cap - 2) (by omega) (by omega) (by omega)
 have hx8 := hx.part 4 4 (cap - 4) (by omega) (by omega) (by omega)
 simp only [List.drop_zero, Nat.add_zero] at hx2
 rw [List.take_of_length_le (by simp; omega)] at hx8
 have hcap' : 8 ≤ cap := by omega
 have hne : ¬ (4 = cap) := by omega
 have hne2 : ¬ (2 = cap) := by omega
 have hl2 : (ps.take 2).length ≤ maxLen := by unfold maxLen; simp; omega
 have hl4 : ((ps.drop 2).take 2).length ≤ maxLen := by unfold maxLen; simp; omega
 have hm4 : (ps.drop 4).length = 4 := by simp; omega
 rw [hl8]
 have Hl2 := hd' hl2
 have Hl4 := hd' hl4
 have Hm4 := hd' hm4
 clear hl8 hcap hl2 hl4 hm4 hx hle
 generalize ps.take 2 = p2 at *
 generalize (ps.drop 2).take 2 = p4 at *
 generalize ps.drop 4 = p8 at *
 cases hp2 : p2.all (uag (-1048576) 1048576) with
 | false =>
  have Hp2 := hd' hp2
  clear hp2
  go_enter Tryz.func105, Tryz.ntmps105
  go_wp2_with fail
  refine (uap _ _ _).mono ?_
  rintro e w1 ⟨fv1, rfl, hq1, hb1⟩
  have hz1 : w.heap.size < w1.heap.size := by have := hb1.size; simp at this; omega
  obtain ⟨hc1, _⟩ := ubj hb1
  go_wp2_with fail
  refine (uap _ _ _).mono ?_
  rintro e w2 ⟨fv2, rfl, hq2, hb2⟩
  have hz2 : w.heap.size < w2.heap.size := by have := hb2.size; omega
  obtain ⟨hc2, _⟩ := ubj hb2
  have hb02 := uab ((Below.refl w.heap.size w).alloc (Nat.le_refl _) _) (uab hb1 hb2)
  replace hq1 := hq1.up hb2
  go_wp2_with fail
  refine (ubm w2 _ _ p2 _ (hx2.up hb02) (hq1.asks p2) Hl2.o).mono ?_
  rintro e w3 ⟨rfl, hb3⟩
  rw [Hp2.o]
  go_wp2
  go_ret
  exact ⟨rfl, uab hb02 hb3⟩
 | true =>
  have Hp2 := hd' hp2
  clear hp2
  cases hp4 : p4.all (uag 0 255) with
  | false =>
   have Hp4 := hd' hp4
   clear hp4
   go_enter Tryz.func105, Tryz.ntmps105
   go_wp2_with fail
   refine (uap _ _ _).mono ?_
   rintro e w1 ⟨fv1, rfl, hq1, hb1⟩
   have hz1 : w.heap.size < w1.heap.size := by have := hb1.size; simp at this; omega
   obtain ⟨hc1, _⟩ := ubj hb1
   go_wp2_with fail
   refine (uap _ _ _).mono ?_
   rintro e w2 ⟨fv2, rfl, hq2, hb2⟩
   have hz2 : w.heap.size < w2.heap.size := by have := hb2.size; omega
   obtain ⟨hc2, _⟩ := ubj hb2
   have hb02 := uab ((Below.refl w.heap.size w).alloc (Nat.le_refl _) _) (uab hb1 hb2)
   replace hq1 := hq1.up hb2
   go_wp2_with fail
   refine (ubm w2 _ _ p2 _ (hx2.up hb02) (hq1.asks p2) Hl2.o).mono ?_
   rintro e w3 ⟨rfl, hb3⟩
   rw [Hp2.o]
   have hz3 : w.heap.size < w3.heap.size := by have := hb3.size; omega
   have hb03 := uab hb02 hb3
   obtain ⟨hc3, _⟩ := ubj hb3
   go_wp2_with fail
   refine (ubm w3 _ _ p4 _ (hx4.up hb03) ((hq2.up hb3).asks p4) Hl4.o).mono ?_
   rintro e w4 ⟨rfl, hb4⟩
   rw [Hp4.o]
   go_wp2
   go_ret
   exact ⟨rfl, uab hb03 hb4⟩
  | true =>
   have Hp4 := hd' hp4
   clear hp4
   go_enter Tryz.func105, Tryz.ntmps105
   go_wp2_with fail
   refine (uap _ _ _).mono ?_
   rintro e w1 ⟨fv1, rfl, hq1, hb1⟩
   have hz1 : w.heap.size < w1.heap.size := by have := hb1.size; simp at this; omega
   obtain ⟨hc1, _⟩ := ubj hb1
   go_wp2_with fail
   refine (uap _ _ _).mono ?_
   rintro e w2 ⟨fv2, rfl, hq2, hb2⟩
   have hz2 : w.heap.size < w2.heap.size := by have := hb2.size; omega
   obtain ⟨hc2, _⟩ := ubj hb2
   have hb02 := uab ((Below.refl w.heap.size w).alloc (Nat.le_refl _) _) (uab hb1 hb2)
   replace hq1 := hq1.up hb2
   go_wp2_with fail
   refine (ubm w2 _ _ p2 _ (hx2.up hb02) (hq1.asks p2) Hl2.o).mono ?_
   rintro e w3 ⟨rfl, hb3⟩
   rw [Hp2.o]
   have hz3 : w.heap.size < w3.heap.size := by have := hb3.size; omega
   have hb03 := uab hb02 hb3
   obtain ⟨hc3, _⟩ := ubj hb3
   go_wp2_with fail
   refine (ubm w3 _ _ p4 _ (hx4.up hb03) ((hq2.up hb3).asks p4) Hl4.o).mono ?_
   rintro e w4 ⟨rfl, hb4⟩
   rw [Hp4.o]
   have hz4 : w.heap.size < w4.heap.size := by have := hb4.size; omega
   have hb04 := uab hb03 hb4
   obtain ⟨hc4, _⟩ := ubj hb4
   go_wp2_with fail
   refine (uel w4 _ p8 (hx8.up hb04) Hm4.o).mono ?_
   rintro e w5 ⟨rfl, hb5⟩
   go_wp2
   go_ret
   exact ⟨rfl, uab hb04 hb5⟩
theorem uhi (op : Int) (hop : op = 9) (w : World) (vi vp : Value) (ps : List Int) (hx : IntsAt w.heap.size w vp ps) (hl : ps.length ≤ 100) :
 Calls Tryz.prog 105 #[.agg #[iV op, vi, vp]] w fun e w' => e = .returned (.bool (true)) ∧ Below w.heap.size w w' := by
 subst hop
 go_enter Tryz.func105, Tryz.ntmps105
 go_wp2_with fail
 refine (uap _ _ _).mono ?_
 rintro e w1 ⟨fv1, rfl, hq1, hb1⟩
 have hz1 : w.heap.size < w1.heap.size := by have := hb1.size; simp at this; omega
 obtain ⟨hc1, _⟩ := ubj hb1
 go_wp2_with fail
 refine (uap _ _ _).mono ?_
 rintro e w2 ⟨fv2, rfl, hq2, hb2⟩
 have hz2 : w.heap.size < w2.heap.size := by have := hb2.size; omega
 obtain ⟨hc2, _⟩ := ubj hb2
 have hb02 := uab ((Below.refl w.heap.size w).alloc (Nat.le_refl _) _) (uab hb1 hb2)
 replace hq1 := hq1.up hb2
 go_wp2
 go_ret
 exact ⟨rfl, hb02⟩
theorem ufu (w : World) (vi vp : Value) (n : ubb) (hx : IntsAt w.heap.size w vp n.ps) (hok : (ofS n.op).2 = true) (hl : (n.ps.length : Int) = (ofS n.op).1.2.2) :
 Calls Tryz.prog 105 #[.agg #[iV n.op, vi, vp]] w fun e w' => e = .returned (.bool (ua1 n)) ∧ Below w.heap.size w w' := by
 obtain ⟨op, ins, ps⟩ := n
 dsimp only at hx hok hl ⊢
 have hcases : op = 1 ∨ op = 2 ∨ op = 3 ∨ op = 4 ∨ op = 5 ∨ op = 6 ∨ op = 7 ∨ op = 8 ∨ op = 9 ∨ op = 10 ∨ op = 11 ∨ op = 12 := by
  apply Classical.byContradiction
  intro hn
  simp only [not_or] at hn
  obtain ⟨h1, h2, h3, h4, h5, h6, h7, h8, h9, h10, h11, h12⟩ := hn
  simp [ofS, h1, h2, h3, h4, h5, h6, h7, h8, h9, h10, h11, h12] at hok
 rcases hcases with rfl | rfl | rfl | rfl | rfl | rfl | rfl | rfl | rfl | rfl | rfl | rfl
 all_goals simp [ofS] at hl
 ·have := udv 1 (.inl rfl) w vi vp ps hx (by omega)
  simpa [ua1] using this
 ·have := ucf 2 (by omega) w vi vp ps hx (by omega)
  simpa [ua1] using this
 ·have := ucf 3 (by omega) w vi vp ps hx (by omega)
  simpa [ua1] using this
 ·have := ucf 4 (by omega) w vi vp ps hx (by omega)
  simpa [ua1] using this
 ·have := ugi 5 rfl w vi vp ps hx (by omega)
  simpa [ua1] using this
 ·have := uhj 6 rfl w vi vp ps hx (by omega)
  simpa [ua1] using this
 ·have := uhk 7 rfl w vi vp ps hx (by omega)
  simpa [ua1] using this
 ·have := ufh 8 rfl w vi vp ps hx (by omega)
  simpa [ua1] using this
 ·have := uhi 9 rfl w vi vp ps hx (by simp [hl])
  simpa [ua1] using this
 ·have := uii 10 rfl w vi vp ps hx (by omega)
  simpa [ua1] using this
 ·have := ugh 11 rfl w vi vp ps hx (by omega)
  simpa [ua1] using this
 ·have := udv 12 (.inr rfl) w vi vp ps hx (by omega)
  simpa [ua1] using this
end Go.Proofs.YtpbmfalokongfaaGreatDoor
