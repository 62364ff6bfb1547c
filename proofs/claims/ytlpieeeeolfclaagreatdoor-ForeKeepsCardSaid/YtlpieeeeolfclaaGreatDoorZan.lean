/- Texts of the scenes' proofs, laid together: Set, NodeA, OrdA, OrdB, Kahn, OrdC, OrdD, OrdE, NodeB, NodeC, NodeD, Check. -/
import Derived.Test.YtlpieeeeolfclaaGreatDoorZab
import Derived.Maps.OwnOps
import Derived.Maps.OwnSet
import Derived.Deep.AppendLies
import Derived.Test.YtlpieeeeolfclaaGreatDoorRows
import Derived.Test.YtlpieeeeolfclaaGreatDoorZaa
import Derived.Deep.RegionHeld3
import Derived.Deep.DeepFit
import Derived.Test.YtlpieeeeolfclaaGreatDoorZam
import Derived.WalkMore
import Derived.ScopeJumps
set_option linter.unusedSimpArgs false
set_option linter.unusedVariables false
set_option linter.unusedSectionVars false
set_option linter.constructorNameAsVariable false

/- Plain words on memory: a map from ints to bools, made by the call, that says which ints are in a set. -/
namespace Go.Gou
open Go.RowKit Go.Maps Go.MapKept Go.WideShapes
open Go.WideElems (Fit rd rg pl)

def IntSet (P : Program) (k e : TypeId) (w : World) (b n : Nat) (S : List Int) : Prop :=
  ∃ D : DataW Unit, w.ownsMap P k (plainElem P e) b n D ∧ ∀ x, D.atKey (.int .i64 x) (.lit (.bool false)) = .lit (.bool (decide (x ∈ S)))

theorem IntSet.made (P : Program) (k e : TypeId) (w : World) : IntSet P k e (w.alloc (.map #[] 0)) w.heap.size 0 [] :=
  ⟨.map [], World.ownsMap_made w P k _, fun x => by simp [DataW.atKey]⟩

theorem keyOf_int {P : Program} {k : TypeId} (hk : P.underlying k = some (.int .i64)) {x : Int} (hx : (Lit.int .i64 x).wf = true) : keyOf P k (.int .i64 x) = some (.int .i64 x) := by
  exact keyOf_int_mk hk hx

theorem IntSet.look {P : Program} {k e t : TypeId} {w : World} {b n : Nat} {S : List Int} (h : IntSet P k e w b n S) (hk : P.underlying k = some (.int .i64)) (he : P.underlying e = some .bool)
    (ht : P.underlying t = some (.map k e)) (hz : (zeroValue e).run P w = .ok (.bool false) w) {x : Int} (hx : (Lit.int .i64 x).wf = true) :
    (Instr.lookup t (.map (some b)) (.int .i64 x) false).run P w = .ok (.bool (decide (x ∈ S))) w := by
  obtain ⟨D, hown, hat⟩ := h
  have hat := hat x
  obtain ⟨es, clock, hb, F, _, rfl⟩ := hown
  rcases Maps.fit_look false (int_keyed hk) ht hz hb F (keyOf_int hk hx) with ⟨hrun, _, ha⟩ | ⟨e0, y, _, _, hrun, hRv, ha, _⟩
  · rw [ha] at hat
    simp only [DataW.lit.injEq, Lit.bool.injEq] at hat
    rw [hrun, ← hat]
    rfl
  · rw [ha] at hat
    rw [hrun]
    unfold plainElem at hRv
    rw [he] at hRv
    cases hv : e0.val <;> rw [hv] at hRv <;> simp at hRv
    subst hRv
    simp only [DataW.lit.injEq, Lit.bool.injEq] at hat
    subst hat
    simp

theorem IntSet.put {P : Program} {k e : TypeId} {w : World} {b n : Nat} {S : List Int} {D : DataW Unit} {x : Int} (hm : IsMap D)
    (hat : ∀ x, D.atKey (.int .i64 x) (.lit (.bool false)) = .lit (.bool (decide (x ∈ S)))) (h : w.ownsMap P k (plainElem P e) b n (D.put (.int .i64 x) (.lit (.bool true)))) : IntSet P k e w b n (S ++ [x]) := by
  refine ⟨_, h, fun y => ?_⟩
  by_cases e : y = x
  · subst e
    rw [atKey_put_same hm (by simp [WideAt.IsKeyLit])]
    simp
  · rw [atKey_put_other (by simp [e]), hat]
    simp [e]

theorem IntSet.mod {P : Program} {k e : TypeId} {w w' : World} {b n : Nat} {S : List Int} {M : Nat → Prop} (h : IntSet P k e w b n S) (hm : Mod M w w') (hs : ¬ M b) : IntSet P k e w' b n S := by
  obtain ⟨D, ⟨es, clock, hb, r⟩, hat⟩ := h
  have hlt : b < w.heap.size := (Array.getElem?_eq_some_iff.1 hb).1
  exact ⟨D, ⟨es, clock, by rw [hm.block b hlt hs]; exact hb, r⟩, hat⟩

theorem IntSet.mono {P : Program} {k e : TypeId} {w : World} {b n n' : Nat} {S : List Int} (h : IntSet P k e w b n S) (hn : n ≤ n') : IntSet P k e w b n' S := by
  obtain ⟨D, ho, hat⟩ := h
  exact ⟨D, ho.mono hn, hat⟩

theorem IntSet.lt {P : Program} {k e : TypeId} {w : World} {b n : Nat} {S : List Int} (h : IntSet P k e w b n S) : b < w.heap.size := by
  obtain ⟨D, ⟨es, clock, hb, r⟩, hat⟩ := h
  exact (Array.getElem?_eq_some_iff.1 hb).1

end Go.Gou

/- The parts of the node check, each function once: what it answers, and that nothing that was there has turned. -/
namespace Go.Proofs.YtlpieeeeolfclaaGreatDoor
open Go.RowKit Go.Gou

theorem ret_bool {a b : Bool} (h : a = b) : Ending.returned (.bool a) = .returned (.bool b) := by rw [h]

def ofS (op : Int) : (Int × Int × Int) × Bool :=
  if op = 1 then ((1, 1, 2), true) else if op = 2 then ((1, 1, 2), true) else if op = 3 then ((1, 1, 2), true) else if op = 4 then ((1, 1, 2), true)
  else if op = 5 then ((1, 1, 20), true) else if op = 6 then ((0, 0, 8), true) else if op = 7 then ((2, 2, 1), true) else if op = 8 then ((2, 2, 1), true)
  else if op = 9 then ((1, 8, 0), true) else if op = 10 then ((1, 1, 4), true) else if op = 11 then ((1, 1, 8), true) else if op = 12 then ((1, 1, 4), true)
  else ((0, 0, 0), false)

abbrev ofV (op : Int) : Value := .tuple #[.agg #[.int .i64 (ofS op).1.1, .int .i64 (ofS op).1.2.1, .int .i64 (ofS op).1.2.2], .bool (ofS op).2]

def withinB (lo hi n : Int) : Bool := decide (lo ≤ n) && decide (n ≤ hi)

/-- A function value that answers, of each number of a list, in whatever world lies above w, as q does, and turns nothing. -/
def Asks (B : Nat) (w : World) (v : Value) (xs : List Int) (q : Int → Bool) : Prop :=
  ∃ (f : FuncId) (caps : Array Value), v = .func (.func f) #[] caps ∧ (∀ (args : Array Value) (w' : World), (callFunc f args).run Tryz.prog w' = .ok (.enter f args) w') ∧ ∀ (w' : World) (n : Int), n ∈ xs → Below B w w' →
    Calls Tryz.prog f (#[.int .i64 n] ++ caps) w' fun e w'' => e = .returned (.bool (q n)) ∧ Below w'.heap.size w' w''

theorem List.all_take_succ {α : Type} (l : List α) (q : α → Bool) (k : Nat) (h : k < l.length) : (l.take (k + 1)).all q = ((l.take k).all q && q l[k]) := by
  rw [List.take_succ_eq_append_getElem h, List.all_append]; simp

end Go.Proofs.YtlpieeeeolfclaaGreatDoor

/- order.inputs: a node's inputs that are nodes, each once. -/
set_option maxRecDepth 100000
namespace Go.Proofs.YtlpieeeeolfclaaGreatDoor
open Go.RowKit Go.Gou

def okIn (n : Nat) (acc : List Int) (k : Int) : Bool := decide (0 ≤ k) && decide (k < n) && !decide (k ∈ acc)
def insStep (n : Nat) (acc : List Int) (k : Int) : List Int := if okIn n acc k = true then acc ++ [k] else acc
/-- A node's inputs that are nodes, each once, in the order in which they come. -/
def insL (n : Nat) (l : List Int) : List Int := l.foldl (insStep n) []

theorem insL_succ (n : Nat) (l : List Int) (k : Nat) (h : k < l.length) : insL n (l.take (k + 1)) = insStep n (insL n (l.take k)) l[k] := by
  unfold insL
  rw [List.take_succ_eq_append_getElem h, List.foldl_append]
  rfl

theorem insStep_len (n : Nat) (acc : List Int) (k : Int) : (insStep n acc k).length ≤ acc.length + 1 := by
  unfold insStep
  split <;> simp

theorem insL_len (n : Nat) (l : List Int) (k : Nat) : (insL n (l.take k)).length ≤ k := by
  induction k with
  | zero => simp [insL]
  | succ k ih =>
    by_cases h : k < l.length
    · rw [insL_succ n l k h]
      have := insStep_len n (insL n (l.take k)) l[k]
      omega
    · rw [List.take_of_length_le (by omega), ← List.take_of_length_le (show l.length ≤ k by omega)]
      omega

/-- What stands in it: each once, and just the inputs that are nodes. -/
theorem insL_nodup (n : Nat) (l : List Int) : (insL n l).Nodup ∧ ∀ x, x ∈ insL n l ↔ x ∈ l ∧ 0 ≤ x ∧ x < n := by
  suffices ∀ (l acc : List Int), acc.Nodup → (l.foldl (insStep n) acc).Nodup ∧ ∀ x, x ∈ l.foldl (insStep n) acc ↔ x ∈ acc ∨ (x ∈ l ∧ 0 ≤ x ∧ x < n) by
    have := this l [] (by simp)
    simpa [insL] using this
  intro l
  induction l with
  | nil => intro acc h; simpa using h
  | cons a l ih =>
    intro acc h
    have hs : (insStep n acc a).Nodup ∧ ∀ x, x ∈ insStep n acc a ↔ x ∈ acc ∨ (x = a ∧ 0 ≤ x ∧ x < n) := by
      unfold insStep
      split
      · rename_i hk
        simp only [okIn, Bool.and_eq_true, decide_eq_true_eq, Bool.not_eq_true', decide_eq_false_iff_not] at hk
        refine ⟨?_, fun x => ?_⟩
        · rw [List.nodup_append]
          exact ⟨h, by simp, fun y hy z hz e => hk.2 (by simp at hz; rw [← hz, ← e]; exact hy)⟩
        · simp only [List.mem_append, List.mem_singleton]
          constructor
          · rintro (h | rfl)
            · exact .inl h
            · exact .inr ⟨rfl, hk.1.1, hk.1.2⟩
          · rintro (h | ⟨rfl, _⟩)
            · exact .inl h
            · exact .inr rfl
      · rename_i hk
        refine ⟨h, fun x => ⟨.inl, ?_⟩⟩
        rintro (h' | ⟨rfl, h1, h2⟩)
        · exact h'
        · apply Classical.byContradiction
          intro hn
          exact hk (by simp [okIn, h1, h2, hn])
    obtain ⟨h1, h2⟩ := ih _ hs.1
    refine ⟨h1, fun x => ?_⟩
    rw [List.foldl_cons, h2, hs.2]
    simp only [List.mem_cons]
    constructor
    · rintro ((h | ⟨rfl, h⟩) | ⟨h, h'⟩)
      · exact .inl h
      · exact .inr ⟨.inl rfl, h⟩
      · exact .inr ⟨.inr h, h'⟩
    · rintro (h | ⟨(rfl | h), h'⟩)
      · exact .inl (.inl h)
      · exact .inl (.inr ⟨rfl, h'⟩)
      · exact .inr ⟨h, h'⟩

/-- A filter's value. -/
def GrV (w : World) (v : Value) (g : Gr) : Prop := ∃ vn, v = .agg #[vn, .int .i64 g.out] ∧ NodesAt w.heap.size w vn g.nodes

/-- What comes back: a row of the call's own. -/
def OwnInts (w : World) (xs : List Int) (e : Ending) (w' : World) : Prop :=
  ∃ v, e = .returned v ∧ w'.ownsRow w.heap.size 3 1 v xs.length (iv xs) ∧ Below w.heap.size w w'

theorem zero_bool (w : World) : (zeroValue 4).run Tryz.prog w = .ok (.bool false) w := by kernel_rfl

set_option maxHeartbeats 1000000 in
theorem inputs_any (w : World) (v : Value) (g : Gr) (at_ : Nat) (hg : GrV w v g) (hat : at_ < g.nodes.length) (hn : g.nodes.length ≤ 100000) (hl : g.nodes[at_].ins.length ≤ 1000)
    (hwf : ∀ x ∈ g.nodes[at_].ins, (Lit.int .i64 x).wf = true) :
    Calls Tryz.prog 48 #[v, .int .i64 at_] w (OwnInts w (insL g.nodes.length g.nodes[at_].ins)) := by
  obtain ⟨vn, rfl, p, cap, rfl, hcap, hp⟩ := hg
  rcases hp with hp | ⟨b, o, rfl, hb, hc⟩
  · rw [hp] at hat
    simp at hat
  obtain ⟨vi, h1, hi⟩ : ∃ vi, w.cell? ⟨b, o + at_ * 3 + 1, none⟩ = some vi ∧ IntsAt w.heap.size w vi g.nodes[at_].ins := by
    obtain ⟨vi, vp, _, h1, _, hi, _⟩ := hc at_ hat
    exact ⟨vi, h1, hi⟩
  clear hc
  obtain ⟨pi, ci, rfl, hci, hpi⟩ := hi
  obtain ⟨i0, hi0, hz0, hz1, hz2⟩ := info_parts info_int
  generalize g.nodes[at_].ins = ins at *
  generalize g.nodes.length = n at *
  have hmm := @run_makeMap Tryz.prog
  go_enter Tryz.func48, Tryz.ntmps48
  have hkb : (w.alloc (.cells #[.slice (some ⟨b, o, none⟩) n cap, .int .i64 g.out] 24)).heap.size = w.heap.size + 1 := by simp
  have Hkb := Lib.hid hkb
  clear hkb
  have hst : IntSet Tryz.prog 3 4 ((w.alloc (.cells #[.slice (some ⟨b, o, none⟩) n cap, .int .i64 g.out] 24)).alloc (.map #[] 0)) (w.heap.size + 1) 0 [] := by
    have := IntSet.made Tryz.prog 3 4 (w.alloc (.cells #[.slice (some ⟨b, o, none⟩) n cap, .int .i64 g.out] 24))
    rwa [Hkb.out] at this
  have Hst := Lib.hid hst
  clear hst
  have hbel : Below (w.heap.size + 1) (w.alloc (.cells #[.slice (some ⟨b, o, none⟩) n cap, .int .i64 g.out] 24)) ((w.alloc (.cells #[.slice (some ⟨b, o, none⟩) n cap, .int .i64 g.out] 24)).alloc (.map #[] 0)) :=
    (Below.refl _ _).alloc (by rw [Hkb.out]; exact Nat.le_refl _) _
  have Hbel := Lib.hid hbel
  clear hbel
  have hcellb : (w.alloc (.cells #[.slice (some ⟨b, o, none⟩) n cap, .int .i64 g.out] 24)).cell? ⟨w.heap.size, 0, none⟩ = some (.slice (some ⟨b, o, none⟩) n cap) := by simp [go_sem]
  have Hcellb := Lib.hid hcellb
  clear hcellb
  go_wp2_with fail
  go_loopw [5, 17] (fun v i wr => ∃ k : Nat, k ≤ ins.length ∧ i = .int .i64 k ∧ wr.ownsRow (w.heap.size + 2) 3 1 v (insL n (ins.take k)).length (iv (insL n (ins.take k))) ∧
      IntSet Tryz.prog 3 4 wr (w.heap.size + 1) k (insL n (ins.take k)) ∧ Below (w.heap.size + 1) (w.alloc (.cells #[.slice (some ⟨b, o, none⟩) n cap, .int .i64 g.out] 24)) wr) (fun _ i _ => ins.length - (intOf i).toNat)
  case atStart =>
    exact ⟨0, Nat.zero_le _, rfl, World.ownsRow_nil _ _ _ _, Hst.out, Hbel.out⟩
  case round =>
    obtain ⟨k, hk, rfl, hown, hset, hbel⟩ := hrel
    clear Hst Hbel
    by_cases hlt : k < ins.length
    · rcases hpi with rfl | ⟨b', o', rfl, hb', hc'⟩
      · simp at hlt
      have hx := hc' k hlt
      have hxw := hwf _ (List.getElem_mem hlt)
      clear hc' hwf
      have hx' : wr.cell? ⟨b', o' + k, none⟩ = some (.int .i64 ins[k]) := by
        rw [hbel.cell (p := ⟨b', o' + k, none⟩) (by simp; omega), World.cell?_alloc_lt (h := hb')]
        exact hx
      have hgb : wr.cell? ⟨w.heap.size, 0, none⟩ = some (.slice (some ⟨b, o, none⟩) n cap) := by
        rw [hbel.cell (p := ⟨w.heap.size, 0, none⟩) (by simp)]
        exact Hcellb.out
      clear hx
      have hs := insL_succ n ins k hlt
      have hlk := hset.look Tryz.underlying3 Tryz.underlying4 Tryz.underlying93 (zero_bool wr) hxw
      have hll := insL_len n ins k
      have Hset := Lib.hid hset
      have Hown := Lib.hid hown
      have Hbel := Lib.hid hbel
      have Hs := Lib.hid hs
      have hsz : w.heap.size + 1 < wr.heap.size := hset.lt
      clear hset hown hbel hs
      have hkeep : okIn n (insL n (ins.take k)) ins[k] = false → insL n (ins.take (k + 1)) = insL n (ins.take k) := fun h => by rw [Hs.out]; simp [insStep, h]
      have Hkeep := Lib.hid hkeep
      clear hkeep
      generalize hacc : insL n (ins.take k) = acc at *
      have Hacc := Lib.hid hacc
      clear hacc
      generalize ins[k] = x at *
      by_cases hx0 : x < 0
      · have hk0 : okIn n acc x = false := by simp [okIn]; omega
        have Hk0 := Lib.hid hk0
        clear hk0 hlk
        go_wp2_with fail
        go_roundw
        case rel => exact ⟨k + 1, by omega, by go_num, by rw [Hkeep.out Hk0.out]; exact Hown.out, by rw [Hkeep.out Hk0.out]; exact Hset.out.mono (by omega), Hbel.out⟩
        case measure => simp [intOf]; omega
      · by_cases hxn : n ≤ x
        · have hk0 : okIn n acc x = false := by simp [okIn]; omega
          have Hk0 := Lib.hid hk0
          clear hk0 hlk
          go_wp2_with fail
          go_roundw
          case rel => exact ⟨k + 1, by omega, by go_num, by rw [Hkeep.out Hk0.out]; exact Hown.out, by rw [Hkeep.out Hk0.out]; exact Hset.out.mono (by omega), Hbel.out⟩
          case measure => simp [intOf]; omega
        · cases hmem : decide (x ∈ acc) with
          | true =>
            have hk0 : okIn n acc x = false := by simp [okIn]; intro _ _; simpa using hmem
            have Hk0 := Lib.hid hk0
            rw [hmem] at hlk
            clear hk0 hmem
            go_wp2_with fail
            go_roundw
            case rel => exact ⟨k + 1, by omega, by go_num, by rw [Hkeep.out Hk0.out]; exact Hown.out, by rw [Hkeep.out Hk0.out]; exact Hset.out.mono (by omega), Hbel.out⟩
            case measure => simp [intOf]; omega
          | false =>
            have hk0 : okIn n acc x = true := by
              have : ¬ x ∈ acc := by simpa using hmem
              simp [okIn, this]; omega
            have hst : insL n (ins.take (k + 1)) = acc ++ [x] := by rw [Hs.out]; simp [insStep, hk0]
            have Hst := Lib.hid hst
            rw [hmem] at hlk
            clear hk0 hmem hst
            obtain ⟨D, hD, hDat⟩ := Hset.out
            have hDm := hD.isMap
            have hkey : keyOf Tryz.prog 3 (.int .i64 x) = some (.int .i64 x) := Gou.keyOf_int Tryz.underlying3 hxw
            have hval : plainElem (H := Unit) Tryz.prog 4 (.bool true) = some (.lit (.bool true), []) := by simp [plainElem, Tryz.underlying4]
            go_wp2_with (first
              | (at_mapUpdate; refine wpList_mapUpdate_own _ rfl _ _ _ 93 rfl 3 4 (Maps.int_keyed Tryz.underlying3) Tryz.underlying93 _ (w.heap.size + 1) k D rfl hD (by unfold maxLen; omega) _ _ _ rfl rfl hkey _ [] hval ?_))
            intro w1 hown1 hgrow1
            have hset1 := IntSet.put hDm hDat hown1
            have hz1' : w.heap.size + 1 < w1.heap.size := by have := hgrow1.size; omega
            have hownI : w1.ownsRow (w.heap.size + 2) 3 1 u5 acc.length (iv acc) := ownsRow_mod Hown.out (Mod.of_grown hgrow1) (fun kk hkk e => by
              have h1 := (Hown.out.lt kk hkk).1
              have h2 := Option.some.inj e
              omega)
            have hbel1 : Below (w.heap.size + 1) (w.alloc (.cells #[.slice (some ⟨b, o, none⟩) n cap, .int .i64 g.out] 24)) w1 :=
              Hbel.out.grown hgrow1 (by omega) (fun kk e => by have := Option.some.inj e; omega)
            have Hset1 := Lib.hid hset1
            have Hbel1 := Lib.hid hbel1
            clear hset1 hbel1 hown1 hgrow1 hlk hD
            go_wp2_with (at_builtin; refine wpList_append_own _ rfl _ _ 35 rfl (w.heap.size + 2) 3 i0 (.int .i64 0) 1 8 Tryz.underlying35 hi0 hz0 hz1 hz2 rfl (by omega) _ _ _ rfl (hownI.alloc _) ⟨w1.heap.size, 0, none⟩ 1 1 [.int .i64 x] rfl rfl (cell_one_new _ _ _) (by simp [Value.oneCell']) (by unfold maxLen; omega) (by omega) (by simp; omega) ?_)
            intro v2 w2 hown2 hgrow2 _
            have hset2 : IntSet Tryz.prog 3 4 w2 (w.heap.size + 1) (k + 1) (acc ++ [x]) := (Hset1.out.mod (Mod.alloc (fun _ => False) w1 _) (fun h => h)).mod (Mod.of_grown hgrow2) (fun e => by
              have h1 := (hownI.lt _ e).1
              omega)
            have hbel2 : Below (w.heap.size + 1) (w.alloc (.cells #[.slice (some ⟨b, o, none⟩) n cap, .int .i64 g.out] 24)) w2 :=
              (Hbel1.out.alloc (by omega) _).grown hgrow2 (by simp; omega) (fun kk e => by have := (hownI.lt _ e).1; omega)
            have Hset2 := Lib.hid hset2
            have Hbel2 := Lib.hid hbel2
            have Hown2 := Lib.hid hown2
            clear hset2 hbel2 hown2 hgrow2 hownI
            go_wp2_with fail
            go_roundw
            case rel => exact ⟨k + 1, by omega, by go_num, by rw [Hst.out]; simpa [iv] using Hown2.out, by rw [Hst.out]; exact Hset2.out, Hbel2.out⟩
            case measure => simp [intOf]; omega
    · go_wp2_with fail
      go_ret
      have hke : ins.take k = ins := List.take_of_length_le (by omega)
      rw [hke] at hown
      refine ⟨_, rfl, ownsRow_base hown (by omega), ?_⟩
      exact ((Below.refl _ _).alloc (Nat.le_refl _) _).trans (hbel.mono (by omega))

end Go.Proofs.YtlpieeeeolfclaaGreatDoor

/- order.Uses: for each node those that have it as an input. -/
set_option maxRecDepth 100000
namespace Go.Proofs.YtlpieeeeolfclaaGreatDoor
open Go.RowKit Go.Gou

/-- A slice of n rows of ints, all of the call's own, in blocks apart. -/
structure RowsOwn (w : World) (base U n : Nat) (rows : Nat → List Int) (vs : List Value) : Prop where
  len : vs.length = n
  top : w.ownsRow base 35 1 (.slice (some ⟨U, 0, none⟩) n n) n vs
  row : ∀ k, k < n → w.ownsRow base 3 1 (vs.getD k undef) (rows k).length (iv (rows k))
  apartU : ∀ k, k < n → (vs.getD k undef).ownBlock ≠ some U
  apart : ∀ j k, j < n → k < n → j ≠ k → ∀ b, (vs.getD j undef).ownBlock = some b → (vs.getD k undef).ownBlock ≠ some b

theorem RowsOwn.mod {w w' : World} {base U n : Nat} {rows : Nat → List Int} {vs : List Value} {S : Nat → Prop} (h : RowsOwn w base U n rows vs) (hm : Mod S w w') (hs : ∀ b, base ≤ b → b < w.heap.size → ¬ S b) : RowsOwn w' base U n rows vs :=
  ⟨h.len, ownsRow_mod h.top hm (fun k hk => hs k (h.top.lt k hk).1 (h.top.lt k hk).2), fun k hk => ownsRow_mod (h.row k hk) hm (fun b hb => hs b ((h.row k hk).lt b hb).1 ((h.row k hk).lt b hb).2), h.apartU, h.apart⟩

theorem RowsOwn.congr {w : World} {base U n : Nat} {rows rows' : Nat → List Int} {vs : List Value} (h : RowsOwn w base U n rows vs) (he : ∀ k, k < n → rows' k = rows k) : RowsOwn w base U n rows' vs :=
  ⟨h.len, h.top, fun k hk => by rw [he k hk]; exact h.row k hk, h.apartU, h.apart⟩

theorem getD_set' {α : Type} (l : List α) (u : Nat) (x d : α) (hu : u < l.length) (i : Nat) : (l.set u x).getD i d = if i = u then x else l.getD i d := by
  simp only [List.getD, List.getElem?_set]
  by_cases e : i = u
  · subst e; simp [hu]
  · simp [e, Ne.symm e]

/-- One row more long, in its old block or in a new one; and its value stored at its place. -/
theorem RowsOwn.append {w w1 : World} {base U n : Nat} {rows : Nat → List Int} {vs : List Value} (h : RowsOwn w base U n rows vs) (o : Obj) (k : Nat) (hk : k < n) (x : Int) (g cap : Nat)
    (hown1 : w1.ownsRow base 3 1 (.slice (some ⟨g, 0, none⟩) ((rows k).length + 1) cap) ((rows k).length + 1) (iv (rows k) ++ [.int .i64 x])) (hgrow : (w.alloc o).grownBy w1 (vs.getD k undef).ownBlock)
    (hat : (vs.getD k undef).ownBlock = some g ∨ g = w.heap.size + 1) :
    RowsOwn (w1.setCell ⟨U, k, none⟩ (.slice (some ⟨g, 0, none⟩) ((rows k).length + 1) cap)) base U n (fun j => if j = k then rows j ++ [x] else rows j) (vs.set k (.slice (some ⟨g, 0, none⟩) ((rows k).length + 1) cap)) ∧
      Mod (fun b => b = U ∨ (vs.getD k undef).ownBlock = some b) w (w1.setCell ⟨U, k, none⟩ (.slice (some ⟨g, 0, none⟩) ((rows k).length + 1) cap)) := by
  have hU : U < w.heap.size := (h.top.lt U rfl).2
  have hkl : k < vs.length := by rw [h.len]; exact hk
  have hgU : g ≠ U := by
    rcases hat with hat | rfl
    · intro e; exact h.apartU k hk (e ▸ hat)
    · omega
  have m1 : Mod (fun b => (vs.getD k undef).ownBlock = some b) w w1 := (Mod.alloc _ w o).trans (Mod.of_grown hgrow) (fun _ _ h => h)
  have t1 := ownsRow_mod h.top m1 (fun b hb => by
    simp [Value.ownBlock] at hb
    subst hb
    exact h.apartU k hk)
  obtain ⟨t2, g2⟩ := t1.stored k (.slice (some ⟨g, 0, none⟩) ((rows k).length + 1) cap)
  have m2 := Mod.setCell w1 ⟨U, k, none⟩ (.slice (some ⟨g, 0, none⟩) ((rows k).length + 1) cap)
  refine ⟨⟨by simpa using h.len, t2, fun j hj => ?_, fun j hj => ?_, fun i j hi hj hij b hb => ?_⟩, m1.imp (fun _ _ h => .inr h) |>.trans m2 fun _ _ e => .inl e⟩
  · rw [getD_set' _ _ _ _ hkl]
    by_cases e : j = k
    · subst e
      simp only [if_true]
      have := ownsRow_mod hown1 m2 (fun b hb => by
        simp [Value.ownBlock] at hb
        subst hb
        exact hgU)
      simpa [iv] using this
    · rw [if_neg e, if_neg e]
      refine ownsRow_mod (ownsRow_mod (h.row j hj) m1 (fun b hb he => h.apart j k hj hk e b hb he)) m2 (fun b hb he => ?_)
      simp at he
      subst he
      exact h.apartU j hj hb
  · rw [getD_set' _ _ _ _ hkl]
    by_cases e : j = k
    · rw [if_pos e]
      simp [Value.ownBlock]
      exact hgU
    · rw [if_neg e]
      exact h.apartU j hj
  · rw [getD_set' _ _ _ _ hkl] at hb ⊢
    by_cases e1 : i = k
    · subst e1
      rw [if_pos rfl] at hb
      rw [if_neg (Ne.symm hij)]
      have hgb : g = b := by simpa [Value.ownBlock] using hb
      subst hgb
      intro he
      rcases hat with hat | rfl
      · exact h.apart _ _ hi hj hij _ hat he
      · have := ((h.row j hj).lt _ he).2
        omega
    · rw [if_neg e1] at hb
      by_cases e2 : j = k
      · subst e2
        rw [if_pos rfl]
        intro he
        have hgb : g = b := by simpa [Value.ownBlock] using he
        subst hgb
        rcases hat with hat | rfl
        · exact h.apart _ _ hi hj hij _ hb hat
        · have := ((h.row i hi).lt _ hb).2
          omega
      · rw [if_neg e2]
        exact h.apart i j hi hj hij b hb

/-- Which nodes have k as an input, among the first i, and node i if k is among its first t inputs. -/
def usesL (G : List (List Int)) (i t k : Nat) : List Int :=
  ((List.range i).filter (fun (j : Nat) => decide ((k : Int) ∈ G.getD j []))).map (fun (j : Nat) => (j : Int)) ++ if (k : Int) ∈ (G.getD i []).take t then [(i : Int)] else []

theorem usesL_zero (G : List (List Int)) (k : Nat) : usesL G 0 0 k = [] := by simp [usesL]

theorem usesL_next (G : List (List Int)) (i k : Nat) (t : Nat) (ht : (G.getD i []).length ≤ t) : usesL G (i + 1) 0 k = usesL G i t k := by
  unfold usesL
  rw [List.take_of_length_le ht, List.range_succ, List.filter_append, List.map_append]
  by_cases h : (k : Int) ∈ G.getD i []
  · have e : (List.filter (fun (j : Nat) => decide ((k : Int) ∈ G.getD j [])) [i]) = [i] := by
      rw [List.filter_cons_of_pos (by simpa using h)]; rfl
    rw [e, if_pos h]; simp
  · have e : (List.filter (fun (j : Nat) => decide ((k : Int) ∈ G.getD j [])) [i]) = [] := by
      rw [List.filter_cons_of_neg (by simpa using h)]; rfl
    rw [e, if_neg h]; simp

theorem usesL_step (G : List (List Int)) (i t k : Nat) (hn : (G.getD i []).Nodup) (ht : t < (G.getD i []).length) : usesL G i (t + 1) k = if (k : Int) = (G.getD i [])[t] then usesL G i t k ++ [(i : Int)] else usesL G i t k := by
  unfold usesL
  rw [List.take_succ_eq_append_getElem ht]
  by_cases h : (k : Int) = (G.getD i [])[t]
  · rw [if_pos h]
    have hnot : (k : Int) ∉ (G.getD i []).take t := by
      rw [h]
      intro hm
      obtain ⟨j, hj, hje⟩ := List.mem_take_iff_getElem.1 hm
      have := (List.getElem_inj (i := j) (j := t) hn).1 hje
      omega
    rw [if_pos (List.mem_append.2 (.inr (by rw [h]; exact List.mem_singleton.2 rfl))), if_neg hnot]
    simp
  · rw [if_neg h]
    have : ((k : Int) ∈ (G.getD i []).take t ++ [(G.getD i [])[t]]) ↔ (k : Int) ∈ (G.getD i []).take t := by rw [List.mem_append, List.mem_singleton]; exact ⟨fun h' => h'.resolve_right h, .inl⟩
    simp only [this]

/-- What 'Uses' hands back. -/
def UsesPost (w : World) (G : List (List Int)) (e : Ending) (w' : World) : Prop :=
  ∃ U vs, e = .returned (.slice (some ⟨U, 0, none⟩) G.length G.length) ∧ RowsOwn w' w.heap.size U G.length (usesL G G.length 0) vs ∧ Below w.heap.size w w'

theorem info_ints : (Tryz.prog.info? 35).map (fun i => (i.zero, i.size, i.bytes)) = some (some (.slice none 0 0), 1, 24) := by kernel_rfl

/-- The inputs of each node that are nodes, each once. -/
def insG (g : Gr) : List (List Int) := g.nodes.map fun n => insL g.nodes.length n.ins

/-- Small enough to be walked. -/
structure GrOk (g : Gr) : Prop where
  few : g.nodes.length ≤ 1000
  ins : ∀ n ∈ g.nodes, n.ins.length ≤ 1000
  wf : ∀ n ∈ g.nodes, ∀ x ∈ n.ins, (Lit.int .i64 x).wf = true

theorem GrV.up {w w1 : World} {v : Value} {g : Gr} (h : GrV w v g) (hb : Below w.heap.size w w1) : GrV w1 v g := by
  obtain ⟨vn, rfl, hn⟩ := h
  exact ⟨vn, rfl, hn.up hb⟩

theorem GrV.form {w : World} {v : Value} {g : Gr} (h : GrV w v g) : ∃ p cap, v = .agg #[.slice p g.nodes.length cap, .int .i64 g.out] := by
  obtain ⟨vn, rfl, p, cap, rfl, _⟩ := h
  exact ⟨p, cap, rfl⟩

/-- Ahead of a round of the inner loop. -/
def UIn (B s U n : Nat) (G : List (List Int)) (w2 : World) (i t : Nat) (wr : World) : Prop :=
  ∃ vs, RowsOwn wr B U n (usesL G i t) vs ∧ Mod (fun b => B ≤ b ∧ b < s) w2 wr ∧ ∀ k, k < n → ∀ b, (vs.getD k undef).ownBlock = some b → b < s ∨ w2.heap.size ≤ b

theorem UIn.step {B s U n : Nat} {G : List (List Int)} {w2 wr w3 : World} {i t : Nat} (vs : List Value) (hrow : RowsOwn wr B U n (usesL G i t) vs) (hmod : Mod (fun b => B ≤ b ∧ b < s) w2 wr)
    (hlies : ∀ k, k < n → ∀ b, (vs.getD k undef).ownBlock = some b → b < s ∨ w2.heap.size ≤ b) (hnd : (G.getD i []).Nodup) (ht : t < (G.getD i []).length) (hUs : U < s) (hsw : s ≤ w2.heap.size)
    (o : Obj) (k : Nat) (hk : k < n) (hkx : (G.getD i [])[t] = (k : Int)) (g cap : Nat)
    (hown1 : w3.ownsRow B 3 1 (.slice (some ⟨g, 0, none⟩) ((usesL G i t k).length + 1) cap) ((usesL G i t k).length + 1) (iv (usesL G i t k) ++ [.int .i64 i])) (hgrow : (wr.alloc o).grownBy w3 (vs.getD k undef).ownBlock)
    (hat : (vs.getD k undef).ownBlock = some g ∨ g = wr.heap.size + 1) :
    UIn B s U n G w2 i (t + 1) (w3.setCell ⟨U, k, none⟩ (.slice (some ⟨g, 0, none⟩) ((usesL G i t k).length + 1) cap)) := by
  obtain ⟨h1, h2⟩ := hrow.append o k hk i g cap hown1 hgrow hat
  refine ⟨_, h1.congr fun j hj => ?_, hmod.trans h2 fun b hb he => ?_, fun j hj b hb => ?_⟩
  · rw [usesL_step G i t j hnd ht, hkx]
    by_cases e : j = k
    · subst e; simp
    · rw [if_neg (by omega), if_neg e]
  · rcases he with rfl | he
    · exact ⟨(hrow.top.lt _ rfl).1, hUs⟩
    · rcases hlies k hk b he with h | h
      · exact ⟨((hrow.row k hk).lt b he).1, h⟩
      · omega
  · rw [getD_set' _ _ _ _ (by rw [hrow.len]; exact hk)] at hb
    by_cases e : j = k
    · rw [if_pos e] at hb
      have hgb : g = b := by simpa [Value.ownBlock] using hb
      subst hgb
      rcases hat with hat | rfl
      · exact hlies k hk _ hat
      · right
        have := hmod.size
        omega
    · rw [if_neg e] at hb
      exact hlies j hj b hb

theorem usesL_len (G : List (List Int)) (i t k : Nat) : (usesL G i t k).length ≤ i + 1 := by
  unfold usesL
  rw [List.length_append, List.length_map]
  have := List.length_filter_le (fun (j : Nat) => decide ((k : Int) ∈ G.getD j [])) (List.range i)
  rw [List.length_range] at this
  split <;> simp only [List.length_cons, List.length_nil] <;> omega

set_option maxHeartbeats 1000000 in
theorem uses_any (w : World) (v : Value) (g : Gr) (hg : GrV w v g) (hok : GrOk g) :
    Calls Tryz.prog 50 #[v] w (UsesPost w (insG g)) := by
  obtain ⟨i0, hi0, hz0, hz1, hz2⟩ := info_parts info_int
  obtain ⟨i1, hj0, hjz, hj1, hj2⟩ := info_parts info_ints
  have hlen : (insG g).length = g.nodes.length := by simp [insG]
  have Hlen := Lib.hid hlen
  have Hg := Lib.hid hg
  have Hok := Lib.hid hok
  have hfew := hok.few
  obtain ⟨p, cap, rfl⟩ := hg.form
  clear hg hok hlen
  go_enter Tryz.func50, Tryz.ntmps50
  go_wp2_with (first
    | (at_make; refine wpList_make_full _ rfl _ _ 78 rfl w.heap.size 35 i1 (.slice none 0 0) 1 Tryz.underlying78 hj0 hjz hj1 _ _ _ _ g.nodes.length rfl rfl rfl rfl ?b1 ?b2 ?b3 ?_))
  case b1 => rw [hj2]; omega
  case b2 => unfold maxLen; omega
  case b3 => simp
  intro w1 hown hgrow
  have hzb1 : w.heap.size + 1 < w1.heap.size := (hown.lt _ rfl).2
  have hb1 : Below (w.heap.size + 1) (w.alloc (.cells #[.slice p g.nodes.length cap, .int .i64 g.out] 24)) w1 := (Below.refl _ _).grown hgrow (by simp) (fun k e => by cases e)
  have hc0 : w1.cell? ⟨w.heap.size, 0, none⟩ = some (.slice p g.nodes.length cap) := by rw [hb1.cell (p := ⟨w.heap.size, 0, none⟩) (by simp)]; simp [go_sem]
  have hc1 : w1.cell? ⟨w.heap.size, 1, none⟩ = some (.int .i64 g.out) := by rw [hb1.cell (p := ⟨w.heap.size, 1, none⟩) (by simp)]; simp [go_sem]
  have hbel : Below w.heap.size w w1 := ((Below.refl _ _).alloc (Nat.le_refl _) _).trans (hb1.mono (by omega))
  have hrows : RowsOwn w1 (w.heap.size + 1) (w.heap.size + 1) g.nodes.length (usesL (insG g) 0 0) (List.replicate g.nodes.length (.slice none 0 0)) := by
    rw [toList_madeCells_one] at hown
    refine ⟨by simp, ?_, fun k hk => ?_, fun k hk => ?_, fun j k hj hk _ b hb => ?_⟩
    · refine ⟨hown.1, ?_⟩
      rcases hown.2 with ⟨h, _⟩ | ⟨g', cap', cur, hv, hg', r⟩
      · cases h
      · simp only [Value.slice.injEq, Option.some.injEq, Addr.mk.injEq, and_true] at hv
        obtain ⟨rfl, _, rfl⟩ := hv
        exact .inr ⟨_, _, cur, rfl, by omega, r⟩
    · rw [usesL_zero]
      simp [List.getD, hk]
      exact World.ownsRow_nil _ _ _ _
    · simp [List.getD, hk, Value.ownBlock]
    · simp [List.getD, hj, Value.ownBlock] at hb
  have Hrows := Lib.hid hrows
  have Hbel := Lib.hid hbel
  clear hrows hbel hown hgrow hb1
  go_wp2_with fail
  go_loopw [14] (fun c wr => ∃ i : Nat, c = .int .i64 i ∧ i ≤ g.nodes.length ∧ (∃ vs, RowsOwn wr (w.heap.size + 1) (w.heap.size + 1) g.nodes.length (usesL (insG g) i 0) vs) ∧ Below (w.heap.size + 1) w1 wr) (fun c _ => g.nodes.length - (intOf c).toNat)
  case atStart => exact ⟨0, rfl, Nat.zero_le _, ⟨_, Hrows.out⟩, Below.refl _ _⟩
  case round =>
    obtain ⟨i, rfl, hi, ⟨vs, hrows⟩, hb⟩ := hrel
    clear Hrows
    have hc0' : wr.cell? ⟨w.heap.size, 0, none⟩ = some (.slice p g.nodes.length cap) := by rw [hb.cell (p := ⟨w.heap.size, 0, none⟩) (by simp)]; exact hc0
    have hc1' : wr.cell? ⟨w.heap.size, 1, none⟩ = some (.int .i64 g.out) := by rw [hb.cell (p := ⟨w.heap.size, 1, none⟩) (by simp)]; exact hc1
    have hbw : Below w.heap.size w wr := Hbel.out.trans (hb.mono (by omega))
    have Hrows := Lib.hid hrows
    have Hb := Lib.hid hb
    have Hbw := Lib.hid hbw
    clear hrows hb hbw
    by_cases hlt : i < g.nodes.length
    · have hin := inputs_any wr _ g i (Hg.out.up Hbw.out) hlt (by omega) (Hok.out.ins _ (List.getElem_mem hlt)) (Hok.out.wf _ (List.getElem_mem hlt))
      have Hin := Lib.hid hin
      clear hin
      have hGi : (insG g).getD i [] = insL g.nodes.length g.nodes[i].ins := by simp [insG, List.getD, hlt]
      have hnd := (insL_nodup g.nodes.length g.nodes[i].ins).1
      have hmem := (insL_nodup g.nodes.length g.nodes[i].ins).2
      have hml : (insL g.nodes.length g.nodes[i].ins).length ≤ 1000 := by
        have h1 := insL_len g.nodes.length g.nodes[i].ins g.nodes[i].ins.length
        rw [List.take_length] at h1
        have := Hok.out.ins _ (List.getElem_mem hlt)
        omega
      have Hnd := Lib.hid hnd
      have Hmem := Lib.hid hmem
      have HGi := Lib.hid hGi
      clear hnd hmem hGi
      generalize insL g.nodes.length g.nodes[i].ins = L at *
      go_wp2_with fail
      refine (Hin.out).mono ?_
      rintro e w2 ⟨v2, rfl, hown2, hb2⟩
      obtain ⟨p2, c2, rfl⟩ := ownsRow_form hown2
      have hzr : w.heap.size + 1 < wr.heap.size := by have := Hb.out.size; omega
      have hst : UIn (w.heap.size + 1) wr.heap.size (w.heap.size + 1) g.nodes.length (insG g) w2 i 0 w2 :=
        ⟨vs, Hrows.out.mod (Mod.of_below hb2 (fun _ => False)) (fun _ _ _ h => h), Mod.refl _ _, fun k hk b hb => .inl ((Hrows.out.row k hk).lt b hb).2⟩
      have Hst := Lib.hid hst
      have Hown2 := Lib.hid hown2
      have hzw := hb2.size
      have Hb2 := Lib.hid hb2
      clear hst hown2 hb2
      go_wp2_with fail
      obtain ⟨wo, rfl⟩ : ∃ wo : World, wo = wr := ⟨_, rfl⟩
      go_loopw [21] (fun c wx => ∃ t : Nat, c = .int .i64 t ∧ t ≤ L.length ∧ UIn (w.heap.size + 1) wo.heap.size (w.heap.size + 1) g.nodes.length (insG g) w2 i t wx) (fun c _ => L.length - (intOf c).toNat)
      case atStart => exact ⟨0, rfl, Nat.zero_le _, Hst.out⟩
      case round =>
        obtain ⟨t, rfl, ht, vs', hrow', hmod', hlies'⟩ := hrel
        clear Hst
        by_cases htl : t < L.length
        · obtain ⟨g2, c2', hv2, hg2, _⟩ := Hown2.out.form (by omega)
          simp only [Value.slice.injEq] at hv2
          obtain ⟨rfl, _, rfl⟩ := hv2
          have hx0 : 0 ≤ L[t] ∧ L[t] < (g.nodes.length : Int) := ((Hmem.out _).1 (List.getElem_mem htl)).2
          obtain ⟨k, hkx⟩ : ∃ k : Nat, L[t] = (k : Int) := ⟨L[t].toNat, by omega⟩
          have hk : k < g.nodes.length := by omega
          have hownx := ownsRow_mod Hown2.out hmod' (fun b hb hs => by
            have h1 := (Hown2.out.lt b hb).1
            omega)
          have hct := hownx.cellAt t (by omega)
          have het : (iv L)[t]? = some (.int .i64 (k : Int)) := by simp [iv, htl, hkx]
          rw [het] at hct
          have hck := hrow'.top.cellAt k (by omega)
          have hek : vs'[k]? = some (vs'.getD k undef) := by simp [List.getD, show k < vs'.length by rw [hrow'.len]; exact hk]
          rw [hek] at hck
          have hfk := hrow'.top.frozenAt k
          have hUx : w.heap.size + 1 < wr.heap.size := (hrow'.top.lt _ rfl).2
          have hbx : Below (w.heap.size + 1) w1 wr := (Hb.out.trans (Hb2.out.mono (by omega))).trans (hmod'.below (by omega) (fun b hb hs => by omega))
          have hrk := hrow'.row k hk
          have hkU := hrow'.apartU k hk
          have hll := usesL_len (insG g) i t k
          have hstep := fun (w3 : World) (o : Obj) (gg cp : Nat) h1 h2 h3 => UIn.step (w3 := w3) vs' hrow' hmod' hlies' (by rw [HGi.out]; exact Hnd.out) (by rw [HGi.out]; exact htl) hzr hzw o k hk (by simp only [HGi.out]; exact hkx) gg cp h1 h2 h3
          have Hstep := Lib.hid hstep
          have Hbx := Lib.hid hbx
          have HkU := Lib.hid hkU
          have Hkx := Lib.hid hkx
          clear hstep hbx hkU hrow' hmod' hlies' hkx hownx het hek hx0
          generalize hvk : vs'.getD k undef = vk at *
          clear hvk
          go_wp2_with (at_builtin; refine wpList_append_lies _ rfl _ _ 35 rfl (w.heap.size + 1) 3 i0 (.int .i64 0) 1 8 Tryz.underlying35 hi0 hz0 hz1 hz2 rfl (by omega) vk (usesL (insG g) i t k).length (iv (usesL (insG g) i t k)) rfl (hrk.alloc _) ⟨wr.heap.size, 0, none⟩ 1 1 [.int .i64 i] rfl rfl (cell_one_new _ _ _) (by simp [Value.oneCell']) (by omega) (by unfold maxLen; omega) (by omega) (by simp; omega) (wr.heap.size + 1) (by simp) ?_)
          intro gg cp w3 hown3 hgrow3 hat3 hlt3
          have hc3 : w3.cell? ⟨w.heap.size + 1, k, none⟩ = some vk := by
            rw [hgrow3.cell_far ⟨w.heap.size + 1, k, none⟩ (by simp; omega) (fun e => HkU.out e.symm), World.cell?_alloc_lt (h := hUx)]
            exact hck
          have hf3 : w3.frozen? ⟨w.heap.size + 1, k, none⟩ = false := by
            rw [hgrow3.frozen_far ⟨w.heap.size + 1, k, none⟩ (by simp; omega) (fun e => HkU.out e.symm), World.frozen?_alloc_old (h := by simp; omega)]
            exact hfk
          have hu := Hstep.out w3 _ gg cp hown3 hgrow3 hat3
          have Hu := Lib.hid hu
          clear hu hown3 hgrow3 hat3 Hstep hck hfk hrk
          go_wp2_with fail
          go_roundw
          case rel => exact ⟨t + 1, by go_num, by omega, Hu.out⟩
          case measure => simp [intOf]; omega
        · have hte : t = L.length := by omega
          subst hte
          have hnext : ∀ k, usesL (insG g) (i + 1) 0 k = usesL (insG g) i L.length k := fun k => usesL_next _ _ _ _ (by rw [HGi.out]; exact Nat.le_refl _)
          have hrow2 := hrow'.congr (fun k _ => hnext k)
          have hbx : Below (w.heap.size + 1) w1 wr := (Hb.out.trans (Hb2.out.mono (by omega))).trans (hmod'.below (by omega) (fun b hb hs => by omega))
          have Hrow2 := Lib.hid hrow2
          have Hbx := Lib.hid hbx
          clear hrow2 hbx hrow' hmod' hlies' hnext
          go_wp2_with fail
          go_roundw
          case rel => exact ⟨i + 1, by go_num, by omega, ⟨_, Hrow2.out⟩, Hbx.out⟩
          case measure => simp [intOf]; omega
    · go_wp2_with fail
      go_ret
      have hie : i = g.nodes.length := by omega
      subst hie
      refine ⟨_, vs, by rw [Hlen.out]; rfl, ?_, Hbw.out⟩
      have h := Hrows.out
      rw [Hlen.out]
      exact ⟨h.len, ownsRow_base h.top (by omega), fun k hk => ownsRow_base (h.row k hk) (by omega), h.apartU, h.apart⟩

end Go.Proofs.YtlpieeeeolfclaaGreatDoor

/- Plain: nodes that wait for others, struck one by one. G: for each node those that it waits for, each once. Nothing of the program stands here. -/
namespace Go.Gou

/-- A node is sure to lead nowhere round. -/
inductive Done (G : List (List Nat)) : Nat → Prop
  | mk (i : Nat) (h : i < G.length) (hk : ∀ k, k ∈ G[i] → Done G k) : Done G i

theorem Done.lt {G : List (List Nat)} {i : Nat} (h : Done G i) : i < G.length := by cases h; assumption
theorem Done.ins {G : List (List Nat)} {i k : Nat} (h : Done G i) (hk : k ∈ G.getD i []) : Done G k := by
  cases h with
  | mk _ hl hall => exact hall k (by simpa [List.getD, hl] using hk)

/-- How many of a list are not in another one. -/
def rest (out l : List Nat) : Nat := l.countP (fun k => !decide (k ∈ out))

theorem rest_zero {out l : List Nat} : rest out l = 0 ↔ ∀ k ∈ l, k ∈ out := by
  simp [rest, List.countP_eq_zero]

theorem rest_nil (l : List Nat) : rest [] l = l.length := by
  simp [rest]

theorem rest_le (out l : List Nat) : rest out l ≤ l.length := List.countP_le_length

theorem rest_snoc_not {out l : List Nat} {k : Nat} (h : k ∉ l) : rest (out ++ [k]) l = rest out l := by
  unfold rest
  apply List.countP_congr
  intro x hx
  have : x ≠ k := fun e => h (e ▸ hx)
  simp [this]

theorem rest_snoc {out l : List Nat} {k : Nat} (hn : l.Nodup) (hk : k ∈ l) (ho : k ∉ out) : rest out l = rest (out ++ [k]) l + 1 := by
  induction l with
  | nil => simp at hk
  | cons a l ih =>
    rw [List.nodup_cons] at hn
    unfold rest
    rw [List.countP_cons, List.countP_cons]
    by_cases e : a = k
    · subst e
      have := rest_snoc_not (out := out) hn.1
      unfold rest at this
      rw [this]
      simp [ho]
    · have hkl : k ∈ l := by simpa [Ne.symm e] using hk
      have := ih hn.2 hkl
      unfold rest at this
      rw [this]
      simp [e]
      omega

/-- The state ahead of a round: out is struck, next waits to be struck, left counts. -/
structure KInv (G : List (List Nat)) (out next : List Nat) (left : List Int) : Prop where
  nodup : (out ++ next).Nodup
  len : left.length = G.length
  lt : ∀ i, i ∈ out ++ next → i < G.length
  count : ∀ i, i < G.length → left.getD i 0 = (rest out (G.getD i []) : Int)
  zero : ∀ i, i < G.length → (i ∈ out ++ next ↔ left.getD i 0 = 0)
  done : ∀ i, i ∈ out → Done G i
  topo : ∀ pre i post, out = pre ++ i :: post → ∀ k ∈ G.getD i [], k ∈ pre

/-- Within a round: k is being struck; of those that wait for it, the first ones are told. -/
structure KIn (G : List (List Nat)) (out : List Nat) (k : Nat) (told : List Nat) (next : List Nat) (left : List Int) : Prop where
  nodup : (out ++ [k] ++ next).Nodup
  len : left.length = G.length
  lt : ∀ i, i ∈ out ++ [k] ++ next → i < G.length
  count : ∀ i, i < G.length → left.getD i 0 = (rest out (G.getD i []) : Int) - (if i ∈ told then 1 else 0)
  zero : ∀ i, i < G.length → (i ∈ out ++ [k] ++ next ↔ left.getD i 0 = 0)
  done : ∀ i, i ∈ out ++ [k] → Done G i
  topo : ∀ pre i post, out ++ [k] = pre ++ i :: post → ∀ k ∈ G.getD i [], k ∈ pre

theorem split_snoc {out pre post : List Nat} {k i : Nat} (h : out ++ [k] = pre ++ i :: post) : (pre = out ∧ i = k ∧ post = []) ∨ ∃ post', out = pre ++ i :: post' := by
  rcases List.eq_nil_or_concat post with rfl | ⟨l, b, rfl⟩
  · left
    have := List.append_inj' h rfl
    simp at this
    exact ⟨this.1.symm, this.2.symm, rfl⟩
  · right
    rw [List.concat_eq_append, ← List.cons_append, ← List.append_assoc] at h
    have := List.append_inj' h rfl
    exact ⟨l, this.1⟩

theorem KInv.start {G : List (List Nat)} {next : List Nat} (hn : next.Nodup) (hm : ∀ i, i ∈ next ↔ i < G.length ∧ G.getD i [] = []) : KInv G [] next (G.map fun l => (l.length : Int)) where
  nodup := by simpa using hn
  len := by simp
  lt := fun i hi => ((hm i).1 (by simpa using hi)).1
  count := fun i hi => by simp [rest_nil, List.getD, hi]
  zero := fun i hi => by
    rw [List.nil_append, hm]
    simp [List.getD, hi]
  done := by simp
  topo := fun pre i post h => by simp at h

theorem KInv.pop {G : List (List Nat)} {out next next' : List Nat} {left : List Int} {k : Nat} (h : KInv G out next left) (hp : next.Perm (k :: next')) : KIn G out k [] next' left := by
  have hperm : (out ++ [k] ++ next').Perm (out ++ next) := by
    rw [List.append_assoc]
    exact List.Perm.append_left out hp.symm
  have hin : ∀ i, i ∈ out ++ [k] ++ next' ↔ i ∈ out ++ next := fun i => hperm.mem_iff
  have hk : k < G.length := h.lt k ((hin k).1 (by simp))
  have hall : ∀ j ∈ G.getD k [], j ∈ out := by
    have h0 := (h.zero k hk).1 ((hin k).1 (by simp))
    rw [h.count k hk] at h0
    exact rest_zero.1 (by omega)
  refine ⟨hperm.nodup_iff.2 h.nodup, h.len, fun i hi => h.lt i ((hin i).1 hi), fun i hi => by simpa using h.count i hi, fun i hi => by rw [hin]; exact h.zero i hi, ?_, ?_⟩
  · intro i hi
    rw [List.mem_append] at hi
    rcases hi with hi | hi
    · exact h.done i hi
    · obtain rfl : i = k := by simpa using hi
      refine Done.mk i hk fun j hj => h.done j (hall j ?_)
      simpa [List.getD, hk] using hj
  · intro pre i post he
    rcases split_snoc he with ⟨rfl, rfl, rfl⟩ | ⟨post', rfl⟩
    · exact hall
    · exact h.topo pre i post' rfl

theorem getD_set (l : List Int) (u : Nat) (x : Int) (hu : u < l.length) (i : Nat) : (l.set u x).getD i 0 = if i = u then x else l.getD i 0 := by
  simp only [List.getD, List.getElem?_set]
  by_cases e : i = u
  · subst e; simp [hu]
  · simp [e, Ne.symm e]

theorem KIn.tell {G : List (List Nat)} {out told next : List Nat} {left : List Int} {k u : Nat} (h : KIn G out k told next left) (hu : u < G.length) (hku : k ∈ G.getD u []) (ht : u ∉ told) :
    (left.getD u 0 - 1 ≠ 0 → KIn G out k (told ++ [u]) next (left.set u (left.getD u 0 - 1))) ∧
    (left.getD u 0 - 1 = 0 → ∀ next', next'.Perm (u :: next) → KIn G out k (told ++ [u]) next' (left.set u (left.getD u 0 - 1))) := by
  have hc := h.count u hu
  simp only [ht, if_false] at hc
  have hko : k ∉ out := by
    have := h.nodup
    simp only [List.nodup_append] at this
    intro hk
    exact this.1.2.2 k hk k (by simp) rfl
  have hpos : 0 < rest out (G.getD u []) := Nat.pos_of_ne_zero fun h0 => hko (rest_zero.1 h0 k hku)
  have hnot : u ∉ out ++ [k] ++ next := fun hm => by
    have := (h.zero u hu).1 hm
    omega
  have hul : u < left.length := by rw [h.len]; exact hu
  have hcount : ∀ i, i < G.length → (left.set u (left.getD u 0 - 1)).getD i 0 = (rest out (G.getD i []) : Int) - (if i ∈ told ++ [u] then 1 else 0) := by
    intro i hi
    rw [getD_set _ _ _ hul]
    by_cases e : i = u
    · subst e
      rw [if_pos rfl, if_pos (by simp)]
      omega
    · rw [if_neg e, h.count i hi]
      simp [e]
  constructor
  · intro hne
    refine ⟨h.nodup, by simpa using h.len, h.lt, hcount, fun i hi => ?_, h.done, h.topo⟩
    rw [getD_set _ _ _ hul]
    by_cases e : i = u
    · subst e
      simp only [if_true]
      exact ⟨fun hm => absurd hm hnot, fun h0 => absurd h0 hne⟩
    · rw [if_neg e]
      exact h.zero i hi
  · intro h0 next' hp
    have hperm : (out ++ [k] ++ next').Perm (u :: (out ++ [k] ++ next)) := (List.Perm.append_left _ hp).trans List.perm_middle
    have hin : ∀ i, i ∈ out ++ [k] ++ next' ↔ i = u ∨ i ∈ out ++ [k] ++ next := fun i => by rw [hperm.mem_iff, List.mem_cons]
    refine ⟨hperm.nodup_iff.2 (List.nodup_cons.2 ⟨hnot, h.nodup⟩), by simpa using h.len, fun i hi => ?_, hcount, fun i hi => ?_, h.done, h.topo⟩
    · rcases (hin i).1 hi with rfl | hi
      · exact hu
      · exact h.lt i hi
    · rw [getD_set _ _ _ hul, hin]
      by_cases e : i = u
      · subst e
        rw [if_pos rfl]
        exact ⟨fun _ => h0, fun _ => .inl rfl⟩
      · rw [if_neg e, ← h.zero i hi]
        simp [e]

theorem KIn.finish {G : List (List Nat)} {out told next : List Nat} {left : List Int} {k : Nat} (hG : ∀ i, i < G.length → (G.getD i []).Nodup) (h : KIn G out k told next left)
    (ht : ∀ i, i < G.length → (i ∈ told ↔ k ∈ G.getD i [])) : KInv G (out ++ [k]) next left where
  nodup := h.nodup
  len := h.len
  lt := h.lt
  count := fun i hi => by
    have hko : k ∉ out := by
      have := h.nodup
      simp only [List.nodup_append] at this
      intro hk
      exact this.1.2.2 k hk k (by simp) rfl
    rw [h.count i hi]
    by_cases e : k ∈ G.getD i []
    · rw [if_pos ((ht i hi).2 e), rest_snoc (hG i hi) e hko]
      omega
    · rw [if_neg (fun hm => e ((ht i hi).1 hm)), rest_snoc_not e]
      omega
  zero := h.zero
  done := h.done
  topo := h.topo

/-- Nothing waits any more: what is struck is all that is sure to lead nowhere. -/
theorem KInv.all {G : List (List Nat)} {out : List Nat} {left : List Int} (h : KInv G out [] left) (i : Nat) : i ∈ out ↔ Done G i := by
  refine ⟨h.done i, fun hd => ?_⟩
  induction hd with
  | mk i hi hk ih =>
    have hz : left.getD i 0 = 0 := by
      rw [h.count i hi]
      have : rest out (G.getD i []) = 0 := rest_zero.2 fun k hkm => ih k (by simpa [List.getD, hi] using hkm)
      omega
    have := (h.zero i hi).2 hz
    simpa using this

/-- The order of a filter: what is struck, each once, each behind those that it waits for. -/
structure IsOrder (G : List (List Nat)) (out : List Nat) : Prop where
  nodup : out.Nodup
  mem : ∀ i, i ∈ out ↔ Done G i
  topo : ∀ pre i post, out = pre ++ i :: post → ∀ k ∈ G.getD i [], k ∈ pre

theorem KInv.order {G : List (List Nat)} {out : List Nat} {left : List Int} (h : KInv G out [] left) : IsOrder G out := ⟨by simpa using h.nodup, h.all, h.topo⟩

theorem nodup_length_le {l m : List Nat} (hl : l.Nodup) (h : ∀ i ∈ l, i ∈ m) : l.length ≤ m.length := by
  induction l generalizing m with
  | nil => simp
  | cons a l ih =>
    rw [List.nodup_cons] at hl
    have ha : a ∈ m := h a (by simp)
    have : l.length ≤ (m.erase a).length := ih hl.2 fun i hi => by
      have hne : i ≠ a := fun e => hl.1 (e ▸ hi)
      exact (List.mem_erase_of_ne hne).2 (h i (by simp [hi]))
    rw [List.length_erase_of_mem ha] at this
    have hp : 0 < m.length := List.length_pos_of_mem ha
    simp only [List.length_cons]
    omega

theorem IsOrder.le {G : List (List Nat)} {out : List Nat} (h : IsOrder G out) : out.length ≤ G.length := by
  have := nodup_length_le (m := List.range G.length) h.nodup fun i hi => List.mem_range.2 ((h.mem i).1 hi).lt
  simpa using this

/-- Fewer are struck than there are: some node leads round. -/
theorem IsOrder.round {G : List (List Nat)} {out : List Nat} (h : IsOrder G out) : out.length < G.length ↔ ∃ i, i < G.length ∧ ¬ Done G i := by
  constructor
  · intro hlt
    apply Classical.byContradiction
    intro hn
    have hall : ∀ i, i < G.length → Done G i := fun i hi => Classical.byContradiction fun hd => hn ⟨i, hi, hd⟩
    have := nodup_length_le (l := List.range G.length) (m := out) List.nodup_range fun i hi => (h.mem i).2 (hall i (List.mem_range.1 hi))
    rw [List.length_range] at this
    omega
  · rintro ⟨i, hi, hd⟩
    have hni : i ∉ out := fun hm => hd ((h.mem i).1 hm)
    have := nodup_length_le (l := i :: out) (m := List.range G.length) (List.nodup_cons.2 ⟨hni, h.nodup⟩) fun j hj => by
      rcases List.mem_cons.1 hj with rfl | hj
      · exact List.mem_range.2 hi
      · exact List.mem_range.2 ((h.mem j).1 hj).lt
    rw [List.length_range, List.length_cons] at this
    omega

end Go.Gou

/- order.All, its parts outside the walk: what holds ahead of each round. -/
set_option maxRecDepth 100000
namespace Go.Proofs.YtlpieeeeolfclaaGreatDoor
open Go.RowKit Go.Gou

abbrev ci (l : List Nat) : List Int := l.map (fun (k : Nat) => (k : Int))

/-- The inputs as places. -/
def insN (g : Gr) : List (List Nat) := (insG g).map fun l => l.map Int.toNat

theorem insN_len (g : Gr) : (insN g).length = g.nodes.length := by simp [insN, insG]
theorem insG_len (g : Gr) : (insG g).length = g.nodes.length := by simp [insG]

theorem insG_get (g : Gr) (i : Nat) (hi : i < g.nodes.length) : (insG g).getD i [] = insL g.nodes.length g.nodes[i].ins := by simp [insG, List.getD, hi]
theorem insN_get (g : Gr) (i : Nat) : (insN g).getD i [] = ((insG g).getD i []).map Int.toNat := by
  simp only [insN, List.getD, List.getElem?_map]
  cases (insG g)[i]? <;> simp

theorem insG_mem (g : Gr) (i : Nat) (hi : i < g.nodes.length) : ((insG g).getD i []).Nodup ∧ ∀ x ∈ (insG g).getD i [], 0 ≤ x ∧ x < g.nodes.length := by
  rw [insG_get g i hi]
  obtain ⟨h1, h2⟩ := insL_nodup g.nodes.length g.nodes[i].ins
  exact ⟨h1, fun x hx => ((h2 x).1 hx).2⟩

theorem mem_toNat {l : List Int} (h : ∀ x ∈ l, 0 ≤ x) (k : Nat) : k ∈ l.map Int.toNat ↔ (k : Int) ∈ l := by
  rw [List.mem_map]
  constructor
  · rintro ⟨x, hx, rfl⟩
    rw [Int.toNat_of_nonneg (h x hx)]
    exact hx
  · intro hk
    exact ⟨k, hk, by simp⟩

theorem nodup_toNat {l : List Int} (h : ∀ x ∈ l, 0 ≤ x) (hn : l.Nodup) : (l.map Int.toNat).Nodup := by
  induction l with
  | nil => simp
  | cons a l ih =>
    rw [List.nodup_cons] at hn
    rw [List.map_cons, List.nodup_cons]
    refine ⟨fun hm => hn.1 ?_, ih (fun x hx => h x (by simp [hx])) hn.2⟩
    rw [mem_toNat (fun x hx => h x (by simp [hx]))] at hm
    rwa [Int.toNat_of_nonneg (h a (by simp))] at hm

theorem insN_mem (g : Gr) (i : Nat) (hi : i < g.nodes.length) (k : Nat) : k ∈ (insN g).getD i [] ↔ (k : Int) ∈ (insG g).getD i [] := by
  rw [insN_get]
  exact mem_toNat (fun x hx => ((insG_mem g i hi).2 x hx).1) k

theorem insN_nodup (g : Gr) (i : Nat) (hi : i < g.nodes.length) : ((insN g).getD i []).Nodup := by
  rw [insN_get]
  exact nodup_toNat (fun x hx => ((insG_mem g i hi).2 x hx).1) (insG_mem g i hi).1

/-- Who has k as an input. -/
theorem usesL_mem (g : Gr) (k : Nat) : (∀ x ∈ usesL (insG g) g.nodes.length 0 k, 0 ≤ x) ∧ (∀ u : Nat, (u : Int) ∈ usesL (insG g) g.nodes.length 0 k ↔ u < g.nodes.length ∧ k ∈ (insN g).getD u []) ∧ (usesL (insG g) g.nodes.length 0 k).Nodup := by
  have e : usesL (insG g) g.nodes.length 0 k = ci ((List.range g.nodes.length).filter (fun (j : Nat) => decide ((k : Int) ∈ (insG g).getD j []))) := by
    simp [usesL, ci]
  rw [e]
  refine ⟨fun x hx => ?_, fun u => ?_, ?_⟩
  · obtain ⟨y, _, rfl⟩ := List.mem_map.1 hx
    omega
  · rw [List.mem_map]
    constructor
    · rintro ⟨y, hy, hyu⟩
      obtain rfl : y = u := by omega
      rw [List.mem_filter, List.mem_range] at hy
      exact ⟨hy.1, (insN_mem g y hy.1 k).2 (by simpa using hy.2)⟩
    · rintro ⟨hu, hk⟩
      exact ⟨u, List.mem_filter.2 ⟨List.mem_range.2 hu, by simpa using (insN_mem g u hu k).1 hk⟩, rfl⟩
  · have hn : ((List.range g.nodes.length).filter (fun (j : Nat) => decide ((k : Int) ∈ (insG g).getD j []))).Nodup := List.nodup_range.filter _
    exact List.Pairwise.map _ (fun a b hab => by omega) hn

/-- The heap and the counts, as both loops have them. -/
structure HL (w : World) (base Lb N n : Nat) (vh : Value) (xs lf : List Int) (nx : List Nat) : Prop where
  pl : PlAt w N base vh xs
  perm : xs.Perm (ci nx)
  left : w.ownsRow base 3 1 (.slice (some ⟨Lb, 0, none⟩) n n) n (iv lf)
  LN : Lb ≠ N
  LH : vh.ownBlock ≠ some Lb
  baseN : base ≤ N

theorem HL.mod {w w' : World} {base Lb N n : Nat} {vh : Value} {xs lf : List Int} {nx : List Nat} (h : HL w base Lb N n vh xs lf nx) {S : Nat → Prop} (hm : Mod S w w') (hs : ∀ b, base ≤ b → b < w.heap.size → ¬ S b) : HL w' base Lb N n vh xs lf nx :=
  ⟨⟨h.pl.cell.mod hm (hs _ h.baseN h.pl.cell.lt), ownsRow_mod h.pl.own hm (fun b hb => hs b (h.pl.own.lt b hb).1 (h.pl.own.lt b hb).2), h.pl.apart⟩, h.perm,
    ownsRow_mod h.left hm (fun b hb => hs b (h.left.lt b hb).1 (h.left.lt b hb).2), h.LN, h.LH, h.baseN⟩

/-- A count stored. -/
theorem HL.store {w : World} {base Lb N n : Nat} {vh : Value} {xs lf : List Int} {nx : List Nat} (h : HL w base Lb N n vh xs lf nx) (i : Nat) (x : Int) :
    HL (w.setCell ⟨Lb, i, none⟩ (.int .i64 x)) base Lb N n vh xs (lf.set i x) nx := by
  have hm := Mod.setCell w ⟨Lb, i, none⟩ (.int .i64 x)
  obtain ⟨s1, _⟩ := h.left.stored i (.int .i64 x)
  refine ⟨⟨h.pl.cell.mod hm (fun e => h.LN e.symm), ownsRow_mod h.pl.own hm (fun b hb e => h.LH (by simp at e; rw [← e]; exact hb)), h.pl.apart⟩, h.perm, ?_, h.LN, h.LH, h.baseN⟩
  rw [iv_set]
  exact s1

/-- Behind a push. -/
theorem HL.push {w w' : World} {base Lb N n : Nat} {vh : Value} {xs lf : List Int} {nx : List Nat} (h : HL w base Lb N n vh xs lf nx) {e : Ending} {i : Nat} (hp : HPushPost w N base vh i xs e w') :
    e = .returned (.tuple #[]) ∧ ∃ vh' xs', HL w' base Lb N n vh' xs' lf (i :: nx) ∧ Mod (Own2 N vh) w w' ∧ Lies w vh vh' := by
  obtain ⟨v', ys, rfl, hperm, hpl, hmod, hlies⟩ := hp
  have hLw : Lb < w.heap.size := (h.left.lt _ rfl).2
  refine ⟨rfl, v', ys, ⟨hpl, hperm.trans (List.Perm.cons _ h.perm), ?_, h.LN, ?_, h.baseN⟩, hmod, hlies⟩
  · exact ownsRow_mod h.left hmod (fun b hb hs => by
      simp [Value.ownBlock] at hb
      subst hb
      rcases hs with hs | hs
      · exact h.LN hs
      · exact h.LH hs)
  · rcases hlies with hl | ⟨g, hg, hge⟩
    · rw [hl]; exact h.LH
    · rw [hg]
      intro e
      have := Option.some.inj e
      omega

/-- Behind a pop. -/
theorem HL.pop {w w' : World} {base Lb N n : Nat} {vh : Value} {xs lf : List Int} {nx : List Nat} (h : HL w base Lb N n vh xs lf nx) {e : Ending} (hp : HPopPost w N base vh xs e w') :
    ∃ k nx' vh' xs', e = .returned (.iface 3 (.int .i64 ((k : Nat) : Int))) ∧ nx.Perm (k :: nx') ∧ HL w' base Lb N n vh' xs' lf nx' ∧ Mod (Own2 N vh) w w' ∧ vh'.ownBlock = vh.ownBlock := by
  obtain ⟨v', x, ys, rfl, hperm, hpl, hmod, hob⟩ := hp
  have hall : (ci nx).Perm (x :: ys) := h.perm.symm.trans hperm
  have hx : x ∈ ci nx := hall.mem_iff.2 (by simp)
  obtain ⟨k, hk, rfl⟩ := List.mem_map.1 hx
  have hpk : nx.Perm (k :: nx.erase k) := List.perm_cons_erase hk
  have hys : ys.Perm (ci (nx.erase k)) := by
    have h1 : (ci nx).Perm (((k : Nat) : Int) :: ci (nx.erase k)) := hpk.map _
    exact (List.Perm.cons_inv (hall.symm.trans h1))
  refine ⟨k, nx.erase k, v', ys, rfl, hpk, ⟨hpl, hys, ?_, h.LN, ?_, h.baseN⟩, hmod, hob⟩
  · exact ownsRow_mod h.left hmod (fun b hb hs => by
      simp [Value.ownBlock] at hb
      subst hb
      rcases hs with hs | hs
      · exact h.LN hs
      · exact h.LH hs)
  · rw [hob]; exact h.LH

/-- Ahead of a round of the first loop. -/
def L1 (base Lb N n : Nat) (G : List (List Int)) (i : Nat) (w : World) : Prop :=
  ∃ vh xs lf nx, HL w base Lb N n vh xs lf nx ∧ lf.length = n ∧ (∀ j, j < i → lf.getD j 0 = ((G.getD j []).length : Int)) ∧ nx.Nodup ∧ ∀ j, j ∈ nx ↔ j < i ∧ G.getD j [] = []

/-- What the second loop may turn of what was there ahead of it. -/
def S0 (Lb N : Nat) (vh0 : Value) : Nat → Prop := fun b => b = Lb ∨ b = N ∨ vh0.ownBlock = some b

/-- How the heap's row and the order's lie. -/
structure Away (ws : World) (Lb : Nat) (vh0 vh vo : Value) : Prop where
  heap : vh.ownBlock = vh0.ownBlock ∨ ∃ g, vh.ownBlock = some g ∧ ws.heap.size ≤ g
  out : ∀ b, vo.ownBlock = some b → ws.heap.size ≤ b ∧ vh.ownBlock ≠ some b

/-- Ahead of a round of the second loop. -/
def L2 (base Lb N n : Nat) (G : List (List Nat)) (ws : World) (vh0 : Value) (vo : Value) (w : World) : Prop :=
  ∃ out vh xs lf nx, HL w base Lb N n vh xs lf nx ∧ KInv G out nx lf ∧ w.ownsRow ws.heap.size 3 1 vo out.length (iv (ci out)) ∧ Mod (S0 Lb N vh0) ws w ∧ Away ws Lb vh0 vh vo

/-- Ahead of a round of the third loop. -/
def L3 (base Lb N n : Nat) (G : List (List Nat)) (ws : World) (vh0 : Value) (vo : Value) (out : List Nat) (k : Nat) (told : List Nat) (w : World) : Prop :=
  ∃ vh xs lf nx, HL w base Lb N n vh xs lf nx ∧ KIn G out k told nx lf ∧ w.ownsRow ws.heap.size 3 1 vo (out ++ [k]).length (iv (ci (out ++ [k]))) ∧ Mod (S0 Lb N vh0) ws w ∧ Away ws Lb vh0 vh vo

def lenV : Value → Nat | .slice _ n _ => n | _ => 0

/-- What comes back: an order of what is sure to lead nowhere round. -/
def AllPost (w : World) (g : Gr) (e : Ending) (w' : World) : Prop :=
  ∃ v out, e = .returned v ∧ w'.ownsRow w.heap.size 3 1 v out.length (iv (ci out)) ∧ IsOrder (insN g) out ∧ Below w.heap.size w w'

end Go.Proofs.YtlpieeeeolfclaaGreatDoor

/- order.All: the walk. -/
set_option maxRecDepth 100000
namespace Go.Proofs.YtlpieeeeolfclaaGreatDoor
open Go.RowKit Go.Gou

set_option maxHeartbeats 4000000 in
theorem all_ord (w : World) (v : Value) (g : Gr) (hg : GrV w v g) (hok : GrOk g) :
    Calls Tryz.prog 24 #[v] w (AllPost w g) := by
  obtain ⟨i0, hi0, hz0, hz1, hz2⟩ := info_parts info_int
  have Hg := Lib.hid hg
  have Hok := Lib.hid hok
  have hfew := hok.few
  obtain ⟨p, cap, rfl⟩ := hg.form
  clear hg hok
  go_enter Tryz.func24, Tryz.ntmps24
  go_wp2_with (first
    | (at_make; refine wpList_make_full _ rfl _ _ 35 rfl w.heap.size 3 i0 (.int .i64 0) 1 Tryz.underlying35 hi0 hz0 hz1 _ _ _ _ g.nodes.length rfl rfl rfl rfl ?b1 ?b2 ?b3 ?_))
  case b1 => rw [hz2]; omega
  case b2 => unfold maxLen; omega
  case b3 => simp
  intro w1 hown hgrow
  have hzb1 : w.heap.size + 1 < w1.heap.size := (hown.lt _ rfl).2
  have hb1 : Below (w.heap.size + 1) (w.alloc (.cells #[.slice p g.nodes.length cap, .int .i64 g.out] 24)) w1 := (Below.refl _ _).grown hgrow (by simp) (fun k e => by cases e)
  have hc0 : w1.cell? ⟨w.heap.size, 0, none⟩ = some (.slice p g.nodes.length cap) := by rw [hb1.cell (p := ⟨w.heap.size, 0, none⟩) (by simp)]; simp [go_sem]
  have hc1 : w1.cell? ⟨w.heap.size, 1, none⟩ = some (.int .i64 g.out) := by rw [hb1.cell (p := ⟨w.heap.size, 1, none⟩) (by simp)]; simp [go_sem]
  have hbel : Below w.heap.size w w1 := ((Below.refl _ _).alloc (Nat.le_refl _) _).trans (hb1.mono (by omega))
  have hzb0 : w.heap.size < w1.heap.size := by omega
  have hst : L1 (w.heap.size + 1) (w.heap.size + 1) (w1.heap.size + 1) g.nodes.length (insG g) 0
      ((w1.alloc (.cells #[] 3)).alloc (.cells #[.slice (some ⟨w1.heap.size, 0, none⟩) 0 0] 75)) := by
    rw [toList_madeCells_one] at hown
    have hl1 : w1.ownsRow (w.heap.size + 1) 3 1 (.slice (some ⟨w.heap.size + 1, 0, none⟩) g.nodes.length g.nodes.length) g.nodes.length (List.replicate g.nodes.length (.int .i64 0)) := by
      refine ⟨hown.1, ?_⟩
      rcases hown.2 with ⟨h, _⟩ | ⟨g', cap', cur, hv, hg', r⟩
      · cases h
      · simp only [Value.slice.injEq, Option.some.injEq, Addr.mk.injEq, and_true] at hv
        obtain ⟨rfl, _, rfl⟩ := hv
        exact .inr ⟨_, _, cur, rfl, by omega, r⟩
    have hl2 := (hl1.alloc (.cells #[] 3)).alloc (.cells #[.slice (some ⟨w1.heap.size, 0, none⟩) 0 0] 75)
    refine ⟨.slice (some ⟨w1.heap.size, 0, none⟩) 0 0, [], List.replicate g.nodes.length 0, [], ⟨⟨?_, ?_, ?_⟩, List.Perm.refl _, by simpa [iv, List.map_replicate] using hl2, by omega, ?_, by omega⟩, by simp, fun j hj => by omega, by simp, fun j => by simp⟩
    · have := Cell1.new (w1.alloc (.cells #[] 3)) 75 (.slice (some ⟨w1.heap.size, 0, none⟩) 0 0)
      simpa using this
    · have := (World.ownsRow_lit (base := w.heap.size + 1) (e := 3) (size := 1) w1 #[] 0 (by omega) (by unfold maxLen; omega) (by simp)).alloc (.cells #[.slice (some ⟨w1.heap.size, 0, none⟩) 0 0] 75)
      simpa [iv] using this
    · simp [Value.ownBlock]
    · simp [Value.ownBlock]; omega
  have hbw : Below (w.heap.size + 1) w1 ((w1.alloc (.cells #[] 3)).alloc (.cells #[.slice (some ⟨w1.heap.size, 0, none⟩) 0 0] 75)) :=
    ((Below.refl _ _).alloc (by omega) _).alloc (by simp; omega) _
  have Hbel := Lib.hid hbel
  have Hst := Lib.hid hst
  have Hbw := Lib.hid hbw
  clear hbel hown hgrow hb1 hst hbw
  go_wp2_with fail
  go_loopw [20] (fun c wr => ∃ i : Nat, c = .int .i64 i ∧ i ≤ g.nodes.length ∧ L1 (w.heap.size + 1) (w.heap.size + 1) (w1.heap.size + 1) g.nodes.length (insG g) i wr ∧ Below (w.heap.size + 1) w1 wr) (fun c _ => g.nodes.length - (intOf c).toNat)
  case atStart => exact ⟨0, rfl, Nat.zero_le _, Hst.out, Hbw.out⟩
  case round =>
    obtain ⟨i, rfl, hi, hl1, hb⟩ := hrel
    clear Hst Hbw
    have hc0' : wr.cell? ⟨w.heap.size, 0, none⟩ = some (.slice p g.nodes.length cap) := by rw [hb.cell (p := ⟨w.heap.size, 0, none⟩) (by simp)]; exact hc0
    have hc1' : wr.cell? ⟨w.heap.size, 1, none⟩ = some (.int .i64 g.out) := by rw [hb.cell (p := ⟨w.heap.size, 1, none⟩) (by simp)]; exact hc1
    have hbw : Below w.heap.size w wr := Hbel.out.trans (hb.mono (by omega))
    have hzr : w1.heap.size ≤ wr.heap.size := hb.size
    have Hl1 := Lib.hid hl1
    have Hb := Lib.hid hb
    have Hbw := Lib.hid hbw
    clear hl1 hb hbw
    by_cases hlt : i < g.nodes.length
    · have hin := inputs_any wr _ g i (Hg.out.up Hbw.out) hlt (by omega) (Hok.out.ins _ (List.getElem_mem hlt)) (Hok.out.wf _ (List.getElem_mem hlt))
      have Hin := Lib.hid hin
      clear hin
      have hGi := insG_get g i hlt
      have HGi := Lib.hid hGi
      have hml : (insL g.nodes.length g.nodes[i].ins).length ≤ 1000 := by
        have h1 := insL_len g.nodes.length g.nodes[i].ins g.nodes[i].ins.length
        rw [List.take_length] at h1
        have := Hok.out.ins _ (List.getElem_mem hlt)
        omega
      clear hGi
      generalize insL g.nodes.length g.nodes[i].ins = L at *
      go_wp2_with fail
      refine (Hin.out).mono ?_
      rintro e w2 ⟨v2, rfl, hown2, hb2⟩
      obtain ⟨p2, c2, rfl⟩ := ownsRow_form hown2
      obtain ⟨vh, xs, lf, nx, hHL, hll, hcnt, hnd, hmem⟩ := Hl1.out
      have hHL2 := hHL.mod (Mod.of_below hb2 (fun _ => False)) (fun _ _ _ h => h)
      have hfl := hHL2.left.frozenAt i
      have hcl := hHL2.left.cellAt i (by omega)
      have hel : (iv lf)[i]? = some (.int .i64 (lf.getD i 0)) := by simp [iv, List.getD, show i < lf.length by omega]
      rw [hel] at hcl
      have hLw : w.heap.size + 1 < w2.heap.size := by have := hb2.size; omega
      have hHL3 := hHL2.store i (L.length : Int)
      have hbel3 : Below (w.heap.size + 1) w1 (w2.setCell ⟨w.heap.size + 1, i, none⟩ (.int .i64 (L.length : Int))) := (Hb.out.trans (hb2.mono (by omega))).setCell (by simp) _
      have hll3 : (lf.set i (L.length : Int)).length = g.nodes.length := by simpa using hll
      have hcnt3 : ∀ j, j < i + 1 → (lf.set i (L.length : Int)).getD j 0 = (((insG g).getD j []).length : Int) := by
        intro j hj
        rw [getD_set _ _ _ (by omega)]
        by_cases e : j = i
        · subst e
          rw [if_pos rfl, HGi.out]
        · rw [if_neg e]
          exact hcnt j (by omega)
      have HHL3 := Lib.hid hHL3
      have Hbel3 := Lib.hid hbel3
      have Hll3 := Lib.hid hll3
      have Hcnt3 := Lib.hid hcnt3
      have Hnd := Lib.hid hnd
      have Hmem := Lib.hid hmem
      clear hHL3 hbel3 hll3 hcnt3 hnd hmem hHL hHL2 hll hcnt hown2 hb2 hel
      have hnxlen : nx.length ≤ 1000 := by
        have := nodup_length_le (m := List.range g.nodes.length) Hnd.out fun j hj => List.mem_range.2 (by have := ((Hmem.out j).1 hj).1; omega)
        rw [List.length_range] at this
        omega
      have hxlen : xs.length ≤ 1000 := by have := HHL3.out.perm.length_eq; simp [ci] at this; omega
      by_cases hL : L.length = 0
      · have hz : ((L.length : Nat) : Int) = 0 := by omega
        have h3 := HHL3.out
        have hb3 := Hbel3.out
        have hc3 := Hcnt3.out
        have hl3 := Hll3.out
        rw [hz] at h3 hb3 hc3 hl3
        have H3 := Lib.hid h3
        have HB3 := Lib.hid hb3
        have HC3 := Lib.hid hc3
        have HL3 := Lib.hid hl3
        have HLe := Lib.hid (List.eq_nil_of_length_eq_zero hL)
        clear h3 hb3 hc3 hl3 HHL3 Hbel3 Hcnt3 Hll3 hz
        go_wp2_with fail
        refine (heap_push _ _ (w.heap.size + 1) vh xs i H3.out.pl (by omega) (by simp; omega)).mono ?_
        rintro e w4 hpost
        obtain ⟨rfl, vh', xs', hHL4, hmod4, hlies4⟩ := H3.out.push hpost
        have hown2w : ∀ b, Own2 (w1.heap.size + 1) vh b → w.heap.size + 1 ≤ b := by
          intro b hb
          rcases hb with rfl | hb
          · omega
          · exact (H3.out.pl.own.lt b hb).1
        have hb4 : Below (w.heap.size + 1) w1 w4 := HB3.out.trans (hmod4.below (by simp; omega) (fun b hb hs => by have := hown2w b hs; omega))
        have hl4 : L1 (w.heap.size + 1) (w.heap.size + 1) (w1.heap.size + 1) g.nodes.length (insG g) (i + 1) w4 := by
          refine ⟨vh', xs', _, i :: nx, hHL4, HL3.out, HC3.out, List.nodup_cons.2 ⟨fun hm => by have := ((Hmem.out i).1 hm).1; omega, Hnd.out⟩, fun j => ?_⟩
          rw [List.mem_cons, Hmem.out]
          constructor
          · rintro (rfl | ⟨h1, h2⟩)
            · exact ⟨by omega, by rw [HGi.out, HLe.out]⟩
            · exact ⟨by omega, h2⟩
          · rintro ⟨h1, h2⟩
            by_cases e : j = i
            · exact .inl e
            · exact .inr ⟨by omega, h2⟩
        have Hb4 := Lib.hid hb4
        have Hl4 := Lib.hid hl4
        clear hb4 hl4 hown2w hHL4 hmod4 hlies4 hpost
        go_wp2_with fail
        go_roundw
        case rel => exact ⟨i + 1, by go_num, by omega, Hl4.out, Hb4.out⟩
        case measure => simp [intOf]; omega
      · have hne : ((L.length : Int) == 0) = false := beq_eq_false_iff_ne.2 (by omega)
        have hl4 : L1 (w.heap.size + 1) (w.heap.size + 1) (w1.heap.size + 1) g.nodes.length (insG g) (i + 1) (w2.setCell ⟨w.heap.size + 1, i, none⟩ (.int .i64 (L.length : Int))) := by
          refine ⟨vh, xs, _, nx, HHL3.out, Hll3.out, Hcnt3.out, Hnd.out, fun j => ?_⟩
          rw [Hmem.out]
          constructor
          · rintro ⟨h1, h2⟩
            exact ⟨by omega, h2⟩
          · rintro ⟨h1, h2⟩
            refine ⟨?_, h2⟩
            by_cases e : j = i
            · subst e
              rw [HGi.out] at h2
              rw [h2] at hL
              simp at hL
            · omega
        have Hl4 := Lib.hid hl4
        clear hl4
        go_wp2_with fail
        go_roundw
        case rel => exact ⟨i + 1, by go_num, by omega, Hl4.out, Hbel3.out⟩
        case measure => simp [intOf]; omega
    · obtain rfl : i = g.nodes.length := by omega
      obtain ⟨vh0, xs, lf, nx, hHL, hll, hcnt, hnd, hmem⟩ := Hl1.out
      have hlf : lf = (insN g).map fun l => (l.length : Int) := by
        apply List.ext_getElem
        · rw [hll, List.length_map, insN_len]
        · intro j h1 h2
          have := hcnt j (by omega)
          have hjl : j < (insG g).length := by rw [insG_len]; omega
          simp only [List.getD, List.getElem?_eq_getElem h1, List.getElem?_eq_getElem hjl, Option.getD_some] at this
          rw [this]
          simp [insN]
      have hst : KInv (insN g) [] nx lf := by
        rw [hlf]
        refine KInv.start hnd fun j => ?_
        rw [hmem, insN_len]
        constructor
        · rintro ⟨h1, h2⟩
          exact ⟨h1, by rw [insN_get, h2]; rfl⟩
        · rintro ⟨h1, h2⟩
          rw [insN_get] at h2
          exact ⟨h1, List.map_eq_nil_iff.1 h2⟩
      have Hst := Lib.hid hst
      have HHL := Lib.hid hHL
      clear hst hHL hll hcnt hnd hmem hlf
      go_wp2_with fail
      refine (uses_any wr _ g (Hg.out.up Hbw.out) Hok.out).mono ?_
      rintro e ws ⟨U, vs, rfl, hrows, hbs⟩
      rw [insG_len] at hrows ⊢
      have hzs : wr.heap.size ≤ ws.heap.size := hbs.size
      have hHLs := HHL.out.mod (Mod.of_below hbs (fun _ => False)) (fun _ _ _ h => h)
      have hNr : w1.heap.size + 1 < wr.heap.size := HHL.out.pl.cell.lt
      have hst2 : L2 (w.heap.size + 1) (w.heap.size + 1) (w1.heap.size + 1) g.nodes.length (insN g) ws vh0 (.slice none 0 0) ws :=
        ⟨[], vh0, xs, lf, nx, hHLs, Hst.out, World.ownsRow_nil _ _ _ _, Mod.refl _ _, ⟨.inl rfl, fun b hb => by simp [Value.ownBlock] at hb⟩⟩
      have hS0 : ∀ b, wr.heap.size ≤ b → ¬ S0 (w.heap.size + 1) (w1.heap.size + 1) vh0 b := by
        rintro b hb (rfl | rfl | h)
        · omega
        · omega
        · have := (HHL.out.pl.own.lt b h).2
          omega
      have hS1 : ∀ b, b < w.heap.size + 1 → ¬ S0 (w.heap.size + 1) (w1.heap.size + 1) vh0 b := by
        rintro b hb (rfl | rfl | h)
        · omega
        · omega
        · have := (HHL.out.pl.own.lt b h).1
          omega
      have hbws : Below w.heap.size w ws := Hbw.out.trans (hbs.mono (by have := Hbw.out.size; omega))
      obtain ⟨wu, hwu⟩ : ∃ wu : World, wu = wr := ⟨_, rfl⟩
      subst hwu
      have Hst2 := Lib.hid hst2
      have HS0 := Lib.hid hS0
      have HS1 := Lib.hid hS1
      have Hrows := Lib.hid hrows
      have Hbws := Lib.hid hbws
      clear hst2 hS0 hS1 hrows hbws hHLs hbs HHL Hst Hl1 Hb Hbw hc0' hc1' hc0 hc1
      have has := assert_int
      go_wp2_with fail
      go_loopw [7] (fun vo wr => L2 (w.heap.size + 1) (w.heap.size + 1) (w1.heap.size + 1) g.nodes.length (insN g) ws vh0 vo wr) (fun vo _ => g.nodes.length - lenV vo)
      case atStart => exact Hst2.out
      case round =>
        obtain ⟨out, vh, xs', lf', nx', hHL, hK, hown, hmod, haway⟩ := hrel
        clear Hst2
        obtain ⟨pvo, cvo, rfl⟩ := ownsRow_form hown
        obtain ⟨pvh, cvh, rfl⟩ := ownsRow_form hHL.pl.own
        have hcN := hHL.pl.cell.cell
        have hxl : xs'.length = nx'.length := by have := hHL.perm.length_eq; simpa [ci] using this
        have hnl : out.length + nx'.length ≤ g.nodes.length := by
          have := nodup_length_le (m := List.range (insN g).length) hK.nodup fun j hj => List.mem_range.2 (hK.lt j hj)
          rw [List.length_range, insN_len, List.length_append] at this
          exact this
        have HHL := Lib.hid hHL
        have HK := Lib.hid hK
        have Hown := Lib.hid hown
        have Hmod := Lib.hid hmod
        have Haway := Lib.hid haway
        have Hxl := Lib.hid hxl
        have hxle : xs'.length ≤ 1000 := by omega
        clear hHL hK hown hmod haway
        by_cases hn0 : nx'.length = 0
        · have hxz : ¬ (0 < (xs'.length : Int)) := by omega
          have hmaxx : xs'.length ≤ maxLen := by unfold maxLen; omega
          have Hn0 := Lib.hid hn0
          clear hn0 hxl
          go_wp2_with fail
          refine (len_any _ _ _ _ hmaxx).mono ?_
          rintro e w9 ⟨rfl, rfl⟩
          go_wp2_with fail
          go_ret
          obtain rfl := List.eq_nil_of_length_eq_zero Hn0.out
          exact ⟨_, out, rfl, ownsRow_base Hown.out (by have := Hbws.out.size; omega), HK.out.order, Hbws.out.trans ((Hmod.out.below (B := w.heap.size) (by have := Hbws.out.size; omega) (fun b hb => HS1.out b (by omega))))⟩
        · have hxp : (0 < (xs'.length : Int)) := by omega
          have hmaxx : xs'.length ≤ maxLen := by unfold maxLen; omega
          have hxp' : 0 < xs'.length := by omega
          have hout : out.length < g.nodes.length := by omega
          have Hn0 := Lib.hid hn0
          clear hn0 hxl
          go_wp2_with fail
          refine (len_any _ _ _ _ hmaxx).mono ?_
          rintro e w9 ⟨rfl, rfl⟩
          go_wp2_with fail
          refine (heap_pop _ _ (w.heap.size + 1) _ xs' HHL.out.pl (by omega) hxp').mono ?_
          rintro e w3 hpost
          obtain ⟨k, nx3, vh3, xs3, rfl, hp3, hHL3, hmod3, hob3⟩ := HHL.out.pop hpost
          have hKin := HK.out.pop hp3
          have hNs : w1.heap.size + 1 < ws.heap.size := by omega
          have hzw3 : ws.heap.size ≤ w3.heap.size := by have := Hmod.out.size; have := hmod3.size; omega
          have hvo3 := ownsRow_mod Hown.out hmod3 (fun b hb hs => by
            rcases hs with rfl | hs
            · have := (Hown.out.lt _ hb).1; omega
            · exact (Haway.out.out b hb).2 hs)
          have hm3 : Mod (S0 (w.heap.size + 1) (w1.heap.size + 1) vh0) ws w3 := Hmod.out.trans hmod3 (fun b hb hs => by
            rcases hs with rfl | hs
            · exact .inr (.inl rfl)
            · rcases Haway.out.heap with h | ⟨gg, h, hge⟩
              · exact .inr (.inr (h ▸ hs))
              · rw [h] at hs
                have := Option.some.inj hs
                omega)
          have haw3 : Away ws (w.heap.size + 1) vh0 vh3 (.slice pvo out.length cvo) := ⟨by rw [hob3]; exact Haway.out.heap, fun b hb => ⟨(Haway.out.out b hb).1, by rw [hob3]; exact (Haway.out.out b hb).2⟩⟩
          have hkn : k < g.nodes.length := by
            have := HK.out.lt k (by rw [List.mem_append]; exact .inr (hp3.mem_iff.2 (by simp)))
            rwa [insN_len] at this
          have HKin := Lib.hid hKin
          have HHL3 := Lib.hid hHL3
          have Hm3 := Lib.hid hm3
          have Haw3 := Lib.hid haw3
          clear hKin hHL3 hm3 haw3 hmod3 hob3 hp3 hpost
          go_wp2_with (at_builtin; refine wpList_append_lies _ rfl _ _ 35 rfl ws.heap.size 3 i0 (.int .i64 0) 1 8 Tryz.underlying35 hi0 hz0 hz1 hz2 rfl (by omega) _ out.length (iv (ci out)) rfl (hvo3.alloc _) ⟨w3.heap.size, 0, none⟩ 1 1 [.int .i64 ((k : Nat) : Int)] rfl rfl (cell_one_new _ _ _) (by simp [Value.oneCell']) (by omega) (by unfold maxLen; omega) (by omega) (by simp; omega) (w3.heap.size + 1) (by simp) ?_)
          intro go co w4 hown4 hgrow4 hat4 hlt4
          have hm34 : Mod (fun b => (Value.slice pvo out.length cvo).ownBlock = some b) w3 w4 := (Mod.alloc _ w3 _).trans (Mod.of_grown hgrow4) (fun _ _ h => h)
          have hHL4 : HL w4 (w.heap.size + 1) (w.heap.size + 1) (w1.heap.size + 1) g.nodes.length vh3 xs3 lf' nx3 := by
            have h := HHL3.out
            have hvob : ∀ b, (Value.slice pvo out.length cvo).ownBlock = some b → ws.heap.size ≤ b ∧ vh3.ownBlock ≠ some b := Haw3.out.out
            exact ⟨⟨h.pl.cell.mod hm34 (fun e => by have := (hvob _ e).1; omega), ownsRow_mod h.pl.own hm34 (fun b hb e => (hvob b e).2 hb), h.pl.apart⟩, h.perm,
              ownsRow_mod h.left hm34 (fun b hb e => by
                have h1 := (hvob b e).1
                simp [Value.ownBlock] at hb
                omega), h.LN, h.LH, h.baseN⟩
          have hm4 : Mod (S0 (w.heap.size + 1) (w1.heap.size + 1) vh0) ws w4 := Hm3.out.trans hm34 (fun b hb e => by have := (Haw3.out.out b e).1; omega)
          have hgo : ws.heap.size ≤ go := by
            rcases hat4 with h | rfl
            · exact (Haw3.out.out go h).1
            · omega
          have haw4 : Away ws (w.heap.size + 1) vh0 vh3 (.slice (some ⟨go, 0, none⟩) (out.length + 1) co) := by
            refine ⟨Haw3.out.heap, fun b hb => ?_⟩
            obtain rfl : go = b := by simpa [Value.ownBlock] using hb
            refine ⟨hgo, fun e => ?_⟩
            rcases hat4 with h | rfl
            · exact (Haw3.out.out go h).2 e
            · have := (HHL3.out.pl.own.lt _ e).2
              omega
          have hown4' : w4.ownsRow ws.heap.size 3 1 (.slice (some ⟨go, 0, none⟩) (out.length + 1) co) (out ++ [k]).length (iv (ci (out ++ [k]))) := by simpa [iv, ci] using hown4
          have hst3 : L3 (w.heap.size + 1) (w.heap.size + 1) (w1.heap.size + 1) g.nodes.length (insN g) ws vh0 (.slice (some ⟨go, 0, none⟩) (out.length + 1) co) out k [] w4 :=
            ⟨vh3, xs3, lf', nx3, hHL4, HKin.out, hown4', hm4, haw4⟩
          have hr4 := Hrows.out.mod hm4 (fun b hb _ => HS0.out b hb)
          have hck := hr4.top.cellAt k (by omega)
          have hek : vs[k]? = some (vs.getD k undef) := by simp [List.getD, show k < vs.length by rw [hr4.len]; exact hkn]
          rw [hek] at hck
          obtain ⟨pk, ck, hvk⟩ := ownsRow_form (hr4.row k hkn)
          rw [hvk] at hck
          have hrk := Hrows.out.row k hkn
          rw [hvk] at hrk
          obtain ⟨hu1, hu2, hu3⟩ := usesL_mem g k
          have hul : (usesL (insG g) g.nodes.length 0 k).length ≤ 2000 := by have := usesL_len (insG g) g.nodes.length 0 k; omega
          have Hst3 := Lib.hid hst3
          have Hrk := Lib.hid hrk
          have Hu1 := Lib.hid hu1
          have Hu2 := Lib.hid hu2
          have Hu3 := Lib.hid hu3
          clear hst3 hrk hu1 hu2 hu3 hr4 hek hvk hown4' haw4 hm4 hHL4 hm34 hown4 hgrow4 hat4 hvo3
          have hk0 : (0 : Int) ≤ (k : Int) := by omega
          have hkn' : (k : Int) < (g.nodes.length : Int) := by omega
          generalize usesL (insG g) g.nodes.length 0 k = row at *
          go_wp2_with fail
          obtain ⟨wo, rfl⟩ : ∃ wo : World, wo = wr := ⟨_, rfl⟩
          go_loopw [61] (fun c wr => ∃ t : Nat, c = .int .i64 t ∧ t ≤ row.length ∧ L3 (w.heap.size + 1) (w.heap.size + 1) (w1.heap.size + 1) g.nodes.length (insN g) ws vh0 (.slice (some ⟨go, 0, none⟩) (out.length + 1) co) out k ((row.take t).map Int.toNat) wr) (fun c _ => row.length - (intOf c).toNat)
          case atStart => exact ⟨0, rfl, Nat.zero_le _, Hst3.out⟩
          case round =>
            obtain ⟨t, rfl, ht, vh5, xs5, lf5, nx5, hHL5, hK5, hown5, hm5, haw5⟩ := hrel
            clear Hst3
            by_cases htl : t < row.length
            · have hux := Hu1.out _ (List.getElem_mem htl)
              obtain ⟨u, hu⟩ : ∃ u : Nat, row[t] = (u : Int) := ⟨row[t].toNat, by omega⟩
              have hum := (Hu2.out u).1 (by rw [← hu]; exact List.getElem_mem htl)
              obtain ⟨hun, hku⟩ := hum
              have htold : u ∉ (row.take t).map Int.toNat := by
                rw [mem_toNat (fun x hx => Hu1.out x (List.mem_of_mem_take hx)), ← hu]
                intro hm
                obtain ⟨j, hj, hje⟩ := List.mem_take_iff_getElem.1 hm
                have := (List.getElem_inj (i := j) (j := t) Hu3.out).1 hje
                omega
              have htk : (row.take (t + 1)).map Int.toNat = (row.take t).map Int.toNat ++ [u] := by
                rw [List.take_succ_eq_append_getElem htl, List.map_append, hu]
                simp
              have hr5 := ownsRow_mod Hrk.out hm5 (fun b hb => HS0.out b (Hrk.out.lt b hb).1)
              obtain ⟨gk, ck', hvk5, _, _⟩ := hr5.form (by omega)
              simp only [Value.slice.injEq] at hvk5
              obtain ⟨rfl, _, rfl⟩ := hvk5
              have hct := hr5.cellAt t (by omega)
              have het : (iv row)[t]? = some (.int .i64 (u : Int)) := by simp [iv, htl, hu]
              rw [het] at hct
              have hcl := hHL5.left.cellAt u (by omega)
              have hlen5 : lf5.length = g.nodes.length := by rw [hK5.len, insN_len]
              have hel : (iv lf5)[u]? = some (.int .i64 (lf5.getD u 0)) := by simp [iv, List.getD, show u < lf5.length by omega]
              rw [hel] at hcl
              have hfl := hHL5.left.frozenAt u
              have hcount := hK5.count u (by rw [insN_len]; exact hun)
              have hrl := rest_le out ((insN g).getD u [])
              have hil : ((insN g).getD u []).length ≤ 1000 := by
                rw [insN_get, List.length_map, insG_get g u hun]
                have h1 := insL_len g.nodes.length g.nodes[u].ins g.nodes[u].ins.length
                rw [List.take_length] at h1
                have := Hok.out.ins _ (List.getElem_mem hun)
                omega
              have hlb : -1 ≤ lf5.getD u 0 ∧ lf5.getD u 0 ≤ 1000 := by
                rw [hcount]
                split <;> omega
              have htell := hK5.tell (u := u) (by rw [insN_len]; exact hun) hku htold
              have hHL6 := hHL5.store u (lf5.getD u 0 - 1)
              have hLws : w.heap.size + 1 < ws.heap.size := by omega
              have hm6 : Mod (S0 (w.heap.size + 1) (w1.heap.size + 1) vh0) ws (wr.setCell ⟨w.heap.size + 1, u, none⟩ (.int .i64 (lf5.getD u 0 - 1))) := hm5.trans (Mod.setCell _ _ _) (fun b _ e => .inl e)
              have hown6 := ownsRow_mod hown5 (Mod.setCell wr ⟨w.heap.size + 1, u, none⟩ (.int .i64 (lf5.getD u 0 - 1))) (fun b hb e => by
                have h1 := (hown5.lt b hb).1
                simp at e
                omega)
              have hxl5 : xs5.length ≤ 1000 := by
                have h1 := hHL5.perm.length_eq
                have h2 := nodup_length_le (m := List.range (insN g).length) hK5.nodup fun j hj => List.mem_range.2 (hK5.lt j hj)
                rw [List.length_range, insN_len, List.length_append] at h2
                simp [ci] at h1
                omega
              have Htell := Lib.hid htell
              have HHL6 := Lib.hid hHL6
              have Hm6 := Lib.hid hm6
              have Hown6 := Lib.hid hown6
              have Haw5 := Lib.hid haw5
              have Htk := Lib.hid htk
              have hu0 : (0 : Int) ≤ (u : Int) := by omega
              have hun' : (u : Int) < (g.nodes.length : Int) := by omega
              have hzs6 : ws.heap.size ≤ wr.heap.size := hm5.size
              clear htell hHL6 hm6 hown6 haw5 htk hK5 hHL5 hown5 hm5 htold hku hcount hrl hil hr5 het hel hlen5 hux hu
              generalize lf5.getD u 0 = q at *
              by_cases hq : q - 1 = 0
              · have hq1 : q = 1 := by omega
                subst hq1
                have ht2 := Htell.out.2 (by omega)
                have h6 := HHL6.out
                have m6 := Hm6.out
                have o6 := Hown6.out
                rw [show (1 : Int) - 1 = 0 from rfl] at h6 m6 o6 ht2
                have Ht2 := Lib.hid ht2
                have H6 := Lib.hid h6
                have M6 := Lib.hid m6
                have O6 := Lib.hid o6
                clear ht2 Htell hq h6 m6 o6 HHL6 Hm6 Hown6
                go_wp2_with fail
                refine (heap_push _ _ (w.heap.size + 1) vh5 xs5 u H6.out.pl (by omega) (by simp; omega)).mono ?_
                rintro e w7 hpost
                obtain ⟨rfl, vh7, xs7, hHL7, hmod7, hlies7⟩ := H6.out.push hpost
                have hown7 := ownsRow_mod O6.out hmod7 (fun b hb hs => by
                  have h1 := Haw5.out.out b hb
                  rcases hs with rfl | hs
                  · omega
                  · exact h1.2 hs)
                have hm7 : Mod (S0 (w.heap.size + 1) (w1.heap.size + 1) vh0) ws w7 := M6.out.trans hmod7 (fun b hb hs => by
                  rcases hs with rfl | hs
                  · exact .inr (.inl rfl)
                  · rcases Haw5.out.heap with h | ⟨gg, h, hge⟩
                    · exact .inr (.inr (h ▸ hs))
                    · rw [h] at hs
                      have := Option.some.inj hs
                      omega)
                have haw7 : Away ws (w.heap.size + 1) vh0 vh7 (.slice (some ⟨go, 0, none⟩) (out.length + 1) co) := by
                  rcases hlies7 with hl | ⟨gg, hl, hge⟩
                  · exact ⟨by rw [hl]; exact Haw5.out.heap, fun b hb => ⟨(Haw5.out.out b hb).1, by rw [hl]; exact (Haw5.out.out b hb).2⟩⟩
                  · refine ⟨.inr ⟨gg, hl, by simp at hge; omega⟩, fun b hb => ⟨(Haw5.out.out b hb).1, ?_⟩⟩
                    rw [hl]
                    intro e
                    have h1 := Option.some.inj e
                    have h2 := (O6.out.lt b hb).2
                    omega
                have hK7 := Ht2.out _ (List.Perm.refl (u :: nx5))
                have HK7 := Lib.hid hK7
                have HHL7 := Lib.hid hHL7
                have Hown7 := Lib.hid hown7
                have Hm7 := Lib.hid hm7
                have Haw7 := Lib.hid haw7
                clear hK7 hHL7 hown7 hm7 haw7 hmod7 hlies7 hpost Ht2
                go_wp2_with fail
                go_roundw
                case rel => exact ⟨t + 1, by go_num, by omega, vh7, xs7, _, _, HHL7.out, by rw [Htk.out]; exact HK7.out, Hown7.out, Hm7.out, Haw7.out⟩
                case measure => simp [intOf]; omega
              · have ht1 := Htell.out.1 hq
                have hq1 : ((q - 1) == 0) = false := beq_eq_false_iff_ne.2 (by omega)
                have Ht1 := Lib.hid ht1
                clear ht1 Htell hq
                go_wp2_with fail
                go_roundw
                case rel => exact ⟨t + 1, by go_num, by omega, vh5, xs5, _, nx5, HHL6.out, by rw [Htk.out]; exact Ht1.out, Hown6.out, Hm6.out, Haw5.out⟩
                case measure => simp [intOf]; omega
            · obtain rfl : t = row.length := by omega
              have hfin := hK5.finish (fun i hi => insN_nodup g i (by rwa [insN_len] at hi)) (fun i hi => by
                rw [insN_len] at hi
                rw [List.take_length, mem_toNat Hu1.out, Hu2.out]
                exact ⟨fun h => h.2, fun h => ⟨hi, h⟩⟩)
              have hl2 : L2 (w.heap.size + 1) (w.heap.size + 1) (w1.heap.size + 1) g.nodes.length (insN g) ws vh0 (.slice (some ⟨go, 0, none⟩) (out.length + 1) co) wr := ⟨out ++ [k], vh5, xs5, lf5, nx5, hHL5, hfin, hown5, hm5, haw5⟩
              have Hl2 := Lib.hid hl2
              clear hl2 hfin hHL5 hK5 hown5 hm5 haw5
              go_wp2_with fail
              go_roundw
              case rel => exact Hl2.out
              case measure => simp [lenV]; omega

end Go.Proofs.YtlpieeeeolfclaaGreatDoor

/- order.Round. -/
set_option maxRecDepth 100000
namespace Go.Proofs.YtlpieeeeolfclaaGreatDoor
open Go.RowKit Go.Gou

open Classical in
/-- Some node leads round. -/
noncomputable def roundB (g : Gr) : Bool := decide (∃ i, i < g.nodes.length ∧ ¬ Done (insN g) i)

theorem round_len {g : Gr} {out : List Nat} (h : IsOrder (insN g) out) : decide (out.length < g.nodes.length) = roundB g := by
  have := h.round
  rw [insN_len] at this
  unfold roundB
  rw [decide_eq_decide]
  exact this

end Go.Proofs.YtlpieeeeolfclaaGreatDoor

/- The node check: pixels, tiles, matrices. -/
set_option maxRecDepth 100000
namespace Go.Proofs.YtlpieeeeolfclaaGreatDoor
open Go.RowKit Go.Gou

theorem wrap_u8 {x : Int} (h0 : 0 ≤ x) (h1 : x ≤ 255) : IntKind.u8.wrap x = x := by
  simp [IntKind.wrap, IntKind.signed, IntKind.bits]; omega

def pxRight (a b c d : Int) : Bool := decide (a ≤ d) && (decide (b ≤ d) && decide (c ≤ d))

def matB (m : List Int) : Bool := decide (m.length = 20) && m.all (withinB (-32768) 32767)

/-- Of four numbers at least, the first four: in 0 to 255, and a right pixel. -/
def pixB (l : List Int) : Bool := l.all (withinB 0 255) && pxRight (l.getD 0 0) (l.getD 1 0) (l.getD 2 0) (l.getD 3 0)

theorem within_getD {lo hi : Int} {l : List Int} (h : l.all (withinB lo hi) = true) {i : Nat} (hi' : i < l.length) : lo ≤ l.getD i 0 ∧ l.getD i 0 ≤ hi := by
  rw [List.all_eq_true] at h
  have := h l[i] (List.getElem_mem hi')
  simp only [withinB, Bool.and_eq_true, decide_eq_true_eq] at this
  simpa [List.getD, hi'] using this

def tileB (l : List Int) : Bool :=
  decide (0 < l.getD 2 0 - l.getD 0 0) && decide (0 < l.getD 3 0 - l.getD 1 0) && decide (l.getD 2 0 - l.getD 0 0 ≤ 4096) && decide (l.getD 3 0 - l.getD 1 0 ≤ 4096)

def boundsB (n : GNode) : Bool :=
  if n.op = 1 ∨ n.op = 12 then n.ps.all (withinB (-1048576) 1048576)
  else if n.op = 2 ∨ n.op = 3 ∨ n.op = 4 then n.ps.all (withinB 0 255)
  else if n.op = 5 then matB n.ps
  else if n.op = 6 then pixB (n.ps.take 4) && (n.ps.drop 4).all (withinB (-1048576) 1048576)
  else if n.op = 7 then n.ps.all (withinB 0 6)
  else if n.op = 8 then n.ps.all (withinB 0 5)
  else if n.op = 10 then n.ps.all (withinB (-1048576) 1048576) && tileB n.ps
  else if n.op = 11 then (n.ps.take 2).all (withinB (-1048576) 1048576) && ((n.ps.drop 2).take 2).all (withinB 0 255) && pixB (n.ps.drop 4)
  else true

end Go.Proofs.YtlpieeeeolfclaaGreatDoor

/- The node check: the bounds of a node's parameters, kind by kind (written by gen_nodec.py). -/
set_option maxRecDepth 100000
namespace Go.Proofs.YtlpieeeeolfclaaGreatDoor
open Go.RowKit Go.Gou

theorem eqF {a b : Int} (h : a ≠ b) : (a == b) = false := by simpa using h

theorem bounds_start (w w1 w2 : World) (o : Obj) (hb1 : Below (w.alloc o).heap.size (w.alloc o) w1) (hb2 : Below w1.heap.size w1 w2) : Below w.heap.size w w2 :=
  later_below ((Below.refl w.heap.size w).alloc (Nat.le_refl _) _) (later_below hb1 hb2)

end Go.Proofs.YtlpieeeeolfclaaGreatDoor

/- The node check: one node. -/
set_option maxRecDepth 100000
namespace Go.Proofs.YtlpieeeeolfclaaGreatDoor
open Go.RowKit Go.Gou

def aritB (n : GNode) : Bool := decide ((n.ins.length : Int) < (ofS n.op).1.1) || decide ((ofS n.op).1.2.1 < (n.ins.length : Int)) || !decide ((n.ps.length : Int) = (ofS n.op).1.2.2)

def oneS (n : GNode) (count : Int) : Int :=
  if (ofS n.op).2 = false then 1 else if aritB n = true then 7 else if n.ins.all (withinB (-1) (count - 1)) = false then 8 else if boundsB n = false then 3 else 0

/-- A node's value: its number, and its two lists. -/
def NodeV (w : World) (v : Value) (n : GNode) : Prop := ∃ vi vp, v = .agg #[.int .i64 n.op, vi, vp] ∧ IntsAt w.heap.size w vi n.ins ∧ IntsAt w.heap.size w vp n.ps

theorem ret_int {k : IntKind} {a b : Int} (h : a = b) : Ending.returned (.int k a) = .returned (.int k b) := by rw [h]

theorem Asks.up {w w1 : World} {v : Value} {xs : List Int} {q : Int → Bool} (h : Asks w.heap.size w v xs q) (hb : Below w.heap.size w w1) : Asks w1.heap.size w1 v xs q := by
  obtain ⟨f, caps, rfl, hr, h⟩ := h
  exact ⟨f, caps, rfl, hr, fun w' n hn hb' => h w' n hn (later_below hb hb')⟩

end Go.Proofs.YtlpieeeeolfclaaGreatDoor

/- The node check, whole. -/
set_option maxRecDepth 100000
namespace Go.Proofs.YtlpieeeeolfclaaGreatDoor
open Go.RowKit Go.Gou

/-- The first node that may not be says why. -/
def firstBad (count : Int) : List GNode → Int
  | [] => 0
  | n :: l => if oneS n count = 0 then firstBad count l else oneS n count

noncomputable def checkS (g : Gr) : Int :=
  if g.nodes.length = 0 ∨ 256 < g.nodes.length then 3
  else if firstBad g.nodes.length g.nodes ≠ 0 then firstBad g.nodes.length g.nodes
  else if g.out < 0 ∨ (g.nodes.length : Int) ≤ g.out then 8
  else if roundB g = true then 6 else 0

/-- A filter whose numbers are numbers of the machine. -/
structure GrWf (g : Gr) : Prop where
  op : ∀ n ∈ g.nodes, (Lit.int .i64 n.op).wf = true
  ins : ∀ n ∈ g.nodes, ∀ x ∈ n.ins, (Lit.int .i64 x).wf = true
  ps : ∀ n ∈ g.nodes, ∀ x ∈ n.ps, (Lit.int .i64 x).wf = true
  out : (Lit.int .i64 g.out).wf = true
  insl : ∀ n ∈ g.nodes, n.ins.length ≤ maxLen
  psl : ∀ n ∈ g.nodes, n.ps.length ≤ maxLen
  len : g.nodes.length ≤ maxLen

theorem firstBad_zero {count : Int} {l : List GNode} (h : firstBad count l = 0) : ∀ n ∈ l, oneS n count = 0 := by
  induction l with
  | nil => simp
  | cons a l ih =>
    unfold firstBad at h
    split at h
    · rename_i h0
      intro n hn
      rcases List.mem_cons.1 hn with rfl | hn
      · exact h0
      · exact ih h n hn
    · rename_i h0
      exact absurd h h0

theorem firstBad_take {count : Int} {l : List GNode} {k : Nat} (hk : k < l.length) (h : firstBad count (l.take k) = 0) : firstBad count (l.take (k + 1)) = oneS l[k] count ∧ (oneS l[k] count ≠ 0 → firstBad count l = oneS l[k] count) := by
  induction l generalizing k with
  | nil => simp at hk
  | cons a l ih =>
    cases k with
    | zero =>
      constructor
      · simp only [List.take_succ_cons, List.take_zero, firstBad, List.getElem_cons_zero]
        split
        · rename_i h0; exact h0.symm
        · rfl
      · intro hne
        simp only [List.getElem_cons_zero] at hne
        simp [firstBad, hne]
    | succ k =>
      simp only [List.take_succ_cons, firstBad] at h
      split at h
      · rename_i h0
        obtain ⟨h1, h2⟩ := ih (by simpa using hk) h
        constructor
        · rw [List.take_succ_cons]
          unfold firstBad
          rw [if_pos h0]
          simpa using h1
        · intro hne
          unfold firstBad
          rw [if_pos h0]
          simpa using h2 (by simpa using hne)
      · rename_i h0
        exact absurd h h0

theorem oneS_zero {n : GNode} {count : Int} (h : oneS n count = 0) : (ofS n.op).2 = true ∧ aritB n = false ∧ n.ins.all (withinB (-1) (count - 1)) = true ∧ boundsB n = true := by
  unfold oneS at h
  split at h
  · omega
  · rename_i h1
    split at h
    · omega
    · rename_i h2
      split at h
      · omega
      · rename_i h3
        split at h
        · omega
        · rename_i h4
          exact ⟨by simpa using h1, by simpa using h2, by simpa using h3, by simpa using h4⟩

theorem ite_ok {α : Type} {P : α → Prop} {c : Prop} [Decidable c] {a b : α} (ha : P a) (hb : P b) : P (if c then a else b) := by
  split
  · exact ha
  · exact hb

def MostOk (r : (Int × Int × Int) × Bool) : Prop := r.1.2.1 ≤ 8 ∧ 0 ≤ r.1.2.2 ∧ r.1.2.2 ≤ 20

theorem ofS_most (op : Int) : MostOk (ofS op) := by
  unfold ofS
  repeat (refine ite_ok (by unfold MostOk; decide) ?_)
  unfold MostOk
  decide

theorem oneS_ins {n : GNode} {count : Int} (h : oneS n count = 0) : n.ins.length ≤ 8 := by
  have := (oneS_zero h).2.1
  simp only [aritB, Bool.or_eq_false_iff, decide_eq_false_iff_not] at this
  have h2 : (ofS n.op).1.2.1 ≤ 8 := (ofS_most n.op).1
  omega

/-- What stands at the label 'over': the answer in its slot. -/
def OverC (w : World) (c : Int) (a : Act) (w' : World) : Prop :=
  ∃ u0 u1 u2 u4 u5 u6 u7 u8 u9 u10 u11 u12 u13 u14 u15 u16 u17 u18 u19 u20 u21 u22 u23 u24 u25 u26 u27 u28 u29 u30 u31 u32 u33 u34 u35 u36 u37 u38 u39 u40 u41 u42 u43 u44 u45 : Value, a = { tmps := #[u0, u1, u2, .int .i64 c, u4, u5, u6, u7, u8, u9, u10, u11, u12, u13, u14, u15, u16, u17, u18, u19, u20, u21, u22, u23, u24, u25, u26, u27, u28, u29, u30, u31, u32, u33, u34, u35, u36, u37, u38, u39, u40, u41, u42, u43, u44, u45], defers := [] } ∧ Below w.heap.size w w'
def Over (w : World) (g : Gr) (a : Act) (w' : World) : Prop := OverC w (checkS g) a w'
theorem over_of {w w' : World} {g : Gr} {c : Int} {a : Act} (h : checkS g = c) (ho : OverC w c a w') : Over w g a w' := by
  unfold Over
  rw [h]
  exact ho

end Go.Proofs.YtlpieeeeolfclaaGreatDoor

