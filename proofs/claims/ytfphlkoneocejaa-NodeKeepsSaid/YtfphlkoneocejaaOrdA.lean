/- order.inputs: a node's inputs that are nodes, each once. -/
import Derived.Test.YtfphlkoneocejaaHeapD
import Derived.Test.YtfphlkoneocejaaSet
import Derived.Test.YtfphlkoneocejaaNodeA
namespace Go.Proofs.Ytfphlkoneocejaa
open Go.RowKit Go.Gou

def okIn (n : Nat) (acc : List Int) (k : Int) : Bool := decide (0 ≤ k) && decide (k < n) && !decide (k ∈ acc)
def insStep (n : Nat) (acc : List Int) (k : Int) : List Int := if okIn n acc k = true then acc ++ [k] else acc
/-- A node's inputs that are nodes, each once, in the order in which they come. -/
def insL (n : Nat) (l : List Int) : List Int := l.foldl (insStep n) []

theorem insL_succ (n : Nat) (l : List Int) (k : Nat) (h : k < l.length) : insL n (l.take (k + 1)) = insStep n (insL n (l.take k)) l[k] := by
  unfold insL
  rw [List.take_succ_eq_append_getElem h, List.foldl_append]
  rfl

theorem insStep_len (n : Nat) (acc : List Int) (k : Int) : (insStep n acc k).length ≤ acc.length + 1 := by
  unfold insStep
  split <;> simp

theorem insL_len (n : Nat) (l : List Int) (k : Nat) : (insL n (l.take k)).length ≤ k := by
  induction k with
  | zero => simp [insL]
  | succ k ih =>
    by_cases h : k < l.length
    · rw [insL_succ n l k h]
      have := insStep_len n (insL n (l.take k)) l[k]
      omega
    · rw [List.take_of_length_le (by omega), ← List.take_of_length_le (show l.length ≤ k by omega)]
      omega

/-- What stands in it: each once, and just the inputs that are nodes. -/
theorem insL_nodup (n : Nat) (l : List Int) : (insL n l).Nodup ∧ ∀ x, x ∈ insL n l ↔ x ∈ l ∧ 0 ≤ x ∧ x < n := by
  suffices ∀ (l acc : List Int), acc.Nodup → (l.foldl (insStep n) acc).Nodup ∧ ∀ x, x ∈ l.foldl (insStep n) acc ↔ x ∈ acc ∨ (x ∈ l ∧ 0 ≤ x ∧ x < n) by
    have := this l [] (by simp)
    simpa [insL] using this
  intro l
  induction l with
  | nil => intro acc h; simpa using h
  | cons a l ih =>
    intro acc h
    have hs : (insStep n acc a).Nodup ∧ ∀ x, x ∈ insStep n acc a ↔ x ∈ acc ∨ (x = a ∧ 0 ≤ x ∧ x < n) := by
      unfold insStep
      split
      · rename_i hk
        simp only [okIn, Bool.and_eq_true, decide_eq_true_eq, Bool.not_eq_true', decide_eq_false_iff_not] at hk
        refine ⟨?_, fun x => ?_⟩
        · rw [List.nodup_append]
          exact ⟨h, by simp, fun y hy z hz e => hk.2 (by simp at hz; rw [← hz, ← e]; exact hy)⟩
        · simp only [List.mem_append, List.mem_singleton]
          constructor
          · rintro (h | rfl)
            · exact .inl h
            · exact .inr ⟨rfl, hk.1.1, hk.1.2⟩
          · rintro (h | ⟨rfl, _⟩)
            · exact .inl h
            · exact .inr rfl
      · rename_i hk
        refine ⟨h, fun x => ⟨.inl, ?_⟩⟩
        rintro (h' | ⟨rfl, h1, h2⟩)
        · exact h'
        · apply Classical.byContradiction
          intro hn
          exact hk (by simp [okIn, h1, h2, hn])
    obtain ⟨h1, h2⟩ := ih _ hs.1
    refine ⟨h1, fun x => ?_⟩
    rw [List.foldl_cons, h2, hs.2]
    simp only [List.mem_cons]
    constructor
    · rintro ((h | ⟨rfl, h⟩) | ⟨h, h'⟩)
      · exact .inl h
      · exact .inr ⟨.inl rfl, h⟩
      · exact .inr ⟨.inr h, h'⟩
    · rintro (h | ⟨(rfl | h), h'⟩)
      · exact .inl (.inl h)
      · exact .inl (.inr ⟨rfl, h'⟩)
      · exact .inr ⟨h, h'⟩

/-- A filter's value. -/
def GrV (w : World) (v : Value) (g : Gr) : Prop := ∃ vn, v = .agg #[vn, .int .i64 g.out] ∧ NodesAt w.heap.size w vn g.nodes

/-- What comes back: a row of the call's own. -/
def OwnInts (w : World) (xs : List Int) (e : Ending) (w' : World) : Prop :=
  ∃ v, e = .returned v ∧ w'.ownsRow w.heap.size 3 1 v xs.length (iv xs) ∧ Below w.heap.size w w'

theorem zero_bool (w : World) : (zeroValue 4).run Try.prog w = .ok (.bool false) w := by kernel_rfl

set_option maxHeartbeats 1000000 in
theorem inputs_any (w : World) (v : Value) (g : Gr) (at_ : Nat) (hg : GrV w v g) (hat : at_ < g.nodes.length) (hn : g.nodes.length ≤ 100000) (hl : g.nodes[at_].ins.length ≤ 1000)
    (hwf : ∀ x ∈ g.nodes[at_].ins, (Lit.int .i64 x).wf = true) :
    Calls Try.prog 24 #[v, .int .i64 at_] w (OwnInts w (insL g.nodes.length g.nodes[at_].ins)) := by
  obtain ⟨vn, rfl, p, cap, rfl, hcap, hp⟩ := hg
  rcases hp with hp | ⟨b, o, rfl, hb, hc⟩
  · rw [hp] at hat
    simp at hat
  obtain ⟨vi, h1, hi⟩ : ∃ vi, w.cell? ⟨b, o + at_ * 3 + 1, none⟩ = some vi ∧ IntsAt w.heap.size w vi g.nodes[at_].ins := by
    obtain ⟨vi, vp, _, h1, _, hi, _⟩ := hc at_ hat
    exact ⟨vi, h1, hi⟩
  clear hc
  obtain ⟨pi, ci, rfl, hci, hpi⟩ := hi
  obtain ⟨i0, hi0, hz0, hz1, hz2⟩ := info_parts info_int
  generalize g.nodes[at_].ins = ins at *
  generalize g.nodes.length = n at *
  have hmm := @run_makeMap Try.prog
  go_enter Try.func24, Try.ntmps24
  have hkb : (w.alloc (.cells #[.slice (some ⟨b, o, none⟩) n cap, .int .i64 g.out] 24)).heap.size = w.heap.size + 1 := by simp
  have Hkb := Lib.hid hkb
  clear hkb
  have hst : IntSet Try.prog 3 4 ((w.alloc (.cells #[.slice (some ⟨b, o, none⟩) n cap, .int .i64 g.out] 24)).alloc (.map #[] 0)) (w.heap.size + 1) 0 [] := by
    have := IntSet.made Try.prog 3 4 (w.alloc (.cells #[.slice (some ⟨b, o, none⟩) n cap, .int .i64 g.out] 24))
    rwa [Hkb.out] at this
  have Hst := Lib.hid hst
  clear hst
  have hbel : Below (w.heap.size + 1) (w.alloc (.cells #[.slice (some ⟨b, o, none⟩) n cap, .int .i64 g.out] 24)) ((w.alloc (.cells #[.slice (some ⟨b, o, none⟩) n cap, .int .i64 g.out] 24)).alloc (.map #[] 0)) :=
    (Below.refl _ _).alloc (by rw [Hkb.out]; exact Nat.le_refl _) _
  have Hbel := Lib.hid hbel
  clear hbel
  have hcellb : (w.alloc (.cells #[.slice (some ⟨b, o, none⟩) n cap, .int .i64 g.out] 24)).cell? ⟨w.heap.size, 0, none⟩ = some (.slice (some ⟨b, o, none⟩) n cap) := by simp [go_sem]
  have Hcellb := Lib.hid hcellb
  clear hcellb
  go_wp2_with fail
  go_loopw [5, 17] (fun v i wr => ∃ k : Nat, k ≤ ins.length ∧ i = .int .i64 k ∧ wr.ownsRow (w.heap.size + 2) 3 1 v (insL n (ins.take k)).length (iv (insL n (ins.take k))) ∧
      IntSet Try.prog 3 4 wr (w.heap.size + 1) k (insL n (ins.take k)) ∧ Below (w.heap.size + 1) (w.alloc (.cells #[.slice (some ⟨b, o, none⟩) n cap, .int .i64 g.out] 24)) wr) (fun _ i _ => ins.length - (intOf i).toNat)
  case atStart =>
    exact ⟨0, Nat.zero_le _, rfl, World.ownsRow_nil _ _ _ _, Hst.out, Hbel.out⟩
  case round =>
    obtain ⟨k, hk, rfl, hown, hset, hbel⟩ := hrel
    clear Hst Hbel
    by_cases hlt : k < ins.length
    · rcases hpi with rfl | ⟨b', o', rfl, hb', hc'⟩
      · simp at hlt
      have hx := hc' k hlt
      have hxw := hwf _ (List.getElem_mem hlt)
      clear hc' hwf
      have hx' : wr.cell? ⟨b', o' + k, none⟩ = some (.int .i64 ins[k]) := by
        rw [hbel.cell (p := ⟨b', o' + k, none⟩) (by simp; omega), World.cell?_alloc_lt (h := hb')]
        exact hx
      have hgb : wr.cell? ⟨w.heap.size, 0, none⟩ = some (.slice (some ⟨b, o, none⟩) n cap) := by
        rw [hbel.cell (p := ⟨w.heap.size, 0, none⟩) (by simp)]
        exact Hcellb.out
      clear hx
      have hs := insL_succ n ins k hlt
      have hlk := hset.look Try.underlying3 Try.underlying4 Try.underlying61 (zero_bool wr) hxw
      have hll := insL_len n ins k
      have Hset := Lib.hid hset
      have Hown := Lib.hid hown
      have Hbel := Lib.hid hbel
      have Hs := Lib.hid hs
      have hsz : w.heap.size + 1 < wr.heap.size := hset.lt
      clear hset hown hbel hs
      have hkeep : okIn n (insL n (ins.take k)) ins[k] = false → insL n (ins.take (k + 1)) = insL n (ins.take k) := fun h => by rw [Hs.out]; simp [insStep, h]
      have Hkeep := Lib.hid hkeep
      clear hkeep
      generalize hacc : insL n (ins.take k) = acc at *
      have Hacc := Lib.hid hacc
      clear hacc
      generalize ins[k] = x at *
      by_cases hx0 : x < 0
      · have hk0 : okIn n acc x = false := by simp [okIn]; omega
        have Hk0 := Lib.hid hk0
        clear hk0 hlk
        go_wp2_with fail
        go_roundw
        case rel => exact ⟨k + 1, by omega, by go_num, by rw [Hkeep.out Hk0.out]; exact Hown.out, by rw [Hkeep.out Hk0.out]; exact Hset.out.mono (by omega), Hbel.out⟩
        case measure => simp [intOf]; omega
      · by_cases hxn : n ≤ x
        · have hk0 : okIn n acc x = false := by simp [okIn]; omega
          have Hk0 := Lib.hid hk0
          clear hk0 hlk
          go_wp2_with fail
          go_roundw
          case rel => exact ⟨k + 1, by omega, by go_num, by rw [Hkeep.out Hk0.out]; exact Hown.out, by rw [Hkeep.out Hk0.out]; exact Hset.out.mono (by omega), Hbel.out⟩
          case measure => simp [intOf]; omega
        · cases hmem : decide (x ∈ acc) with
          | true =>
            have hk0 : okIn n acc x = false := by simp [okIn]; intro _ _; simpa using hmem
            have Hk0 := Lib.hid hk0
            rw [hmem] at hlk
            clear hk0 hmem
            go_wp2_with fail
            go_roundw
            case rel => exact ⟨k + 1, by omega, by go_num, by rw [Hkeep.out Hk0.out]; exact Hown.out, by rw [Hkeep.out Hk0.out]; exact Hset.out.mono (by omega), Hbel.out⟩
            case measure => simp [intOf]; omega
          | false =>
            have hk0 : okIn n acc x = true := by
              have : ¬ x ∈ acc := by simpa using hmem
              simp [okIn, this]; omega
            have hst : insL n (ins.take (k + 1)) = acc ++ [x] := by rw [Hs.out]; simp [insStep, hk0]
            have Hst := Lib.hid hst
            rw [hmem] at hlk
            clear hk0 hmem hst
            obtain ⟨D, hD, hDat⟩ := Hset.out
            have hDm := hD.isMap
            have hkey : keyOf Try.prog 3 (.int .i64 x) = some (.int .i64 x) := Gou.keyOf_int Try.underlying3 hxw
            have hval : plainElem (H := Unit) Try.prog 4 (.bool true) = some (.lit (.bool true), []) := by simp [plainElem, Try.underlying4]
            go_wp2_with (first
              | (at_mapUpdate; refine wpList_mapUpdate_own _ rfl _ _ _ 61 rfl 3 4 (Maps.int_keyed Try.underlying3) Try.underlying61 _ (w.heap.size + 1) k D rfl hD (by unfold maxLen; omega) _ _ _ rfl rfl hkey _ [] hval ?_))
            intro w1 hown1 hgrow1
            have hset1 := IntSet.put hDm hDat hown1
            have hz1' : w.heap.size + 1 < w1.heap.size := by have := hgrow1.size; omega
            have hownI : w1.ownsRow (w.heap.size + 2) 3 1 u5 acc.length (iv acc) := ownsRow_mod Hown.out (Mod.of_grown hgrow1) (fun kk hkk e => by
              have h1 := (Hown.out.lt kk hkk).1
              have h2 := Option.some.inj e
              omega)
            have hbel1 : Below (w.heap.size + 1) (w.alloc (.cells #[.slice (some ⟨b, o, none⟩) n cap, .int .i64 g.out] 24)) w1 :=
              Hbel.out.grown hgrow1 (by omega) (fun kk e => by have := Option.some.inj e; omega)
            have Hset1 := Lib.hid hset1
            have Hbel1 := Lib.hid hbel1
            clear hset1 hbel1 hown1 hgrow1 hlk hD
            go_wp2_with (at_builtin; refine wpList_append_own _ rfl _ _ 25 rfl (w.heap.size + 2) 3 i0 (.int .i64 0) 1 8 Try.underlying25 hi0 hz0 hz1 hz2 rfl (by omega) _ _ _ rfl (hownI.alloc _) ⟨w1.heap.size, 0, none⟩ 1 1 [.int .i64 x] rfl rfl (cell_one_new _ _ _) (by simp [Value.oneCell']) (by unfold maxLen; omega) (by omega) (by simp; omega) ?_)
            intro v2 w2 hown2 hgrow2 _
            have hset2 : IntSet Try.prog 3 4 w2 (w.heap.size + 1) (k + 1) (acc ++ [x]) := (Hset1.out.mod (Mod.alloc (fun _ => False) w1 _) (fun h => h)).mod (Mod.of_grown hgrow2) (fun e => by
              have h1 := (hownI.lt _ e).1
              omega)
            have hbel2 : Below (w.heap.size + 1) (w.alloc (.cells #[.slice (some ⟨b, o, none⟩) n cap, .int .i64 g.out] 24)) w2 :=
              (Hbel1.out.alloc (by omega) _).grown hgrow2 (by simp; omega) (fun kk e => by have := (hownI.lt _ e).1; omega)
            have Hset2 := Lib.hid hset2
            have Hbel2 := Lib.hid hbel2
            have Hown2 := Lib.hid hown2
            clear hset2 hbel2 hown2 hgrow2 hownI
            go_wp2_with fail
            go_roundw
            case rel => exact ⟨k + 1, by omega, by go_num, by rw [Hst.out]; simpa [iv] using Hown2.out, by rw [Hst.out]; exact Hset2.out, Hbel2.out⟩
            case measure => simp [intOf]; omega
    · go_wp2_with fail
      go_ret
      have hke : ins.take k = ins := List.take_of_length_le (by omega)
      rw [hke] at hown
      refine ⟨_, rfl, ownsRow_base hown (by omega), ?_⟩
      exact ((Below.refl _ _).alloc (Nat.le_refl _) _).trans (hbel.mono (by omega))

end Go.Proofs.Ytfphlkoneocejaa
