/- Texts of the scenes' proofs, laid together: TxA, Mem, Mod, CRd, CNum, CRdB, CRdC, CMem, CRdD, CRdE, Grow. -/
import Derived.Test.YtgolafbneiffpaaGreatDoorZhd
import Derived.Lib.ItoaNum
import Derived.Lib.AtoiAll
import Derived.Lib.Join
import Derived.WalkKit
import Derived.Carry
import Derived.WalkSpells
import Derived.WalkLawsBesides
import Derived.BigQuiet
import Derived.Deep.QuietTactic
import Derived.Deep.DeepMust
import Derived.Lib.Hide
import Derived.Outline
import Derived.ChangeAlike
import Derived.WalkMore
import Derived.Deep.RegionHeld3
import Derived.Deep.RegionWith
import Derived.StillTailTactics
import Derived.Test.YtgolafbneiffpaaGreatDoorRows
import Derived.Test.YtgolafbneiffpaaGreatDoorProg
import Derived.ScopeJumps
import Derived.Deep.MidRow
import Derived.Deep.AppendLies
import Derived.Deep.OwnShut
set_option maxHeartbeats 64000000
set_option linter.unusedSimpArgs false
set_option linter.unusedVariables false
set_option linter.unusedSectionVars false
set_option linter.constructorNameAsVariable false
namespace Go.Txt
open Go
abbrev Wd := List UInt8
theorem uq5 (c : UInt8) : ∀ (l : List UInt8) (acc : Nat), Lib.parseUint10 acc (l ++ [c]) = match Lib.parseUint10 acc l with
  | .ok a => Lib.parseUint10 a [c]
  | x => x
 | [], acc => by simp [Lib.parseUint10]
 | d :: l, acc => by
  simp only [List.cons_append]
  rw [Lib.parseUint10]
  conv => rhs; rw [Lib.parseUint10]
  split
  ·split
   ·rfl
   ·split
    ·rfl
    ·exact uq5 c l _
  ·rfl
theorem uo0 {k : Nat} (h : k < 10) : (UInt8.ofNat (48 + k)).toNat = 48 + k := by
 have : (48 + k) % 256 = 48 + k := by omega
 simpa using this
theorem usv (u : Nat) (hu : u < 1000000000000000000) : Lib.parseUint10 0 (Lib.decDigits u) = .ok u := by
 induction u using Nat.strongRecOn with
 | _ u ih =>
  by_cases h : u < 10
  ·rw [Lib.decDigits, dif_pos h]
   simp only [Lib.parseUint10, uo0 h]
   rw [if_pos (by omega), if_neg (by omega), if_neg (by omega)]
   simp
  ·rw [Lib.decDigits, dif_neg h, uq5, ih (u / 10) (by omega) (by omega)]
   simp only [Lib.parseUint10, uo0 (show u % 10 < 10 by omega)]
   rw [if_pos (by omega), if_neg (by omega), if_neg (by omega)]
   congr 1
   omega
theorem uvk (u : Nat) : Lib.decDigits u ≠ [] := by
 intro h
 have := Lib.decDigits_length u
 have := Lib.nDigits_pos u
 rw [h] at *
 simp at *
 omega
theorem uqj (u : Nat) : ∀ c ∈ Lib.decDigits u, 48 ≤ c.toNat ∧ c.toNat ≤ 57 := by
 induction u using Nat.strongRecOn with
 | _ u ih =>
  by_cases h : u < 10
  ·rw [Lib.decDigits, dif_pos h]
   intro c hc
   rw [List.mem_singleton.1 hc, uo0 h]
   omega
  ·rw [Lib.decDigits, dif_neg h]
   intro c hc
   rcases List.mem_append.1 hc with hc | hc
   ·exact ih (u / 10) (by omega) c hc
   ·rw [List.mem_singleton.1 hc, uo0 (by omega)]
    omega
theorem atoi_itoa {n : Int} (h0 : -1000000000000000000 < n) (h1 : n < 1000000000000000000) : Lib.atoiAll (Lib.itoa n) = .ok n := by
 unfold Lib.itoa
 by_cases hn : n < 0
 ·rw [if_pos hn]
  have hp : Lib.parseMag (Lib.decDigits n.natAbs) = .ok n.natAbs := by
   unfold Lib.parseMag
   rw [if_neg (uvk _)]
   exact usv _ (by omega)
  simp only [Lib.atoiAll, show (45 : UInt8).toNat = 45 from rfl, or_true, if_true, hp]
  rw [if_neg (by omega), if_neg (by omega)]
  congr 1
  omega
 ·rw [if_neg hn]
  obtain ⟨c, r, hc⟩ : ∃ c r, Lib.decDigits n.toNat = c :: r := by
   cases h : Lib.decDigits n.toNat with
   | nil => exact absurd h (uvk _)
   | cons c r => exact ⟨c, r, rfl⟩
  have hd := uqj n.toNat c (by rw [hc]; exact List.mem_cons_self)
  have hp : Lib.parseMag (Lib.decDigits n.toNat) = .ok n.toNat := by
   unfold Lib.parseMag
   rw [if_neg (uvk _)]
   exact usv _ (by omega)
  rw [hc] at hp ⊢
  simp only [Lib.atoiAll]
  rw [if_neg (by omega), hp]
  simp only
  rw [if_neg (by omega), if_neg (by omega), if_neg (by omega)]
  congr 1
  omega
def numT (w : Wd) : Option Int := match Lib.atoiAll w with
 | .ok n => if -2147483648 ≤ n ∧ n ≤ 2147483647 ∧ Lib.itoa n = w then some n else none
 | _ => none
theorem up2 {n : Int} (h0 : -2147483648 ≤ n) (h1 : n ≤ 2147483647) : numT (Lib.itoa n) = some n := by
 unfold numT
 rw [atoi_itoa (by omega) (by omega)]
 simp only
 rw [if_pos ⟨h0, h1, trivial⟩]
def uly (c : UInt8) : Bool := c == 32 || c == 9
def umc (c : UInt8) : Bool := uly c || (decide (33 ≤ c.toNat) && decide (c.toNat ≤ 126))
def solid (c : UInt8) : Bool := decide (33 ≤ c.toNat) && decide (c.toNat ≤ 126) && (c != 35)
def ukl : Wd → List UInt8 → List Wd
 | acc, [] => if acc = [] then [] else [acc]
 | acc, c :: r => if uly c then (if acc = [] then ukl [] r else acc :: ukl [] r) else ukl (acc ++ [c]) r
def unr (l : List UInt8) : List UInt8 := l.takeWhile (fun c => c != 35)
def uli (l : List UInt8) : Option (List Wd) := if (unr l).all umc then some (ukl [] (unr l)) else none
structure Word (w : Wd) : Prop where
 ne : w ≠ []
 solid : ∀ c ∈ w, solid c = true
theorem upn {c : UInt8} (h : solid c = true) : umc c = true ∧ uly c = false ∧ (c != 35) = true := by
 simp only [solid, Bool.and_eq_true, decide_eq_true_eq] at h
 obtain ⟨⟨h1, h2⟩, h3⟩ := h
 refine ⟨by simp [umc, h1, h2], ?_, h3⟩
 have e1 : c ≠ 32 := fun e => by subst e; exact absurd h1 (by decide)
 have e2 : c ≠ 9 := fun e => by subst e; exact absurd h1 (by decide)
 simp [uly, e1, e2]
theorem up7 (n : Int) : Word (Lib.itoa n) := by
 have key : ∀ u, Word (Lib.decDigits u) := fun u => ⟨uvk u, fun c hc => by
  have := uqj u c hc
  have h35 : c ≠ 35 := fun e => by subst e; exact absurd this.1 (by decide)
  simp [solid, h35]
  omega⟩
 unfold Lib.itoa
 split
 ·refine ⟨by simp, fun c hc => ?_⟩
  rcases List.mem_cons.1 hc with rfl | hc
  ·rfl
  ·exact (key _).solid c hc
 ·exact key _
theorem un8 : ∀ (w acc rest : List UInt8), (∀ c ∈ w, uly c = false) → ukl acc (w ++ rest) = ukl (acc ++ w) rest
 | [], acc, rest, _ => by simp
 | c :: w, acc, rest, h => by
  have hc : uly c = false := h c List.mem_cons_self
  simp only [List.cons_append, ukl, hc]
  rw [un8 w (acc ++ [c]) rest (fun d hd => h d (List.mem_cons_of_mem _ hd))]
  simp
theorem uqf : ∀ (ws : List Wd) (tail : List UInt8), (∀ w ∈ ws, Word w) → ws ≠ [] → (tail = [] ∨ ∃ c r, tail = c :: r ∧ uly c = true) →
  ukl [] ([32].intercalate ws ++ tail) = ws ++ ukl [] tail
 | [], _, _, h, _ => absurd rfl h
 | [w], tail, hw, _, ht => by
  have := hw w List.mem_cons_self
  rw [show [32].intercalate [w] = w by simp [List.intercalate]]
  rw [un8 w [] tail (fun c hc => (upn (this.solid c hc)).2.1)]
  simp only [List.nil_append]
  rcases ht with rfl | ⟨c, r, rfl, hc⟩
  ·simp [ukl, this.ne]
  ·simp [ukl, hc, this.ne]
 | w :: v :: ws, tail, hw, _, ht => by
  have h0 := hw w List.mem_cons_self
  have ih := uqf (v :: ws) tail (fun x hx => hw x (List.mem_cons_of_mem _ hx)) (by simp) ht
  rw [show [32].intercalate (w :: v :: ws) = w ++ 32 :: [32].intercalate (v :: ws) by simp [List.intercalate, List.intersperse]]
  rw [List.append_assoc, un8 w [] _ (fun c hc => (upn (h0.solid c hc)).2.1)]
  simp only [List.nil_append, List.cons_append, ukl, show uly 32 = true from rfl, if_true, h0.ne, if_false]
  rw [ih]
  rfl
theorem upo : ∀ (ws : List Wd) (c : UInt8), c ∈ [32].intercalate ws → c = 32 ∨ ∃ w ∈ ws, c ∈ w
 | [], c, h => by simp [List.intercalate] at h
 | [w], c, h => by
  rw [show [32].intercalate [w] = w by simp [List.intercalate]] at h
  exact .inr ⟨w, List.mem_cons_self, h⟩
 | w :: v :: ws, c, h => by
  rw [show [32].intercalate (w :: v :: ws) = w ++ 32 :: [32].intercalate (v :: ws) by simp [List.intercalate, List.intersperse]] at h
  rcases List.mem_append.1 h with h | h
  ·exact .inr ⟨w, List.mem_cons_self, h⟩
  ·rcases List.mem_cons.1 h with rfl | h
   ·exact .inl rfl
   ·rcases upo (v :: ws) c h with rfl | ⟨x, hx, hc⟩
    ·exact .inl rfl
    ·exact .inr ⟨x, List.mem_cons_of_mem _ hx, hc⟩
theorem uvf {l : List UInt8} (h : ∀ c ∈ l, (c != 35) = true) : unr l = l := by
 unfold unr
 induction l with
 | nil => rfl
 | cons c r ih =>
  rw [List.takeWhile_cons, if_pos (h c List.mem_cons_self), ih fun d hd => h d (List.mem_cons_of_mem _ hd)]
theorem uvs {ws : List Wd} (hw : ∀ w ∈ ws, Word w) (hne : ws ≠ []) : uli ([32].intercalate ws) = some ws := by
 have h35 : unr ([32].intercalate ws) = [32].intercalate ws := uvf fun c hc => by
  rcases upo ws c hc with rfl | ⟨w, hw', hc⟩
  ·rfl
  ·exact (upn ((hw w hw').solid c hc)).2.2
 unfold uli
 rw [h35, if_pos]
 ·have := uqf ws [] hw hne (.inl rfl)
  simp only [List.append_nil] at this
  rw [this]
  simp [ukl]
 ·rw [List.all_eq_true]
  intro c hc
  rcases upo ws c hc with rfl | ⟨w, hw', hc⟩
  ·rfl
  ·exact (upn ((hw w hw').solid c hc)).1
def uko : List UInt8 → List (List UInt8)
 | [] => [[]]
 | c :: r => if c = 10 then [] :: uko r else match uko r with
  | h :: t => (c :: h) :: t
  | [] => [[c]]
theorem lines_ne (l : List UInt8) : uko l ≠ [] := by
 cases l with
 | nil => simp [uko]
 | cons c r =>
  rw [uko]
  split
  ·simp
  ·split <;> simp
theorem uoe : ∀ (l t : List UInt8), (∀ c ∈ l, c ≠ 10) → uko (l ++ 10 :: t) = l :: uko t
 | [], t, _ => by simp [uko]
 | c :: l, t, h => by
  rw [List.cons_append, uko, if_neg (h c List.mem_cons_self), uoe l t fun d hd => h d (List.mem_cons_of_mem _ hd)]
end Go.Txt
namespace Go.Gou
open Go.RowKit
def IntsAt (B : Nat) (w : World) (v : Value) (xs : List Int) : Prop :=
 ∃ (p : Option Addr) (cap : Nat), v = .slice p xs.length cap ∧ xs.length ≤ cap ∧ (xs = [] ∨ ∃ b o, p = some ⟨b, o, none⟩ ∧ b < B ∧
     ∀ i, (h : i < xs.length) → w.cell? ⟨b, o + i, none⟩ = some (iV xs[i]))
theorem IntsAt.below {B : Nat} {w w' : World} {v : Value} {xs : List Int} (h : IntsAt B w v xs) (hb : Below B w w') : IntsAt B w' v xs := by
 obtain ⟨p, cap, rfl, hcap, h⟩ := h
 refine ⟨p, cap, rfl, hcap, h.imp id ?_⟩
 rintro ⟨b, o, rfl, hB, hc⟩
 exact ⟨b, o, rfl, hB, fun i hi => by rw [hb.cell (p := ⟨b, o + i, none⟩) hB]; exact hc i hi⟩
theorem IntsAt.mono {B B' : Nat} {w : World} {v : Value} {xs : List Int} (h : IntsAt B w v xs) (hB : B ≤ B') : IntsAt B' w v xs := by
 obtain ⟨p, cap, rfl, hcap, h⟩ := h
 refine ⟨p, cap, rfl, hcap, h.imp id ?_⟩
 rintro ⟨b, o, rfl, hb, hc⟩
 exact ⟨b, o, rfl, by omega, hc⟩
structure ubb where
 op : Int
 ins : List Int
 ps : List Int
structure Gr where
 nodes : List ubb
 out : Int
def NodesAt (B : Nat) (w : World) (v : Value) (ns : List ubb) : Prop :=
 ∃ (p : Option Addr) (cap : Nat), v = .slice p ns.length cap ∧ ns.length ≤ cap ∧ (ns = [] ∨ ∃ b o, p = some ⟨b, o, none⟩ ∧ b < B ∧
     ∀ i, (h : i < ns.length) → ∃ vi vp, w.cell? ⟨b, o + i * 3, none⟩ = some (iV ns[i].op) ∧ w.cell? ⟨b, o + i * 3 + 1, none⟩ = some vi ∧
         w.cell? ⟨b, o + i * 3 + 2, none⟩ = some vp ∧ IntsAt B w vi ns[i].ins ∧ IntsAt B w vp ns[i].ps)
theorem NodesAt.below {B : Nat} {w w' : World} {v : Value} {ns : List ubb} (h : NodesAt B w v ns) (hb : Below B w w') : NodesAt B w' v ns := by
 obtain ⟨p, cap, rfl, hcap, h⟩ := h
 refine ⟨p, cap, rfl, hcap, h.imp id ?_⟩
 rintro ⟨b, o, rfl, hB, hc⟩
 refine ⟨b, o, rfl, hB, fun i hi => ?_⟩
 obtain ⟨vi, vp, h0, h1, h2, h3, h4⟩ := hc i hi
 exact ⟨vi, vp, by rw [hb.cell (p := ⟨b, o + i * 3, none⟩) hB]; exact h0, by rw [hb.cell (p := ⟨b, o + i * 3 + 1, none⟩) hB]; exact h1,
     by rw [hb.cell (p := ⟨b, o + i * 3 + 2, none⟩) hB]; exact h2, h3.below hb, h4.below hb⟩
theorem IntsAt.up {w w1 : World} {v : Value} {xs : List Int} (h : IntsAt w.heap.size w v xs) (hb : Below w.heap.size w w1) : IntsAt w1.heap.size w1 v xs := (h.below hb).mono hb.size
theorem NodesAt.mono {B B' : Nat} {w : World} {v : Value} {ns : List ubb} (h : NodesAt B w v ns) (hB : B ≤ B') : NodesAt B' w v ns := by
 obtain ⟨p, cap, rfl, hcap, h⟩ := h
 refine ⟨p, cap, rfl, hcap, h.imp id ?_⟩
 rintro ⟨b, o, rfl, hb, hc⟩
 refine ⟨b, o, rfl, by omega, fun i hi => ?_⟩
 obtain ⟨vi, vp, h0, h1, h2, h3, h4⟩ := hc i hi
 exact ⟨vi, vp, h0, h1, h2, h3.mono hB, h4.mono hB⟩
theorem NodesAt.up {w w1 : World} {v : Value} {ns : List ubb} (h : NodesAt w.heap.size w v ns) (hb : Below w.heap.size w w1) : NodesAt w1.heap.size w1 v ns := (h.below hb).mono hb.size
theorem IntsAt.len {B : Nat} {w : World} {v : Value} {xs : List Int} (h : IntsAt B w v xs) : ∃ p cap, v = .slice p xs.length cap := by
 obtain ⟨p, cap, rfl, _⟩ := h
 exact ⟨p, cap, rfl⟩
theorem IntsAt.of_cells {B : Nat} {w : World} {b o cap : Nat} {xs : List Int} (hcap : xs.length ≤ cap) (hb : b < B) (hc : ∀ i, i < xs.length → w.cell? ⟨b, o + i, none⟩ = some (iV (xs.getD i 0))) :
  IntsAt B w (.slice (some ⟨b, o, none⟩) xs.length cap) xs :=
 ⟨_, _, rfl, hcap, .inr ⟨b, o, rfl, hb, fun i hi => by rw [hc i hi]; simp [List.getD, hi]⟩⟩
theorem IntsAt.part {B : Nat} {w : World} {b o cap n : Nat} {xs : List Int} (h : IntsAt B w (.slice (some ⟨b, o, none⟩) n cap) xs) (i m c : Nat) (hm : 0 < m) (him : i + m ≤ xs.length) (hc : m ≤ c) :
  IntsAt B w (.slice (some ⟨b, o + i, none⟩) m c) ((xs.drop i).take m) := by
 obtain ⟨p, cap', he, hcap, h⟩ := h
 have hl : ((xs.drop i).take m).length = m := by simp; omega
 rcases h with rfl | ⟨b', o', hp, hb, hcell⟩
 ·simp at him; omega
 ·have he' := he
  simp only [Value.slice.injEq] at he'
  obtain ⟨e1, _, _⟩ := he'
  rw [hp] at e1
  simp only [Option.some.injEq, Addr.mk.injEq, and_true] at e1
  obtain ⟨rfl, rfl⟩ := e1
  refine ⟨_, _, by rw [hl], by omega, .inr ⟨b, o + i, rfl, hb, fun j hj => ?_⟩⟩
  have := hcell (i + j) (by omega)
  rw [Nat.add_assoc, this]
  simp
structure Mod (S : Nat → Prop) (w w' : World) : Prop where
 os : w'.os = w.os
 tape : w'.tape = w.tape
 output : w'.output = w.output
 size : w.heap.size ≤ w'.heap.size
 block : ∀ k, k < w.heap.size → ¬ S k → w'.heap[k]? = w.heap[k]?
theorem Mod.refl (S : Nat → Prop) (w : World) : Mod S w w := ⟨rfl, rfl, rfl, Nat.le_refl _, fun _ _ _ => rfl⟩
theorem Mod.trans {S S' : Nat → Prop} {a b c : World} (h : Mod S a b) (k : Mod S' b c) (hS : ∀ i, i < a.heap.size → S' i → S i) : Mod S a c :=
 ⟨k.os.trans h.os, k.tape.trans h.tape, k.output.trans h.output, Nat.le_trans h.size k.size,
     fun i hi hs => (k.block i (Nat.lt_of_lt_of_le hi h.size) (fun hs' => hs (hS i hi hs'))).trans (h.block i hi hs)⟩
theorem Mod.trans' {S : Nat → Prop} {a b c : World} (h : Mod S a b) (k : Mod S b c) : Mod S a c := h.trans k fun _ _ h => h
theorem Mod.imp {S S' : Nat → Prop} {a b : World} (h : Mod S a b) (hS : ∀ i, i < a.heap.size → S i → S' i) : Mod S' a b :=
 ⟨h.os, h.tape, h.output, h.size, fun i hi hs => h.block i hi fun hs' => hs (hS i hi hs')⟩
theorem Mod.of_grown {w w' : World} {row : Option Nat} (h : w.grownBy w' row) : Mod (fun k => row = some k) w w' :=
 ⟨h.os, h.tape, h.output, h.size, fun k hk hs => h.block k hk fun e => hs e.symm⟩
theorem Mod.of_below {w w' : World} (h : Below w.heap.size w w') (S : Nat → Prop) : Mod S w w' :=
 ⟨h.os, h.tape, h.output, h.size, fun k hk _ => h.block k hk⟩
theorem Mod.below {S : Nat → Prop} {B : Nat} {w w' : World} (h : Mod S w w') (hB : B ≤ w.heap.size) (hS : ∀ k, k < B → ¬ S k) : Below B w w' :=
 ⟨h.os, h.tape, h.output, h.size, fun k hk => h.block k (Nat.lt_of_lt_of_le hk hB) (hS k hk)⟩
theorem Mod.setCell (w : World) (p : Addr) (u : Value) : Mod (fun k => k = p.block) w (w.setCell p u) :=
 ⟨rfl, rfl, rfl, by simp, fun k _ hs => Below.heap_setCell w p u k hs⟩
theorem Mod.alloc (S : Nat → Prop) (w : World) (o : Obj) : Mod S w (w.alloc o) :=
 ⟨rfl, rfl, rfl, by simp, fun k hk _ => Below.heap_alloc w o k hk⟩
theorem Mod.drew (S : Nat → Prop) (w : World) : Mod S w w.drew := ⟨rfl, rfl, rfl, Nat.le_refl _, fun _ _ _ => rfl⟩
theorem Mod.drewN (S : Nat → Prop) (w : World) (n : Nat) : Mod S w (w.drewN n) := ⟨rfl, rfl, rfl, Nat.le_refl _, fun _ _ _ => rfl⟩
theorem Mod.cell {S : Nat → Prop} {w w' : World} (h : Mod S w w') {p : Addr} (hp : p.block < w.heap.size) (hs : ¬ S p.block) : w'.cell? p = w.cell? p := World.cell?_of_block (h.block _ hp hs)
theorem Mod.frozen {S : Nat → Prop} {w w' : World} (h : Mod S w w') {p : Addr} (hp : p.block < w.heap.size) (hs : ¬ S p.block) : w'.frozen? p = w.frozen? p := World.frozen?_of_block (h.block _ hp hs)
theorem uac {S : Nat → Prop} {w w' : World} {base : Nat} {e : TypeId} {size : Nat} {v : Value} {n : Nat} {xs : List Value} (h : w.ownsRow base e size v n xs) (hm : Mod S w w')
  (hs : ∀ k, v.ownBlock = some k → ¬ S k) : w'.ownsRow base e size v n xs := by
 have hlt := h.lt
 obtain ⟨h1, h2⟩ := h
 refine ⟨h1, ?_⟩
 rcases h2 with h2 | ⟨g, cap, cur, rfl, hg, hh, r⟩
 ·exact .inl h2
 ·refine .inr ⟨g, cap, cur, rfl, hg, ?_, r⟩
  rw [hm.block g (hlt g rfl).2 (hs g rfl)]
  exact hh
theorem ownsRow_form {w : World} {base : Nat} {e : TypeId} {size : Nat} {v : Value} {n : Nat} {xs : List Value} (h : w.ownsRow base e size v n xs) : ∃ p c, v = .slice p n c := by
 rcases h.2 with ⟨rfl, rfl⟩ | ⟨g, cap, cur, rfl, _⟩
 ·exact ⟨_, _, rfl⟩
 ·exact ⟨_, _, rfl⟩
def Cell1 (w : World) (N : Nat) (T : TypeId) (v : Value) : Prop := w.heap[N]? = some (.cells #[v] T (0, 0))
theorem Cell1.new (w : World) (T : TypeId) (v : Value) : Cell1 (w.alloc (.cells #[v] T)) w.heap.size T v :=
 heap_alloc_new w _
theorem Cell1.lt {w : World} {N : Nat} {T : TypeId} {v : Value} (h : Cell1 w N T v) : N < w.heap.size := by
 unfold Cell1 at h
 exact (Array.getElem?_eq_some_iff.1 h).1
theorem Cell1.cell {w : World} {N : Nat} {T : TypeId} {v : Value} (h : Cell1 w N T v) : w.cell? ⟨N, 0, none⟩ = some v := by
 unfold Cell1 at h
 simp [World.cell?, h]
theorem Cell1.frozen {w : World} {N : Nat} {T : TypeId} {v : Value} (h : Cell1 w N T v) : w.frozen? ⟨N, 0, none⟩ = false := by
 unfold Cell1 at h
 simp [World.frozen?, h]
theorem Cell1.mod {S : Nat → Prop} {w w' : World} {N : Nat} {T : TypeId} {v : Value} (h : Cell1 w N T v) (hm : Mod S w w') (hs : ¬ S N) : Cell1 w' N T v := by
 have := h.lt
 unfold Cell1 at h ⊢
 rw [hm.block N this hs]
 exact h
theorem Cell1.set {w : World} {N : Nat} {T : TypeId} {v : Value} (h : Cell1 w N T v) (u : Value) : Cell1 (w.setCell ⟨N, 0, none⟩ u) N T u := by
 unfold Cell1 at h ⊢
 rw [heap_setCell_same w N 0 #[v] T u h]
 rfl
structure BoxAt (w : World) (x y : Value) (wr : World) : Prop where
 c0 : wr.cell? ⟨w.heap.size, 0, none⟩ = some x
 c1 : wr.cell? ⟨w.heap.size, 1, none⟩ = some y
 lt : w.heap.size < wr.heap.size
 bel : Below w.heap.size w wr
theorem BoxAt.start (w : World) (x y : Value) (T : TypeId) : BoxAt w x y (w.alloc (.cells #[x, y] T)) :=
 ⟨by rw [World.cell?_alloc_new]; rfl, by rw [World.cell?_alloc_new]; rfl, by simp, (Below.refl _ _).alloc (Nat.le_refl _) _⟩
theorem BoxAt.step {w : World} {x y : Value} {wr w2 : World} (h : BoxAt w x y wr) (hb : Below wr.heap.size wr w2) : BoxAt w x y w2 :=
 ⟨by rw [hb.cell (p := ⟨w.heap.size, 0, none⟩) h.lt]; exact h.c0, by rw [hb.cell (p := ⟨w.heap.size, 1, none⟩) h.lt]; exact h.c1, Nat.lt_of_lt_of_le h.lt hb.size, h.bel.trans (hb.mono (Nat.le_of_lt h.lt))⟩
theorem BoxAt.mod {w : World} {x y : Value} {wr w2 : World} {S : Nat → Prop} (h : BoxAt w x y wr) (hm : Mod S wr w2) (hs : ∀ k, k ≤ w.heap.size → ¬ S k) : BoxAt w x y w2 :=
 ⟨by rw [hm.cell (p := ⟨w.heap.size, 0, none⟩) h.lt (hs _ (Nat.le_refl _))]; exact h.c0, by rw [hm.cell (p := ⟨w.heap.size, 1, none⟩) h.lt (hs _ (Nat.le_refl _))]; exact h.c1, Nat.lt_of_lt_of_le h.lt hm.size,
     h.bel.trans (hm.below (Nat.le_of_lt h.lt) fun k hk => hs k (Nat.le_of_lt hk))⟩
theorem BoxAt.alloc {w : World} {x y : Value} {wr : World} (h : BoxAt w x y wr) (o : Obj) : BoxAt w x y (wr.alloc o) := h.step ((Below.refl _ _).alloc (Nat.le_refl _) o)
def BytesAt (G : Nat → Prop) (w : World) (v : Value) (bs : List Nat) : Prop :=
 ∃ (p : Option Addr) (cap : Nat), v = .slice p bs.length cap ∧ bs.length ≤ cap ∧ (bs = [] ∨ ∃ b o, p = some ⟨b, o, none⟩ ∧ b < w.heap.size ∧ G b ∧
     ∀ i, (h : i < bs.length) → w.cell? ⟨b, o + i, none⟩ = some (.int .u8 bs[i]))
theorem BytesAt.mod {G S : Nat → Prop} {w w' : World} {v : Value} {bs : List Nat} (h : BytesAt G w v bs) (hm : Mod S w w') (hS : ∀ k, k < w.heap.size → G k → ¬ S k) : BytesAt G w' v bs := by
 obtain ⟨p, cap, rfl, hcap, h⟩ := h
 refine ⟨p, cap, rfl, hcap, h.imp id ?_⟩
 rintro ⟨b, o, rfl, hB, hG, hc⟩
 exact ⟨b, o, rfl, Nat.lt_of_lt_of_le hB hm.size, hG, fun i hi => by rw [hm.cell (p := ⟨b, o + i, none⟩) hB (hS b hB hG)]; exact hc i hi⟩
theorem BytesAt.len {G : Nat → Prop} {w : World} {v : Value} {bs : List Nat} (h : BytesAt G w v bs) : ∃ p cap, v = .slice p bs.length cap := by
 obtain ⟨p, cap, rfl, _⟩ := h
 exact ⟨p, cap, rfl⟩
theorem BytesAt.cells {G : Nat → Prop} {w : World} {v : Value} {bs : List Nat} (h : BytesAt G w v bs) (h0 : 0 < bs.length) :
  ∃ b o cap, v = .slice (some ⟨b, o, none⟩) bs.length cap ∧ bs.length ≤ cap ∧ b < w.heap.size ∧ G b ∧ ∀ i, i < bs.length → w.cell? ⟨b, o + i, none⟩ = some (.int .u8 (bs.getD i 0 : Nat)) := by
 obtain ⟨p, cap, rfl, hcap, h⟩ := h
 rcases h with rfl | ⟨b, o, rfl, hb, hG, hc⟩
 ·simp at h0
 ·exact ⟨b, o, cap, rfl, hcap, hb, hG, fun i hi => by rw [hc i hi]; simp [List.getD, hi]⟩
structure RdAt (w : World) (R : Nat) (vb : Value) (bs : List Nat) (at_ : Nat) : Prop where
 c0 : w.cell? ⟨R, 0, none⟩ = some vb
 c1 : w.cell? ⟨R, 1, none⟩ = some (iV at_)
 f1 : w.frozen? ⟨R, 1, none⟩ = false
 bytes : BytesAt (fun k => k ≠ R) w vb bs
 le : at_ ≤ bs.length
 byte : ∀ x ∈ bs, x < 256
 len : bs.length ≤ maxLen
theorem RdAt.lt {w : World} {R : Nat} {vb : Value} {bs : List Nat} {n : Nat} (h : RdAt w R vb bs n) : R < w.heap.size := by
 rcases Nat.lt_or_ge R w.heap.size with h' | h'
 ·exact h'
 ·have := h.c0
  simp [World.cell?, Array.getElem?_eq_none h'] at this
theorem RdAt.mod {S : Nat → Prop} {w w' : World} {R : Nat} {vb : Value} {bs : List Nat} {n : Nat} (h : RdAt w R vb bs n) (hm : Mod S w w') (hR : ¬ S R) (hS : ∀ k, k < w.heap.size → k ≠ R → ¬ S k) : RdAt w' R vb bs n :=
 ⟨by rw [hm.cell (p := ⟨R, 0, none⟩) h.lt hR]; exact h.c0, by rw [hm.cell (p := ⟨R, 1, none⟩) h.lt hR]; exact h.c1, by rw [hm.frozen (p := ⟨R, 1, none⟩) h.lt hR]; exact h.f1, h.bytes.mod hm hS, h.le, h.byte, h.len⟩
theorem RdAt.setAt {w : World} {R : Nat} {vb : Value} {bs : List Nat} {n : Nat} (h : RdAt w R vb bs n) (m : Nat) (hm : m ≤ bs.length) : RdAt (w.setCell ⟨R, 1, none⟩ (iV m)) R vb bs m :=
 ⟨by rw [World.cell?_setCell_other _ _ _ _ (by simp)]; exact h.c0, World.cell?_setCell_same (u := iV n) w _ _ h.c1, by rw [World.frozen?_setCell]; exact h.f1,
     h.bytes.mod (Mod.setCell _ _ _) (fun _ _ h => h), hm, h.byte, h.len⟩
end Go.Gou
namespace Go.Proofs.YtgolafbneiffpaaGreatDoor
open Go.RowKit Go.Gou
abbrev utf : List PanicEntry := [{ v := .iface 124 (.agg #[]), recovered := false }]
theorem uku (w : World) : Calls Tryz.prog 31 #[.bool true] w fun e w' => e = .returned (.tuple #[]) ∧ w' = w := by
 go_enter Tryz.func31, Tryz.ntmps31
 go_wp2
 go_end0
 exact ⟨rfl, rfl⟩
theorem ukq (w : World) : Calls Tryz.prog 31 #[.bool false] w fun e w' => e = .panicked utf ∧ w' = w := by
 go_enter Tryz.func31, Tryz.ntmps31
 go_wp2
 exact ⟨rfl, rfl, rfl⟩
set_option maxRecDepth 100000 in
theorem uu0 (w : World) (R : Nat) (vb : Value) (bs : List Nat) (h : RdAt w R vb bs bs.length) :
  Calls Tryz.prog 57 #[.pointer (some ⟨R, 0, none⟩)] w fun e w' => e = .panicked utf ∧ RdAt w' R vb bs bs.length ∧ Mod (fun k => k = R) w w' := by
 have H := hd' h
 obtain ⟨p, cap, rfl⟩ := h.bytes.len
 obtain ⟨c0, c1, f1, _, _, _, hl⟩ := h
 unfold maxLen at hl
 go_enter Tryz.func57, Tryz.ntmps57
 go_wp2_with fail
 have hd : decide ((bs.length : Int) < (bs.length : Int)) = false := by simp
 go_still_tail 10, (by kernel_rfl)
 change wpList _ _ _ _ _ w.drew
 have Hd := hd' (H.o.mod (Mod.drew (fun _ => False) w) (fun h => h) (fun _ _ _ h => h))
 have Hm := hd' (Mod.drew (fun k => k = R) w)
 generalize w.drew = w2 at *
 clear H c0 c1 f1
 go_wp2_with (first | (go_at_call 31; refine (ukq _).mono ?_; rintro e w' ⟨rfl, rfl⟩))
 exact ⟨rfl, rfl, Hd.o, Hm.o⟩
theorem uuz (w : World) (R : Nat) (vb : Value) (bs : List Nat) (n : Nat) (h : RdAt w R vb bs n) (hn : n < bs.length) :
  Calls Tryz.prog 57 #[.pointer (some ⟨R, 0, none⟩)] w fun e w' => e = .returned (.int .u8 (bs.getD n 0 : Nat)) ∧ RdAt w' R vb bs (n + 1) ∧ Mod (fun k => k = R) w w' := by
 have H := hd' h
 obtain ⟨b, o, cap, rfl, hcap, hb, hG, hc⟩ := h.bytes.cells (by omega)
 obtain ⟨c0, c1, f1, _, _, hby, hl⟩ := h
 unfold maxLen at hl
 have hx := hc n hn
 have hnI : (n : Int) < (bs.length : Int) := by omega
 have hd : decide ((n : Int) < (bs.length : Int)) = true := by simp [hnI]
 clear hc
 go_enter Tryz.func57, Tryz.ntmps57
 go_wp2_with fail
 go_quiet (first | (go_at_call 31; exact Calls.quiet_of_same (uku _)))
 obtain ⟨nq1, rfl⟩ : ∃ q : Nat, q = nq := ⟨_, rfl⟩
 go_wp2_with fail
 have hs1 : IntKind.i64.wrap ((n : Int) + 1 - 1) = n := by
  have : (n : Int) + 1 - 1 = n := by omega
  rw [this]
  exact IntWalk.i64_in _ (by omega)
 go_quiet (fail)
 go_wp2_with fail
 go_ret
 refine ⟨by simp [List.getD, hn], ?_, ?_⟩
 ·have h1 := ((H.o.mod (Mod.drewN (fun _ => False) w nq1) (fun h => h) (fun _ _ _ h => h)).setAt (n + 1) (by omega)).mod (Mod.drewN (fun _ => False) _ nq) (fun h => h) (fun _ _ _ h => h)
  simpa using h1
 ·exact (((Mod.drewN (fun _ => False) w nq1).imp fun _ _ h => h.elim).trans' (Mod.setCell (w.drewN nq1) ⟨R, 1, none⟩ _)).trans (Mod.drewN (fun _ => False) _ nq) fun _ _ h => h.elim
end Go.Proofs.YtgolafbneiffpaaGreatDoor
namespace Go.Gou
def unf (m : Nat) : Int := if m % 2 = 1 then -(((m + 1) / 2 : Nat) : Int) else ((m / 2 : Nat) : Int)
def uo6 (bs : List Nat) : Nat → Nat → Nat → Nat → Option (Int × Nat)
 | 0, _, _, _ => none
 | f + 1, n, m, s =>
  if h : n < bs.length then
      if 128 ≤ bs[n] then (if s + 7 < 35 then uo6 bs f (n + 1) (m + bs[n] % 128 * 2 ^ s) (s + 7) else none)
      else if m + bs[n] % 128 * 2 ^ s < 4294967296 ∧ (bs[n] ≠ 0 ∨ s + 7 = 7) then some (unf (m + bs[n] % 128 * 2 ^ s), n + 1) else none
  else none
def ukw (bs : List Nat) (n : Nat) : Option (Int × Nat) := uo6 bs 5 n 0 0
end Go.Gou
namespace Go.Proofs.YtgolafbneiffpaaGreatDoor
open Go.RowKit Go.Gou
def RdP {α : Type} (w : World) (R : Nat) (vb : Value) (bs : List Nat) (I : World → Value → α → Prop) (res : Option (α × Nat)) (e : Ending) (w' : World) : Prop :=
 Mod (fun k => k = R) w w' ∧ match res with
  | some (x, n) => ∃ v, e = .returned v ∧ I w' v x ∧ RdAt w' R vb bs n
  | none => e = .panicked utf ∧ ∃ n, RdAt w' R vb bs n
def IsInt (_ : World) (v : Value) (x : Int) : Prop := v = iV x
def NextC (w : World) (R : Nat) (vb : Value) (bs : List Nat) (res : Option (Int × Nat)) (a : Act) (w' : World) : Prop :=
 ∃ (n m k : Nat) (vm vs : Int), uo6 bs (5 - k) n m (7 * k) = res ∧ vm = m ∧ vs = 7 * k ∧ k ≤ 4 ∧ m < 2 ^ (7 * k) ∧ RdAt w' R vb bs n ∧ Mod (fun k => k = R) w w' ∧
     ∃ u1 u5 u6 u7 u8 u9 u10 u11 u12 u13 u14 u15 u16 u17 u18 u19 u20 u21 u22 u23 u24 u25 u26 u27 u28 u29 u30 u31 u32 u33 u34 u35 u36 u37 u38 u39 u40 u41 : Value, a = { tmps := #[.pointer (some ⟨R, 0, none⟩), u1, iV 0, iV vm, iV vs, u5, u6, u7, u8, u9, u10, u11, u12, u13, u14, u15, u16, u17, u18, u19, u20, u21, u22, u23, u24, u25, u26, u27, u28, u29, u30, u31, u32, u33, u34, u35, u36, u37, u38, u39, u40, u41], defers := [] }
theorem and127 (c : Nat) (h : c < 256) : bits BinOp.and IntKind.u8 (c : Int) 127 = ((c % 128 : Nat) : Int) := by
 have h1 : ((BitVec.ofInt IntKind.u8.bits (c : Int)) &&& (BitVec.ofInt IntKind.u8.bits 127)).toNat = c % 128 := by
  rw [BitVec.toNat_and]
  have e1 : (BitVec.ofInt IntKind.u8.bits (c : Int)).toNat = c := by
   rw [BitVec.toNat_ofInt]
   have : ((2 ^ IntKind.u8.bits : Nat) : Int) = 256 := rfl
   rw [this]
   omega
  have e2 : (BitVec.ofInt IntKind.u8.bits 127).toNat = 2 ^ 7 - 1 := rfl
  rw [e1, e2, Nat.and_two_pow_sub_one_eq_mod]
 show IntKind.u8.wrap (((BitVec.ofInt IntKind.u8.bits (c : Int)) &&& (BitVec.ofInt IntKind.u8.bits 127)).toNat : Int) = _
 rw [h1]
 exact IntWalk.u8_in _ (by omega)
theorem num_odd {V : Int} {M : Nat} (hV : V = (M : Int)) (hA : M < 4294967296) (hp : M % 2 = 1) : wrap64 ((wrap64 (-wrap64 (V + 1))).tdiv 2) = unf M := by
 have e1 : wrap64 (V + 1) = ((M + 1 : Nat) : Int) := by rw [IntWalk.wrap64_in _ (by omega), hV]; rfl
 have e2 : wrap64 (-((M + 1 : Nat) : Int)) = -((M + 1 : Nat) : Int) := IntWalk.wrap64_in _ (by omega)
 have e3 : (-((M + 1 : Nat) : Int)).tdiv 2 = -(((M + 1) / 2 : Nat) : Int) := by rw [Int.neg_tdiv]; rfl
 rw [e1, e2, e3, IntWalk.wrap64_in _ (by omega)]
 unfold unf
 rw [if_pos hp]
theorem uu7 {V : Int} {M : Nat} (hV : V = (M : Int)) (hA : M < 4294967296) (hp : ¬ M % 2 = 1) : wrap64 (V.tdiv 2) = unf M := by
 have e3 : ((M : Nat) : Int).tdiv 2 = ((M / 2 : Nat) : Int) := rfl
 rw [hV, e3, IntWalk.wrap64_in _ (by omega)]
 unfold unf
 rw [if_neg hp]
theorem urm {P : Program} {r1 rest : Code} {a : Act} {w : World} {Q : Exit → Act → World → Prop} (l : Nat) (J : Act → World → Prop) (μ : Act → World → Nat)
  (hf : findLabel (Code.seq r1 (Code.seq (Code.label l) rest)) l = some (Code.seq Code.skip rest)) (h0 : r1.wp P (fun e a' w' => e = .normal ∧ J a' w') a w)
  (pass : ∀ a w, J a w → rest.wp P (Exit.jump l (fun a' w' => J a' w' ∧ μ a' w' < μ a w) Q) a w) : (Code.scope (Code.seq r1 (Code.seq (Code.label l) rest))).wp P Q a w := by
 refine wp_scope_jumps l J μ hf ?_ (fun a w hJ => wp_seq (wp_skip (pass a w hJ)))
 refine wp_seq (wp_mono h0 ?_)
 rintro e a' w' ⟨rfl, hJ⟩
 show Code.wp P (Code.seq (Code.label l) rest) _ a' w'
 refine wp_seq (wp_label ?_)
 show Code.wp P rest _ a' w'
 refine wp_mono (pass a' w' hJ) fun e a w h => ?_
 cases e <;> first | exact ⟨h.1, h.2.1⟩ | exact h
theorem num_lt {m d k : Nat} (hm : m < 2 ^ (7 * k)) (hd : d < 128) : m + d * 2 ^ (7 * k) < 2 ^ (7 * k + 7) := by
 rw [Nat.pow_add]
 have : d * 2 ^ (7 * k) ≤ 127 * 2 ^ (7 * k) := Nat.mul_le_mul_right _ (by omega)
 have h2 : (2 : Nat) ^ 7 = 128 := rfl
 rw [h2]
 omega
set_option maxRecDepth 100000 in
theorem ukk (w : World) (R : Nat) (vb : Value) (bs : List Nat) (n : Nat) (h : RdAt w R vb bs n) :
  Calls Tryz.prog 58 #[.pointer (some ⟨R, 0, none⟩)] w (RdP w R vb bs IsInt (ukw bs n)) := by
 have H := hd' h
 clear h
 go_enter Tryz.func58, Tryz.ntmps58
 go_wp2_with fail
 refine urm 0 (NextC w R vb bs (ukw bs n)) (fun a _ => 35 - (intOf (a.tmps.getD 4 undef)).toNat) rfl ?first ?pass
 case pass =>
  rintro a wa ⟨n, m, k, _, _, hres, rfl, rfl, hk, hm, h, hmod, u1, u5, u6, u7, u8, u9, u10, u11, u12, u13, u14, u15, u16, u17, u18, u19, u20, u21, u22, u23, u24, u25, u26, u27, u28, u29, u30, u31, u32, u33, u34, u35, u36, u37, u38, u39, u40, u41, rfl⟩
  obtain ⟨f, h5⟩ : ∃ f, 5 - k = f + 1 := ⟨4 - k, by omega⟩
  rw [h5] at hres
  by_cases hn : n < bs.length
  ·have hc256 := h.byte _ (lgM hn)
   have hgd : bs.getD n 0 = bs[n] := by simp [List.getD, hn]
   have Hraw := hd' (uuz wa R vb bs n h hn)
   rw [hgd] at Hraw
   have hstep : uo6 bs (f + 1) n m (7 * k) = if 128 ≤ bs[n] then (if 7 * k + 7 < 35 then uo6 bs f (n + 1) (m + bs[n] % 128 * 2 ^ (7 * k)) (7 * k + 7) else none)
       else if m + bs[n] % 128 * 2 ^ (7 * k) < 4294967296 ∧ (bs[n] ≠ 0 ∨ 7 * k + 7 = 7) then some (unf (m + bs[n] % 128 * 2 ^ (7 * k)), n + 1) else none := by
    rw [uo6, dif_pos hn]
   rw [hstep] at hres
   clear hstep
   generalize bs[n] = c at *
   obtain ⟨d, hd⟩ : ∃ d, d = c % 128 := ⟨_, rfl⟩
   obtain ⟨M, hM⟩ : ∃ M, M = m + d * 2 ^ (7 * k) := ⟨_, rfl⟩
   rw [← hd, ← hM] at hres
   have hb1 : bits BinOp.and IntKind.u8 (c : Int) 127 = (d : Int) := by rw [hd]; exact and127 c hc256
   have hd128 : d < 128 := by rw [hd]; exact Nat.mod_lt _ (by decide)
   have hb2 : wrap64 (d : Int) = d := IntWalk.wrap64_in _ (by clear hm hres hM; omega)
   have hM2 : M < 2 ^ (7 * k + 7) := by rw [hM]; exact num_lt hm hd128
   have hk35 : (2 : Nat) ^ (7 * k + 7) ≤ 2 ^ 35 := Nat.pow_le_pow_right (by decide) (by clear hM2 hM hm hres; omega)
   have hM35 : M < 34359738368 := Nat.lt_of_lt_of_le hM2 hk35
   have hdk : ((d * 2 ^ (7 * k) : Nat) : Int) = (d : Int) * 2 ^ (7 * k) := by push_cast; rfl
   have HM2 := hd' hM2
   clear hM2 hk35
   have hb3 : wrap64 ((d : Int) * 2 ^ (7 * k)) = (d : Int) * 2 ^ (7 * k) := by
    rw [← hdk]
    generalize d * 2 ^ (7 * k) = q at *
    exact IntWalk.wrap64_in _ (by clear hres hm; omega)
   have hb4 : wrap64 ((m : Int) + (d : Int) * 2 ^ (7 * k)) = (M : Int) := by
    rw [← hdk]
    generalize d * 2 ^ (7 * k) = q at *
    exact (IntWalk.wrap64_in _ (by clear hres hm; omega)).trans (by clear hres hm; omega)
   clear hdk hM hm hd
   have HM35 := hd' hM35
   have Hres := hd' hres
   clear hM35 hres
   obtain ⟨V, hV⟩ : ∃ V : Int, V = (M : Int) := ⟨_, rfl⟩
   rw [← hV] at hb4
   have HV := hd' hV
   clear hV
   go_wp2_with fail
   refine Hraw.o.mono ?_
   rintro e w1 ⟨rfl, h1, hm1⟩
   clear Hraw
   by_cases hc1 : 128 ≤ c
   ·have e1 : decide ((128 : Int) ≤ (c : Int)) = true := by simp; omega
    have hres := Hres.o
    rw [if_pos hc1] at hres
    clear Hres
    by_cases hk4 : 7 * k + 7 < 35
    ·have e2 : decide (7 * (k : Int) + 7 < 35) = true := by simp; omega
     rw [if_pos hk4] at hres
     have Hres := hd' hres
     clear hres
     go_wp2_with fail
     refine (uku _).mono ?_; rintro e w2 ⟨rfl, rfl⟩
     go_wp2_with fail
     go_step3
     simp only [Exit.then, Exit.jump]
     have h55 : 5 - (k + 1) = f := by omega
     exact ⟨by first | trivial | rfl, ⟨n + 1, M, k + 1, V, _, by rw [h55]; exact Hres.o, HV.o, by push_cast; rfl, by omega, HM2.o, h1, hmod.trans' hm1, _, _, _, _, _, _, _, _, _, _, _, _, _, _, _, _, _, _, _, _, _, _, _, _, _, _, _, _, _, _, _, _, _, _, _, _, _, _, rfl⟩, by simp [intOf]; omega⟩
    ·have e2 : decide (7 * (k : Int) + 7 < 35) = false := by simp; omega
     rw [if_neg hk4] at hres
     have Hres2 := hd' hres
     clear hres
     go_wp2_with fail
     refine (ukq _).mono ?_; rintro e w2 ⟨rfl, rfl⟩
     exact ⟨rfl, hmod.trans' hm1, by rw [← Hres2.o]; exact ⟨rfl, _, h1⟩⟩
   ·have e1 : decide ((128 : Int) ≤ (c : Int)) = false := by simp; omega
    have hres := Hres.o
    rw [if_neg hc1] at hres
    have Hres := hd' hres
    clear hres
    by_cases hA : M < 4294967296
    ·have e3 : decide (V < 4294967296) = true := by rw [HV.o]; simp; omega
     have HA := hd' hA
     clear hA
     by_cases hC : c = 0
     ·have e4 : ((c : Int) != 0) = false := by simp [hC]
      have HC := hd' hC
      clear hC
      by_cases hk0 : k = 0
      ·have e5 : (7 * (k : Int) + 7 == 7) = true := by simp [hk0]
       have hor : Hid (c ≠ 0 ∨ 7 * k + 7 = 7) := Or.inr (by omega)
       clear hk0
       have hres := Hres.o
       rw [if_pos ⟨HA.o, hor.out⟩] at hres
       have Hres := hd' hres
       clear hres
       go_wp2_with fail
       refine (uku _).mono ?_; rintro e w2 ⟨rfl, rfl⟩
       by_cases hp : M % 2 = 1
       ·have eR : (V.tmod 2 == 1) = true := by rw [HV.o]; show (((M % 2 : Nat) : Int) == 1) = true; rw [hp]; rfl
        have Hp := hd' hp
        clear hp
        go_wp2_with fail
        simp only [Exit.jump]
        go_ret
        rw [← Hres.o]
        exact ⟨hmod.trans' hm1, _, rfl, congrArg (Value.int .i64) (num_odd HV.o HA.o Hp.o), h1⟩
       ·have eR : (V.tmod 2 == 1) = false := by rw [HV.o]; show (((M % 2 : Nat) : Int) == 1) = false; exact bqf.2 (by omega)
        have Hp := hd' hp
        clear hp
        go_wp2_with fail
        simp only [Exit.jump]
        go_ret
        rw [← Hres.o]
        exact ⟨hmod.trans' hm1, _, rfl, congrArg (Value.int .i64) (uu7 HV.o HA.o Hp.o), h1⟩
      ·have e5 : (7 * (k : Int) + 7 == 7) = false := by simp; omega
       have hres := Hres.o
       rw [if_neg (fun hx => by first | exact hA hx.1 | exact hx.2.elim (fun h => h HC.o) (fun h => by omega))] at hres
       have Hres2 := hd' hres
       clear hres
       (try clear hA)
       go_wp2_with fail
       refine (ukq _).mono ?_; rintro e w2 ⟨rfl, rfl⟩
       exact ⟨rfl, hmod.trans' hm1, by rw [← Hres2.o]; exact ⟨rfl, _, h1⟩⟩
     ·have e4 : ((c : Int) != 0) = true := by simp; omega
      have hor : Hid (c ≠ 0 ∨ 7 * k + 7 = 7) := Or.inl hC
      clear hC
      have hres := Hres.o
      rw [if_pos ⟨HA.o, hor.out⟩] at hres
      have Hres := hd' hres
      clear hres
      go_wp2_with fail
      refine (uku _).mono ?_; rintro e w2 ⟨rfl, rfl⟩
      by_cases hp : M % 2 = 1
      ·have eR : (V.tmod 2 == 1) = true := by rw [HV.o]; show (((M % 2 : Nat) : Int) == 1) = true; rw [hp]; rfl
       have Hp := hd' hp
       clear hp
       go_wp2_with fail
       simp only [Exit.jump]
       go_ret
       rw [← Hres.o]
       exact ⟨hmod.trans' hm1, _, rfl, congrArg (Value.int .i64) (num_odd HV.o HA.o Hp.o), h1⟩
      ·have eR : (V.tmod 2 == 1) = false := by rw [HV.o]; show (((M % 2 : Nat) : Int) == 1) = false; exact bqf.2 (by omega)
       have Hp := hd' hp
       clear hp
       go_wp2_with fail
       simp only [Exit.jump]
       go_ret
       rw [← Hres.o]
       exact ⟨hmod.trans' hm1, _, rfl, congrArg (Value.int .i64) (uu7 HV.o HA.o Hp.o), h1⟩
    ·have e3 : decide (V < 4294967296) = false := by rw [HV.o]; simp; omega
     have hres := Hres.o
     rw [if_neg (fun hx => by first | exact hA hx.1 | exact hx.2.elim (fun h => h HC.o) (fun h => by omega))] at hres
     have Hres2 := hd' hres
     clear hres
     (try clear hA)
     go_wp2_with fail
     refine (ukq _).mono ?_; rintro e w2 ⟨rfl, rfl⟩
     exact ⟨rfl, hmod.trans' hm1, by rw [← Hres2.o]; exact ⟨rfl, _, h1⟩⟩
  ·obtain rfl : n = bs.length := by have := h.le; omega
   have hr : uo6 bs (f + 1) bs.length m (7 * k) = none := by rw [uo6, dif_neg (by omega)]
   rw [hr] at hres
   have Hres2 := hd' hres
   clear hres hr hm
   have Hraw := hd' (uu0 wa R vb bs h)
   go_wp2_with fail
   refine Hraw.o.mono ?_
   rintro e w1 ⟨rfl, h1, hm1⟩
   exact ⟨rfl, hmod.trans' hm1, by rw [← Hres2.o]; exact ⟨rfl, _, h1⟩⟩
 case first =>
  go_wp2_with fail
  exact ⟨n, 0, 0, _, _, rfl, rfl, rfl, by omega, by decide, H.o, Mod.refl _ _, _, _, _, _, _, _, _, _, _, _, _, _, _, _, _, _, _, _, _, _, _, _, _, _, _, _, _, _, _, _, _, _, _, _, _, _, _, _, rfl⟩
end Go.Proofs.YtgolafbneiffpaaGreatDoor
namespace Go.Gou
open Go.RowKit
theorem RdAt.alloc {w : World} {R : Nat} {vb : Value} {bs : List Nat} {n : Nat} (h : RdAt w R vb bs n) (o : Obj) : RdAt (w.alloc o) R vb bs n :=
 h.mod (Mod.alloc (fun _ => False) w o) (fun h => h) (fun _ _ _ h => h)
theorem RdAt.over {w w2 w' : World} {R : Nat} {vb : Value} {bs : List Nat} {n q : Nat} (H : RdAt w R vb bs n) (hm : Mod (fun k => k = R) w w') (h2 : RdAt w2 R vb bs q) (hc : ∀ o, w'.cell? ⟨R, o, none⟩ = w2.cell? ⟨R, o, none⟩)
  (hf : w'.frozen? ⟨R, 1, none⟩ = w2.frozen? ⟨R, 1, none⟩) : RdAt w' R vb bs q :=
 ⟨by rw [hc]; exact h2.c0, by rw [hc]; exact h2.c1, by rw [hf]; exact h2.f1, H.bytes.mod hm (fun _ _ h => h), h2.le, h2.byte, h2.len⟩
theorem Mod.own {S : Nat → Prop} {w w2 : World} (h : Mod S w w2) (p : Addr) (u : Value) (hp : w.heap.size ≤ p.block) : Mod S w (w2.setCell p u) :=
 h.trans (Mod.setCell w2 p u) fun i hi e => by omega
theorem RdAt.own {w w2 : World} {R : Nat} {vb : Value} {bs : List Nat} {n q : Nat} (H : RdAt w R vb bs n) (h2 : RdAt w2 R vb bs q) (hm : Mod (fun k => k = R) w w2) (p : Addr) (u : Value) (hp : w.heap.size ≤ p.block) : RdAt (w2.setCell p u) R vb bs q :=
 H.over (hm.own p u hp) h2 (fun o => World.cell?_setCell_far _ _ _ _ (by have := H.lt; simp; omega)) (by rw [World.frozen?_setCell])
def uks (bs : List Nat) (n : Nat) (least most : Int) : Option (Int × Nat) :=
 match ukw bs n with
 | some (x, m) => if least ≤ x ∧ x ≤ most then some (x, m) else none
 | none => none
def umw (bs : List Nat) (n : Nat) : Option (Bool × Nat) :=
 match uks bs n 0 1 with
 | some (x, m) => some (x == 1, m)
 | none => none
def idAt (bs : List Nat) (n : Nat) : Option ((Int × Int) × Nat) :=
 match ukw bs n with
 | some (a, m) => match ukw bs m with
  | some (g, q) => some ((a, g), q)
  | none => none
 | none => none
end Go.Gou
namespace Go.Proofs.YtgolafbneiffpaaGreatDoor
open Go.RowKit Go.Gou
def IsBool (_ : World) (v : Value) (x : Bool) : Prop := v = .bool x
def IsId (_ : World) (v : Value) (x : Int × Int) : Prop := v = .agg #[iV x.1, iV x.2]
theorem RdP.fault {α β : Type} {w w1 w2 : World} {R : Nat} {vb : Value} {bs : List Nat} {I : World → Value → α → Prop} {J : World → Value → β → Prop} {res : Option (β × Nat)} {e : Ending} (hm0 : Mod (fun k => k = R) w w1)
  (h : RdP w1 R vb bs I none e w2) (hr : res = none) : e = .panicked utf ∧ RdP w R vb bs J res e w2 := by
 obtain ⟨hm, rfl, n, hn⟩ := h
 exact ⟨rfl, hm0.trans' hm, by rw [hr]; exact ⟨rfl, n, hn⟩⟩
theorem uap (w : World) (R : Nat) (vb : Value) (bs : List Nat) (n : Nat) (least most : Int) (h : RdAt w R vb bs n) :
  Calls Tryz.prog 102 #[.pointer (some ⟨R, 0, none⟩), iV least, iV most] w (RdP w R vb bs IsInt (uks bs n least most)) := by
 have H := hd' h
 clear h
 go_enter Tryz.func102, Tryz.ntmps102
 go_wp2_with fail
 refine (ukk _ R vb bs n H.o).mono ?_
 intro e w1 h1
 cases hn : ukw bs n with
 | none =>
  rw [hn] at h1
  obtain ⟨rfl, h2⟩ := h1.fault (J := IsInt) (res := uks bs n least most) (Mod.refl _ _) (by unfold uks; rw [hn])
  exact ⟨rfl, h2⟩
 | some p =>
  obtain ⟨x, m⟩ := p
  rw [hn] at h1
  obtain ⟨hm1, _, rfl, rfl, hr⟩ := h1
  by_cases h1 : least ≤ x
  ·have e1 : decide (least ≤ x) = true := by simp [h1]
   by_cases h2 : x ≤ most
   ·have e2 : decide (x ≤ most) = true := by simp [h2]
    have hw : Hid (uks bs n least most = some (x, m)) := by unfold uks; rw [hn]; exact if_pos ⟨h1, h2⟩
    clear h1 h2 hn
    go_wp2_with fail
    refine (uku _).mono ?_
    rintro e w2 ⟨rfl, rfl⟩
    go_wp2_with fail
    go_ret
    exact ⟨hm1, by rw [hw.out]; exact ⟨_, rfl, rfl, hr⟩⟩
   ·have e2 : decide (x ≤ most) = false := by simp; omega
    have hw : Hid (uks bs n least most = none) := by unfold uks; rw [hn]; exact if_neg (fun h => h2 h.2)
    clear h1 h2 hn
    go_wp2_with fail
    refine (ukq _).mono ?_
    rintro e w2 ⟨rfl, rfl⟩
    exact ⟨rfl, hm1, by rw [hw.out]; exact ⟨rfl, _, hr⟩⟩
  ·have e1 : decide (least ≤ x) = false := by simp; omega
   have hw : Hid (uks bs n least most = none) := by unfold uks; rw [hn]; exact if_neg (fun h => h1 h.1)
   clear h1 hn
   go_wp2_with fail
   refine (ukq _).mono ?_
   rintro e w2 ⟨rfl, rfl⟩
   exact ⟨rfl, hm1, by rw [hw.out]; exact ⟨rfl, _, hr⟩⟩
theorem ur3 (w : World) (R : Nat) (vb : Value) (bs : List Nat) (n : Nat) (h : RdAt w R vb bs n) :
  Calls Tryz.prog 128 #[.pointer (some ⟨R, 0, none⟩)] w (RdP w R vb bs IsBool (umw bs n)) := by
 have H := hd' h
 clear h
 go_enter Tryz.func128, Tryz.ntmps128
 go_wp2_with fail
 refine (uap _ R vb bs n 0 1 H.o).mono ?_
 intro e w1 h1
 cases hn : uks bs n 0 1 with
 | none =>
  rw [hn] at h1
  obtain ⟨rfl, h2⟩ := h1.fault (J := IsBool) (res := umw bs n) (Mod.refl _ _) (by unfold umw; rw [hn])
  exact ⟨rfl, h2⟩
 | some p =>
  obtain ⟨x, m⟩ := p
  rw [hn] at h1
  obtain ⟨hm1, _, rfl, rfl, hr⟩ := h1
  have hw : Hid (umw bs n = some (x == 1, m)) := by unfold umw; rw [hn]; rfl
  clear hn
  go_wp2_with fail
  go_ret
  exact ⟨hm1, by rw [hw.out]; exact ⟨_, rfl, rfl, hr⟩⟩
theorem us7 (w : World) (R : Nat) (vb : Value) (bs : List Nat) (n : Nat) (h : RdAt w R vb bs n) :
  Calls Tryz.prog 103 #[.pointer (some ⟨R, 0, none⟩)] w (RdP w R vb bs IsId (idAt bs n)) := by
 have H := hd' h
 have hR := h.lt
 clear h
 go_enter Tryz.func103, Tryz.ntmps103
 go_wp2_with fail
 refine (ukk _ R vb bs n (H.o.alloc _)).mono ?_
 intro e w1 h1
 have hm0 : Mod (fun k => k = R) w (w.alloc (.cells iiZ 23)) := Mod.alloc _ _ _
 cases hn : ukw bs n with
 | none =>
  rw [hn] at h1
  obtain ⟨rfl, h2⟩ := h1.fault (J := IsId) (res := idAt bs n) hm0 (by unfold idAt; rw [hn])
  exact ⟨rfl, h2⟩
 | some p =>
  obtain ⟨x, m⟩ := p
  rw [hn] at h1
  obtain ⟨hm1, _, rfl, rfl, hr⟩ := h1
  have Hm1 := hd' hm1
  go_wp2_with fail
  refine (ukk _ R vb bs m hr).mono ?_
  intro e w2 h2
  cases hn2 : ukw bs m with
  | none =>
   rw [hn2] at h2
   obtain ⟨rfl, h3⟩ := h2.fault (J := IsId) (res := idAt bs n) (hm0.trans' hm1) (by unfold idAt; rw [hn]; simp only [hn2])
   exact ⟨rfl, h3⟩
  | some p =>
   obtain ⟨y, q⟩ := p
   rw [hn2] at h2
   obtain ⟨hm2, _, rfl, rfl, hr2⟩ := h2
   have hw : Hid (idAt bs n = some ((x, y), q)) := hd' (by unfold idAt; rw [hn]; simp only [hn2])
   clear hn hn2
   have hN : ∀ o, w2.cell? ⟨w.heap.size, o, none⟩ = (w.alloc (.cells iiZ 23)).cell? ⟨w.heap.size, o, none⟩ := fun o => by
    rw [hm2.cell (p := ⟨w.heap.size, o, none⟩) (Nat.lt_of_lt_of_le (by simp) hm1.size) (by simp; omega), hm1.cell (p := ⟨w.heap.size, o, none⟩) (by simp) (by simp; omega)]
   have hF : ∀ o, w2.frozen? ⟨w.heap.size, o, none⟩ = (w.alloc (.cells iiZ 23)).frozen? ⟨w.heap.size, o, none⟩ := fun o => by
    rw [hm2.frozen (p := ⟨w.heap.size, o, none⟩) (Nat.lt_of_lt_of_le (by simp) hm1.size) (by simp; omega), hm1.frozen (p := ⟨w.heap.size, o, none⟩) (by simp) (by simp; omega)]
   have c0 : w2.cell? ⟨w.heap.size, 0, none⟩ = some (iV 0) := by rw [hN, World.cell?_alloc_new]; rfl
   have c1 : w2.cell? ⟨w.heap.size, 1, none⟩ = some (iV 0) := by rw [hN, World.cell?_alloc_new]; rfl
   have f0 : w2.frozen? ⟨w.heap.size, 0, none⟩ = false := by rw [hF, World.frozen?_alloc_new]
   have f1 : w2.frozen? ⟨w.heap.size, 1, none⟩ = false := by rw [hF, World.frozen?_alloc_new]
   have Hr2 := hd' hr2
   have Hm2 := hd' ((hm0.trans' hm1).trans' hm2)
   clear hN hF hr hr2 hm0 hm1 hm2 Hm1
   go_wp2_with fail
   refine bpr (v := .agg #[iV x, iV y]) (by simp [results, Tryz.results103, go_sem, c0, c1]) rfl ?_
   exact ⟨(Hm2.o.own _ _ (Nat.le_refl _)).own _ _ (Nat.le_refl _), by
    rw [hw.out]
    exact ⟨_, rfl, rfl, H.o.own (H.o.own Hr2.o Hm2.o _ _ (Nat.le_refl _)) (Hm2.o.own _ _ (Nat.le_refl _)) _ _ (Nat.le_refl _)⟩⟩
end Go.Proofs.YtgolafbneiffpaaGreatDoor
namespace Go.Gou
open Go.RowKit
def umr (bs : List Nat) (n : Nat) : Option (Nat × Nat) := if h : n < bs.length then some (bs[n], n + 1) else none
def ukh {α : Type} (f : Nat → Option (α × Nat)) (n : Nat) : Nat → Option (List α × Nat)
 | 0 => some ([], n)
 | k + 1 => match ukh f n k with
  | some (xs, m) => match f m with
   | some (x, q) => some (xs ++ [x], q)
   | none => none
  | none => none
theorem um1 {α : Type} {f : Nat → Option (α × Nat)} {n k j : Nat} (h : ukh f n (k + 1) = none) (hj : k + 1 ≤ j) : ukh f n j = none := by
 induction j with
 | zero => omega
 | succ j ih =>
  by_cases e : k + 1 = j + 1
  ·rw [← e]; exact h
  ·rw [ukh, ih (by omega)]
theorem utc {α : Type} (xs : List α) (x d : α) (k i : Nat) (h : xs.length = k) : (if i = k then x else xs.getD i d) = (xs ++ [x]).getD i d := by
 subst h
 by_cases e : i = xs.length
 ·subst e
  simp [List.getD]
 ·rw [if_neg e]
  rcases Nat.lt_or_ge i xs.length with hl | hl
  ·simp [List.getD, lgL hl]
  ·have h1 : xs[i]? = none := List.getElem?_eq_none hl
   have h2 : (xs ++ [x])[i]? = none := List.getElem?_eq_none (by simp; omega)
   simp [List.getD, h1, h2]
theorem list4 {α : Type} {xs : List α} (h : xs.length = 4) : ∃ a b c d, xs = [a, b, c, d] := by
 match xs, h with
 | [a, b, c, d], _ => exact ⟨a, b, c, d, rfl⟩
def ul7 (bs : List Nat) (n : Nat) : Option (List Nat × Nat) := ukh (umr bs) n 4
def ur9 (bs : List Nat) (n : Nat) : Option (List Int × Nat) := ukh (ukw bs) n 4
structure Four (w : World) (R : Nat) (vb : Value) (bs : List Nat) (f : Nat → Value) (z : Value) (m : Nat) (wr : World) : Prop where
 old : ∃ n, RdAt w R vb bs n
 rd : RdAt wr R vb bs m
 mod : Mod (fun k => k = R) w wr
 z : ∀ i, i < 4 → wr.cell? ⟨w.heap.size, i, none⟩ = some z
 fz : ∀ i, i < 4 → wr.frozen? ⟨w.heap.size, i, none⟩ = false
 a : ∀ i, i < 4 → wr.cell? ⟨w.heap.size + 1, i, none⟩ = some (f i)
 fa : ∀ i, i < 4 → wr.frozen? ⟨w.heap.size + 1, i, none⟩ = false
 lt : w.heap.size + 1 < wr.heap.size
theorem uri {p : Nat → Prop} (h0 : p 0) (h1 : p 1) (h2 : p 2) (h3 : p 3) : ∀ i, i < 4 → p i := fun i hi => by
 rcases (show i = 0 ∨ i = 1 ∨ i = 2 ∨ i = 3 by omega) with rfl | rfl | rfl | rfl <;> assumption
theorem Four.start {w : World} {R : Nat} {vb : Value} {bs : List Nat} {n : Nat} (h : RdAt w R vb bs n) (z : Value) (T U : TypeId) : Four w R vb bs (fun _ => z) z n ((w.alloc (.cells #[z, z, z, z] T)).alloc (.cells #[z, z, z, z] U)) := by
 have hs : w.heap.size + 1 = (w.alloc (.cells #[z, z, z, z] T)).heap.size := by simp
 refine ⟨⟨n, h⟩, (h.alloc _).alloc _, (Mod.alloc _ _ _).trans' (Mod.alloc _ _ _), ?_, ?_, ?_, ?_, by simp⟩
 ·refine uri ?_ ?_ ?_ ?_ <;> (rw [World.cell?_alloc_past _ _ _ (by simp), World.cell?_alloc_new]; rfl)
 ·intro i _
  rw [World.frozen?_alloc_old (h := by simp)]
  exact World.frozen?_alloc_new _ _ _ i
 ·rw [hs]
  refine uri ?_ ?_ ?_ ?_ <;> (rw [World.cell?_alloc_new]; rfl)
 ·intro i _
  rw [hs, World.frozen?_alloc_new]
theorem Four.step {w : World} {R : Nat} {vb : Value} {bs : List Nat} {f : Nat → Value} {z : Value} {m q : Nat} {wr w1 : World} (h : Four w R vb bs f z m wr) (hm : Mod (fun k => k = R) wr w1) (hr : RdAt w1 R vb bs q) : Four w R vb bs f z q w1 := by
 obtain ⟨n, hn⟩ := h.old
 have hR := hn.lt
 have hl := h.lt
 refine ⟨h.old, hr, h.mod.trans' hm, fun i hi => ?_, fun i hi => ?_, fun i hi => ?_, fun i hi => ?_, Nat.lt_of_lt_of_le h.lt hm.size⟩
 ·rw [hm.cell (p := ⟨w.heap.size, i, none⟩) (by simp; omega) (by simp; omega)]; exact h.z i hi
 ·rw [hm.frozen (p := ⟨w.heap.size, i, none⟩) (by simp; omega) (by simp; omega)]; exact h.fz i hi
 ·rw [hm.cell (p := ⟨w.heap.size + 1, i, none⟩) (by simp; omega) (by simp; omega)]; exact h.a i hi
 ·rw [hm.frozen (p := ⟨w.heap.size + 1, i, none⟩) (by simp; omega) (by simp; omega)]; exact h.fa i hi
theorem Four.congr {w : World} {R : Nat} {vb : Value} {bs : List Nat} {f g : Nat → Value} {z : Value} {m : Nat} {wr : World} (h : Four w R vb bs f z m wr) (hfg : ∀ i, i < 4 → f i = g i) : Four w R vb bs g z m wr :=
 ⟨h.old, h.rd, h.mod, h.z, h.fz, fun i hi => by rw [h.a i hi, hfg i hi], h.fa, h.lt⟩
theorem Four.put {w : World} {R : Nat} {vb : Value} {bs : List Nat} {f : Nat → Value} {z : Value} {m : Nat} {wr : World} (h : Four w R vb bs f z m wr) (k : Nat) (hk : k < 4) (u : Value) :
  Four w R vb bs (fun i => if i = k then u else f i) z m (wr.setCell ⟨w.heap.size + 1, k, none⟩ u) := by
 obtain ⟨n, hn⟩ := h.old
 refine ⟨h.old, hn.own h.rd h.mod _ _ (by simp), h.mod.own _ _ (by simp), fun i hi => ?_, fun i hi => ?_, fun i hi => ?_, fun i hi => ?_, by simpa using h.lt⟩
 ·rw [World.cell?_setCell_far _ _ _ _ (by simp)]; exact h.z i hi
 ·rw [World.frozen?_setCell]; exact h.fz i hi
 ·by_cases e : i = k
  ·subst e
   rw [World.cell?_setCell_same (u := f i) _ _ _ (h.a i hi)]
   simp
  ·rw [World.cell?_setCell_other _ _ _ _ (by simp [e]), if_neg e]
   exact h.a i hi
 ·rw [World.frozen?_setCell]; exact h.fa i hi
end Go.Gou
namespace Go.Proofs.YtgolafbneiffpaaGreatDoor
open Go.RowKit Go.Gou
def IsByte (_ : World) (v : Value) (x : Nat) : Prop := v = .int .u8 (x : Nat)
def IsPx (_ : World) (v : Value) (x : List Nat) : Prop := x.length = 4 ∧ v = .agg #[.int .u8 (x.getD 0 0 : Nat), .int .u8 (x.getD 1 0 : Nat), .int .u8 (x.getD 2 0 : Nat), .int .u8 (x.getD 3 0 : Nat)]
def IsRect (_ : World) (v : Value) (x : List Int) : Prop := x.length = 4 ∧ v = .agg #[iV (x.getD 0 0), iV (x.getD 1 0), iV (x.getD 2 0), iV (x.getD 3 0)]
theorem raw_any (w : World) (R : Nat) (vb : Value) (bs : List Nat) (n : Nat) (h : RdAt w R vb bs n) :
  Calls Tryz.prog 57 #[.pointer (some ⟨R, 0, none⟩)] w (RdP w R vb bs IsByte (umr bs n)) := by
 by_cases hn : n < bs.length
 ·have e : umr bs n = some (bs[n], n + 1) := by unfold umr; rw [dif_pos hn]
  rw [e]
  refine (uuz w R vb bs n h hn).mono ?_
  rintro e w' ⟨rfl, h1, h2⟩
  exact ⟨h2, _, rfl, by simp [IsByte, List.getD, hn], h1⟩
 ·have e : umr bs n = none := by unfold umr; rw [dif_neg hn]
  rw [e]
  obtain rfl : n = bs.length := by have := h.le; omega
  refine (uu0 w R vb bs h).mono ?_
  rintro e w' ⟨rfl, h1, h2⟩
  exact ⟨h2, rfl, _, h1⟩
theorem uel (w : World) (R : Nat) (vb : Value) (bs : List Nat) (n : Nat) (h : RdAt w R vb bs n) :
  Calls Tryz.prog 147 #[.pointer (some ⟨R, 0, none⟩)] w (RdP w R vb bs IsPx (ul7 bs n)) := by
 have H := hd' h
 have hR := h.lt
 clear h
 have Hst := hd' (Four.start H.o (.int .u8 0) 27 27)
 go_enter Tryz.func147, Tryz.ntmps147
 go_wp2_with fail
 go_loopw [5] (fun c wr => ∃ (k : Nat) (xs : List Nat) (m : Nat), c = iV k ∧ k ≤ 4 ∧ ukh (umr bs) n k = some (xs, m) ∧ xs.length = k ∧ Four w R vb bs (fun i => .int .u8 (xs.getD i 0 : Nat)) (.int .u8 0) m wr) (fun c _ => 4 - (intOf c).toNat)
 case atStart => exact ⟨0, [], n, rfl, by omega, rfl, rfl, Hst.o⟩
 case round =>
  obtain ⟨k, xs, m, rfl, hk, hx, hxl, hf⟩ := hrel
  have Hf := hd' hf
  have Hx := hd' hx
  clear hx
  by_cases hk4 : k < 4
  ·have e1 : decide ((k : Int) < 4) = true := by simp; omega
   clear hf
   go_wp2_with fail
   refine (raw_any _ R vb bs m Hf.o.rd).mono ?_
   intro e w1 h1
   cases hn : umr bs m with
   | none =>
    rw [hn] at h1
    have hnone : ukh (umr bs) n 4 = none := um1 (k := k) (by rw [ukh, Hx.o]; simp only [hn]) (by omega)
    obtain ⟨rfl, h2⟩ := h1.fault (J := IsPx) (res := ul7 bs n) Hf.o.mod hnone
    exact ⟨rfl, h2⟩
   | some p =>
    obtain ⟨x, q⟩ := p
    rw [hn] at h1
    obtain ⟨hm1, _, rfl, rfl, hr⟩ := h1
    have hx2 : Hid (ukh (umr bs) n (k + 1) = some (xs ++ [x], q)) := hd' (by rw [ukh, Hx.o]; simp only [hn])
    have hf1 := Hf.o.step hm1 hr
    have hck := hf1.a k hk4
    have hfk := hf1.fa k hk4
    have Hf1 := hd' hf1
    have hkI : (k : Int) < 4 := by omega
    have hk0 : (0 : Int) ≤ (k : Int) := by omega
    clear hn hm1 hr hf1 Hx
    go_wp2_with fail
    go_roundw
    case rel => exact ⟨k + 1, xs ++ [x], q, by go_num, by omega, hx2.out, by simp [hxl], (Hf1.o.put k hk4 _).congr fun i _ => by rw [← utc xs x 0 k i hxl]; split <;> rfl⟩
    case measure => simp [intOf]; omega
  ·obtain rfl : k = 4 := by omega
   have a0 := hf.a 0 (by omega)
   have a1 := hf.a 1 (by omega)
   have a2 := hf.a 2 (by omega)
   have a3 := hf.a 3 (by omega)
   have z0 := hf.z 0 (by omega)
   have z1 := hf.z 1 (by omega)
   have z2 := hf.z 2 (by omega)
   have z3 := hf.z 3 (by omega)
   have y0 := hf.fz 0 (by omega)
   have y1 := hf.fz 1 (by omega)
   have y2 := hf.fz 2 (by omega)
   have y3 := hf.fz 3 (by omega)
   obtain ⟨x0, x1, x2, x3, rfl⟩ := list4 hxl
   simp only [List.getD_cons_zero, List.getD_cons_succ] at a0 a1 a2 a3
   clear hf hk hk4
   go_wp2_with fail
   refine bpr (v := .agg #[.int .u8 x0, .int .u8 x1, .int .u8 x2, .int .u8 x3]) (by simp [results, Tryz.results147, go_sem, z0, z1, z2, z3]) rfl ?_
   have m0 := Hf.o.mod
   have r0 := H.o.own Hf.o.rd m0 ⟨w.heap.size, 0, none⟩ (.int .u8 x0) (Nat.le_refl _)
   have m1 := m0.own ⟨w.heap.size, 0, none⟩ (.int .u8 x0) (Nat.le_refl _)
   have r1 := H.o.own r0 m1 ⟨w.heap.size, 1, none⟩ (.int .u8 x1) (Nat.le_refl _)
   have m2 := m1.own ⟨w.heap.size, 1, none⟩ (.int .u8 x1) (Nat.le_refl _)
   have r2 := H.o.own r1 m2 ⟨w.heap.size, 2, none⟩ (.int .u8 x2) (Nat.le_refl _)
   have m3 := m2.own ⟨w.heap.size, 2, none⟩ (.int .u8 x2) (Nat.le_refl _)
   have r3 := H.o.own r2 m3 ⟨w.heap.size, 3, none⟩ (.int .u8 x3) (Nat.le_refl _)
   have m4 := m3.own ⟨w.heap.size, 3, none⟩ (.int .u8 x3) (Nat.le_refl _)
   have hres : ul7 bs n = some ([x0, x1, x2, x3], m) := Hx.o
   rw [hres]
   exact ⟨m4, _, rfl, ⟨rfl, rfl⟩, r3⟩
theorem box_any (w : World) (R : Nat) (vb : Value) (bs : List Nat) (n : Nat) (h : RdAt w R vb bs n) :
  Calls Tryz.prog 129 #[.pointer (some ⟨R, 0, none⟩)] w (RdP w R vb bs IsRect (ur9 bs n)) := by
 have H := hd' h
 have hR := h.lt
 clear h
 have Hst := hd' (Four.start H.o (iV 0) 25 188)
 go_enter Tryz.func129, Tryz.ntmps129
 go_wp2_with fail
 go_loopw [5] (fun c wr => ∃ (k : Nat) (xs : List Int) (m : Nat), c = iV k ∧ k ≤ 4 ∧ ukh (ukw bs) n k = some (xs, m) ∧ xs.length = k ∧ Four w R vb bs (fun i => iV (xs.getD i 0)) (iV 0) m wr) (fun c _ => 4 - (intOf c).toNat)
 case atStart => exact ⟨0, [], n, rfl, by omega, rfl, rfl, Hst.o⟩
 case round =>
  obtain ⟨k, xs, m, rfl, hk, hx, hxl, hf⟩ := hrel
  have Hf := hd' hf
  have Hx := hd' hx
  clear hx
  by_cases hk4 : k < 4
  ·have e1 : decide ((k : Int) < 4) = true := by simp; omega
   clear hf
   go_wp2_with fail
   refine (ukk _ R vb bs m Hf.o.rd).mono ?_
   intro e w1 h1
   cases hn : ukw bs m with
   | none =>
    rw [hn] at h1
    have hnone : ukh (ukw bs) n 4 = none := um1 (k := k) (by rw [ukh, Hx.o]; simp only [hn]) (by omega)
    obtain ⟨rfl, h2⟩ := h1.fault (J := IsRect) (res := ur9 bs n) Hf.o.mod hnone
    exact ⟨rfl, h2⟩
   | some p =>
    obtain ⟨x, q⟩ := p
    rw [hn] at h1
    obtain ⟨hm1, _, rfl, rfl, hr⟩ := h1
    have hx2 : Hid (ukh (ukw bs) n (k + 1) = some (xs ++ [x], q)) := hd' (by rw [ukh, Hx.o]; simp only [hn])
    have hf1 := Hf.o.step hm1 hr
    have hck := hf1.a k hk4
    have hfk := hf1.fa k hk4
    have Hf1 := hd' hf1
    have hkI : (k : Int) < 4 := by omega
    have hk0 : (0 : Int) ≤ (k : Int) := by omega
    clear hn hm1 hr hf1 Hx
    go_wp2_with fail
    go_roundw
    case rel => exact ⟨k + 1, xs ++ [x], q, by go_num, by omega, hx2.out, by simp [hxl], (Hf1.o.put k hk4 _).congr fun i _ => by rw [← utc xs x 0 k i hxl]; split <;> rfl⟩
    case measure => simp [intOf]; omega
  ·obtain rfl : k = 4 := by omega
   have a0 := hf.a 0 (by omega)
   have a1 := hf.a 1 (by omega)
   have a2 := hf.a 2 (by omega)
   have a3 := hf.a 3 (by omega)
   have z0 := hf.z 0 (by omega)
   have z1 := hf.z 1 (by omega)
   have z2 := hf.z 2 (by omega)
   have z3 := hf.z 3 (by omega)
   have y0 := hf.fz 0 (by omega)
   have y1 := hf.fz 1 (by omega)
   have y2 := hf.fz 2 (by omega)
   have y3 := hf.fz 3 (by omega)
   obtain ⟨x0, x1, x2, x3, rfl⟩ := list4 hxl
   simp only [List.getD_cons_zero, List.getD_cons_succ] at a0 a1 a2 a3
   clear hf hk hk4
   go_wp2_with fail
   refine bpr (v := .agg #[iV x0, iV x1, iV x2, iV x3]) (by simp [results, Tryz.results129, go_sem, z0, z1, z2, z3]) rfl ?_
   have m0 := Hf.o.mod
   have r0 := H.o.own Hf.o.rd m0 ⟨w.heap.size, 0, none⟩ (iV x0) (Nat.le_refl _)
   have m1 := m0.own ⟨w.heap.size, 0, none⟩ (iV x0) (Nat.le_refl _)
   have r1 := H.o.own r0 m1 ⟨w.heap.size, 1, none⟩ (iV x1) (Nat.le_refl _)
   have m2 := m1.own ⟨w.heap.size, 1, none⟩ (iV x1) (Nat.le_refl _)
   have r2 := H.o.own r1 m2 ⟨w.heap.size, 2, none⟩ (iV x2) (Nat.le_refl _)
   have m3 := m2.own ⟨w.heap.size, 2, none⟩ (iV x2) (Nat.le_refl _)
   have r3 := H.o.own r2 m3 ⟨w.heap.size, 3, none⟩ (iV x3) (Nat.le_refl _)
   have m4 := m3.own ⟨w.heap.size, 3, none⟩ (iV x3) (Nat.le_refl _)
   have hres : ur9 bs n = some ([x0, x1, x2, x3], m) := Hx.o
   rw [hres]
   exact ⟨m4, _, rfl, ⟨rfl, rfl⟩, r3⟩
end Go.Proofs.YtgolafbneiffpaaGreatDoor
namespace Go.Gou
open Go.RowKit
structure Rc where
 x0 : Int
 y0 : Int
 x1 : Int
 y1 : Int
 deriving DecidableEq
structure Pxl where
 p0 : Nat
 p1 : Nat
 p2 : Nat
 p3 : Nat
 deriving DecidableEq
deriving instance DecidableEq for ubb
deriving instance DecidableEq for Gr
structure Ct where
 kind : Int
 box : Rc
 px : Pxl
 w : Int
 h : Int
 turn : Int
 pix : List Pxl
 deriving DecidableEq
structure Lk where
 dx : Int
 dy : Int
 hasClip : Bool
 clip : Rc
 opacity : Int
 mode : Int
 content : Ct
 hasFilt : Bool
 filt : Gr
 hasBack : Bool
 back : Gr
 deriving DecidableEq
structure Opr where
 kind : Int
 id : Int × Int
 to : Int × Int
 at_ : Int
 look : Lk
 deriving DecidableEq
structure Cf where
 fuse : Bool
 alias : Bool
 roi : Bool
 damage : Bool
 room : Int
 deriving DecidableEq
structure Ac where
 kind : Int
 op : Opr
 w : Int
 h : Int
 conf : Cf
 deriving DecidableEq
def Rc.zero : Rc := ⟨0, 0, 0, 0⟩
def Pxl.zero : Pxl := ⟨0, 0, 0, 0⟩
def Gr.zero : Gr := ⟨[], 0⟩
def Ct.zero : Ct := ⟨0, Rc.zero, Pxl.zero, 0, 0, 0, []⟩
def Lk.zero : Lk := ⟨0, 0, false, Rc.zero, 0, 0, Ct.zero, false, Gr.zero, false, Gr.zero⟩
def Opr.zero : Opr := ⟨0, (0, 0), (0, 0), 0, Lk.zero⟩
def Cf.zero : Cf := ⟨false, false, false, false, 0⟩
def Ac.zero : Ac := ⟨0, Opr.zero, 0, 0, Cf.zero⟩
def Rc.of (l : List Int) : Rc := ⟨l.getD 0 0, l.getD 1 0, l.getD 2 0, l.getD 3 0⟩
def Pxl.of (l : List Nat) : Pxl := ⟨l.getD 0 0, l.getD 1 0, l.getD 2 0, l.getD 3 0⟩
def Pxl.cells (p : Pxl) : List Value := [.int .u8 (p.p0 : Nat), .int .u8 (p.p1 : Nat), .int .u8 (p.p2 : Nat), .int .u8 (p.p3 : Nat)]
abbrev ivs (xs : List Int) : List Value := xs.map (.int .i64)
abbrev pxs (ps : List Pxl) : List Value := ps.flatMap Pxl.cells
def uak (c : Ct) (vp : Value) : Array Value :=
 #[iV c.kind, iV c.box.x0, iV c.box.y0, iV c.box.x1, iV c.box.y1,
     .int .u8 (c.px.p0 : Nat), .int .u8 (c.px.p1 : Nat), .int .u8 (c.px.p2 : Nat), .int .u8 (c.px.p3 : Nat), iV c.w, iV c.h, iV c.turn, vp]
def uai (l : Lk) (vp vf vb : Value) : Array Value :=
 List.toArray (iV l.dx :: iV l.dy :: Value.bool l.hasClip :: iV l.clip.x0 :: iV l.clip.y0 :: iV l.clip.x1 :: iV l.clip.y1 :: iV l.opacity :: iV l.mode :: iV l.content.kind :: iV l.content.box.x0 :: iV l.content.box.y0 :: iV l.content.box.x1 :: iV l.content.box.y1 :: Value.int .u8 (l.content.px.p0 : Nat) :: Value.int .u8 (l.content.px.p1 : Nat) :: Value.int .u8 (l.content.px.p2 : Nat) :: Value.int .u8 (l.content.px.p3 : Nat) :: iV l.content.w :: iV l.content.h :: iV l.content.turn :: vp :: Value.bool l.hasFilt :: vf :: iV l.filt.out :: Value.bool l.hasBack :: vb :: iV l.back.out :: [])
@[reducible] def lkZz : Array Value := uai Lk.zero nlS nlS nlS
@[reducible] def lkS (l : Lk) (p : Option Addr) (c : Nat) (q : Option Addr) (d : Nat) (r : Option Addr) (e : Nat) : Array Value := uai l (.slice p l.content.pix.length c) (.slice q l.filt.nodes.length d) (.slice r l.back.nodes.length e)
def oprC (o : Opr) (vp vf vb : Value) : Array Value :=
 List.toArray (iV o.kind :: iV o.id.1 :: iV o.id.2 :: iV o.to.1 :: iV o.to.2 :: iV o.at_ :: iV o.look.dx :: iV o.look.dy :: Value.bool o.look.hasClip :: iV o.look.clip.x0 :: iV o.look.clip.y0 :: iV o.look.clip.x1 :: iV o.look.clip.y1 :: iV o.look.opacity :: iV o.look.mode :: iV o.look.content.kind :: iV o.look.content.box.x0 :: iV o.look.content.box.y0 :: iV o.look.content.box.x1 :: iV o.look.content.box.y1 :: Value.int .u8 (o.look.content.px.p0 : Nat) :: Value.int .u8 (o.look.content.px.p1 : Nat) :: Value.int .u8 (o.look.content.px.p2 : Nat) :: Value.int .u8 (o.look.content.px.p3 : Nat) :: iV o.look.content.w :: iV o.look.content.h :: iV o.look.content.turn :: vp :: Value.bool o.look.hasFilt :: vf :: iV o.look.filt.out :: Value.bool o.look.hasBack :: vb :: iV o.look.back.out :: [])
@[reducible] def opS (o : Opr) (p : Option Addr) (c : Nat) (q : Option Addr) (d : Nat) (r : Option Addr) (e : Nat) : Array Value := oprC o (.slice p o.look.content.pix.length c) (.slice q o.look.filt.nodes.length d) (.slice r o.look.back.nodes.length e)
def confC (c : Cf) : Array Value := #[.bool c.fuse, .bool c.alias, .bool c.roi, .bool c.damage, iV c.room]
def actC (a : Ac) (vp vf vb : Value) : Array Value :=
 List.toArray (iV a.kind :: iV a.op.kind :: iV a.op.id.1 :: iV a.op.id.2 :: iV a.op.to.1 :: iV a.op.to.2 :: iV a.op.at_ :: iV a.op.look.dx :: iV a.op.look.dy :: Value.bool a.op.look.hasClip :: iV a.op.look.clip.x0 :: iV a.op.look.clip.y0 :: iV a.op.look.clip.x1 :: iV a.op.look.clip.y1 :: iV a.op.look.opacity :: iV a.op.look.mode :: iV a.op.look.content.kind :: iV a.op.look.content.box.x0 :: iV a.op.look.content.box.y0 :: iV a.op.look.content.box.x1 :: iV a.op.look.content.box.y1 :: Value.int .u8 (a.op.look.content.px.p0 : Nat) :: Value.int .u8 (a.op.look.content.px.p1 : Nat) :: Value.int .u8 (a.op.look.content.px.p2 : Nat) :: Value.int .u8 (a.op.look.content.px.p3 : Nat) :: iV a.op.look.content.w :: iV a.op.look.content.h :: iV a.op.look.content.turn :: vp :: Value.bool a.op.look.hasFilt :: vf :: iV a.op.look.filt.out :: Value.bool a.op.look.hasBack :: vb :: iV a.op.look.back.out :: iV a.w :: iV a.h :: Value.bool a.conf.fuse :: Value.bool a.conf.alias :: Value.bool a.conf.roi :: Value.bool a.conf.damage :: iV a.conf.room :: [])
def RowG (G : Nat → Prop) (w : World) (k : Nat) (v : Value) (n : Nat) (cs : List Value) : Prop :=
 cs.length = n * k ∧ ∃ (p : Option Addr) (cap : Nat), v = .slice p n cap ∧ n ≤ cap ∧ (n = 0 ∨ ∃ b o, p = some ⟨b, o, none⟩ ∧ b < w.heap.size ∧ G b ∧
     ∀ j u, cs[j]? = some u → w.cell? ⟨b, o + j, none⟩ = some u)
theorem RowG.mod {G S : Nat → Prop} {w w' : World} {k : Nat} {v : Value} {n : Nat} {cs : List Value} (h : RowG G w k v n cs) (hm : Mod S w w') (hS : ∀ k, k < w.heap.size → G k → ¬ S k) : RowG G w' k v n cs := by
 obtain ⟨hl, p, cap, rfl, hcap, h⟩ := h
 refine ⟨hl, p, cap, rfl, hcap, h.imp id ?_⟩
 rintro ⟨b, o, rfl, hB, hG, hc⟩
 exact ⟨b, o, rfl, Nat.lt_of_lt_of_le hB hm.size, hG, fun j u hu => by rw [hm.cell (p := ⟨b, o + j, none⟩) hB (hS b hB hG)]; exact hc j u hu⟩
theorem RowG.imp {G G' : Nat → Prop} {w : World} {k : Nat} {v : Value} {n : Nat} {cs : List Value} (h : RowG G w k v n cs) (hG : ∀ k, k < w.heap.size → G k → G' k) : RowG G' w k v n cs := by
 obtain ⟨hl, p, cap, rfl, hcap, h⟩ := h
 refine ⟨hl, p, cap, rfl, hcap, h.imp id ?_⟩
 rintro ⟨b, o, rfl, hB, hG', hc⟩
 exact ⟨b, o, rfl, hB, hG b hB hG', hc⟩
theorem RowG.form {G : Nat → Prop} {w : World} {k : Nat} {v : Value} {n : Nat} {cs : List Value} (h : RowG G w k v n cs) : ∃ p cap, v = .slice p n cap ∧ n ≤ cap := by
 obtain ⟨_, p, cap, rfl, hcap, _⟩ := h
 exact ⟨p, cap, rfl, hcap⟩
theorem RowG.nil (G : Nat → Prop) (w : World) (k : Nat) : RowG G w k nlS 0 [] := ⟨by simp, none, 0, rfl, Nat.le_refl _, .inl rfl⟩
theorem RowG.of_own {w : World} {base : Nat} {e : TypeId} {k : Nat} {v : Value} {n : Nat} {cs : List Value} (h : w.ownsRow base e k v n cs) : RowG (fun b => base ≤ b) w k v n cs := by
 have hlt := h.lt
 obtain ⟨hl, h⟩ := h
 rcases h with ⟨rfl, rfl⟩ | ⟨g, cap, cur, rfl, hg, hh, hn, _, _, ht⟩
 ·exact ⟨hl, _, _, rfl, Nat.le_refl _, .inl rfl⟩
 ·refine ⟨hl, _, _, rfl, hn, .inr ⟨g, 0, rfl, (hlt g rfl).2, hg, fun j u hu => ?_⟩⟩
  rw [Nat.zero_add, cell_of_row w g j cur e (0, 0) hh, ← hu, ← ht, List.getElem?_take]
  have hj : j < cs.length := (lgS.1 hu).1
  rw [if_pos (by omega)]
  simp
theorem RowG.own_of {w : World} {base : Nat} {e : TypeId} {k : Nat} {v : Value} {n : Nat} {cs : List Value} (h : w.ownsRow base e k v n cs) {G : Nat → Prop} (hG : ∀ b, v.ownBlock = some b → base ≤ b → G b) : RowG G w k v n cs := by
 have h1 := RowG.of_own h
 obtain ⟨hl, p, cap, rfl, hcap, h1⟩ := h1
 refine ⟨hl, p, cap, rfl, hcap, h1.imp id ?_⟩
 rintro ⟨b, o, rfl, hB, hb, hc⟩
 exact ⟨b, o, rfl, hB, hG b rfl hb, hc⟩
def Soft (w : World) (v : Value) : Prop := ∀ b, v.ownBlock = some b → ∃ cur T, w.heap[b]? = some (.cells cur T (0, 0))
theorem Soft.of_own {w : World} {base : Nat} {e : TypeId} {k : Nat} {v : Value} {n : Nat} {cs : List Value} (h : w.ownsRow base e k v n cs) : Soft w v := by
 intro b hb
 rcases h.2 with ⟨rfl, _⟩ | ⟨g, cap, cur, rfl, hg, hh, _⟩
 ·cases hb
 ·obtain rfl : g = b := by simpa [Value.ownBlock] using hb
  exact ⟨cur, e, hh⟩
def IntsR (G : Nat → Prop) (w : World) (v : Value) (xs : List Int) : Prop := RowG G w 1 v xs.length (ivs xs)
def PixR (G : Nat → Prop) (w : World) (v : Value) (ps : List Pxl) : Prop := RowG G w 4 v ps.length (pxs ps)
def NodeC (G : Nat → Prop) (w : World) (xs : List Value) (ns : List ubb) : Prop :=
 xs.length = ns.length * 3 ∧ ∀ i, (h : i < ns.length) → ∃ vi vp, xs[i * 3]? = some (iV ns[i].op) ∧ xs[i * 3 + 1]? = some vi ∧ xs[i * 3 + 2]? = some vp ∧ IntsR G w vi ns[i].ins ∧ IntsR G w vp ns[i].ps
theorem NodeC.nil (G : Nat → Prop) (w : World) : NodeC G w [] [] := ⟨rfl, fun i h => by simp at h⟩
theorem NodeC.snoc {G : Nat → Prop} {w : World} {xs : List Value} {ns : List ubb} (h : NodeC G w xs ns) (n : ubb) (vi vp : Value) (h1 : IntsR G w vi n.ins) (h2 : IntsR G w vp n.ps) :
  NodeC G w (xs ++ [iV n.op, vi, vp]) (ns ++ [n]) := by
 obtain ⟨hl, h⟩ := h
 refine ⟨by simp [hl]; omega, fun i hi => ?_⟩
 by_cases hin : i < ns.length
 ·obtain ⟨a, b, c0, c1, c2, c3, c4⟩ := h i hin
  refine ⟨a, b, ?_, ?_, ?_, ?_, ?_⟩
  ·rw [lgL (by omega), c0, List.getElem_append_left hin]
  ·rw [lgL (by omega), c1]
  ·rw [lgL (by omega), c2]
  ·rw [List.getElem_append_left hin]; exact c3
  ·rw [List.getElem_append_left hin]; exact c4
 ·have hi' : i = ns.length := by simp at hi; omega
  subst hi'
  refine ⟨vi, vp, ?_, ?_, ?_, ?_, ?_⟩
  ·rw [lgR (by omega), hl]; simp
  ·rw [lgR (by omega), hl]
   have : ns.length * 3 + 1 - ns.length * 3 = 1 := by omega
   rw [this]; rfl
  ·rw [lgR (by omega), hl]
   have : ns.length * 3 + 2 - ns.length * 3 = 2 := by omega
   rw [this]; rfl
  ·simpa using h1
  ·simpa using h2
theorem NodeC.mod {G S : Nat → Prop} {w w' : World} {xs : List Value} {ns : List ubb} (h : NodeC G w xs ns) (hm : Mod S w w') (hS : ∀ k, k < w.heap.size → G k → ¬ S k) : NodeC G w' xs ns :=
 ⟨h.1, fun i hi => by
  obtain ⟨a, b, c0, c1, c2, c3, c4⟩ := h.2 i hi
  exact ⟨a, b, c0, c1, c2, RowG.mod c3 hm hS, RowG.mod c4 hm hS⟩⟩
theorem NodeC.imp {G G' : Nat → Prop} {w : World} {xs : List Value} {ns : List ubb} (h : NodeC G w xs ns) (hG : ∀ k, k < w.heap.size → G k → G' k) : NodeC G' w xs ns :=
 ⟨h.1, fun i hi => by
  obtain ⟨a, b, c0, c1, c2, c3, c4⟩ := h.2 i hi
  exact ⟨a, b, c0, c1, c2, RowG.imp c3 hG, RowG.imp c4 hG⟩⟩
def NodesR (G : Nat → Prop) (w : World) (v : Value) (ns : List ubb) : Prop := ∃ cs, RowG G w 3 v ns.length cs ∧ NodeC G w cs ns
theorem NodesR.mod {G S : Nat → Prop} {w w' : World} {v : Value} {ns : List ubb} (h : NodesR G w v ns) (hm : Mod S w w') (hS : ∀ k, k < w.heap.size → G k → ¬ S k) : NodesR G w' v ns := by
 obtain ⟨cs, h1, h2⟩ := h
 exact ⟨cs, h1.mod hm hS, h2.mod hm hS⟩
theorem NodesR.imp {G G' : Nat → Prop} {w : World} {v : Value} {ns : List ubb} (h : NodesR G w v ns) (hG : ∀ k, k < w.heap.size → G k → G' k) : NodesR G' w v ns := by
 obtain ⟨cs, h1, h2⟩ := h
 exact ⟨cs, h1.imp hG, h2.imp hG⟩
theorem NodesR.nil (G : Nat → Prop) (w : World) : NodesR G w nlS [] := ⟨[], RowG.nil G w 3, NodeC.nil G w⟩
theorem PixR.nil (G : Nat → Prop) (w : World) : PixR G w nlS [] := RowG.nil G w 4
structure LookR (G : Nat → Prop) (w : World) (l : Lk) (vp vf vb : Value) : Prop where
 pix : PixR G w vp l.content.pix
 filt : NodesR G w vf l.filt.nodes
 back : NodesR G w vb l.back.nodes
theorem LookR.mod {G S : Nat → Prop} {w w' : World} {l : Lk} {vp vf vb : Value} (h : LookR G w l vp vf vb) (hm : Mod S w w') (hS : ∀ k, k < w.heap.size → G k → ¬ S k) : LookR G w' l vp vf vb :=
 ⟨RowG.mod h.pix hm hS, h.filt.mod hm hS, h.back.mod hm hS⟩
theorem LookR.imp {G G' : Nat → Prop} {w : World} {l : Lk} {vp vf vb : Value} (h : LookR G w l vp vf vb) (hG : ∀ k, k < w.heap.size → G k → G' k) : LookR G' w l vp vf vb :=
 ⟨RowG.imp h.pix hG, h.filt.imp hG, h.back.imp hG⟩
abbrev Blk (w : World) (b : Nat) (T : TypeId) (cs : Array Value) : Prop := w.heap[b]? = some (.cells cs T (0, 0))
theorem Blk.lt {w : World} {b : Nat} {T : TypeId} {cs : Array Value} (h : Blk w b T cs) : b < w.heap.size := (Array.getElem?_eq_some_iff.1 h).1
theorem Blk.mod {S : Nat → Prop} {w w' : World} {b : Nat} {T : TypeId} {cs : Array Value} (h : Blk w b T cs) (hm : Mod S w w') (hS : ¬ S b) : Blk w' b T cs := by
 have h' := hm.block b (Blk.lt h) hS
 unfold Blk at h ⊢
 rw [h', h]
theorem Blk.cell {w : World} {b : Nat} {T : TypeId} {cs : Array Value} (h : Blk w b T cs) (i : Nat) {u : Value} (hu : cs[i]? = some u) : w.cell? ⟨b, i, none⟩ = some u := by
 rw [cell_of_row w b i cs T _ h, hu]
theorem Blk.frozen {w : World} {b : Nat} {T : TypeId} {cs : Array Value} (h : Blk w b T cs) (i : Nat) : w.frozen? ⟨b, i, none⟩ = false := frozen_of_row w b i cs T h
theorem Blk.set {w : World} {b : Nat} {T : TypeId} {cs : Array Value} (h : Blk w b T cs) (i : Nat) (u : Value) : Blk (w.setCell ⟨b, i, none⟩ u) b T (cs.setIfInBounds i u) := heap_setCell_same w b i cs T u h
def uao (cs : Array Value) : Nat → List Value → Array Value
 | _, [] => cs
 | o, v :: r => uao (cs.setIfInBounds o v) (o + 1) r
theorem Blk.sets {w : World} {b : Nat} {T : TypeId} {cs : Array Value} (h : Blk w b T cs) (o : Nat) (vs : List Value) : Blk (w.setCells b o vs) b T (uao cs o vs) := by
 induction vs generalizing w cs o with
 | nil => exact h
 | cons v r ih => exact ih (h.set o v) (o + 1)
theorem Blk.there {w : World} {b : Nat} {T : TypeId} {cs : Array Value} (h : Blk w b T cs) (o n : Nat) (hn : o + n ≤ cs.size) : w.there b o n := fun j hj =>
 ⟨by rw [cell_of_row w b (o + j) cs T _ h]; simp; omega, frozen_of_row w b (o + j) cs T h⟩
theorem Blk.setMod (w : World) (b o : Nat) (vs : List Value) : Mod (fun k => k = b) w (w.setCells b o vs) := by
 induction vs generalizing w o with
 | nil => exact Mod.refl _ _
 | cons v r ih => exact (Mod.setCell w ⟨b, o, none⟩ v).trans' (ih _ _)
theorem uef (cs : Array Value) (vs : List Value) (h : cs.size = vs.length) : uao cs 0 vs = vs.toArray := by
 have key : ∀ (vs pre rest : List Value), rest.length = vs.length → uao (pre ++ rest).toArray pre.length vs = (pre ++ vs).toArray := by
  intro vs
  induction vs with
  | nil => intro pre rest hr; obtain rfl := List.length_eq_zero_iff.1 hr; rfl
  | cons v r ih =>
   intro pre rest hr
   match rest, hr with
   | x :: rest', hr =>
    have e : ((pre ++ x :: rest').toArray).setIfInBounds pre.length v = ((pre ++ [v]) ++ rest').toArray := by simp
    have := ih (pre ++ [v]) rest' (by simpa using hr)
    rw [uao, e]
    simpa using this
 have := key vs [] cs.toList (by simpa using h)
 simpa using this
structure Loc (w : World) (R : Nat) (vb : Value) (bs : List Nat) (T : TypeId) (N L : Nat) (z cs : Array Value) (m : Nat) (wr : World) : Prop where
 old : ∃ n, RdAt w R vb bs n
 rd : RdAt wr R vb bs m
 mod : Mod (fun k => k = R) w wr
 hN : w.heap.size ≤ N
 hL : w.heap.size ≤ L
 ne : N ≠ L
 res : Blk wr N T z
 loc : Blk wr L T cs
theorem Loc.step {w : World} {R : Nat} {vb : Value} {bs : List Nat} {T : TypeId} {N L : Nat} {z cs : Array Value} {m q : Nat} {wr w1 : World} (h : Loc w R vb bs T N L z cs m wr) (hm : Mod (fun k => k = R) wr w1) (hr : RdAt w1 R vb bs q) :
  Loc w R vb bs T N L z cs q w1 := by
 obtain ⟨n, hn⟩ := h.old
 have := hn.lt
 have := h.hN
 have := h.hL
 exact ⟨h.old, hr, h.mod.trans' hm, h.hN, h.hL, h.ne, h.res.mod hm (by omega), h.loc.mod hm (by omega)⟩
theorem Loc.put {w : World} {R : Nat} {vb : Value} {bs : List Nat} {T : TypeId} {N L : Nat} {z cs : Array Value} {m : Nat} {wr : World} (h : Loc w R vb bs T N L z cs m wr) (i : Nat) (u : Value) :
  Loc w R vb bs T N L z (cs.setIfInBounds i u) m (wr.setCell ⟨L, i, none⟩ u) := by
 obtain ⟨n, hn⟩ := h.old
 exact ⟨h.old, hn.own h.rd h.mod _ _ h.hL, h.mod.own _ _ h.hL, h.hN, h.hL, h.ne, h.res.mod (Mod.setCell _ _ _) h.ne, h.loc.set i u⟩
theorem RdAt.owns {w w2 : World} {R : Nat} {vb : Value} {bs : List Nat} {n q : Nat} (H : RdAt w R vb bs n) (h2 : RdAt w2 R vb bs q) (hm : Mod (fun k => k = R) w w2) (b o : Nat) (vs : List Value) (hb : w.heap.size ≤ b) :
  RdAt (w2.setCells b o vs) R vb bs q ∧ Mod (fun k => k = R) w (w2.setCells b o vs) := by
 induction vs generalizing w2 o with
 | nil => exact ⟨h2, hm⟩
 | cons v r ih => exact ih (H.own h2 hm _ _ hb) (hm.own _ _ hb) (o + 1)
theorem Loc.puts {w : World} {R : Nat} {vb : Value} {bs : List Nat} {T : TypeId} {N L : Nat} {z cs : Array Value} {m : Nat} {wr : World} (h : Loc w R vb bs T N L z cs m wr) (o : Nat) (vs : List Value) :
  Loc w R vb bs T N L z (uao cs o vs) m (wr.setCells L o vs) := by
 obtain ⟨n, hn⟩ := h.old
 have h1 := hn.owns h.rd h.mod L o vs h.hL
 exact ⟨h.old, h1.1, h1.2, h.hN, h.hL, h.ne, h.res.mod (Blk.setMod _ _ _ _) h.ne, h.loc.sets o vs⟩
theorem Loc.done {w : World} {R : Nat} {vb : Value} {bs : List Nat} {T : TypeId} {N L : Nat} {z cs : Array Value} {m : Nat} {wr : World} (h : Loc w R vb bs T N L z cs m wr) (hz : z.size = cs.size) :
  RdAt (wr.setCells N 0 cs.toList) R vb bs m ∧ Mod (fun k => k = R) w (wr.setCells N 0 cs.toList) ∧ Blk (wr.setCells N 0 cs.toList) N T cs ∧ Mod (fun k => k = N) wr (wr.setCells N 0 cs.toList) := by
 obtain ⟨n, hn⟩ := h.old
 have h1 := hn.owns h.rd h.mod N 0 cs.toList h.hN
 refine ⟨h1.1, h1.2, ?_, Blk.setMod _ _ _ _⟩
 have h2 := h.res.sets 0 cs.toList
 rw [uef z cs.toList (by simpa using hz)] at h2
 exact h2
def um6 (bs : List Nat) (n : Nat) : Option (List Int × Nat) := (uks bs n 0 100).bind fun p => ukh (ukw bs) p.2 p.1.toNat
theorem umq {bs : List Nat} {n : Nat} {lo hi x : Int} {m : Nat} (h : uks bs n lo hi = some (x, m)) : lo ≤ x ∧ x ≤ hi := by
 unfold uks at h
 split at h
 ·split at h
  ·rename_i _ hb
   simp only [Option.some.injEq, Prod.mk.injEq] at h
   obtain ⟨rfl, _⟩ := h
   exact hb
  ·cases h
 ·cases h
theorem uub {w w' : World} {base base' : Nat} {e : TypeId} {k : Nat} {v : Value} {n : Nat} {xs : List Value} {R : Nat} (h : w.ownsRow base e k v n xs) (hm : Mod (fun k => k = R) w w') (hR : R < base) : w'.ownsRow base e k v n xs :=
 uac h hm fun b hb e => by have := (h.lt b hb).1; omega
theorem Mod.grown {w w1 w2 : World} {S : Nat → Prop} {base : Nat} {e : TypeId} {k : Nat} {v : Value} {n : Nat} {xs : List Value} (h : Mod S w w1) (ho : w1.ownsRow base e k v n xs) (hg : w1.grownBy w2 v.ownBlock) (hb : w.heap.size ≤ base) : Mod S w w2 :=
 h.trans (Mod.of_grown hg) fun i hi hs => by have := (ho.lt i hs).1; omega
theorem RdAt.grown {w w1 w2 : World} {R : Nat} {vb : Value} {bs : List Nat} {n q : Nat} (H : RdAt w R vb bs n) (h1 : RdAt w1 R vb bs q) (hm : Mod (fun k => k = R) w w1) {base : Nat} {e : TypeId} {k : Nat} {v : Value} {c : Nat} {xs : List Value} (ho : w1.ownsRow base e k v c xs)
  (hg : w1.grownBy w2 v.ownBlock) (hb : w.heap.size ≤ base) : RdAt w2 R vb bs q :=
 have hne : v.ownBlock ≠ some R := fun hR => by have := (ho.lt R hR).1; have := H.lt; omega
 H.over (hm.grown ho hg hb) h1 (fun o => hg.cell_far ⟨R, o, none⟩ (by have := h1.lt; simpa using this) (fun e => hne e.symm)) (hg.frozen_far ⟨R, 1, none⟩ (by have := h1.lt; simpa using this) (fun e => hne e.symm))
end Go.Gou
namespace Go.Proofs.YtgolafbneiffpaaGreatDoor
open Go.RowKit Go.Gou
theorem ud5 : (Tryz.prog.info? 3).map (fun i => (i.zero, i.size, i.bytes)) = some (some (iV 0), 1, 8) := by kernel_rfl
def IsInts (B : Nat) (w : World) (v : Value) (xs : List Int) : Prop := IntsR (fun b => B ≤ b) w v xs
structure ListC (w : World) (R : Nat) (vb : Value) (bs : List Nat) (m0 : Nat) (j : Nat) (xs : List Int) (m : Nat) (v : Value) (wr : World) : Prop where
 at_ : ukh (ukw bs) m0 j = some (xs, m)
 len : xs.length = j
 own : wr.ownsRow w.heap.size 3 1 v j (ivs xs)
 rd : RdAt wr R vb bs m
 mod : Mod (fun k => k = R) w wr
set_option maxRecDepth 100000 in
theorem uu9 (w : World) (R : Nat) (vb : Value) (bs : List Nat) (n : Nat) (h : RdAt w R vb bs n) :
  Calls Tryz.prog 148 #[.pointer (some ⟨R, 0, none⟩)] w (RdP w R vb bs (IsInts w.heap.size) (um6 bs n)) := by
 have H := hd' h
 have hR := h.lt
 clear h
 obtain ⟨i0, hi0, hz0, hz1, hz2⟩ := info_parts ud5
 go_enter Tryz.func148, Tryz.ntmps148
 go_wp2_with fail
 refine (uap _ R vb bs n 0 100 H.o).mono ?_
 intro e w1 h1
 cases hn : uks bs n 0 100 with
 | none =>
  rw [hn] at h1
  obtain ⟨rfl, h2⟩ := h1.fault (J := IsInts w.heap.size) (res := um6 bs n) (Mod.refl _ _) (by unfold um6; rw [hn]; rfl)
  exact ⟨rfl, h2⟩
 | some p =>
  obtain ⟨x, m0⟩ := p
  have hb := umq hn
  obtain ⟨k, rfl⟩ : ∃ k : Nat, x = (k : Int) := ⟨x.toNat, by omega⟩
  have hk : k ≤ 100 := by omega
  have hres : Hid (um6 bs n = ukh (ukw bs) m0 k) := hd' (by unfold um6; rw [hn]; rfl)
  rw [hn] at h1
  obtain ⟨hm1, _, rfl, rfl, hr1⟩ := h1
  have Hr1 := hd' hr1
  have Hm1 := hd' hm1
  clear hn hb hr1 hm1
  go_wp2_with fail
  go_loopw [3, 4] (fun v c wr => ∃ (j : Nat) (xs : List Int) (m : Nat), c = iV ((k : Int) - (j : Int)) ∧ j ≤ k ∧ ListC w R vb bs m0 j xs m v wr) (fun _ c _ => (intOf c).toNat)
  case atStart => exact ⟨0, [], m0, by simp, by omega, rfl, rfl, World.ownsRow_nil _ _ _ _, Hr1.o, Hm1.o⟩
  case round =>
   obtain ⟨j, xs, m, rfl, hj, hc⟩ := hrel
   obtain ⟨p0, c0, rfl⟩ := ownsRow_form hc.own
   have Hc := hd' hc
   clear hc
   by_cases hjk : j < k
   ·have e1 : decide ((0 : Int) < (k : Int) - (j : Int)) = true := by simp; omega
    go_wp2_with fail
    refine (ukk _ R vb bs m Hc.o.rd).mono ?_
    intro e w2 h2
    cases hn : ukw bs m with
    | none =>
     rw [hn] at h2
     have hnone : ukh (ukw bs) m0 k = none := um1 (k := j) (by rw [ukh, Hc.o.at_]; simp only [hn]) (by omega)
     obtain ⟨rfl, h3⟩ := h2.fault (J := IsInts w.heap.size) (res := um6 bs n) Hc.o.mod (hres.out.trans hnone)
     exact ⟨rfl, h3⟩
    | some p =>
     obtain ⟨x, q⟩ := p
     rw [hn] at h2
     obtain ⟨hm2, _, rfl, rfl, hr2⟩ := h2
     have hown := uub (base' := 0) Hc.o.own hm2 hR
     have hx2 : Hid (ukh (ukw bs) m0 (j + 1) = some (xs ++ [x], q)) := hd' (by rw [ukh, Hc.o.at_]; simp only [hn])
     have Hr2 := hd' hr2
     have Hm2 := hd' (Hc.o.mod.trans' hm2)
     have hlen := Hc.o.len
     have hsz : w.heap.size ≤ w2.heap.size := Hm2.o.size
     have Hown := hd' (hown.alloc (.cells #[iV x] 3))
     clear hn hr2 hm2
     go_wp2_with (at_builtin; go_loud (refine wpList_append_lies _ rfl _ _ 56 rfl w.heap.size 3 i0 (iV 0) 1 8 Tryz.underlying56 hi0 hz0 hz1 hz2 rfl (by omega) (.slice p0 j c0) j (ivs xs) rfl Hown.o ⟨w2.heap.size, 0, none⟩ 1 1 [iV x] rfl rfl (cell_one_new _ _ _) (by simp [Value.oneCell']) (by omega) (by unfold maxLen; omega) (by omega) (by simp; omega) (w2.heap.size + 1) (by simp) ?_))
     intro gg cp w3 hown3 hgrow3 hat3 hlt3
     have hC : ListC w R vb bs m0 (j + 1) (xs ++ [x]) q (.slice (some ⟨gg, 0, none⟩) (j + 1) cp) w3 :=
      ⟨hx2.out, by simp [hlen], by simpa using hown3, H.o.grown (Hr2.o.alloc _) (Hm2.o.trans' (Mod.alloc _ _ _)) Hown.o hgrow3 (Nat.le_refl _), (Hm2.o.trans' (Mod.alloc _ _ _)).grown Hown.o hgrow3 (Nat.le_refl _)⟩
     have HC := hd' hC
     clear hown3 hgrow3 hat3 hlt3 hC Hown hown
     go_wp2_with fail
     go_roundw
     case rel => exact ⟨j + 1, xs ++ [x], q, by go_num, by omega, HC.o⟩
     case measure => simp [intOf]; omega
   ·obtain rfl : j = k := by omega
    have e1 : decide ((0 : Int) < (j : Int) - (j : Int)) = false := by simp
    go_wp2_with fail
    go_ret
    rw [hres.out, Hc.o.at_]
    refine ⟨Hc.o.mod, _, rfl, ?_, Hc.o.rd⟩
    show RowG _ _ 1 (.slice p0 j c0) xs.length _
    rw [Hc.o.len]
    exact RowG.of_own Hc.o.own
end Go.Proofs.YtgolafbneiffpaaGreatDoor
namespace Go.Gou
open Go.RowKit
def uoa (bs : List Nat) (n : Nat) : Option (Cf × Nat) := (uks bs n 0 15).bind fun p => (ukw bs p.2).bind fun q =>
 some (⟨decide (p.1 % 2 = 1), decide (p.1 / 2 % 2 = 1), decide (p.1 / 4 % 2 = 1), decide (p.1 / 8 % 2 = 1), q.1⟩, q.2)
def umt (bs : List Nat) (n : Nat) : Option (ubb × Nat) := (ukw bs n).bind fun p => (um6 bs p.2).bind fun q => (um6 bs q.2).bind fun r => some (⟨p.1, q.1, r.1⟩, r.2)
def ulq (bs : List Nat) (n : Nat) : Option (Gr × Nat) := (ukw bs n).bind fun p => (uks bs p.2 0 1000).bind fun k => (ukh (umt bs) k.2 k.1.toNat).bind fun r => some (⟨r.1, p.1⟩, r.2)
theorem bit_tests (x : Int) (h0 : 0 ≤ x) (h15 : x ≤ 15) : decide (0 < bits BinOp.and IntKind.i64 x 1) = decide (x % 2 = 1) ∧ decide (0 < bits BinOp.and IntKind.i64 x 2) = decide (x / 2 % 2 = 1) ∧
  decide (0 < bits BinOp.and IntKind.i64 x 4) = decide (x / 4 % 2 = 1) ∧ decide (0 < bits BinOp.and IntKind.i64 x 8) = decide (x / 8 % 2 = 1) := by
 have : x = 0 ∨ x = 1 ∨ x = 2 ∨ x = 3 ∨ x = 4 ∨ x = 5 ∨ x = 6 ∨ x = 7 ∨ x = 8 ∨ x = 9 ∨ x = 10 ∨ x = 11 ∨ x = 12 ∨ x = 13 ∨ x = 14 ∨ x = 15 := by omega
 rcases this with rfl | rfl | rfl | rfl | rfl | rfl | rfl | rfl | rfl | rfl | rfl | rfl | rfl | rfl | rfl | rfl <;> exact ⟨rfl, rfl, rfl, rfl⟩
theorem Loc.start {w : World} {R : Nat} {vb : Value} {bs : List Nat} {n m : Nat} {T : TypeId} {z : Array Value} {w1 : World} (H : RdAt w R vb bs n) (hm : Mod (fun k => k = R) (w.alloc (.cells z T)) w1) (hr : RdAt w1 R vb bs m) (c : Array Value) :
  Loc w R vb bs T w.heap.size w1.heap.size z c m (w1.alloc (.cells c T)) := by
 have hR := H.lt
 have hs := hm.size
 have hN : Blk w1 w.heap.size T z := Blk.mod (heap_alloc_new w _) hm (by omega)
 refine ⟨⟨n, H⟩, hr.alloc _, ((Mod.alloc _ _ _).trans' hm).trans' (Mod.alloc _ _ _), Nat.le_refl _, ?_, ?_, hN.mod (Mod.alloc (fun _ => False) _ _) (fun h => h), heap_alloc_new w1 _⟩
 ·simp at hs; omega
 ·simp at hs; omega
end Go.Gou
namespace Go.Proofs.YtgolafbneiffpaaGreatDoor
open Go.RowKit Go.Gou
def IsConf (_ : World) (v : Value) (c : Cf) : Prop := v = .agg (confC c)
theorem RdP.ends {α : Type} {P : Program} {fn : Func} {p : Tmp} {ty : TypeId} {N : Nat} {cs : Array Value} {d : TypeDesc} {w W : World} {R : Nat} {vb : Value} {bs : List Nat} {I : World → Value → α → Prop} {res : Option (α × Nat)} {a : Act} {x : α} {q : Nat}
  (h : fn.results = #[.cell p ty]) (hp : a.tmps.getD p undef = .pointer (some ⟨N, 0, none⟩)) (hd : a.defers = []) (hB : Blk W N ty cs) (hu : P.underlying ty = some d)
  (hdd : (match d with | .struct _ | .array _ _ => true | _ => false) = true) (hi : (P.info? ty).map (·.size) = some cs.size) (hres : res = some (x, q)) (hm : Gou.Mod (fun k => k = R) w W) (hI : I W (.agg cs) x) (hr : RdAt W R vb bs q) :
  bodyPost P fn (RdP w R vb bs I res) Exit.ret a W :=
 bpr (results_cell_row h a.tmps W N ty cs (0, 0) d hp hB hu hdd hi) hd ⟨hm, by rw [hres]; exact ⟨_, rfl, hI, hr⟩⟩
theorem size_conf : (Tryz.prog.info? 39).map (·.size) = some 5 := by kernel_rfl
theorem ua6 : (Tryz.prog.info? 33).map (·.size) = some 2 := by kernel_rfl
theorem size_content : (Tryz.prog.info? 30).map (·.size) = some 13 := by kernel_rfl
theorem size_look : (Tryz.prog.info? 35).map (·.size) = some 28 := by kernel_rfl
theorem size_op : (Tryz.prog.info? 37).map (·.size) = some 34 := by kernel_rfl
theorem size_act : (Tryz.prog.info? 41).map (·.size) = some 42 := by kernel_rfl
set_option maxRecDepth 100000 in
theorem conf_any (w : World) (R : Nat) (vb : Value) (bs : List Nat) (n : Nat) (h : RdAt w R vb bs n) :
  Calls Tryz.prog 59 #[.pointer (some ⟨R, 0, none⟩)] w (RdP w R vb bs IsConf (uoa bs n)) := by
 have H := hd' h
 have hR := h.lt
 clear h
 go_enter Tryz.func59, Tryz.ntmps59
 go_wp2_with fail
 refine (uap _ R vb bs n 0 15 (H.o.alloc _)).mono ?_
 intro e w1 h1
 have hm0 : Mod (fun k => k = R) w (w.alloc (.cells #[.bool false, .bool false, .bool false, .bool false, iV 0] 39)) := Mod.alloc _ _ _
 have hb0 : Blk (w.alloc (.cells #[.bool false, .bool false, .bool false, .bool false, iV 0] 39)) w.heap.size 39 #[.bool false, .bool false, .bool false, .bool false, iV 0] := heap_alloc_new w _
 cases hn : uks bs n 0 15 with
 | none =>
  rw [hn] at h1
  obtain ⟨rfl, h2⟩ := h1.fault (J := IsConf) (res := uoa bs n) hm0 (by unfold uoa; rw [hn]; rfl)
  exact ⟨rfl, h2⟩
 | some p =>
  obtain ⟨x, m⟩ := p
  have hb := umq hn
  obtain ⟨b1, b2, b3, b4⟩ := bit_tests x hb.1 hb.2
  rw [hn] at h1
  obtain ⟨hm1, _, rfl, rfl, hr1⟩ := h1
  have Hm1 := hd' (hm0.trans' hm1)
  have Hb1 := hd' (hb0.mod hm1 (by omega))
  have Hn := hd' hn
  clear hn hb hm0 hb0 hm1
  go_wp2_with fail
  refine (ukk _ R vb bs m hr1).mono ?_
  intro e w2 h2
  cases hn2 : ukw bs m with
  | none =>
   rw [hn2] at h2
   obtain ⟨rfl, h3⟩ := h2.fault (J := IsConf) (res := uoa bs n) Hm1.o (by unfold uoa; rw [Hn.o]; show (ukw bs m).bind _ = none; rw [hn2]; rfl)
   exact ⟨rfl, h3⟩
  | some q =>
   obtain ⟨y, q⟩ := q
   rw [hn2] at h2
   obtain ⟨hm2, _, rfl, rfl, hr2⟩ := h2
   have hres : Hid (uoa bs n = some (⟨decide (x % 2 = 1), decide (x / 2 % 2 = 1), decide (x / 4 % 2 = 1), decide (x / 8 % 2 = 1), y⟩, q)) := hd' (by unfold uoa; rw [Hn.o]; show (ukw bs m).bind _ = _; rw [hn2]; rfl)
   have hB := Hb1.o.mod hm2 (by omega)
   have c0 := hB.cell 0 rfl
   have c1 := hB.cell 1 rfl
   have c2 := hB.cell 2 rfl
   have c3 := hB.cell 3 rfl
   have c4 := hB.cell 4 rfl
   have f0 := hB.frozen 0
   have f1 := hB.frozen 1
   have f2 := hB.frozen 2
   have f3 := hB.frozen 3
   have f4 := hB.frozen 4
   have Hr2 := hd' hr2
   have Hm2 := hd' (Hm1.o.trans' hm2)
   have HB := hd' hB
   clear hB hr2 hm2 hn2 hr1
   go_wp2_with fail
   have hw := H.o.owns Hr2.o Hm2.o w.heap.size 0 [.bool (decide (x % 2 = 1)), .bool (decide (x / 2 % 2 = 1)), .bool (decide (x / 4 % 2 = 1)), .bool (decide (x / 8 % 2 = 1)), iV y] (Nat.le_refl _)
   exact RdP.ends rfl rfl rfl (HB.o.sets 0 [.bool (decide (x % 2 = 1)), .bool (decide (x / 2 % 2 = 1)), .bool (decide (x / 4 % 2 = 1)), .bool (decide (x / 8 % 2 = 1)), iV y]) Tryz.underlying39 rfl size_conf hres.out hw.2 rfl hw.1
end Go.Proofs.YtgolafbneiffpaaGreatDoor
namespace Go.Gou
open Go.RowKit
theorem uoq {w : World} {o : Obj} {g : Nat} (h : g = w.heap.size) : (w.alloc o).heap[g]? = some o := by
 subst h
 exact heap_alloc_new w o
theorem un2 {w : World} {B : Nat} {cs : Array Value} {t : TypeId} {fr : Nat × Nat} {l : List Value} (hb : w.heap[B]? = some (.cells cs t fr)) (hl : cs.toList = l) : ∀ j u, l[j]? = some u → w.cell? ((⟨B, 0, none⟩ : Addr).add j) = some u := by
 subst hl
 exact World.news_of_block hb
def NodeCells (B : Nat) (w : World) (xs : List Value) (ns : List ubb) : Prop :=
 xs.length = ns.length * 3 ∧ ∀ i, (h : i < ns.length) → ∃ vi vp, xs[i * 3]? = some (iV ns[i].op) ∧ xs[i * 3 + 1]? = some vi ∧ xs[i * 3 + 2]? = some vp ∧ IntsAt B w vi ns[i].ins ∧ IntsAt B w vp ns[i].ps
theorem NodeCells.nil (B : Nat) (w : World) : NodeCells B w [] [] := ⟨rfl, fun i h => by simp at h⟩
theorem NodeCells.snoc {B : Nat} {w : World} {xs : List Value} {ns : List ubb} (h : NodeCells B w xs ns) (n : ubb) (vi vp : Value) (h1 : IntsAt B w vi n.ins) (h2 : IntsAt B w vp n.ps) :
  NodeCells B w (xs ++ [iV n.op, vi, vp]) (ns ++ [n]) := by
 obtain ⟨hl, h⟩ := h
 refine ⟨by simp [hl]; omega, fun i hi => ?_⟩
 by_cases hin : i < ns.length
 ·obtain ⟨a, b, c0, c1, c2, c3, c4⟩ := h i hin
  refine ⟨a, b, ?_, ?_, ?_, ?_, ?_⟩
  ·rw [lgL (by omega), c0, List.getElem_append_left hin]
  ·rw [lgL (by omega), c1]
  ·rw [lgL (by omega), c2]
  ·rw [List.getElem_append_left hin]; exact c3
  ·rw [List.getElem_append_left hin]; exact c4
 ·have hi' : i = ns.length := by simp at hi; omega
  subst hi'
  refine ⟨vi, vp, ?_, ?_, ?_, ?_, ?_⟩
  ·rw [lgR (by omega), hl]; simp
  ·rw [lgR (by omega), hl]
   have : ns.length * 3 + 1 - ns.length * 3 = 1 := by omega
   rw [this]; rfl
  ·rw [lgR (by omega), hl]
   have : ns.length * 3 + 2 - ns.length * 3 = 2 := by omega
   rw [this]; rfl
  ·simpa using h1
  ·simpa using h2
theorem NodeCells.below {B : Nat} {w w' : World} {xs : List Value} {ns : List ubb} (h : NodeCells B w xs ns) (hb : Below B w w') : NodeCells B w' xs ns :=
 ⟨h.1, fun i hi => by
  obtain ⟨a, b, c0, c1, c2, c3, c4⟩ := h.2 i hi
  exact ⟨a, b, c0, c1, c2, c3.below hb, c4.below hb⟩⟩
theorem NodeCells.mono {B B' : Nat} {w : World} {xs : List Value} {ns : List ubb} (h : NodeCells B w xs ns) (hB : B ≤ B') : NodeCells B' w xs ns :=
 ⟨h.1, fun i hi => by
  obtain ⟨a, b, c0, c1, c2, c3, c4⟩ := h.2 i hi
  exact ⟨a, b, c0, c1, c2, c3.mono hB, c4.mono hB⟩⟩
theorem NodesAt.of_cells {B : Nat} {w : World} {g o cap : Nat} {xs : List Value} {ns : List ubb} (h : NodeCells B w xs ns) (hg : g < B) (hcap : ns.length ≤ cap)
  (hc : ∀ j, j < ns.length * 3 → w.cell? ⟨g, o + j, none⟩ = xs[j]?) : NodesAt B w (.slice (some ⟨g, o, none⟩) ns.length cap) ns := by
 refine ⟨_, _, rfl, hcap, .inr ⟨g, o, rfl, hg, fun i hi => ?_⟩⟩
 obtain ⟨a, b, c0, c1, c2, c3, c4⟩ := h.2 i hi
 refine ⟨a, b, ?_, ?_, ?_, c3, c4⟩
 ·rw [hc _ (by omega)]; exact c0
 ·rw [Nat.add_assoc, hc _ (by omega)]; exact c1
 ·rw [Nat.add_assoc, hc _ (by omega)]; exact c2
end Go.Gou
