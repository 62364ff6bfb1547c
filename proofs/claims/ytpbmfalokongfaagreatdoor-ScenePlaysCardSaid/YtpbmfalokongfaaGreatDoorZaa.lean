/- Texts of the scenes' proofs, laid together: Mem, Mod, SmA, ScA, ScB, ScM, ScE, ScF. -/
import Derived.WalkKit
import Derived.Carry
import Derived.WalkSpells
import Derived.WalkLawsBesides
import Derived.BigQuiet
import Derived.Deep.QuietTactic
import Derived.Deep.DeepMust
import Derived.Lib.Hide
import Derived.Outline
import Derived.ChangeAlike
import Derived.Deep.MidRow
import Derived.Deep.AppendLies
import Derived.Test.YtpbmfalokongfaaGreatDoorProg
import Derived.Test.YtpbmfalokongfaaGreatDoorRows
import Derived.WalkMore
import Derived.Deep.RegionHeld3
import Derived.Deep.RegionWith
import Derived.Deep.DeepFit
import Derived.StillTailTactics
import Derived.Laws.Rows
import Derived.ChangeKeysEq
set_option maxHeartbeats 64000000
namespace Go
theorem wbc : type_of% @World.block_lt_of_cell? := @World.block_lt_of_cell?
theorem lgE : type_of% @List.getElem?_eq_getElem := @List.getElem?_eq_getElem
theorem lgS : type_of% @List.getElem?_eq_some_iff := @List.getElem?_eq_some_iff
theorem lmG : type_of% @List.mem_of_getElem? := @List.mem_of_getElem?
theorem ltS : type_of% @List.take_succ_eq_append_getElem := @List.take_succ_eq_append_getElem
theorem lgR : type_of% @List.getElem?_append_right := @List.getElem?_append_right
theorem lgL : type_of% @List.getElem?_append_left := @List.getElem?_append_left
theorem bqf : type_of% @beq_eq_false_iff_ne := @beq_eq_false_iff_ne
theorem bnf : type_of% @bne_eq_false_iff_eq := @bne_eq_false_iff_eq
theorem bpr : type_of% @bodyPost_ret := @bodyPost_ret
theorem dqf : type_of% @decide_eq_false := @decide_eq_false
theorem dqt : type_of% @decide_eq_true := @decide_eq_true
theorem lgM : type_of% @List.getElem_mem := @List.getElem_mem
theorem agT : type_of% @Array.getElem?_toList := @Array.getElem?_toList
end Go
namespace Go.RowKit
theorem Hid.o {p : Prop} (h : Hid p) : p := h.out
end Go.RowKit
namespace Go.Gou
@[reducible] def iV (n : Int) : Go.Value := .int .i64 n
theorem hd' {p : Prop} (h : p) : RowKit.Hid p := h
end Go.Gou
set_option linter.unusedSimpArgs false
set_option linter.unusedVariables false
set_option linter.unusedSectionVars false
set_option linter.constructorNameAsVariable false
namespace Go.Gou
open Go.RowKit
def IntsAt (B : Nat) (w : World) (v : Value) (xs : List Int) : Prop :=
 ∃ (p : Option Addr) (cap : Nat), v = .slice p xs.length cap ∧ xs.length ≤ cap ∧ (xs = [] ∨ ∃ b o, p = some ⟨b, o, none⟩ ∧ b < B ∧
     ∀ i, (h : i < xs.length) → w.cell? ⟨b, o + i, none⟩ = some (iV xs[i]))
theorem IntsAt.below {B : Nat} {w w' : World} {v : Value} {xs : List Int} (h : IntsAt B w v xs) (hb : Below B w w') : IntsAt B w' v xs := by
 obtain ⟨p, cap, rfl, hcap, h⟩ := h
 refine ⟨p, cap, rfl, hcap, h.imp id ?_⟩
 rintro ⟨b, o, rfl, hB, hc⟩
 exact ⟨b, o, rfl, hB, fun i hi => by rw [hb.cell (p := ⟨b, o + i, none⟩) hB]; exact hc i hi⟩
theorem IntsAt.mono {B B' : Nat} {w : World} {v : Value} {xs : List Int} (h : IntsAt B w v xs) (hB : B ≤ B') : IntsAt B' w v xs := by
 obtain ⟨p, cap, rfl, hcap, h⟩ := h
 refine ⟨p, cap, rfl, hcap, h.imp id ?_⟩
 rintro ⟨b, o, rfl, hb, hc⟩
 exact ⟨b, o, rfl, by omega, hc⟩
structure ubb where
 op : Int
 ins : List Int
 ps : List Int
structure Gr where
 nodes : List ubb
 out : Int
def NodesAt (B : Nat) (w : World) (v : Value) (ns : List ubb) : Prop :=
 ∃ (p : Option Addr) (cap : Nat), v = .slice p ns.length cap ∧ ns.length ≤ cap ∧ (ns = [] ∨ ∃ b o, p = some ⟨b, o, none⟩ ∧ b < B ∧
     ∀ i, (h : i < ns.length) → ∃ vi vp, w.cell? ⟨b, o + i * 3, none⟩ = some (iV ns[i].op) ∧ w.cell? ⟨b, o + i * 3 + 1, none⟩ = some vi ∧
         w.cell? ⟨b, o + i * 3 + 2, none⟩ = some vp ∧ IntsAt B w vi ns[i].ins ∧ IntsAt B w vp ns[i].ps)
theorem NodesAt.below {B : Nat} {w w' : World} {v : Value} {ns : List ubb} (h : NodesAt B w v ns) (hb : Below B w w') : NodesAt B w' v ns := by
 obtain ⟨p, cap, rfl, hcap, h⟩ := h
 refine ⟨p, cap, rfl, hcap, h.imp id ?_⟩
 rintro ⟨b, o, rfl, hB, hc⟩
 refine ⟨b, o, rfl, hB, fun i hi => ?_⟩
 obtain ⟨vi, vp, h0, h1, h2, h3, h4⟩ := hc i hi
 exact ⟨vi, vp, by rw [hb.cell (p := ⟨b, o + i * 3, none⟩) hB]; exact h0, by rw [hb.cell (p := ⟨b, o + i * 3 + 1, none⟩) hB]; exact h1,
     by rw [hb.cell (p := ⟨b, o + i * 3 + 2, none⟩) hB]; exact h2, h3.below hb, h4.below hb⟩
theorem ubj {W w1 : World} (hb : Below W.heap.size W w1) : (∀ b o, b < W.heap.size → w1.cell? ⟨b, o, none⟩ = W.cell? ⟨b, o, none⟩) ∧ (∀ b o, b < W.heap.size → w1.frozen? ⟨b, o, none⟩ = W.frozen? ⟨b, o, none⟩) :=
 ⟨fun b o h => hb.cell (p := ⟨b, o, none⟩) h, fun b o h => hb.frozen (p := ⟨b, o, none⟩) h⟩
theorem uau {W w1 w2 : World} {b o : Nat} {x : Option Value} (h1 : Below W.heap.size W w1) (h2 : Below w1.heap.size w1 w2) (hb : b < W.heap.size) (hc : w1.cell? ⟨b, o, none⟩ = x) : w2.cell? ⟨b, o, none⟩ = x := by
 rw [h2.cell (p := ⟨b, o, none⟩) (Nat.lt_of_lt_of_le hb h1.size)]; exact hc
theorem uab {W w1 w2 : World} (h1 : Below W.heap.size W w1) (h2 : Below w1.heap.size w1 w2) : Below W.heap.size W w2 := h1.trans (h2.mono h1.size)
theorem IntsAt.up {w w1 : World} {v : Value} {xs : List Int} (h : IntsAt w.heap.size w v xs) (hb : Below w.heap.size w w1) : IntsAt w1.heap.size w1 v xs := (h.below hb).mono hb.size
theorem NodesAt.mono {B B' : Nat} {w : World} {v : Value} {ns : List ubb} (h : NodesAt B w v ns) (hB : B ≤ B') : NodesAt B' w v ns := by
 obtain ⟨p, cap, rfl, hcap, h⟩ := h
 refine ⟨p, cap, rfl, hcap, h.imp id ?_⟩
 rintro ⟨b, o, rfl, hb, hc⟩
 refine ⟨b, o, rfl, by omega, fun i hi => ?_⟩
 obtain ⟨vi, vp, h0, h1, h2, h3, h4⟩ := hc i hi
 exact ⟨vi, vp, h0, h1, h2, h3.mono hB, h4.mono hB⟩
theorem NodesAt.up {w w1 : World} {v : Value} {ns : List ubb} (h : NodesAt w.heap.size w v ns) (hb : Below w.heap.size w w1) : NodesAt w1.heap.size w1 v ns := (h.below hb).mono hb.size
theorem IntsAt.len {B : Nat} {w : World} {v : Value} {xs : List Int} (h : IntsAt B w v xs) : ∃ p cap, v = .slice p xs.length cap := by
 obtain ⟨p, cap, rfl, _⟩ := h
 exact ⟨p, cap, rfl⟩
theorem ubs {B : Nat} {w : World} {v : Value} {xs : List Int} (h : IntsAt B w v xs) (h0 : 0 < xs.length) :
 ∃ b o cap, v = .slice (some ⟨b, o, none⟩) xs.length cap ∧ xs.length ≤ cap ∧ b < B ∧ ∀ i, i < xs.length → w.cell? ⟨b, o + i, none⟩ = some (iV (xs.getD i 0)) := by
 obtain ⟨p, cap, rfl, hcap, h⟩ := h
 rcases h with rfl | ⟨b, o, rfl, hb, hc⟩
 ·simp at h0
 ·exact ⟨b, o, cap, rfl, hcap, hb, fun i hi => by rw [hc i hi]; simp [List.getD, hi]⟩
theorem IntsAt.part {B : Nat} {w : World} {b o cap n : Nat} {xs : List Int} (h : IntsAt B w (.slice (some ⟨b, o, none⟩) n cap) xs) (i m c : Nat) (hm : 0 < m) (him : i + m ≤ xs.length) (hc : m ≤ c) :
 IntsAt B w (.slice (some ⟨b, o + i, none⟩) m c) ((xs.drop i).take m) := by
 obtain ⟨p, cap', he, hcap, h⟩ := h
 have hl : ((xs.drop i).take m).length = m := by simp; omega
 rcases h with rfl | ⟨b', o', hp, hb, hcell⟩
 ·simp at him; omega
 ·have he' := he
  simp only [Value.slice.injEq] at he'
  obtain ⟨e1, _, _⟩ := he'
  rw [hp] at e1
  simp only [Option.some.injEq, Addr.mk.injEq, and_true] at e1
  obtain ⟨rfl, rfl⟩ := e1
  refine ⟨_, _, by rw [hl], by omega, .inr ⟨b, o + i, rfl, hb, fun j hj => ?_⟩⟩
  have := hcell (i + j) (by omega)
  rw [Nat.add_assoc, this]
  simp
structure Mod (S : Nat → Prop) (w w' : World) : Prop where
 os : w'.os = w.os
 tape : w'.tape = w.tape
 output : w'.output = w.output
 size : w.heap.size ≤ w'.heap.size
 block : ∀ k, k < w.heap.size → ¬ S k → w'.heap[k]? = w.heap[k]?
theorem Mod.refl (S : Nat → Prop) (w : World) : Mod S w w := ⟨rfl, rfl, rfl, Nat.le_refl _, fun _ _ _ => rfl⟩
theorem Mod.trans {S S' : Nat → Prop} {a b c : World} (h : Mod S a b) (k : Mod S' b c) (hS : ∀ i, i < a.heap.size → S' i → S i) : Mod S a c :=
 ⟨k.os.trans h.os, k.tape.trans h.tape, k.output.trans h.output, Nat.le_trans h.size k.size,
     fun i hi hs => (k.block i (Nat.lt_of_lt_of_le hi h.size) (fun hs' => hs (hS i hi hs'))).trans (h.block i hi hs)⟩
theorem Mod.trans' {S : Nat → Prop} {a b c : World} (h : Mod S a b) (k : Mod S b c) : Mod S a c := h.trans k fun _ _ h => h
theorem Mod.imp {S S' : Nat → Prop} {a b : World} (h : Mod S a b) (hS : ∀ i, i < a.heap.size → S i → S' i) : Mod S' a b :=
 ⟨h.os, h.tape, h.output, h.size, fun i hi hs => h.block i hi fun hs' => hs (hS i hi hs')⟩
theorem Mod.of_grown {w w' : World} {row : Option Nat} (h : w.grownBy w' row) : Mod (fun k => row = some k) w w' :=
 ⟨h.os, h.tape, h.output, h.size, fun k hk hs => h.block k hk fun e => hs e.symm⟩
theorem Mod.of_below {w w' : World} (h : Below w.heap.size w w') (S : Nat → Prop) : Mod S w w' :=
 ⟨h.os, h.tape, h.output, h.size, fun k hk _ => h.block k hk⟩
theorem Mod.below {S : Nat → Prop} {B : Nat} {w w' : World} (h : Mod S w w') (hB : B ≤ w.heap.size) (hS : ∀ k, k < B → ¬ S k) : Below B w w' :=
 ⟨h.os, h.tape, h.output, h.size, fun k hk => h.block k (Nat.lt_of_lt_of_le hk hB) (hS k hk)⟩
theorem Mod.setCell (w : World) (p : Addr) (u : Value) : Mod (fun k => k = p.block) w (w.setCell p u) :=
 ⟨rfl, rfl, rfl, by simp, fun k _ hs => Below.heap_setCell w p u k hs⟩
theorem Mod.alloc (S : Nat → Prop) (w : World) (o : Obj) : Mod S w (w.alloc o) :=
 ⟨rfl, rfl, rfl, by simp, fun k hk _ => Below.heap_alloc w o k hk⟩
theorem Mod.drew (S : Nat → Prop) (w : World) : Mod S w w.drew := ⟨rfl, rfl, rfl, Nat.le_refl _, fun _ _ _ => rfl⟩
theorem Mod.drewN (S : Nat → Prop) (w : World) (n : Nat) : Mod S w (w.drewN n) := ⟨rfl, rfl, rfl, Nat.le_refl _, fun _ _ _ => rfl⟩
theorem Mod.of_alike {w w' : World} (h : w'.Alike w) (ht : w'.tape = w.tape) (S : Nat → Prop := fun _ => False) : Mod S w w' := by
 obtain ⟨h1, h2, h3⟩ := h
 exact ⟨h2, ht, h3, by rw [h1]; exact Nat.le_refl _, fun k _ _ => by rw [h1]⟩
theorem Mod.cell {S : Nat → Prop} {w w' : World} (h : Mod S w w') {p : Addr} (hp : p.block < w.heap.size) (hs : ¬ S p.block) : w'.cell? p = w.cell? p := World.cell?_of_block (h.block _ hp hs)
theorem Mod.frozen {S : Nat → Prop} {w w' : World} (h : Mod S w w') {p : Addr} (hp : p.block < w.heap.size) (hs : ¬ S p.block) : w'.frozen? p = w.frozen? p := World.frozen?_of_block (h.block _ hp hs)
theorem uac {S : Nat → Prop} {w w' : World} {base : Nat} {e : TypeId} {size : Nat} {v : Value} {n : Nat} {xs : List Value} (h : w.ownsRow base e size v n xs) (hm : Mod S w w')
 (hs : ∀ k, v.ownBlock = some k → ¬ S k) : w'.ownsRow base e size v n xs := by
 have hlt := h.lt
 obtain ⟨h1, h2⟩ := h
 refine ⟨h1, ?_⟩
 rcases h2 with h2 | ⟨g, cap, cur, rfl, hg, hh, r⟩
 ·exact .inl h2
 ·refine .inr ⟨g, cap, cur, rfl, hg, ?_, r⟩
  rw [hm.block g (hlt g rfl).2 (hs g rfl)]
  exact hh
theorem ownsRow_nodup {w : World} {base : Nat} {e : TypeId} {size : Nat} {v : Value} {n : Nat} {xs : List Value} (h : w.ownsRow base e size v n xs) : ∀ k, v.ownBlock = some k → k < w.heap.size := fun k hk => (h.lt k hk).2
theorem uh5 {w : World} {base : Nat} {e : TypeId} {size g n cap : Nat} {xs : List Value} (h : w.ownsRow base e size (.slice (some ⟨g, 0, none⟩) n cap) n xs) : n ≤ cap := by
 rcases h.2 with ⟨h', _⟩ | ⟨g', cap', cur, h', _, _, hn, _⟩
 ·simp at h'
 ·simp only [Value.slice.injEq] at h'
  omega
theorem uaj {w : World} {base base' : Nat} {e : TypeId} {size : Nat} {v : Value} {n : Nat} {xs : List Value} (h : w.ownsRow base e size v n xs) (hb : base' ≤ base) : w.ownsRow base' e size v n xs := by
 obtain ⟨h1, h2⟩ := h
 refine ⟨h1, h2.imp id ?_⟩
 rintro ⟨g, cap, cur, hv, hg, r⟩
 exact ⟨g, cap, cur, hv, by omega, r⟩
theorem ownsRow_form {w : World} {base : Nat} {e : TypeId} {size : Nat} {v : Value} {n : Nat} {xs : List Value} (h : w.ownsRow base e size v n xs) : ∃ p c, v = .slice p n c := by
 rcases h.2 with ⟨rfl, rfl⟩ | ⟨g, cap, cur, rfl, _⟩
 ·exact ⟨_, _, rfl⟩
 ·exact ⟨_, _, rfl⟩
def Cell1 (w : World) (N : Nat) (T : TypeId) (v : Value) : Prop := w.heap[N]? = some (.cells #[v] T (0, 0))
theorem Cell1.new (w : World) (T : TypeId) (v : Value) : Cell1 (w.alloc (.cells #[v] T)) w.heap.size T v :=
 heap_alloc_new w _
theorem Cell1.lt {w : World} {N : Nat} {T : TypeId} {v : Value} (h : Cell1 w N T v) : N < w.heap.size := by
 unfold Cell1 at h
 exact (Array.getElem?_eq_some_iff.1 h).1
theorem Cell1.cell {w : World} {N : Nat} {T : TypeId} {v : Value} (h : Cell1 w N T v) : w.cell? ⟨N, 0, none⟩ = some v := by
 unfold Cell1 at h
 simp [World.cell?, h]
theorem Cell1.frozen {w : World} {N : Nat} {T : TypeId} {v : Value} (h : Cell1 w N T v) : w.frozen? ⟨N, 0, none⟩ = false := by
 unfold Cell1 at h
 simp [World.frozen?, h]
theorem Cell1.mod {S : Nat → Prop} {w w' : World} {N : Nat} {T : TypeId} {v : Value} (h : Cell1 w N T v) (hm : Mod S w w') (hs : ¬ S N) : Cell1 w' N T v := by
 have := h.lt
 unfold Cell1 at h ⊢
 rw [hm.block N this hs]
 exact h
theorem Cell1.set {w : World} {N : Nat} {T : TypeId} {v : Value} (h : Cell1 w N T v) (u : Value) : Cell1 (w.setCell ⟨N, 0, none⟩ u) N T u := by
 unfold Cell1 at h ⊢
 rw [heap_setCell_same w N 0 #[v] T u h]
 rfl
structure BoxAt (w : World) (x y : Value) (wr : World) : Prop where
 c0 : wr.cell? ⟨w.heap.size, 0, none⟩ = some x
 c1 : wr.cell? ⟨w.heap.size, 1, none⟩ = some y
 lt : w.heap.size < wr.heap.size
 bel : Below w.heap.size w wr
theorem BoxAt.start (w : World) (x y : Value) (T : TypeId) : BoxAt w x y (w.alloc (.cells #[x, y] T)) :=
 ⟨by rw [World.cell?_alloc_new]; rfl, by rw [World.cell?_alloc_new]; rfl, by simp, (Below.refl _ _).alloc (Nat.le_refl _) _⟩
theorem BoxAt.step {w : World} {x y : Value} {wr w2 : World} (h : BoxAt w x y wr) (hb : Below wr.heap.size wr w2) : BoxAt w x y w2 :=
 ⟨by rw [hb.cell (p := ⟨w.heap.size, 0, none⟩) h.lt]; exact h.c0, by rw [hb.cell (p := ⟨w.heap.size, 1, none⟩) h.lt]; exact h.c1, Nat.lt_of_lt_of_le h.lt hb.size, h.bel.trans (hb.mono (Nat.le_of_lt h.lt))⟩
theorem BoxAt.mod {w : World} {x y : Value} {wr w2 : World} {S : Nat → Prop} (h : BoxAt w x y wr) (hm : Mod S wr w2) (hs : ∀ k, k ≤ w.heap.size → ¬ S k) : BoxAt w x y w2 :=
 ⟨by rw [hm.cell (p := ⟨w.heap.size, 0, none⟩) h.lt (hs _ (Nat.le_refl _))]; exact h.c0, by rw [hm.cell (p := ⟨w.heap.size, 1, none⟩) h.lt (hs _ (Nat.le_refl _))]; exact h.c1, Nat.lt_of_lt_of_le h.lt hm.size,
     h.bel.trans (hm.below (Nat.le_of_lt h.lt) fun k hk => hs k (Nat.le_of_lt hk))⟩
theorem BoxAt.alloc {w : World} {x y : Value} {wr : World} (h : BoxAt w x y wr) (o : Obj) : BoxAt w x y (wr.alloc o) := h.step ((Below.refl _ _).alloc (Nat.le_refl _) o)
structure Rc where
 x0 : Int
 y0 : Int
 x1 : Int
 y1 : Int
 deriving DecidableEq
structure Pxl where
 p0 : Nat
 p1 : Nat
 p2 : Nat
 p3 : Nat
 deriving DecidableEq
deriving instance DecidableEq for ubb
deriving instance DecidableEq for Gr
structure Ct where
 kind : Int
 box : Rc
 px : Pxl
 w : Int
 h : Int
 turn : Int
 pix : List Pxl
 deriving DecidableEq
structure Lk where
 dx : Int
 dy : Int
 hasClip : Bool
 clip : Rc
 opacity : Int
 mode : Int
 content : Ct
 hasFilt : Bool
 filt : Gr
 hasBack : Bool
 back : Gr
 deriving DecidableEq
structure Opr where
 kind : Int
 id : Int × Int
 to : Int × Int
 at_ : Int
 look : Lk
 deriving DecidableEq
structure Cf where
 fuse : Bool
 alias : Bool
 roi : Bool
 damage : Bool
 room : Int
 deriving DecidableEq
structure Ac where
 kind : Int
 op : Opr
 w : Int
 h : Int
 conf : Cf
 deriving DecidableEq
def Rc.zero : Rc := ⟨0, 0, 0, 0⟩
def Pxl.zero : Pxl := ⟨0, 0, 0, 0⟩
def Gr.zero : Gr := ⟨[], 0⟩
def Ct.zero : Ct := ⟨0, Rc.zero, Pxl.zero, 0, 0, 0, []⟩
def Lk.zero : Lk := ⟨0, 0, false, Rc.zero, 0, 0, Ct.zero, false, Gr.zero, false, Gr.zero⟩
def Opr.zero : Opr := ⟨0, (0, 0), (0, 0), 0, Lk.zero⟩
def Cf.zero : Cf := ⟨false, false, false, false, 0⟩
def Ac.zero : Ac := ⟨0, Opr.zero, 0, 0, Cf.zero⟩
def Rc.of (l : List Int) : Rc := ⟨l.getD 0 0, l.getD 1 0, l.getD 2 0, l.getD 3 0⟩
def Pxl.of (l : List Nat) : Pxl := ⟨l.getD 0 0, l.getD 1 0, l.getD 2 0, l.getD 3 0⟩
def Pxl.cells (p : Pxl) : List Value := [.int .u8 (p.p0 : Nat), .int .u8 (p.p1 : Nat), .int .u8 (p.p2 : Nat), .int .u8 (p.p3 : Nat)]
abbrev ivs (xs : List Int) : List Value := xs.map (.int .i64)
abbrev pxs (ps : List Pxl) : List Value := ps.flatMap Pxl.cells
def uak (c : Ct) (vp : Value) : Array Value :=
 #[iV c.kind, iV c.box.x0, iV c.box.y0, iV c.box.x1, iV c.box.y1,
     .int .u8 (c.px.p0 : Nat), .int .u8 (c.px.p1 : Nat), .int .u8 (c.px.p2 : Nat), .int .u8 (c.px.p3 : Nat), iV c.w, iV c.h, iV c.turn, vp]
def uai (l : Lk) (vp vf vb : Value) : Array Value :=
 List.toArray (iV l.dx :: iV l.dy :: Value.bool l.hasClip :: iV l.clip.x0 :: iV l.clip.y0 :: iV l.clip.x1 :: iV l.clip.y1 :: iV l.opacity :: iV l.mode :: iV l.content.kind :: iV l.content.box.x0 :: iV l.content.box.y0 :: iV l.content.box.x1 :: iV l.content.box.y1 :: Value.int .u8 (l.content.px.p0 : Nat) :: Value.int .u8 (l.content.px.p1 : Nat) :: Value.int .u8 (l.content.px.p2 : Nat) :: Value.int .u8 (l.content.px.p3 : Nat) :: iV l.content.w :: iV l.content.h :: iV l.content.turn :: vp :: Value.bool l.hasFilt :: vf :: iV l.filt.out :: Value.bool l.hasBack :: vb :: iV l.back.out :: [])
@[reducible] def lyL : Array Value := List.toArray (iV 0 :: iV 0 :: iV 0 :: iV 0 :: Value.bool false :: iV 0 :: iV 0 :: iV 0 :: iV 0 :: iV 0 :: iV 0 :: iV 0 :: iV 0 :: iV 0 :: iV 0 :: iV 0 :: Value.int .u8 0 :: Value.int .u8 0 :: Value.int .u8 0 :: Value.int .u8 0 :: iV 0 :: iV 0 :: iV 0 :: Value.slice none 0 0 :: Value.bool false :: Value.slice none 0 0 :: iV 0 :: Value.bool false :: Value.slice none 0 0 :: iV 0 :: Value.slice none 0 0 :: [])
@[reducible] def nlS : Value := .slice none 0 0
@[reducible] def iiZ : Array Value := #[iV 0, iV 0]
@[reducible] def lkZz : Array Value := uai Lk.zero nlS nlS nlS
@[reducible] def lkS (l : Lk) (p : Option Addr) (c : Nat) (q : Option Addr) (d : Nat) (r : Option Addr) (e : Nat) : Array Value := uai l (.slice p l.content.pix.length c) (.slice q l.filt.nodes.length d) (.slice r l.back.nodes.length e)
def oprC (o : Opr) (vp vf vb : Value) : Array Value :=
 List.toArray (iV o.kind :: iV o.id.1 :: iV o.id.2 :: iV o.to.1 :: iV o.to.2 :: iV o.at_ :: iV o.look.dx :: iV o.look.dy :: Value.bool o.look.hasClip :: iV o.look.clip.x0 :: iV o.look.clip.y0 :: iV o.look.clip.x1 :: iV o.look.clip.y1 :: iV o.look.opacity :: iV o.look.mode :: iV o.look.content.kind :: iV o.look.content.box.x0 :: iV o.look.content.box.y0 :: iV o.look.content.box.x1 :: iV o.look.content.box.y1 :: Value.int .u8 (o.look.content.px.p0 : Nat) :: Value.int .u8 (o.look.content.px.p1 : Nat) :: Value.int .u8 (o.look.content.px.p2 : Nat) :: Value.int .u8 (o.look.content.px.p3 : Nat) :: iV o.look.content.w :: iV o.look.content.h :: iV o.look.content.turn :: vp :: Value.bool o.look.hasFilt :: vf :: iV o.look.filt.out :: Value.bool o.look.hasBack :: vb :: iV o.look.back.out :: [])
@[reducible] def opS (o : Opr) (p : Option Addr) (c : Nat) (q : Option Addr) (d : Nat) (r : Option Addr) (e : Nat) : Array Value := oprC o (.slice p o.look.content.pix.length c) (.slice q o.look.filt.nodes.length d) (.slice r o.look.back.nodes.length e)
def RowG (G : Nat → Prop) (w : World) (k : Nat) (v : Value) (n : Nat) (cs : List Value) : Prop :=
 cs.length = n * k ∧ ∃ (p : Option Addr) (cap : Nat), v = .slice p n cap ∧ n ≤ cap ∧ (n = 0 ∨ ∃ b o, p = some ⟨b, o, none⟩ ∧ b < w.heap.size ∧ G b ∧
     ∀ j u, cs[j]? = some u → w.cell? ⟨b, o + j, none⟩ = some u)
theorem RowG.mod {G S : Nat → Prop} {w w' : World} {k : Nat} {v : Value} {n : Nat} {cs : List Value} (h : RowG G w k v n cs) (hm : Mod S w w') (hS : ∀ k, k < w.heap.size → G k → ¬ S k) : RowG G w' k v n cs := by
 obtain ⟨hl, p, cap, rfl, hcap, h⟩ := h
 refine ⟨hl, p, cap, rfl, hcap, h.imp id ?_⟩
 rintro ⟨b, o, rfl, hB, hG, hc⟩
 exact ⟨b, o, rfl, Nat.lt_of_lt_of_le hB hm.size, hG, fun j u hu => by rw [hm.cell (p := ⟨b, o + j, none⟩) hB (hS b hB hG)]; exact hc j u hu⟩
theorem RowG.imp {G G' : Nat → Prop} {w : World} {k : Nat} {v : Value} {n : Nat} {cs : List Value} (h : RowG G w k v n cs) (hG : ∀ k, k < w.heap.size → G k → G' k) : RowG G' w k v n cs := by
 obtain ⟨hl, p, cap, rfl, hcap, h⟩ := h
 refine ⟨hl, p, cap, rfl, hcap, h.imp id ?_⟩
 rintro ⟨b, o, rfl, hB, hG', hc⟩
 exact ⟨b, o, rfl, hB, hG b hB hG', hc⟩
theorem RowG.form {G : Nat → Prop} {w : World} {k : Nat} {v : Value} {n : Nat} {cs : List Value} (h : RowG G w k v n cs) : ∃ p cap, v = .slice p n cap ∧ n ≤ cap := by
 obtain ⟨_, p, cap, rfl, hcap, _⟩ := h
 exact ⟨p, cap, rfl, hcap⟩
theorem RowG.nil (G : Nat → Prop) (w : World) (k : Nat) : RowG G w k nlS 0 [] := ⟨by simp, none, 0, rfl, Nat.le_refl _, .inl rfl⟩
theorem RowG.of_own {w : World} {base : Nat} {e : TypeId} {k : Nat} {v : Value} {n : Nat} {cs : List Value} (h : w.ownsRow base e k v n cs) : RowG (fun b => base ≤ b) w k v n cs := by
 have hlt := h.lt
 obtain ⟨hl, h⟩ := h
 rcases h with ⟨rfl, rfl⟩ | ⟨g, cap, cur, rfl, hg, hh, hn, _, _, ht⟩
 ·exact ⟨hl, _, _, rfl, Nat.le_refl _, .inl rfl⟩
 ·refine ⟨hl, _, _, rfl, hn, .inr ⟨g, 0, rfl, (hlt g rfl).2, hg, fun j u hu => ?_⟩⟩
  rw [Nat.zero_add, cell_of_row w g j cur e (0, 0) hh, ← hu, ← ht, List.getElem?_take]
  have hj : j < cs.length := (lgS.1 hu).1
  rw [if_pos (by omega)]
  simp
theorem RowG.own_of {w : World} {base : Nat} {e : TypeId} {k : Nat} {v : Value} {n : Nat} {cs : List Value} (h : w.ownsRow base e k v n cs) {G : Nat → Prop} (hG : ∀ b, v.ownBlock = some b → base ≤ b → G b) : RowG G w k v n cs := by
 have h1 := RowG.of_own h
 obtain ⟨hl, p, cap, rfl, hcap, h1⟩ := h1
 refine ⟨hl, p, cap, rfl, hcap, h1.imp id ?_⟩
 rintro ⟨b, o, rfl, hB, hb, hc⟩
 exact ⟨b, o, rfl, hB, hG b rfl hb, hc⟩
def Soft (w : World) (v : Value) : Prop := ∀ b, v.ownBlock = some b → ∃ cur T, w.heap[b]? = some (.cells cur T (0, 0))
theorem Soft.of_own {w : World} {base : Nat} {e : TypeId} {k : Nat} {v : Value} {n : Nat} {cs : List Value} (h : w.ownsRow base e k v n cs) : Soft w v := by
 intro b hb
 rcases h.2 with ⟨rfl, _⟩ | ⟨g, cap, cur, rfl, hg, hh, _⟩
 ·cases hb
 ·obtain rfl : g = b := by simpa [Value.ownBlock] using hb
  exact ⟨cur, e, hh⟩
def IntsR (G : Nat → Prop) (w : World) (v : Value) (xs : List Int) : Prop := RowG G w 1 v xs.length (ivs xs)
def PixR (G : Nat → Prop) (w : World) (v : Value) (ps : List Pxl) : Prop := RowG G w 4 v ps.length (pxs ps)
def NodeC (G : Nat → Prop) (w : World) (xs : List Value) (ns : List ubb) : Prop :=
 xs.length = ns.length * 3 ∧ ∀ i, (h : i < ns.length) → ∃ vi vp, xs[i * 3]? = some (iV ns[i].op) ∧ xs[i * 3 + 1]? = some vi ∧ xs[i * 3 + 2]? = some vp ∧ IntsR G w vi ns[i].ins ∧ IntsR G w vp ns[i].ps
theorem NodeC.nil (G : Nat → Prop) (w : World) : NodeC G w [] [] := ⟨rfl, fun i h => by simp at h⟩
theorem NodeC.snoc {G : Nat → Prop} {w : World} {xs : List Value} {ns : List ubb} (h : NodeC G w xs ns) (n : ubb) (vi vp : Value) (h1 : IntsR G w vi n.ins) (h2 : IntsR G w vp n.ps) :
 NodeC G w (xs ++ [iV n.op, vi, vp]) (ns ++ [n]) := by
 obtain ⟨hl, h⟩ := h
 refine ⟨by simp [hl]; omega, fun i hi => ?_⟩
 by_cases hin : i < ns.length
 ·obtain ⟨a, b, c0, c1, c2, c3, c4⟩ := h i hin
  refine ⟨a, b, ?_, ?_, ?_, ?_, ?_⟩
  ·rw [lgL (by omega), c0, List.getElem_append_left hin]
  ·rw [lgL (by omega), c1]
  ·rw [lgL (by omega), c2]
  ·rw [List.getElem_append_left hin]; exact c3
  ·rw [List.getElem_append_left hin]; exact c4
 ·have hi' : i = ns.length := by simp at hi; omega
  subst hi'
  refine ⟨vi, vp, ?_, ?_, ?_, ?_, ?_⟩
  ·rw [lgR (by omega), hl]; simp
  ·rw [lgR (by omega), hl]
   have : ns.length * 3 + 1 - ns.length * 3 = 1 := by omega
   rw [this]; rfl
  ·rw [lgR (by omega), hl]
   have : ns.length * 3 + 2 - ns.length * 3 = 2 := by omega
   rw [this]; rfl
  ·simpa using h1
  ·simpa using h2
theorem NodeC.mod {G S : Nat → Prop} {w w' : World} {xs : List Value} {ns : List ubb} (h : NodeC G w xs ns) (hm : Mod S w w') (hS : ∀ k, k < w.heap.size → G k → ¬ S k) : NodeC G w' xs ns :=
 ⟨h.1, fun i hi => by
  obtain ⟨a, b, c0, c1, c2, c3, c4⟩ := h.2 i hi
  exact ⟨a, b, c0, c1, c2, RowG.mod c3 hm hS, RowG.mod c4 hm hS⟩⟩
theorem NodeC.imp {G G' : Nat → Prop} {w : World} {xs : List Value} {ns : List ubb} (h : NodeC G w xs ns) (hG : ∀ k, k < w.heap.size → G k → G' k) : NodeC G' w xs ns :=
 ⟨h.1, fun i hi => by
  obtain ⟨a, b, c0, c1, c2, c3, c4⟩ := h.2 i hi
  exact ⟨a, b, c0, c1, c2, RowG.imp c3 hG, RowG.imp c4 hG⟩⟩
def NodesR (G : Nat → Prop) (w : World) (v : Value) (ns : List ubb) : Prop := ∃ cs, RowG G w 3 v ns.length cs ∧ NodeC G w cs ns
theorem NodesR.mod {G S : Nat → Prop} {w w' : World} {v : Value} {ns : List ubb} (h : NodesR G w v ns) (hm : Mod S w w') (hS : ∀ k, k < w.heap.size → G k → ¬ S k) : NodesR G w' v ns := by
 obtain ⟨cs, h1, h2⟩ := h
 exact ⟨cs, h1.mod hm hS, h2.mod hm hS⟩
theorem NodesR.imp {G G' : Nat → Prop} {w : World} {v : Value} {ns : List ubb} (h : NodesR G w v ns) (hG : ∀ k, k < w.heap.size → G k → G' k) : NodesR G' w v ns := by
 obtain ⟨cs, h1, h2⟩ := h
 exact ⟨cs, h1.imp hG, h2.imp hG⟩
theorem NodesR.nil (G : Nat → Prop) (w : World) : NodesR G w nlS [] := ⟨[], RowG.nil G w 3, NodeC.nil G w⟩
theorem PixR.nil (G : Nat → Prop) (w : World) : PixR G w nlS [] := RowG.nil G w 4
structure LookR (G : Nat → Prop) (w : World) (l : Lk) (vp vf vb : Value) : Prop where
 pix : PixR G w vp l.content.pix
 filt : NodesR G w vf l.filt.nodes
 back : NodesR G w vb l.back.nodes
theorem LookR.mod {G S : Nat → Prop} {w w' : World} {l : Lk} {vp vf vb : Value} (h : LookR G w l vp vf vb) (hm : Mod S w w') (hS : ∀ k, k < w.heap.size → G k → ¬ S k) : LookR G w' l vp vf vb :=
 ⟨RowG.mod h.pix hm hS, h.filt.mod hm hS, h.back.mod hm hS⟩
theorem LookR.imp {G G' : Nat → Prop} {w : World} {l : Lk} {vp vf vb : Value} (h : LookR G w l vp vf vb) (hG : ∀ k, k < w.heap.size → G k → G' k) : LookR G' w l vp vf vb :=
 ⟨RowG.imp h.pix hG, h.filt.imp hG, h.back.imp hG⟩
abbrev Blk (w : World) (b : Nat) (T : TypeId) (cs : Array Value) : Prop := w.heap[b]? = some (.cells cs T (0, 0))
theorem Blk.lt {w : World} {b : Nat} {T : TypeId} {cs : Array Value} (h : Blk w b T cs) : b < w.heap.size := (Array.getElem?_eq_some_iff.1 h).1
theorem Blk.mod {S : Nat → Prop} {w w' : World} {b : Nat} {T : TypeId} {cs : Array Value} (h : Blk w b T cs) (hm : Mod S w w') (hS : ¬ S b) : Blk w' b T cs := by
 have h' := hm.block b (Blk.lt h) hS
 unfold Blk at h ⊢
 rw [h', h]
theorem Blk.cell {w : World} {b : Nat} {T : TypeId} {cs : Array Value} (h : Blk w b T cs) (i : Nat) {u : Value} (hu : cs[i]? = some u) : w.cell? ⟨b, i, none⟩ = some u := by
 rw [cell_of_row w b i cs T _ h, hu]
theorem Blk.frozen {w : World} {b : Nat} {T : TypeId} {cs : Array Value} (h : Blk w b T cs) (i : Nat) : w.frozen? ⟨b, i, none⟩ = false := frozen_of_row w b i cs T h
theorem Blk.set {w : World} {b : Nat} {T : TypeId} {cs : Array Value} (h : Blk w b T cs) (i : Nat) (u : Value) : Blk (w.setCell ⟨b, i, none⟩ u) b T (cs.setIfInBounds i u) := heap_setCell_same w b i cs T u h
def uao (cs : Array Value) : Nat → List Value → Array Value
 | _, [] => cs
 | o, v :: r => uao (cs.setIfInBounds o v) (o + 1) r
theorem Blk.sets {w : World} {b : Nat} {T : TypeId} {cs : Array Value} (h : Blk w b T cs) (o : Nat) (vs : List Value) : Blk (w.setCells b o vs) b T (uao cs o vs) := by
 induction vs generalizing w cs o with
 | nil => exact h
 | cons v r ih => exact ih (h.set o v) (o + 1)
theorem Blk.there {w : World} {b : Nat} {T : TypeId} {cs : Array Value} (h : Blk w b T cs) (o n : Nat) (hn : o + n ≤ cs.size) : w.there b o n := fun j hj =>
 ⟨by rw [cell_of_row w b (o + j) cs T _ h]; simp; omega, frozen_of_row w b (o + j) cs T h⟩
theorem Blk.setMod (w : World) (b o : Nat) (vs : List Value) : Mod (fun k => k = b) w (w.setCells b o vs) := by
 induction vs generalizing w o with
 | nil => exact Mod.refl _ _
 | cons v r ih => exact (Mod.setCell w ⟨b, o, none⟩ v).trans' (ih _ _)
theorem uef (cs : Array Value) (vs : List Value) (h : cs.size = vs.length) : uao cs 0 vs = vs.toArray := by
 have key : ∀ (vs pre rest : List Value), rest.length = vs.length → uao (pre ++ rest).toArray pre.length vs = (pre ++ vs).toArray := by
  intro vs
  induction vs with
  | nil => intro pre rest hr; obtain rfl := List.length_eq_zero_iff.1 hr; rfl
  | cons v r ih =>
   intro pre rest hr
   match rest, hr with
   | x :: rest', hr =>
    have e : ((pre ++ x :: rest').toArray).setIfInBounds pre.length v = ((pre ++ [v]) ++ rest').toArray := by simp
    have := ih (pre ++ [v]) rest' (by simpa using hr)
    rw [uao, e]
    simpa using this
 have := key vs [] cs.toList (by simpa using h)
 simpa using this
abbrev Idt := Int × Int
inductive Ly where
 | mk (id : Idt) (look : Lk) (kids : List Ly)
namespace Ly
def id : Ly → Idt | .mk i _ _ => i
def look : Ly → Lk | .mk _ l _ => l
def kids : Ly → List Ly | .mk _ _ k => k
theorem eta (l : Ly) : .mk l.id l.look l.kids = l := by cases l; rfl
theorem ind {P : Ly → Prop} (h : ∀ id lk ks, (∀ k ∈ ks, P k) → P (.mk id lk ks)) : ∀ l, P l
 | .mk id lk ks => h id lk ks (fun k hk => ind h k)
termination_by l => SizeOf.sizeOf l
decreasing_by
 have := List.sizeOf_lt_of_mem hk
 simp
 omega
mutual
def ids : Ly → List Idt
 | .mk i _ ks => i :: idsL ks
def idsL : List Ly → List Idt
 | [] => []
 | k :: ks => k.ids ++ idsL ks
end
mutual
def find (x : Idt) : Ly → Option (Ly × Nat)
 | .mk i lk ks => if i = x then some (.mk i lk ks, 0) else (uff x ks).map fun p => (p.1, p.2 + 1)
def uff (x : Idt) : List Ly → Option (Ly × Nat)
 | [] => none
 | k :: ks => match k.find x with
  | some p => some p
  | none => uff x ks
end
mutual
def without (x : Idt) : Ly → Ly
 | .mk i lk ks => .mk i lk (withoutL x ks)
def withoutL (x : Idt) : List Ly → List Ly
 | [] => []
 | k :: ks => if k.id = x then withoutL x ks else k.without x :: withoutL x ks
end
def insAt (n : Int) (m : Ly) (l : List Ly) : List Ly := if 0 ≤ n ∧ n ≤ l.length then l.take n.toNat ++ m :: l.drop n.toNat else l
mutual
def updK (to : Idt) (f : List Ly → List Ly) : Ly → Ly
 | .mk i lk ks => .mk i lk (if i = to then f (ujb to f ks) else ujb to f ks)
def ujb (to : Idt) (f : List Ly → List Ly) : List Ly → List Ly
 | [] => []
 | k :: ks => k.updK to f :: ujb to f ks
end
def with_ (to : Idt) (n : Int) (l : Ly) (m : Ly) : Ly := l.updK to (insAt n m)
mutual
def looks (x : Idt) (v : Lk) : Ly → Ly
 | .mk i lk ks => .mk i (if i = x then v else lk) (looksL x v ks)
def looksL (x : Idt) (v : Lk) : List Ly → List Ly
 | [] => []
 | k :: ks => k.looks x v :: looksL x v ks
end
mutual
def parent (x : Idt) : Ly → Option Ly
 | .mk i lk ks => ub0 x (.mk i lk ks) ks
def ub0 (x : Idt) (self : Ly) : List Ly → Option Ly
 | [] => none
 | k :: ks => if k.id = x then some self else match k.parent x with
  | some p => some p
  | none => ub0 x self ks
end
mutual
def height : Ly → Nat
 | .mk _ _ ks => heightL ks
def heightL : List Ly → Nat
 | [] => 0
 | k :: ks => max (1 + k.height) (heightL ks)
end
mutual
def same : Ly → Ly → Bool
 | .mk i lk ks, .mk j ml ls => decide (i = j) && (decide (lk = ml) && sameL ks ls)
def sameL : List Ly → List Ly → Bool
 | [], [] => true
 | k :: ks, l :: ls => k.same l && sameL ks ls
 | _, _ => false
end
theorem same_iff : ∀ a b : Ly, a.same b = true ↔ a = b := by
 intro a
 induction a using ind with
 | h id lk ks ih =>
  have key : ∀ ks ls : List Ly, (∀ k ∈ ks, ∀ b : Ly, k.same b = true ↔ k = b) → (sameL ks ls = true ↔ ks = ls) := by
   intro ks
   induction ks with
   | nil => intro ls _; cases ls <;> simp [sameL]
   | cons k ks ihk =>
    intro ls h
    cases ls with
    | nil => simp [sameL]
    | cons l ls =>
     rw [sameL, Bool.and_eq_true, h k (by simp) l, ihk ls (fun x hx => h x (by simp [hx])), List.cons.injEq]
  intro b
  obtain ⟨j, ml, ls⟩ := b
  rw [same, Bool.and_eq_true, Bool.and_eq_true, decide_eq_true_eq, decide_eq_true_eq, key ks ls ih, Ly.mk.injEq]
def zero : Ly := .mk (0, 0) Lk.zero []
end Ly
structure Ar where
 gens : List Int
 live : List Bool
 deriving DecidableEq
def Ar.new : Ar := ⟨[0], [true]⟩
def Ar.has (a : Ar) (x : Idt) : Bool := decide (0 ≤ x.1) && (a.live.getD x.1.toNat false && decide (a.gens[x.1.toNat]? = some x.2))
def Ar.take (a : Ar) : Option (Ar × Idt) := match a.live.findIdx? (fun q => !q) with
 | some i => some (⟨a.gens, a.live.set i true⟩, ((i : Nat), a.gens.getD i 0))
 | none => if a.live.length = 1024 then none else some (⟨a.gens ++ [0], a.live ++ [true]⟩, ((a.live.length : Nat), 0))
def Ar.free (a : Ar) (x : Idt) : Ar := if a.has x = true ∧ x.1 ≠ 0 then ⟨a.gens.set x.1.toNat (x.2 + 1), a.live.set x.1.toNat false⟩ else a
def Ar.count (a : Ar) : Nat := a.live.count true
structure Sn where
 arena : Ar
 root : Ly
def Lk.plain : Lk := { Lk.zero with opacity := 255 }
def Sn.new : Sn := ⟨Ar.new, .mk (0, 0) Lk.plain []⟩
def nearB (n : Int) : Bool := decide (-1048576 ≤ n) && decide (n ≤ 1048576)
def Rc.nearB (r : Rc) : Bool := Gou.nearB r.x0 && (Gou.nearB r.y0 && (Gou.nearB r.x1 && Gou.nearB r.y1))
def Pxl.rightB (p : Pxl) : Bool := decide (p.p0 ≤ p.p3) && (decide (p.p1 ≤ p.p3) && decide (p.p2 ≤ p.p3))
def Ct.rightB (c : Ct) : Bool :=
 if c.kind = 1 then c.box.nearB && c.px.rightB
 else if c.kind = 2 then !(decide (c.w < 1) || decide (c.h < 1) || decide (4096 < c.w) || decide (4096 < c.h) || decide (65536 < c.w * c.h) || decide ((c.pix.length : Int) ≠ c.w * c.h) || decide (c.turn < 0) || decide (3 < c.turn) || !Gou.nearB c.box.x0 || !Gou.nearB c.box.y0) && c.pix.all Pxl.rightB
 else decide (c.kind = 0)
def Ct.own (c : Ct) : Ct :=
 if c.kind = 1 then { Ct.zero with kind := 1, box := c.box, px := c.px }
 else if c.kind = 2 then { Ct.zero with kind := 2, box := ⟨c.box.x0, c.box.y0, 0, 0⟩, w := c.w, h := c.h, turn := c.turn, pix := c.pix }
 else { Ct.zero with kind := c.kind }
def uas (check : Gr → Int) (l : Lk) (o : Opr) : Lk × Int :=
 let v := o.look
 if o.kind = 5 then (if nearB v.dx && nearB v.dy then ({ l with dx := v.dx, dy := v.dy }, 0) else (l, 3))
 else if o.kind = 6 then (if v.hasClip then (if v.clip.nearB then ({ l with hasClip := true, clip := v.clip }, 0) else (l, 3)) else ({ l with hasClip := false, clip := Rc.zero }, 0))
 else if o.kind = 7 then (if v.opacity < 0 ∨ 255 < v.opacity then (l, 3) else ({ l with opacity := v.opacity }, 0))
 else if o.kind = 8 then (if v.mode < 0 ∨ 6 < v.mode then (l, 3) else ({ l with mode := v.mode }, 0))
 else if o.kind = 9 then (if v.content.kind < 0 ∨ 2 < v.content.kind then (l, 1) else if v.content.rightB then ({ l with content := v.content.own }, 0) else (l, 3))
 else if o.kind = 10 then (if v.hasFilt then ({ l with hasFilt := true, filt := v.filt }, check v.filt) else ({ l with hasFilt := false, filt := Gr.zero }, 0))
 else if o.kind = 11 then (if v.hasBack then ({ l with hasBack := true, back := v.back }, check v.back) else ({ l with hasBack := false, back := Gr.zero }, 0))
 else (l, 0)
def ubo (a : Ar) (o : Opr) : Bool :=
 if o.kind = 1 then !a.has o.to else if o.kind = 3 then !a.has o.id || !a.has o.to else !a.has o.id
def doP (check : Gr → Int) (s : Sn) (o : Opr) : Sn × Idt × Int :=
 if o.kind < 1 ∨ 11 < o.kind then (s, (0, 0), 1)
 else if ubo s.arena o then (s, (0, 0), 4)
 else if 5 ≤ o.kind then
     match s.root.find o.id with
     | none => (s, (0, 0), 4)
     | some (x, _) =>
      let r := uas check x.look o
      if r.2 ≠ 0 then (s, (0, 0), r.2) else (⟨s.arena, s.root.looks o.id r.1⟩, (0, 0), 0)
 else if o.kind = 1 then
     match s.root.find o.to with
     | none => (s, (0, 0), 4)
     | some (x, d) =>
      if o.at_ < 0 ∨ (x.kids.length : Int) < o.at_ ∨ 64 ≤ d then (s, (0, 0), 3)
      else match s.arena.take with
       | none => (s, (0, 0), 9)
       | some (a, fresh) => (⟨a, s.root.with_ o.to o.at_ (.mk fresh Lk.plain [])⟩, fresh, 0)
 else if o.id = (0, 0) then (s, (0, 0), 1)
 else match s.root.find o.id with
  | none => (s, (0, 0), 4)
  | some (self, _) =>
   let rest := s.root.without o.id
   if o.kind = 2 then (⟨self.ids.foldl Ar.free s.arena, rest⟩, (0, 0), 0)
   else if o.kind = 3 then
       if (self.find o.to).isSome then (s, (0, 0), 5)
       else match rest.find o.to with
        | none => (s, (0, 0), 4)
        | some (x, d) => if o.at_ < 0 ∨ (x.kids.length : Int) < o.at_ ∨ 64 < d + 1 + self.height then (s, (0, 0), 3) else (⟨s.arena, rest.with_ o.to o.at_ self⟩, (0, 0), 0)
   else match s.root.parent o.id with
    | none => (s, (0, 0), 4)
    | some p => match rest.find p.id with
     | none => (s, (0, 0), 4)
     | some (x, d) => if o.at_ < 0 ∨ (x.kids.length : Int) < o.at_ ∨ 64 < d + 1 + self.height then (s, (0, 0), 3) else (⟨s.arena, rest.with_ p.id o.at_ self⟩, (0, 0), 0)
def udz (check : Gr → Int) (l : List Opr) : Sn := l.foldl (fun s o => (doP check s o).1) Sn.new
namespace Ly
theorem idsL_eq (ks : List Ly) : idsL ks = ks.flatMap ids := by
 induction ks with
 | nil => rfl
 | cons k ks ih => rw [idsL, ih, List.flatMap_cons]
theorem mem_idsL {ks : List Ly} {x : Idt} : x ∈ idsL ks ↔ ∃ k ∈ ks, x ∈ k.ids := by rw [idsL_eq, List.mem_flatMap]
theorem id_mk (i : Idt) (lk : Lk) (ks : List Ly) : id (.mk i lk ks) = i := rfl
theorem look_mk (i : Idt) (lk : Lk) (ks : List Ly) : look (.mk i lk ks) = lk := rfl
theorem kids_mk (i : Idt) (lk : Lk) (ks : List Ly) : kids (.mk i lk ks) = ks := rfl
theorem ids_mk (i : Idt) (lk : Lk) (ks : List Ly) : ids (.mk i lk ks) = i :: idsL ks := by rw [ids]
theorem id_mem (l : Ly) : l.id ∈ l.ids := by cases l; simp [ids, id]
theorem updKL_eq (x : Idt) (f : List Ly → List Ly) (ks : List Ly) : ujb x f ks = ks.map (updK x f) := by
 induction ks with
 | nil => rfl
 | cons k ks ih => rw [ujb, ih, List.map_cons]
theorem ubu (x : Idt) (v : Lk) (ks : List Ly) : looksL x v ks = ks.map (looks x v) := by
 induction ks with
 | nil => rfl
 | cons k ks ih => rw [looksL, ih, List.map_cons]
theorem ubr (x : Idt) (ks : List Ly) : withoutL x ks = (ks.filter fun k => decide (k.id ≠ x)).map (without x) := by
 induction ks with
 | nil => rfl
 | cons k ks ih =>
  rw [withoutL, ih]
  by_cases h : k.id = x <;> simp [h]
theorem ufo {x : Idt} {v : Lk} : ∀ l : Ly, x ∉ l.ids → l.looks x v = l := by
 intro l
 induction l using ind with
 | h i lk ks ih =>
  intro h
  rw [ids, List.mem_cons, not_or] at h
  rw [looks, ubu, if_neg (fun e => h.1 e.symm)]
  congr 1
  rw [List.map_congr_left (fun k hk => ih k hk (fun hx => h.2 (mem_idsL.2 ⟨k, hk, hx⟩)))]
  simp
theorem ugo {x : Idt} {f : List Ly → List Ly} : ∀ l : Ly, x ∉ l.ids → l.updK x f = l := by
 intro l
 induction l using ind with
 | h i lk ks ih =>
  intro h
  rw [ids, List.mem_cons, not_or] at h
  rw [updK, updKL_eq, if_neg (fun e => h.1 e.symm)]
  congr 1
  rw [List.map_congr_left (fun k hk => ih k hk (fun hx => h.2 (mem_idsL.2 ⟨k, hk, hx⟩)))]
  simp
theorem uch {x : Idt} : ∀ l : Ly, x ∉ l.ids → l.without x = l := by
 intro l
 induction l using ind with
 | h i lk ks ih =>
  intro h
  rw [ids, List.mem_cons, not_or] at h
  rw [without, ubr]
  congr 1
  rw [List.filter_eq_self.2 (fun k hk => by
   simp only [ne_eq, decide_eq_true_eq]
   intro e
   exact h.2 (mem_idsL.2 ⟨k, hk, e ▸ id_mem k⟩))]
  rw [List.map_congr_left (fun k hk => ih k hk (fun hx => h.2 (mem_idsL.2 ⟨k, hk, hx⟩)))]
  simp
def get? : List Nat → Ly → Option Ly
 | [], l => some l
 | i :: π, l => match l.kids[i]? with
  | none => none
  | some k => get? π k
def put : List Nat → Ly → Ly → Ly
 | [], _, s => s
 | i :: π, l, s => match l.kids[i]? with
  | none => l
  | some k => .mk l.id l.look (l.kids.set i (put π k s))
mutual
def pathOf (x : Idt) : Ly → Option (List Nat)
 | .mk i _ ks => if i = x then some [] else ucr x 0 ks
def ucr (x : Idt) (n : Nat) : List Ly → Option (List Nat)
 | [] => none
 | k :: ks => match k.pathOf x with
  | some π => some (n :: π)
  | none => ucr x (n + 1) ks
end
mutual
def parPath (x : Idt) : Ly → Option (List Nat × Nat)
 | .mk _ _ ks => parL x 0 ks
def parL (x : Idt) (n : Nat) : List Ly → Option (List Nat × Nat)
 | [] => none
 | k :: ks => if k.id = x then some ([], n) else match k.parPath x with
  | some p => some (n :: p.1, p.2)
  | none => parL x (n + 1) ks
end
theorem ub7 {x : Idt} : ∀ {ks : List Ly} {n : Nat} {π : List Nat}, ucr x n ks = some π → ∃ i k ρ, ks[i]? = some k ∧ k.pathOf x = some ρ ∧ π = (n + i) :: ρ ∧ ∀ j k', j < i → ks[j]? = some k' → k'.pathOf x = none
 | [], n, π, h => by simp [ucr] at h
 | k :: ks, n, π, h => by
  rw [ucr] at h
  cases hk : k.pathOf x with
  | some ρ =>
   rw [hk] at h
   cases h
   exact ⟨0, k, ρ, rfl, hk, rfl, fun j _ hj _ => absurd hj (Nat.not_lt_zero j)⟩
  | none =>
   rw [hk] at h
   obtain ⟨i, k', ρ, h1, h2, h3, h4⟩ := ub7 h
   refine ⟨i + 1, k', ρ, h1, h2, by rw [h3]; congr 1; omega, fun j k'' hj he => ?_⟩
   cases j with
   | zero => simp at he; rw [← he]; exact hk
   | succ j => exact h4 j k'' (by omega) he
theorem pathL_none {x : Idt} : ∀ {ks : List Ly} {n : Nat}, ucr x n ks = none ↔ ∀ k ∈ ks, k.pathOf x = none
 | [], n => by simp [ucr]
 | k :: ks, n => by
  rw [ucr]
  cases hk : k.pathOf x with
  | some ρ => simp [hk]
  | none => simp [hk, pathL_none]
theorem heightL_le {ks : List Ly} {n : Nat} : heightL ks ≤ n ↔ ∀ k ∈ ks, 1 + k.height ≤ n := by
 induction ks with
 | nil => simp [heightL]
 | cons k ks ih => rw [heightL, Nat.max_le, ih]; simp
theorem ubp (l : Ly) : l.height = heightL l.kids := by cases l; rw [height, kids_mk]
theorem pathL_at {x : Idt} : ∀ {ks : List Ly} {n j : Nat} {k : Ly} {ρ : List Nat}, (∀ a ∈ ks.take j, a.pathOf x = none) → ks[j]? = some k → k.pathOf x = some ρ → ucr x n ks = some ((n + j) :: ρ)
 | [], n, j, k, ρ, _, h, _ => by simp at h
 | a :: ks, n, 0, k, ρ, _, h, hk => by
  simp at h
  subst h
  rw [ucr, hk]
  rfl
 | a :: ks, n, j + 1, k, ρ, ha, h, hk => by
  rw [ucr, ha a (by simp)]
  simp only
  rw [pathL_at (j := j) (fun b hb => ha b (by simp [hb])) h hk]
  congr 2
  omega
theorem pathOf_none {x : Idt} : ∀ l : Ly, l.pathOf x = none ↔ x ∉ l.ids := by
 intro l
 induction l using ind with
 | h i lk ks ih =>
  rw [pathOf, ids, List.mem_cons, not_or]
  by_cases h : i = x
  ·simp [h]
  ·rw [if_neg h, pathL_none]
   constructor
   ·intro hk
    exact ⟨fun e => h e.symm, fun hx => by obtain ⟨k, h1, h2⟩ := mem_idsL.1 hx; exact (ih k h1).1 (hk k h1) h2⟩
   ·rintro ⟨_, h2⟩ k hk
    exact (ih k hk).2 fun hx => h2 (mem_idsL.2 ⟨k, hk, hx⟩)
theorem udj {x : Idt} : ∀ {l : Ly} {π : List Nat}, l.pathOf x = some π → ∃ s, l.get? π = some s ∧ s.id = x := by
 intro l
 induction l using ind with
 | h i lk ks ih =>
  intro π h
  rw [pathOf] at h
  by_cases hi : i = x
  ·rw [if_pos hi] at h
   cases h
   exact ⟨_, rfl, hi⟩
  ·rw [if_neg hi] at h
   obtain ⟨j, k, ρ, h1, h2, rfl, _⟩ := ub7 h
   obtain ⟨s, h3, h4⟩ := ih k (lmG h1) h2
   refine ⟨s, ?_, h4⟩
   rw [Nat.zero_add, get?]
   simp only [kids_mk, h1]
   exact h3
theorem ui3 {x : Idt} : ∀ {ks : List Ly} (n : Nat), (∀ k ∈ ks, k.find x = (k.pathOf x).bind fun π => (k.get? π).map fun s => (s, π.length)) →
 ∀ l : Ly, (∀ i, l.kids[n + i]? = ks[i]?) → (uff x ks).map (fun p => (p.1, p.2 + 1)) = (ucr x n ks).bind fun π => (l.get? π).map fun s => (s, π.length)
 | [], n, _, l, _ => by simp [uff, ucr]
 | k :: ks, n, h, l, hl => by
  have h0 := hl 0
  rw [uff, ucr, h k (by simp)]
  cases hk : k.pathOf x with
  | none =>
   simp only [Option.bind_none]
   exact ui3 (n + 1) (fun k' hk' => h k' (by simp [hk'])) l (fun i => by have := hl (i + 1); rw [show n + 1 + i = n + (i + 1) by omega, this]; rfl)
  | some π =>
   obtain ⟨s, h1, h2⟩ := udj hk
   simp only [Option.bind_some, h1, Option.map_some]
   rw [get?]
   simp only [Nat.add_zero] at h0
   simp only [h0, List.getElem?_cons_zero, h1, Option.map_some, List.length_cons]
theorem find_eq {x : Idt} : ∀ l : Ly, l.find x = (l.pathOf x).bind fun π => (l.get? π).map fun s => (s, π.length) := by
 intro l
 induction l using ind with
 | h i lk ks ih =>
  rw [find, pathOf]
  by_cases h : i = x
  ·simp [h, get?]
  ·rw [if_neg h, if_neg h]
   exact ui3 0 ih _ (fun i => by simp [kids])
theorem find_some {x : Idt} {l s : Ly} {d : Nat} (h : l.find x = some (s, d)) : ∃ π, l.pathOf x = some π ∧ l.get? π = some s ∧ d = π.length ∧ s.id = x := by
 rw [find_eq] at h
 cases hp : l.pathOf x with
 | none => rw [hp] at h; simp at h
 | some π =>
  rw [hp] at h
  obtain ⟨s', h1, h2⟩ := udj hp
  simp only [Option.bind_some, h1, Option.map_some, Option.some.injEq, Prod.mk.injEq] at h
  obtain ⟨rfl, rfl⟩ := h
  exact ⟨π, rfl, h1, rfl, h2⟩
theorem find_none {x : Idt} {l : Ly} : l.find x = none ↔ x ∉ l.ids := by
 rw [find_eq, ← pathOf_none]
 cases hp : l.pathOf x with
 | none => simp
 | some π =>
  obtain ⟨s', h1, h2⟩ := udj hp
  simp [h1]
theorem ucb {ks : List Ly} (h : (idsL ks).Nodup) {i : Nat} {k : Ly} (hi : ks[i]? = some k) : k.ids.Nodup ∧ ∀ x ∈ k.ids, ∀ j k', j ≠ i → ks[j]? = some k' → x ∉ k'.ids := by
 induction ks generalizing i with
 | nil => simp at hi
 | cons a ks ih =>
  rw [idsL, List.nodup_append] at h
  obtain ⟨h1, h2, h3⟩ := h
  cases i with
  | zero =>
   simp at hi
   subst hi
   refine ⟨h1, fun x hx j k' hj hk' hx' => ?_⟩
   cases j with
   | zero => exact hj rfl
   | succ j =>
    rw [List.getElem?_cons_succ] at hk'
    exact h3 x hx x (mem_idsL.2 ⟨k', lmG hk', hx'⟩) rfl
  | succ i =>
   rw [List.getElem?_cons_succ] at hi
   obtain ⟨h4, h5⟩ := ih h2 hi
   refine ⟨h4, fun x hx j k' hj hk' => ?_⟩
   cases j with
   | zero =>
    simp at hk'
    subst hk'
    exact fun hx' => h3 x hx' x (mem_idsL.2 ⟨k, lmG hi, hx⟩) rfl
   | succ j =>
    rw [List.getElem?_cons_succ] at hk'
    exact h5 x hx j k' (by omega) hk'
theorem uic {f : Ly → Ly} {ks : List Ly} {i : Nat} {k k2 : Ly} (hi : ks[i]? = some k) (hk : f k = k2) (hf : ∀ j k', j ≠ i → ks[j]? = some k' → f k' = k') : ks.map f = ks.set i k2 := by
 apply List.ext_getElem?
 intro j
 rw [List.getElem?_map, List.getElem?_set]
 by_cases hj : i = j
 ·subst hj
  rw [if_pos rfl, hi]
  simp [hk, (lgS.1 hi).1]
 ·rw [if_neg hj]
  cases hj' : ks[j]? with
  | none => rfl
  | some k' => simp [hf j k' (fun e => hj e.symm) hj']
theorem looks_put {x : Idt} {v : Lk} : ∀ {l : Ly} {π : List Nat} {s : Ly}, l.ids.Nodup → l.pathOf x = some π → l.get? π = some s → l.looks x v = l.put π (.mk s.id v s.kids) := by
 intro l
 induction l using ind with
 | h i lk ks ih =>
  intro π s hn h hs
  rw [ids, List.nodup_cons] at hn
  rw [pathOf] at h
  by_cases hi : i = x
  ·rw [if_pos hi] at h
   cases h
   cases hs
   rw [looks, if_pos hi, put, ubu]
   simp only [id_mk, kids_mk]
   congr 1
   rw [List.map_congr_left (fun k hk => ufo k (fun hx => hn.1 (mem_idsL.2 ⟨k, hk, hi ▸ hx⟩)))]
   simp
  ·rw [if_neg hi] at h
   obtain ⟨j, k, ρ, h1, h2, rfl, _⟩ := ub7 h
   rw [Nat.zero_add] at hs ⊢
   rw [get?] at hs
   simp only [kids_mk, h1] at hs
   obtain ⟨hn1, hn2⟩ := ucb hn.2 h1
   have hx : x ∈ k.ids := by
    by_cases hx : x ∈ k.ids
    ·exact hx
    ·rw [(pathOf_none k).2 hx] at h2; cases h2
   rw [looks, if_neg hi, put, ubu]
   simp only [id_mk, kids_mk, h1, look_mk]
   congr 1
   exact uic h1 (ih k (lmG h1) hn1 h2 hs) (fun j' k' hj hk => ufo k' (hn2 x hx j' k' hj hk))
theorem updK_put {x : Idt} {f : List Ly → List Ly} : ∀ {l : Ly} {π : List Nat} {s : Ly}, l.ids.Nodup → l.pathOf x = some π → l.get? π = some s → l.updK x f = l.put π (.mk s.id s.look (f s.kids)) := by
 intro l
 induction l using ind with
 | h i lk ks ih =>
  intro π s hn h hs
  rw [ids, List.nodup_cons] at hn
  rw [pathOf] at h
  by_cases hi : i = x
  ·rw [if_pos hi] at h
   cases h
   cases hs
   rw [updK, if_pos hi, put, updKL_eq]
   simp only [id_mk, kids_mk, look_mk]
   congr 2
   rw [List.map_congr_left (fun k hk => ugo k (fun hx => hn.1 (mem_idsL.2 ⟨k, hk, hi ▸ hx⟩)))]
   simp
  ·rw [if_neg hi] at h
   obtain ⟨j, k, ρ, h1, h2, rfl, _⟩ := ub7 h
   rw [Nat.zero_add] at hs ⊢
   rw [get?] at hs
   simp only [kids_mk, h1] at hs
   obtain ⟨hn1, hn2⟩ := ucb hn.2 h1
   have hx : x ∈ k.ids := by
    by_cases hx : x ∈ k.ids
    ·exact hx
    ·rw [(pathOf_none k).2 hx] at h2; cases h2
   rw [updK, if_neg hi, put, updKL_eq]
   simp only [id_mk, kids_mk, h1, look_mk]
   congr 1
   exact uic h1 (ih k (lmG h1) hn1 h2 hs) (fun j' k' hj hk => ugo k' (hn2 x hx j' k' hj hk))
theorem uen {x : Idt} : ∀ {ks : List Ly} {n : Nat} {p : List Nat × Nat}, parL x n ks = some p →
 (∃ i k, ks[i]? = some k ∧ k.id = x ∧ p = ([], n + i)) ∨ ∃ i k q, ks[i]? = some k ∧ k.id ≠ x ∧ k.parPath x = some q ∧ p = ((n + i) :: q.1, q.2)
 | [], n, p, h => by simp [parL] at h
 | k :: ks, n, p, h => by
  rw [parL] at h
  by_cases hk : k.id = x
  ·rw [if_pos hk] at h
   cases h
   exact .inl ⟨0, k, rfl, hk, rfl⟩
  ·rw [if_neg hk] at h
   cases hq : k.parPath x with
   | some q =>
    rw [hq] at h
    cases h
    exact .inr ⟨0, k, q, rfl, hk, hq, rfl⟩
   | none =>
    rw [hq] at h
    rcases uen h with ⟨i, k', h1, h2, rfl⟩ | ⟨i, k', q, h1, h2, h3, rfl⟩
    ·exact .inl ⟨i + 1, k', h1, h2, by congr 1; omega⟩
    ·exact .inr ⟨i + 1, k', q, h1, h2, h3, by congr 2; omega⟩
theorem parL_none {x : Idt} : ∀ {ks : List Ly} {n : Nat}, parL x n ks = none ↔ ∀ k ∈ ks, k.id ≠ x ∧ k.parPath x = none
 | [], n => by simp [parL]
 | k :: ks, n => by
  rw [parL]
  by_cases hk : k.id = x
  ·simp [hk]
  ·rw [if_neg hk]
   cases hq : k.parPath x with
   | some ρ => simp [hq]
   | none => simp [hq, hk, parL_none]
theorem udr {x : Idt} : ∀ l : Ly, l.parPath x = none ↔ x ∉ idsL l.kids := by
 intro l
 induction l using ind with
 | h i lk ks ih =>
  rw [parPath, parL_none, kids]
  constructor
  ·intro h hx
   obtain ⟨k, h1, h2⟩ := mem_idsL.1 hx
   obtain ⟨h3, h4⟩ := h k h1
   have := (ih k h1).1 h4
   rw [← eta k, ids, List.mem_cons] at h2
   rcases h2 with h2 | h2
   ·exact h3 h2.symm
   ·exact this h2
  ·intro h k hk
   refine ⟨fun e => h (mem_idsL.2 ⟨k, hk, e ▸ id_mem k⟩), (ih k hk).2 fun hx => h (mem_idsL.2 ⟨k, hk, ?_⟩)⟩
   rw [← eta k, ids, List.mem_cons]
   exact .inr hx
theorem uem {x : Idt} : ∀ {l : Ly} {p : List Nat × Nat}, l.parPath x = some p → ∃ s k, l.get? p.1 = some s ∧ s.kids[p.2]? = some k ∧ k.id = x := by
 intro l
 induction l using ind with
 | h i lk ks ih =>
  intro p h
  rw [parPath] at h
  rcases uen h with ⟨j, k, h1, h2, rfl⟩ | ⟨j, k, q, h1, h2, h3, rfl⟩
  ·exact ⟨_, k, rfl, by simpa [kids] using h1, h2⟩
  ·obtain ⟨s, k', h4, h5, h6⟩ := ih k (lmG h1) h3
   refine ⟨s, k', ?_, h5, h6⟩
   rw [Nat.zero_add, get?]
   simp only [kids_mk, h1]
   exact h4
theorem uhp {x : Idt} : ∀ {l : Ly} {p : List Nat × Nat} {s : Ly}, l.ids.Nodup → l.parPath x = some p → l.get? p.1 = some s → l.without x = l.put p.1 (.mk s.id s.look (s.kids.eraseIdx p.2)) := by
 intro l
 induction l using ind with
 | h i lk ks ih =>
  intro p s hn h hs
  rw [ids, List.nodup_cons] at hn
  rw [parPath] at h
  rcases uen h with ⟨j, k, h1, h2, rfl⟩ | ⟨j, k, q, h1, h2, h3, rfl⟩
  ·cases hs
   rw [without, put, ubr]
   simp only [id_mk, kids_mk, look_mk]
   congr 1
   obtain ⟨hn1, hn2⟩ := ucb hn.2 h1
   have hx : x ∈ k.ids := h2 ▸ id_mem k
   have hlt := (lgS.1 h1).1
   rw [Nat.zero_add]
   have e1 : ks = ks.take j ++ k :: ks.drop (j + 1) := by
    rw [← (lgS.1 h1).2]
    simp
   have hk1 : ∀ a ∈ ks.take j, x ∉ a.ids := fun a ha hxa => by
    obtain ⟨m, hm⟩ := List.mem_iff_getElem?.1 ha
    rw [List.getElem?_take] at hm
    by_cases hmj : m < j
    ·rw [if_pos hmj] at hm
     exact hn2 x hx m a (by omega) hm hxa
    ·rw [if_neg hmj] at hm
     cases hm
   have hk2 : ∀ a ∈ ks.drop (j + 1), x ∉ a.ids := fun a ha hxa => by
    obtain ⟨m, hm⟩ := List.mem_iff_getElem?.1 ha
    rw [List.getElem?_drop] at hm
    exact hn2 x hx (j + 1 + m) a (by omega) hm hxa
   have hf1 : ∀ a : Ly, x ∉ a.ids → a.id ≠ x := fun a ha e => ha (e ▸ id_mem a)
   rw [List.eraseIdx_eq_take_drop_succ]
   conv => lhs; rw [e1]
   rw [List.filter_append, List.filter_cons, if_neg (by simp [h2]), List.filter_eq_self.2 (fun a ha => by simpa using hf1 a (hk1 a ha)), List.filter_eq_self.2 (fun a ha => by simpa using hf1 a (hk2 a ha)),
       List.map_append, List.map_congr_left (fun a ha => uch a (hk1 a ha)), List.map_congr_left (fun a ha => uch a (hk2 a ha))]
   simp
  ·rw [Nat.zero_add] at hs ⊢
   rw [get?] at hs
   simp only [kids_mk, h1] at hs
   obtain ⟨hn1, hn2⟩ := ucb hn.2 h1
   have hx : x ∈ k.ids := by
    by_cases hx : x ∈ idsL k.kids
    ·rw [← eta k, ids, List.mem_cons]; exact .inr hx
    ·rw [(udr k).2 hx] at h3; cases h3
   rw [without, put, ubr]
   simp only [id_mk, kids_mk, h1, look_mk]
   congr 1
   rw [List.filter_eq_self.2 (fun a ha => by
    simp only [ne_eq, decide_eq_true_eq]
    intro e
    obtain ⟨m, hm⟩ := List.mem_iff_getElem?.1 ha
    by_cases hmj : m = j
    ·subst hmj; rw [h1] at hm; cases hm; exact h2 e
    ·exact hn2 x hx m a hmj hm (e ▸ id_mem a))]
   exact uic h1 (ih k (lmG h1) hn1 h3 hs) (fun j' k' hj hk => uch k' (hn2 x hx j' k' hj hk))
end Ly
open Go.RowKit
def lyA (i : Idt) (l : Lk) (vp vf vb vk : Value) : Array Value :=
 List.toArray (iV i.1 :: iV i.2 :: iV l.dx :: iV l.dy :: Value.bool l.hasClip :: iV l.clip.x0 :: iV l.clip.y0 :: iV l.clip.x1 :: iV l.clip.y1 :: iV l.opacity :: iV l.mode :: iV l.content.kind :: iV l.content.box.x0 :: iV l.content.box.y0 :: iV l.content.box.x1 :: iV l.content.box.y1 :: Value.int .u8 (l.content.px.p0 : Nat) :: Value.int .u8 (l.content.px.p1 : Nat) :: Value.int .u8 (l.content.px.p2 : Nat) :: Value.int .u8 (l.content.px.p3 : Nat) :: iV l.content.w :: iV l.content.h :: iV l.content.turn :: vp :: Value.bool l.hasFilt :: vf :: iV l.filt.out :: Value.bool l.hasBack :: vb :: iV l.back.out :: vk :: [])
@[reducible] def lyZ : Array Value := lyA (0, 0) Lk.zero nlS nlS nlS nlS
@[reducible] def lyS (i : Idt) (l : Lk) (p : Option Addr) (c : Nat) (q : Option Addr) (d : Nat) (r : Option Addr) (e : Nat) (k : Value) : Array Value := lyA i l (.slice p l.content.pix.length c) (.slice q l.filt.nodes.length d) (.slice r l.back.nodes.length e) k
theorem uew (i : Idt) (l : Lk) (vp vf vb vk : Value) : (lyA i l vp vf vb vk).toList.length = 31 := rfl
theorem uf6 (i : Idt) (l : Lk) (vp vf vb vk : Value) : (lyA i l vp vf vb vk).toList = iV i.1 :: iV i.2 :: ((uai l vp vf vb).toList ++ [vk]) := rfl
inductive LyR (G : Nat → Prop) (w : World) : List Value → Ly → Prop
 | mk (i : Idt) (lk : Lk) (ks : List Ly) (vp vf vb vk : Value) (css : List (List Value)) (hl : LookR G w lk vp vf vb) (hr : RowG G w 31 vk ks.length css.flatten) (hn : css.length = ks.length)
     (hk : ∀ (j : Nat) (c : List Value) (k : Ly), css[j]? = some c → ks[j]? = some k → LyR G w c k) : LyR G w (lyA i lk vp vf vb vk).toList (.mk i lk ks)
theorem LyR.len {G : Nat → Prop} {w : World} {c : List Value} {T : Ly} (h : LyR G w c T) : c.length = 31 := by cases h; rfl
theorem LyR.mod {G S : Nat → Prop} {w w' : World} {c : List Value} {T : Ly} (h : LyR G w c T) (hm : Mod S w w') (hS : ∀ k, k < w.heap.size → G k → ¬ S k) : LyR G w' c T := by
 induction h with
 | mk i lk ks vp vf vb vk css hl hr hn hk ih => exact .mk i lk ks vp vf vb vk css (hl.mod hm hS) (hr.mod hm hS) hn ih
theorem LyR.imp {G G' : Nat → Prop} {w : World} {c : List Value} {T : Ly} (h : LyR G w c T) (hG : ∀ k, k < w.heap.size → G k → G' k) : LyR G' w c T := by
 induction h with
 | mk i lk ks vp vf vb vk css hl hr hn hk ih => exact .mk i lk ks vp vf vb vk css (hl.imp hG) (hr.imp hG) hn ih
theorem LyR.up {G : Nat → Prop} {w w' : World} {c : List Value} {T : Ly} (h : LyR G w c T) (hm : Mod (fun _ => False) w w') : LyR G w' c T := h.mod hm (fun _ _ _ h => h)
theorem LyR.form {G : Nat → Prop} {w : World} {c : List Value} {T : Ly} (h : LyR G w c T) : ∃ (vp vf vb vk : Value) (css : List (List Value)), c = (lyA T.id T.look vp vf vb vk).toList ∧ LookR G w T.look vp vf vb ∧ RowG G w 31 vk T.kids.length css.flatten ∧ css.length = T.kids.length ∧
 ∀ (j : Nat) (c : List Value) (k : Ly), css[j]? = some c → T.kids[j]? = some k → LyR G w c k := by
 cases h with
 | mk i lk ks vp vf vb vk css hl hr hn hk => exact ⟨vp, vf, vb, vk, css, rfl, hl, hr, hn, hk⟩
theorem LyR.zero (G : Nat → Prop) (w : World) : LyR G w lyZ.toList Ly.zero :=
 .mk _ _ [] _ _ _ _ [] ⟨PixR.nil _ _, NodesR.nil _ _, NodesR.nil _ _⟩ (RowG.nil _ _ _) rfl (fun j c k h => by simp at h)
theorem lyA_inj {i : Idt} {l : Lk} {vp vf vb vk vp' vf' vb' vk' : Value} (h : (lyA i l vp vf vb vk).toList = (lyA i l vp' vf' vb' vk').toList) : vp = vp' ∧ vf = vf' ∧ vb = vb' ∧ vk = vk' := by
 have h1 := congrArg (fun x => x[23]?) h
 have h2 := congrArg (fun x => x[25]?) h
 have h3 := congrArg (fun x => x[28]?) h
 have h4 := congrArg (fun x => x[30]?) h
 exact ⟨Option.some.inj h1, Option.some.inj h2, Option.some.inj h3, Option.some.inj h4⟩
theorem LyR.parts {G : Nat → Prop} {w : World} {vp vf vb vk : Value} {T : Ly} (h : LyR G w (lyA T.id T.look vp vf vb vk).toList T) : LookR G w T.look vp vf vb ∧ ∃ css : List (List Value), RowG G w 31 vk T.kids.length css.flatten ∧ css.length = T.kids.length ∧
 ∀ (j : Nat) (c : List Value) (k : Ly), css[j]? = some c → T.kids[j]? = some k → LyR G w c k := by
 obtain ⟨vp', vf', vb', vk', css, e, h1, h2, h3, h4⟩ := h.form
 obtain ⟨rfl, rfl, rfl, rfl⟩ := lyA_inj e
 exact ⟨h1, css, h2, h3, h4⟩
theorem udb {css : List (List Value)} (h : ∀ c ∈ css, c.length = 31) : ∀ (i r : Nat), r < 31 → css.flatten[i * 31 + r]? = (css[i]?).bind fun c => c[r]? := by
 induction css with
 | nil => intro i r _; simp
 | cons c css ih =>
  intro i r hr
  have hc := h c (by simp)
  rw [List.flatten_cons]
  cases i with
  | zero => rw [lgL (by omega)]; simp
  | succ i => rw [lgR (by omega), show (i + 1) * 31 + r - c.length = i * 31 + r by omega, ih (fun x hx => h x (by simp [hx])) i r hr]; simp
theorem ui2 {css : List (List Value)} (h : ∀ c ∈ css, c.length = 31) : css.flatten.length = css.length * 31 := by
 induction css with
 | nil => rfl
 | cons c css ih => rw [List.flatten_cons, List.length_append, ih (fun x hx => h x (by simp [hx])), h c (by simp), List.length_cons]; omega
theorem flat_eq {css : List (List Value)} {xs : List Value} (h : ∀ c ∈ css, c.length = 31) (hx : xs.length = css.length * 31) (he : ∀ i c, css[i]? = some c → ∀ r, r < 31 → xs[i * 31 + r]? = c[r]?) : xs = css.flatten := by
 apply List.ext_getElem?
 intro j
 by_cases hj : j < css.length * 31
 ·have e : j = j / 31 * 31 + j % 31 := by omega
  have hi : j / 31 < css.length := by omega
  have hc : css[j / 31]? = some css[j / 31] := lgE hi
  rw [e, udb h _ _ (by omega), hc, he _ _ hc _ (by omega)]
  rfl
 ·rw [List.getElem?_eq_none (by omega), List.getElem?_eq_none (by rw [ui2 h]; omega)]
theorem LyR.lens {G : Nat → Prop} {w : World} {css : List (List Value)} {ks : List Ly} (hn : css.length = ks.length) (hk : ∀ (j : Nat) (c : List Value) (k : Ly), css[j]? = some c → ks[j]? = some k → LyR G w c k) : ∀ c ∈ css, c.length = 31 := fun c hc => by
 obtain ⟨j, hj⟩ := List.mem_iff_getElem?.1 hc
 have h1 := (lgS.1 hj).1
 exact (hk j c ks[j] hj (lgE (by omega))).len
theorem RowG.kid {G : Nat → Prop} {w : World} {p : Option Addr} {n cap : Nat} {css : List (List Value)} (h : RowG G w 31 (.slice p n cap) n css.flatten) (h31 : ∀ c ∈ css, c.length = 31) (hn : css.length = n) {j : Nat} {c : List Value} (hj : css[j]? = some c) :
 ∃ b o, p = some ⟨b, o, none⟩ ∧ b < w.heap.size ∧ G b ∧ ∀ r v, c[r]? = some v → w.cell? ⟨b, o + j * 31 + r, none⟩ = some v := by
 have hlt := (lgS.1 hj).1
 obtain ⟨hl, p', c', e, hcap, h⟩ := h
 simp only [Value.slice.injEq] at e
 obtain ⟨rfl, -, rfl⟩ := e
 rcases h with h | ⟨b, o, rfl, hb, hG, hc⟩
 ·omega
 ·refine ⟨b, o, rfl, hb, hG, fun r v hr => ?_⟩
  have h1 := (lgS.1 hr).1
  have h2 := h31 c (lmG hj)
  have h3 := udb h31 j r (by omega)
  rw [hj] at h3
  have := hc (j * 31 + r) v (h3.trans hr)
  rwa [← Nat.add_assoc] at this
section
variable (TL TD : TypeId) (base : Nat)
abbrev ucx (T : TypeId) : Prop := T = 3 ∨ T = 4 ∨ T = 34 ∨ T = 95
def LookBlk (w : World) (b : Nat) : Prop := ∃ cur T, w.heap[b]? = some (.cells cur T (0, 0)) ∧ T ≠ TL ∧ T ≠ TD ∧ ucx T
def LookG (w : World) (b : Nat) : Prop := base ≤ b ∧ LookBlk TL TD w b
inductive LyO (w : World) : List Value → Ly → List Nat → Prop
 | mk (i : Idt) (lk : Lk) (ks : List Ly) (vp vf vb vk : Value) (css : List (List Value)) (fs : List (List Nat)) (hl : LookR (LookG TL TD base w) w lk vp vf vb) (hr : w.ownsRow base TL 31 vk ks.length css.flatten) (hn : css.length = ks.length) (hf : fs.length = ks.length)
     (hk : ∀ (j : Nat) (c : List Value) (k : Ly) (f : List Nat), css[j]? = some c → ks[j]? = some k → fs[j]? = some f → LyO w c k f) (hd : (vk.ownBlock.toList ++ fs.flatten).Nodup) :
     LyO w (lyA i lk vp vf vb vk).toList (.mk i lk ks) (vk.ownBlock.toList ++ fs.flatten)
end
variable {TL TD : TypeId} {base : Nat}
theorem LookBlk.mod {S : Nat → Prop} {w w' : World} {b : Nat} (h : LookBlk TL TD w b) (hm : Mod S w w') (hS : ¬ S b) : LookBlk TL TD w' b := by
 obtain ⟨cur, T, h1, h2⟩ := h
 exact ⟨cur, T, Blk.mod h1 hm hS, h2⟩
theorem LookR.look_mod {S : Nat → Prop} {w w' : World} {l : Lk} {vp vf vb : Value} (h : LookR (LookG TL TD base w) w l vp vf vb) (hm : Mod S w w') (hS : ∀ k, base ≤ k → LookBlk TL TD w k → ¬ S k) : LookR (LookG TL TD base w') w' l vp vf vb :=
 (h.imp (G' := fun b => LookG TL TD base w b ∧ LookG TL TD base w' b) (fun k _ hk => ⟨hk, hk.1, hk.2.mod hm (hS k hk.1 hk.2)⟩)).mod hm (fun k _ hk => hS k hk.1.1 hk.1.2) |>.imp (fun k _ hk => hk.2)
theorem LyO.len {w : World} {c : List Value} {T : Ly} {F : List Nat} (h : LyO TL TD base w c T F) : c.length = 31 := by cases h; rfl
theorem LyO.mod {S : Nat → Prop} {w w' : World} {c : List Value} {T : Ly} {F : List Nat} (h : LyO TL TD base w c T F) (hm : Mod S w w') (hF : ∀ k ∈ F, ¬ S k) (hS : ∀ k, base ≤ k → LookBlk TL TD w k → ¬ S k) : LyO TL TD base w' c T F := by
 induction h with
 | mk i lk ks vp vf vb vk css fs hl hr hn hf hk hd ih =>
  refine .mk i lk ks vp vf vb vk css fs (hl.look_mod hm hS) (uac hr hm (fun k hk => hF k ?_)) hn hf (fun j c k f h1 h2 h3 => ih j c k f h1 h2 h3 (fun b hb => hF b ?_)) hd
  ·rw [hk]; simp
  ·exact List.mem_append_right _ (List.mem_flatten.2 ⟨f, lmG h3, hb⟩)
theorem LyO.up {w w' : World} {c : List Value} {T : Ly} {F : List Nat} (h : LyO TL TD base w c T F) (hm : Mod (fun _ => False) w w') : LyO TL TD base w' c T F := h.mod hm (fun _ _ h => h) (fun _ _ _ h => h)
theorem LyO.low {w : World} {c : List Value} {T : Ly} {F : List Nat} {base' : Nat} (h : LyO TL TD base w c T F) (hb : base' ≤ base) : LyO TL TD base' w c T F := by
 induction h with
 | mk i lk ks vp vf vb vk css fs hl hr hn hf hk hd ih =>
  exact .mk i lk ks vp vf vb vk css fs (hl.imp (fun k _ hk => ⟨Nat.le_trans hb hk.1, hk.2⟩)) (uaj hr hb) hn hf ih hd
theorem LyO.nodup {w : World} {c : List Value} {T : Ly} {F : List Nat} (h : LyO TL TD base w c T F) : F.Nodup := by cases h; assumption
theorem uar {w : World} {e : TypeId} {k n b : Nat} {v : Value} {xs : List Value} (h : w.ownsRow base e k v n xs) (hb : v.ownBlock = some b) : base ≤ b ∧ b < w.heap.size ∧ ∃ cur cap, Blk w b e cur ∧ v = .slice (some ⟨b, 0, none⟩) n cap ∧ n ≤ cap ∧ cur.size = cap * k ∧ cur.toList.take (n * k) = xs := by
 rcases h.2 with ⟨rfl, _⟩ | ⟨g, cap, cur, rfl, h1, h2, h3, h4, h5, h6⟩
 ·cases hb
 ·cases hb
  exact ⟨h1, Blk.lt h2, cur, cap, h2, rfl, h3, h5, h6⟩
theorem LyO.rows {w : World} {c : List Value} {T : Ly} {F : List Nat} (h : LyO TL TD base w c T F) : ∀ b ∈ F, base ≤ b ∧ b < w.heap.size ∧ ∃ cur, Blk w b TL cur := by
 induction h with
 | mk i lk ks vp vf vb vk css fs hl hr hn hf hk hd ih =>
  intro b hb
  rw [List.mem_append] at hb
  rcases hb with hb | hb
  ·cases ho : vk.ownBlock with
   | none => rw [ho] at hb; simp at hb
   | some g =>
    rw [ho] at hb
    simp at hb
    subst hb
    obtain ⟨h1, h2, cur, cap, h3, _⟩ := uar hr ho
    exact ⟨h1, h2, cur, h3⟩
  ·obtain ⟨f, h1, h2⟩ := List.mem_flatten.1 hb
   obtain ⟨j, hj⟩ := List.mem_iff_getElem?.1 h1
   have hj' := (lgS.1 hj).1
   exact ih j css[j] ks[j] f (lgE (by omega)) (lgE (by omega)) hj b h2
theorem LyO.reads {w : World} {c : List Value} {T : Ly} {F : List Nat} (h : LyO TL TD base w c T F) : LyR (fun b => base ≤ b) w c T := by
 induction h with
 | mk i lk ks vp vf vb vk css fs hl hr hn hf hk hd ih =>
  refine .mk i lk ks vp vf vb vk css (hl.imp (fun _ _ h => h.1)) (RowG.of_own hr) hn (fun j c k h1 h2 => ?_)
  have hj := (lgS.1 h1).1
  exact ih j c k fs[j] h1 h2 (lgE (by omega))
theorem LyO.lens {w : World} {css : List (List Value)} {ks : List Ly} {fs : List (List Nat)} (hn : css.length = ks.length) (hf : fs.length = ks.length)
 (hk : ∀ (j : Nat) (c : List Value) (k : Ly) (f : List Nat), css[j]? = some c → ks[j]? = some k → fs[j]? = some f → LyO TL TD base w c k f) : ∀ c ∈ css, c.length = 31 := fun c hc => by
 obtain ⟨j, hj⟩ := List.mem_iff_getElem?.1 hc
 have h1 := (lgS.1 hj).1
 exact (hk j c ks[j] fs[j] hj (lgE (by omega)) (lgE (by omega))).len
structure TreeAt (TL TD : TypeId) (base : Nat) (w : World) (b o : Nat) (T : Ly) (F : List Nat) : Prop where
 lies : ∃ c cur TT, LyO TL TD base w c T F ∧ Blk w b TT cur ∧ (TT = TL ∨ TT = TD) ∧ ∀ j, j < 31 → cur[o + j]? = c[j]?
 ge : base ≤ b
 out : b ∉ F
theorem TreeAt.mod {S : Nat → Prop} {w w' : World} {b o : Nat} {T : Ly} {F : List Nat} (h : TreeAt TL TD base w b o T F) (hm : Mod S w w') (hb : ¬ S b) (hF : ∀ k ∈ F, ¬ S k) (hS : ∀ k, base ≤ k → LookBlk TL TD w k → ¬ S k) : TreeAt TL TD base w' b o T F := by
 obtain ⟨⟨c, cur, TT, h1, h2, h3, h4⟩, h5, h6⟩ := h
 exact ⟨⟨c, cur, TT, h1.mod hm hF hS, Blk.mod h2 hm hb, h3, h4⟩, h5, h6⟩
theorem TreeAt.up {w w' : World} {b o : Nat} {T : Ly} {F : List Nat} (h : TreeAt TL TD base w b o T F) (hm : Mod (fun _ => False) w w') : TreeAt TL TD base w' b o T F := h.mod hm (fun h => h) (fun _ _ h => h) (fun _ _ _ h => h)
theorem TreeAt.lt {w : World} {b o : Nat} {T : Ly} {F : List Nat} (h : TreeAt TL TD base w b o T F) : b < w.heap.size := by
 obtain ⟨⟨c, cur, TT, h1, h2, h3, h4⟩, h5, h6⟩ := h
 exact Blk.lt h2
theorem TreeAt.notLook {w : World} {b o : Nat} {T : Ly} {F : List Nat} (h : TreeAt TL TD base w b o T F) : ¬ LookBlk TL TD w b := by
 obtain ⟨⟨c, cur, TT, h1, h2, h3, h4⟩, h5, h6⟩ := h
 rintro ⟨cur', T', g1, g2, g3⟩
 unfold Blk at h2
 rw [h2] at g1
 simp only [Option.some.injEq, Obj.cells.injEq] at g1
 obtain ⟨-, rfl, -⟩ := g1
 rcases h3 with h3 | h3
 ·exact g2 h3
 ·exact g3.1 h3
theorem LyO.notLook {w : World} {c : List Value} {T : Ly} {F : List Nat} (h : LyO TL TD base w c T F) {b : Nat} (hb : b ∈ F) : ¬ LookBlk TL TD w b := by
 obtain ⟨_, _, cur, h2⟩ := h.rows b hb
 rintro ⟨cur', T', g1, g2, g3⟩
 unfold Blk at h2
 rw [h2] at g1
 simp only [Option.some.injEq, Obj.cells.injEq] at g1
 exact g2 g1.2.1.symm
structure Frm (w w2 : World) (b' o' : Nat) (F' : List Nat) (N : Nat → Prop) : Prop where
 mod : Mod (fun x => x = b' ∨ x ∈ F' ∨ N x) w w2
 cells : ∃ cur cur2 TT, Blk w b' TT cur ∧ Blk w2 b' TT cur2 ∧ cur2.size = cur.size ∧ ∀ j, (j < o' ∨ o' + 31 ≤ j) → cur2[j]? = cur[j]?
def At (w : World) : Nat → Nat → List Nat → Nat → Nat → Prop
 | b, o, [], b', o' => b' = b ∧ o' = o
 | b, o, i :: π, b', o' => ∃ g n cap, w.cell? ⟨b, o + 30, none⟩ = some (.slice (some ⟨g, 0, none⟩) n cap) ∧ At w g (i * 31) π b' o'
theorem At.one {w : World} : ∀ {π : List Nat} {b o b1 o1 b2 o2 : Nat}, At w b o π b1 o1 → At w b o π b2 o2 → b1 = b2 ∧ o1 = o2
 | [], _, _, _, _, _, _, h1, h2 => by
  obtain ⟨rfl, rfl⟩ := h1
  obtain ⟨rfl, rfl⟩ := h2
  exact ⟨rfl, rfl⟩
 | i :: π, b, o, b1, o1, b2, o2, h1, h2 => by
  obtain ⟨g, n, c, e1, h1⟩ := h1
  obtain ⟨g', n', c', e2, h2⟩ := h2
  rw [e1] at e2
  simp only [Option.some.injEq, Value.slice.injEq, Addr.mk.injEq, true_and, and_true] at e2
  obtain ⟨rfl, -, -⟩ := e2
  exact At.one h1 h2
theorem At.up {w w' : World} (hm : Mod (fun _ => False) w w') : ∀ {π : List Nat} {b o b1 o1 : Nat}, At w b o π b1 o1 → At w' b o π b1 o1
 | [], _, _, _, _, h1 => h1
 | i :: π, b, o, b1, o1, h1 => by
  obtain ⟨g, n, c, e1, h1⟩ := h1
  exact ⟨g, n, c, (hm.cell (p := ⟨b, o + 30, none⟩) (wbc _ _ e1) (fun h => h)).trans e1, At.up hm h1⟩
structure Zoom (TL TD : TypeId) (base : Nat) (w : World) (b o : Nat) (T : Ly) (F : List Nat) (π : List Nat) (s : Ly) (b' o' : Nat) (F' : List Nat) : Prop where
 sub : TreeAt TL TD base w b' o' s F'
 blk : (b' = b ∧ o' = o) ∨ b' ∈ F
 rows : ∀ x ∈ F', x ∈ F
 put : ∀ (w2 : World) (s2 : Ly) (F2 : List Nat) (N : Nat → Prop), TreeAt TL TD base w2 b' o' s2 F2 → Frm w w2 b' o' F' N → (∀ x ∈ F2, x ∈ F' ∨ (x ∉ F ∧ x ≠ b)) → (∀ x, N x → x ∉ F ∧ x ≠ b ∧ (base ≤ x → ¬ LookBlk TL TD w x)) →
     ∃ F3, TreeAt TL TD base w2 b o (T.put π s2) F3 ∧ ∀ x ∈ F3, x ∈ F2 ∨ (x ∈ F ∧ x ∉ F')
 get : T.get? π = some s
 at2 : ∀ (w2 : World) (N : Nat → Prop), Frm w w2 b' o' F' N → (∀ x, N x → x ∉ F ∧ x ≠ b) → At w2 b o π b' o'
theorem Zoom.here {w : World} {b o : Nat} {T : Ly} {F : List Nat} (h : TreeAt TL TD base w b o T F) : Zoom TL TD base w b o T F [] T b o F :=
 ⟨h, .inl ⟨rfl, rfl⟩, fun _ h => h, fun w2 s2 F2 N h2 _ _ _ => ⟨F2, h2, fun _ h => .inl h⟩, by cases T; rfl, fun _ _ _ _ => ⟨rfl, rfl⟩⟩
structure TreeD (TL TD : TypeId) (base : Nat) (w : World) (b o : Nat) (T : Ly) (F : List Nat) (vp vf vb vk : Value) (css : List (List Value)) (fs : List (List Nat)) (cur : Array Value) (TT : TypeId) : Prop where
 h1 : Blk w b TT cur
 h2 : TT = TL ∨ TT = TD
 h3 : ∀ j, j < 31 → cur[o + j]? = (lyA T.id T.look vp vf vb vk)[j]?
 h4 : LookR (LookG TL TD base w) w T.look vp vf vb
 h5 : w.ownsRow base TL 31 vk T.kids.length css.flatten
 h6 : css.length = T.kids.length
 h7 : fs.length = T.kids.length
 h8 : ∀ (j : Nat) (c : List Value) (k : Ly) (f : List Nat), css[j]? = some c → T.kids[j]? = some k → fs[j]? = some f → LyO TL TD base w c k f
 h9 : F = vk.ownBlock.toList ++ fs.flatten
 h10 : F.Nodup
 ge : base ≤ b
 out : b ∉ F
theorem TreeAt.open {w : World} {b o : Nat} {T : Ly} {F : List Nat} (h : TreeAt TL TD base w b o T F) :
 ∃ (vp vf vb vk : Value) (css : List (List Value)) (fs : List (List Nat)) (cur : Array Value) (TT : TypeId), TreeD TL TD base w b o T F vp vf vb vk css fs cur TT := by
 obtain ⟨⟨c, cur, TT, h1, h2, h3, h4⟩, h5, h6⟩ := h
 cases h1 with
 | mk i lk ks vp vf vb vk css fs hl hr hn hf hk hd => exact ⟨vp, vf, vb, vk, css, fs, cur, TT, h2, h3, fun j hj => by rw [h4 j hj, agT]; rfl, hl, hr, hn, hf, hk, rfl, hd, h5, h6⟩
theorem TreeD.tree {w : World} {b o : Nat} {T : Ly} {F : List Nat} {vp vf vb vk : Value} {css : List (List Value)} {fs : List (List Nat)} {cur : Array Value} {TT : TypeId} (h : TreeD TL TD base w b o T F vp vf vb vk css fs cur TT) : TreeAt TL TD base w b o T F := by
 obtain ⟨i, lk, ks⟩ := T
 obtain ⟨h1, h2, h3, h4, h5, h6, h7, h8, h9, h10, h11, h12⟩ := h
 subst h9
 exact ⟨⟨_, cur, TT, LyO.mk i lk ks vp vf vb vk css fs h4 h5 h6 h7 h8 h10, h1, h2, fun j hj => by rw [h3 j hj, agT]; rfl⟩, h11, h12⟩
theorem TreeD.up {w w' : World} {b o : Nat} {T : Ly} {F : List Nat} {vp vf vb vk : Value} {css : List (List Value)} {fs : List (List Nat)} {cur : Array Value} {TT : TypeId} (h : TreeD TL TD base w b o T F vp vf vb vk css fs cur TT) (hm : Mod (fun _ => False) w w') : TreeD TL TD base w' b o T F vp vf vb vk css fs cur TT :=
 ⟨Blk.mod h.h1 hm (fun h => h), h.h2, h.h3, h.h4.look_mod hm (fun _ _ _ h => h), uac h.h5 hm (fun _ _ h => h), h.h6, h.h7, fun j c k f a1 a2 a3 => (h.h8 j c k f a1 a2 a3).up hm, h.h9, h.h10, h.ge, h.out⟩
theorem mem_fs {vk : Value} {fs : List (List Nat)} {i : Nat} {f : List Nat} {g : Nat} (hd : (vk.ownBlock.toList ++ fs.flatten).Nodup) (hf : fs[i]? = some f) (hg : vk.ownBlock = some g) :
 g ∉ f ∧ f.Nodup ∧ ∀ j f', j ≠ i → fs[j]? = some f' → (∀ x ∈ f, x ∉ f') ∧ g ∉ f' := by
 rw [hg] at hd
 simp only [Option.toList_some, List.singleton_append, List.nodup_cons] at hd
 obtain ⟨h1, h2⟩ := hd
 have key : ∀ (j : Nat) (f' : List Nat), fs[j]? = some f' → g ∉ f' := fun j f' hj hx => h1 (List.mem_flatten.2 ⟨f', lmG hj, hx⟩)
 refine ⟨key i f hf, ?_, fun j f' hj hjf => ⟨?_, key j f' hjf⟩⟩
 ·exact (List.pairwise_flatten.1 h2).1 f (lmG hf)
 ·have h3 := (List.pairwise_flatten.1 h2).2
  intro x hx hx'
  rw [List.pairwise_iff_getElem] at h3
  obtain ⟨li, ei⟩ := lgS.1 hf
  obtain ⟨lj, ej⟩ := lgS.1 hjf
  rcases Nat.lt_or_gt_of_ne hj with hlt | hlt
  ·have := h3 j i lj li hlt
   rw [ei, ej] at this
   exact this x hx' x hx rfl
  ·have := h3 i j li lj hlt
   rw [ei, ej] at this
   exact this x hx x hx' rfl
theorem nodup_set {fs : List (List Nat)} {i : Nat} {f f2 : List Nat} (hi : fs[i]? = some f) (h : fs.flatten.Nodup) (h2 : f2.Nodup) (hx : ∀ x ∈ f2, x ∈ f ∨ x ∉ fs.flatten) : (fs.set i f2).flatten.Nodup ∧ ∀ x ∈ (fs.set i f2).flatten, x ∈ f2 ∨ (x ∈ fs.flatten ∧ x ∉ f) := by
 induction fs generalizing i with
 | nil => simp at hi
 | cons a fs ih =>
  rw [List.flatten_cons, List.nodup_append] at h
  obtain ⟨h3, h4, h5⟩ := h
  cases i with
  | zero =>
   simp at hi
   subst hi
   rw [List.set_cons_zero, List.flatten_cons, List.nodup_append]
   refine ⟨⟨h2, h4, fun x hx1 y hy e => ?_⟩, fun x hx => ?_⟩
   ·subst e
    rcases hx x hx1 with hx2 | hx2
    ·exact h5 x hx2 x hy rfl
    ·exact hx2 (by rw [List.flatten_cons]; exact List.mem_append_right _ hy)
   ·rw [List.mem_append] at hx
    rcases hx with hx | hx
    ·exact .inl hx
    ·exact .inr ⟨by rw [List.flatten_cons]; exact List.mem_append_right _ hx, fun h => h5 x h x hx rfl⟩
  | succ i =>
   rw [List.getElem?_cons_succ] at hi
   have hm : ∀ x ∈ f, x ∈ fs.flatten := fun x hx => List.mem_flatten.2 ⟨f, lmG hi, hx⟩
   obtain ⟨g1, g2⟩ := ih hi h4 (fun x hxx => by
    rcases hx x hxx with hx2 | hx2
    ·exact .inl hx2
    ·exact .inr (fun hh => hx2 (by rw [List.flatten_cons]; exact List.mem_append_right _ hh)))
   rw [List.set_cons_succ, List.flatten_cons, List.nodup_append]
   refine ⟨⟨h3, g1, fun x hx1 y hy e => ?_⟩, fun x hxx => ?_⟩
   ·subst e
    rcases g2 x hy with hx2 | hx2
    ·rcases hx x hx2 with hx3 | hx3
     ·exact h5 x hx1 x (hm x hx3) rfl
     ·exact hx3 (by rw [List.flatten_cons]; exact List.mem_append_left _ hx1)
    ·exact h5 x hx1 x hx2.1 rfl
   ·rw [List.mem_append] at hxx
    rw [List.flatten_cons, List.mem_append]
    rcases hxx with hxx | hxx
    ·exact .inr ⟨.inl hxx, fun h => h5 x hxx x (hm x h) rfl⟩
    ·rcases g2 x hxx with hx2 | hx2
     ·exact .inl hx2
     ·exact .inr ⟨.inr hx2.1, hx2.2⟩
theorem uh6 {w w2 : World} {g n cap : Nat} {cur cur2 : Array Value} {css : List (List Value)} {i : Nat} {c2 : List Value} (h31 : ∀ c ∈ css, c.length = 31) (hn : css.length = n) (hr : w.ownsRow base TL 31 (.slice (some ⟨g, 0, none⟩) n cap) n css.flatten)
 (h1 : Blk w g TL cur) (h2 : Blk w2 g TL cur2) (hs : cur2.size = cur.size) (ho : ∀ j, (j < i * 31 ∨ i * 31 + 31 ≤ j) → cur2[j]? = cur[j]?) (hi : i < n) (hc : c2.length = 31) (hin : ∀ j, j < 31 → cur2[i * 31 + j]? = c2[j]?) :
 w2.ownsRow base TL 31 (.slice (some ⟨g, 0, none⟩) n cap) n (css.set i c2).flatten := by
 obtain ⟨g1, g2, cur', cap', g3, g4, g5, g6, g7⟩ := uar hr rfl
 have g8 : cap ≤ maxLen := by
  rcases hr.2 with ⟨hv, _⟩ | ⟨_, _, _, hv, _, _, _, h4, _⟩
  ·cases hv
  ·simp only [Value.slice.injEq] at hv
   obtain ⟨-, -, rfl⟩ := hv
   exact h4
 simp only [Value.slice.injEq, true_and] at g4
 subst g4
 unfold Blk at h1 g3
 rw [h1] at g3
 simp only [Option.some.injEq, Obj.cells.injEq] at g3
 obtain ⟨rfl, -, -⟩ := g3
 have h32 : ∀ c ∈ css.set i c2, c.length = 31 := fun c hc' => by
  rcases List.mem_or_eq_of_mem_set hc' with hc' | rfl
  ·exact h31 c hc'
  ·exact hc
 have hcap : n * 31 ≤ cap * 31 := Nat.mul_le_mul_right _ g5
 refine ⟨by rw [ui2 h32, List.length_set, hn], .inr ⟨g, cap, cur2, rfl, g1, h2, g5, g8, by rw [hs, g6], ?_⟩⟩
 apply flat_eq h32
 ·rw [List.length_take, List.length_set, hn, Array.length_toList, hs, g6]
  omega
 ·intro j c hj r hr'
  have hjl := (lgS.1 hj).1
  rw [List.length_set, hn] at hjl
  rw [List.getElem?_take, if_pos (by omega), agT]
  by_cases hji : j = i
  ·subst hji
   rw [List.getElem?_set_self (by omega)] at hj
   cases hj
   exact hin r hr'
  ·rw [List.getElem?_set_ne (fun e => hji e.symm)] at hj
   rw [ho _ (by omega)]
   have := udb h31 j r hr'
   rw [hj, ← g7, List.getElem?_take, if_pos (by omega), agT] at this
   exact this
theorem TreeD.kid {w : World} {b o : Nat} {T : Ly} {F : List Nat} {vp vf vb vk : Value} {css : List (List Value)} {fs : List (List Nat)} {cur : Array Value} {TT : TypeId} (h : TreeD TL TD base w b o T F vp vf vb vk css fs cur TT) {p : Option Addr} {cap : Nat} (hvk : vk = .slice p T.kids.length cap)
 {i : Nat} {k : Ly} (hi : T.kids[i]? = some k) : ∃ g f, p = some ⟨g, 0, none⟩ ∧ fs[i]? = some f ∧ TreeAt TL TD base w g (i * 31) k f ∧ g ∈ F ∧ (∀ x ∈ f, x ∈ F) ∧
     ∀ π s b' o' F', Zoom TL TD base w g (i * 31) k f π s b' o' F' → Zoom TL TD base w b o T F (i :: π) s b' o' F' := by
 subst hvk
 have hT := h.tree
 obtain ⟨h1, h2, h3, h4, h5, h6, h7, h8, h9, h10, h11, h12⟩ := h
 have hil := (lgS.1 hi).1
 have h31 := LyO.lens h6 h7 h8
 rcases h5.2 with ⟨hv, h0⟩ | ⟨g, cap', cur', hv, _, hg, _⟩
 ·omega
 simp only [Value.slice.injEq, true_and] at hv
 obtain ⟨rfl, rfl⟩ := hv
 obtain ⟨gb, gl, cur', cap', g3, g4, g5, g6, g7⟩ := uar h5 (b := g) rfl
 simp only [Value.slice.injEq, true_and] at g4
 subst g4
 have hci : css[i]? = some css[i] := lgE (by omega)
 have hfi : fs[i]? = some fs[i] := lgE (by omega)
 have hk := h8 i _ k _ hci hi hfi
 obtain ⟨d1, d2, d3⟩ := mem_fs (h9 ▸ h10) hfi rfl
 have hgF : g ∈ F := by rw [h9]; simp [Value.ownBlock]
 have hfF : ∀ x ∈ fs[i], x ∈ F := fun x hx => by rw [h9]; exact List.mem_append_right _ (List.mem_flatten.2 ⟨_, lgM _, hx⟩)
 have hn31 : T.kids.length * 31 ≤ cap * 31 := Nat.mul_le_mul_right _ g5
 have hcells : ∀ j, j < 31 → cur'[i * 31 + j]? = (css[i])[j]? := fun j hj => by
  have := udb h31 i j hj
  rw [hci, ← g7, List.getElem?_take, if_pos (by omega), agT] at this
  exact this
 have htree : TreeAt TL TD base w g (i * 31) k fs[i] := ⟨⟨css[i], cur', TL, hk, g3, .inl rfl, hcells⟩, gb, d1⟩
 refine ⟨g, fs[i], rfl, hfi, htree, hgF, hfF, ?_⟩
 intro π s b' o' F' hz
 have hbb : b ∉ F := hT.out
 have hb'F : b' ∈ F := by
  rcases hz.blk with ⟨rfl, -⟩ | hb
  ·exact hgF
  ·exact hfF _ hb
 have hF'F : ∀ x ∈ F', x ∈ F := fun x hx => hfF x (hz.rows x hx)
 refine ⟨hz.sub, .inr hb'F, hF'F, fun w2 s2 F2 N t2 fr hF2 hN => ?_, by rw [Ly.get?, hi]; exact hz.get, fun w2 N fr hN => ⟨g, T.kids.length, cap, ?_, hz.at2 w2 N fr (fun x hx => ⟨fun hf => (hN x hx).1 (hfF x hf), fun e => (hN x hx).1 (e ▸ hgF)⟩)⟩⟩
 rotate_left
 ·have hbS : ¬ (b = b' ∨ b ∈ F' ∨ N b) := by
   rintro (rfl | hh | hh)
   ·exact hbb hb'F
   ·exact hbb (hF'F b hh)
   ·exact (hN b hh).2 rfl
  have c30 : w.cell? ⟨b, o + 30, none⟩ = some (.slice (some ⟨g, 0, none⟩) T.kids.length cap) := by rw [cell_of_row w b (o + 30) cur TT _ h1, h3 30 (by omega)]; rfl
  exact (fr.mod.cell (p := ⟨b, o + 30, none⟩) (Blk.lt h1) hbS).trans c30
 obtain ⟨F3, t3, hF3⟩ := hz.put w2 s2 F2 N t2 fr (fun x hx => (hF2 x hx).imp id fun hh => ⟨fun hf => hh.1 (hfF x hf), fun e => hh.1 (e ▸ hgF)⟩) (fun x hx => ⟨fun hf => (hN x hx).1 (hfF x hf), fun e => (hN x hx).1 (e ▸ hgF), (hN x hx).2.2⟩)
 have hsib : ∀ (j : Nat) (f' : List Nat), j ≠ i → fs[j]? = some f' → ∀ x ∈ f', ¬ (x = b' ∨ x ∈ F' ∨ N x) := fun j f' hj hf x hx => by
  obtain ⟨e1, e2⟩ := d3 j f' hj hf
  have hxF : x ∈ F := by rw [h9]; exact List.mem_append_right _ (List.mem_flatten.2 ⟨f', lmG hf, hx⟩)
  rintro (rfl | hh | hh)
  ·rcases hz.blk with ⟨rfl, -⟩ | hb
   ·exact e2 hx
   ·exact e1 _ hb hx
  ·exact e1 x (hz.rows x hh) hx
  ·exact (hN x hh).1 hxF
 have hlook : ∀ x, base ≤ x → LookBlk TL TD w x → ¬ (x = b' ∨ x ∈ F' ∨ N x) := fun x hx hl => by
  rintro (rfl | hh | hh)
  ·exact hz.sub.notLook hl
  ·obtain ⟨⟨c, cc, TT', u1, _⟩, _, _⟩ := hz.sub
   exact u1.notLook hh hl
  ·exact (hN x hh).2.2 hx hl
 have hbS : ¬ (b = b' ∨ b ∈ F' ∨ N b) := by
  rintro (rfl | hh | hh)
  ·exact hbb hb'F
  ·exact hbb (hF'F b hh)
  ·exact (hN b hh).2.1 rfl
 -- the row's block behind the change
 obtain ⟨⟨c3, cur3, TT3, u1, u2, u3, u4⟩, u5, u6⟩ := t3
 have hrow : ∃ cur2, Blk w2 g TL cur2 ∧ cur2.size = cur'.size ∧ ∀ j, (j < i * 31 ∨ i * 31 + 31 ≤ j) → cur2[j]? = cur'[j]? := by
  by_cases hgb : b' = g
  ·have ho : o' = i * 31 := by
    rcases hz.blk with hh | hh
    ·exact hh.2
    ·exact absurd (hgb ▸ hh) d1
   obtain ⟨cA, cB, TT', v1, v2, v3, v4⟩ := fr.cells
   rw [hgb] at v1 v2
   unfold Blk at v1 g3
   rw [g3] at v1
   simp only [Option.some.injEq, Obj.cells.injEq] at v1
   obtain ⟨rfl, rfl, -⟩ := v1
   exact ⟨cB, v2, v3, fun j hj => v4 j (by omega)⟩
  ·refine ⟨cur', Blk.mod g3 fr.mod ?_, rfl, fun _ _ => rfl⟩
   rintro (rfl | hh | hh)
   ·exact hgb rfl
   ·exact d1 (hz.rows g hh)
   ·exact (hN g hh).1 hgF
 obtain ⟨cur2, r1, r2, r3⟩ := hrow
 have hcc : cur3 = cur2 := by
  unfold Blk at u2 r1
  rw [u2] at r1
  simp only [Option.some.injEq, Obj.cells.injEq] at r1
  exact r1.1
 subst hcc
 have hown := uh6 (base := base) (TL := TL) h31 h6 h5 g3 r1 r2 r3 hil u1.len u4
 have hnd := nodup_set hfi (List.nodup_append.1 (h9 ▸ h10)).2.1 u1.nodup (fun x hx => by
  rcases hF3 x hx with hx | hx
  ·rcases hF2 x hx with hx | hx
   ·exact .inl (hz.rows x hx)
   ·exact .inr (fun hh => hx.1 (by rw [h9]; exact List.mem_append_right _ hh))
  ·exact .inl hx.1)
 have hgN : g ∉ (fs.set i F3).flatten := fun hh => by
  rcases hnd.2 g hh with hh | hh
  ·exact u6 hh
  ·exact (List.nodup_append.1 (h9 ▸ h10)).2.2 g (by simp [Value.ownBlock]) g hh.1 rfl
 refine ⟨g :: (fs.set i F3).flatten, ⟨⟨(lyA T.id T.look vp vf vb (.slice (some ⟨g, 0, none⟩) T.kids.length cap)).toList, cur, TT, ?_, Blk.mod h1 fr.mod hbS, h2, fun j hj => by rw [h3 j hj, agT]⟩, hT.ge, ?_⟩, ?_⟩
 ·have hkk : T.put (i :: π) s2 = .mk T.id T.look (T.kids.set i (k.put π s2)) := by
   rw [Ly.put, hi]
  rw [hkk]
  refine LyO.mk T.id T.look (T.kids.set i (k.put π s2)) vp vf vb (.slice (some ⟨g, 0, none⟩) T.kids.length cap) (css.set i c3) (fs.set i F3) (h4.look_mod fr.mod hlook) (by rw [List.length_set]; exact hown) (by simp [h6]) (by simp [h7]) ?_ ?_
  ·intro j c k' f hc hk' hf
   by_cases hji : i = j
   ·subst hji
    rw [List.getElem?_set_self (by omega)] at hc hk' hf
    cases hc
    cases hk'
    cases hf
    exact u1
   ·rw [List.getElem?_set_ne hji] at hc hk' hf
    exact (h8 j c k' f hc hk' hf).mod fr.mod (hsib j f (fun e => hji e.symm) hf) hlook
  ·simp only [Value.ownBlock, Option.toList_some, List.singleton_append, List.nodup_cons]
   exact ⟨hgN, hnd.1⟩
 ·rw [List.mem_cons, not_or]
  refine ⟨fun e => hbb (e ▸ hgF), fun hh => ?_⟩
  rcases hnd.2 b hh with hh | hh
  ·rcases hF3 b hh with hh | hh
   ·rcases hF2 b hh with hh | hh
    ·exact hbb (hF'F b hh)
    ·exact hh.2 rfl
   ·exact hbb (hfF b hh.1)
  ·exact hbb (by rw [h9]; exact List.mem_append_right _ hh.1)
 ·intro x hx
  rw [List.mem_cons] at hx
  rcases hx with rfl | hx
  ·exact .inr ⟨hgF, fun hh => d1 (hz.rows _ hh)⟩
  ·rcases hnd.2 x hx with hx | hx
   ·rcases hF3 x hx with hx | hx
    ·exact .inl hx
    ·exact .inr ⟨hfF x hx.1, hx.2⟩
   ·exact .inr ⟨by rw [h9]; exact List.mem_append_right _ hx.1, fun hh => hx.2 (hz.rows x hh)⟩
theorem TreeAt.kids {w : World} {b o : Nat} {T : Ly} {F : List Nat} (h : TreeAt TL TD base w b o T F) :
 ∃ (p : Option Addr) (cap : Nat), w.cell? ⟨b, o + 30, none⟩ = some (.slice p T.kids.length cap) ∧ w.cell? ⟨b, o, none⟩ = some (iV T.id.1) ∧ w.cell? ⟨b, o + 1, none⟩ = some (iV T.id.2) ∧ T.kids.length ≤ cap ∧ cap ≤ maxLen ∧
     ∀ (i : Nat) (k : Ly), T.kids[i]? = some k → ∃ g f, p = some ⟨g, 0, none⟩ ∧ TreeAt TL TD base w g (i * 31) k f ∧ g ∈ F ∧ (∀ x ∈ f, x ∈ F) ∧
         ∀ w', Mod (fun _ => False) w w' → ∀ π s b' o' F', Zoom TL TD base w' g (i * 31) k f π s b' o' F' → Zoom TL TD base w' b o T F (i :: π) s b' o' F' := by
 obtain ⟨vp, vf, vb, vk, css, fs, cur, TT, hd⟩ := h.open
 have hd' := hd
 obtain ⟨h1, h2, h3, h4, h5, h6, h7, h8, h9, h10, h11, h12⟩ := hd
 obtain ⟨p, cap, rfl⟩ := Gou.ownsRow_form h5
 have c30 : w.cell? ⟨b, o + 30, none⟩ = some (.slice p T.kids.length cap) := by rw [cell_of_row w b (o + 30) cur TT _ h1, h3 30 (by omega)]; rfl
 have c0 : w.cell? ⟨b, o, none⟩ = some (iV T.id.1) := by rw [cell_of_row w b o cur TT _ h1, ← Nat.add_zero o, h3 0 (by omega)]; rfl
 have c1 : w.cell? ⟨b, o + 1, none⟩ = some (iV T.id.2) := by rw [cell_of_row w b (o + 1) cur TT _ h1, h3 1 (by omega)]; rfl
 have hcap : T.kids.length ≤ cap ∧ cap ≤ maxLen := by
  rcases h5.2 with ⟨hv, _⟩ | ⟨_, _, _, hv, _, _, h3, h4, _⟩
  ·simp only [Value.slice.injEq] at hv
   obtain ⟨-, hv, rfl⟩ := hv
   rw [hv]
   exact ⟨Nat.le_refl _, Nat.zero_le _⟩
  ·simp only [Value.slice.injEq] at hv
   obtain ⟨-, -, rfl⟩ := hv
   exact ⟨h3, h4⟩
 refine ⟨p, cap, c30, c0, c1, hcap.1, hcap.2, fun i k hi => ?_⟩
 obtain ⟨g, f, e1, e2, e3, e4, e5, e6⟩ := hd'.kid rfl hi
 refine ⟨g, f, e1, e3, e4, e5, fun w' hm => ?_⟩
 obtain ⟨g', f', e1', e2', e3', e4', e5', e6'⟩ := (hd'.up hm).kid rfl hi
 rw [e2] at e2'
 rw [e1] at e1'
 cases e1'
 cases e2'
 exact e6'
theorem Zoom.ex {w : World} : ∀ {π : List Nat} {T s : Ly} {b o : Nat} {F : List Nat}, TreeAt TL TD base w b o T F → T.get? π = some s → ∃ b' o' F', Zoom TL TD base w b o T F π s b' o' F'
 | [], T, s, b, o, F, h, hg => by
  cases hg
  exact ⟨b, o, F, Zoom.here h⟩
 | i :: π, T, s, b, o, F, h, hg => by
  rw [Ly.get?] at hg
  cases hk : T.kids[i]? with
  | none => rw [hk] at hg; cases hg
  | some k =>
   rw [hk] at hg
   obtain ⟨p, cap, _, _, _, _, _, hkk⟩ := h.kids
   obtain ⟨g, f, _, h2, _, _, h5⟩ := hkk i k hk
   obtain ⟨b', o', F', hz⟩ := Zoom.ex h2 hg
   exact ⟨b', o', F', h5 w (Mod.refl _ _) π s b' o' F' hz⟩
theorem Frm.refl {w : World} {b o : Nat} {T : Ly} {F : List Nat} (h : TreeAt TL TD base w b o T F) : Frm w w b o F (fun _ => False) := by
 obtain ⟨⟨c, cur, TT, h1, h2, h3, h4⟩, h5, h6⟩ := h
 exact ⟨Mod.refl _ _, cur, cur, TT, h2, h2, rfl, fun _ _ => rfl⟩
theorem Zoom.at_ {w : World} {b o : Nat} {T : Ly} {F : List Nat} {π : List Nat} {s : Ly} {b' o' : Nat} {F' : List Nat} (h : Zoom TL TD base w b o T F π s b' o' F') : At w b o π b' o' :=
 h.at2 w _ (Frm.refl h.sub) (fun x hx => hx.elim)
theorem uhd (c e : Ct) : c = e ↔ c.kind = e.kind ∧ c.box = e.box ∧ c.px = e.px ∧ c.w = e.w ∧ c.h = e.h ∧ c.turn = e.turn ∧ c.pix = e.pix := by
 obtain ⟨a1, a2, a3, a4, a5, a6, a7⟩ := c
 obtain ⟨b1, b2, b3, b4, b5, b6, b7⟩ := e
 simp
theorem rc_eq (a b : Rc) : a = b ↔ a.x0 = b.x0 ∧ a.y0 = b.y0 ∧ a.x1 = b.x1 ∧ a.y1 = b.y1 := by
 obtain ⟨a1, a2, a3, a4⟩ := a
 obtain ⟨b1, b2, b3, b4⟩ := b
 simp
theorem px_eq (a b : Pxl) : a = b ↔ a.p0 = b.p0 ∧ a.p1 = b.p1 ∧ a.p2 = b.p2 ∧ a.p3 = b.p3 := by
 obtain ⟨a1, a2, a3, a4⟩ := a
 obtain ⟨b1, b2, b3, b4⟩ := b
 simp
end Go.Gou
namespace Go.Proofs.YtpbmfalokongfaaGreatDoor
open Go.RowKit Go.Gou
set_option maxRecDepth 100000
theorem info_u8 : (Tryz.prog.info? 5).map (fun i => (i.zero, i.size, i.bytes)) = some (some (.int .u8 0), 1, 1) := by kernel_rfl
theorem size_content : (Tryz.prog.info? 37).map (·.size) = some 13 := by kernel_rfl
theorem uad : (Tryz.prog.info? 42).map (·.size) = some 28 := by kernel_rfl
theorem uaa : (Tryz.prog.info? 45).map (·.size) = some 31 := by kernel_rfl
theorem ued : (Tryz.prog.info? 53).map (·.size) = some 34 := by kernel_rfl
theorem uah : (Tryz.prog.info? 47).map (·.size) = some 33 := by kernel_rfl
theorem ua6 : (Tryz.prog.info? 40).map (·.size) = some 2 := by kernel_rfl
theorem uec : (Tryz.prog.info? 32).map (·.size) = some 4 := by kernel_rfl
theorem uae : (Tryz.prog.info? 28).map (·.size) = some 2 := by kernel_rfl
theorem uaf : (Tryz.prog.info? 30).map (·.size) = some 2 := by kernel_rfl
theorem u8_eq (w : World) (a b : Int) : (Op.equalIn 9999 5 (.int .u8 a) (.int .u8 b)).run Tryz.prog w = .ok (a == b) w := by
 have key : ∀ d : Nat, (Op.equalIn (d + 1) 5 (.int .u8 a) (.int .u8 b)).run Tryz.prog w = .ok (a == b) w := fun d => by
  simp [Op.equalIn, Sem.run_bind, run_underlying Tryz.underlying5]
 exact key 9998
theorem px_neq (x0 x1 x2 x3 y0 y1 y2 y3 : Nat) (w : World) : (binOp .neq 34 (.agg #[.int .u8 (x0 : Nat), .int .u8 (x1 : Nat), .int .u8 (x2 : Nat), .int .u8 (x3 : Nat)]) (.agg #[.int .u8 (y0 : Nat), .int .u8 (y1 : Nat), .int .u8 (y2 : Nat), .int .u8 (y3 : Nat)])).run Tryz.prog w = .ok (.bool (!decide (x0 = y0 ∧ x1 = y1 ∧ x2 = y2 ∧ x3 = y3))) w := by
 have h1 : (Op.equal 34 (.agg #[.int .u8 (x0 : Nat), .int .u8 (x1 : Nat), .int .u8 (x2 : Nat), .int .u8 (x3 : Nat)]) (.agg #[.int .u8 (y0 : Nat), .int .u8 (y1 : Nat), .int .u8 (y2 : Nat), .int .u8 (y3 : Nat)])).run Tryz.prog w = .ok (decide (x0 = y0 ∧ x1 = y1 ∧ x2 = y2 ∧ x3 = y3)) w := by
  show (Op.equalIn (9999 + 1) _ _ _).run _ _ = _
  obtain ⟨iu, hiu, -, -, -⟩ := info_parts info_u8
  rw [run_equalIn_array w 9999 _ _ Tryz.underlying34 hiu]
  have hc : Tryz.prog.cellsOf 5 = 1 := by kernel_rfl
  have hp0 : ∀ (a b c d : Value) (w : World), (part 5 #[a, b, c, d] (0 * 1)).run Tryz.prog w = .ok a w := fun _ _ _ _ _ => by kernel_rfl
  have hp1 : ∀ (a b c d : Value) (w : World), (part 5 #[a, b, c, d] (1 * 1)).run Tryz.prog w = .ok b w := fun _ _ _ _ _ => by kernel_rfl
  have hp2 : ∀ (a b c d : Value) (w : World), (part 5 #[a, b, c, d] (2 * 1)).run Tryz.prog w = .ok c w := fun _ _ _ _ _ => by kernel_rfl
  have hp3 : ∀ (a b c d : Value) (w : World), (part 5 #[a, b, c, d] (3 * 1)).run Tryz.prog w = .ok d w := fun _ _ _ _ _ => by kernel_rfl
  have hr : List.range 4 = [0, 1, 2, 3] := rfl
  rw [hc, hr]
  simp only [Op.eqItems, Sem.run_bind, hp0, hp1, hp2, hp3, u8_eq, Result.andThen_ok, Sem.run_ite, Sem.run_pure]
  by_cases h0 : x0 = y0 <;> by_cases h1 : x1 = y1 <;> by_cases h2 : x2 = y2 <;> by_cases h3 : x3 = y3 <;> simp [h0, h1, h2, h3] <;> omega
 simp only [binOp, Sem.run_bind, h1, Result.andThen_ok, Sem.run_pure]
theorem i64_eq (w : World) (d : Nat) (a b : Int) : (Op.equalIn (d + 1) 3 (iV a) (iV b)).run Tryz.prog w = .ok (a == b) w := by
 simp [Op.equalIn, Sem.run_bind, run_underlying Tryz.underlying3]
theorem uis (a b c d a' b' c' d' : Int) (w : World) : (Op.equal 32 (.agg #[iV a, iV b, iV c, iV d]) (.agg #[iV a', iV b', iV c', iV d'])).run Tryz.prog w = .ok (decide (a = a' ∧ b = b' ∧ c = c' ∧ d = d')) w := by
 show (Op.equalIn (9999 + 1) _ _ _).run _ _ = _
 have hp0 : ∀ (a b c d : Value) (w : World), (part 3 #[a, b, c, d] 0).run Tryz.prog w = .ok a w := fun _ _ _ _ _ => by kernel_rfl
 have hp1 : ∀ (a b c d : Value) (w : World), (part 3 #[a, b, c, d] 1).run Tryz.prog w = .ok b w := fun _ _ _ _ _ => by kernel_rfl
 have hp2 : ∀ (a b c d : Value) (w : World), (part 3 #[a, b, c, d] 2).run Tryz.prog w = .ok c w := fun _ _ _ _ _ => by kernel_rfl
 have hp3 : ∀ (a b c d : Value) (w : World), (part 3 #[a, b, c, d] 3).run Tryz.prog w = .ok d w := fun _ _ _ _ _ => by kernel_rfl
 have he : ∀ (w : World) (a b : Int), (Op.equalIn 9999 3 (iV a) (iV b)).run Tryz.prog w = .ok (a == b) w := fun w a b => i64_eq w 9998 a b
 rw [run_equalIn_struct w 9999 32 _ _ (by kernel_rfl) (by kernel_rfl)]
 simp only [Program.fieldsOf, Tryz.underlying32]
 generalize (9999 : Nat) = dd at *
 simp only [Op.eqFields]
 by_cases h0 : a = a' <;> by_cases h1 : b = b' <;> by_cases h2 : c = c' <;> by_cases h3 : d = d' <;> simp [Sem.run_bind, Sem.run_ite, hp0, hp1, hp2, hp3, he, h0, h1, h2, h3]
theorem id_eql (a b a' b' : Int) (w : World) : (Op.equal 30 (.agg #[iV a, iV b]) (.agg #[iV a', iV b'])).run Tryz.prog w = .ok (decide (a = a' ∧ b = b')) w := by
 show (Op.equalIn (9999 + 1) _ _ _).run _ _ = _
 have hp0 : ∀ (a b : Value) (w : World), (part 3 #[a, b] 0).run Tryz.prog w = .ok a w := fun _ _ _ => by kernel_rfl
 have hp1 : ∀ (a b : Value) (w : World), (part 3 #[a, b] 1).run Tryz.prog w = .ok b w := fun _ _ _ => by kernel_rfl
 have he : ∀ (w : World) (a b : Int), (Op.equalIn 9999 3 (iV a) (iV b)).run Tryz.prog w = .ok (a == b) w := fun w a b => i64_eq w 9998 a b
 rw [run_equalIn_struct w 9999 30 _ _ (by kernel_rfl) (by kernel_rfl)]
 simp only [Program.fieldsOf, Tryz.underlying30]
 generalize (9999 : Nat) = dd at *
 simp only [Op.eqFields]
 by_cases h0 : a = a' <;> by_cases h1 : b = b' <;> simp [Sem.run_bind, Sem.run_ite, hp0, hp1, he, h0, h1]
theorem rect_op (a b : Rc) (w : World) : (binOp .eql 32 (.agg #[iV a.x0, iV a.y0, iV a.x1, iV a.y1]) (.agg #[iV b.x0, iV b.y0, iV b.x1, iV b.y1])).run Tryz.prog w = .ok (.bool (decide (a = b))) w := by
 simp only [binOp, Sem.run_bind, uis, Result.andThen_ok, Sem.run_pure, rc_eq]
theorem udm (a b : Int × Int) (w : World) : (binOp .eql 30 (.agg #[iV a.1, iV a.2]) (.agg #[iV b.1, iV b.2])).run Tryz.prog w = .ok (.bool (decide (a = b))) w := by
 simp only [binOp, Sem.run_bind, id_eql, Result.andThen_ok, Sem.run_pure, Prod.ext_iff]
theorem id_ne (a b : Int × Int) (w : World) : (binOp .neq 30 (.agg #[iV a.1, iV a.2]) (.agg #[iV b.1, iV b.2])).run Tryz.prog w = .ok (.bool (!decide (a = b))) w := by
 simp only [binOp, Sem.run_bind, id_eql, Result.andThen_ok, Sem.run_pure, Prod.ext_iff]
abbrev TreeL (base : Nat) (w : World) (b o : Nat) (T : Ly) (F : List Nat) : Prop := TreeAt 45 77 base w b o T F
abbrev ZoomL (base : Nat) (w : World) (b o : Nat) (T : Ly) (F : List Nat) (π : List Nat) (s : Ly) (b' o' : Nat) (F' : List Nat) : Prop := Zoom 45 77 base w b o T F π s b' o' F'
def FindP (base : Nat) (T : Ly) (x : Idt) (w : World) (b o : Nat) (F : List Nat) (d : Nat) (e : Ending) (w' : World) : Prop := Gou.Mod (fun _ => False) w w' ∧
 (T.pathOf x = none → e = .returned (.tuple #[.pointer none, iV 0])) ∧
 (∀ π, T.pathOf x = some π → ∃ b' o' F' s, e = .returned (.tuple #[.pointer (some ⟨b', o', none⟩), iV ((d + π.length : Nat) : Int)]) ∧ ZoomL base w' b o T F π s b' o' F')
theorem udd (base : Nat) (x : Idt) : ∀ (T : Ly) (w : World) (b o : Nat) (F : List Nat) (d : Nat), TreeL base w b o T F → d + T.height ≤ 1000 →
 Calls Tryz.prog 38 #[.pointer (some ⟨b, o, none⟩), .agg #[iV x.1, iV x.2], iV d] w (FindP base T x w b o F d) := by
 intro T
 induction T using Ly.ind with
 | h i lk ks ih =>
  intro w b o F d hT hd
  obtain ⟨p, cap, c30, c0, c1, hcap, hcap2, hk⟩ := hT.kids
  simp only [Ly.id_mk, Ly.kids_mk] at c0 c1 c30 hk hcap
  have Hk := hd' hk
  have HT := hd' hT
  have Ih := hd' ih
  clear hk hT ih
  go_enter Tryz.func38, Tryz.ntmps38
  go_wp2_with fail
  generalize hW : w.alloc (.cells #[iV x.1, iV x.2] 30) = w1
  have Hm : Hid (Gou.Mod (fun _ => False) w w1) := hd' (hW ▸ Gou.Mod.alloc _ _ _)
  have HX : Hid (Blk w1 w.heap.size 30 #[iV x.1, iV x.2]) := hd' (hW ▸ heap_alloc_new w _)
  have hlt := HT.o.lt
  have c30' := (Hm.o.cell (p := ⟨b, o + 30, none⟩) hlt (fun h => h)).trans c30
  have c0' := (Hm.o.cell (p := ⟨b, o, none⟩) hlt (fun h => h)).trans c0
  have c1' := (Hm.o.cell (p := ⟨b, o + 1, none⟩) hlt (fun h => h)).trans c1
  have x0 := HX.o.cell 0 rfl
  have x1 := HX.o.cell 1 rfl
  clear c0 c1 hW
  obtain ⟨N, hNN⟩ : ∃ N, N = w.heap.size := ⟨_, rfl⟩
  rw [← hNN] at HX x0 x1
  rw [← hNN]
  clear hNN
  have Hid0 := fun (w' : World) => udm i x w'
  by_cases hx : i = x
  ·have e1 : decide (i = x) = true := dqt hx
   rw [e1] at Hid0
   have Hx := hd' hx
   clear hx e1
   go_quiet (fail)
   go_wp2_with fail
   refine bpr (v := .tuple #[.pointer (some ⟨b, o, none⟩), iV ((d : Nat) : Int)]) (by simp [results, Tryz.results38, go_sem]) rfl ?_
   have Hmq := Hm.o.trans' (Gou.Mod.drewN (fun _ => False) w1 nq)
   refine ⟨Hmq, fun h => ?_, fun π h => ?_⟩
   ·rw [Ly.pathOf, if_pos Hx.o] at h
    cases h
   ·rw [Ly.pathOf, if_pos Hx.o] at h
    cases h
    exact ⟨b, o, F, _, rfl, Zoom.here (HT.o.up Hmq)⟩
  ·have e1 : decide (i = x) = false := dqf hx
   rw [e1] at Hid0
   have Hx := hd' hx
   clear hx e1
   go_quiet (fail)
   go_wp2_with fail
   have Hm2 := hd' (Hm.o.trans' (Gou.Mod.drewN (fun _ => False) w1 nq))
   have hN := hd' (HX.o.mod (Gou.Mod.drewN (fun _ => False) w1 nq) (fun h => h))
   clear HX Hm c30' c0' c1' x0 x1
   go_loopw [24] (fun v wr => ∃ j : Nat, v = iV j ∧ j ≤ ks.length ∧ (∀ a ∈ ks.take j, a.pathOf x = none) ∧ Gou.Mod (fun _ => False) w wr ∧ Blk wr N 30 #[iV x.1, iV x.2]) (fun v _ => ks.length - (intOf v).toNat)
   case atStart => exact ⟨0, rfl, by omega, by simp, Hm2.o, hN.out⟩
   case round =>
    obtain ⟨j, rfl, hj, hall, hm, hb⟩ := hrel
    have Hall := hd' hall
    have Hm := hd' hm
    have HB := hd' hb
    clear hall hm hb Hm2 hN
    have hlt' := HT.o.lt
    by_cases hil : j < ks.length
    ·have e1 : decide ((j : Int) < (ks.length : Int)) = true := dqt (by omega)
     obtain ⟨g, f, rfl, hT', hgF, hfF, hzoom⟩ := Hk.o j ks[j] (lgE hil)
     have Hz := hd' hzoom
     have HT' := hd' (hT'.up Hm.o)
     have c30' := (Hm.o.cell (p := ⟨b, o + 30, none⟩) hlt' (fun h => h)).trans c30
     have x0 := HB.o.cell 0 rfl
     have x1 := HB.o.cell 1 rfl
     have hhk : Hid (d + 1 + (ks[j]).height ≤ 1000) := hd' (by
      have := (Ly.heightL_le (n := 1000 - d)).1 (by rw [Ly.height] at hd; omega) ks[j] (lgM hil)
      omega)
     clear hT' hzoom hgF hfF
     have Hkj : Hid (ks[j]? = some ks[j]) := hd' (lgE hil)
     have Hstep : Hid (ks[j].pathOf x = none → ∀ a ∈ ks.take (j + 1), a.pathOf x = none) := hd' (fun h a ha => by
      rw [ltS hil, List.mem_append, List.mem_singleton] at ha
      rcases ha with ha | rfl
      ·exact Hall.o a ha
      ·exact h)
     have Hik : Hid (∀ w', Gou.Mod (fun _ => False) wr w' → Calls Tryz.prog 38 #[.pointer (some ⟨g, j * 31, none⟩), .agg #[iV x.1, iV x.2], iV ((d : Int) + 1)] w' (FindP base ks[j] x w' g (j * 31) f (d + 1))) :=
      hd' (fun w' hw' => Ih.o ks[j] (lgM hil) w' g (j * 31) f (d + 1) (HT'.o.up hw') hhk.out)
     have hwd : IntKind.i64.wrap ((d : Int) + 1) = (d : Int) + 1 := by rw [IntKind.wrap_i64]; have := hhk.out; omega
     have Hjl := hd' hil
     generalize ks[j] = k at *
     cases hp : k.pathOf x with
     | none =>
      have Hp := hd' hp
      clear hp
      go_wp2_with fail
      go_region_held3 (fun w' => (Gou.Mod (fun _ => False) wr w' ∧ w'.cell? ⟨b, o + 30, none⟩ = some (.slice (some ⟨g, 0, none⟩) ks.length cap) ∧ w'.cell? ⟨N, 0, none⟩ = some (iV x.1) ∧ w'.cell? ⟨N, 1, none⟩ = some (iV x.2)))
          (first | exact ⟨Gou.Mod.drew _ _, c30', x0, x1⟩ | (obtain ⟨g0, g1, g2, g3⟩ := ‹Gou.Mod (fun _ => False) wr _ ∧ _›; exact ⟨g0.trans' hm4.out, (hm4.out.cell (p := ⟨b, o + 30, none⟩) (wbc _ _ g1) (fun h => h)).trans g1, (hm4.out.cell (p := ⟨N, 0, none⟩) (wbc _ _ g2) (fun h => h)).trans g2, (hm4.out.cell (p := ⟨N, 1, none⟩) (wbc _ _ g3) (fun h => h)).trans g3⟩))
          (first | (go_at_call 38; refine (Hik.o _ (by first | exact (‹Gou.Mod (fun _ => False) wr _ ∧ _›).1 | exact Gou.Mod.drew _ _)).mono ?_; rintro e w4 ⟨hm4', hn4, hs4⟩; obtain rfl := hn4 Hp.o; have hm4 := hd' hm4'; clear hn4 hs4 hm4'))
      have Hm4 := hd' (Hm.o.trans' (‹Gou.Mod (fun _ => False) wr w4 ∧ _›).1)
      have hB4 := hd' (HB.o.mod (‹Gou.Mod (fun _ => False) wr w4 ∧ _›).1 (fun h => h))
      have hwj : wrap64 ((j : Int) + 1) = ((j + 1 : Nat) : Int) := by have := Hjl.o; unfold maxLen at hcap2; unfold wrap64; omega
      go_wp2_with fail
      go_roundw
      case rel => exact ⟨j + 1, by rw [← hwj], by have := Hjl.o; omega, Hstep.o Hp.o, Hm4.o, hB4.out⟩
      case measure => rw [hwj]; have := Hjl.o; simp only [intOf]; omega
     | some ρ =>
      have Hp := hd' hp
      clear hp
      go_wp2_with fail
      go_region_held3 (fun w' => (Gou.Mod (fun _ => False) wr w' ∧ w'.cell? ⟨b, o + 30, none⟩ = some (.slice (some ⟨g, 0, none⟩) ks.length cap) ∧ w'.cell? ⟨N, 0, none⟩ = some (iV x.1) ∧ w'.cell? ⟨N, 1, none⟩ = some (iV x.2)))
          (first | exact ⟨Gou.Mod.drew _ _, c30', x0, x1⟩ | (obtain ⟨g0, g1, g2, g3⟩ := ‹Gou.Mod (fun _ => False) wr _ ∧ _›; exact ⟨g0.trans' hm4.out, (hm4.out.cell (p := ⟨b, o + 30, none⟩) (wbc _ _ g1) (fun h => h)).trans g1, (hm4.out.cell (p := ⟨N, 0, none⟩) (wbc _ _ g2) (fun h => h)).trans g2, (hm4.out.cell (p := ⟨N, 1, none⟩) (wbc _ _ g3) (fun h => h)).trans g3⟩))
          (first | (go_at_call 38; refine (Hik.o _ (by first | exact (‹Gou.Mod (fun _ => False) wr _ ∧ _›).1 | exact Gou.Mod.drew _ _)).mono ?_; rintro e w4 ⟨hm4', hn4, hs4⟩; obtain ⟨b', o', F', s, rfl, hz4⟩ := hs4 ρ Hp.o; have Hz4 := hd' hz4; have hm4 := hd' hm4'; clear hn4 hs4 hm4' hz4))
      have Hm4 := hd' (Hm.o.trans' (‹Gou.Mod (fun _ => False) wr w4 ∧ _›).1)
      go_wp2_with fail
      refine bpr (v := .tuple #[.pointer (some ⟨b', o', none⟩), iV ((d : Int) + 1 + (ρ.length : Nat))]) (by simp [results, Tryz.results38, go_sem]) rfl ?_
      have hpp : Ly.pathOf x (.mk i lk ks) = some (j :: ρ) := by
       rw [Ly.pathOf, if_neg Hx.o, Ly.pathL_at Hall.o Hkj.o Hp.o, Nat.zero_add]
      refine ⟨Hm4.o, fun h => ?_, fun π h => ?_⟩
      ·rw [hpp] at h
       cases h
      ·rw [hpp] at h
       cases h
       have e5 : (d : Int) + 1 + (ρ.length : Nat) = ((d + (j :: ρ).length : Nat) : Int) := by simp only [List.length_cons, Int.natCast_add, Int.natCast_one]; generalize (ρ.length : Int) = rr; generalize (d : Int) = dd; omega
       exact ⟨b', o', F', s, by rw [e5], Hz.o _ Hm4.o _ _ _ _ _ Hz4.o⟩
    ·have hil' : j = ks.length := by omega
     have e1 : decide ((j : Int) < (ks.length : Int)) = false := dqf (by omega)
     go_wp2_with fail
     refine bpr (v := .tuple #[.pointer none, iV 0]) (by simp [results, Tryz.results38, go_sem]) rfl ?_
     rw [hil', List.take_length] at Hall
     have hp : Ly.pathOf x (.mk i lk ks) = none := by
      rw [Ly.pathOf, if_neg Hx.o, Ly.pathL_none]
      exact Hall.o
     refine ⟨Hm.o, fun _ => rfl, fun π h => ?_⟩
     rw [hp] at h
     cases h
end Go.Proofs.YtpbmfalokongfaaGreatDoor
