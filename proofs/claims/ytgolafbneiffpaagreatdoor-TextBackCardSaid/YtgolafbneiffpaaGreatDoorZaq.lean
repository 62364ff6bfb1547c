/- Texts of the scenes' proofs, laid together: ArgsA, ArgsB, ArgsC, RfA, RfB, RfC, RfD, RfE. -/
import Derived.Test.YtgolafbneiffpaaGreatDoorZap
import Derived.BigQuiet
import Derived.Test.YtgolafbneiffpaaGreatDoorZam
set_option maxHeartbeats 64000000
set_option linter.unusedSimpArgs false
set_option linter.unusedVariables false
set_option linter.unusedSectionVars false
set_option linter.constructorNameAsVariable false
namespace Go.Gou
open Go.RowKit Go.ChangeShapes Go.WideShapes Go.Deep Go.Joins
section
variable {H : Type} {enc : TypeId × Value → H} {P : Program} {w : World} {base : Nat} {spare : Nat → Bool} {held : Bool}
def Parts (enc : TypeId × Value → H) (P : Program) (w : World) (base : Nat) (spare : Nat → Bool) (held : Bool) (n : Nat) : List Field → List Value → Prop
 | [], cs => cs = []
 | f :: r, cs => ∃ c1 c2 y, cs = c1 ++ c2 ∧ DataW.trod enc P w base spare held n f.type c1 = some y ∧ Parts enc P w base spare held n r c2
def uhe (P : Program) : List Field → Nat → Option Nat
 | [], o => some o
 | f :: r, o => if f.offset = o then uhe P r (o + P.cellsOf f.type) else none
theorem uiv {n : Nat} {cs : List Value} : ∀ (fs : List Field) (o : Nat), uhe P fs o = some cs.length → (∀ f ∈ fs, ∃ y, DataW.trod enc P w base spare held n f.type ((cs.drop f.offset).take (P.cellsOf f.type)) = some y) → Parts enc P w base spare held n fs (cs.drop o)
 | [], o, h, _ => by
  simp only [uhe, Option.some.injEq] at h
  subst h
  show cs.drop cs.length = []
  simp
 | f :: r, o, h, hf => by
  rw [uhe] at h
  split at h
  ·rename_i ho
   obtain ⟨y, hy⟩ := hf f (List.mem_cons_self ..)
   rw [ho] at hy
   have := uiv r _ h (fun g hg => hf g (List.mem_cons_of_mem _ hg))
   exact ⟨_, cs.drop (o + P.cellsOf f.type), y, by rw [← List.drop_drop]; exact (List.take_append_drop _ _).symm, hy, this⟩
  ·cases h
theorem ubw {t : TypeId} {fs : Array Field} {fuel : Nat} {cs : List Value} {x : DataW H × List MemPlace} (ht : P.underlying t = some (.struct fs)) (hc : uhe P fs.toList 0 = some (P.cellsOf t)) (h : DataW.trod enc P w base spare held fuel t cs = some x) :
  ∃ n, Parts enc P w base spare held n fs.toList cs := by
 obtain ⟨xs, n, _, _, hl, hxl, hf⟩ := DataW.trod_struct ht h
 refine ⟨n, ?_⟩
 have := uiv (enc := enc) (P := P) (w := w) (base := base) (spare := spare) (held := held) (n := n) (cs := cs) fs.toList 0 (by rw [hc, hl]) (fun f hf' => by
  obtain ⟨i, hi⟩ := List.getElem?_of_mem hf'
  have hi' : fs[i]? = some f := by rw [← hi]; simp
  have h1 := hf i f hi'
  have : i < xs.length := by rw [hxl]; exact (Array.getElem?_eq_some_iff.1 hi').1
  exact ⟨xs[i], h1.trans (lgE this)⟩)
 simpa using this
theorem ucn {t e : TypeId} {fuel : Nat} {cs : List Value} {x : DataW H × List MemPlace} (ht : P.underlying t = some (.slice e)) (h : DataW.trod enc P w base spare held fuel t cs = some x) : ∃ v, cs = [v] := by
 rcases open_slice ht h with ⟨hcs, _⟩ | ⟨a, len, cap, m, n, D, Pl, hcs, _⟩
 ·exact ⟨_, hcs⟩
 ·exact ⟨_, hcs⟩
theorem IntsR.of_at {v : Value} {xs : List Int} (h : IntsAt w.heap.size w v xs) : IntsR (fun _ => True) w v xs := by
 obtain ⟨p, cap, rfl, hcap, h⟩ := h
 refine ⟨by simp, p, cap, rfl, hcap, ?_⟩
 rcases h with rfl | ⟨b, o, rfl, hb, hc⟩
 ·exact .inl rfl
 ·refine .inr ⟨b, o, rfl, hb, trivial, fun j u hu => ?_⟩
  simp only [ivs, List.getElem?_map, Option.map_eq_some_iff] at hu
  obtain ⟨y, hy, rfl⟩ := hu
  obtain ⟨hj, rfl⟩ := lgS.1 hy
  exact hc j hj
theorem NodesR.of_at {v : Value} {ns : List ubb} (h : NodesAt w.heap.size w v ns) : NodesR (fun _ => True) w v ns := by
 obtain ⟨p, cap, rfl, hcap, h⟩ := h
 rcases h with rfl | ⟨b, o, rfl, hb, hc⟩
 ·exact ⟨[], ⟨rfl, p, cap, rfl, hcap, .inl rfl⟩, NodeC.nil _ _⟩
 ·have hcells : ∀ i, (h : i < ns.length) → ∃ q : Value × Value, w.cell? ⟨b, o + i * 3, none⟩ = some (iV ns[i].op) ∧ w.cell? ⟨b, o + i * 3 + 1, none⟩ = some q.1 ∧ w.cell? ⟨b, o + i * 3 + 2, none⟩ = some q.2 ∧ IntsAt w.heap.size w q.1 ns[i].ins ∧ IntsAt w.heap.size w q.2 ns[i].ps := fun i hi => by
   obtain ⟨vi, vp, h1⟩ := hc i hi
   exact ⟨(vi, vp), h1⟩
  obtain ⟨f, hf⟩ := choose_lt (p := fun i (q : Value × Value) => ∃ h : i < ns.length, w.cell? ⟨b, o + i * 3, none⟩ = some (iV ns[i].op) ∧ w.cell? ⟨b, o + i * 3 + 1, none⟩ = some q.1 ∧ w.cell? ⟨b, o + i * 3 + 2, none⟩ = some q.2 ∧ IntsAt w.heap.size w q.1 ns[i].ins ∧ IntsAt w.heap.size w q.2 ns[i].ps) (n := ns.length) (fun i hi => by
   obtain ⟨q, hq⟩ := hcells i hi
   exact ⟨q, hi, hq⟩)
  have hlen : ∀ l : List Nat, (l.flatMap fun i => [iV ns[i]!.op, (f i).1, (f i).2]).length = l.length * 3 := by
   intro l
   induction l with
   | nil => rfl
   | cons a r ih => rw [List.flatMap_cons, List.length_append, ih]; simp; omega
  have hget : ∀ (n : Nat) (j : Nat), j < n * 3 → ((List.range n).flatMap fun i => [iV ns[i]!.op, (f i).1, (f i).2])[j]? = [iV ns[j / 3]!.op, (f (j / 3)).1, (f (j / 3)).2][j % 3]? := by
   intro n
   induction n with
   | zero => intro j hj; omega
   | succ n ih =>
    intro j hj
    rw [List.range_succ, List.flatMap_append]
    by_cases hjn : j < n * 3
    ·rw [lgL (by rw [hlen]; simpa using hjn), ih j hjn]
    ·rw [lgR (by rw [hlen]; simp; omega), hlen]
     have e1 : j / 3 = n := by omega
     have e2 : j - (List.range n).length * 3 = j % 3 := by simp; omega
     rw [e1, e2]
     simp
  refine ⟨(List.range ns.length).flatMap fun i => [iV ns[i]!.op, (f i).1, (f i).2], ⟨by rw [hlen]; simp, some ⟨b, o, none⟩, cap, rfl, hcap, .inr ⟨b, o, rfl, hb, trivial, fun j u hu => ?_⟩⟩, ⟨by rw [hlen]; simp, fun i hi => ?_⟩⟩
  ·have hj : j < ns.length * 3 := by
    have := (lgS.1 hu).1
    rw [hlen] at this
    simpa using this
   rw [hget _ j hj] at hu
   obtain ⟨hi, h0, h1, h2, _⟩ := hf (j / 3) (by omega)
   have hbang : ns[j / 3]! = ns[j / 3] := getElem!_pos ns (j / 3) hi
   rw [hbang] at hu
   have hm : j % 3 = 0 ∨ j % 3 = 1 ∨ j % 3 = 2 := by omega
   rcases hm with hm | hm | hm
   ·rw [hm] at hu; simp at hu; subst hu
    have : o + j = o + j / 3 * 3 := by omega
    rw [this]; exact h0
   ·rw [hm] at hu; simp at hu; subst hu
    have : o + j = o + j / 3 * 3 + 1 := by omega
    rw [this]; exact h1
   ·rw [hm] at hu; simp at hu; subst hu
    have : o + j = o + j / 3 * 3 + 2 := by omega
    rw [this]; exact h2
  ·obtain ⟨hi', h0, h1, h2, h3, h4⟩ := hf i hi
   have hbang : ns[i]! = ns[i] := getElem!_pos ns i hi
   refine ⟨(f i).1, (f i).2, ?_, ?_, ?_, IntsR.of_at h3, IntsR.of_at h4⟩
   ·rw [hget _ _ (by omega)]
    have e1 : i * 3 / 3 = i := by omega
    have e2 : i * 3 % 3 = 0 := by omega
    rw [e1, e2, hbang]; rfl
   ·rw [hget _ _ (by omega)]
    have e1 : (i * 3 + 1) / 3 = i := by omega
    have e2 : (i * 3 + 1) % 3 = 1 := by omega
    rw [e1, e2]; rfl
   ·rw [hget _ _ (by omega)]
    have e1 : (i * 3 + 2) / 3 = i := by omega
    have e2 : (i * 3 + 2) % 3 = 2 := by omega
    rw [e1, e2]; rfl
theorem open_px {t e : TypeId} {fuel : Nat} {cs : List Value} {x : DataW H × List MemPlace} (ht : P.underlying t = some (.array 4 e)) (he : P.underlying e = some (.int .u8)) (hc : P.cellsOf e = 1) (hct : P.cellsOf t = 4)
  (h : DataW.trod enc P w base spare held fuel t cs = some x) : ∃ p : Pxl, cs = p.cells ∧ p.Small := by
 obtain ⟨xs, m, _, _, hl, hxl, hi⟩ := DataW.trod_array ht h
 rw [hct] at hl
 have one : ∀ i, i < 4 → ∃ q : Nat, cs[i]? = some (.int .u8 (q : Int)) ∧ q < 256 := by
  intro i hi4
  have h1 := hi i hi4
  rw [hc, Nat.mul_one] at h1
  have hx : xs[i]? = some (xs[i]'(by omega)) := lgE (by omega)
  rw [hx] at h1
  obtain ⟨q, hq, _, hw⟩ := DataW.trod_int he h1
  simp only [Lit.wf, Bool.and_eq_true, decide_eq_true_eq] at hw
  have h2 : (0 : Int) ≤ q := hw.1
  have h3 : q ≤ 255 := hw.2
  refine ⟨q.toNat, ?_, by omega⟩
  have h4 := congrArg (fun l => l[0]?) hq
  simp only [List.getElem?_take, List.getElem?_drop, Nat.zero_lt_one, if_true, Nat.add_zero, List.getElem?_cons_zero] at h4
  rw [h4]
  congr 2
  omega
 obtain ⟨q0, h0, s0⟩ := one 0 (by omega)
 obtain ⟨q1, h1, s1⟩ := one 1 (by omega)
 obtain ⟨q2, h2, s2⟩ := one 2 (by omega)
 obtain ⟨q3, h3, s3⟩ := one 3 (by omega)
 obtain ⟨a, b, c, d, rfl⟩ : ∃ a b c d, cs = [a, b, c, d] := by
  match cs, hl with
  | [a, b, c, d], _ => exact ⟨a, b, c, d, rfl⟩
 simp at h0 h1 h2 h3
 subst h0 h1 h2 h3
 exact ⟨⟨q0, q1, q2, q3⟩, rfl, s0, s1, s2, s3⟩
instance : Inhabited Pxl := ⟨Pxl.zero⟩
theorem uh8 {t e u : TypeId} {fuel : Nat} {v : Value} {x : DataW H × List MemPlace} (ht : P.underlying t = some (.slice e)) (he : P.underlying e = some (.array 4 u)) (hu : P.underlying u = some (.int .u8)) (hc : P.cellsOf u = 1) (hct : P.cellsOf e = 4)
  (h : DataW.trod enc P w base spare held fuel t [v] = some x) : ∃ ps, PixR (fun _ => True) w v ps ∧ (∀ p ∈ ps, Pxl.Small p) ∧ ps.length ≤ maxLen := by
 rcases open_slice ht h with ⟨hcs, _⟩ | ⟨a, len, cap, m, n, D, Pl, hcs, _, hl, hm, hmm, _, hi⟩
 ·obtain rfl : v = .slice none 0 0 := by simpa using hcs
  exact ⟨[], PixR.nil _ _, by simp, by simp⟩
 ·obtain rfl : v = .slice (some a) len cap := by simpa using hcs
  have hlm : len ≤ m := by rw [hmm]; split <;> omega
  have hone : ∀ i, i < len → ∃ p : Pxl, p.Small ∧ ∀ j u, p.cells[j]? = some u → w.cell? (a.add (i * 4 + j)) = some u := by
   intro i hil
   obtain ⟨cs', h1, h2⟩ := hi i (by omega)
   obtain ⟨p, rfl, hs⟩ := open_px he hu hc hct h2
   rw [hct] at h1
   obtain ⟨_, _, hat⟩ := World.cells?_some h1
   refine ⟨p, hs, fun j u hj => ?_⟩
   have hj4 : j < 4 := by
    have := (lgS.1 hj).1
    simpa [Pxl.cells] using this
   rw [← Go.Deep.add_add, hat j hj4]
   exact hj
  obtain ⟨f, hf⟩ := choose_lt (p := fun i (p : Pxl) => p.Small ∧ ∀ j u, p.cells[j]? = some u → w.cell? (a.add (i * 4 + j)) = some u) hone
  refine ⟨(List.range len).map f, ⟨by rw [uh2]; omega, some a, cap, by simp, by simpa using hl, ?_⟩, ?_, by simp; omega⟩
  ·by_cases h0 : len = 0
   ·subst h0; exact .inl (by simp)
   ·obtain ⟨b, o, sp⟩ := a
    obtain ⟨_, h1⟩ := hf 0 (by omega)
    have hc0 := h1 0 _ rfl
    have hsp : sp = none := by
     have := World.cell?_spot hc0
     simpa [Addr.add] using this
    subst hsp
    refine .inr ⟨b, o, rfl, ?_, trivial, ?_⟩
    ·have := wbc w _ hc0
     simpa [Addr.add] using this
    ·have key : ∀ (n : Nat) (j : Nat) (u : Value), n ≤ len → (pxs ((List.range n).map f))[j]? = some u → w.cell? ⟨b, o + j, none⟩ = some u := by
      intro n
      induction n with
      | zero => intro j u _ hu; simp at hu
      | succ n ih =>
       intro j u hn hu
       rw [List.range_succ, List.map_append, pxs, List.flatMap_append] at hu
       by_cases hj : j < (pxs ((List.range n).map f)).length
       ·rw [lgL hj] at hu
        exact ih j u (by omega) hu
       ·rw [lgR (by simp only [pxs] at hj; omega)] at hu
        rw [uh2] at hj
        simp at hj
        have hl2 : (((List.range n).map f).flatMap Pxl.cells).length = 4 * n := by
         have := uh2 ((List.range n).map f)
         simpa [pxs] using this
        rw [hl2] at hu
        have := (hf n (by omega)).2 (j - 4 * n) u (by simpa using hu)
        rw [add_plain] at this
        have e : o + (n * 4 + (j - 4 * n)) = o + j := by omega
        rw [e] at this
        exact this
     intro j u hu
     exact key len j u (Nat.le_refl _) hu
  ·intro p hp
   simp at hp
   obtain ⟨i, hil, rfl⟩ := hp
   exact (hf i hil).1
end
end Go.Gou
namespace Go.Proofs.YtgolafbneiffpaaGreatDoor
open Go.RowKit Go.Gou Go.ChangeShapes Go.WideShapes Go.Deep Go.Joins
theorem laidOut : laidOutB Tryz.prog = true := by kernel_rfl
theorem own : ownKnob Tryz.prog.godebug = none := by kernel_rfl
theorem cellsNode : Tryz.prog.cellsOf 58 = 3 := by kernel_rfl
theorem udg : Tryz.prog.cellsOf 3 = 1 := by kernel_rfl
theorem cellsByte : Tryz.prog.cellsOf 5 = 1 := by kernel_rfl
theorem cellsPx : Tryz.prog.cellsOf 27 = 4 := by kernel_rfl
theorem cellsAct : Tryz.prog.cellsOf 41 = 42 := by kernel_rfl
theorem nodeT : ∃ fs, NodeT Tryz.prog 58 fs 0 3 :=
 ⟨_, { ty := Tryz.underlying58, one := by kernel_rfl, cells := cellsNode, size := rfl, f0 := ⟨_, rfl, Tryz.underlying3⟩, f1 := ⟨_, rfl, Tryz.underlying56⟩, f2 := ⟨_, rfl, Tryz.underlying56⟩, tint := Tryz.underlying3, tc := udg }⟩
set_option maxRecDepth 100000
section
variable {H : Type} {enc : TypeId × Value → H} {w : World} {base : Nat} {spare : Nat → Bool} {held : Bool} {r : Reach} {b0 : Nat} {v : Value} {d : DataW H} {p : List MemPlace} {fuel : Nat} {cs : List Value} {x : DataW H × List MemPlace}
end
end Go.Proofs.YtgolafbneiffpaaGreatDoor
namespace Go.Gou
open Go.RowKit
structure ActWf (a : Ac) : Prop where
 small : PxSmall a.op.look.content
 pix : a.op.look.content.pix.length ≤ maxLen
 filt : a.op.look.filt.nodes.length ≤ maxLen
 filts : ∀ n ∈ a.op.look.filt.nodes, uol n
 back : a.op.look.back.nodes.length ≤ maxLen
 backs : ∀ n ∈ a.op.look.back.nodes, uol n
instance : Inhabited Ac := ⟨Ac.zero⟩
def ActsR (w : World) (v : Value) (xs : List Ac) : Prop := ∃ (p : Option Addr) (cap : Nat), v = .slice p xs.length cap ∧ xs.length ≤ cap ∧ (xs.length = 0 ∨ ∃ b o, p = some ⟨b, o, none⟩ ∧ b < w.heap.size ∧
 ∀ i, (h : i < xs.length) → ∃ vp vf vb, (∀ j u, (actC xs[i] vp vf vb)[j]? = some u → w.cell? ⟨b, o + i * 42 + j, none⟩ = some u) ∧ LookR (fun _ => True) w xs[i].op.look vp vf vb)
end Go.Gou
namespace Go.Proofs.YtgolafbneiffpaaGreatDoor
open Go.RowKit Go.Gou Go.ChangeShapes Go.WideShapes Go.Deep Go.Joins
set_option maxRecDepth 100000
section
variable {H : Type} {enc : TypeId × Value → H} {w : World} {base : Nat} {spare : Nat → Bool} {held : Bool} {r : Reach} {b0 : Nat} {v : Value} {d : DataW H} {p : List MemPlace} {fuel : Nat} {cs : List Value} {x : DataW H × List MemPlace}
theorem ua3 (h : DataW.trod enc Tryz.prog w base spare held fuel 3 cs = some x) : ∃ q : Int, cs = [.int .i64 q] := by
 obtain ⟨q, hq, _, _⟩ := DataW.trod_int Tryz.underlying3 h
 exact ⟨q, hq⟩
theorem udl (h : DataW.trod enc Tryz.prog w base spare held fuel 4 cs = some x) : ∃ q : Bool, cs = [.bool q] := by
 obtain ⟨q, hq, _⟩ := DataW.trod_bool Tryz.underlying4 h
 exact ⟨q, hq⟩
theorem uh9 (h : DataW.trod enc Tryz.prog w base spare held fuel 23 cs = some x) : ∃ i : Int × Int, cs = [.int .i64 i.1, .int .i64 i.2] := by
 obtain ⟨n, h⟩ := ubw Tryz.underlying23 (by kernel_rfl) h
 obtain ⟨c0, _, y0, rfl, h0, c1, _, y1, rfl, h1, rfl⟩ := h
 obtain ⟨q0, rfl⟩ := ua3 h0
 obtain ⟨q1, rfl⟩ := ua3 h1
 exact ⟨(q0, q1), rfl⟩
theorem ugx (h : DataW.trod enc Tryz.prog w base spare held fuel 25 cs = some x) : ∃ i : Rc, cs = [.int .i64 i.x0, .int .i64 i.y0, .int .i64 i.x1, .int .i64 i.y1] := by
 obtain ⟨n, h⟩ := ubw Tryz.underlying25 (by kernel_rfl) h
 obtain ⟨c0, _, y0, rfl, h0, c1, _, y1, rfl, h1, c2, _, y2, rfl, h2, c3, _, y3, rfl, h3, rfl⟩ := h
 obtain ⟨q0, rfl⟩ := ua3 h0
 obtain ⟨q1, rfl⟩ := ua3 h1
 obtain ⟨q2, rfl⟩ := ua3 h2
 obtain ⟨q3, rfl⟩ := ua3 h3
 exact ⟨⟨q0, q1, q2, q3⟩, rfl⟩
theorem open_conf (h : DataW.trod enc Tryz.prog w base spare held fuel 39 cs = some x) : ∃ i : Cf, cs = [.bool i.fuse, .bool i.alias, .bool i.roi, .bool i.damage, .int .i64 i.room] := by
 obtain ⟨n, h⟩ := ubw Tryz.underlying39 (by kernel_rfl) h
 obtain ⟨c0, _, y0, rfl, h0, c1, _, y1, rfl, h1, c2, _, y2, rfl, h2, c3, _, y3, rfl, h3, c4, _, y4, rfl, h4, rfl⟩ := h
 obtain ⟨q0, rfl⟩ := udl h0
 obtain ⟨q1, rfl⟩ := udl h1
 obtain ⟨q2, rfl⟩ := udl h2
 obtain ⟨q3, rfl⟩ := udl h3
 obtain ⟨q4, rfl⟩ := ua3 h4
 exact ⟨⟨q0, q1, q2, q3, q4⟩, rfl⟩
theorem ugy (h : DataW.trod enc Tryz.prog w base spare held fuel 30 cs = some x) : ∃ (c : Ct) (vp : Value), cs = (uak c vp).toList ∧ PixR (fun _ => True) w vp c.pix ∧ PxSmall c ∧ c.pix.length ≤ maxLen := by
 obtain ⟨n, h⟩ := ubw Tryz.underlying30 (by kernel_rfl) h
 obtain ⟨c0, _, y0, rfl, h0, c1, _, y1, rfl, h1, c2, _, y2, rfl, h2, c3, _, y3, rfl, h3, c4, _, y4, rfl, h4, c5, _, y5, rfl, h5, c6, _, y6, rfl, h6, rfl⟩ := h
 obtain ⟨q0, rfl⟩ := ua3 h0
 obtain ⟨q1, rfl⟩ := ugx h1
 obtain ⟨q2, rfl, s2⟩ := open_px Tryz.underlying27 Tryz.underlying5 cellsByte cellsPx h2
 obtain ⟨q3, rfl⟩ := ua3 h3
 obtain ⟨q4, rfl⟩ := ua3 h4
 obtain ⟨q5, rfl⟩ := ua3 h5
 obtain ⟨vp, rfl⟩ := ucn Tryz.underlying28 h6
 obtain ⟨ps, k1, k2, k3⟩ := uh8 Tryz.underlying28 Tryz.underlying27 Tryz.underlying5 cellsByte cellsPx h6
 exact ⟨⟨q0, q1, q2, q3, q4, q5, ps⟩, vp, rfl, k1, ⟨s2, k2⟩, k3⟩
theorem ufn (h : DataW.trod enc Tryz.prog w base spare held fuel 33 cs = some x) : ∃ (g : Gr) (vf : Value), cs = [vf, .int .i64 g.out] ∧ NodesR (fun _ => True) w vf g.nodes ∧ (∀ n ∈ g.nodes, uol n) ∧ g.nodes.length ≤ maxLen := by
 obtain ⟨n, h⟩ := ubw Tryz.underlying33 (by kernel_rfl) h
 obtain ⟨c0, _, y0, rfl, h0, c1, _, y1, rfl, h1, rfl⟩ := h
 obtain ⟨vf, rfl⟩ := ucn Tryz.underlying31 h0
 obtain ⟨fs, hN⟩ := nodeT
 obtain ⟨ns, k1, k2, k3⟩ := uf4 hN Tryz.underlying31 h0
 obtain ⟨q1, rfl⟩ := ua3 h1
 exact ⟨⟨ns, q1⟩, vf, rfl, NodesR.of_at k1, k2, k3⟩
theorem open_look (h : DataW.trod enc Tryz.prog w base spare held fuel 35 cs = some x) : ∃ (l : Lk) (vp vf vb : Value), cs = (uai l vp vf vb).toList ∧ LookR (fun _ => True) w l vp vf vb ∧ PxSmall l.content ∧ l.content.pix.length ≤ maxLen ∧ l.filt.nodes.length ≤ maxLen ∧ (∀ n ∈ l.filt.nodes, uol n) ∧ l.back.nodes.length ≤ maxLen ∧ (∀ n ∈ l.back.nodes, uol n) := by
 obtain ⟨n, h⟩ := ubw Tryz.underlying35 (by kernel_rfl) h
 obtain ⟨c0, _, y0, rfl, h0, c1, _, y1, rfl, h1, c2, _, y2, rfl, h2, c3, _, y3, rfl, h3, c4, _, y4, rfl, h4, c5, _, y5, rfl, h5, c6, _, y6, rfl, h6, h⟩ := h
 obtain ⟨c7, _, y7, rfl, h7, c8, _, y8, rfl, h8, c9, _, y9, rfl, h9, c10, _, y10, rfl, h10, rfl⟩ := h
 obtain ⟨q0, rfl⟩ := ua3 h0
 obtain ⟨q1, rfl⟩ := ua3 h1
 obtain ⟨q2, rfl⟩ := udl h2
 obtain ⟨q3, rfl⟩ := ugx h3
 obtain ⟨q4, rfl⟩ := ua3 h4
 obtain ⟨q5, rfl⟩ := ua3 h5
 obtain ⟨q6, vp, rfl, a1, a2, a3⟩ := ugy h6
 obtain ⟨q7, rfl⟩ := udl h7
 obtain ⟨q8, vf, rfl, b1, b2, b3⟩ := ufn h8
 obtain ⟨q9, rfl⟩ := udl h9
 obtain ⟨q10, vb, rfl, d1, d2, d3⟩ := ufn h10
 exact ⟨⟨q0, q1, q2, q3, q4, q5, q6, q7, q8, q9, q10⟩, vp, vf, vb, rfl, ⟨a1, b1, d1⟩, a2, a3, b3, b2, d3, d2⟩
theorem open_op (h : DataW.trod enc Tryz.prog w base spare held fuel 37 cs = some x) : ∃ (o : Opr) (vp vf vb : Value), cs = (oprC o vp vf vb).toList ∧ LookR (fun _ => True) w o.look vp vf vb ∧ PxSmall o.look.content ∧ o.look.content.pix.length ≤ maxLen ∧ o.look.filt.nodes.length ≤ maxLen ∧ (∀ n ∈ o.look.filt.nodes, uol n) ∧ o.look.back.nodes.length ≤ maxLen ∧ (∀ n ∈ o.look.back.nodes, uol n) := by
 obtain ⟨n, h⟩ := ubw Tryz.underlying37 (by kernel_rfl) h
 obtain ⟨c0, _, y0, rfl, h0, c1, _, y1, rfl, h1, c2, _, y2, rfl, h2, c3, _, y3, rfl, h3, c4, _, y4, rfl, h4, rfl⟩ := h
 obtain ⟨q0, rfl⟩ := ua3 h0
 obtain ⟨q1, rfl⟩ := uh9 h1
 obtain ⟨q2, rfl⟩ := uh9 h2
 obtain ⟨q3, rfl⟩ := ua3 h3
 obtain ⟨q4, vp, vf, vb, rfl, k⟩ := open_look h4
 exact ⟨⟨q0, q1, q2, q3, q4⟩, vp, vf, vb, rfl, k⟩
theorem uoj (h : DataW.trod enc Tryz.prog w base spare held fuel 41 cs = some x) : ∃ (a : Ac) (vp vf vb : Value), cs = (actC a vp vf vb).toList ∧ LookR (fun _ => True) w a.op.look vp vf vb ∧ ActWf a := by
 obtain ⟨n, h⟩ := ubw Tryz.underlying41 (by kernel_rfl) h
 obtain ⟨c0, _, y0, rfl, h0, c1, _, y1, rfl, h1, c2, _, y2, rfl, h2, c3, _, y3, rfl, h3, c4, _, y4, rfl, h4, rfl⟩ := h
 obtain ⟨q0, rfl⟩ := ua3 h0
 obtain ⟨q1, vp, vf, vb, rfl, k1, k2, k3, k4, k5, k6, k7⟩ := open_op h1
 obtain ⟨q2, rfl⟩ := ua3 h2
 obtain ⟨q3, rfl⟩ := ua3 h3
 obtain ⟨q4, rfl⟩ := open_conf h4
 exact ⟨⟨q0, q1, q2, q3, q4⟩, vp, vf, vb, rfl, k1, k2, k3, k4, k5, k6, k7⟩
theorem open_acts (hv : Value.okWide Tryz.prog w r b0 49 v) (h : DataW.Trod enc Tryz.prog w base spare held 49 v d p) : ∃ xs, ActsR w v xs ∧ ((∀ a ∈ xs, ActWf a) ∧ xs.length ≤ maxLen) := by
 obtain ⟨a, len, cap, rfl⟩ := okWide_slice Tryz.underlying49 hv
 obtain ⟨n, h⟩ := h
 have h : DataW.trod enc Tryz.prog w base spare held n 49 [.slice a len cap] = some (d, p) := h
 rcases open_slice Tryz.underlying49 h with ⟨hcs, _⟩ | ⟨a', len', cap', m, n', D, Pl, hcs, _, hl, hm, hmm, _, hi⟩
 ·simp only [List.cons.injEq, Value.slice.injEq, and_true] at hcs
  obtain ⟨rfl, rfl, rfl⟩ := hcs
  exact ⟨[], ⟨none, 0, rfl, Nat.le_refl _, .inl rfl⟩, by simp, by simp⟩
 ·simp only [List.cons.injEq, Value.slice.injEq, and_true] at hcs
  obtain ⟨rfl, rfl, rfl⟩ := hcs
  have hlm : len ≤ m := by rw [hmm]; split <;> omega
  have hone : ∀ i, i < len → ∃ x : Ac, ActWf x ∧ ∃ vp vf vb, (∀ j u, (actC x vp vf vb)[j]? = some u → w.cell? (a'.add (i * 42 + j)) = some u) ∧ LookR (fun _ => True) w x.op.look vp vf vb := by
   intro i hil
   obtain ⟨cs', h1, h2⟩ := hi i (by omega)
   obtain ⟨x, vp, vf, vb, rfl, k1, k2⟩ := uoj h2
   rw [cellsAct] at h1
   obtain ⟨_, _, hat⟩ := World.cells?_some h1
   refine ⟨x, k2, vp, vf, vb, fun j u hj => ?_, k1⟩
   have hj4 : j < 42 := by
    have := (Array.getElem?_eq_some_iff.1 hj).1
    simpa [actC] using this
   rw [← Go.Deep.add_add, hat j hj4, agT]
   exact hj
  obtain ⟨f, hf⟩ := choose_lt (p := fun i (x : Ac) => ActWf x ∧ ∃ vp vf vb, (∀ j u, (actC x vp vf vb)[j]? = some u → w.cell? (a'.add (i * 42 + j)) = some u) ∧ LookR (fun _ => True) w x.op.look vp vf vb) hone
  refine ⟨(List.range len).map f, ⟨some a', cap, by simp, by simpa using hl, ?_⟩, ?_, by simp; omega⟩
  ·by_cases h0 : len = 0
   ·subst h0; exact .inl (by simp)
   ·obtain ⟨b, o, sp⟩ := a'
    obtain ⟨_, vp, vf, vb, h1, _⟩ := hf 0 (by omega)
    have hc0 := h1 0 _ rfl
    have hsp : sp = none := by
     have := World.cell?_spot hc0
     simpa [Addr.add] using this
    subst hsp
    refine .inr ⟨b, o, rfl, ?_, fun i hil => ?_⟩
    ·have := wbc w _ hc0
     simpa [Addr.add] using this
    ·have hil' : i < len := by simpa using hil
     obtain ⟨_, vp, vf, vb, k1, k2⟩ := hf i hil'
     simp only [List.getElem_map, List.getElem_range]
     refine ⟨vp, vf, vb, fun j u hu => ?_, k2⟩
     have := k1 j u hu
     rw [add_plain] at this
     rw [Nat.add_assoc]
     exact this
  ·intro x hx
   simp at hx
   obtain ⟨i, hil, rfl⟩ := hx
   exact (hf i hil).1
end
end Go.Proofs.YtgolafbneiffpaaGreatDoor
namespace Go.Gou
open Go.RowKit
def LittleOk (ns : List ubb) : Prop := ∀ n ∈ ns, n.ins.length ≤ 200 ∧ n.ps.length ≤ 200
structure FewOk (a : Ac) : Prop where
 pix : a.op.look.content.pix.length ≤ 400
 filt : a.op.look.filt.nodes.length ≤ 1100
 back : a.op.look.back.nodes.length ≤ 1100
 filts : LittleOk a.op.look.filt.nodes
 backs : LittleOk a.op.look.back.nodes
theorem LittleOk.borne {ns : List ubb} (h : LittleOk ns) (hl : ns.length ≤ 1100) : ucm ns := ⟨by omega, fun i n hn => by
 have := h n (lmG hn); omega⟩
theorem FewOk.borne {a : Ac} (h : FewOk a) : LookBorne a.op.look := ⟨by have := h.pix; omega, h.filts.borne h.filt, h.backs.borne h.back⟩
end Go.Gou
namespace Go.Proofs.YtgolafbneiffpaaGreatDoor
open Go.RowKit Go.Gou
set_option maxRecDepth 100000
theorem uq9 (w : World) (G : Nat → Prop) (p : Option Addr) (c : Nat) (g : Gr) (hx : NodesR G w (.slice p g.nodes.length c) g.nodes) (hl : g.nodes.length ≤ 1100) :
  Calls Tryz.prog 13 #[.agg #[.slice p g.nodes.length c, iV g.out]] w fun e w' => (∃ q : Bool, e = .returned (.bool q) ∧ (q = true → LittleOk g.nodes)) ∧ Gou.Mod (fun _ => False) w w' := by
 have HM : Hid (Gou.Mod (fun _ => False) w (w.alloc (.cells #[.slice p g.nodes.length c, iV g.out] 33))) := hd' (Gou.Mod.alloc _ _ _)
 have Hx := hd' (hx.mod HM.o (fun _ _ _ h => h))
 have HA : Hid (Blk (w.alloc (.cells #[.slice p g.nodes.length c, iV g.out] 33)) w.heap.size 33 #[.slice p g.nodes.length c, iV g.out]) := hd' (heap_alloc_new w _)
 have hBl := Blk.lt HA.o
 clear hx
 go_enter Tryz.func13, Tryz.ntmps13
 go_wp2_with fail
 generalize hW0 : w.alloc (.cells #[.slice p g.nodes.length c, iV g.out] 33) = w0 at *
 clear hW0
 go_loopw [3, 4] (fun d e wr => ∃ (k i : Nat), d = iV k ∧ e = iV i ∧ i ≤ g.nodes.length ∧ k ≤ 5000 ∧ (∀ j n, j < i → g.nodes[j]? = some n → n.ins.length ≤ 200 ∧ n.ps.length ≤ 200) ∧ Gou.Mod (fun _ => False) w0 wr) (fun _ e _ => g.nodes.length - (intOf e).toNat)
 case atStart => exact ⟨0, 0, rfl, rfl, by omega, by omega, fun j n h => by omega, Gou.Mod.refl _ _⟩
 case round =>
  obtain ⟨k, i, rfl, rfl, hi, hk, hall, hm⟩ := hrel
  have Hall := hd' hall
  have Hm := hd' hm
  have hA := HA.o.mod hm (fun h => h)
  have a0 : wr.cell? ⟨w.heap.size, 0, none⟩ = some (.slice p g.nodes.length c) := hA.cell 0 rfl
  clear hall hm hA
  by_cases hil : i < g.nodes.length
  ·have e2 : decide ((i : Int) < (g.nodes.length : Int)) = true := by simp; omega
   obtain ⟨-, b, o, rfl, hb, -, hc⟩ := Hx.o.cells (by omega)
   obtain ⟨pi, ci, pp, cp, -, k1, k2, -, -⟩ := hc i _ (lgE hil)
   rw [← Hm.o.cell (p := ⟨b, o + i * 3 + 1, none⟩) hb (fun h => h)] at k1
   rw [← Hm.o.cell (p := ⟨b, o + i * 3 + 2, none⟩) hb (fun h => h)] at k2
   have hiI : (i : Int) < (g.nodes.length : Int) := by omega
   have hi0I : (0 : Int) ≤ (i : Int) := by omega
   have Hnd := hd' (lgE hil : g.nodes[i]? = some g.nodes[i])
   clear hc
   generalize g.nodes[i] = nd at *
   by_cases h1 : nd.ins.length ≤ 200
   case neg =>
    have q1 : decide ((200 : Int) < (nd.ins.length : Int)) = true := by simp; omega
    clear h1
    go_wp2_with fail
    go_ret
    exact ⟨⟨false, rfl, fun h => by cases h⟩, HM.o.trans' Hm.o⟩
   have q1 : decide ((200 : Int) < (nd.ins.length : Int)) = false := by simp; omega
   by_cases h2 : nd.ps.length ≤ 200
   case neg =>
    have q2 : decide ((200 : Int) < (nd.ps.length : Int)) = true := by simp; omega
    clear h2
    go_wp2_with fail
    go_ret
    exact ⟨⟨false, rfl, fun h => by cases h⟩, HM.o.trans' Hm.o⟩
   have q2 : decide ((200 : Int) < (nd.ps.length : Int)) = false := by simp; omega
   obtain ⟨ks, hks⟩ : ∃ ks, ks = k + nd.ins.length + nd.ps.length := ⟨_, rfl⟩
   have S1 : Hid (wrap64 ((k : Int) + (nd.ins.length : Int)) = (k : Int) + (nd.ins.length : Int)) := hd' (IntWalk.wrap64_in _ (by omega))
   have S2 : Hid (wrap64 ((k : Int) + (nd.ins.length : Int) + (nd.ps.length : Int)) = (ks : Int)) := hd' ((IntWalk.wrap64_in _ (by omega)).trans (by omega))
   by_cases h3 : ks ≤ 5000
   ·have q3 : decide ((5000 : Int) < (ks : Int)) = false := dqf (by omega)
    have Hnext : Hid (∀ j n, j < i + 1 → g.nodes[j]? = some n → n.ins.length ≤ 200 ∧ n.ps.length ≤ 200) := hd' (fun j n hj hn => by
     by_cases e : j = i
     ·subst e
      rw [Hnd.o] at hn
      simp only [Option.some.injEq] at hn
      subst hn
      exact ⟨h1, h2⟩
     ·exact Hall.o j n (by omega) hn)
    have s1 := S1.o
    have s2 := S2.o
    have H3 := hd' h3
    clear h1 h2 hks h3
    go_wp2_with fail
    go_quiet (fail)
    go_wp2_with fail
    go_roundw
    case rel => exact ⟨ks, i + 1, congrArg (Value.int IntKind.i64) s2, by go_num, by omega, H3.o, Hnext.o, Hm.o.trans' (Gou.Mod.drewN _ _ _)⟩
    case measure => simp [intOf]; omega
   ·have q3 : decide ((5000 : Int) < (ks : Int)) = true := dqt (by omega)
    have s1 := S1.o
    have s2 := S2.o
    clear h1 h2 h3 hks
    go_wp2_with fail
    go_quiet (fail)
    go_wp2_with fail
    go_ret
    exact ⟨⟨false, rfl, fun h => by cases h⟩, HM.o.trans' (Hm.o.trans' (Gou.Mod.drewN _ _ _))⟩
  ·obtain rfl : i = g.nodes.length := by omega
   have e2 : decide ((g.nodes.length : Int) < (g.nodes.length : Int)) = false := by simp
   have Hend : Hid (LittleOk g.nodes) := hd' (fun n hn => by
    obtain ⟨j, hj, rfl⟩ := List.getElem_of_mem hn
    exact Hall.o j _ hj (lgE hj))
   go_wp2_with fail
   go_ret
   exact ⟨⟨true, rfl, fun _ => Hend.o⟩, HM.o.trans' Hm.o⟩
set_option maxRecDepth 100000 in
theorem eqR_any (w : World) (G1 G2 : Nat → Prop) (p1 p2 : Option Addr) (c1 c2 : Nat) (xs ys : List Int) (hx : IntsR G1 w (.slice p1 xs.length c1) xs) (hy : IntsR G2 w (.slice p2 ys.length c2) ys) (hl : xs.length ≤ 1000000000) (hl2 : ys.length ≤ 1000000000) :
  Calls Tryz.prog 122 #[.slice p1 xs.length c1, .slice p2 ys.length c2] w fun e w' => e = .returned (.bool (decide (xs = ys))) ∧ ∃ m, w' = w.drewN m := by
 have Hx := hd' hx
 have Hy := hd' hy
 clear hx hy
 go_enter Tryz.func122, Tryz.ntmps122
 by_cases hlen : xs.length = ys.length
 ·have e1 : ((xs.length : Int) != (ys.length : Int)) = false := by simp [hlen]
  have Hlen := hd' hlen
  clear hlen
  go_wp2_with fail
  go_loopw [5] (fun c wr => ∃ i : Nat, c = iV i ∧ i ≤ xs.length ∧ xs.take i = ys.take i ∧ ∃ m, wr = w.drewN m) (fun c _ => xs.length - (intOf c).toNat)
  case atStart => exact ⟨0, rfl, by omega, by simp, 0, rfl⟩
  case round =>
   obtain ⟨i, rfl, hi, ht, hm⟩ := hrel
   have Ht := hd' ht
   have Hm0 := hd' hm
   have Hm : Hid (Gou.Mod (fun _ => False) w wr) := hd' (by obtain ⟨m, rfl⟩ := hm; exact Gou.Mod.drewN _ _ _)
   clear ht hm
   by_cases hil : i < xs.length
   ·have e2 : decide ((i : Int) < (xs.length : Int)) = true := by simp; omega
    have hil2 : i < ys.length := by have := Hlen.o; omega
    obtain ⟨-, b1, o1, rfl, hb1, -, hc1⟩ := Hx.o.cells (by omega)
    obtain ⟨-, b2, o2, rfl, hb2, -, hc2⟩ := Hy.o.cells (by omega)
    have k1 := hc1 i hil
    have k2 := hc2 i hil2
    rw [← Hm.o.cell (p := ⟨b1, o1 + i, none⟩) hb1 (fun h => h)] at k1
    rw [← Hm.o.cell (p := ⟨b2, o2 + i, none⟩) hb2 (fun h => h)] at k2
    have hx1 : xs.getD i 0 = xs[i] := by simp [List.getD, hil]
    have hy1 : ys.getD i 0 = ys[i] := by simp [List.getD, hil2]
    rw [hx1] at k1
    rw [hy1] at k2
    have hiI : (i : Int) < (xs.length : Int) := by omega
    have hiJ : (i : Int) < (ys.length : Int) := by omega
    have hi0I : (0 : Int) ≤ (i : Int) := by omega
    have Hne := hd' (fun he => uet (i := i) hil hil2 he : xs[i] ≠ ys[i] → xs ≠ ys)
    have Heq := hd' (fun he => uci hil hil2 Ht.o he : xs[i] = ys[i] → xs.take (i + 1) = ys.take (i + 1))
    clear hc1 hc2 hx1 hy1
    generalize xs[i] = x at *
    generalize ys[i] = y at *
    by_cases hxy : x = y
    ·have e3 : (x != y) = false := by simp [hxy]
     have Hs := hd' (Heq.o hxy)
     clear hxy
     go_wp2_with fail
     go_quiet (fail)
     go_wp2_with fail
     go_roundw
     case rel =>
      obtain ⟨m, rfl⟩ := Hm0.o
      exact ⟨i + 1, by go_num, by omega, Hs.o, _, by rw [World.drewN_drewN]⟩
     case measure => simp [intOf]; omega
    ·have e3 : (x != y) = true := by simp [hxy]
     have Hs := hd' (Hne.o hxy)
     clear hxy
     go_wp2_with fail
     go_quiet (fail)
     go_wp2_with fail
     go_ret
     obtain ⟨m, rfl⟩ := Hm0.o
     exact ⟨by simp [Hs.o], _, by rw [World.drewN_drewN]⟩
   ·obtain rfl : i = xs.length := by omega
    have e2 : decide ((xs.length : Int) < (xs.length : Int)) = false := by simp
    have Hs : Hid (xs = ys) := hd' (by
     have h1 := Ht.o
     rw [List.take_length, Hlen.o, List.take_length] at h1
     exact h1)
    go_wp2_with fail
    go_ret
    exact ⟨by simp [Hs.o], Hm0.o⟩
 ·have e1 : ((xs.length : Int) != (ys.length : Int)) = true := by simp; omega
  have Hs : Hid (xs ≠ ys) := hd' (fun h => hlen (by rw [h]))
  clear hlen
  go_wp2_with fail
  go_ret
  exact ⟨by simp [Hs.o], 0, rfl⟩
set_option maxRecDepth 100000 in
theorem grR_any (w : World) (G1 G2 : Nat → Prop) (p1 p2 : Option Addr) (c1 c2 : Nat) (g k : Gr) (hx : NodesR G1 w (.slice p1 g.nodes.length c1) g.nodes) (hy : NodesR G2 w (.slice p2 k.nodes.length c2) k.nodes) (bx : ucm g.nodes) (by_ : ucm k.nodes) :
  Calls Tryz.prog 94 #[.agg #[.slice p1 g.nodes.length c1, iV g.out], .agg #[.slice p2 k.nodes.length c2, iV k.out]] w fun e w' => e = .returned (.bool (decide (g = k))) ∧ Gou.Mod (fun _ => False) w w' := by
 have HM : Hid (Gou.Mod (fun _ => False) w ((w.alloc (.cells #[.slice p1 g.nodes.length c1, iV g.out] 33)).alloc (.cells #[.slice p2 k.nodes.length c2, iV k.out] 33))) := hd' ((Gou.Mod.alloc _ _ _).trans' (Gou.Mod.alloc _ _ _))
 have Hx := hd' (hx.mod HM.o (fun _ _ _ h => h))
 have Hy := hd' (hy.mod HM.o (fun _ _ _ h => h))
 have Bx := hd' bx
 have By := hd' by_
 have HA : Hid (Blk ((w.alloc (.cells #[.slice p1 g.nodes.length c1, iV g.out] 33)).alloc (.cells #[.slice p2 k.nodes.length c2, iV k.out] 33)) w.heap.size 33 #[.slice p1 g.nodes.length c1, iV g.out]) := hd' ((show Blk (w.alloc (.cells #[.slice p1 g.nodes.length c1, iV g.out] 33)) w.heap.size 33 _ from heap_alloc_new w _).mod (Gou.Mod.alloc (fun _ => False) _ _) (fun h => h))
 have HB : Hid (Blk ((w.alloc (.cells #[.slice p1 g.nodes.length c1, iV g.out] 33)).alloc (.cells #[.slice p2 k.nodes.length c2, iV k.out] 33)) (w.heap.size + 1) 33 #[.slice p2 k.nodes.length c2, iV k.out]) := hd' (by
  have := heap_alloc_new (w.alloc (.cells #[.slice p1 g.nodes.length c1, iV g.out] 33)) (.cells #[.slice p2 k.nodes.length c2, iV k.out] 33)
  rw [World.size_alloc] at this
  exact this)
 clear hx hy bx by_
 go_enter Tryz.func94, Tryz.ntmps94
 by_cases ho : g.out = k.out
 case neg =>
  have e1 : (g.out != k.out) = true := by simp [ho]
  have Hq : Hid (decide (g = k) = false) := hd' (by simp [uui, ho])
  clear ho
  go_wp2_with fail
  go_ret
  exact ⟨by rw [Hq.o]; rfl, HM.o⟩
 have e1 : (g.out != k.out) = false := by simp [ho]
 have Ho := hd' ho
 clear ho
 by_cases hlen : g.nodes.length = k.nodes.length
 case neg =>
  have e2 : ((g.nodes.length : Int) != (k.nodes.length : Int)) = true := by simp; omega
  have Hq : Hid (decide (g = k) = false) := hd' (dqf fun h => hlen (by rw [h]))
  clear hlen
  go_wp2_with fail
  go_ret
  exact ⟨by rw [Hq.o]; rfl, HM.o⟩
 have e2 : ((g.nodes.length : Int) != (k.nodes.length : Int)) = false := by simp [hlen]
 have Hlen := hd' hlen
 have hgl : g.nodes.length ≤ 1000000000 := Bx.o.1
 have Hgl := hd' hgl
 clear hlen hgl
 go_wp2_with fail
 generalize hW0 : ((w.alloc (.cells #[.slice p1 g.nodes.length c1, iV g.out] 33)).alloc (.cells #[.slice p2 k.nodes.length c2, iV k.out] 33)) = w0 at *
 clear hW0
 go_loopw [5] (fun c wr => ∃ i : Nat, c = iV i ∧ i ≤ g.nodes.length ∧ g.nodes.take i = k.nodes.take i ∧ Gou.Mod (fun _ => False) w0 wr) (fun c _ => g.nodes.length - (intOf c).toNat)
 case atStart => exact ⟨0, rfl, by omega, by simp, Gou.Mod.refl _ _⟩
 case round =>
  obtain ⟨i, rfl, hi, ht, hm⟩ := hrel
  have Ht := hd' ht
  have Hm := hd' hm
  have hA := HA.o.mod hm (fun h => h)
  have hB := HB.o.mod hm (fun h => h)
  have a0 : wr.cell? ⟨w.heap.size, 0, none⟩ = some (.slice p1 g.nodes.length c1) := hA.cell 0 rfl
  have b0 : wr.cell? ⟨w.heap.size + 1, 0, none⟩ = some (.slice p2 k.nodes.length c2) := hB.cell 0 rfl
  clear ht hm hA hB
  by_cases hil : i < g.nodes.length
  ·have e3 : decide ((i : Int) < (g.nodes.length : Int)) = true := by simp; omega
   have hil2 : i < k.nodes.length := by have := Hlen.o; omega
   obtain ⟨-, x1, o1, rfl, hx1, -, hc1⟩ := Hx.o.cells (by omega)
   obtain ⟨-, x2, o2, rfl, hx2, -, hc2⟩ := Hy.o.cells (by omega)
   obtain ⟨pi1, ci1, pp1, cp1, m0, m1, m2, hi1, hp1⟩ := hc1 i _ (lgE hil)
   obtain ⟨pi2, ci2, pp2, cp2, q0, q1, q2, hi2, hp2⟩ := hc2 i _ (lgE hil2)
   rw [← Hm.o.cell (p := ⟨x1, o1 + i * 3, none⟩) hx1 (fun h => h)] at m0
   rw [← Hm.o.cell (p := ⟨x1, o1 + i * 3 + 1, none⟩) hx1 (fun h => h)] at m1
   rw [← Hm.o.cell (p := ⟨x1, o1 + i * 3 + 2, none⟩) hx1 (fun h => h)] at m2
   rw [← Hm.o.cell (p := ⟨x2, o2 + i * 3, none⟩) hx2 (fun h => h)] at q0
   rw [← Hm.o.cell (p := ⟨x2, o2 + i * 3 + 1, none⟩) hx2 (fun h => h)] at q1
   rw [← Hm.o.cell (p := ⟨x2, o2 + i * 3 + 2, none⟩) hx2 (fun h => h)] at q2
   have hiI : (i : Int) < (g.nodes.length : Int) := by omega
   have hiJ : (i : Int) < (k.nodes.length : Int) := by omega
   have hi0I : (0 : Int) ≤ (i : Int) := by omega
   have L1 := hd' (Bx.o.2 i _ (lgE hil))
   have L2 := hd' (By.o.2 i _ (lgE hil2))
   have Hi1 := hd' (RowG.mod hi1 Hm.o (fun _ _ _ h => h))
   have Hi2 := hd' (RowG.mod hi2 Hm.o (fun _ _ _ h => h))
   have Hp1 := hd' (RowG.mod hp1 Hm.o (fun _ _ _ h => h))
   have Hp2 := hd' (RowG.mod hp2 Hm.o (fun _ _ _ h => h))
   have Hne := hd' (fun he => uet (i := i) hil hil2 he : g.nodes[i] ≠ k.nodes[i] → g.nodes ≠ k.nodes)
   have Heq := hd' (fun he => uci hil hil2 Ht.o he : g.nodes[i] = k.nodes[i] → g.nodes.take (i + 1) = k.nodes.take (i + 1))
   clear hc1 hc2 hi1 hi2 hp1 hp2
   generalize g.nodes[i] = nd at *
   generalize k.nodes[i] = md at *
   have Hq1 : Hid (∀ m x y, x = Value.slice pi1 nd.ins.length ci1 → y = Value.slice pi2 md.ins.length ci2 → Calls Tryz.prog 122 #[x, y] (wr.drewN m) fun e w2 => e = .returned (.bool (decide (nd.ins = md.ins))) ∧ ∃ q, w2 = (wr.drewN m).drewN q) := hd' (fun m x y hx hy => by
    subst hx hy
    exact eqR_any _ _ _ _ _ _ _ _ _ (RowG.mod Hi1.o (Gou.Mod.drewN _ _ m) (fun _ _ _ h => h)) (RowG.mod Hi2.o (Gou.Mod.drewN _ _ m) (fun _ _ _ h => h)) L1.o.1 L2.o.1)
   have Hq2 : Hid (∀ m x y, x = Value.slice pp1 nd.ps.length cp1 → y = Value.slice pp2 md.ps.length cp2 → Calls Tryz.prog 122 #[x, y] (wr.drewN m) fun e w2 => e = .returned (.bool (decide (nd.ps = md.ps))) ∧ ∃ q, w2 = (wr.drewN m).drewN q) := hd' (fun m x y hx hy => by
    subst hx hy
    exact eqR_any _ _ _ _ _ _ _ _ _ (RowG.mod Hp1.o (Gou.Mod.drewN _ _ m) (fun _ _ _ h => h)) (RowG.mod Hp2.o (Gou.Mod.drewN _ _ m) (fun _ _ _ h => h)) L1.o.2 L2.o.2)
   clear Hi1 Hi2 Hp1 Hp2 L1 L2
   by_cases hop : nd.op = md.op
   case neg =>
    have e4 : (nd.op != md.op) = true := by simp [hop]
    have Hs := hd' (Hne.o fun h => hop (by rw [h]))
    clear hop
    go_wp2_with fail
    go_quiet (fail)
    go_wp2_with fail
    go_ret
    exact ⟨by simp [uui, Hs.o], HM.o.trans' (Hm.o.trans' (Gou.Mod.drewN _ _ _))⟩
   have e4 : (nd.op != md.op) = false := by simp [hop]
   have Hop := hd' hop
   clear hop
   by_cases hin : nd.ins = md.ins
   case neg =>
    have Hs := hd' (Hne.o fun h => hin (by rw [h]))
    have hd : decide (nd.ins = md.ins) = false := by simp [hin]
    rw [hd] at Hq1
    clear hin hd
    go_wp2_with fail
    go_quiet (first | (go_at_call 122; exact Calls.quiet_of (Hq1.o _ _ _ rfl rfl)))
    go_wp2_with fail
    go_ret
    exact ⟨by simp [uui, Hs.o], HM.o.trans' (Hm.o.trans' (Gou.Mod.drewN _ _ _))⟩
   have Hin := hd' hin
   have hd : decide (nd.ins = md.ins) = true := by simp [hin]
   rw [hd] at Hq1
   clear hin hd
   by_cases hps : nd.ps = md.ps
   case neg =>
    have Hs := hd' (Hne.o fun h => hps (by rw [h]))
    have hd : decide (nd.ps = md.ps) = false := by simp [hps]
    rw [hd] at Hq2
    clear hps hd
    go_wp2_with fail
    go_quiet (first | (go_at_call 122; first | exact Calls.quiet_of (Hq1.o _ _ _ rfl rfl) | exact Calls.quiet_of (Hq2.o _ _ _ rfl rfl)))
    go_wp2_with fail
    go_ret
    exact ⟨by simp [uui, Hs.o], HM.o.trans' (Hm.o.trans' (Gou.Mod.drewN _ _ _))⟩
   have hd : decide (nd.ps = md.ps) = true := by simp [hps]
   have Hs := hd' (Heq.o (urx nd md |>.2 ⟨Hop.o, Hin.o, hps⟩))
   rw [hd] at Hq2
   have hgl := Hgl.o
   clear hps hd
   go_wp2_with fail
   go_quiet (first | (go_at_call 122; first | exact Calls.quiet_of (Hq1.o _ _ _ rfl rfl) | exact Calls.quiet_of (Hq2.o _ _ _ rfl rfl)))
   go_wp2_with fail
   go_roundw
   case rel => exact ⟨i + 1, by go_num, by omega, Hs.o, Hm.o.trans' (Gou.Mod.drewN _ _ _)⟩
   case measure => simp [intOf]; omega
  ·obtain rfl : i = g.nodes.length := by omega
   have e3 : decide ((g.nodes.length : Int) < (g.nodes.length : Int)) = false := by simp
   have Hs : Hid (g = k) := hd' (by
    have h1 := Ht.o
    rw [List.take_length, Hlen.o, List.take_length] at h1
    exact (uui g k).2 ⟨Ho.o, h1⟩)
   go_wp2_with fail
   go_ret
   exact ⟨by rw [dqt Hs.o]; rfl, HM.o.trans' Hm.o⟩
theorem uir (a b : Rc) (w : World) : (binOp .neq 25 (.agg #[iV a.x0, iV a.y0, iV a.x1, iV a.y1]) (.agg #[iV b.x0, iV b.y0, iV b.x1, iV b.y1])).run Tryz.prog w = .ok (.bool (!decide (a = b))) w := by
 simp only [binOp, Sem.run_bind, uis, Result.andThen_ok, Sem.run_pure, rc_eq]
theorem uit (a b : Pxl) (w : World) : (binOp .neq 27 (.agg #[.int .u8 (a.p0 : Nat), .int .u8 (a.p1 : Nat), .int .u8 (a.p2 : Nat), .int .u8 (a.p3 : Nat)]) (.agg #[.int .u8 (b.p0 : Nat), .int .u8 (b.p1 : Nat), .int .u8 (b.p2 : Nat), .int .u8 (b.p3 : Nat)])).run Tryz.prog w = .ok (.bool (!decide (a = b))) w := by
 rw [px_neq]
 simp only [px_eq]
theorem contR_any (w : World) (G1 G2 : Nat → Prop) (p1 p2 : Option Addr) (k1 k2 : Nat) (c e : Ct) (hx : PixR G1 w (.slice p1 c.pix.length k1) c.pix) (hy : PixR G2 w (.slice p2 e.pix.length k2) e.pix) (l1 : c.pix.length ≤ 1000000000) (l2 : e.pix.length ≤ 1000000000) :
  Calls Tryz.prog 93 #[.agg (uak c (.slice p1 c.pix.length k1)), .agg (uak e (.slice p2 e.pix.length k2))] w fun r w' => r = .returned (.bool (decide (c = e))) ∧ Gou.Mod (fun _ => False) w w' := by
 have HM : Hid (Gou.Mod (fun _ => False) w ((w.alloc (.cells (uak c (.slice p1 c.pix.length k1)) 30)).alloc (.cells (uak e (.slice p2 e.pix.length k2)) 30))) := hd' ((Gou.Mod.alloc _ _ _).trans' (Gou.Mod.alloc _ _ _))
 have Hx : Hid (PixR G1 ((w.alloc (.cells (uak c (.slice p1 c.pix.length k1)) 30)).alloc (.cells (uak e (.slice p2 e.pix.length k2)) 30)) (.slice p1 c.pix.length k1) c.pix) := hd' (RowG.mod hx HM.o (fun _ _ _ h => h))
 have Hy : Hid (PixR G2 ((w.alloc (.cells (uak c (.slice p1 c.pix.length k1)) 30)).alloc (.cells (uak e (.slice p2 e.pix.length k2)) 30)) (.slice p2 e.pix.length k2) e.pix) := hd' (RowG.mod hy HM.o (fun _ _ _ h => h))
 have HA : Hid (Blk ((w.alloc (.cells (uak c (.slice p1 c.pix.length k1)) 30)).alloc (.cells (uak e (.slice p2 e.pix.length k2)) 30)) w.heap.size 30 (uak c (.slice p1 c.pix.length k1))) := hd' ((show Blk (w.alloc (.cells (uak c (.slice p1 c.pix.length k1)) 30)) w.heap.size 30 _ from heap_alloc_new w _).mod (Gou.Mod.alloc (fun _ => False) _ _) (fun h => h))
 have HB : Hid (Blk ((w.alloc (.cells (uak c (.slice p1 c.pix.length k1)) 30)).alloc (.cells (uak e (.slice p2 e.pix.length k2)) 30)) (w.heap.size + 1) 30 (uak e (.slice p2 e.pix.length k2))) := hd' (by
  have := heap_alloc_new (w.alloc (.cells (uak c (.slice p1 c.pix.length k1)) 30)) (.cells (uak e (.slice p2 e.pix.length k2)) 30)
  rw [World.size_alloc] at this
  exact this)
 clear hx hy
 have a0 : (((w.alloc (.cells (uak c (.slice p1 c.pix.length k1)) 30)).alloc (.cells (uak e (.slice p2 e.pix.length k2)) 30))).cell? ⟨w.heap.size, 0, none⟩ = some (iV c.kind) := HA.o.cell 0 rfl
 have b0 : (((w.alloc (.cells (uak c (.slice p1 c.pix.length k1)) 30)).alloc (.cells (uak e (.slice p2 e.pix.length k2)) 30))).cell? ⟨w.heap.size + 1, 0, none⟩ = some (iV e.kind) := HB.o.cell 0 rfl
 have a1 : (((w.alloc (.cells (uak c (.slice p1 c.pix.length k1)) 30)).alloc (.cells (uak e (.slice p2 e.pix.length k2)) 30))).cell? ⟨w.heap.size, 1, none⟩ = some (iV c.box.x0) := HA.o.cell 1 rfl
 have b1 : (((w.alloc (.cells (uak c (.slice p1 c.pix.length k1)) 30)).alloc (.cells (uak e (.slice p2 e.pix.length k2)) 30))).cell? ⟨w.heap.size + 1, 1, none⟩ = some (iV e.box.x0) := HB.o.cell 1 rfl
 have a2 : (((w.alloc (.cells (uak c (.slice p1 c.pix.length k1)) 30)).alloc (.cells (uak e (.slice p2 e.pix.length k2)) 30))).cell? ⟨w.heap.size, 2, none⟩ = some (iV c.box.y0) := HA.o.cell 2 rfl
 have b2 : (((w.alloc (.cells (uak c (.slice p1 c.pix.length k1)) 30)).alloc (.cells (uak e (.slice p2 e.pix.length k2)) 30))).cell? ⟨w.heap.size + 1, 2, none⟩ = some (iV e.box.y0) := HB.o.cell 2 rfl
 have a3 : (((w.alloc (.cells (uak c (.slice p1 c.pix.length k1)) 30)).alloc (.cells (uak e (.slice p2 e.pix.length k2)) 30))).cell? ⟨w.heap.size, 3, none⟩ = some (iV c.box.x1) := HA.o.cell 3 rfl
 have b3 : (((w.alloc (.cells (uak c (.slice p1 c.pix.length k1)) 30)).alloc (.cells (uak e (.slice p2 e.pix.length k2)) 30))).cell? ⟨w.heap.size + 1, 3, none⟩ = some (iV e.box.x1) := HB.o.cell 3 rfl
 have a4 : (((w.alloc (.cells (uak c (.slice p1 c.pix.length k1)) 30)).alloc (.cells (uak e (.slice p2 e.pix.length k2)) 30))).cell? ⟨w.heap.size, 4, none⟩ = some (iV c.box.y1) := HA.o.cell 4 rfl
 have b4 : (((w.alloc (.cells (uak c (.slice p1 c.pix.length k1)) 30)).alloc (.cells (uak e (.slice p2 e.pix.length k2)) 30))).cell? ⟨w.heap.size + 1, 4, none⟩ = some (iV e.box.y1) := HB.o.cell 4 rfl
 have a5 : (((w.alloc (.cells (uak c (.slice p1 c.pix.length k1)) 30)).alloc (.cells (uak e (.slice p2 e.pix.length k2)) 30))).cell? ⟨w.heap.size, 5, none⟩ = some (.int .u8 (c.px.p0 : Nat)) := HA.o.cell 5 rfl
 have b5 : (((w.alloc (.cells (uak c (.slice p1 c.pix.length k1)) 30)).alloc (.cells (uak e (.slice p2 e.pix.length k2)) 30))).cell? ⟨w.heap.size + 1, 5, none⟩ = some (.int .u8 (e.px.p0 : Nat)) := HB.o.cell 5 rfl
 have a6 : (((w.alloc (.cells (uak c (.slice p1 c.pix.length k1)) 30)).alloc (.cells (uak e (.slice p2 e.pix.length k2)) 30))).cell? ⟨w.heap.size, 6, none⟩ = some (.int .u8 (c.px.p1 : Nat)) := HA.o.cell 6 rfl
 have b6 : (((w.alloc (.cells (uak c (.slice p1 c.pix.length k1)) 30)).alloc (.cells (uak e (.slice p2 e.pix.length k2)) 30))).cell? ⟨w.heap.size + 1, 6, none⟩ = some (.int .u8 (e.px.p1 : Nat)) := HB.o.cell 6 rfl
 have a7 : (((w.alloc (.cells (uak c (.slice p1 c.pix.length k1)) 30)).alloc (.cells (uak e (.slice p2 e.pix.length k2)) 30))).cell? ⟨w.heap.size, 7, none⟩ = some (.int .u8 (c.px.p2 : Nat)) := HA.o.cell 7 rfl
 have b7 : (((w.alloc (.cells (uak c (.slice p1 c.pix.length k1)) 30)).alloc (.cells (uak e (.slice p2 e.pix.length k2)) 30))).cell? ⟨w.heap.size + 1, 7, none⟩ = some (.int .u8 (e.px.p2 : Nat)) := HB.o.cell 7 rfl
 have a8 : (((w.alloc (.cells (uak c (.slice p1 c.pix.length k1)) 30)).alloc (.cells (uak e (.slice p2 e.pix.length k2)) 30))).cell? ⟨w.heap.size, 8, none⟩ = some (.int .u8 (c.px.p3 : Nat)) := HA.o.cell 8 rfl
 have b8 : (((w.alloc (.cells (uak c (.slice p1 c.pix.length k1)) 30)).alloc (.cells (uak e (.slice p2 e.pix.length k2)) 30))).cell? ⟨w.heap.size + 1, 8, none⟩ = some (.int .u8 (e.px.p3 : Nat)) := HB.o.cell 8 rfl
 have a9 : (((w.alloc (.cells (uak c (.slice p1 c.pix.length k1)) 30)).alloc (.cells (uak e (.slice p2 e.pix.length k2)) 30))).cell? ⟨w.heap.size, 9, none⟩ = some (iV c.w) := HA.o.cell 9 rfl
 have b9 : (((w.alloc (.cells (uak c (.slice p1 c.pix.length k1)) 30)).alloc (.cells (uak e (.slice p2 e.pix.length k2)) 30))).cell? ⟨w.heap.size + 1, 9, none⟩ = some (iV e.w) := HB.o.cell 9 rfl
 have a10 : (((w.alloc (.cells (uak c (.slice p1 c.pix.length k1)) 30)).alloc (.cells (uak e (.slice p2 e.pix.length k2)) 30))).cell? ⟨w.heap.size, 10, none⟩ = some (iV c.h) := HA.o.cell 10 rfl
 have b10 : (((w.alloc (.cells (uak c (.slice p1 c.pix.length k1)) 30)).alloc (.cells (uak e (.slice p2 e.pix.length k2)) 30))).cell? ⟨w.heap.size + 1, 10, none⟩ = some (iV e.h) := HB.o.cell 10 rfl
 have a11 : (((w.alloc (.cells (uak c (.slice p1 c.pix.length k1)) 30)).alloc (.cells (uak e (.slice p2 e.pix.length k2)) 30))).cell? ⟨w.heap.size, 11, none⟩ = some (iV c.turn) := HA.o.cell 11 rfl
 have b11 : (((w.alloc (.cells (uak c (.slice p1 c.pix.length k1)) 30)).alloc (.cells (uak e (.slice p2 e.pix.length k2)) 30))).cell? ⟨w.heap.size + 1, 11, none⟩ = some (iV e.turn) := HB.o.cell 11 rfl
 have a12 : (((w.alloc (.cells (uak c (.slice p1 c.pix.length k1)) 30)).alloc (.cells (uak e (.slice p2 e.pix.length k2)) 30))).cell? ⟨w.heap.size, 12, none⟩ = some (.slice p1 c.pix.length k1) := HA.o.cell 12 rfl
 have b12 : (((w.alloc (.cells (uak c (.slice p1 c.pix.length k1)) 30)).alloc (.cells (uak e (.slice p2 e.pix.length k2)) 30))).cell? ⟨w.heap.size + 1, 12, none⟩ = some (.slice p2 e.pix.length k2) := HB.o.cell 12 rfl
 go_enter Tryz.func93, Tryz.ntmps93
 by_cases h_kind : c.kind = e.kind
 case neg =>
  have q_kind : (c.kind != e.kind) = true := by simp [h_kind]
  have Hq : Hid (decide (c = e) = false) := hd' (by simp [uhd, h_kind])
  clear h_kind
  go_wp2_with fail
  go_ret
  exact ⟨by rw [Hq.o]; rfl, HM.o⟩
 have q_kind : (c.kind != e.kind) = false := by simp [h_kind]
 have I_kind := hd' h_kind
 clear h_kind
 by_cases h_box : c.box = e.box
 case neg =>
  have q_box : ∀ w : World, (binOp .neq 25 (.agg #[iV c.box.x0, iV c.box.y0, iV c.box.x1, iV c.box.y1]) (.agg #[iV e.box.x0, iV e.box.y0, iV e.box.x1, iV e.box.y1])).run Tryz.prog w = .ok (.bool true) w := fun w => (uir c.box e.box w).trans (by simp [h_box])
  have Hq : Hid (decide (c = e) = false) := hd' (by simp [uhd, h_box])
  clear h_box
  go_wp2_with fail
  go_ret
  exact ⟨by rw [Hq.o]; rfl, HM.o⟩
 have q_box : ∀ w : World, (binOp .neq 25 (.agg #[iV c.box.x0, iV c.box.y0, iV c.box.x1, iV c.box.y1]) (.agg #[iV e.box.x0, iV e.box.y0, iV e.box.x1, iV e.box.y1])).run Tryz.prog w = .ok (.bool false) w := fun w => (uir c.box e.box w).trans (by simp [h_box])
 have I_box := hd' h_box
 clear h_box
 by_cases h_px : c.px = e.px
 case neg =>
  have q_px : ∀ w : World, (binOp .neq 27 (.agg #[.int .u8 (c.px.p0 : Nat), .int .u8 (c.px.p1 : Nat), .int .u8 (c.px.p2 : Nat), .int .u8 (c.px.p3 : Nat)]) (.agg #[.int .u8 (e.px.p0 : Nat), .int .u8 (e.px.p1 : Nat), .int .u8 (e.px.p2 : Nat), .int .u8 (e.px.p3 : Nat)])).run Tryz.prog w = .ok (.bool true) w := fun w => (uit c.px e.px w).trans (by simp [h_px])
  have Hq : Hid (decide (c = e) = false) := hd' (by simp [uhd, h_px])
  clear h_px
  go_wp2_with fail
  go_ret
  exact ⟨by rw [Hq.o]; rfl, HM.o⟩
 have q_px : ∀ w : World, (binOp .neq 27 (.agg #[.int .u8 (c.px.p0 : Nat), .int .u8 (c.px.p1 : Nat), .int .u8 (c.px.p2 : Nat), .int .u8 (c.px.p3 : Nat)]) (.agg #[.int .u8 (e.px.p0 : Nat), .int .u8 (e.px.p1 : Nat), .int .u8 (e.px.p2 : Nat), .int .u8 (e.px.p3 : Nat)])).run Tryz.prog w = .ok (.bool false) w := fun w => (uit c.px e.px w).trans (by simp [h_px])
 have I_px := hd' h_px
 clear h_px
 by_cases h_w : c.w = e.w
 case neg =>
  have q_w : (c.w != e.w) = true := by simp [h_w]
  have Hq : Hid (decide (c = e) = false) := hd' (by simp [uhd, h_w])
  clear h_w
  go_wp2_with fail
  go_ret
  exact ⟨by rw [Hq.o]; rfl, HM.o⟩
 have q_w : (c.w != e.w) = false := by simp [h_w]
 have I_w := hd' h_w
 clear h_w
 by_cases h_h : c.h = e.h
 case neg =>
  have q_h : (c.h != e.h) = true := by simp [h_h]
  have Hq : Hid (decide (c = e) = false) := hd' (by simp [uhd, h_h])
  clear h_h
  go_wp2_with fail
  go_ret
  exact ⟨by rw [Hq.o]; rfl, HM.o⟩
 have q_h : (c.h != e.h) = false := by simp [h_h]
 have I_h := hd' h_h
 clear h_h
 by_cases h_turn : c.turn = e.turn
 case neg =>
  have q_turn : (c.turn != e.turn) = true := by simp [h_turn]
  have Hq : Hid (decide (c = e) = false) := hd' (by simp [uhd, h_turn])
  clear h_turn
  go_wp2_with fail
  go_ret
  exact ⟨by rw [Hq.o]; rfl, HM.o⟩
 have q_turn : (c.turn != e.turn) = false := by simp [h_turn]
 have I_turn := hd' h_turn
 clear h_turn
 by_cases hlen : c.pix.length = e.pix.length
 case neg =>
  have q_len : ((c.pix.length : Int) != (e.pix.length : Int)) = true := by simp; omega
  have Hq : Hid (decide (c = e) = false) := hd' (dqf fun h => hlen (by rw [h]))
  clear hlen
  go_wp2_with fail
  go_ret
  exact ⟨by rw [Hq.o]; rfl, HM.o⟩
 have q_len : ((c.pix.length : Int) != (e.pix.length : Int)) = false := by simp [hlen]
 have Hlen := hd' hlen
 clear hlen
 go_wp2_with fail
 clear q_kind q_box q_px q_w q_h q_turn a0 b0 a1 b1 a2 b2 a3 b3 a4 b4 a5 b5 a6 b6 a7 b7 a8 b8 a9 b9 a10 b10 a11 b11 a12 b12
 generalize hW0 : ((w.alloc (.cells (uak c (.slice p1 c.pix.length k1)) 30)).alloc (.cells (uak e (.slice p2 e.pix.length k2)) 30)) = w0 at *
 clear hW0
 go_loopw [5] (fun d wr => ∃ i : Nat, d = iV i ∧ i ≤ c.pix.length ∧ c.pix.take i = e.pix.take i ∧ Gou.Mod (fun _ => False) w0 wr) (fun d _ => c.pix.length - (intOf d).toNat)
 case atStart => exact ⟨0, rfl, by omega, by simp, Gou.Mod.refl _ _⟩
 case round =>
  obtain ⟨i, rfl, hi, ht, hm⟩ := hrel
  have Ht := hd' ht
  have Hm := hd' hm
  have hA := HA.o.mod hm (fun h => h)
  have hB := HB.o.mod hm (fun h => h)
  have d12 : wr.cell? ⟨w.heap.size, 12, none⟩ = some (.slice p1 c.pix.length k1) := hA.cell 12 rfl
  have f12 : wr.cell? ⟨w.heap.size + 1, 12, none⟩ = some (.slice p2 e.pix.length k2) := hB.cell 12 rfl
  clear ht hm hA hB
  by_cases hil : i < c.pix.length
  ·have e2 : decide ((i : Int) < (c.pix.length : Int)) = true := by simp; omega
   have hil2 : i < e.pix.length := by have := Hlen.o; omega
   obtain ⟨-, b1, o1, rfl, hb1, -, hc1⟩ := Hx.o.cells (by omega)
   obtain ⟨-, b2, o2, rfl, hb2, -, hc2⟩ := Hy.o.cells (by omega)
   obtain ⟨k0, k1', k2', k3⟩ := hc1 i hil
   obtain ⟨l0, l1', l2', l3⟩ := hc2 i hil2
   have hm1 : ∀ j, wr.cell? ⟨b1, j, none⟩ = w0.cell? ⟨b1, j, none⟩ := fun j => Hm.o.cell (p := ⟨b1, j, none⟩) hb1 (fun h => h)
   have hm2 : ∀ j, wr.cell? ⟨b2, j, none⟩ = w0.cell? ⟨b2, j, none⟩ := fun j => Hm.o.cell (p := ⟨b2, j, none⟩) hb2 (fun h => h)
   rw [← hm1] at k0 k1' k2' k3
   rw [← hm2] at l0 l1' l2' l3
   clear hm1 hm2
   have hiI : (i : Int) < (c.pix.length : Int) := by omega
   have hiJ : (i : Int) < (e.pix.length : Int) := by omega
   have hi0I : (0 : Int) ≤ (i : Int) := by omega
   have Hne := hd' (fun he => uet (i := i) hil hil2 he : c.pix[i] ≠ e.pix[i] → c.pix ≠ e.pix)
   have Heq := hd' (fun he => uci hil hil2 Ht.o he : c.pix[i] = e.pix[i] → c.pix.take (i + 1) = e.pix.take (i + 1))
   clear hc1 hc2
   generalize c.pix[i] = x at *
   generalize e.pix[i] = y at *
   by_cases hxy : x = y
   ·have hne : ∀ w : World, (binOp .neq 27 (.agg #[.int .u8 (x.p0 : Nat), .int .u8 (x.p1 : Nat), .int .u8 (x.p2 : Nat), .int .u8 (x.p3 : Nat)]) (.agg #[.int .u8 (y.p0 : Nat), .int .u8 (y.p1 : Nat), .int .u8 (y.p2 : Nat), .int .u8 (y.p3 : Nat)])).run Tryz.prog w = .ok (.bool false) w := fun w => (uit x y w).trans (by simp [hxy])
    have Hs := hd' (Heq.o hxy)
    clear hxy
    go_wp2_with fail
    go_quiet (fail)
    go_wp2_with fail
    go_roundw
    case rel => exact ⟨i + 1, by go_num, by omega, Hs.o, Hm.o.trans' (Gou.Mod.drewN _ _ _)⟩
    case measure => simp [intOf]; omega
   ·have hne : ∀ w : World, (binOp .neq 27 (.agg #[.int .u8 (x.p0 : Nat), .int .u8 (x.p1 : Nat), .int .u8 (x.p2 : Nat), .int .u8 (x.p3 : Nat)]) (.agg #[.int .u8 (y.p0 : Nat), .int .u8 (y.p1 : Nat), .int .u8 (y.p2 : Nat), .int .u8 (y.p3 : Nat)])).run Tryz.prog w = .ok (.bool true) w := fun w => (uit x y w).trans (by simp [hxy])
    have Hs := hd' (Hne.o hxy)
    clear hxy
    go_wp2_with fail
    go_quiet (fail)
    go_wp2_with fail
    go_ret
    exact ⟨by rw [show decide (c = e) = false from by simp [uhd, Hs.o]]; rfl, HM.o.trans' (Hm.o.trans' (Gou.Mod.drewN _ _ _))⟩
  ·obtain rfl : i = c.pix.length := by omega
   have e2 : decide ((c.pix.length : Int) < (c.pix.length : Int)) = false := by simp
   have Hs : Hid (decide (c = e) = true) := hd' (by
    have h1 := Ht.o
    rw [List.take_length, Hlen.o, List.take_length] at h1
    simp [uhd, I_kind.o, I_box.o, I_px.o, I_w.o, I_h.o, I_turn.o, h1])
   go_wp2_with fail
   go_ret
   exact ⟨by rw [Hs.o]; rfl, HM.o.trans' Hm.o⟩
theorem lookR_any (w : World) (G1 G2 : Nat → Prop) (p1 p2 p3 q1 q2 q3 : Option Addr) (k1 k2 k3 j1 j2 j3 : Nat) (c e : Lk) (hx : LookR G1 w c (.slice p1 c.content.pix.length k1) (.slice p2 c.filt.nodes.length k2) (.slice p3 c.back.nodes.length k3)) (hy : LookR G2 w e (.slice q1 e.content.pix.length j1) (.slice q2 e.filt.nodes.length j2) (.slice q3 e.back.nodes.length j3)) (l1 : LookBorne c) (l2 : LookBorne e) :
  Calls Tryz.prog 52 #[.agg (lkS c p1 k1 p2 k2 p3 k3), .agg (lkS e q1 j1 q2 j2 q3 j3)] w fun r w' => r = .returned (.bool (decide (c = e))) ∧ Gou.Mod (fun _ => False) w w' := by
 have HM0 : Hid (Gou.Mod (fun _ => False) w ((w.alloc (.cells (lkS c p1 k1 p2 k2 p3 k3) 35)).alloc (.cells (lkS e q1 j1 q2 j2 q3 j3) 35))) := hd' ((Gou.Mod.alloc _ _ _).trans' (Gou.Mod.alloc _ _ _))
 have Hx0 := hd' (LookR.mod hx HM0.o (fun _ _ _ h => h))
 have Hy0 := hd' (LookR.mod hy HM0.o (fun _ _ _ h => h))
 have L1 := hd' l1
 have L2 := hd' l2
 have HA0 : Hid (Blk ((w.alloc (.cells (lkS c p1 k1 p2 k2 p3 k3) 35)).alloc (.cells (lkS e q1 j1 q2 j2 q3 j3) 35)) w.heap.size 35 (lkS c p1 k1 p2 k2 p3 k3)) := hd' ((show Blk (w.alloc (.cells (lkS c p1 k1 p2 k2 p3 k3) 35)) w.heap.size 35 _ from heap_alloc_new w _).mod (Gou.Mod.alloc (fun _ => False) _ _) (fun h => h))
 have HB0 : Hid (Blk ((w.alloc (.cells (lkS c p1 k1 p2 k2 p3 k3) 35)).alloc (.cells (lkS e q1 j1 q2 j2 q3 j3) 35)) (w.heap.size + 1) 35 (lkS e q1 j1 q2 j2 q3 j3)) := hd' (by
  have := heap_alloc_new (w.alloc (.cells (lkS c p1 k1 p2 k2 p3 k3) 35)) (.cells (lkS e q1 j1 q2 j2 q3 j3) 35)
  rw [World.size_alloc] at this
  exact this)
 have Hra : Hid ((((w.alloc (.cells (lkS c p1 k1 p2 k2 p3 k3) 35)).alloc (.cells (lkS e q1 j1 q2 j2 q3 j3) 35))).rangeAt w.heap.size 9 (uak c.content (.slice p1 c.content.pix.length k1)).toList) := hd' (Blk.range HA0.o (ug0 c _ _ _) rfl)
 have Hrb : Hid ((((w.alloc (.cells (lkS c p1 k1 p2 k2 p3 k3) 35)).alloc (.cells (lkS e q1 j1 q2 j2 q3 j3) 35))).rangeAt (w.heap.size + 1) 9 (uak e.content (.slice q1 e.content.pix.length j1)).toList) := hd' (Blk.range HB0.o (ug0 e _ _ _) rfl)
 have HiA : Hid ((Tryz.prog.info? 30).map (·.size) = some (uak c.content (.slice p1 c.content.pix.length k1)).toList.length) := hd' (size_content.trans (by simp [uak]))
 have HiB : Hid ((Tryz.prog.info? 30).map (·.size) = some (uak e.content (.slice q1 e.content.pix.length j1)).toList.length) := hd' (size_content.trans (by simp [uak]))
 clear hx hy l1 l2
 have a0_0 : (((w.alloc (.cells (lkS c p1 k1 p2 k2 p3 k3) 35)).alloc (.cells (lkS e q1 j1 q2 j2 q3 j3) 35))).cell? ⟨w.heap.size, 0, none⟩ = some (iV c.dx) := HA0.o.cell 0 rfl
 have b0_0 : (((w.alloc (.cells (lkS c p1 k1 p2 k2 p3 k3) 35)).alloc (.cells (lkS e q1 j1 q2 j2 q3 j3) 35))).cell? ⟨w.heap.size + 1, 0, none⟩ = some (iV e.dx) := HB0.o.cell 0 rfl
 have a1_0 : (((w.alloc (.cells (lkS c p1 k1 p2 k2 p3 k3) 35)).alloc (.cells (lkS e q1 j1 q2 j2 q3 j3) 35))).cell? ⟨w.heap.size, 1, none⟩ = some (iV c.dy) := HA0.o.cell 1 rfl
 have b1_0 : (((w.alloc (.cells (lkS c p1 k1 p2 k2 p3 k3) 35)).alloc (.cells (lkS e q1 j1 q2 j2 q3 j3) 35))).cell? ⟨w.heap.size + 1, 1, none⟩ = some (iV e.dy) := HB0.o.cell 1 rfl
 have a2_0 : (((w.alloc (.cells (lkS c p1 k1 p2 k2 p3 k3) 35)).alloc (.cells (lkS e q1 j1 q2 j2 q3 j3) 35))).cell? ⟨w.heap.size, 2, none⟩ = some (.bool c.hasClip) := HA0.o.cell 2 rfl
 have b2_0 : (((w.alloc (.cells (lkS c p1 k1 p2 k2 p3 k3) 35)).alloc (.cells (lkS e q1 j1 q2 j2 q3 j3) 35))).cell? ⟨w.heap.size + 1, 2, none⟩ = some (.bool e.hasClip) := HB0.o.cell 2 rfl
 have a3_0 : (((w.alloc (.cells (lkS c p1 k1 p2 k2 p3 k3) 35)).alloc (.cells (lkS e q1 j1 q2 j2 q3 j3) 35))).cell? ⟨w.heap.size, 3, none⟩ = some (iV c.clip.x0) := HA0.o.cell 3 rfl
 have b3_0 : (((w.alloc (.cells (lkS c p1 k1 p2 k2 p3 k3) 35)).alloc (.cells (lkS e q1 j1 q2 j2 q3 j3) 35))).cell? ⟨w.heap.size + 1, 3, none⟩ = some (iV e.clip.x0) := HB0.o.cell 3 rfl
 have a4_0 : (((w.alloc (.cells (lkS c p1 k1 p2 k2 p3 k3) 35)).alloc (.cells (lkS e q1 j1 q2 j2 q3 j3) 35))).cell? ⟨w.heap.size, 4, none⟩ = some (iV c.clip.y0) := HA0.o.cell 4 rfl
 have b4_0 : (((w.alloc (.cells (lkS c p1 k1 p2 k2 p3 k3) 35)).alloc (.cells (lkS e q1 j1 q2 j2 q3 j3) 35))).cell? ⟨w.heap.size + 1, 4, none⟩ = some (iV e.clip.y0) := HB0.o.cell 4 rfl
 have a5_0 : (((w.alloc (.cells (lkS c p1 k1 p2 k2 p3 k3) 35)).alloc (.cells (lkS e q1 j1 q2 j2 q3 j3) 35))).cell? ⟨w.heap.size, 5, none⟩ = some (iV c.clip.x1) := HA0.o.cell 5 rfl
 have b5_0 : (((w.alloc (.cells (lkS c p1 k1 p2 k2 p3 k3) 35)).alloc (.cells (lkS e q1 j1 q2 j2 q3 j3) 35))).cell? ⟨w.heap.size + 1, 5, none⟩ = some (iV e.clip.x1) := HB0.o.cell 5 rfl
 have a6_0 : (((w.alloc (.cells (lkS c p1 k1 p2 k2 p3 k3) 35)).alloc (.cells (lkS e q1 j1 q2 j2 q3 j3) 35))).cell? ⟨w.heap.size, 6, none⟩ = some (iV c.clip.y1) := HA0.o.cell 6 rfl
 have b6_0 : (((w.alloc (.cells (lkS c p1 k1 p2 k2 p3 k3) 35)).alloc (.cells (lkS e q1 j1 q2 j2 q3 j3) 35))).cell? ⟨w.heap.size + 1, 6, none⟩ = some (iV e.clip.y1) := HB0.o.cell 6 rfl
 have a7_0 : (((w.alloc (.cells (lkS c p1 k1 p2 k2 p3 k3) 35)).alloc (.cells (lkS e q1 j1 q2 j2 q3 j3) 35))).cell? ⟨w.heap.size, 7, none⟩ = some (iV c.opacity) := HA0.o.cell 7 rfl
 have b7_0 : (((w.alloc (.cells (lkS c p1 k1 p2 k2 p3 k3) 35)).alloc (.cells (lkS e q1 j1 q2 j2 q3 j3) 35))).cell? ⟨w.heap.size + 1, 7, none⟩ = some (iV e.opacity) := HB0.o.cell 7 rfl
 have a8_0 : (((w.alloc (.cells (lkS c p1 k1 p2 k2 p3 k3) 35)).alloc (.cells (lkS e q1 j1 q2 j2 q3 j3) 35))).cell? ⟨w.heap.size, 8, none⟩ = some (iV c.mode) := HA0.o.cell 8 rfl
 have b8_0 : (((w.alloc (.cells (lkS c p1 k1 p2 k2 p3 k3) 35)).alloc (.cells (lkS e q1 j1 q2 j2 q3 j3) 35))).cell? ⟨w.heap.size + 1, 8, none⟩ = some (iV e.mode) := HB0.o.cell 8 rfl
 have a22_0 : (((w.alloc (.cells (lkS c p1 k1 p2 k2 p3 k3) 35)).alloc (.cells (lkS e q1 j1 q2 j2 q3 j3) 35))).cell? ⟨w.heap.size, 22, none⟩ = some (.bool c.hasFilt) := HA0.o.cell 22 rfl
 have b22_0 : (((w.alloc (.cells (lkS c p1 k1 p2 k2 p3 k3) 35)).alloc (.cells (lkS e q1 j1 q2 j2 q3 j3) 35))).cell? ⟨w.heap.size + 1, 22, none⟩ = some (.bool e.hasFilt) := HB0.o.cell 22 rfl
 have a23_0 : (((w.alloc (.cells (lkS c p1 k1 p2 k2 p3 k3) 35)).alloc (.cells (lkS e q1 j1 q2 j2 q3 j3) 35))).cell? ⟨w.heap.size, 23, none⟩ = some (.slice p2 c.filt.nodes.length k2) := HA0.o.cell 23 rfl
 have b23_0 : (((w.alloc (.cells (lkS c p1 k1 p2 k2 p3 k3) 35)).alloc (.cells (lkS e q1 j1 q2 j2 q3 j3) 35))).cell? ⟨w.heap.size + 1, 23, none⟩ = some (.slice q2 e.filt.nodes.length j2) := HB0.o.cell 23 rfl
 have a24_0 : (((w.alloc (.cells (lkS c p1 k1 p2 k2 p3 k3) 35)).alloc (.cells (lkS e q1 j1 q2 j2 q3 j3) 35))).cell? ⟨w.heap.size, 24, none⟩ = some (iV c.filt.out) := HA0.o.cell 24 rfl
 have b24_0 : (((w.alloc (.cells (lkS c p1 k1 p2 k2 p3 k3) 35)).alloc (.cells (lkS e q1 j1 q2 j2 q3 j3) 35))).cell? ⟨w.heap.size + 1, 24, none⟩ = some (iV e.filt.out) := HB0.o.cell 24 rfl
 have a25_0 : (((w.alloc (.cells (lkS c p1 k1 p2 k2 p3 k3) 35)).alloc (.cells (lkS e q1 j1 q2 j2 q3 j3) 35))).cell? ⟨w.heap.size, 25, none⟩ = some (.bool c.hasBack) := HA0.o.cell 25 rfl
 have b25_0 : (((w.alloc (.cells (lkS c p1 k1 p2 k2 p3 k3) 35)).alloc (.cells (lkS e q1 j1 q2 j2 q3 j3) 35))).cell? ⟨w.heap.size + 1, 25, none⟩ = some (.bool e.hasBack) := HB0.o.cell 25 rfl
 have a26_0 : (((w.alloc (.cells (lkS c p1 k1 p2 k2 p3 k3) 35)).alloc (.cells (lkS e q1 j1 q2 j2 q3 j3) 35))).cell? ⟨w.heap.size, 26, none⟩ = some (.slice p3 c.back.nodes.length k3) := HA0.o.cell 26 rfl
 have b26_0 : (((w.alloc (.cells (lkS c p1 k1 p2 k2 p3 k3) 35)).alloc (.cells (lkS e q1 j1 q2 j2 q3 j3) 35))).cell? ⟨w.heap.size + 1, 26, none⟩ = some (.slice q3 e.back.nodes.length j3) := HB0.o.cell 26 rfl
 have a27_0 : (((w.alloc (.cells (lkS c p1 k1 p2 k2 p3 k3) 35)).alloc (.cells (lkS e q1 j1 q2 j2 q3 j3) 35))).cell? ⟨w.heap.size, 27, none⟩ = some (iV c.back.out) := HA0.o.cell 27 rfl
 have b27_0 : (((w.alloc (.cells (lkS c p1 k1 p2 k2 p3 k3) 35)).alloc (.cells (lkS e q1 j1 q2 j2 q3 j3) 35))).cell? ⟨w.heap.size + 1, 27, none⟩ = some (iV e.back.out) := HB0.o.cell 27 rfl
 have Hr := hd' (ut6 c.clip e.clip)
 have HRc := Hr.o
 go_enter Tryz.func52, Tryz.ntmps52
 by_cases h_dx : c.dx = e.dx
 case neg =>
  have q_dx : (c.dx == e.dx) = false := by simp [h_dx]
  have Hq : Hid (decide (c = e) = false) := hd' (by simp [uex, h_dx])
  clear h_dx
  go_wp2_with fail
  go_ret
  exact ⟨by rw [Hq.o]; rfl, HM0.o⟩
 have q_dx : (c.dx == e.dx) = true := by simp [h_dx]
 have I_dx := hd' h_dx
 clear h_dx
 by_cases h_dy : c.dy = e.dy
 case neg =>
  have q_dy : (c.dy == e.dy) = false := by simp [h_dy]
  have Hq : Hid (decide (c = e) = false) := hd' (by simp [uex, h_dy])
  clear h_dy
  go_wp2_with fail
  go_ret
  exact ⟨by rw [Hq.o]; rfl, HM0.o⟩
 have q_dy : (c.dy == e.dy) = true := by simp [h_dy]
 have I_dy := hd' h_dy
 clear h_dy
 by_cases h_hasClip : c.hasClip = e.hasClip
 case neg =>
  have q_hasClip : (c.hasClip == e.hasClip) = false := by simp [h_hasClip]
  have Hq : Hid (decide (c = e) = false) := hd' (by simp [uex, h_hasClip])
  clear h_hasClip
  go_wp2_with fail
  go_ret
  exact ⟨by rw [Hq.o]; rfl, HM0.o⟩
 have q_hasClip : (c.hasClip == e.hasClip) = true := by simp [h_hasClip]
 have I_hasClip := hd' h_hasClip
 clear h_hasClip
 by_cases h_clip : c.clip = e.clip
 case neg =>
  have q_clip : decide (c.clip = e.clip) = false := by simp [h_clip]
  have Hq : Hid (decide (c = e) = false) := hd' (by simp [uex, h_clip])
  clear h_clip
  go_wp2_with fail
  go_ret
  exact ⟨by rw [Hq.o]; rfl, HM0.o⟩
 have q_clip : decide (c.clip = e.clip) = true := by simp [h_clip]
 have I_clip := hd' h_clip
 clear h_clip
 by_cases h_opacity : c.opacity = e.opacity
 case neg =>
  have q_opacity : (c.opacity == e.opacity) = false := by simp [h_opacity]
  have Hq : Hid (decide (c = e) = false) := hd' (by simp [uex, h_opacity])
  clear h_opacity
  go_wp2_with fail
  go_ret
  exact ⟨by rw [Hq.o]; rfl, HM0.o⟩
 have q_opacity : (c.opacity == e.opacity) = true := by simp [h_opacity]
 have I_opacity := hd' h_opacity
 clear h_opacity
 by_cases h_mode : c.mode = e.mode
 case neg =>
  have q_mode : (c.mode == e.mode) = false := by simp [h_mode]
  have Hq : Hid (decide (c = e) = false) := hd' (by simp [uex, h_mode])
  clear h_mode
  go_wp2_with fail
  go_ret
  exact ⟨by rw [Hq.o]; rfl, HM0.o⟩
 have q_mode : (c.mode == e.mode) = true := by simp [h_mode]
 have I_mode := hd' h_mode
 clear h_mode
 go_wp2_with (first | ((with_reducible refine uj6 ?g1_1 30 ?x1_1 ?o1_1 w.heap.size 9 ?h1_1 (uak c.content (.slice p1 c.content.pix.length k1)).toList ?d1_1 ?c1_1 ?u1_1 ?s1_1 ?i1_1 ?r1_1); (case g1_1 => exact rfl); (case o1_1 => exact rfl); (case h1_1 => exact rfl); (case c1_1 => exact Hra.o); (case u1_1 => exact Tryz.underlying30); (case s1_1 => exact rfl); (case i1_1 => exact HiA.o)) | ((with_reducible refine uj6 ?g1_2 30 ?x1_2 ?o1_2 (w.heap.size + 1) 9 ?h1_2 (uak e.content (.slice q1 e.content.pix.length j1)).toList ?d1_2 ?c1_2 ?u1_2 ?s1_2 ?i1_2 ?r1_2); (case g1_2 => exact rfl); (case o1_2 => exact rfl); (case h1_2 => exact rfl); (case c1_2 => exact Hrb.o); (case u1_2 => exact Tryz.underlying30); (case s1_2 => exact rfl); (case i1_2 => exact HiB.o)) | fail)
 refine (contR_any _ G1 G2 p1 q1 k1 j1 c.content e.content Hx0.o.pix Hy0.o.pix L1.o.pix L2.o.pix).mono ?_
 rintro r w1 ⟨rfl, hm1⟩
 have HM1 := hd' (HM0.o.trans' hm1)
 have Hx1 := hd' (LookR.mod Hx0.o hm1 (fun _ _ _ h => h))
 have Hy1 := hd' (LookR.mod Hy0.o hm1 (fun _ _ _ h => h))
 have HA1 := hd' (HA0.o.mod hm1 (fun h => h))
 have HB1 := hd' (HB0.o.mod hm1 (fun h => h))
 clear hm1
 have a22_1 : w1.cell? ⟨w.heap.size, 22, none⟩ = some (.bool c.hasFilt) := HA1.o.cell 22 rfl
 have b22_1 : w1.cell? ⟨w.heap.size + 1, 22, none⟩ = some (.bool e.hasFilt) := HB1.o.cell 22 rfl
 have a23_1 : w1.cell? ⟨w.heap.size, 23, none⟩ = some (.slice p2 c.filt.nodes.length k2) := HA1.o.cell 23 rfl
 have b23_1 : w1.cell? ⟨w.heap.size + 1, 23, none⟩ = some (.slice q2 e.filt.nodes.length j2) := HB1.o.cell 23 rfl
 have a24_1 : w1.cell? ⟨w.heap.size, 24, none⟩ = some (iV c.filt.out) := HA1.o.cell 24 rfl
 have b24_1 : w1.cell? ⟨w.heap.size + 1, 24, none⟩ = some (iV e.filt.out) := HB1.o.cell 24 rfl
 have a25_1 : w1.cell? ⟨w.heap.size, 25, none⟩ = some (.bool c.hasBack) := HA1.o.cell 25 rfl
 have b25_1 : w1.cell? ⟨w.heap.size + 1, 25, none⟩ = some (.bool e.hasBack) := HB1.o.cell 25 rfl
 have a26_1 : w1.cell? ⟨w.heap.size, 26, none⟩ = some (.slice p3 c.back.nodes.length k3) := HA1.o.cell 26 rfl
 have b26_1 : w1.cell? ⟨w.heap.size + 1, 26, none⟩ = some (.slice q3 e.back.nodes.length j3) := HB1.o.cell 26 rfl
 have a27_1 : w1.cell? ⟨w.heap.size, 27, none⟩ = some (iV c.back.out) := HA1.o.cell 27 rfl
 have b27_1 : w1.cell? ⟨w.heap.size + 1, 27, none⟩ = some (iV e.back.out) := HB1.o.cell 27 rfl
 by_cases h_content : c.content = e.content
 case neg =>
  have q_content : decide (c.content = e.content) = false := by simp [h_content]
  have Hq : Hid (decide (c = e) = false) := hd' (by simp [uex, h_content])
  clear h_content
  generalize decide (c.content = e.content) = q at *
  subst q_content
  go_wp2_with fail
  go_ret
  exact ⟨by rw [Hq.o]; rfl, HM1.o⟩
 have q_content : decide (c.content = e.content) = true := by simp [h_content]
 have I_content := hd' h_content
 clear h_content
 generalize decide (c.content = e.content) = q at *
 subst q_content
 by_cases h_hasFilt : c.hasFilt = e.hasFilt
 case neg =>
  have q_hasFilt : (c.hasFilt == e.hasFilt) = false := by simp [h_hasFilt]
  have Hq : Hid (decide (c = e) = false) := hd' (by simp [uex, h_hasFilt])
  clear h_hasFilt
  go_wp2_with fail
  go_ret
  exact ⟨by rw [Hq.o]; rfl, HM1.o⟩
 have q_hasFilt : (c.hasFilt == e.hasFilt) = true := by simp [h_hasFilt]
 have I_hasFilt := hd' h_hasFilt
 clear h_hasFilt
 go_wp2_with fail
 refine (grR_any _ G1 G2 p2 q2 k2 j2 c.filt e.filt Hx1.o.filt Hy1.o.filt L1.o.filt L2.o.filt).mono ?_
 rintro r w2 ⟨rfl, hm2⟩
 have HM2 := hd' (HM1.o.trans' hm2)
 have Hx2 := hd' (LookR.mod Hx1.o hm2 (fun _ _ _ h => h))
 have Hy2 := hd' (LookR.mod Hy1.o hm2 (fun _ _ _ h => h))
 have HA2 := hd' (HA1.o.mod hm2 (fun h => h))
 have HB2 := hd' (HB1.o.mod hm2 (fun h => h))
 clear hm2
 have a25_2 : w2.cell? ⟨w.heap.size, 25, none⟩ = some (.bool c.hasBack) := HA2.o.cell 25 rfl
 have b25_2 : w2.cell? ⟨w.heap.size + 1, 25, none⟩ = some (.bool e.hasBack) := HB2.o.cell 25 rfl
 have a26_2 : w2.cell? ⟨w.heap.size, 26, none⟩ = some (.slice p3 c.back.nodes.length k3) := HA2.o.cell 26 rfl
 have b26_2 : w2.cell? ⟨w.heap.size + 1, 26, none⟩ = some (.slice q3 e.back.nodes.length j3) := HB2.o.cell 26 rfl
 have a27_2 : w2.cell? ⟨w.heap.size, 27, none⟩ = some (iV c.back.out) := HA2.o.cell 27 rfl
 have b27_2 : w2.cell? ⟨w.heap.size + 1, 27, none⟩ = some (iV e.back.out) := HB2.o.cell 27 rfl
 by_cases h_filt : c.filt = e.filt
 case neg =>
  have q_filt : decide (c.filt = e.filt) = false := by simp [h_filt]
  have Hq : Hid (decide (c = e) = false) := hd' (by simp [uex, h_filt])
  clear h_filt
  generalize decide (c.filt = e.filt) = q at *
  subst q_filt
  go_wp2_with fail
  go_ret
  exact ⟨by rw [Hq.o]; rfl, HM2.o⟩
 have q_filt : decide (c.filt = e.filt) = true := by simp [h_filt]
 have I_filt := hd' h_filt
 clear h_filt
 generalize decide (c.filt = e.filt) = q at *
 subst q_filt
 by_cases h_hasBack : c.hasBack = e.hasBack
 case neg =>
  have q_hasBack : (c.hasBack == e.hasBack) = false := by simp [h_hasBack]
  have Hq : Hid (decide (c = e) = false) := hd' (by simp [uex, h_hasBack])
  clear h_hasBack
  go_wp2_with fail
  go_ret
  exact ⟨by rw [Hq.o]; rfl, HM2.o⟩
 have q_hasBack : (c.hasBack == e.hasBack) = true := by simp [h_hasBack]
 have I_hasBack := hd' h_hasBack
 clear h_hasBack
 go_wp2_with fail
 refine (grR_any _ G1 G2 p3 q3 k3 j3 c.back e.back Hx2.o.back Hy2.o.back L1.o.back L2.o.back).mono ?_
 rintro r w3 ⟨rfl, hm3⟩
 have HM3 := hd' (HM2.o.trans' hm3)
 clear hm3
 have Hq : Hid (decide (c.back = e.back) = decide (c = e)) := hd' (by simp [uex, I_dx.o, I_dy.o, I_hasClip.o, I_clip.o, I_opacity.o, I_mode.o, I_content.o, I_hasFilt.o, I_filt.o, I_hasBack.o])
 generalize decide (c.back = e.back) = q at *
 cases q with
 | true =>
  go_wp2_with fail
  go_ret
  exact ⟨by rw [← Hq.o]; rfl, HM3.o⟩
 | false =>
  go_wp2_with fail
  go_ret
  exact ⟨by rw [← Hq.o]; rfl, HM3.o⟩
end Go.Proofs.YtgolafbneiffpaaGreatDoor
namespace Go.Gou
open Go.RowKit
theorem uvp (a : Ac) (vp vf vb : Value) : (actC a vp vf vb).toList = ([Value.int IntKind.i64 a.kind] ++ ((oprC a.op vp vf vb).toList ++ [Value.int IntKind.i64 a.w, Value.int IntKind.i64 a.h])) ++ ([Value.bool a.conf.fuse, Value.bool a.conf.alias, Value.bool a.conf.roi, Value.bool a.conf.damage, Value.int IntKind.i64 a.conf.room] ++ []) := rfl
end Go.Gou
namespace Go.Proofs.YtgolafbneiffpaaGreatDoor
open Go.RowKit Go.Gou
set_option maxRecDepth 100000
theorem actR_any (w : World) (G1 G2 : Nat → Prop) (p1 p2 p3 q1 q2 q3 : Option Addr) (k1 k2 k3 j1 j2 j3 : Nat) (c e : Ac) (hx : LookR G1 w c.op.look (.slice p1 c.op.look.content.pix.length k1) (.slice p2 c.op.look.filt.nodes.length k2) (.slice p3 c.op.look.back.nodes.length k3)) (hy : LookR G2 w e.op.look (.slice q1 e.op.look.content.pix.length j1) (.slice q2 e.op.look.filt.nodes.length j2) (.slice q3 e.op.look.back.nodes.length j3)) (l1 : LookBorne c.op.look) (l2 : LookBorne e.op.look) :
  Calls Tryz.prog 27 #[.agg (actC c (.slice p1 c.op.look.content.pix.length k1) (.slice p2 c.op.look.filt.nodes.length k2) (.slice p3 c.op.look.back.nodes.length k3)), .agg (actC e (.slice q1 e.op.look.content.pix.length j1) (.slice q2 e.op.look.filt.nodes.length j2) (.slice q3 e.op.look.back.nodes.length j3))] w fun r w' => r = .returned (.bool (decide (c = e))) ∧ Gou.Mod (fun _ => False) w w' := by
 have HM : Hid (Gou.Mod (fun _ => False) w ((w.alloc (.cells (actC c (.slice p1 c.op.look.content.pix.length k1) (.slice p2 c.op.look.filt.nodes.length k2) (.slice p3 c.op.look.back.nodes.length k3)) 41)).alloc (.cells (actC e (.slice q1 e.op.look.content.pix.length j1) (.slice q2 e.op.look.filt.nodes.length j2) (.slice q3 e.op.look.back.nodes.length j3)) 41))) := hd' ((Gou.Mod.alloc _ _ _).trans' (Gou.Mod.alloc _ _ _))
 have Hx := hd' (LookR.mod hx HM.o (fun _ _ _ h => h))
 have Hy := hd' (LookR.mod hy HM.o (fun _ _ _ h => h))
 have L1 := hd' l1
 have L2 := hd' l2
 have HA : Hid (Blk ((w.alloc (.cells (actC c (.slice p1 c.op.look.content.pix.length k1) (.slice p2 c.op.look.filt.nodes.length k2) (.slice p3 c.op.look.back.nodes.length k3)) 41)).alloc (.cells (actC e (.slice q1 e.op.look.content.pix.length j1) (.slice q2 e.op.look.filt.nodes.length j2) (.slice q3 e.op.look.back.nodes.length j3)) 41)) w.heap.size 41 (actC c (.slice p1 c.op.look.content.pix.length k1) (.slice p2 c.op.look.filt.nodes.length k2) (.slice p3 c.op.look.back.nodes.length k3))) := hd' ((show Blk (w.alloc (.cells (actC c (.slice p1 c.op.look.content.pix.length k1) (.slice p2 c.op.look.filt.nodes.length k2) (.slice p3 c.op.look.back.nodes.length k3)) 41)) w.heap.size 41 _ from heap_alloc_new w _).mod (Gou.Mod.alloc (fun _ => False) _ _) (fun h => h))
 have HB : Hid (Blk ((w.alloc (.cells (actC c (.slice p1 c.op.look.content.pix.length k1) (.slice p2 c.op.look.filt.nodes.length k2) (.slice p3 c.op.look.back.nodes.length k3)) 41)).alloc (.cells (actC e (.slice q1 e.op.look.content.pix.length j1) (.slice q2 e.op.look.filt.nodes.length j2) (.slice q3 e.op.look.back.nodes.length j3)) 41)) (w.heap.size + 1) 41 (actC e (.slice q1 e.op.look.content.pix.length j1) (.slice q2 e.op.look.filt.nodes.length j2) (.slice q3 e.op.look.back.nodes.length j3))) := hd' (by
  have := heap_alloc_new (w.alloc (.cells (actC c (.slice p1 c.op.look.content.pix.length k1) (.slice p2 c.op.look.filt.nodes.length k2) (.slice p3 c.op.look.back.nodes.length k3)) 41)) (.cells (actC e (.slice q1 e.op.look.content.pix.length j1) (.slice q2 e.op.look.filt.nodes.length j2) (.slice q3 e.op.look.back.nodes.length j3)) 41)
  rw [World.size_alloc] at this
  exact this)
 have Hra : Hid ((((w.alloc (.cells (actC c (.slice p1 c.op.look.content.pix.length k1) (.slice p2 c.op.look.filt.nodes.length k2) (.slice p3 c.op.look.back.nodes.length k3)) 41)).alloc (.cells (actC e (.slice q1 e.op.look.content.pix.length j1) (.slice q2 e.op.look.filt.nodes.length j2) (.slice q3 e.op.look.back.nodes.length j3)) 41))).rangeAt w.heap.size 7 (lkS c.op.look p1 k1 p2 k2 p3 k3).toList) := hd' (Blk.range HA.o (uo1 c _ _ _) rfl)
 have Hrb : Hid ((((w.alloc (.cells (actC c (.slice p1 c.op.look.content.pix.length k1) (.slice p2 c.op.look.filt.nodes.length k2) (.slice p3 c.op.look.back.nodes.length k3)) 41)).alloc (.cells (actC e (.slice q1 e.op.look.content.pix.length j1) (.slice q2 e.op.look.filt.nodes.length j2) (.slice q3 e.op.look.back.nodes.length j3)) 41))).rangeAt (w.heap.size + 1) 7 (lkS e.op.look q1 j1 q2 j2 q3 j3).toList) := hd' (Blk.range HB.o (uo1 e _ _ _) rfl)
 have HiA : Hid ((Tryz.prog.info? 35).map (·.size) = some (lkS c.op.look p1 k1 p2 k2 p3 k3).toList.length) := hd' (size_look.trans (by simp [uai]))
 have HiB : Hid ((Tryz.prog.info? 35).map (·.size) = some (lkS e.op.look q1 j1 q2 j2 q3 j3).toList.length) := hd' (size_look.trans (by simp [uai]))
 have Hca : Hid ((((w.alloc (.cells (actC c (.slice p1 c.op.look.content.pix.length k1) (.slice p2 c.op.look.filt.nodes.length k2) (.slice p3 c.op.look.back.nodes.length k3)) 41)).alloc (.cells (actC e (.slice q1 e.op.look.content.pix.length j1) (.slice q2 e.op.look.filt.nodes.length j2) (.slice q3 e.op.look.back.nodes.length j3)) 41))).rangeAt w.heap.size 37 [Value.bool c.conf.fuse, Value.bool c.conf.alias, Value.bool c.conf.roi, Value.bool c.conf.damage, Value.int IntKind.i64 c.conf.room]) := hd' (Blk.range (post := []) HA.o (uvp c _ _ _) rfl)
 have Hcb : Hid ((((w.alloc (.cells (actC c (.slice p1 c.op.look.content.pix.length k1) (.slice p2 c.op.look.filt.nodes.length k2) (.slice p3 c.op.look.back.nodes.length k3)) 41)).alloc (.cells (actC e (.slice q1 e.op.look.content.pix.length j1) (.slice q2 e.op.look.filt.nodes.length j2) (.slice q3 e.op.look.back.nodes.length j3)) 41))).rangeAt (w.heap.size + 1) 37 [Value.bool e.conf.fuse, Value.bool e.conf.alias, Value.bool e.conf.roi, Value.bool e.conf.damage, Value.int IntKind.i64 e.conf.room]) := hd' (Blk.range (post := []) HB.o (uvp e _ _ _) rfl)
 have Hcs : Hid ((Tryz.prog.info? 39).map (·.size) = some 5) := hd' (by kernel_rfl)
 clear hx hy l1 l2
 have a1 : (((w.alloc (.cells (actC c (.slice p1 c.op.look.content.pix.length k1) (.slice p2 c.op.look.filt.nodes.length k2) (.slice p3 c.op.look.back.nodes.length k3)) 41)).alloc (.cells (actC e (.slice q1 e.op.look.content.pix.length j1) (.slice q2 e.op.look.filt.nodes.length j2) (.slice q3 e.op.look.back.nodes.length j3)) 41))).cell? ⟨w.heap.size, 1, none⟩ = some (iV c.op.kind) := HA.o.cell 1 rfl
 have b1 : (((w.alloc (.cells (actC c (.slice p1 c.op.look.content.pix.length k1) (.slice p2 c.op.look.filt.nodes.length k2) (.slice p3 c.op.look.back.nodes.length k3)) 41)).alloc (.cells (actC e (.slice q1 e.op.look.content.pix.length j1) (.slice q2 e.op.look.filt.nodes.length j2) (.slice q3 e.op.look.back.nodes.length j3)) 41))).cell? ⟨w.heap.size + 1, 1, none⟩ = some (iV e.op.kind) := HB.o.cell 1 rfl
 have a2 : (((w.alloc (.cells (actC c (.slice p1 c.op.look.content.pix.length k1) (.slice p2 c.op.look.filt.nodes.length k2) (.slice p3 c.op.look.back.nodes.length k3)) 41)).alloc (.cells (actC e (.slice q1 e.op.look.content.pix.length j1) (.slice q2 e.op.look.filt.nodes.length j2) (.slice q3 e.op.look.back.nodes.length j3)) 41))).cell? ⟨w.heap.size, 2, none⟩ = some (iV c.op.id.1) := HA.o.cell 2 rfl
 have b2 : (((w.alloc (.cells (actC c (.slice p1 c.op.look.content.pix.length k1) (.slice p2 c.op.look.filt.nodes.length k2) (.slice p3 c.op.look.back.nodes.length k3)) 41)).alloc (.cells (actC e (.slice q1 e.op.look.content.pix.length j1) (.slice q2 e.op.look.filt.nodes.length j2) (.slice q3 e.op.look.back.nodes.length j3)) 41))).cell? ⟨w.heap.size + 1, 2, none⟩ = some (iV e.op.id.1) := HB.o.cell 2 rfl
 have a3 : (((w.alloc (.cells (actC c (.slice p1 c.op.look.content.pix.length k1) (.slice p2 c.op.look.filt.nodes.length k2) (.slice p3 c.op.look.back.nodes.length k3)) 41)).alloc (.cells (actC e (.slice q1 e.op.look.content.pix.length j1) (.slice q2 e.op.look.filt.nodes.length j2) (.slice q3 e.op.look.back.nodes.length j3)) 41))).cell? ⟨w.heap.size, 3, none⟩ = some (iV c.op.id.2) := HA.o.cell 3 rfl
 have b3 : (((w.alloc (.cells (actC c (.slice p1 c.op.look.content.pix.length k1) (.slice p2 c.op.look.filt.nodes.length k2) (.slice p3 c.op.look.back.nodes.length k3)) 41)).alloc (.cells (actC e (.slice q1 e.op.look.content.pix.length j1) (.slice q2 e.op.look.filt.nodes.length j2) (.slice q3 e.op.look.back.nodes.length j3)) 41))).cell? ⟨w.heap.size + 1, 3, none⟩ = some (iV e.op.id.2) := HB.o.cell 3 rfl
 have a4 : (((w.alloc (.cells (actC c (.slice p1 c.op.look.content.pix.length k1) (.slice p2 c.op.look.filt.nodes.length k2) (.slice p3 c.op.look.back.nodes.length k3)) 41)).alloc (.cells (actC e (.slice q1 e.op.look.content.pix.length j1) (.slice q2 e.op.look.filt.nodes.length j2) (.slice q3 e.op.look.back.nodes.length j3)) 41))).cell? ⟨w.heap.size, 4, none⟩ = some (iV c.op.to.1) := HA.o.cell 4 rfl
 have b4 : (((w.alloc (.cells (actC c (.slice p1 c.op.look.content.pix.length k1) (.slice p2 c.op.look.filt.nodes.length k2) (.slice p3 c.op.look.back.nodes.length k3)) 41)).alloc (.cells (actC e (.slice q1 e.op.look.content.pix.length j1) (.slice q2 e.op.look.filt.nodes.length j2) (.slice q3 e.op.look.back.nodes.length j3)) 41))).cell? ⟨w.heap.size + 1, 4, none⟩ = some (iV e.op.to.1) := HB.o.cell 4 rfl
 have a5 : (((w.alloc (.cells (actC c (.slice p1 c.op.look.content.pix.length k1) (.slice p2 c.op.look.filt.nodes.length k2) (.slice p3 c.op.look.back.nodes.length k3)) 41)).alloc (.cells (actC e (.slice q1 e.op.look.content.pix.length j1) (.slice q2 e.op.look.filt.nodes.length j2) (.slice q3 e.op.look.back.nodes.length j3)) 41))).cell? ⟨w.heap.size, 5, none⟩ = some (iV c.op.to.2) := HA.o.cell 5 rfl
 have b5 : (((w.alloc (.cells (actC c (.slice p1 c.op.look.content.pix.length k1) (.slice p2 c.op.look.filt.nodes.length k2) (.slice p3 c.op.look.back.nodes.length k3)) 41)).alloc (.cells (actC e (.slice q1 e.op.look.content.pix.length j1) (.slice q2 e.op.look.filt.nodes.length j2) (.slice q3 e.op.look.back.nodes.length j3)) 41))).cell? ⟨w.heap.size + 1, 5, none⟩ = some (iV e.op.to.2) := HB.o.cell 5 rfl
 have a6 : (((w.alloc (.cells (actC c (.slice p1 c.op.look.content.pix.length k1) (.slice p2 c.op.look.filt.nodes.length k2) (.slice p3 c.op.look.back.nodes.length k3)) 41)).alloc (.cells (actC e (.slice q1 e.op.look.content.pix.length j1) (.slice q2 e.op.look.filt.nodes.length j2) (.slice q3 e.op.look.back.nodes.length j3)) 41))).cell? ⟨w.heap.size, 6, none⟩ = some (iV c.op.at_) := HA.o.cell 6 rfl
 have b6 : (((w.alloc (.cells (actC c (.slice p1 c.op.look.content.pix.length k1) (.slice p2 c.op.look.filt.nodes.length k2) (.slice p3 c.op.look.back.nodes.length k3)) 41)).alloc (.cells (actC e (.slice q1 e.op.look.content.pix.length j1) (.slice q2 e.op.look.filt.nodes.length j2) (.slice q3 e.op.look.back.nodes.length j3)) 41))).cell? ⟨w.heap.size + 1, 6, none⟩ = some (iV e.op.at_) := HB.o.cell 6 rfl
 have a0 : (((w.alloc (.cells (actC c (.slice p1 c.op.look.content.pix.length k1) (.slice p2 c.op.look.filt.nodes.length k2) (.slice p3 c.op.look.back.nodes.length k3)) 41)).alloc (.cells (actC e (.slice q1 e.op.look.content.pix.length j1) (.slice q2 e.op.look.filt.nodes.length j2) (.slice q3 e.op.look.back.nodes.length j3)) 41))).cell? ⟨w.heap.size, 0, none⟩ = some (iV c.kind) := HA.o.cell 0 rfl
 have b0 : (((w.alloc (.cells (actC c (.slice p1 c.op.look.content.pix.length k1) (.slice p2 c.op.look.filt.nodes.length k2) (.slice p3 c.op.look.back.nodes.length k3)) 41)).alloc (.cells (actC e (.slice q1 e.op.look.content.pix.length j1) (.slice q2 e.op.look.filt.nodes.length j2) (.slice q3 e.op.look.back.nodes.length j3)) 41))).cell? ⟨w.heap.size + 1, 0, none⟩ = some (iV e.kind) := HB.o.cell 0 rfl
 have a35 : (((w.alloc (.cells (actC c (.slice p1 c.op.look.content.pix.length k1) (.slice p2 c.op.look.filt.nodes.length k2) (.slice p3 c.op.look.back.nodes.length k3)) 41)).alloc (.cells (actC e (.slice q1 e.op.look.content.pix.length j1) (.slice q2 e.op.look.filt.nodes.length j2) (.slice q3 e.op.look.back.nodes.length j3)) 41))).cell? ⟨w.heap.size, 35, none⟩ = some (iV c.w) := HA.o.cell 35 rfl
 have b35 : (((w.alloc (.cells (actC c (.slice p1 c.op.look.content.pix.length k1) (.slice p2 c.op.look.filt.nodes.length k2) (.slice p3 c.op.look.back.nodes.length k3)) 41)).alloc (.cells (actC e (.slice q1 e.op.look.content.pix.length j1) (.slice q2 e.op.look.filt.nodes.length j2) (.slice q3 e.op.look.back.nodes.length j3)) 41))).cell? ⟨w.heap.size + 1, 35, none⟩ = some (iV e.w) := HB.o.cell 35 rfl
 have a36 : (((w.alloc (.cells (actC c (.slice p1 c.op.look.content.pix.length k1) (.slice p2 c.op.look.filt.nodes.length k2) (.slice p3 c.op.look.back.nodes.length k3)) 41)).alloc (.cells (actC e (.slice q1 e.op.look.content.pix.length j1) (.slice q2 e.op.look.filt.nodes.length j2) (.slice q3 e.op.look.back.nodes.length j3)) 41))).cell? ⟨w.heap.size, 36, none⟩ = some (iV c.h) := HA.o.cell 36 rfl
 have b36 : (((w.alloc (.cells (actC c (.slice p1 c.op.look.content.pix.length k1) (.slice p2 c.op.look.filt.nodes.length k2) (.slice p3 c.op.look.back.nodes.length k3)) 41)).alloc (.cells (actC e (.slice q1 e.op.look.content.pix.length j1) (.slice q2 e.op.look.filt.nodes.length j2) (.slice q3 e.op.look.back.nodes.length j3)) 41))).cell? ⟨w.heap.size + 1, 36, none⟩ = some (iV e.h) := HB.o.cell 36 rfl
 have Hr1 := hd' (udm c.op.id e.op.id)
 have Hr2 := hd' (udm c.op.to e.op.to)
 have Hr3 := hd' (conf_op c.conf e.conf)
 have HRi := Hr1.o
 have HRt := Hr2.o
 have HRc := Hr3.o
 go_enter Tryz.func27, Tryz.ntmps27
 iterate 16 (first | go_values | go_skip | go_guarded | go_step | go_upon | go_back)
 simp only [List.append]
 by_cases h_kind : c.kind = e.kind
 case neg =>
  have q_kind : (c.kind == e.kind) = false := by simp [h_kind]
  have Hq : Hid (decide (c = e) = false) := hd' (by simp [unu, h_kind])
  clear h_kind
  go_wp2_with (first | ((with_reducible refine uj6 ?g1_5 39 ?x1_5 ?o1_5 w.heap.size 37 ?h1_5 [Value.bool c.conf.fuse, Value.bool c.conf.alias, Value.bool c.conf.roi, Value.bool c.conf.damage, Value.int IntKind.i64 c.conf.room] ?d1_5 ?c1_5 ?u1_5 ?s1_5 ?i1_5 ?r1_5); (case g1_5 => exact rfl); (case o1_5 => exact rfl); (case h1_5 => exact rfl); (case c1_5 => exact Hca.o); (case u1_5 => exact Tryz.underlying39); (case s1_5 => exact rfl); (case i1_5 => exact Hcs.o)) | ((with_reducible refine uj6 ?g1_6 39 ?x1_6 ?o1_6 (w.heap.size + 1) 37 ?h1_6 [Value.bool e.conf.fuse, Value.bool e.conf.alias, Value.bool e.conf.roi, Value.bool e.conf.damage, Value.int IntKind.i64 e.conf.room] ?d1_6 ?c1_6 ?u1_6 ?s1_6 ?i1_6 ?r1_6); (case g1_6 => exact rfl); (case o1_6 => exact rfl); (case h1_6 => exact rfl); (case c1_6 => exact Hcb.o); (case u1_6 => exact Tryz.underlying39); (case s1_6 => exact rfl); (case i1_6 => exact Hcs.o)) | fail)
  go_ret
  exact ⟨by rw [Hq.o]; rfl, HM.o⟩
 have q_kind : (c.kind == e.kind) = true := by simp [h_kind]
 have I_kind := hd' h_kind
 clear h_kind
 by_cases h_w : c.w = e.w
 case neg =>
  have q_w : (c.w == e.w) = false := by simp [h_w]
  have Hq : Hid (decide (c = e) = false) := hd' (by simp [unu, h_w])
  clear h_w
  go_wp2_with (first | ((with_reducible refine uj6 ?g1_7 39 ?x1_7 ?o1_7 w.heap.size 37 ?h1_7 [Value.bool c.conf.fuse, Value.bool c.conf.alias, Value.bool c.conf.roi, Value.bool c.conf.damage, Value.int IntKind.i64 c.conf.room] ?d1_7 ?c1_7 ?u1_7 ?s1_7 ?i1_7 ?r1_7); (case g1_7 => exact rfl); (case o1_7 => exact rfl); (case h1_7 => exact rfl); (case c1_7 => exact Hca.o); (case u1_7 => exact Tryz.underlying39); (case s1_7 => exact rfl); (case i1_7 => exact Hcs.o)) | ((with_reducible refine uj6 ?g1_8 39 ?x1_8 ?o1_8 (w.heap.size + 1) 37 ?h1_8 [Value.bool e.conf.fuse, Value.bool e.conf.alias, Value.bool e.conf.roi, Value.bool e.conf.damage, Value.int IntKind.i64 e.conf.room] ?d1_8 ?c1_8 ?u1_8 ?s1_8 ?i1_8 ?r1_8); (case g1_8 => exact rfl); (case o1_8 => exact rfl); (case h1_8 => exact rfl); (case c1_8 => exact Hcb.o); (case u1_8 => exact Tryz.underlying39); (case s1_8 => exact rfl); (case i1_8 => exact Hcs.o)) | fail)
  go_ret
  exact ⟨by rw [Hq.o]; rfl, HM.o⟩
 have q_w : (c.w == e.w) = true := by simp [h_w]
 have I_w := hd' h_w
 clear h_w
 by_cases h_h : c.h = e.h
 case neg =>
  have q_h : (c.h == e.h) = false := by simp [h_h]
  have Hq : Hid (decide (c = e) = false) := hd' (by simp [unu, h_h])
  clear h_h
  go_wp2_with (first | ((with_reducible refine uj6 ?g1_9 39 ?x1_9 ?o1_9 w.heap.size 37 ?h1_9 [Value.bool c.conf.fuse, Value.bool c.conf.alias, Value.bool c.conf.roi, Value.bool c.conf.damage, Value.int IntKind.i64 c.conf.room] ?d1_9 ?c1_9 ?u1_9 ?s1_9 ?i1_9 ?r1_9); (case g1_9 => exact rfl); (case o1_9 => exact rfl); (case h1_9 => exact rfl); (case c1_9 => exact Hca.o); (case u1_9 => exact Tryz.underlying39); (case s1_9 => exact rfl); (case i1_9 => exact Hcs.o)) | ((with_reducible refine uj6 ?g1_10 39 ?x1_10 ?o1_10 (w.heap.size + 1) 37 ?h1_10 [Value.bool e.conf.fuse, Value.bool e.conf.alias, Value.bool e.conf.roi, Value.bool e.conf.damage, Value.int IntKind.i64 e.conf.room] ?d1_10 ?c1_10 ?u1_10 ?s1_10 ?i1_10 ?r1_10); (case g1_10 => exact rfl); (case o1_10 => exact rfl); (case h1_10 => exact rfl); (case c1_10 => exact Hcb.o); (case u1_10 => exact Tryz.underlying39); (case s1_10 => exact rfl); (case i1_10 => exact Hcs.o)) | fail)
  go_ret
  exact ⟨by rw [Hq.o]; rfl, HM.o⟩
 have q_h : (c.h == e.h) = true := by simp [h_h]
 have I_h := hd' h_h
 clear h_h
 by_cases h_conf : c.conf = e.conf
 case neg =>
  have q_conf : decide (c.conf = e.conf) = false := by simp [h_conf]
  have Hq : Hid (decide (c = e) = false) := hd' (by simp [unu, h_conf])
  clear h_conf
  go_wp2_with (first | ((with_reducible refine uj6 ?g1_11 39 ?x1_11 ?o1_11 w.heap.size 37 ?h1_11 [Value.bool c.conf.fuse, Value.bool c.conf.alias, Value.bool c.conf.roi, Value.bool c.conf.damage, Value.int IntKind.i64 c.conf.room] ?d1_11 ?c1_11 ?u1_11 ?s1_11 ?i1_11 ?r1_11); (case g1_11 => exact rfl); (case o1_11 => exact rfl); (case h1_11 => exact rfl); (case c1_11 => exact Hca.o); (case u1_11 => exact Tryz.underlying39); (case s1_11 => exact rfl); (case i1_11 => exact Hcs.o)) | ((with_reducible refine uj6 ?g1_12 39 ?x1_12 ?o1_12 (w.heap.size + 1) 37 ?h1_12 [Value.bool e.conf.fuse, Value.bool e.conf.alias, Value.bool e.conf.roi, Value.bool e.conf.damage, Value.int IntKind.i64 e.conf.room] ?d1_12 ?c1_12 ?u1_12 ?s1_12 ?i1_12 ?r1_12); (case g1_12 => exact rfl); (case o1_12 => exact rfl); (case h1_12 => exact rfl); (case c1_12 => exact Hcb.o); (case u1_12 => exact Tryz.underlying39); (case s1_12 => exact rfl); (case i1_12 => exact Hcs.o)) | fail)
  go_ret
  exact ⟨by rw [Hq.o]; rfl, HM.o⟩
 have q_conf : decide (c.conf = e.conf) = true := by simp [h_conf]
 have I_conf := hd' h_conf
 clear h_conf
 by_cases h_op_kind : c.op.kind = e.op.kind
 case neg =>
  have q_op_kind : (c.op.kind == e.op.kind) = false := by simp [h_op_kind]
  have Hq : Hid (decide (c = e) = false) := hd' (by simp [unu, h_op_kind])
  clear h_op_kind
  go_wp2_with (first | ((with_reducible refine uj6 ?g1_13 39 ?x1_13 ?o1_13 w.heap.size 37 ?h1_13 [Value.bool c.conf.fuse, Value.bool c.conf.alias, Value.bool c.conf.roi, Value.bool c.conf.damage, Value.int IntKind.i64 c.conf.room] ?d1_13 ?c1_13 ?u1_13 ?s1_13 ?i1_13 ?r1_13); (case g1_13 => exact rfl); (case o1_13 => exact rfl); (case h1_13 => exact rfl); (case c1_13 => exact Hca.o); (case u1_13 => exact Tryz.underlying39); (case s1_13 => exact rfl); (case i1_13 => exact Hcs.o)) | ((with_reducible refine uj6 ?g1_14 39 ?x1_14 ?o1_14 (w.heap.size + 1) 37 ?h1_14 [Value.bool e.conf.fuse, Value.bool e.conf.alias, Value.bool e.conf.roi, Value.bool e.conf.damage, Value.int IntKind.i64 e.conf.room] ?d1_14 ?c1_14 ?u1_14 ?s1_14 ?i1_14 ?r1_14); (case g1_14 => exact rfl); (case o1_14 => exact rfl); (case h1_14 => exact rfl); (case c1_14 => exact Hcb.o); (case u1_14 => exact Tryz.underlying39); (case s1_14 => exact rfl); (case i1_14 => exact Hcs.o)) | fail)
  go_ret
  exact ⟨by rw [Hq.o]; rfl, HM.o⟩
 have q_op_kind : (c.op.kind == e.op.kind) = true := by simp [h_op_kind]
 have I_op_kind := hd' h_op_kind
 clear h_op_kind
 by_cases h_op_id : c.op.id = e.op.id
 case neg =>
  have q_op_id : decide (c.op.id = e.op.id) = false := by simp [h_op_id]
  have Hq : Hid (decide (c = e) = false) := hd' (by simp [unu, h_op_id])
  clear h_op_id
  go_wp2_with (first | ((with_reducible refine uj6 ?g1_15 39 ?x1_15 ?o1_15 w.heap.size 37 ?h1_15 [Value.bool c.conf.fuse, Value.bool c.conf.alias, Value.bool c.conf.roi, Value.bool c.conf.damage, Value.int IntKind.i64 c.conf.room] ?d1_15 ?c1_15 ?u1_15 ?s1_15 ?i1_15 ?r1_15); (case g1_15 => exact rfl); (case o1_15 => exact rfl); (case h1_15 => exact rfl); (case c1_15 => exact Hca.o); (case u1_15 => exact Tryz.underlying39); (case s1_15 => exact rfl); (case i1_15 => exact Hcs.o)) | ((with_reducible refine uj6 ?g1_16 39 ?x1_16 ?o1_16 (w.heap.size + 1) 37 ?h1_16 [Value.bool e.conf.fuse, Value.bool e.conf.alias, Value.bool e.conf.roi, Value.bool e.conf.damage, Value.int IntKind.i64 e.conf.room] ?d1_16 ?c1_16 ?u1_16 ?s1_16 ?i1_16 ?r1_16); (case g1_16 => exact rfl); (case o1_16 => exact rfl); (case h1_16 => exact rfl); (case c1_16 => exact Hcb.o); (case u1_16 => exact Tryz.underlying39); (case s1_16 => exact rfl); (case i1_16 => exact Hcs.o)) | fail)
  go_ret
  exact ⟨by rw [Hq.o]; rfl, HM.o⟩
 have q_op_id : decide (c.op.id = e.op.id) = true := by simp [h_op_id]
 have I_op_id := hd' h_op_id
 clear h_op_id
 by_cases h_op_to : c.op.to = e.op.to
 case neg =>
  have q_op_to : decide (c.op.to = e.op.to) = false := by simp [h_op_to]
  have Hq : Hid (decide (c = e) = false) := hd' (by simp [unu, h_op_to])
  clear h_op_to
  go_wp2_with (first | ((with_reducible refine uj6 ?g1_17 39 ?x1_17 ?o1_17 w.heap.size 37 ?h1_17 [Value.bool c.conf.fuse, Value.bool c.conf.alias, Value.bool c.conf.roi, Value.bool c.conf.damage, Value.int IntKind.i64 c.conf.room] ?d1_17 ?c1_17 ?u1_17 ?s1_17 ?i1_17 ?r1_17); (case g1_17 => exact rfl); (case o1_17 => exact rfl); (case h1_17 => exact rfl); (case c1_17 => exact Hca.o); (case u1_17 => exact Tryz.underlying39); (case s1_17 => exact rfl); (case i1_17 => exact Hcs.o)) | ((with_reducible refine uj6 ?g1_18 39 ?x1_18 ?o1_18 (w.heap.size + 1) 37 ?h1_18 [Value.bool e.conf.fuse, Value.bool e.conf.alias, Value.bool e.conf.roi, Value.bool e.conf.damage, Value.int IntKind.i64 e.conf.room] ?d1_18 ?c1_18 ?u1_18 ?s1_18 ?i1_18 ?r1_18); (case g1_18 => exact rfl); (case o1_18 => exact rfl); (case h1_18 => exact rfl); (case c1_18 => exact Hcb.o); (case u1_18 => exact Tryz.underlying39); (case s1_18 => exact rfl); (case i1_18 => exact Hcs.o)) | fail)
  go_ret
  exact ⟨by rw [Hq.o]; rfl, HM.o⟩
 have q_op_to : decide (c.op.to = e.op.to) = true := by simp [h_op_to]
 have I_op_to := hd' h_op_to
 clear h_op_to
 by_cases h_op_at_ : c.op.at_ = e.op.at_
 case neg =>
  have q_op_at_ : (c.op.at_ == e.op.at_) = false := by simp [h_op_at_]
  have Hq : Hid (decide (c = e) = false) := hd' (by simp [unu, h_op_at_])
  clear h_op_at_
  go_wp2_with (first | ((with_reducible refine uj6 ?g1_19 39 ?x1_19 ?o1_19 w.heap.size 37 ?h1_19 [Value.bool c.conf.fuse, Value.bool c.conf.alias, Value.bool c.conf.roi, Value.bool c.conf.damage, Value.int IntKind.i64 c.conf.room] ?d1_19 ?c1_19 ?u1_19 ?s1_19 ?i1_19 ?r1_19); (case g1_19 => exact rfl); (case o1_19 => exact rfl); (case h1_19 => exact rfl); (case c1_19 => exact Hca.o); (case u1_19 => exact Tryz.underlying39); (case s1_19 => exact rfl); (case i1_19 => exact Hcs.o)) | ((with_reducible refine uj6 ?g1_20 39 ?x1_20 ?o1_20 (w.heap.size + 1) 37 ?h1_20 [Value.bool e.conf.fuse, Value.bool e.conf.alias, Value.bool e.conf.roi, Value.bool e.conf.damage, Value.int IntKind.i64 e.conf.room] ?d1_20 ?c1_20 ?u1_20 ?s1_20 ?i1_20 ?r1_20); (case g1_20 => exact rfl); (case o1_20 => exact rfl); (case h1_20 => exact rfl); (case c1_20 => exact Hcb.o); (case u1_20 => exact Tryz.underlying39); (case s1_20 => exact rfl); (case i1_20 => exact Hcs.o)) | fail)
  go_ret
  exact ⟨by rw [Hq.o]; rfl, HM.o⟩
 have q_op_at_ : (c.op.at_ == e.op.at_) = true := by simp [h_op_at_]
 have I_op_at_ := hd' h_op_at_
 clear h_op_at_
 go_wp2_with (first | ((with_reducible refine uj6 ?g1_21 39 ?x1_21 ?o1_21 w.heap.size 37 ?h1_21 [Value.bool c.conf.fuse, Value.bool c.conf.alias, Value.bool c.conf.roi, Value.bool c.conf.damage, Value.int IntKind.i64 c.conf.room] ?d1_21 ?c1_21 ?u1_21 ?s1_21 ?i1_21 ?r1_21); (case g1_21 => exact rfl); (case o1_21 => exact rfl); (case h1_21 => exact rfl); (case c1_21 => exact Hca.o); (case u1_21 => exact Tryz.underlying39); (case s1_21 => exact rfl); (case i1_21 => exact Hcs.o)) | ((with_reducible refine uj6 ?g1_22 39 ?x1_22 ?o1_22 (w.heap.size + 1) 37 ?h1_22 [Value.bool e.conf.fuse, Value.bool e.conf.alias, Value.bool e.conf.roi, Value.bool e.conf.damage, Value.int IntKind.i64 e.conf.room] ?d1_22 ?c1_22 ?u1_22 ?s1_22 ?i1_22 ?r1_22); (case g1_22 => exact rfl); (case o1_22 => exact rfl); (case h1_22 => exact rfl); (case c1_22 => exact Hcb.o); (case u1_22 => exact Tryz.underlying39); (case s1_22 => exact rfl); (case i1_22 => exact Hcs.o)) | ((with_reducible refine uj6 ?g1_23 35 ?x1_23 ?o1_23 w.heap.size 7 ?h1_23 (lkS c.op.look p1 k1 p2 k2 p3 k3).toList ?d1_23 ?c1_23 ?u1_23 ?s1_23 ?i1_23 ?r1_23); (case g1_23 => exact rfl); (case o1_23 => exact rfl); (case h1_23 => exact rfl); (case c1_23 => exact Hra.o); (case u1_23 => exact Tryz.underlying35); (case s1_23 => exact rfl); (case i1_23 => exact HiA.o)) | ((with_reducible refine uj6 ?g1_24 35 ?x1_24 ?o1_24 (w.heap.size + 1) 7 ?h1_24 (lkS e.op.look q1 j1 q2 j2 q3 j3).toList ?d1_24 ?c1_24 ?u1_24 ?s1_24 ?i1_24 ?r1_24); (case g1_24 => exact rfl); (case o1_24 => exact rfl); (case h1_24 => exact rfl); (case c1_24 => exact Hrb.o); (case u1_24 => exact Tryz.underlying35); (case s1_24 => exact rfl); (case i1_24 => exact HiB.o)) | fail)
 refine (lookR_any _ G1 G2 p1 p2 p3 q1 q2 q3 k1 k2 k3 j1 j2 j3 c.op.look e.op.look Hx.o Hy.o L1.o L2.o).mono ?_
 rintro r w1 ⟨rfl, hm1⟩
 have HM1 := hd' (HM.o.trans' hm1)
 clear hm1
 have Hq : Hid (decide (c.op.look = e.op.look) = decide (c = e)) := hd' (by simp [unu, I_op_kind.o, I_op_id.o, I_op_to.o, I_op_at_.o, I_kind.o, I_w.o, I_h.o, I_conf.o])
 generalize decide (c.op.look = e.op.look) = q at *
 cases q with
 | true =>
  go_wp2_with fail
  go_ret
  exact ⟨by rw [← Hq.o]; rfl, HM1.o⟩
 | false =>
  go_wp2_with fail
  go_ret
  exact ⟨by rw [← Hq.o]; rfl, HM1.o⟩
end Go.Proofs.YtgolafbneiffpaaGreatDoor
