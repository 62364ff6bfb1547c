/- Texts of the scenes' proofs, laid together: CRdM, CRdN, CGetA, CGetB, CGetC, WrA, WrB, WrC, WrD, WrE. -/
import Derived.Test.YtgolafbneiffpaaGreatDoorZad
import Derived.Great.BuildSlice
set_option maxHeartbeats 64000000
set_option linter.unusedSimpArgs false
set_option linter.unusedVariables false
set_option linter.unusedSectionVars false
set_option linter.constructorNameAsVariable false
namespace Go.Proofs.YtgolafbneiffpaaGreatDoor
open Go.RowKit Go.Gou
theorem ult {P : Program} {fn : Func} {p q : Tmp} {T U : TypeId} (h : fn.results = #[.cell p T, .cell q U]) (tmps : Array Value) (w : World) (g o : Nat) (va vo : Value)
  (hp : tmps.getD p undef = .pointer (some ⟨g, 0, none⟩)) (hq : tmps.getD q undef = .pointer (some ⟨o, 0, none⟩)) (hA : (loadVar T ⟨g, 0, none⟩).run P w = .ok va w) (hO : (loadVar U ⟨o, 0, none⟩).run P w = .ok vo w) :
  (results fn tmps).run P w = .ok (.tuple #[va, vo]) w := by
 have hp' : tmps[p]?.getD undef = .pointer (some ⟨g, 0, none⟩) := by simpa using hp
 have hq' : tmps[q]?.getD undef = .pointer (some ⟨o, 0, none⟩) := by simpa using hq
 simp [results, h, hp', hq', asAddr, hA, hO]
end Go.Proofs.YtgolafbneiffpaaGreatDoor
namespace Go.Gou
open Go.RowKit
def Reads (bs : List Nat) : List Ac → Nat → Nat → Prop
 | [], n, m => n = m
 | a :: xs, n, m => ∃ k, uk9 bs n = some (a, k) ∧ Reads bs xs k m
theorem Reads.snoc {bs : List Nat} {xs : List Ac} {n m k : Nat} {a : Ac} (h : Reads bs xs n m) (ha : uk9 bs m = some (a, k)) : Reads bs (xs ++ [a]) n k := by
 induction xs generalizing n with
 | nil => obtain rfl : n = m := h; exact ⟨k, ha, rfl⟩
 | cons b r ih => obtain ⟨q, h1, h2⟩ := h; exact ⟨q, h1, ih h2⟩
structure ActsIn (w : World) (base : Nat) (cs : List Value) (xs : List Ac) (lo hi : Nat → Nat) : Prop where
 len : cs.length = xs.length * 42
 ord : ∀ i j, i < j → j < xs.length → hi i ≤ lo j
 top : ∀ i, i < xs.length → base ≤ lo i ∧ hi i ≤ w.heap.size
 at_ : ∀ i, (h : i < xs.length) → ∃ vp vf vb, (∀ j, j < 42 → cs[i * 42 + j]? = (actC xs[i] vp vf vb)[j]?) ∧ LookR (fun b => lo i ≤ b ∧ b < hi i) w xs[i].op.look vp vf vb ∧
     ∀ b, vp.ownBlock = some b → (lo i ≤ b ∧ b < hi i) ∧ ∃ cur T, w.heap[b]? = some (.cells cur T (0, 0))
theorem ActsIn.nil (w : World) (base : Nat) : ActsIn w base [] [] (fun _ => 0) (fun _ => 0) := ⟨rfl, fun i j _ h => by simp at h, fun i h => by simp at h, fun i h => by simp at h⟩
theorem ActsIn.mod {w w' : World} {base : Nat} {cs : List Value} {xs : List Ac} {lo hi : Nat → Nat} {S : Nat → Prop} (h : ActsIn w base cs xs lo hi) (hm : Mod S w w') (hS : ∀ i b, i < xs.length → lo i ≤ b → b < hi i → ¬ S b) : ActsIn w' base cs xs lo hi := by
 refine ⟨h.len, h.ord, fun i hi' => ⟨(h.top i hi').1, Nat.le_trans (h.top i hi').2 hm.size⟩, fun i hi' => ?_⟩
 obtain ⟨vp, vf, vb, h1, h2, h3⟩ := h.at_ i hi'
 refine ⟨vp, vf, vb, h1, h2.mod hm (fun k _ hG => hS i k hi' hG.1 hG.2), fun b hb => ?_⟩
 obtain ⟨h4, cur, T, h5⟩ := h3 b hb
 refine ⟨h4, cur, T, ?_⟩
 have hlt : b < w.heap.size := (Array.getElem?_eq_some_iff.1 h5).1
 rw [hm.block b hlt (hS i b hi' h4.1 h4.2), h5]
theorem uma (a : Ac) (vp vf vb : Value) : (actC a vp vf vb).size = 42 := by simp [actC]
theorem LookR.below {B : Nat} {w : World} {l : Lk} {vp vf vb : Value} (h : LookR (fun b => B ≤ b) w l vp vf vb) : LookR (fun b => B ≤ b ∧ b < w.heap.size) w l vp vf vb := h.imp fun k hk hG => ⟨hG, hk⟩
theorem ActsIn.snoc {w : World} {base : Nat} {cs : List Value} {xs : List Ac} {lo hi : Nat → Nat} (h : ActsIn w base cs xs lo hi) {a : Ac} {vp vf vb : Value} {l t : Nat} (hl : ∀ i, i < xs.length → hi i ≤ l) (hb : base ≤ l) (ht : t ≤ w.heap.size)
  (hL : LookR (fun b => l ≤ b ∧ b < t) w a.op.look vp vf vb) (hs : ∀ b, vp.ownBlock = some b → (l ≤ b ∧ b < t) ∧ ∃ cur T, w.heap[b]? = some (.cells cur T (0, 0))) :
  ActsIn w base (cs ++ (actC a vp vf vb).toList) (xs ++ [a]) (fun i => if i = xs.length then l else lo i) (fun i => if i = xs.length then t else hi i) := by
 have hn : (actC a vp vf vb).toList.length = 42 := by simp [actC]
 refine ⟨by simp [h.len, actC]; omega, fun i j hij hj => ?_, fun i hi' => ?_, fun i hi' => ?_⟩
 ·simp at hj
  have hi0 : i ≠ xs.length := by omega
  by_cases e : j = xs.length
  ·simp only [hi0, if_false, e, if_true]; exact hl i (by omega)
  ·simp only [hi0, e, if_false]; exact h.ord i j hij (by omega)
 ·simp at hi'
  by_cases e : i = xs.length
  ·simp only [e, if_true]; exact ⟨hb, ht⟩
  ·simp only [e, if_false]; exact h.top i (by omega)
 ·simp at hi'
  by_cases e : i = xs.length
  ·subst e
   refine ⟨vp, vf, vb, fun j hj => ?_, ?_, ?_⟩
   ·rw [lgR (by rw [h.len]; omega), h.len]
    have : xs.length * 42 + j - xs.length * 42 = j := by omega
    rw [this]
    simp
   ·simpa using hL
   ·simpa using hs
  ·have hlt : i < xs.length := by omega
   obtain ⟨vp', vf', vb', h1, h2, h3⟩ := h.at_ i hlt
   refine ⟨vp', vf', vb', fun j hj => ?_, ?_, ?_⟩
   ·rw [lgL (by rw [h.len]; omega), h1 j hj]
    simp [List.getElem_append_left hlt]
   ·simpa [e, List.getElem_append_left hlt] using h2
   ·simpa [e] using h3
def ActsV (TA : TypeId) (base : Nat) (w : World) (v : Value) (xs : List Ac) : Prop := ∃ cs lo hi, w.ownsRow base TA 42 v xs.length cs ∧ ActsIn w base cs xs lo hi ∧ ∀ g i, v.ownBlock = some g → i < xs.length → ¬ (lo i ≤ g ∧ g < hi i)
structure GetIn (w : World) (R : Nat) (vb : Value) (bs : List Nat) (TA : TypeId) (xs : List Ac) (q : Nat) (vs : Value) (cs : List Value) (lo hi : Nat → Nat) (wr : World) : Prop where
 old : RdAt w R vb bs 0
 rd : RdAt wr R vb bs q
 mod : Mod (fun k => k = R) w wr
 reads : Reads bs xs 0 q
 own : wr.ownsRow w.heap.size TA 42 vs xs.length cs
 acts : ActsIn wr w.heap.size cs xs lo hi
 apart : ∀ g i, vs.ownBlock = some g → i < xs.length → ¬ (lo i ≤ g ∧ g < hi i)
 cnt : xs.length ≤ q
theorem BytesAt.imp {G G' : Nat → Prop} {w : World} {v : Value} {bs : List Nat} (h : BytesAt G w v bs) (hG : ∀ k, k < w.heap.size → G k → G' k) : BytesAt G' w v bs := by
 obtain ⟨p, cap, rfl, hcap, h⟩ := h
 refine ⟨p, cap, rfl, hcap, h.imp id ?_⟩
 rintro ⟨b, o, rfl, hB, hg, hc⟩
 exact ⟨b, o, rfl, hB, hG b hB hg, hc⟩
theorem RdAt.make {w : World} {vb : Value} {bs : List Nat} {T : TypeId} (h : BytesAt (fun _ => True) w vb bs) (hb : ∀ x ∈ bs, x < 256) (hl : bs.length ≤ maxLen) : RdAt (w.alloc (.cells #[vb, iV 0] T)) w.heap.size vb bs 0 := by
 refine ⟨by rw [World.cell?_alloc_new]; rfl, by rw [World.cell?_alloc_new]; rfl, World.frozen?_alloc_new _ _ _ _, ?_, Nat.zero_le _, hb, hl⟩
 exact ((h.imp (G' := fun k => k < w.heap.size) fun k hk _ => hk).mod (Mod.alloc (fun _ => False) w _) (fun _ _ _ h => h)).imp fun k _ hk => by omega
theorem GetIn.step {w : World} {R : Nat} {vb : Value} {bs : List Nat} {TA : TypeId} {xs : List Ac} {q : Nat} {vs : Value} {cs : List Value} {lo hi : Nat → Nat} {wr w1 w3 w4 : World} (h : GetIn w R vb bs TA xs q vs cs lo hi wr)
  (hm1 : Mod (fun k => k = R) wr w1) {a : Ac} {m : Nat} (ha : uk9 bs q = some (a, m)) (hr1 : RdAt w1 R vb bs m) {vp vf vb2 : Value} (hL : LookR (fun b => wr.heap.size ≤ b) w1 a.op.look vp vf vb2) (hs : SoftB wr.heap.size w1 vp)
  (hm3 : Mod (fun k => w1.heap.size ≤ k) w1 w3) {gg cp t : Nat} (ht : t = xs.length + 1) (hown : w4.ownsRow w.heap.size TA 42 (.slice (some ⟨gg, 0, none⟩) t cp) t (cs ++ (actC a vp vf vb2).toList)) (hgrow : w3.grownBy w4 vs.ownBlock) (hat : vs.ownBlock = some gg ∨ gg = w3.heap.size) (hqm : q < m) :
  ∃ lo' hi', GetIn w R vb bs TA (xs ++ [a]) m (.slice (some ⟨gg, 0, none⟩) t cp) (cs ++ (actC a vp vf vb2).toList) lo' hi' w4 := by
 subst ht
 have hRr := h.old.lt
 have hs0 := h.mod.size
 have hs1 := hm1.size
 have hs3 := hm3.size
 have hvlt : ∀ k, vs.ownBlock = some k → w.heap.size ≤ k ∧ k < wr.heap.size := fun k hk => h.own.lt k hk
 have hm34 : Mod (fun k => vs.ownBlock = some k) w3 w4 := Mod.of_grown hgrow
 have hs4 := hm34.size
 have hmR : Mod (fun k => w1.heap.size ≤ k ∨ vs.ownBlock = some k) w1 w4 := (hm3.imp fun _ _ h => .inl h).trans' (hm34.imp fun _ _ h => .inr h)
 have ha0 : ActsIn w4 w.heap.size cs xs lo hi := by
  refine ((h.acts.mod hm1 fun i b hi' hlo hhi e => ?_)).mod hmR fun i b hi' hlo hhi e => ?_
  ·have := (h.acts.top i hi').1; omega
  ·have h2 := (h.acts.top i hi').2
   rcases e with e | e
   ·omega
   ·exact h.apart b i e hi' ⟨hlo, hhi⟩
 have hL1 := (hL.below).mod hmR (fun k hk hG e => by
  rcases e with e | e
  ·omega
  ·have := hvlt k e; omega)
 have hs2 : ∀ b, vp.ownBlock = some b → (wr.heap.size ≤ b ∧ b < w1.heap.size) ∧ ∃ cur T, w4.heap[b]? = some (.cells cur T (0, 0)) := fun b hb => by
  obtain ⟨h1, cur, T, h2⟩ := hs b hb
  have hlt : b < w1.heap.size := (Array.getElem?_eq_some_iff.1 h2).1
  refine ⟨⟨h1, hlt⟩, cur, T, ?_⟩
  rw [hmR.block b hlt (by
   rintro (e | e)
   ·omega
   ·have := hvlt b e; omega), h2]
 have hac := ha0.snoc (a := a) (vp := vp) (vf := vf) (vb := vb2) (l := wr.heap.size) (t := w1.heap.size) (fun i hi' => (h.acts.top i hi').2) (by omega) (by omega) hL1 hs2
 have hmW : Mod (fun k => k = R) w w3 := (h.mod.trans' hm1).trans hm3 fun i hi e => by omega
 have hr3 : RdAt w3 R vb bs m := hr1.mod hm3 (by omega) (fun k hk _ e => by omega)
 have hown3 : w3.ownsRow w.heap.size TA 42 vs xs.length cs := uac (uac h.own hm1 fun k hk e => by have := hvlt k hk; omega) hm3 fun k hk e => by have := hvlt k hk; omega
 refine ⟨_, _, h.old, h.old.grown hr3 hmW hown3 hgrow (Nat.le_refl _), hmW.grown hown3 hgrow (Nat.le_refl _), h.reads.snoc ha, by simpa using hown, hac, ?_, ?_⟩
 ·intro g i hg hi'
  simp only [Value.ownBlock, Option.some.injEq] at hg
  subst hg
  simp only [List.length_append, List.length_cons, List.length_nil] at hi'
  by_cases e : i = xs.length
  ·simp only [e, if_true]
   rintro ⟨h1, h2⟩
   rcases hat with hat | hat
   ·have := hvlt _ hat; omega
   ·omega
  ·simp only [e, if_false]
   rcases hat with hat | hat
   ·exact h.apart _ i hat (by omega)
   ·have := (h.acts.top i (by omega)).2
    omega
 ·have := h.cnt
  simp only [List.length_append, List.length_cons, List.length_nil]
  omega
theorem uno {w : World} {base base' : Nat} {e : TypeId} {k : Nat} {v : Value} {n : Nat} {xs : List Value} (h : w.ownsRow base e k v n xs) (hb : base' ≤ base) : w.ownsRow base' e k v n xs := by
 obtain ⟨h1, h2⟩ := h
 refine ⟨h1, h2.imp id ?_⟩
 rintro ⟨g, cap, cur, rfl, hg, r⟩
 exact ⟨g, cap, cur, rfl, Nat.le_trans hb hg, r⟩
theorem ActsIn.low {w : World} {base base' : Nat} {cs : List Value} {xs : List Ac} {lo hi : Nat → Nat} (h : ActsIn w base cs xs lo hi) (hb : base' ≤ base) : ActsIn w base' cs xs lo hi :=
 ⟨h.len, h.ord, fun i hi' => ⟨Nat.le_trans hb (h.top i hi').1, (h.top i hi').2⟩, h.at_⟩
theorem GetIn.done {w : World} {R : Nat} {vb : Value} {bs : List Nat} {TA : TypeId} {xs : List Ac} {q : Nat} {vs : Value} {cs : List Value} {lo hi : Nat → Nat} {wr w' : World} (h : GetIn w R vb bs TA xs q vs cs lo hi wr) (hm : Mod (fun k => k = R ∨ wr.heap.size ≤ k) wr w')
  {base : Nat} (hb : base ≤ w.heap.size) : ActsV TA base w' vs xs := by
 have hR := h.old.lt
 refine ⟨cs, lo, hi, uno (uac h.own hm fun k hk e => by have := h.own.lt k hk; omega) hb, (h.acts.mod hm fun i b hi' hlo hhi e => ?_).low hb, h.apart⟩
 have := h.acts.top i hi'
 omega
theorem ukm (w : World) (b o : Nat) (vs : List Value) : (w.setCells b o vs).heap.size = w.heap.size := by
 induction vs generalizing w o with
 | nil => rfl
 | cons v r ih => rw [World.setCells, ih, World.size_setCell]
theorem upr {P : Program} {ops : Array Oper} {rest : List Oper} {o : Oper} {a : Act} {w : World} {Q : Exit → Act → World → Prop} (hg : o.guard = none) (t e : TypeId) (x : Operand) (ho : o.op = .buildSlice t 1 #[(0, x)])
  (cs : Array Value) (hx : a.eval x = .agg cs) (ie : TypeInfo) (z : Value) (hu : P.underlying t = some (.slice e)) (hie : P.info? e = some ie) (hz : ie.zero = some z) (hs : ie.size = cs.size) (hzs : z.cells.size = cs.size) (h0 : 0 < cs.size) (hsm : cs.size ≤ 2 ^ 24)
  (h : wpList P ops Q rest (a.put o.dst (.slice (some ⟨w.heap.size, 0, none⟩) 1 1)) (w.alloc (.cells cs e))) : wpList P ops Q (o :: rest) a w := by
 refine wpList_buildSlice hg t e 1 _ ho cs ie z hu hie hz (by omega) (by omega) ?_ h
 have := Great.fill_whole (s := cs.size) h0 [.agg cs] ((Array.range (1 * cs.size)).map (z.cells[· % z.cells.size]!)) (fun v hv => by
  simp only [List.mem_cons, List.not_mem_nil, or_false] at hv
  subst hv
  rfl) (by simp)
 rw [hs]
 simpa [hx, Value.cells] using this
end Go.Gou
namespace Go.Proofs.YtgolafbneiffpaaGreatDoor
open Go.RowKit Go.Gou
theorem uvc : (Tryz.prog.info? 41).map (fun i => (i.zero, i.size, i.bytes)) = some (some (.agg lz42), 42, 336) := by kernel_rfl
end Go.Proofs.YtgolafbneiffpaaGreatDoor
namespace Go.Gou
open Go.RowKit
abbrev u8s (bs : List Nat) : List Value := bs.map fun x => .int .u8 (x : Nat)
def encM (m : Nat) : List Nat := if h : m < 128 then [m] else (m % 128 + 128) :: encM (m / 128)
termination_by m
decreasing_by omega
def zig (n : Int) : Nat := if n < 0 then (-(2 * n) - 1).toNat else (2 * n).toNat
def ul1 (n : Int) : List Nat := encM (zig n)
def ug4 : List Int → Option (List Nat)
 | [] => some []
 | x :: r => if -2147483648 ≤ x ∧ x < 2147483648 then (ug4 r).map (ul1 x ++ ·) else none
theorem uk8 {m : Nat} (h : m < 128) : encM m = [m] := by rw [encM, dif_pos h]
theorem umi {m : Nat} (h : ¬ m < 128) : encM m = (m % 128 + 128) :: encM (m / 128) := by rw [encM, dif_neg h]
theorem encM_len (k : Nat) : ∀ m, m < 128 ^ (k + 1) → (encM m).length ≤ k + 1 := by
 induction k with
 | zero => intro m hm; rw [uk8 (by simpa using hm)]; simp
 | succ k ih =>
  intro m hm
  by_cases h : m < 128
  ·rw [uk8 h]; simp
  ·rw [umi h]
   have : m / 128 < 128 ^ (k + 1) := by
    rw [Nat.div_lt_iff_lt_mul (by omega)]
    rwa [← Nat.pow_succ]
   have := ih _ this
   simp only [List.length_cons]
   omega
theorem zig_lt {n : Int} (h : -2147483648 ≤ n ∧ n < 2147483648) : zig n < 4294967296 := by
 unfold zig
 split <;> omega
theorem uni {n : Int} (h : -2147483648 ≤ n ∧ n < 2147483648) : (ul1 n).length ≤ 5 := encM_len 4 _ (Nat.lt_trans (zig_lt h) (by decide))
theorem uj9 {xs : List Int} {es : List Nat} (h : ug4 xs = some es) : es.length ≤ 5 * xs.length := by
 induction xs generalizing es with
 | nil => simp only [ug4, Option.some.injEq] at h; subst h; simp
 | cons x r ih =>
  rw [ug4] at h
  split at h
  ·rename_i hx
   obtain ⟨e2, h2, rfl⟩ := Option.map_eq_some_iff.1 h
   have := ih h2
   have := uni hx
   simp only [List.length_append, List.length_cons]
   omega
  ·cases h
structure WrAt (w : World) (W : Nat) (TW TB : TypeId) (bs : List Nat) (vs : Value) : Prop where
 box : Blk w W TW #[vs]
 own : w.ownsRow (W + 1) TB 1 vs bs.length (u8s bs)
structure WTo (W : Nat) (w : World) (vs : Value) (w' : World) (vs' : Value) : Prop where
 mod : Mod (fun k => k = W ∨ vs.ownBlock = some k) w w'
 fresh : ∀ g, vs'.ownBlock = some g → vs.ownBlock = some g ∨ w.heap.size ≤ g
theorem WTo.refl (W : Nat) (w : World) (vs : Value) : WTo W w vs w vs := ⟨Mod.refl _ _, fun _ h => .inl h⟩
theorem WTo.trans {W : Nat} {w w1 w2 : World} {vs v1 v2 : Value} (h : WTo W w vs w1 v1) (k : WTo W w1 v1 w2 v2) : WTo W w vs w2 v2 := by
 refine ⟨h.mod.trans k.mod fun i hi hs => ?_, fun g hg => ?_⟩
 ·rcases hs with hs | hs
  ·exact .inl hs
  ·rcases h.fresh i hs with h' | h'
   ·exact .inr h'
   ·omega
 ·rcases k.fresh g hg with h' | h'
  ·exact h.fresh g h'
  ·exact .inr (Nat.le_trans h.mod.size h')
theorem WTo.other {W : Nat} {w w' : World} (h : Mod (fun _ => False) w w') (vs : Value) : WTo W w vs w' vs := ⟨h.imp fun _ _ h => h.elim, fun _ h => .inl h⟩
theorem WrAt.other {w w' : World} {W : Nat} {TW TB : TypeId} {bs : List Nat} {vs : Value} (h : WrAt w W TW TB bs vs) {S : Nat → Prop} (hm : Mod S w w') (hW : ¬ S W) (hS : ∀ k, vs.ownBlock = some k → ¬ S k) : WrAt w' W TW TB bs vs :=
 ⟨h.box.mod hm hW, uac h.own hm hS⟩
theorem WrAt.push {w w2 : World} {W : Nat} {TW TB : TypeId} {bs : List Nat} {vs : Value} {x : Nat} {o : Obj} {gg cp t : Nat} (h : WrAt w W TW TB bs vs) (ht : t = bs.length + 1)
  (hown : w2.ownsRow (W + 1) TB 1 (.slice (some ⟨gg, 0, none⟩) t cp) t (u8s bs ++ [.int .u8 (x : Nat)])) (hgrow : (w.alloc o).grownBy w2 vs.ownBlock) (hat : vs.ownBlock = some gg ∨ gg = w.heap.size + 1) :
  WrAt (w2.setCell ⟨W, 0, none⟩ (.slice (some ⟨gg, 0, none⟩) t cp)) W TW TB (bs ++ [x]) (.slice (some ⟨gg, 0, none⟩) t cp) ∧ WTo W w vs (w2.setCell ⟨W, 0, none⟩ (.slice (some ⟨gg, 0, none⟩) t cp)) (.slice (some ⟨gg, 0, none⟩) t cp) := by
 subst ht
 have hlt : ∀ k, vs.ownBlock = some k → W + 1 ≤ k ∧ k < w.heap.size := fun k hk => h.own.lt k hk
 have hW := Blk.lt h.box
 have hm2 := Mod.of_grown hgrow
 have hb2 : Blk w2 W TW #[vs] := (h.box.mod (Mod.alloc (fun _ => False) w o) (fun h => h)).mod hm2 (fun e => by have := hlt _ e; omega)
 have hggW : gg ≠ W := by
  rcases hat with hat | hat
  ·have := hlt _ hat; omega
  ·omega
 refine ⟨⟨hb2.set 0 _, ?_⟩, ⟨?_, ?_⟩⟩
 ·have e : u8s (bs ++ [x]) = u8s bs ++ [.int .u8 (x : Nat)] := by simp [u8s]
  rw [e]
  have h1 := uac (S := fun k => k = W) hown (Mod.setCell w2 ⟨W, 0, none⟩ (.slice (some ⟨gg, 0, none⟩) (bs.length + 1) cp)) (fun k hk => by simp only [Value.ownBlock, Option.some.injEq] at hk; subst hk; exact hggW)
  simpa using h1
 ·exact (((Mod.alloc _ w o).trans' (hm2.imp fun _ _ h => .inr h)).trans' ((Mod.setCell w2 ⟨W, 0, none⟩ _).imp fun _ _ h => .inl h))
 ·intro g hg
  simp only [Value.ownBlock, Option.some.injEq] at hg
  subst hg
  rcases hat with hat | hat
  ·exact .inl hat
  ·exact .inr (by omega)
theorem WrAt.mid {w w2 : World} {W : Nat} {TW TB : TypeId} {bs : List Nat} {vs : Value} {o : Obj} (h : WrAt w W TW TB bs vs) (hgrow : (w.alloc o).grownBy w2 vs.ownBlock) : w2.cell? ⟨W, 0, none⟩ = some vs ∧ w2.frozen? ⟨W, 0, none⟩ = false := by
 have hb2 : Blk w2 W TW #[vs] := (h.box.mod (Mod.alloc (fun _ => False) w o) (fun h => h)).mod (Mod.of_grown hgrow) (fun e => by have := (h.own.lt _ e).1; omega)
 exact ⟨hb2.cell 0 rfl, hb2.frozen 0⟩
theorem IntsR.cells {G : Nat → Prop} {w : World} {p : Option Addr} {c n : Nat} {xs : List Int} (h : IntsR G w (.slice p n c) xs) (h0 : 0 < xs.length) :
  n = xs.length ∧ ∃ b o, p = some ⟨b, o, none⟩ ∧ b < w.heap.size ∧ G b ∧ ∀ i, i < xs.length → w.cell? ⟨b, o + i, none⟩ = some (iV (xs.getD i 0)) := by
 obtain ⟨hl, p', c', e, hcap, h⟩ := h
 simp only [Value.slice.injEq] at e
 obtain ⟨rfl, rfl, rfl⟩ := e
 rcases h with h | ⟨b, o, rfl, hb, hG, hc⟩
 ·omega
 ·refine ⟨rfl, b, o, rfl, hb, hG, fun i hi => hc i _ ?_⟩
  simp [ivs, List.getD, hi]
theorem utg {xs : List Int} {i : Nat} (h : i < xs.length) : ug4 (xs.drop i) = if -2147483648 ≤ xs.getD i 0 ∧ xs.getD i 0 < 2147483648 then (ug4 (xs.drop (i + 1))).map (ul1 (xs.getD i 0) ++ ·) else none := by
 rw [List.drop_eq_getElem_cons h, ug4]
 simp [List.getD, h]
end Go.Gou
namespace Go.Proofs.YtgolafbneiffpaaGreatDoor
open Go.RowKit Go.Gou
abbrev Wr (w : World) (W : Nat) (bs : List Nat) (vs : Value) : Prop := WrAt w W 88 5 bs vs
def WrP (w : World) (W : Nat) (bs : List Nat) (vs : Value) (res : Option (List Nat)) (e : Ending) (w' : World) : Prop :=
 ∃ vs', WTo W w vs w' vs' ∧ match res with
  | some es => e = .returned (.tuple #[]) ∧ Wr w' W (bs ++ es) vs'
  | none => e = .panicked utf
theorem un4 : (Tryz.prog.info? 5).map (fun i => (i.zero, i.size, i.bytes)) = some (some (.int .u8 0), 1, 1) := by kernel_rfl
set_option maxRecDepth 100000 in
theorem ukc (w : World) (W : Nat) (bs : List Nat) (vs v : Value) (xs : List Int) (h : Wr w W bs vs) (hx : IntsR (fun b => b ≠ W ∧ vs.ownBlock ≠ some b) w v xs) (hl : bs.length + 5 * xs.length ≤ 1000000000) :
  Calls Tryz.prog 53 #[.pointer (some ⟨W, 0, none⟩), v] w (WrP w W bs vs (ug4 xs)) := by
 have H := hd' h
 obtain ⟨i0, hi0, hz0, hz1, hz2⟩ := info_parts un4
 obtain ⟨p, c, rfl, hpc⟩ := RowG.form hx
 have Hx := hd' hx
 have Hl := hd' hl
 have hxl : xs.length ≤ 200000000 := by omega
 clear h hx hl hpc
 go_enter Tryz.func53, Tryz.ntmps53
 go_wp2_with fail
 go_loopw [9] (fun c wr => ∃ (i : Nat) (es : List Nat) (v1 : Value), c = iV i ∧ i ≤ xs.length ∧ ug4 xs = (ug4 (xs.drop i)).map (es ++ ·) ∧ es.length ≤ 5 * i ∧ Wr wr W (bs ++ es) v1 ∧ WTo W w vs wr v1) (fun c _ => xs.length - (intOf c).toNat)
 case atStart => exact ⟨0, [], vs, rfl, by omega, by simp, by simp, by simpa using H.o, WTo.refl _ _ _⟩
 case round =>
  obtain ⟨i, es, v1, rfl, hi, henc, hes, hw1, ht1⟩ := hrel
  have Henc := hd' henc
  have Hes := hd' hes
  have Hw1 := hd' hw1
  have Ht1 := hd' ht1
  clear henc hes hw1 ht1
  by_cases hil : i < xs.length
  ·have e1 : decide ((i : Int) < (xs.length : Int)) = true := by simp; omega
   obtain ⟨-, b, o, rfl, hb, hG, hc⟩ := Hx.o.cells (by omega)
   have hxi := hc i hil
   rw [← Ht1.o.mod.cell (p := ⟨b, o + i, none⟩) hb (by rintro (e | e); exact hG.1 e; exact hG.2 e)] at hxi
   have hiI : (i : Int) < (xs.length : Int) := by omega
   have hi0I : (0 : Int) ≤ (i : Int) := by omega
   have Hd := hd' (utg hil)
   clear hc hG
   generalize hxe : xs.getD i 0 = x at *
   clear hxe
   by_cases hlo : -2147483648 ≤ x
   ·have e2 : decide (-2147483648 ≤ x) = true := by simp [hlo]
    by_cases hhi : x < 2147483648
    ·have e3 : decide (x < 2147483648) = true := by simp [hhi]
     have hb1 : wrap64 (2 * x) = 2 * x := IntWalk.wrap64_in _ (by omega)
     have hrange : Hid (-2147483648 ≤ x ∧ x < 2147483648) := hd' ⟨hlo, hhi⟩
     have hb2 : wrap64 (-(2 * x)) = -(2 * x) := IntWalk.wrap64_in _ (by omega)
     have hb3 : wrap64 (-(2 * x) - 1) = -(2 * x) - 1 := IntWalk.wrap64_in _ (by omega)
     have Hd2 := hd' (Hd.o.trans (if_pos ⟨hlo, hhi⟩))
     have Hb1 := hd' hb1
     have Hb2 := hd' hb2
     have Hb3 := hd' hb3
     clear hlo hhi hb1 hb2 hb3
     by_cases hneg : x < 0
     ·have e4 : decide (x < 0) = true := by simp [hneg]
      have hz : -(2 * x) - 1 = (zig x : Int) := by unfold zig; rw [if_pos hneg]; omega
      have Hz := hd' hz
      clear hneg hz
      go_wp2_with fail
      refine (uku _).mono ?_
      rintro e w' ⟨rfl, rfl⟩
      go_wp2_with fail
      go_loopw [6] (fun c wr => ∃ (m : Nat) (e2 : List Nat) (v2 : Value), c = iV m ∧ m < 4294967296 ∧ ul1 x = e2 ++ encM m ∧ Wr wr W (bs ++ es ++ e2) v2 ∧ WTo W w vs wr v2) (fun c _ => (intOf c).toNat)
      case atStart => exact ⟨zig x, [], v1, by first | rw [Hb1.o, Hb2.o, Hb3.o, Hz.o] | rw [Hb1.o, Hz.o], zig_lt hrange.out, rfl, by simpa using Hw1.o, Ht1.o⟩
      case round =>
       obtain ⟨m, e2, v2, rfl, hm, hen, hw2, ht2⟩ := hrel
       have he2 : e2.length ≤ 5 := by have := uni hrange.out; rw [hen] at this; simp only [List.length_append] at this; omega
       obtain ⟨BS, hBS⟩ : ∃ BS, BS = bs ++ es ++ e2 := ⟨_, rfl⟩
       rw [← hBS] at hw2
       have Hbl : Hid (BS.length + 1 ≤ 2000000000) := hd' (by have := Hes.o; have := Hl.o; rw [hBS]; simp only [List.length_append]; omega)
       obtain ⟨pv, cv, rfl⟩ := ownsRow_form hw2.own
       have Hw2 := hd' hw2
       have Ht2 := hd' ht2
       have Hen := hd' hen
       have HBS := hd' hBS
       have Hm := hd' hm
       have cW := hw2.box.cell 0 rfl
       have fW := hw2.box.frozen 0
       have hWlt := Blk.lt hw2.box
       clear hw2 ht2 hen hBS he2
       by_cases hbig : m < 128
       ·have e5 : decide (128 ≤ (m : Int)) = false := by simp; omega
        have Hown := hd' (Hw2.o.own.alloc (.cells #[.int .u8 (m : Int)] 5))
        have hb6 : IntKind.u8.wrap (m : Int) = m := IntWalk.u8_in _ (by omega)
        go_wp2_with (first | (at_builtin; go_loud (refine wpList_append_lies _ rfl _ _ 61 rfl (W + 1) 5 i0 (.int .u8 0) 1 1 Tryz.underlying61 hi0 hz0 hz1 hz2 rfl (by omega) (.slice pv BS.length cv) BS.length (u8s BS) rfl Hown.o ⟨wr.heap.size, 0, none⟩ 1 1 [.int .u8 ((m : Int))] rfl rfl (cell_one_new _ _ _) (by simp [Value.oneCell']) (by omega) (by have := Hbl.o; unfold maxLen; omega) (by have := Hbl.o; omega) (by simp; omega) (wr.heap.size + 1) (by simp) ?_)) | fail)
        intro gg cp w4 hown4 hgrow4 hat4 hlt4
        obtain ⟨c4, f4⟩ := Hw2.o.mid hgrow4
        have hxv : ((m : Int) : Int) = ((m : Nat) : Int) := by omega
        rw [hxv] at hown4
        have hP := Hw2.o.push (x := m) rfl hown4 hgrow4 hat4
        have HP := hd' hP
        clear hP hown4 hgrow4 hat4 hlt4 hxv
        go_wp2_with fail
        go_roundw
        case rel => exact ⟨i + 1, es ++ ul1 x, _, by go_num, by omega, by
         have h1 := Henc.o
         rw [Hd2.o] at h1
         rw [h1]
         cases ug4 (xs.drop (i + 1)) <;> simp, by have := Hes.o; have := uni hrange.out; simp only [List.length_append]; omega, by
         have h3 := Hen.o
         rw [uk8 hbig] at h3
         have he : bs ++ (es ++ ul1 x) = BS ++ [m] := by rw [h3, HBS.o]; simp
         rw [he]
         exact HP.o.1, Ht2.o.trans HP.o.2⟩
        case measure => simp [intOf]; omega
       ·have e5 : decide (128 ≤ (m : Int)) = true := by simp; omega
        have Hown := hd' (Hw2.o.own.alloc (.cells #[.int .u8 ((m : Int) % 128 + 128)] 5))
        go_wp2_with (first | (at_builtin; go_loud (refine wpList_append_lies _ rfl _ _ 61 rfl (W + 1) 5 i0 (.int .u8 0) 1 1 Tryz.underlying61 hi0 hz0 hz1 hz2 rfl (by omega) (.slice pv BS.length cv) BS.length (u8s BS) rfl Hown.o ⟨wr.heap.size, 0, none⟩ 1 1 [.int .u8 ((m : Int) % 128 + 128)] rfl rfl (cell_one_new _ _ _) (by simp [Value.oneCell']) (by omega) (by have := Hbl.o; unfold maxLen; omega) (by have := Hbl.o; omega) (by simp; omega) (wr.heap.size + 1) (by simp) ?_)) | fail)
        intro gg cp w4 hown4 hgrow4 hat4 hlt4
        obtain ⟨c4, f4⟩ := Hw2.o.mid hgrow4
        have hxv : ((m : Int) % 128 + 128 : Int) = ((m % 128 + 128 : Nat) : Int) := by omega
        rw [hxv] at hown4
        have hP := Hw2.o.push (x := m % 128 + 128) rfl hown4 hgrow4 hat4
        have HP := hd' hP
        clear hP hown4 hgrow4 hat4 hlt4 hxv
        go_wp2_with fail
        go_roundw
        case rel => exact ⟨m / 128, e2 ++ [m % 128 + 128], _, by simp, by have := Hm.o; omega, by
         have h3 := Hen.o
         rw [umi hbig] at h3
         rw [h3]
         simp, by
         have he : bs ++ es ++ (e2 ++ [m % 128 + 128]) = BS ++ [m % 128 + 128] := by rw [HBS.o]; simp
         rw [he]
         exact HP.o.1, Ht2.o.trans HP.o.2⟩
        case measure => simp [intOf]; omega
     ·have e4 : decide (x < 0) = false := by simp; omega
      have hz : 2 * x = (zig x : Int) := by unfold zig; rw [if_neg hneg]; omega
      have Hz := hd' hz
      clear hneg hz
      go_wp2_with fail
      refine (uku _).mono ?_
      rintro e w' ⟨rfl, rfl⟩
      go_wp2_with fail
      go_loopw [6] (fun c wr => ∃ (m : Nat) (e2 : List Nat) (v2 : Value), c = iV m ∧ m < 4294967296 ∧ ul1 x = e2 ++ encM m ∧ Wr wr W (bs ++ es ++ e2) v2 ∧ WTo W w vs wr v2) (fun c _ => (intOf c).toNat)
      case atStart => exact ⟨zig x, [], v1, by first | rw [Hb1.o, Hb2.o, Hb3.o, Hz.o] | rw [Hb1.o, Hz.o], zig_lt hrange.out, rfl, by simpa using Hw1.o, Ht1.o⟩
      case round =>
       obtain ⟨m, e2, v2, rfl, hm, hen, hw2, ht2⟩ := hrel
       have he2 : e2.length ≤ 5 := by have := uni hrange.out; rw [hen] at this; simp only [List.length_append] at this; omega
       obtain ⟨BS, hBS⟩ : ∃ BS, BS = bs ++ es ++ e2 := ⟨_, rfl⟩
       rw [← hBS] at hw2
       have Hbl : Hid (BS.length + 1 ≤ 2000000000) := hd' (by have := Hes.o; have := Hl.o; rw [hBS]; simp only [List.length_append]; omega)
       obtain ⟨pv, cv, rfl⟩ := ownsRow_form hw2.own
       have Hw2 := hd' hw2
       have Ht2 := hd' ht2
       have Hen := hd' hen
       have HBS := hd' hBS
       have Hm := hd' hm
       have cW := hw2.box.cell 0 rfl
       have fW := hw2.box.frozen 0
       have hWlt := Blk.lt hw2.box
       clear hw2 ht2 hen hBS he2
       by_cases hbig : m < 128
       ·have e5 : decide (128 ≤ (m : Int)) = false := by simp; omega
        have Hown := hd' (Hw2.o.own.alloc (.cells #[.int .u8 (m : Int)] 5))
        have hb6 : IntKind.u8.wrap (m : Int) = m := IntWalk.u8_in _ (by omega)
        go_wp2_with (first | (at_builtin; go_loud (refine wpList_append_lies _ rfl _ _ 61 rfl (W + 1) 5 i0 (.int .u8 0) 1 1 Tryz.underlying61 hi0 hz0 hz1 hz2 rfl (by omega) (.slice pv BS.length cv) BS.length (u8s BS) rfl Hown.o ⟨wr.heap.size, 0, none⟩ 1 1 [.int .u8 ((m : Int))] rfl rfl (cell_one_new _ _ _) (by simp [Value.oneCell']) (by omega) (by have := Hbl.o; unfold maxLen; omega) (by have := Hbl.o; omega) (by simp; omega) (wr.heap.size + 1) (by simp) ?_)) | fail)
        intro gg cp w4 hown4 hgrow4 hat4 hlt4
        obtain ⟨c4, f4⟩ := Hw2.o.mid hgrow4
        have hxv : ((m : Int) : Int) = ((m : Nat) : Int) := by omega
        rw [hxv] at hown4
        have hP := Hw2.o.push (x := m) rfl hown4 hgrow4 hat4
        have HP := hd' hP
        clear hP hown4 hgrow4 hat4 hlt4 hxv
        go_wp2_with fail
        go_roundw
        case rel => exact ⟨i + 1, es ++ ul1 x, _, by go_num, by omega, by
         have h1 := Henc.o
         rw [Hd2.o] at h1
         rw [h1]
         cases ug4 (xs.drop (i + 1)) <;> simp, by have := Hes.o; have := uni hrange.out; simp only [List.length_append]; omega, by
         have h3 := Hen.o
         rw [uk8 hbig] at h3
         have he : bs ++ (es ++ ul1 x) = BS ++ [m] := by rw [h3, HBS.o]; simp
         rw [he]
         exact HP.o.1, Ht2.o.trans HP.o.2⟩
        case measure => simp [intOf]; omega
       ·have e5 : decide (128 ≤ (m : Int)) = true := by simp; omega
        have Hown := hd' (Hw2.o.own.alloc (.cells #[.int .u8 ((m : Int) % 128 + 128)] 5))
        go_wp2_with (first | (at_builtin; go_loud (refine wpList_append_lies _ rfl _ _ 61 rfl (W + 1) 5 i0 (.int .u8 0) 1 1 Tryz.underlying61 hi0 hz0 hz1 hz2 rfl (by omega) (.slice pv BS.length cv) BS.length (u8s BS) rfl Hown.o ⟨wr.heap.size, 0, none⟩ 1 1 [.int .u8 ((m : Int) % 128 + 128)] rfl rfl (cell_one_new _ _ _) (by simp [Value.oneCell']) (by omega) (by have := Hbl.o; unfold maxLen; omega) (by have := Hbl.o; omega) (by simp; omega) (wr.heap.size + 1) (by simp) ?_)) | fail)
        intro gg cp w4 hown4 hgrow4 hat4 hlt4
        obtain ⟨c4, f4⟩ := Hw2.o.mid hgrow4
        have hxv : ((m : Int) % 128 + 128 : Int) = ((m % 128 + 128 : Nat) : Int) := by omega
        rw [hxv] at hown4
        have hP := Hw2.o.push (x := m % 128 + 128) rfl hown4 hgrow4 hat4
        have HP := hd' hP
        clear hP hown4 hgrow4 hat4 hlt4 hxv
        go_wp2_with fail
        go_roundw
        case rel => exact ⟨m / 128, e2 ++ [m % 128 + 128], _, by simp, by have := Hm.o; omega, by
         have h3 := Hen.o
         rw [umi hbig] at h3
         rw [h3]
         simp, by
         have he : bs ++ es ++ (e2 ++ [m % 128 + 128]) = BS ++ [m % 128 + 128] := by rw [HBS.o]; simp
         rw [he]
         exact HP.o.1, Ht2.o.trans HP.o.2⟩
        case measure => simp [intOf]; omega
    ·have e3 : decide (x < 2147483648) = false := by simp; omega
     have hno : Hid (ug4 xs = none) := hd' (by have h1 := Henc.o; have h2 := Hd.o; rw [if_neg (fun h => hhi h.2)] at h2; rw [h1, h2]; rfl)
     go_wp2_with fail
     refine (ukq _).mono ?_
     rintro e w' ⟨rfl, rfl⟩
     exact ⟨rfl, _, Ht1.o, by rw [hno.out]⟩
   ·have e2 : decide (-2147483648 ≤ x) = false := by simp; omega
    have hno : Hid (ug4 xs = none) := hd' (by have h1 := Henc.o; have h2 := Hd.o; rw [if_neg (fun h => hlo h.1)] at h2; rw [h1, h2]; rfl)
    go_wp2_with fail
    refine (ukq _).mono ?_
    rintro e w' ⟨rfl, rfl⟩
    exact ⟨rfl, _, Ht1.o, by rw [hno.out]⟩
  ·obtain rfl : i = xs.length := by omega
   have e1 : decide ((xs.length : Int) < (xs.length : Int)) = false := by simp
   have hres : Hid (ug4 xs = some es) := hd' (by have h1 := Henc.o; rw [List.drop_length, ug4] at h1; simpa using h1)
   go_wp2_with fail
   go_end0
   exact ⟨_, Ht1.o, by rw [hres.out]; exact ⟨rfl, Hw1.o⟩⟩
end Go.Proofs.YtgolafbneiffpaaGreatDoor
namespace Go.Gou
open Go.RowKit
theorem WrAt.alloc {w : World} {W : Nat} {TW TB : TypeId} {bs : List Nat} {vs : Value} (h : WrAt w W TW TB bs vs) (o : Obj) : WrAt (w.alloc o) W TW TB bs vs := h.other (Mod.alloc (fun _ => False) w o) (fun h => h) (fun _ _ h => h)
theorem WrAt.lit {w : World} {W : Nat} {TW TB T : TypeId} {bs : List Nat} {vs : Value} (h : WrAt w W TW TB bs vs) (xs : List Int) (cs : Array Value) (hc : cs.toList = ivs xs) (n : Nat) (hn : n = xs.length) (B : Nat) (hB : B = w.heap.size) :
  IntsR (fun b => b ≠ W ∧ vs.ownBlock ≠ some b) (w.alloc (.cells cs T)) (.slice (some ⟨B, 0, none⟩) n n) xs := by
 subst hn
 subst hB
 have hW := Blk.lt h.box
 refine ⟨by simp [ivs], _, _, rfl, Nat.le_refl _, .inr ⟨w.heap.size, 0, rfl, by simp, ⟨by omega, fun e => by have := (h.own.lt _ e).2; omega⟩, fun j u hu => ?_⟩⟩
 rw [Nat.zero_add, cell_of_row _ w.heap.size j cs T (0, 0) (heap_alloc_new w _)]
 rw [← hc] at hu
 simpa using hu
def uj7 : Nat → Bool × Bool × Bool × Bool → Int
 | 0, _ => 0
 | 1, (b0, _, _, _) => if b0 then 1 else 0
 | 2, (b0, b1, _, _) => (if b0 then 1 else 0) + (if b1 then 2 else 0)
 | 3, (b0, b1, b2, _) => (if b0 then 1 else 0) + (if b1 then 2 else 0) + (if b2 then 4 else 0)
 | _, (b0, b1, b2, b3) => (if b0 then 1 else 0) + (if b1 then 2 else 0) + (if b2 then 4 else 0) + (if b3 then 8 else 0)
end Go.Gou
namespace Go.Proofs.YtgolafbneiffpaaGreatDoor
open Go.RowKit Go.Gou
theorem WrP.after {w w1 w2 : World} {W : Nat} {bs es : List Nat} {vs v1 : Value} {res res2 : Option (List Nat)} {e : Ending} (h1 : WTo W w vs w1 v1) (h2 : WrP w1 W (bs ++ es) v1 res2 e w2) (hr : res = res2.map (es ++ ·)) : WrP w W bs vs res e w2 := by
 obtain ⟨v2, ht, h⟩ := h2
 refine ⟨v2, h1.trans ht, ?_⟩
 cases res2 with
 | none => subst hr; exact h
 | some e2 => subst hr; obtain ⟨h3, h4⟩ := h; exact ⟨h3, by simpa using h4⟩
set_option maxRecDepth 100000 in
theorem ulw (w : World) (W : Nat) (bs : List Nat) (vs : Value) (a g : Int) (h : Wr w W bs vs) (hl : bs.length ≤ 900000000) :
  Calls Tryz.prog 95 #[.pointer (some ⟨W, 0, none⟩), .agg #[iV a, iV g]] w (WrP w W bs vs (ug4 [a, g])) := by
 have H := hd' h
 clear h
 go_enter Tryz.func95, Tryz.ntmps95
 go_wp2_with fail
 refine (ukc _ W bs vs _ [a, g] ((H.o.alloc _).alloc _) ((H.o.alloc _).lit [a, g] _ rfl 2 rfl _ (by simp)) (by simp; omega)).mono ?_
 intro e w1 h1
 have ht : WTo W w vs ((w.alloc (.cells #[iV a, iV g] 23)).alloc (.cells #[iV a, iV g] 3)) vs := WTo.other ((Gou.Mod.alloc _ _ _).trans' (Gou.Mod.alloc _ _ _)) vs
 obtain ⟨v2, ht2, h2⟩ := h1
 have ht3 := ht.trans ht2
 cases hr : ug4 [a, g] with
 | none =>
  rw [hr] at h2
  subst h2
  exact ⟨rfl, v2, ht3, rfl⟩
 | some es =>
  rw [hr] at h2
  obtain ⟨rfl, h3⟩ := h2
  have Hr := hd' hr
  clear hr
  go_wp2_with fail
  go_end0
  exact ⟨v2, ht3, by rw [Hr.o]; exact ⟨rfl, h3⟩⟩
set_option maxRecDepth 100000 in
theorem unb (w : World) (W : Nat) (bs : List Nat) (vs : Value) (b : Bool) (h : Wr w W bs vs) (hl : bs.length ≤ 900000000) :
  Calls Tryz.prog 96 #[.pointer (some ⟨W, 0, none⟩), .bool b] w (WrP w W bs vs (ug4 [if b then 1 else 0])) := by
 have H := hd' h
 clear h
 go_enter Tryz.func96, Tryz.ntmps96
 cases b with
 | true =>
  go_wp2_with fail
  refine (ukc _ W bs vs _ [1] (H.o.alloc _) (H.o.lit [1] _ rfl 1 rfl _ rfl) (by simp; omega)).mono ?_
  intro e w1 h1
  obtain ⟨v2, ht2, h2⟩ := h1
  have ht3 := (WTo.other (W := W) (Gou.Mod.alloc _ w (.cells #[iV 1] 3)) vs).trans ht2
  cases hr : ug4 [1] with
  | none => rw [hr] at h2; subst h2; exact ⟨rfl, v2, ht3, by simp [hr]⟩
  | some es =>
   rw [hr] at h2
   obtain ⟨rfl, h3⟩ := h2
   have Hr := hd' hr
   clear hr
   go_wp2_with fail
   go_end0
   exact ⟨v2, ht3, by have := Hr.o; simp only [if_true, this]; exact ⟨trivial, h3⟩⟩
 | false =>
  go_wp2_with fail
  refine (ukc _ W bs vs _ [0] (H.o.alloc _) (H.o.lit [0] _ rfl 1 rfl _ rfl) (by simp; omega)).mono ?_
  intro e w1 h1
  obtain ⟨v2, ht2, h2⟩ := h1
  have ht3 := (WTo.other (W := W) (Gou.Mod.alloc _ w (.cells #[iV 0] 3)) vs).trans ht2
  cases hr : ug4 [0] with
  | none => rw [hr] at h2; subst h2; exact ⟨rfl, v2, ht3, by simp [hr]⟩
  | some es =>
   rw [hr] at h2
   obtain ⟨rfl, h3⟩ := h2
   have Hr := hd' hr
   clear hr
   go_wp2_with fail
   go_end0
   exact ⟨v2, ht3, by have := Hr.o; simp only [Bool.false_eq_true, if_false, this]; exact ⟨trivial, h3⟩⟩
set_option maxRecDepth 100000 in
theorem uuu (w : World) (W : Nat) (bs : List Nat) (vs : Value) (a b c d : Int) (h : Wr w W bs vs) (hl : bs.length ≤ 900000000) :
  Calls Tryz.prog 97 #[.pointer (some ⟨W, 0, none⟩), .agg #[iV a, iV b, iV c, iV d]] w (WrP w W bs vs (ug4 [a, b, c, d])) := by
 have H := hd' h
 clear h
 go_enter Tryz.func97, Tryz.ntmps97
 go_wp2_with fail
 refine (ukc _ W bs vs _ [a, b, c, d] ((H.o.alloc _).alloc _) ((H.o.alloc _).lit [a, b, c, d] _ rfl 4 rfl _ (by simp)) (by simp; omega)).mono ?_
 intro e w1 h1
 have ht : WTo W w vs ((w.alloc (.cells #[iV a, iV b, iV c, iV d] 25)).alloc (.cells #[iV a, iV b, iV c, iV d] 3)) vs := WTo.other ((Gou.Mod.alloc _ _ _).trans' (Gou.Mod.alloc _ _ _)) vs
 obtain ⟨v2, ht2, h2⟩ := h1
 have ht3 := ht.trans ht2
 cases hr : ug4 [a, b, c, d] with
 | none =>
  rw [hr] at h2
  subst h2
  exact ⟨rfl, v2, ht3, rfl⟩
 | some es =>
  rw [hr] at h2
  obtain ⟨rfl, h3⟩ := h2
  have Hr := hd' hr
  clear hr
  go_wp2_with fail
  go_end0
  exact ⟨v2, ht3, by rw [Hr.o]; exact ⟨rfl, h3⟩⟩
set_option maxRecDepth 100000 in
theorem uo4 (w : World) (c : Cf) :
  Calls Tryz.prog 54 #[.agg #[.bool c.fuse, .bool c.alias, .bool c.roi, .bool c.damage, iV c.room]] w fun e w' => e = .returned (iV ((if c.fuse then 1 else 0) + (if c.alias then 2 else 0) + (if c.roi then 4 else 0) + (if c.damage then 8 else 0))) ∧ Gou.Mod (fun _ => False) w w' := by
 obtain ⟨b0, b1, b2, b3, room⟩ := c
 rcases b0 with _ | _ <;> rcases b1 with _ | _ <;> rcases b2 with _ | _ <;> rcases b3 with _ | _
 ·go_enter Tryz.func54, Tryz.ntmps54
  have i0 : ∀ w : World, ∀ x0 x1 x2 x3 : Bool, (Instr.index 131 (.agg #[.bool x0, .bool x1, .bool x2, .bool x3]) (iV 0)).run Tryz.prog w = .ok (.bool x0) w := fun _ _ _ _ _ => by kernel_rfl
  have i1 : ∀ w : World, ∀ x0 x1 x2 x3 : Bool, (Instr.index 131 (.agg #[.bool x0, .bool x1, .bool x2, .bool x3]) (iV 1)).run Tryz.prog w = .ok (.bool x1) w := fun _ _ _ _ _ => by kernel_rfl
  have i2 : ∀ w : World, ∀ x0 x1 x2 x3 : Bool, (Instr.index 131 (.agg #[.bool x0, .bool x1, .bool x2, .bool x3]) (iV 2)).run Tryz.prog w = .ok (.bool x2) w := fun _ _ _ _ _ => by kernel_rfl
  have i3 : ∀ w : World, ∀ x0 x1 x2 x3 : Bool, (Instr.index 131 (.agg #[.bool x0, .bool x1, .bool x2, .bool x3]) (iV 3)).run Tryz.prog w = .ok (.bool x3) w := fun _ _ _ _ _ => by kernel_rfl
  go_wp2_with fail
  go_loopw [15, 3] (fun c s wr => ∃ k : Nat, c = iV k ∧ k ≤ 4 ∧ s = iV (uj7 k (false, false, false, false)) ∧ Gou.Mod (fun _ => False) w wr) (fun c _ _ => 4 - (intOf c).toNat)
  case atStart => exact ⟨0, rfl, by omega, rfl, Gou.Mod.alloc _ _ _⟩
  case round =>
   obtain ⟨k, rfl, hk, rfl, hm⟩ := hrel
   rcases (show k = 0 ∨ k = 1 ∨ k = 2 ∨ k = 3 ∨ k = 4 by omega) with rfl | rfl | rfl | rfl | rfl
   ·simp only [uj7]
    go_wp2_with fail
    go_roundw
    case rel => exact ⟨1, by simp, by omega, by simp [uj7], hm⟩
    case measure => simp [intOf]
   ·simp only [uj7]
    go_wp2_with fail
    go_roundw
    case rel => exact ⟨2, by simp, by omega, by simp [uj7], hm⟩
    case measure => simp [intOf]
   ·simp only [uj7]
    go_wp2_with fail
    go_roundw
    case rel => exact ⟨3, by simp, by omega, by simp [uj7], hm⟩
    case measure => simp [intOf]
   ·simp only [uj7]
    go_wp2_with fail
    go_roundw
    case rel => exact ⟨4, by simp, by omega, by simp [uj7], hm⟩
    case measure => simp [intOf]
   ·simp only [uj7]
    go_wp2_with fail
    go_ret
    exact ⟨rfl, hm⟩
 ·go_enter Tryz.func54, Tryz.ntmps54
  have i0 : ∀ w : World, ∀ x0 x1 x2 x3 : Bool, (Instr.index 131 (.agg #[.bool x0, .bool x1, .bool x2, .bool x3]) (iV 0)).run Tryz.prog w = .ok (.bool x0) w := fun _ _ _ _ _ => by kernel_rfl
  have i1 : ∀ w : World, ∀ x0 x1 x2 x3 : Bool, (Instr.index 131 (.agg #[.bool x0, .bool x1, .bool x2, .bool x3]) (iV 1)).run Tryz.prog w = .ok (.bool x1) w := fun _ _ _ _ _ => by kernel_rfl
  have i2 : ∀ w : World, ∀ x0 x1 x2 x3 : Bool, (Instr.index 131 (.agg #[.bool x0, .bool x1, .bool x2, .bool x3]) (iV 2)).run Tryz.prog w = .ok (.bool x2) w := fun _ _ _ _ _ => by kernel_rfl
  have i3 : ∀ w : World, ∀ x0 x1 x2 x3 : Bool, (Instr.index 131 (.agg #[.bool x0, .bool x1, .bool x2, .bool x3]) (iV 3)).run Tryz.prog w = .ok (.bool x3) w := fun _ _ _ _ _ => by kernel_rfl
  go_wp2_with fail
  go_loopw [15, 3] (fun c s wr => ∃ k : Nat, c = iV k ∧ k ≤ 4 ∧ s = iV (uj7 k (false, false, false, true)) ∧ Gou.Mod (fun _ => False) w wr) (fun c _ _ => 4 - (intOf c).toNat)
  case atStart => exact ⟨0, rfl, by omega, rfl, Gou.Mod.alloc _ _ _⟩
  case round =>
   obtain ⟨k, rfl, hk, rfl, hm⟩ := hrel
   rcases (show k = 0 ∨ k = 1 ∨ k = 2 ∨ k = 3 ∨ k = 4 by omega) with rfl | rfl | rfl | rfl | rfl
   ·simp only [uj7]
    go_wp2_with fail
    go_roundw
    case rel => exact ⟨1, by simp, by omega, by simp [uj7], hm⟩
    case measure => simp [intOf]
   ·simp only [uj7]
    go_wp2_with fail
    go_roundw
    case rel => exact ⟨2, by simp, by omega, by simp [uj7], hm⟩
    case measure => simp [intOf]
   ·simp only [uj7]
    go_wp2_with fail
    go_roundw
    case rel => exact ⟨3, by simp, by omega, by simp [uj7], hm⟩
    case measure => simp [intOf]
   ·simp only [uj7]
    go_wp2_with fail
    go_roundw
    case rel => exact ⟨4, by simp, by omega, by simp [uj7], hm⟩
    case measure => simp [intOf]
   ·simp only [uj7]
    go_wp2_with fail
    go_ret
    exact ⟨rfl, hm⟩
 ·go_enter Tryz.func54, Tryz.ntmps54
  have i0 : ∀ w : World, ∀ x0 x1 x2 x3 : Bool, (Instr.index 131 (.agg #[.bool x0, .bool x1, .bool x2, .bool x3]) (iV 0)).run Tryz.prog w = .ok (.bool x0) w := fun _ _ _ _ _ => by kernel_rfl
  have i1 : ∀ w : World, ∀ x0 x1 x2 x3 : Bool, (Instr.index 131 (.agg #[.bool x0, .bool x1, .bool x2, .bool x3]) (iV 1)).run Tryz.prog w = .ok (.bool x1) w := fun _ _ _ _ _ => by kernel_rfl
  have i2 : ∀ w : World, ∀ x0 x1 x2 x3 : Bool, (Instr.index 131 (.agg #[.bool x0, .bool x1, .bool x2, .bool x3]) (iV 2)).run Tryz.prog w = .ok (.bool x2) w := fun _ _ _ _ _ => by kernel_rfl
  have i3 : ∀ w : World, ∀ x0 x1 x2 x3 : Bool, (Instr.index 131 (.agg #[.bool x0, .bool x1, .bool x2, .bool x3]) (iV 3)).run Tryz.prog w = .ok (.bool x3) w := fun _ _ _ _ _ => by kernel_rfl
  go_wp2_with fail
  go_loopw [15, 3] (fun c s wr => ∃ k : Nat, c = iV k ∧ k ≤ 4 ∧ s = iV (uj7 k (false, false, true, false)) ∧ Gou.Mod (fun _ => False) w wr) (fun c _ _ => 4 - (intOf c).toNat)
  case atStart => exact ⟨0, rfl, by omega, rfl, Gou.Mod.alloc _ _ _⟩
  case round =>
   obtain ⟨k, rfl, hk, rfl, hm⟩ := hrel
   rcases (show k = 0 ∨ k = 1 ∨ k = 2 ∨ k = 3 ∨ k = 4 by omega) with rfl | rfl | rfl | rfl | rfl
   ·simp only [uj7]
    go_wp2_with fail
    go_roundw
    case rel => exact ⟨1, by simp, by omega, by simp [uj7], hm⟩
    case measure => simp [intOf]
   ·simp only [uj7]
    go_wp2_with fail
    go_roundw
    case rel => exact ⟨2, by simp, by omega, by simp [uj7], hm⟩
    case measure => simp [intOf]
   ·simp only [uj7]
    go_wp2_with fail
    go_roundw
    case rel => exact ⟨3, by simp, by omega, by simp [uj7], hm⟩
    case measure => simp [intOf]
   ·simp only [uj7]
    go_wp2_with fail
    go_roundw
    case rel => exact ⟨4, by simp, by omega, by simp [uj7], hm⟩
    case measure => simp [intOf]
   ·simp only [uj7]
    go_wp2_with fail
    go_ret
    exact ⟨rfl, hm⟩
 ·go_enter Tryz.func54, Tryz.ntmps54
  have i0 : ∀ w : World, ∀ x0 x1 x2 x3 : Bool, (Instr.index 131 (.agg #[.bool x0, .bool x1, .bool x2, .bool x3]) (iV 0)).run Tryz.prog w = .ok (.bool x0) w := fun _ _ _ _ _ => by kernel_rfl
  have i1 : ∀ w : World, ∀ x0 x1 x2 x3 : Bool, (Instr.index 131 (.agg #[.bool x0, .bool x1, .bool x2, .bool x3]) (iV 1)).run Tryz.prog w = .ok (.bool x1) w := fun _ _ _ _ _ => by kernel_rfl
  have i2 : ∀ w : World, ∀ x0 x1 x2 x3 : Bool, (Instr.index 131 (.agg #[.bool x0, .bool x1, .bool x2, .bool x3]) (iV 2)).run Tryz.prog w = .ok (.bool x2) w := fun _ _ _ _ _ => by kernel_rfl
  have i3 : ∀ w : World, ∀ x0 x1 x2 x3 : Bool, (Instr.index 131 (.agg #[.bool x0, .bool x1, .bool x2, .bool x3]) (iV 3)).run Tryz.prog w = .ok (.bool x3) w := fun _ _ _ _ _ => by kernel_rfl
  go_wp2_with fail
  go_loopw [15, 3] (fun c s wr => ∃ k : Nat, c = iV k ∧ k ≤ 4 ∧ s = iV (uj7 k (false, false, true, true)) ∧ Gou.Mod (fun _ => False) w wr) (fun c _ _ => 4 - (intOf c).toNat)
  case atStart => exact ⟨0, rfl, by omega, rfl, Gou.Mod.alloc _ _ _⟩
  case round =>
   obtain ⟨k, rfl, hk, rfl, hm⟩ := hrel
   rcases (show k = 0 ∨ k = 1 ∨ k = 2 ∨ k = 3 ∨ k = 4 by omega) with rfl | rfl | rfl | rfl | rfl
   ·simp only [uj7]
    go_wp2_with fail
    go_roundw
    case rel => exact ⟨1, by simp, by omega, by simp [uj7], hm⟩
    case measure => simp [intOf]
   ·simp only [uj7]
    go_wp2_with fail
    go_roundw
    case rel => exact ⟨2, by simp, by omega, by simp [uj7], hm⟩
    case measure => simp [intOf]
   ·simp only [uj7]
    go_wp2_with fail
    go_roundw
    case rel => exact ⟨3, by simp, by omega, by simp [uj7], hm⟩
    case measure => simp [intOf]
   ·simp only [uj7]
    go_wp2_with fail
    go_roundw
    case rel => exact ⟨4, by simp, by omega, by simp [uj7], hm⟩
    case measure => simp [intOf]
   ·simp only [uj7]
    go_wp2_with fail
    go_ret
    exact ⟨rfl, hm⟩
 ·go_enter Tryz.func54, Tryz.ntmps54
  have i0 : ∀ w : World, ∀ x0 x1 x2 x3 : Bool, (Instr.index 131 (.agg #[.bool x0, .bool x1, .bool x2, .bool x3]) (iV 0)).run Tryz.prog w = .ok (.bool x0) w := fun _ _ _ _ _ => by kernel_rfl
  have i1 : ∀ w : World, ∀ x0 x1 x2 x3 : Bool, (Instr.index 131 (.agg #[.bool x0, .bool x1, .bool x2, .bool x3]) (iV 1)).run Tryz.prog w = .ok (.bool x1) w := fun _ _ _ _ _ => by kernel_rfl
  have i2 : ∀ w : World, ∀ x0 x1 x2 x3 : Bool, (Instr.index 131 (.agg #[.bool x0, .bool x1, .bool x2, .bool x3]) (iV 2)).run Tryz.prog w = .ok (.bool x2) w := fun _ _ _ _ _ => by kernel_rfl
  have i3 : ∀ w : World, ∀ x0 x1 x2 x3 : Bool, (Instr.index 131 (.agg #[.bool x0, .bool x1, .bool x2, .bool x3]) (iV 3)).run Tryz.prog w = .ok (.bool x3) w := fun _ _ _ _ _ => by kernel_rfl
  go_wp2_with fail
  go_loopw [15, 3] (fun c s wr => ∃ k : Nat, c = iV k ∧ k ≤ 4 ∧ s = iV (uj7 k (false, true, false, false)) ∧ Gou.Mod (fun _ => False) w wr) (fun c _ _ => 4 - (intOf c).toNat)
  case atStart => exact ⟨0, rfl, by omega, rfl, Gou.Mod.alloc _ _ _⟩
  case round =>
   obtain ⟨k, rfl, hk, rfl, hm⟩ := hrel
   rcases (show k = 0 ∨ k = 1 ∨ k = 2 ∨ k = 3 ∨ k = 4 by omega) with rfl | rfl | rfl | rfl | rfl
   ·simp only [uj7]
    go_wp2_with fail
    go_roundw
    case rel => exact ⟨1, by simp, by omega, by simp [uj7], hm⟩
    case measure => simp [intOf]
   ·simp only [uj7]
    go_wp2_with fail
    go_roundw
    case rel => exact ⟨2, by simp, by omega, by simp [uj7], hm⟩
    case measure => simp [intOf]
   ·simp only [uj7]
    go_wp2_with fail
    go_roundw
    case rel => exact ⟨3, by simp, by omega, by simp [uj7], hm⟩
    case measure => simp [intOf]
   ·simp only [uj7]
    go_wp2_with fail
    go_roundw
    case rel => exact ⟨4, by simp, by omega, by simp [uj7], hm⟩
    case measure => simp [intOf]
   ·simp only [uj7]
    go_wp2_with fail
    go_ret
    exact ⟨rfl, hm⟩
 ·go_enter Tryz.func54, Tryz.ntmps54
  have i0 : ∀ w : World, ∀ x0 x1 x2 x3 : Bool, (Instr.index 131 (.agg #[.bool x0, .bool x1, .bool x2, .bool x3]) (iV 0)).run Tryz.prog w = .ok (.bool x0) w := fun _ _ _ _ _ => by kernel_rfl
  have i1 : ∀ w : World, ∀ x0 x1 x2 x3 : Bool, (Instr.index 131 (.agg #[.bool x0, .bool x1, .bool x2, .bool x3]) (iV 1)).run Tryz.prog w = .ok (.bool x1) w := fun _ _ _ _ _ => by kernel_rfl
  have i2 : ∀ w : World, ∀ x0 x1 x2 x3 : Bool, (Instr.index 131 (.agg #[.bool x0, .bool x1, .bool x2, .bool x3]) (iV 2)).run Tryz.prog w = .ok (.bool x2) w := fun _ _ _ _ _ => by kernel_rfl
  have i3 : ∀ w : World, ∀ x0 x1 x2 x3 : Bool, (Instr.index 131 (.agg #[.bool x0, .bool x1, .bool x2, .bool x3]) (iV 3)).run Tryz.prog w = .ok (.bool x3) w := fun _ _ _ _ _ => by kernel_rfl
  go_wp2_with fail
  go_loopw [15, 3] (fun c s wr => ∃ k : Nat, c = iV k ∧ k ≤ 4 ∧ s = iV (uj7 k (false, true, false, true)) ∧ Gou.Mod (fun _ => False) w wr) (fun c _ _ => 4 - (intOf c).toNat)
  case atStart => exact ⟨0, rfl, by omega, rfl, Gou.Mod.alloc _ _ _⟩
  case round =>
   obtain ⟨k, rfl, hk, rfl, hm⟩ := hrel
   rcases (show k = 0 ∨ k = 1 ∨ k = 2 ∨ k = 3 ∨ k = 4 by omega) with rfl | rfl | rfl | rfl | rfl
   ·simp only [uj7]
    go_wp2_with fail
    go_roundw
    case rel => exact ⟨1, by simp, by omega, by simp [uj7], hm⟩
    case measure => simp [intOf]
   ·simp only [uj7]
    go_wp2_with fail
    go_roundw
    case rel => exact ⟨2, by simp, by omega, by simp [uj7], hm⟩
    case measure => simp [intOf]
   ·simp only [uj7]
    go_wp2_with fail
    go_roundw
    case rel => exact ⟨3, by simp, by omega, by simp [uj7], hm⟩
    case measure => simp [intOf]
   ·simp only [uj7]
    go_wp2_with fail
    go_roundw
    case rel => exact ⟨4, by simp, by omega, by simp [uj7], hm⟩
    case measure => simp [intOf]
   ·simp only [uj7]
    go_wp2_with fail
    go_ret
    exact ⟨rfl, hm⟩
 ·go_enter Tryz.func54, Tryz.ntmps54
  have i0 : ∀ w : World, ∀ x0 x1 x2 x3 : Bool, (Instr.index 131 (.agg #[.bool x0, .bool x1, .bool x2, .bool x3]) (iV 0)).run Tryz.prog w = .ok (.bool x0) w := fun _ _ _ _ _ => by kernel_rfl
  have i1 : ∀ w : World, ∀ x0 x1 x2 x3 : Bool, (Instr.index 131 (.agg #[.bool x0, .bool x1, .bool x2, .bool x3]) (iV 1)).run Tryz.prog w = .ok (.bool x1) w := fun _ _ _ _ _ => by kernel_rfl
  have i2 : ∀ w : World, ∀ x0 x1 x2 x3 : Bool, (Instr.index 131 (.agg #[.bool x0, .bool x1, .bool x2, .bool x3]) (iV 2)).run Tryz.prog w = .ok (.bool x2) w := fun _ _ _ _ _ => by kernel_rfl
  have i3 : ∀ w : World, ∀ x0 x1 x2 x3 : Bool, (Instr.index 131 (.agg #[.bool x0, .bool x1, .bool x2, .bool x3]) (iV 3)).run Tryz.prog w = .ok (.bool x3) w := fun _ _ _ _ _ => by kernel_rfl
  go_wp2_with fail
  go_loopw [15, 3] (fun c s wr => ∃ k : Nat, c = iV k ∧ k ≤ 4 ∧ s = iV (uj7 k (false, true, true, false)) ∧ Gou.Mod (fun _ => False) w wr) (fun c _ _ => 4 - (intOf c).toNat)
  case atStart => exact ⟨0, rfl, by omega, rfl, Gou.Mod.alloc _ _ _⟩
  case round =>
   obtain ⟨k, rfl, hk, rfl, hm⟩ := hrel
   rcases (show k = 0 ∨ k = 1 ∨ k = 2 ∨ k = 3 ∨ k = 4 by omega) with rfl | rfl | rfl | rfl | rfl
   ·simp only [uj7]
    go_wp2_with fail
    go_roundw
    case rel => exact ⟨1, by simp, by omega, by simp [uj7], hm⟩
    case measure => simp [intOf]
   ·simp only [uj7]
    go_wp2_with fail
    go_roundw
    case rel => exact ⟨2, by simp, by omega, by simp [uj7], hm⟩
    case measure => simp [intOf]
   ·simp only [uj7]
    go_wp2_with fail
    go_roundw
    case rel => exact ⟨3, by simp, by omega, by simp [uj7], hm⟩
    case measure => simp [intOf]
   ·simp only [uj7]
    go_wp2_with fail
    go_roundw
    case rel => exact ⟨4, by simp, by omega, by simp [uj7], hm⟩
    case measure => simp [intOf]
   ·simp only [uj7]
    go_wp2_with fail
    go_ret
    exact ⟨rfl, hm⟩
 ·go_enter Tryz.func54, Tryz.ntmps54
  have i0 : ∀ w : World, ∀ x0 x1 x2 x3 : Bool, (Instr.index 131 (.agg #[.bool x0, .bool x1, .bool x2, .bool x3]) (iV 0)).run Tryz.prog w = .ok (.bool x0) w := fun _ _ _ _ _ => by kernel_rfl
  have i1 : ∀ w : World, ∀ x0 x1 x2 x3 : Bool, (Instr.index 131 (.agg #[.bool x0, .bool x1, .bool x2, .bool x3]) (iV 1)).run Tryz.prog w = .ok (.bool x1) w := fun _ _ _ _ _ => by kernel_rfl
  have i2 : ∀ w : World, ∀ x0 x1 x2 x3 : Bool, (Instr.index 131 (.agg #[.bool x0, .bool x1, .bool x2, .bool x3]) (iV 2)).run Tryz.prog w = .ok (.bool x2) w := fun _ _ _ _ _ => by kernel_rfl
  have i3 : ∀ w : World, ∀ x0 x1 x2 x3 : Bool, (Instr.index 131 (.agg #[.bool x0, .bool x1, .bool x2, .bool x3]) (iV 3)).run Tryz.prog w = .ok (.bool x3) w := fun _ _ _ _ _ => by kernel_rfl
  go_wp2_with fail
  go_loopw [15, 3] (fun c s wr => ∃ k : Nat, c = iV k ∧ k ≤ 4 ∧ s = iV (uj7 k (false, true, true, true)) ∧ Gou.Mod (fun _ => False) w wr) (fun c _ _ => 4 - (intOf c).toNat)
  case atStart => exact ⟨0, rfl, by omega, rfl, Gou.Mod.alloc _ _ _⟩
  case round =>
   obtain ⟨k, rfl, hk, rfl, hm⟩ := hrel
   rcases (show k = 0 ∨ k = 1 ∨ k = 2 ∨ k = 3 ∨ k = 4 by omega) with rfl | rfl | rfl | rfl | rfl
   ·simp only [uj7]
    go_wp2_with fail
    go_roundw
    case rel => exact ⟨1, by simp, by omega, by simp [uj7], hm⟩
    case measure => simp [intOf]
   ·simp only [uj7]
    go_wp2_with fail
    go_roundw
    case rel => exact ⟨2, by simp, by omega, by simp [uj7], hm⟩
    case measure => simp [intOf]
   ·simp only [uj7]
    go_wp2_with fail
    go_roundw
    case rel => exact ⟨3, by simp, by omega, by simp [uj7], hm⟩
    case measure => simp [intOf]
   ·simp only [uj7]
    go_wp2_with fail
    go_roundw
    case rel => exact ⟨4, by simp, by omega, by simp [uj7], hm⟩
    case measure => simp [intOf]
   ·simp only [uj7]
    go_wp2_with fail
    go_ret
    exact ⟨rfl, hm⟩
 ·go_enter Tryz.func54, Tryz.ntmps54
  have i0 : ∀ w : World, ∀ x0 x1 x2 x3 : Bool, (Instr.index 131 (.agg #[.bool x0, .bool x1, .bool x2, .bool x3]) (iV 0)).run Tryz.prog w = .ok (.bool x0) w := fun _ _ _ _ _ => by kernel_rfl
  have i1 : ∀ w : World, ∀ x0 x1 x2 x3 : Bool, (Instr.index 131 (.agg #[.bool x0, .bool x1, .bool x2, .bool x3]) (iV 1)).run Tryz.prog w = .ok (.bool x1) w := fun _ _ _ _ _ => by kernel_rfl
  have i2 : ∀ w : World, ∀ x0 x1 x2 x3 : Bool, (Instr.index 131 (.agg #[.bool x0, .bool x1, .bool x2, .bool x3]) (iV 2)).run Tryz.prog w = .ok (.bool x2) w := fun _ _ _ _ _ => by kernel_rfl
  have i3 : ∀ w : World, ∀ x0 x1 x2 x3 : Bool, (Instr.index 131 (.agg #[.bool x0, .bool x1, .bool x2, .bool x3]) (iV 3)).run Tryz.prog w = .ok (.bool x3) w := fun _ _ _ _ _ => by kernel_rfl
  go_wp2_with fail
  go_loopw [15, 3] (fun c s wr => ∃ k : Nat, c = iV k ∧ k ≤ 4 ∧ s = iV (uj7 k (true, false, false, false)) ∧ Gou.Mod (fun _ => False) w wr) (fun c _ _ => 4 - (intOf c).toNat)
  case atStart => exact ⟨0, rfl, by omega, rfl, Gou.Mod.alloc _ _ _⟩
  case round =>
   obtain ⟨k, rfl, hk, rfl, hm⟩ := hrel
   rcases (show k = 0 ∨ k = 1 ∨ k = 2 ∨ k = 3 ∨ k = 4 by omega) with rfl | rfl | rfl | rfl | rfl
   ·simp only [uj7]
    go_wp2_with fail
    go_roundw
    case rel => exact ⟨1, by simp, by omega, by simp [uj7], hm⟩
    case measure => simp [intOf]
   ·simp only [uj7]
    go_wp2_with fail
    go_roundw
    case rel => exact ⟨2, by simp, by omega, by simp [uj7], hm⟩
    case measure => simp [intOf]
   ·simp only [uj7]
    go_wp2_with fail
    go_roundw
    case rel => exact ⟨3, by simp, by omega, by simp [uj7], hm⟩
    case measure => simp [intOf]
   ·simp only [uj7]
    go_wp2_with fail
    go_roundw
    case rel => exact ⟨4, by simp, by omega, by simp [uj7], hm⟩
    case measure => simp [intOf]
   ·simp only [uj7]
    go_wp2_with fail
    go_ret
    exact ⟨rfl, hm⟩
 ·go_enter Tryz.func54, Tryz.ntmps54
  have i0 : ∀ w : World, ∀ x0 x1 x2 x3 : Bool, (Instr.index 131 (.agg #[.bool x0, .bool x1, .bool x2, .bool x3]) (iV 0)).run Tryz.prog w = .ok (.bool x0) w := fun _ _ _ _ _ => by kernel_rfl
  have i1 : ∀ w : World, ∀ x0 x1 x2 x3 : Bool, (Instr.index 131 (.agg #[.bool x0, .bool x1, .bool x2, .bool x3]) (iV 1)).run Tryz.prog w = .ok (.bool x1) w := fun _ _ _ _ _ => by kernel_rfl
  have i2 : ∀ w : World, ∀ x0 x1 x2 x3 : Bool, (Instr.index 131 (.agg #[.bool x0, .bool x1, .bool x2, .bool x3]) (iV 2)).run Tryz.prog w = .ok (.bool x2) w := fun _ _ _ _ _ => by kernel_rfl
  have i3 : ∀ w : World, ∀ x0 x1 x2 x3 : Bool, (Instr.index 131 (.agg #[.bool x0, .bool x1, .bool x2, .bool x3]) (iV 3)).run Tryz.prog w = .ok (.bool x3) w := fun _ _ _ _ _ => by kernel_rfl
  go_wp2_with fail
  go_loopw [15, 3] (fun c s wr => ∃ k : Nat, c = iV k ∧ k ≤ 4 ∧ s = iV (uj7 k (true, false, false, true)) ∧ Gou.Mod (fun _ => False) w wr) (fun c _ _ => 4 - (intOf c).toNat)
  case atStart => exact ⟨0, rfl, by omega, rfl, Gou.Mod.alloc _ _ _⟩
  case round =>
   obtain ⟨k, rfl, hk, rfl, hm⟩ := hrel
   rcases (show k = 0 ∨ k = 1 ∨ k = 2 ∨ k = 3 ∨ k = 4 by omega) with rfl | rfl | rfl | rfl | rfl
   ·simp only [uj7]
    go_wp2_with fail
    go_roundw
    case rel => exact ⟨1, by simp, by omega, by simp [uj7], hm⟩
    case measure => simp [intOf]
   ·simp only [uj7]
    go_wp2_with fail
    go_roundw
    case rel => exact ⟨2, by simp, by omega, by simp [uj7], hm⟩
    case measure => simp [intOf]
   ·simp only [uj7]
    go_wp2_with fail
    go_roundw
    case rel => exact ⟨3, by simp, by omega, by simp [uj7], hm⟩
    case measure => simp [intOf]
   ·simp only [uj7]
    go_wp2_with fail
    go_roundw
    case rel => exact ⟨4, by simp, by omega, by simp [uj7], hm⟩
    case measure => simp [intOf]
   ·simp only [uj7]
    go_wp2_with fail
    go_ret
    exact ⟨rfl, hm⟩
 ·go_enter Tryz.func54, Tryz.ntmps54
  have i0 : ∀ w : World, ∀ x0 x1 x2 x3 : Bool, (Instr.index 131 (.agg #[.bool x0, .bool x1, .bool x2, .bool x3]) (iV 0)).run Tryz.prog w = .ok (.bool x0) w := fun _ _ _ _ _ => by kernel_rfl
  have i1 : ∀ w : World, ∀ x0 x1 x2 x3 : Bool, (Instr.index 131 (.agg #[.bool x0, .bool x1, .bool x2, .bool x3]) (iV 1)).run Tryz.prog w = .ok (.bool x1) w := fun _ _ _ _ _ => by kernel_rfl
  have i2 : ∀ w : World, ∀ x0 x1 x2 x3 : Bool, (Instr.index 131 (.agg #[.bool x0, .bool x1, .bool x2, .bool x3]) (iV 2)).run Tryz.prog w = .ok (.bool x2) w := fun _ _ _ _ _ => by kernel_rfl
  have i3 : ∀ w : World, ∀ x0 x1 x2 x3 : Bool, (Instr.index 131 (.agg #[.bool x0, .bool x1, .bool x2, .bool x3]) (iV 3)).run Tryz.prog w = .ok (.bool x3) w := fun _ _ _ _ _ => by kernel_rfl
  go_wp2_with fail
  go_loopw [15, 3] (fun c s wr => ∃ k : Nat, c = iV k ∧ k ≤ 4 ∧ s = iV (uj7 k (true, false, true, false)) ∧ Gou.Mod (fun _ => False) w wr) (fun c _ _ => 4 - (intOf c).toNat)
  case atStart => exact ⟨0, rfl, by omega, rfl, Gou.Mod.alloc _ _ _⟩
  case round =>
   obtain ⟨k, rfl, hk, rfl, hm⟩ := hrel
   rcases (show k = 0 ∨ k = 1 ∨ k = 2 ∨ k = 3 ∨ k = 4 by omega) with rfl | rfl | rfl | rfl | rfl
   ·simp only [uj7]
    go_wp2_with fail
    go_roundw
    case rel => exact ⟨1, by simp, by omega, by simp [uj7], hm⟩
    case measure => simp [intOf]
   ·simp only [uj7]
    go_wp2_with fail
    go_roundw
    case rel => exact ⟨2, by simp, by omega, by simp [uj7], hm⟩
    case measure => simp [intOf]
   ·simp only [uj7]
    go_wp2_with fail
    go_roundw
    case rel => exact ⟨3, by simp, by omega, by simp [uj7], hm⟩
    case measure => simp [intOf]
   ·simp only [uj7]
    go_wp2_with fail
    go_roundw
    case rel => exact ⟨4, by simp, by omega, by simp [uj7], hm⟩
    case measure => simp [intOf]
   ·simp only [uj7]
    go_wp2_with fail
    go_ret
    exact ⟨rfl, hm⟩
 ·go_enter Tryz.func54, Tryz.ntmps54
  have i0 : ∀ w : World, ∀ x0 x1 x2 x3 : Bool, (Instr.index 131 (.agg #[.bool x0, .bool x1, .bool x2, .bool x3]) (iV 0)).run Tryz.prog w = .ok (.bool x0) w := fun _ _ _ _ _ => by kernel_rfl
  have i1 : ∀ w : World, ∀ x0 x1 x2 x3 : Bool, (Instr.index 131 (.agg #[.bool x0, .bool x1, .bool x2, .bool x3]) (iV 1)).run Tryz.prog w = .ok (.bool x1) w := fun _ _ _ _ _ => by kernel_rfl
  have i2 : ∀ w : World, ∀ x0 x1 x2 x3 : Bool, (Instr.index 131 (.agg #[.bool x0, .bool x1, .bool x2, .bool x3]) (iV 2)).run Tryz.prog w = .ok (.bool x2) w := fun _ _ _ _ _ => by kernel_rfl
  have i3 : ∀ w : World, ∀ x0 x1 x2 x3 : Bool, (Instr.index 131 (.agg #[.bool x0, .bool x1, .bool x2, .bool x3]) (iV 3)).run Tryz.prog w = .ok (.bool x3) w := fun _ _ _ _ _ => by kernel_rfl
  go_wp2_with fail
  go_loopw [15, 3] (fun c s wr => ∃ k : Nat, c = iV k ∧ k ≤ 4 ∧ s = iV (uj7 k (true, false, true, true)) ∧ Gou.Mod (fun _ => False) w wr) (fun c _ _ => 4 - (intOf c).toNat)
  case atStart => exact ⟨0, rfl, by omega, rfl, Gou.Mod.alloc _ _ _⟩
  case round =>
   obtain ⟨k, rfl, hk, rfl, hm⟩ := hrel
   rcases (show k = 0 ∨ k = 1 ∨ k = 2 ∨ k = 3 ∨ k = 4 by omega) with rfl | rfl | rfl | rfl | rfl
   ·simp only [uj7]
    go_wp2_with fail
    go_roundw
    case rel => exact ⟨1, by simp, by omega, by simp [uj7], hm⟩
    case measure => simp [intOf]
   ·simp only [uj7]
    go_wp2_with fail
    go_roundw
    case rel => exact ⟨2, by simp, by omega, by simp [uj7], hm⟩
    case measure => simp [intOf]
   ·simp only [uj7]
    go_wp2_with fail
    go_roundw
    case rel => exact ⟨3, by simp, by omega, by simp [uj7], hm⟩
    case measure => simp [intOf]
   ·simp only [uj7]
    go_wp2_with fail
    go_roundw
    case rel => exact ⟨4, by simp, by omega, by simp [uj7], hm⟩
    case measure => simp [intOf]
   ·simp only [uj7]
    go_wp2_with fail
    go_ret
    exact ⟨rfl, hm⟩
 ·go_enter Tryz.func54, Tryz.ntmps54
  have i0 : ∀ w : World, ∀ x0 x1 x2 x3 : Bool, (Instr.index 131 (.agg #[.bool x0, .bool x1, .bool x2, .bool x3]) (iV 0)).run Tryz.prog w = .ok (.bool x0) w := fun _ _ _ _ _ => by kernel_rfl
  have i1 : ∀ w : World, ∀ x0 x1 x2 x3 : Bool, (Instr.index 131 (.agg #[.bool x0, .bool x1, .bool x2, .bool x3]) (iV 1)).run Tryz.prog w = .ok (.bool x1) w := fun _ _ _ _ _ => by kernel_rfl
  have i2 : ∀ w : World, ∀ x0 x1 x2 x3 : Bool, (Instr.index 131 (.agg #[.bool x0, .bool x1, .bool x2, .bool x3]) (iV 2)).run Tryz.prog w = .ok (.bool x2) w := fun _ _ _ _ _ => by kernel_rfl
  have i3 : ∀ w : World, ∀ x0 x1 x2 x3 : Bool, (Instr.index 131 (.agg #[.bool x0, .bool x1, .bool x2, .bool x3]) (iV 3)).run Tryz.prog w = .ok (.bool x3) w := fun _ _ _ _ _ => by kernel_rfl
  go_wp2_with fail
  go_loopw [15, 3] (fun c s wr => ∃ k : Nat, c = iV k ∧ k ≤ 4 ∧ s = iV (uj7 k (true, true, false, false)) ∧ Gou.Mod (fun _ => False) w wr) (fun c _ _ => 4 - (intOf c).toNat)
  case atStart => exact ⟨0, rfl, by omega, rfl, Gou.Mod.alloc _ _ _⟩
  case round =>
   obtain ⟨k, rfl, hk, rfl, hm⟩ := hrel
   rcases (show k = 0 ∨ k = 1 ∨ k = 2 ∨ k = 3 ∨ k = 4 by omega) with rfl | rfl | rfl | rfl | rfl
   ·simp only [uj7]
    go_wp2_with fail
    go_roundw
    case rel => exact ⟨1, by simp, by omega, by simp [uj7], hm⟩
    case measure => simp [intOf]
   ·simp only [uj7]
    go_wp2_with fail
    go_roundw
    case rel => exact ⟨2, by simp, by omega, by simp [uj7], hm⟩
    case measure => simp [intOf]
   ·simp only [uj7]
    go_wp2_with fail
    go_roundw
    case rel => exact ⟨3, by simp, by omega, by simp [uj7], hm⟩
    case measure => simp [intOf]
   ·simp only [uj7]
    go_wp2_with fail
    go_roundw
    case rel => exact ⟨4, by simp, by omega, by simp [uj7], hm⟩
    case measure => simp [intOf]
   ·simp only [uj7]
    go_wp2_with fail
    go_ret
    exact ⟨rfl, hm⟩
 ·go_enter Tryz.func54, Tryz.ntmps54
  have i0 : ∀ w : World, ∀ x0 x1 x2 x3 : Bool, (Instr.index 131 (.agg #[.bool x0, .bool x1, .bool x2, .bool x3]) (iV 0)).run Tryz.prog w = .ok (.bool x0) w := fun _ _ _ _ _ => by kernel_rfl
  have i1 : ∀ w : World, ∀ x0 x1 x2 x3 : Bool, (Instr.index 131 (.agg #[.bool x0, .bool x1, .bool x2, .bool x3]) (iV 1)).run Tryz.prog w = .ok (.bool x1) w := fun _ _ _ _ _ => by kernel_rfl
  have i2 : ∀ w : World, ∀ x0 x1 x2 x3 : Bool, (Instr.index 131 (.agg #[.bool x0, .bool x1, .bool x2, .bool x3]) (iV 2)).run Tryz.prog w = .ok (.bool x2) w := fun _ _ _ _ _ => by kernel_rfl
  have i3 : ∀ w : World, ∀ x0 x1 x2 x3 : Bool, (Instr.index 131 (.agg #[.bool x0, .bool x1, .bool x2, .bool x3]) (iV 3)).run Tryz.prog w = .ok (.bool x3) w := fun _ _ _ _ _ => by kernel_rfl
  go_wp2_with fail
  go_loopw [15, 3] (fun c s wr => ∃ k : Nat, c = iV k ∧ k ≤ 4 ∧ s = iV (uj7 k (true, true, false, true)) ∧ Gou.Mod (fun _ => False) w wr) (fun c _ _ => 4 - (intOf c).toNat)
  case atStart => exact ⟨0, rfl, by omega, rfl, Gou.Mod.alloc _ _ _⟩
  case round =>
   obtain ⟨k, rfl, hk, rfl, hm⟩ := hrel
   rcases (show k = 0 ∨ k = 1 ∨ k = 2 ∨ k = 3 ∨ k = 4 by omega) with rfl | rfl | rfl | rfl | rfl
   ·simp only [uj7]
    go_wp2_with fail
    go_roundw
    case rel => exact ⟨1, by simp, by omega, by simp [uj7], hm⟩
    case measure => simp [intOf]
   ·simp only [uj7]
    go_wp2_with fail
    go_roundw
    case rel => exact ⟨2, by simp, by omega, by simp [uj7], hm⟩
    case measure => simp [intOf]
   ·simp only [uj7]
    go_wp2_with fail
    go_roundw
    case rel => exact ⟨3, by simp, by omega, by simp [uj7], hm⟩
    case measure => simp [intOf]
   ·simp only [uj7]
    go_wp2_with fail
    go_roundw
    case rel => exact ⟨4, by simp, by omega, by simp [uj7], hm⟩
    case measure => simp [intOf]
   ·simp only [uj7]
    go_wp2_with fail
    go_ret
    exact ⟨rfl, hm⟩
 ·go_enter Tryz.func54, Tryz.ntmps54
  have i0 : ∀ w : World, ∀ x0 x1 x2 x3 : Bool, (Instr.index 131 (.agg #[.bool x0, .bool x1, .bool x2, .bool x3]) (iV 0)).run Tryz.prog w = .ok (.bool x0) w := fun _ _ _ _ _ => by kernel_rfl
  have i1 : ∀ w : World, ∀ x0 x1 x2 x3 : Bool, (Instr.index 131 (.agg #[.bool x0, .bool x1, .bool x2, .bool x3]) (iV 1)).run Tryz.prog w = .ok (.bool x1) w := fun _ _ _ _ _ => by kernel_rfl
  have i2 : ∀ w : World, ∀ x0 x1 x2 x3 : Bool, (Instr.index 131 (.agg #[.bool x0, .bool x1, .bool x2, .bool x3]) (iV 2)).run Tryz.prog w = .ok (.bool x2) w := fun _ _ _ _ _ => by kernel_rfl
  have i3 : ∀ w : World, ∀ x0 x1 x2 x3 : Bool, (Instr.index 131 (.agg #[.bool x0, .bool x1, .bool x2, .bool x3]) (iV 3)).run Tryz.prog w = .ok (.bool x3) w := fun _ _ _ _ _ => by kernel_rfl
  go_wp2_with fail
  go_loopw [15, 3] (fun c s wr => ∃ k : Nat, c = iV k ∧ k ≤ 4 ∧ s = iV (uj7 k (true, true, true, false)) ∧ Gou.Mod (fun _ => False) w wr) (fun c _ _ => 4 - (intOf c).toNat)
  case atStart => exact ⟨0, rfl, by omega, rfl, Gou.Mod.alloc _ _ _⟩
  case round =>
   obtain ⟨k, rfl, hk, rfl, hm⟩ := hrel
   rcases (show k = 0 ∨ k = 1 ∨ k = 2 ∨ k = 3 ∨ k = 4 by omega) with rfl | rfl | rfl | rfl | rfl
   ·simp only [uj7]
    go_wp2_with fail
    go_roundw
    case rel => exact ⟨1, by simp, by omega, by simp [uj7], hm⟩
    case measure => simp [intOf]
   ·simp only [uj7]
    go_wp2_with fail
    go_roundw
    case rel => exact ⟨2, by simp, by omega, by simp [uj7], hm⟩
    case measure => simp [intOf]
   ·simp only [uj7]
    go_wp2_with fail
    go_roundw
    case rel => exact ⟨3, by simp, by omega, by simp [uj7], hm⟩
    case measure => simp [intOf]
   ·simp only [uj7]
    go_wp2_with fail
    go_roundw
    case rel => exact ⟨4, by simp, by omega, by simp [uj7], hm⟩
    case measure => simp [intOf]
   ·simp only [uj7]
    go_wp2_with fail
    go_ret
    exact ⟨rfl, hm⟩
 ·go_enter Tryz.func54, Tryz.ntmps54
  have i0 : ∀ w : World, ∀ x0 x1 x2 x3 : Bool, (Instr.index 131 (.agg #[.bool x0, .bool x1, .bool x2, .bool x3]) (iV 0)).run Tryz.prog w = .ok (.bool x0) w := fun _ _ _ _ _ => by kernel_rfl
  have i1 : ∀ w : World, ∀ x0 x1 x2 x3 : Bool, (Instr.index 131 (.agg #[.bool x0, .bool x1, .bool x2, .bool x3]) (iV 1)).run Tryz.prog w = .ok (.bool x1) w := fun _ _ _ _ _ => by kernel_rfl
  have i2 : ∀ w : World, ∀ x0 x1 x2 x3 : Bool, (Instr.index 131 (.agg #[.bool x0, .bool x1, .bool x2, .bool x3]) (iV 2)).run Tryz.prog w = .ok (.bool x2) w := fun _ _ _ _ _ => by kernel_rfl
  have i3 : ∀ w : World, ∀ x0 x1 x2 x3 : Bool, (Instr.index 131 (.agg #[.bool x0, .bool x1, .bool x2, .bool x3]) (iV 3)).run Tryz.prog w = .ok (.bool x3) w := fun _ _ _ _ _ => by kernel_rfl
  go_wp2_with fail
  go_loopw [15, 3] (fun c s wr => ∃ k : Nat, c = iV k ∧ k ≤ 4 ∧ s = iV (uj7 k (true, true, true, true)) ∧ Gou.Mod (fun _ => False) w wr) (fun c _ _ => 4 - (intOf c).toNat)
  case atStart => exact ⟨0, rfl, by omega, rfl, Gou.Mod.alloc _ _ _⟩
  case round =>
   obtain ⟨k, rfl, hk, rfl, hm⟩ := hrel
   rcases (show k = 0 ∨ k = 1 ∨ k = 2 ∨ k = 3 ∨ k = 4 by omega) with rfl | rfl | rfl | rfl | rfl
   ·simp only [uj7]
    go_wp2_with fail
    go_roundw
    case rel => exact ⟨1, by simp, by omega, by simp [uj7], hm⟩
    case measure => simp [intOf]
   ·simp only [uj7]
    go_wp2_with fail
    go_roundw
    case rel => exact ⟨2, by simp, by omega, by simp [uj7], hm⟩
    case measure => simp [intOf]
   ·simp only [uj7]
    go_wp2_with fail
    go_roundw
    case rel => exact ⟨3, by simp, by omega, by simp [uj7], hm⟩
    case measure => simp [intOf]
   ·simp only [uj7]
    go_wp2_with fail
    go_roundw
    case rel => exact ⟨4, by simp, by omega, by simp [uj7], hm⟩
    case measure => simp [intOf]
   ·simp only [uj7]
    go_wp2_with fail
    go_ret
    exact ⟨rfl, hm⟩
end Go.Proofs.YtgolafbneiffpaaGreatDoor
namespace Go.Gou
open Go.RowKit
def ulp (ps : List Pxl) : List Nat := ps.flatMap fun p => [p.p0, p.p1, p.p2, p.p3]
theorem upz (ps : List Pxl) : (ulp ps).length = 4 * ps.length := by
 induction ps with
 | nil => rfl
 | cons p r ih => simp only [ulp, List.flatMap_cons, List.length_append] at ih ⊢; rw [ih]; simp; omega
theorem WrAt.pushes {w w1 w2 : World} {W : Nat} {TW TB : TypeId} {bs ys : List Nat} {vs : Value} {gg cp t : Nat} (h : WrAt w W TW TB bs vs) (ht : t = bs.length + ys.length) (hm : Mod (fun _ => False) w w1)
  (hown : w2.ownsRow (W + 1) TB 1 (.slice (some ⟨gg, 0, none⟩) t cp) t (u8s bs ++ u8s ys)) (hgrow : w1.grownBy w2 vs.ownBlock) (hat : vs.ownBlock = some gg ∨ gg = w1.heap.size) :
  WrAt (w2.setCell ⟨W, 0, none⟩ (.slice (some ⟨gg, 0, none⟩) t cp)) W TW TB (bs ++ ys) (.slice (some ⟨gg, 0, none⟩) t cp) ∧ WTo W w vs (w2.setCell ⟨W, 0, none⟩ (.slice (some ⟨gg, 0, none⟩) t cp)) (.slice (some ⟨gg, 0, none⟩) t cp) := by
 subst ht
 have hlt : ∀ k, vs.ownBlock = some k → W + 1 ≤ k ∧ k < w.heap.size := fun k hk => h.own.lt k hk
 have hW := Blk.lt h.box
 have hs := hm.size
 have hm2 := Mod.of_grown hgrow
 have hb2 : Blk w2 W TW #[vs] := (h.box.mod hm (fun h => h)).mod hm2 (fun e => by have := hlt _ e; omega)
 have hggW : gg ≠ W := by
  rcases hat with hat | hat
  ·have := hlt _ hat; omega
  ·omega
 refine ⟨⟨hb2.set 0 _, ?_⟩, ⟨?_, ?_⟩⟩
 ·have e : u8s (bs ++ ys) = u8s bs ++ u8s ys := by simp [u8s]
  rw [e]
  have h1 := uac (S := fun k => k = W) hown (Mod.setCell w2 ⟨W, 0, none⟩ (.slice (some ⟨gg, 0, none⟩) (bs.length + ys.length) cp)) (fun k hk => by simp only [Value.ownBlock, Option.some.injEq] at hk; subst hk; exact hggW)
  simpa using h1
 ·exact (((hm.imp fun _ _ h => h.elim).trans' (hm2.imp fun _ _ h => .inr h)).trans' ((Mod.setCell w2 ⟨W, 0, none⟩ _).imp fun _ _ h => .inl h))
 ·intro g hg
  simp only [Value.ownBlock, Option.some.injEq] at hg
  subst hg
  rcases hat with hat | hat
  ·exact .inl hat
  ·exact .inr (by omega)
theorem WrAt.mids {w w1 w2 : World} {W : Nat} {TW TB : TypeId} {bs : List Nat} {vs : Value} (h : WrAt w W TW TB bs vs) (hm : Mod (fun _ => False) w w1) (hgrow : w1.grownBy w2 vs.ownBlock) : w2.cell? ⟨W, 0, none⟩ = some vs ∧ w2.frozen? ⟨W, 0, none⟩ = false := by
 have hb2 : Blk w2 W TW #[vs] := (h.box.mod hm (fun h => h)).mod (Mod.of_grown hgrow) (fun e => by have := (h.own.lt _ e).1; omega)
 exact ⟨hb2.cell 0 rfl, hb2.frozen 0⟩
theorem pxs_get (ps : List Pxl) (i : Nat) (h : i < ps.length) : (pxs ps)[i * 4]? = some (.int .u8 (ps[i].p0 : Nat)) ∧ (pxs ps)[i * 4 + 1]? = some (.int .u8 (ps[i].p1 : Nat)) ∧ (pxs ps)[i * 4 + 2]? = some (.int .u8 (ps[i].p2 : Nat)) ∧ (pxs ps)[i * 4 + 3]? = some (.int .u8 (ps[i].p3 : Nat)) := by
 induction ps generalizing i with
 | nil => simp at h
 | cons p r ih =>
  have e : pxs (p :: r) = p.cells ++ pxs r := by simp [pxs]
  rw [e]
  have hl : p.cells.length = 4 := rfl
  cases i with
  | zero =>
   refine ⟨?_, ?_, ?_, ?_⟩ <;> (rw [lgL (by omega)]; rfl)
  | succ i =>
   have := ih i (by simpa using h)
   obtain ⟨h0, h1, h2, h3⟩ := this
   have hk : ∀ j, (p.cells ++ pxs r)[(i + 1) * 4 + j]? = (pxs r)[i * 4 + j]? := fun j => by
    rw [lgR (by omega), hl]
    congr 1
    omega
   refine ⟨?_, ?_, ?_, ?_⟩
   ·rw [show (i + 1) * 4 = (i + 1) * 4 + 0 from rfl, hk]; exact h0
   ·rw [hk]; exact h1
   ·rw [hk]; exact h2
   ·rw [hk]; exact h3
theorem PixR.cells {G : Nat → Prop} {w : World} {p : Option Addr} {c n : Nat} {ps : List Pxl} (h : PixR G w (.slice p n c) ps) (h0 : 0 < ps.length) :
  n = ps.length ∧ ∃ b o, p = some ⟨b, o, none⟩ ∧ b < w.heap.size ∧ G b ∧ ∀ i, (hi : i < ps.length) → w.cell? ⟨b, o + i * 4, none⟩ = some (.int .u8 (ps[i].p0 : Nat)) ∧ w.cell? ⟨b, o + i * 4 + 1, none⟩ = some (.int .u8 (ps[i].p1 : Nat)) ∧
      w.cell? ⟨b, o + i * 4 + 2, none⟩ = some (.int .u8 (ps[i].p2 : Nat)) ∧ w.cell? ⟨b, o + i * 4 + 3, none⟩ = some (.int .u8 (ps[i].p3 : Nat)) := by
 obtain ⟨hl, p', c', e, hcap, h⟩ := h
 simp only [Value.slice.injEq] at e
 obtain ⟨rfl, rfl, rfl⟩ := e
 rcases h with h | ⟨b, o, rfl, hb, hG, hc⟩
 ·omega
 ·refine ⟨rfl, b, o, rfl, hb, hG, fun i hi => ?_⟩
  obtain ⟨h0, h1, h2, h3⟩ := pxs_get ps i hi
  refine ⟨hc _ _ h0, ?_, ?_, ?_⟩
  ·have := hc _ _ h1; rwa [← Nat.add_assoc] at this
  ·have := hc _ _ h2; rwa [← Nat.add_assoc] at this
  ·have := hc _ _ h3; rwa [← Nat.add_assoc] at this
end Go.Gou
namespace Go.Proofs.YtgolafbneiffpaaGreatDoor
open Go.RowKit Go.Gou
set_option maxRecDepth 100000 in
theorem upq (w : World) (W : Nat) (bs : List Nat) (vs v : Value) (ps : List Pxl) (h : Wr w W bs vs) (hx : PixR (fun b => b ≠ W ∧ vs.ownBlock ≠ some b) w v ps) (hl : bs.length + 4 * ps.length ≤ 1000000000) :
  Calls Tryz.prog 123 #[.pointer (some ⟨W, 0, none⟩), v] w (WrP w W bs vs (some (ulp ps))) := by
 have H := hd' h
 obtain ⟨i0, hi0, hz0, hz1, hz2⟩ := info_parts un4
 obtain ⟨p, c, rfl, hpc⟩ := RowG.form hx
 have Hx := hd' hx
 have Hl := hd' hl
 have hxl : ps.length ≤ 250000000 := by omega
 clear h hx hl hpc
 go_enter Tryz.func123, Tryz.ntmps123
 go_wp2_with fail
 go_loopw [8] (fun c wr => ∃ (i : Nat) (v1 : Value), c = iV i ∧ i ≤ ps.length ∧ Wr wr W (bs ++ ulp (ps.take i)) v1 ∧ WTo W w vs wr v1) (fun c _ => ps.length - (intOf c).toNat)
 case atStart => exact ⟨0, vs, rfl, by omega, by simpa [ulp] using H.o, WTo.refl _ _ _⟩
 case round =>
  obtain ⟨i, v1, rfl, hi, hw1, ht1⟩ := hrel
  obtain ⟨BS, hBS⟩ : ∃ BS, BS = bs ++ ulp (ps.take i) := ⟨_, rfl⟩
  rw [← hBS] at hw1
  have Hbl : Hid (BS.length + 4 ≤ 2000000000) := hd' (by have := Hl.o; rw [hBS]; simp only [List.length_append, upz, List.length_take]; omega)
  have HBS := hd' hBS
  obtain ⟨pv, cv, rfl⟩ := ownsRow_form hw1.own
  have Hw1 := hd' hw1
  have Ht1 := hd' ht1
  have cW := hw1.box.cell 0 rfl
  have fW := hw1.box.frozen 0
  have hWlt := Blk.lt hw1.box
  clear hw1 ht1 hBS
  by_cases hil : i < ps.length
  ·have e1 : decide ((i : Int) < (ps.length : Int)) = true := by simp; omega
   obtain ⟨-, b, o, rfl, hb, hG, hc⟩ := Hx.o.cells (by omega)
   obtain ⟨k0, k1, k2, k3⟩ := hc i hil
   have hmc : ∀ j, wr.cell? ⟨b, j, none⟩ = w.cell? ⟨b, j, none⟩ := fun j => Ht1.o.mod.cell (p := ⟨b, j, none⟩) hb (by rintro (e | e); exact hG.1 e; exact hG.2 e)
   rw [← hmc] at k0 k1 k2 k3
   have hiI : (i : Int) < (ps.length : Int) := by omega
   have hi0I : (0 : Int) ≤ (i : Int) := by omega
   have hpt : Hid (ulp (ps.take (i + 1)) = ulp (ps.take i) ++ [ps[i].p0, ps[i].p1, ps[i].p2, ps[i].p3]) := hd' (by simp only [ulp, List.take_add_one, lgE hil, Option.toList_some, List.flatMap_append, List.flatMap_cons, List.flatMap_nil, List.append_nil])
   clear hc hG hmc
   generalize ps[i] = px at *
   obtain ⟨p0, p1, p2, p3⟩ := px
   simp only at k0 k1 k2 k3
   have Hown : Hid (((wr.alloc (.cells #[.int .u8 (p0 : Nat), .int .u8 (p1 : Nat), .int .u8 (p2 : Nat), .int .u8 (p3 : Nat)] 27)).drew).ownsRow (W + 1) 5 1 (.slice pv BS.length cv) BS.length (u8s BS)) :=
    hd' (uac Hw1.o.own ((Gou.Mod.alloc (fun _ => False) _ _).trans' (Gou.Mod.drew _ _)) (fun _ _ h => h))
   have HM : Hid (Gou.Mod (fun _ => False) wr ((wr.alloc (.cells #[.int .u8 (p0 : Nat), .int .u8 (p1 : Nat), .int .u8 (p2 : Nat), .int .u8 (p3 : Nat)] 27)).drew)) := hd' ((Gou.Mod.alloc (fun _ => False) _ _).trans' (Gou.Mod.drew _ _))
   go_wp2_with fail
   go_region_law (first | (refine step_append_lies _ (by rfl) _ _ _ (by rfl) (W + 1) 5 i0 (.int .u8 0) 1 1 Tryz.underlying61 hi0 hz0 hz1 hz2 rfl (by omega) (.slice pv BS.length cv) BS.length (u8s BS) (by rfl) Hown.o ⟨_, 0, none⟩ 4 _ [.int .u8 (p0 : Nat), .int .u8 (p1 : Nat), .int .u8 (p2 : Nat), .int .u8 (p3 : Nat)] (by rfl) (by rfl) (un2 (cs := #[.int .u8 (p0 : Nat), .int .u8 (p1 : Nat), .int .u8 (p2 : Nat), .int .u8 (p3 : Nat)]) (t := 27) (fr := (0, 0)) (by rw [heap_drew]; exact uoq rfl) rfl) (by simp [Value.oneCell']) (by omega) (by have := Hbl.o; unfold maxLen; omega) (by have := Hbl.o; omega) (by simp; omega) _ rfl ?_; intro gg cp w4 hown4 hgrow4 hat4 hlt4; have hcf4 := Hw1.o.mids HM.o hgrow4; obtain ⟨c4, f4⟩ := hcf4) | fail)
   all_goals
       have hP := Hw1.o.pushes (ys := [p0, p1, p2, p3]) rfl HM.o hown4 hgrow4 hat4
       have HP := hd' hP
       clear hP hown4 hgrow4 hat4 hlt4
       go_wp2_with fail
       go_roundw
       case rel => exact ⟨i + 1, _, by go_num, by omega, by
        rw [hpt.out, ← List.append_assoc, ← HBS.o]
        exact HP.o.1, Ht1.o.trans HP.o.2⟩
       case measure => simp [intOf]; omega
  ·obtain rfl : i = ps.length := by omega
   have e1 : decide ((ps.length : Int) < (ps.length : Int)) = false := by simp
   go_wp2_with fail
   go_end0
   exact ⟨_, Ht1.o, rfl, by
    have := Hw1.o
    rw [HBS.o, List.take_length] at this
    rw [HBS.o, List.take_length]
    exact this⟩
end Go.Proofs.YtgolafbneiffpaaGreatDoor
namespace Go.Gou
open Go.RowKit
def ulm (n : ubb) : Option (List Nat) :=
 if n.ins.length ≤ 100 ∧ n.ps.length ≤ 100 then (ug4 [n.op, (n.ins.length : Int)]).bind fun a => (ug4 n.ins).bind fun b => (ug4 [(n.ps.length : Int)]).bind fun c => (ug4 n.ps).bind fun d => some (a ++ (b ++ (c ++ d)))
 else none
def ukr : List ubb → Option (List Nat)
 | [] => some []
 | n :: r => (ulm n).bind fun a => (ukr r).map (a ++ ·)
def uk5 (g : Gr) : Option (List Nat) :=
 if g.nodes.length ≤ 1000 then (ug4 [g.out, (g.nodes.length : Int)]).bind fun a => (ukr g.nodes).map (a ++ ·) else none
theorem uqh {n : ubb} {es : List Nat} (h : ulm n = some es) : es.length ≤ 1015 := by
 unfold ulm at h
 split at h
 ·rename_i hc
  obtain ⟨a, ha, h⟩ := Option.bind_eq_some_iff.1 h
  obtain ⟨b, hb, h⟩ := Option.bind_eq_some_iff.1 h
  obtain ⟨c, hcc, h⟩ := Option.bind_eq_some_iff.1 h
  obtain ⟨d, hd, h⟩ := Option.bind_eq_some_iff.1 h
  have := uj9 ha
  have := uj9 hb
  have := uj9 hcc
  have := uj9 hd
  simp only [Option.some.injEq] at h
  subst h
  simp only [List.length_append, List.length_cons, List.length_nil] at *
  omega
 ·cases h
theorem uoz {ns : List ubb} {i : Nat} {n : ubb} (h : ns[i]? = some n) : ukr (ns.drop i) = (ulm n).bind fun a => (ukr (ns.drop (i + 1))).map (a ++ ·) := by
 obtain ⟨hi, rfl⟩ := lgS.1 h
 rw [List.drop_eq_getElem_cons hi, ukr]
theorem WTo.far {W : Nat} {TW TB : TypeId} {bs : List Nat} {w w' : World} {vs vs' : Value} (t : WTo W w vs w' vs') (h : WrAt w W TW TB bs vs) : Mod (fun k => W ≤ k) w w' :=
 t.mod.imp fun k _ hk => by
  rcases hk with rfl | hk
  ·exact Nat.le_refl _
  ·have := (h.own.lt _ hk).1; omega
theorem IntsR.use {W : Nat} {TW TB : TypeId} {bs : List Nat} {w : World} {vs v : Value} {xs : List Int} (h : IntsR (fun b => b < W) w v xs) (hw : WrAt w W TW TB bs vs) : IntsR (fun b => b ≠ W ∧ vs.ownBlock ≠ some b) w v xs :=
 RowG.imp h fun k _ hG => ⟨by omega, fun e => by have := (hw.own.lt _ e).1; omega⟩
theorem PixR.use {W : Nat} {TW TB : TypeId} {bs : List Nat} {w : World} {vs v : Value} {xs : List Pxl} (h : PixR (fun b => b < W) w v xs) (hw : WrAt w W TW TB bs vs) : PixR (fun b => b ≠ W ∧ vs.ownBlock ≠ some b) w v xs :=
 RowG.imp h fun k _ hG => ⟨by omega, fun e => by have := (hw.own.lt _ e).1; omega⟩
theorem NodesR.cells {G : Nat → Prop} {w : World} {p : Option Addr} {c n : Nat} {ns : List ubb} (h : NodesR G w (.slice p n c) ns) (h0 : 0 < ns.length) :
  n = ns.length ∧ ∃ b o, p = some ⟨b, o, none⟩ ∧ b < w.heap.size ∧ G b ∧ ∀ i nd, ns[i]? = some nd → ∃ pi ci pp cp, w.cell? ⟨b, o + i * 3, none⟩ = some (iV nd.op) ∧ w.cell? ⟨b, o + i * 3 + 1, none⟩ = some (.slice pi nd.ins.length ci) ∧ w.cell? ⟨b, o + i * 3 + 2, none⟩ = some (.slice pp nd.ps.length cp) ∧
      IntsR G w (.slice pi nd.ins.length ci) nd.ins ∧ IntsR G w (.slice pp nd.ps.length cp) nd.ps := by
 obtain ⟨cs, ⟨hl, p', c', e, hcap, h⟩, hn⟩ := h
 simp only [Value.slice.injEq] at e
 obtain ⟨rfl, rfl, rfl⟩ := e
 rcases h with h | ⟨b, o, rfl, hb, hG, hc⟩
 ·omega
 ·refine ⟨rfl, b, o, rfl, hb, hG, fun i nd hi => ?_⟩
  obtain ⟨hlt, rfl⟩ := lgS.1 hi
  obtain ⟨vi, vp, c0, c1, c2, h1, h2⟩ := hn.2 i hlt
  obtain ⟨pi, ci, rfl, _⟩ := RowG.form h1
  obtain ⟨pp, cp, rfl, _⟩ := RowG.form h2
  refine ⟨pi, ci, pp, cp, hc _ _ c0, ?_, ?_, h1, h2⟩
  ·have := hc _ _ c1; rwa [← Nat.add_assoc] at this
  ·have := hc _ _ c2; rwa [← Nat.add_assoc] at this
theorem ump {g : Gr} {e1 : List Nat} (hn : g.nodes.length ≤ 1000) (h1 : ug4 [g.out, (g.nodes.length : Int)] = some e1) {i : Nat} {es : List Nat} {nd : ubb} (henc : ukr g.nodes = (ukr (g.nodes.drop i)).map (es ++ ·)) (hnd : g.nodes[i]? = some nd)
  (h : ulm nd = none) : uk5 g = none := by
 unfold uk5
 rw [if_pos hn, h1, henc, uoz hnd, h]
 rfl
theorem uv6 {g : Gr} {i : Nat} {es e2 : List Nat} {nd : ubb} (henc : ukr g.nodes = (ukr (g.nodes.drop i)).map (es ++ ·)) (hnd : g.nodes[i]? = some nd) (h : ulm nd = some e2) : ukr g.nodes = (ukr (g.nodes.drop (i + 1))).map ((es ++ e2) ++ ·) := by
 rw [henc, uoz hnd, h]
 cases ukr (g.nodes.drop (i + 1)) <;> simp
end Go.Gou
namespace Go.Proofs.YtgolafbneiffpaaGreatDoor
open Go.RowKit Go.Gou
set_option maxRecDepth 100000
theorem uqt (w : World) (W : Nat) (bs : List Nat) (vs : Value) (p : Option Addr) (c : Nat) (g : Gr) (h : Wr w W bs vs) (hx : NodesR (fun b => b < W) w (.slice p g.nodes.length c) g.nodes) (hl : bs.length ≤ 900000000) :
  Calls Tryz.prog 99 #[.pointer (some ⟨W, 0, none⟩), .agg #[.slice p g.nodes.length c, iV g.out]] w (WrP w W bs vs (uk5 g)) := by
 have H := hd' h
 have HB0 : Hid (Blk ((w.alloc (.cells #[.slice p g.nodes.length c, iV g.out] 33))) w.heap.size 33 #[.slice p g.nodes.length c, iV g.out]) := hd' (heap_alloc_new w _)
 have HW0 : Hid (Wr ((w.alloc (.cells #[.slice p g.nodes.length c, iV g.out] 33))) W bs vs) := hd' (h.alloc _)
 have HT0 : Hid (WTo W w vs ((w.alloc (.cells #[.slice p g.nodes.length c, iV g.out] 33))) vs) := hd' (WTo.other (Gou.Mod.alloc _ _ _) vs)
 have HN0 : Hid (NodesR (fun b => b < W) ((w.alloc (.cells #[.slice p g.nodes.length c, iV g.out] 33))) (.slice p g.nodes.length c) g.nodes) := hd' (hx.mod (Gou.Mod.alloc (fun _ => False) _ _) (fun _ _ _ h => h))
 have hWlt := Blk.lt h.box
 clear h hx
 go_enter Tryz.func99, Tryz.ntmps99
 by_cases hn : g.nodes.length ≤ 1000
 ·have e1 : decide ((g.nodes.length : Int) ≤ 1000) = true := by simp; omega
  have Hn := hd' hn
  go_wp2_with fail
  generalize hW0 : ((w.alloc (.cells #[.slice p g.nodes.length c, iV g.out] 33))) = w0 at *
  clear hW0
  have b0 := HB0.o.cell 0 rfl
  have b1 := HB0.o.cell 1 rfl
  have hB0 := Blk.lt HB0.o
  refine (uku _).mono ?_
  rintro e w' ⟨rfl, rfl⟩
  go_wp2_with fail
  refine (ukc _ W (bs) vs _ [g.out, (g.nodes.length : Int)] (HW0.o.alloc _) (HW0.o.lit [g.out, (g.nodes.length : Int)] _ rfl 2 rfl _ rfl) (by simp; omega)).mono ?_
  rintro e w1 ⟨v1, t1, h1⟩
  have T1 := hd' ((HT0.o.trans (WTo.other (Gou.Mod.alloc _ _ _) vs)).trans t1)
  rcases hr1 : ug4 [g.out, (g.nodes.length : Int)] with _ | es1
  ·rw [hr1] at h1
   subst h1
   exact ⟨rfl, v1, T1.o, by unfold uk5; rw [if_pos Hn.o, hr1]; rfl⟩
  rw [hr1] at h1
  obtain ⟨rfl, hw1⟩ := h1
  have Hr1 := hd' hr1
  have Hw1 := hd' hw1
  have Tk1 := hd' t1
  have hE1 := uj9 hr1
  clear hr1 hw1 t1
  have tf := Gou.Mod.trans' ((Gou.Mod.alloc (fun k => W ≤ k) w' (.cells #[iV (g.out), iV (g.nodes.length : Int)] 3))) (WTo.far Tk1.o (HW0.o.alloc _))
  have HN1 := hd' (HN0.o.mod tf (fun k _ hG hk => by omega))
  have HB1 : Hid (Blk w1 w.heap.size 33 #[.slice p g.nodes.length c, iV g.out]) := hd' ((HB0.o.mod (Gou.Mod.alloc (fun _ => False) _ _) (fun h => h)).mod Tk1.o.mod (fun e => by
   rcases e with e | e
   ·omega
   ·have := (H.o.own.lt _ e).2; omega))
  have d0 := HB1.o.cell 0 rfl
  clear tf b0 b1
  go_wp2_with fail
  clear d0
  go_loopw [22] (fun cv wr => ∃ (i : Nat) (es : List Nat) (v2 : Value), cv = iV i ∧ i ≤ g.nodes.length ∧ ukr g.nodes = (ukr (g.nodes.drop i)).map (es ++ ·) ∧ es.length ≤ 1015 * i ∧ Wr wr W (bs ++ es1 ++ es) v2 ∧ WTo W w vs wr v2 ∧ NodesR (fun b => b < W) wr (.slice p g.nodes.length c) g.nodes) (fun cv _ => g.nodes.length - (intOf cv).toNat)
  case atStart => exact ⟨0, [], v1, rfl, by omega, by simp, by simp, by simpa using Hw1.o, T1.o, HN1.o⟩
  case round =>
   obtain ⟨i, es, v2, rfl, hi, henc, hes, hw, tw, hnr⟩ := hrel
   obtain ⟨BS, hBS⟩ : ∃ BS, BS = bs ++ es1 ++ es := ⟨_, rfl⟩
   rw [← hBS] at hw
   have Hbl : Hid (BS.length ≤ 910000000) := hd' (by have := Hn.o; simp only [List.length_cons, List.length_nil] at hE1; rw [hBS]; simp only [List.length_append]; omega)
   have HBS := hd' hBS
   have Henc := hd' henc
   have Hes := hd' hes
   have Hw := hd' hw
   have Tw := hd' tw
   have HNr := hd' hnr
   have hWr : W < wr.heap.size := Blk.lt hw.box
   clear henc hes hw tw hnr hBS
   by_cases hil : i < g.nodes.length
   ·have e2 : decide ((i : Int) < (g.nodes.length : Int)) = true := by simp; omega
    obtain ⟨-, b, o, rfl, hb, hbW, hc⟩ := HNr.o.cells (by omega)
    obtain ⟨nd, hnd⟩ : ∃ nd, g.nodes[i]? = some nd := ⟨_, lgE hil⟩
    obtain ⟨pi, ci, pp, cp, k0, k1, k2, hI, hP⟩ := hc i nd hnd
    have hiI : (i : Int) < (g.nodes.length : Int) := by omega
    have hi0I : (0 : Int) ≤ (i : Int) := by omega
    have Hnd := hd' hnd
    have HI : Hid (IntsR (fun b => b < W) (wr.alloc (.cells #[iV nd.op, .slice pi nd.ins.length ci, .slice pp nd.ps.length cp] 58)) (.slice pi nd.ins.length ci) nd.ins) := hd' (RowG.mod hI (Gou.Mod.alloc (fun _ => False) _ _) (fun _ _ _ h => h))
    have HP : Hid (IntsR (fun b => b < W) (wr.alloc (.cells #[iV nd.op, .slice pi nd.ins.length ci, .slice pp nd.ps.length cp] 58)) (.slice pp nd.ps.length cp) nd.ps) := hd' (RowG.mod hP (Gou.Mod.alloc (fun _ => False) _ _) (fun _ _ _ h => h))
    have HNa : Hid (NodesR (fun b => b < W) (wr.alloc (.cells #[iV nd.op, .slice pi nd.ins.length ci, .slice pp nd.ps.length cp] 58)) (.slice (some ⟨b, o, none⟩) g.nodes.length c) g.nodes) := hd' (HNr.o.mod (Gou.Mod.alloc (fun _ => False) _ _) (fun _ _ _ h => h))
    have HBn : Hid (Blk (wr.alloc (.cells #[iV nd.op, .slice pi nd.ins.length ci, .slice pp nd.ps.length cp] 58)) wr.heap.size 58 #[iV nd.op, .slice pi nd.ins.length ci, .slice pp nd.ps.length cp]) := hd' (heap_alloc_new wr _)
    have HwA : Hid (Wr (wr.alloc (.cells #[iV nd.op, .slice pi nd.ins.length ci, .slice pp nd.ps.length cp] 58)) W BS v2) := hd' (Hw.o.alloc _)
    have Tw := hd' (Tw.o.trans (WTo.other (Gou.Mod.alloc _ wr (.cells #[iV nd.op, .slice pi nd.ins.length ci, .slice pp nd.ps.length cp] 58)) v2))
    clear hc hnd hI hP hbW
    by_cases hci : nd.ins.length ≤ 100
    ·have e3 : decide ((nd.ins.length : Int) ≤ 100) = true := by simp; omega
     by_cases hcp : nd.ps.length ≤ 100
     ·have e4 : decide ((nd.ps.length : Int) ≤ 100) = true := by simp; omega
      have Hcc : Hid (nd.ins.length ≤ 100 ∧ nd.ps.length ≤ 100) := hd' ⟨hci, hcp⟩
      go_wp2_with fail
      generalize hwa : (wr.alloc (.cells #[iV nd.op, .slice pi nd.ins.length ci, .slice pp nd.ps.length cp] 58)) = wa at *
      have hLa : wr.heap.size < wa.heap.size := Blk.lt HBn.o
      have n0_1 := HBn.o.cell 0 rfl
      have n1_1 := HBn.o.cell 1 rfl
      have n2_1 := HBn.o.cell 2 rfl
      refine (uku _).mono ?_
      rintro e w' ⟨rfl, hww⟩
      obtain rfl : wa = w' := hww.symm
      clear hww
      go_wp2_with fail
      refine (ukc _ W (BS) v2 _ [nd.op, (nd.ins.length : Int)] (HwA.o.alloc _) (HwA.o.lit [nd.op, (nd.ins.length : Int)] _ rfl 2 rfl _ rfl) (by have := Hbl.o; simp only [List.length_append, List.length_cons, List.length_nil] at *; omega)).mono ?_
      rintro e w2 ⟨z2, t2, h2⟩
      have T2 := hd' ((Tw.o.trans (WTo.other (Gou.Mod.alloc _ _ _) v2)).trans t2)
      rcases hr2 : ug4 [nd.op, (nd.ins.length : Int)] with _ | es2
      ·rw [hr2] at h2
       subst h2
       exact ⟨rfl, z2, T2.o, by rw [ump Hn.o Hr1.o Henc.o Hnd.o (by unfold ulm; rw [if_pos Hcc.o]; simp [hr2])]⟩
      rw [hr2] at h2
      obtain ⟨rfl, hw2⟩ := h2
      have Hr2 := hd' hr2
      have Hw2 := hd' hw2
      have Tk2 := hd' t2
      have hE2 := uj9 hr2
      clear hr2 hw2 t2
      have Ta2 := hd' (((WTo.refl W wa v2).trans (WTo.other (Gou.Mod.alloc _ _ _) v2)).trans Tk2.o)
      have HBk2 : Hid (Blk w2 wr.heap.size 58 #[iV nd.op, .slice pi nd.ins.length ci, .slice pp nd.ps.length cp]) := hd' (HBn.o.mod Ta2.o.mod (fun e => by
       rcases e with e | e
       ·have := hWr; omega
       ·have := (Hw.o.own.lt _ e).2; omega))
      have n0_2 := HBk2.o.cell 0 rfl
      have n1_2 := HBk2.o.cell 1 rfl
      have n2_2 := HBk2.o.cell 2 rfl
      clear n0_1 n1_1 n2_1
      go_wp2_with fail
      refine (ukc _ W (BS ++ es2) z2 _ nd.ins Hw2.o (IntsR.use (RowG.mod HI.o (WTo.far Ta2.o HwA.o) (fun k _ hG hk => by omega)) Hw2.o) (by have := Hbl.o; simp only [List.length_append, List.length_cons, List.length_nil] at *; omega)).mono ?_
      rintro e w3 ⟨z3, t3, h3⟩
      have T3 := hd' (T2.o.trans t3)
      rcases hr3 : ug4 nd.ins with _ | es3
      ·rw [hr3] at h3
       subst h3
       exact ⟨rfl, z3, T3.o, by rw [ump Hn.o Hr1.o Henc.o Hnd.o (by unfold ulm; rw [if_pos Hcc.o]; have q2 := Hr2.o; simp [q2, hr3])]⟩
      rw [hr3] at h3
      obtain ⟨rfl, hw3⟩ := h3
      have Hr3 := hd' hr3
      have Hw3 := hd' hw3
      have Tk3 := hd' t3
      have hE3 := uj9 hr3
      clear hr3 hw3 t3
      have Ta3 := hd' (Ta2.o.trans Tk3.o)
      have HBk3 : Hid (Blk w3 wr.heap.size 58 #[iV nd.op, .slice pi nd.ins.length ci, .slice pp nd.ps.length cp]) := hd' (HBn.o.mod Ta3.o.mod (fun e => by
       rcases e with e | e
       ·have := hWr; omega
       ·have := (Hw.o.own.lt _ e).2; omega))
      have n0_3 := HBk3.o.cell 0 rfl
      have n1_3 := HBk3.o.cell 1 rfl
      have n2_3 := HBk3.o.cell 2 rfl
      clear n0_2 n1_2 n2_2
      go_wp2_with fail
      refine (ukc _ W (BS ++ es2 ++ es3) z3 _ [(nd.ps.length : Int)] (Hw3.o.alloc _) (Hw3.o.lit [(nd.ps.length : Int)] _ rfl 1 rfl _ rfl) (by have := Hbl.o; simp only [List.length_append, List.length_cons, List.length_nil] at *; omega)).mono ?_
      rintro e w4 ⟨z4, t4, h4⟩
      have T4 := hd' ((T3.o.trans (WTo.other (Gou.Mod.alloc _ _ _) z3)).trans t4)
      rcases hr4 : ug4 [(nd.ps.length : Int)] with _ | es4
      ·rw [hr4] at h4
       subst h4
       exact ⟨rfl, z4, T4.o, by rw [ump Hn.o Hr1.o Henc.o Hnd.o (by unfold ulm; rw [if_pos Hcc.o]; have q2 := Hr2.o; have q3 := Hr3.o; simp [q2, q3, hr4])]⟩
      rw [hr4] at h4
      obtain ⟨rfl, hw4⟩ := h4
      have Hr4 := hd' hr4
      have Hw4 := hd' hw4
      have Tk4 := hd' t4
      have hE4 := uj9 hr4
      clear hr4 hw4 t4
      have Ta4 := hd' ((Ta3.o.trans (WTo.other (Gou.Mod.alloc _ _ _) z3)).trans Tk4.o)
      have HBk4 : Hid (Blk w4 wr.heap.size 58 #[iV nd.op, .slice pi nd.ins.length ci, .slice pp nd.ps.length cp]) := hd' (HBn.o.mod Ta4.o.mod (fun e => by
       rcases e with e | e
       ·have := hWr; omega
       ·have := (Hw.o.own.lt _ e).2; omega))
      have n0_4 := HBk4.o.cell 0 rfl
      have n1_4 := HBk4.o.cell 1 rfl
      have n2_4 := HBk4.o.cell 2 rfl
      clear n0_3 n1_3 n2_3
      go_wp2_with fail
      refine (ukc _ W (BS ++ es2 ++ es3 ++ es4) z4 _ nd.ps Hw4.o (IntsR.use (RowG.mod HP.o (WTo.far Ta4.o HwA.o) (fun k _ hG hk => by omega)) Hw4.o) (by have := Hbl.o; simp only [List.length_append, List.length_cons, List.length_nil] at *; omega)).mono ?_
      rintro e w5 ⟨z5, t5, h5⟩
      have T5 := hd' (T4.o.trans t5)
      rcases hr5 : ug4 nd.ps with _ | es5
      ·rw [hr5] at h5
       subst h5
       exact ⟨rfl, z5, T5.o, by rw [ump Hn.o Hr1.o Henc.o Hnd.o (by unfold ulm; rw [if_pos Hcc.o]; have q2 := Hr2.o; have q3 := Hr3.o; have q4 := Hr4.o; simp [q2, q3, q4, hr5])]⟩
      rw [hr5] at h5
      obtain ⟨rfl, hw5⟩ := h5
      have Hr5 := hd' hr5
      have Hw5 := hd' hw5
      have Tk5 := hd' t5
      have hE5 := uj9 hr5
      clear hr5 hw5 t5
      have Ta5 := hd' (Ta4.o.trans Tk5.o)
      have hnode : ulm nd = some (es2 ++ (es3 ++ (es4 ++ es5))) := by unfold ulm; rw [if_pos Hcc.o]; have q2 := Hr2.o; have q3 := Hr3.o; have q4 := Hr4.o; have q5 := Hr5.o; simp [q2, q3, q4, q5]
      have Hnode := hd' hnode
      clear hnode n0_4 n1_4 n2_4
      go_wp2_with fail
      go_roundw
      case rel => exact ⟨i + 1, es ++ (es2 ++ (es3 ++ (es4 ++ es5))), _, by go_num, by omega, uv6 Henc.o Hnd.o Hnode.o, by
       have := uqh Hnode.o
       have := Hes.o
       simp only [List.length_append] at *
       omega, by
       have h1 := Hw5.o
       rw [HBS.o] at h1
       simpa using h1, T5.o, HNa.o.mod (WTo.far Ta5.o HwA.o) (fun k _ hG hk => by omega)⟩
      case measure => simp [intOf]; omega
     ·have e4 : decide ((nd.ps.length : Int) ≤ 100) = false := by simp; omega
      have hno : Hid (uk5 g = none) := hd' (ump Hn.o Hr1.o Henc.o Hnd.o (by unfold ulm; rw [if_neg (fun h => hcp h.2)]))
      go_wp2_with fail
      refine (ukq _).mono ?_
      rintro e w' ⟨rfl, rfl⟩
      exact ⟨rfl, _, Tw.o, by rw [hno.out]⟩
    ·have e3 : decide ((nd.ins.length : Int) ≤ 100) = false := by simp; omega
     have hno : Hid (uk5 g = none) := hd' (ump Hn.o Hr1.o Henc.o Hnd.o (by unfold ulm; rw [if_neg (fun h => hci h.1)]))
     go_wp2_with fail
     refine (ukq _).mono ?_
     rintro e w' ⟨rfl, rfl⟩
     exact ⟨rfl, _, Tw.o, by rw [hno.out]⟩
   ·obtain rfl : i = g.nodes.length := by omega
    have e2 : decide ((g.nodes.length : Int) < (g.nodes.length : Int)) = false := by simp
    have hres : Hid (uk5 g = some (es1 ++ es)) := hd' (by
     have h1 := Henc.o
     rw [List.drop_length, ukr] at h1
     unfold uk5
     rw [if_pos Hn.o, Hr1.o, h1]
     simp)
    go_wp2_with fail
    go_end0
    exact ⟨_, Tw.o, by rw [hres.out]; exact ⟨rfl, by have := Hw.o; rw [HBS.o] at this; simpa using this⟩⟩
 ·have e1 : decide ((g.nodes.length : Int) ≤ 1000) = false := by simp; omega
  have hno : Hid (uk5 g = none) := hd' (by unfold uk5; rw [if_neg hn])
  go_wp2_with fail
  refine (ukq _).mono ?_
  rintro e w' ⟨rfl, rfl⟩
  exact ⟨rfl, vs, HT0.o, by rw [hno.out]⟩
end Go.Proofs.YtgolafbneiffpaaGreatDoor
