/- Texts of the codec's proofs, laid together: WrJ, SamA, PlnA, SamP, SamB, SamC, SamD, SamE, SamF, SamG. -/
import Derived.Test.YtnamnmipgpcjjaaYWrI
import Derived.BigQuiet
import Derived.ChangeKeysEq
set_option linter.unusedSimpArgs false
set_option linter.unusedVariables false
set_option linter.unusedSectionVars false
set_option linter.constructorNameAsVariable false

/- Acts as bytes: an act is written, whichever. -/
namespace Go.Proofs.Ytnamnmipgpcjjaa
open Go.RowKit Go.Gou

theorem wact_any (w : World) (W : Nat) (bs : List Nat) (vs : Value) (p1 : Option Addr) (k1 : Nat) (p2 : Option Addr) (k2 : Nat) (p3 : Option Addr) (k3 : Nat) (a : Ac) (h : Wr w W bs vs) (hx : LookR (fun b => b < W) w a.op.look (.slice p1 a.op.look.content.pix.length k1) (.slice p2 a.op.look.filt.nodes.length k2) (.slice p3 a.op.look.back.nodes.length k3)) (hl : bs.length ≤ 600000000) :
    Calls Try.prog 21 #[.pointer (some ⟨W, 0, none⟩), .agg (AcA a p1 p2 p3 k1 k2 k3)] w (WrP w W bs vs (encAct a)) := by
  by_cases hb : 1 ≤ a.kind ∧ a.kind ≤ 14
  · obtain ⟨K, hK⟩ : ∃ K : Nat, a.kind = (K : Nat) := ⟨a.kind.toNat, by omega⟩
    by_cases h12 : K = 12
    · subst h12; exact wact_12 w W bs vs p1 k1 p2 k2 p3 k3 a hK h hx hl
    by_cases h13 : K = 13
    · subst h13; exact wact_13 w W bs vs p1 k1 p2 k2 p3 k3 a hK h hx hl
    by_cases h14 : K = 14
    · subst h14; exact wact_14 w W bs vs p1 k1 p2 k2 p3 k3 a hK h hx hl
    exact wact_0 w W bs vs p1 k1 p2 k2 p3 k3 a K ⟨by omega, by omega⟩ hK h hx hl
  · exact wact_bad w W bs vs p1 k1 p2 k2 p3 k3 a hb h hx hl

end Go.Proofs.Ytnamnmipgpcjjaa

/- Acts as bytes: two lists of numbers are held against each other. -/
namespace Go.Gou
open Go.RowKit

theorem take_eq_snoc {α : Type} [DecidableEq α] {xs ys : List α} {i : Nat} (hx : i < xs.length) (hy : i < ys.length) (h : xs.take i = ys.take i) (he : xs[i] = ys[i]) : xs.take (i + 1) = ys.take (i + 1) := by
  rw [List.take_add_one, List.take_add_one, h, List.getElem?_eq_getElem hx, List.getElem?_eq_getElem hy, he]

theorem ne_of_get {α : Type} {xs ys : List α} {i : Nat} (hx : i < xs.length) (hy : i < ys.length) (he : xs[i] ≠ ys[i]) : xs ≠ ys := fun h => by subst h; exact he rfl

end Go.Gou
namespace Go.Proofs.Ytnamnmipgpcjjaa
open Go.RowKit Go.Gou

set_option maxRecDepth 100000 in
set_option maxHeartbeats 1000000 in
theorem eqInts_any (w : World) (G1 G2 : Nat → Prop) (p1 p2 : Option Addr) (c1 c2 : Nat) (xs ys : List Int) (hx : IntsR G1 w (.slice p1 xs.length c1) xs) (hy : IntsR G2 w (.slice p2 ys.length c2) ys) (hl : xs.length ≤ 1000000000) (hl2 : ys.length ≤ 1000000000) :
    Calls Try.prog 70 #[.slice p1 xs.length c1, .slice p2 ys.length c2] w fun e w' => e = .returned (.bool (decide (xs = ys))) ∧ Gou.Mod (fun _ => False) w w' := by
  have Hx := Lib.hid hx
  have Hy := Lib.hid hy
  clear hx hy
  go_enter Try.func70, Try.ntmps70
  by_cases hlen : xs.length = ys.length
  · have e1 : ((xs.length : Int) != (ys.length : Int)) = false := by simp [hlen]
    have Hlen := Lib.hid hlen
    clear hlen
    go_wp2_with fail
    go_loopw [13] (fun c wr => ∃ i : Nat, c = .int .i64 i ∧ i ≤ xs.length ∧ xs.take i = ys.take i ∧ Gou.Mod (fun _ => False) w wr) (fun c _ => xs.length - (intOf c).toNat)
    case atStart => exact ⟨0, rfl, by omega, by simp, Gou.Mod.refl _ _⟩
    case round =>
      obtain ⟨i, rfl, hi, ht, hm⟩ := hrel
      have Ht := Lib.hid ht
      have Hm := Lib.hid hm
      clear ht hm
      by_cases hil : i < xs.length
      · have e2 : decide ((i : Int) < (xs.length : Int)) = true := by simp; omega
        have hil2 : i < ys.length := by have := Hlen.out; omega
        obtain ⟨-, b1, o1, rfl, hb1, -, hc1⟩ := Hx.out.cells (by omega)
        obtain ⟨-, b2, o2, rfl, hb2, -, hc2⟩ := Hy.out.cells (by omega)
        have k1 := hc1 i hil
        have k2 := hc2 i hil2
        rw [← Hm.out.cell (p := ⟨b1, o1 + i, none⟩) hb1 (fun h => h)] at k1
        rw [← Hm.out.cell (p := ⟨b2, o2 + i, none⟩) hb2 (fun h => h)] at k2
        have hx1 : xs.getD i 0 = xs[i] := by simp [List.getD, hil]
        have hy1 : ys.getD i 0 = ys[i] := by simp [List.getD, hil2]
        rw [hx1] at k1
        rw [hy1] at k2
        have hiI : (i : Int) < (xs.length : Int) := by omega
        have hiJ : (i : Int) < (ys.length : Int) := by omega
        have hi0I : (0 : Int) ≤ (i : Int) := by omega
        have Hne := Lib.hid (fun he => ne_of_get (i := i) hil hil2 he : xs[i] ≠ ys[i] → xs ≠ ys)
        have Heq := Lib.hid (fun he => take_eq_snoc hil hil2 Ht.out he : xs[i] = ys[i] → xs.take (i + 1) = ys.take (i + 1))
        clear hc1 hc2 hx1 hy1
        generalize xs[i] = x at *
        generalize ys[i] = y at *
        by_cases hxy : x = y
        · have e3 : (x != y) = false := by simp [hxy]
          have Hs := Lib.hid (Heq.out hxy)
          clear hxy
          go_wp2_with fail
          go_quiet (fail)
          go_wp2_with fail
          go_roundw
          case rel => exact ⟨i + 1, by go_num, by omega, Hs.out, Hm.out.trans' (Gou.Mod.drewN _ _ _)⟩
          case measure => simp [intOf]; omega
        · have e3 : (x != y) = true := by simp [hxy]
          have Hs := Lib.hid (Hne.out hxy)
          clear hxy
          go_wp2_with fail
          go_quiet (fail)
          go_wp2_with fail
          go_ret
          exact ⟨by simp [Hs.out], Hm.out.trans' (Gou.Mod.drewN _ _ _)⟩
      · obtain rfl : i = xs.length := by omega
        have e2 : decide ((xs.length : Int) < (xs.length : Int)) = false := by simp
        have Hs : Hid (xs = ys) := Lib.hid (by
          have h1 := Ht.out
          rw [List.take_length, Hlen.out, List.take_length] at h1
          exact h1)
        go_wp2_with fail
        go_ret
        exact ⟨by simp [Hs.out], Hm.out⟩
  · have e1 : ((xs.length : Int) != (ys.length : Int)) = true := by simp; omega
    have Hs : Hid (xs ≠ ys) := Lib.hid (fun h => hlen (by rw [h]))
    clear hlen
    go_wp2_with fail
    go_ret
    exact ⟨by simp [Hs.out], Gou.Mod.refl _ _⟩

end Go.Proofs.Ytnamnmipgpcjjaa

/- Acts as bytes: the plain law of the bytes: what is read is what is written, and is written in one way. -/
namespace Go.Gou
open Go.RowKit

/-- es stand in bs from n on. -/
def Sits (es bs : List Nat) (n : Nat) : Prop := ∃ rest, bs.drop n = es ++ rest

theorem Sits.nil (bs : List Nat) (n : Nat) : Sits [] bs n := ⟨_, rfl⟩
theorem Sits.append {a b bs : List Nat} {n : Nat} : Sits (a ++ b) bs n ↔ Sits a bs n ∧ Sits b bs (n + a.length) := by
  constructor
  · rintro ⟨r, h⟩
    refine ⟨⟨b ++ r, by rw [h, List.append_assoc]⟩, ⟨r, ?_⟩⟩
    rw [← List.drop_drop, h, List.append_assoc, List.drop_left]
  · rintro ⟨⟨r, h⟩, ⟨q, k⟩⟩
    refine ⟨q, ?_⟩
    rw [← List.drop_drop, h, List.drop_left] at k
    rw [h, k, List.append_assoc]
theorem Sits.cons {x : Nat} {b bs : List Nat} {n : Nat} : Sits (x :: b) bs n ↔ bs[n]? = some x ∧ Sits b bs (n + 1) := by
  have h := Sits.append (a := [x]) (b := b) (bs := bs) (n := n)
  rw [List.singleton_append] at h
  rw [h]
  refine and_congr_left fun _ => ?_
  constructor
  · rintro ⟨r, h⟩
    have := congrArg (fun l => l[0]?) h
    simpa [List.getElem?_drop] using this
  · intro h
    obtain ⟨hn, e⟩ := List.getElem?_eq_some_iff.1 h
    exact ⟨bs.drop (n + 1), by rw [List.drop_eq_getElem_cons hn, e]; rfl⟩
theorem Sits.le {es bs : List Nat} {n : Nat} (h : Sits es bs n) : es.length ≤ bs.length - n := by
  obtain ⟨r, h⟩ := h
  have := congrArg List.length h
  simp only [List.length_drop, List.length_append] at this
  omega
theorem Sits.self (es : List Nat) : Sits es es 0 := ⟨[], by simp⟩
theorem Sits.take {es bs : List Nat} {n k : Nat} : Sits es (bs.take k) n ↔ Sits es bs n ∧ (es = [] ∨ n + es.length ≤ k) := by
  constructor
  · rintro ⟨r, h⟩
    have hl := Sits.le ⟨r, h⟩
    rw [List.length_take] at hl
    refine ⟨⟨r ++ (bs.drop n).drop (k - n), ?_⟩, ?_⟩
    · rw [← List.append_assoc, ← h, List.drop_take]
      exact (List.take_append_drop _ _).symm
    · rcases es with _ | ⟨e, es⟩
      · exact .inl rfl
      · right
        simp only [List.length_cons] at hl ⊢
        omega
  · rintro ⟨⟨r, h⟩, rfl | hk⟩
    · exact Sits.nil _ _
    · refine ⟨r.take (k - n - es.length), ?_⟩
      rw [List.drop_take, h, List.take_append, List.take_of_length_le (by omega)]

/-- A reading from a place on: what it reads, and the bytes of it. -/
def Spec {α : Type} (bs : List Nat) (P : Nat → Option (α × Nat)) (G : α → List Nat → Prop) : Prop := ∀ n x m, P n = some (x, m) ↔ ∃ es, G x es ∧ Sits es bs n ∧ m = n + es.length

def GBind {α β : Type} (G : α → List Nat → Prop) (H : α → β → List Nat → Prop) : β → List Nat → Prop := fun y es => ∃ x e1 e2, G x e1 ∧ H x y e2 ∧ es = e1 ++ e2
def GPure {α : Type} (x : α) : α → List Nat → Prop := fun y es => y = x ∧ es = []
def GNone {α : Type} : α → List Nat → Prop := fun _ _ => False
def GIte {α : Type} (c : Prop) (G H : α → List Nat → Prop) : α → List Nat → Prop := fun y es => (c ∧ G y es) ∨ (¬ c ∧ H y es)

theorem Spec.bind {α β : Type} {bs : List Nat} {P : Nat → Option (α × Nat)} {G : α → List Nat → Prop} {Q : α × Nat → Option (β × Nat)} {H : α → β → List Nat → Prop} (h1 : Spec bs P G) (h2 : ∀ x, Spec bs (fun n => Q (x, n)) (H x)) :
    Spec bs (fun n => (P n).bind Q) (GBind G H) := by
  intro n y m
  constructor
  · intro h
    obtain ⟨⟨x, q⟩, hp, hq⟩ := Option.bind_eq_some_iff.1 h
    obtain ⟨e1, g1, s1, rfl⟩ := (h1 n x q).1 hp
    obtain ⟨e2, g2, s2, rfl⟩ := (h2 x _ y m).1 hq
    exact ⟨e1 ++ e2, ⟨x, e1, e2, g1, g2, rfl⟩, Sits.append.2 ⟨s1, s2⟩, by rw [List.length_append]; omega⟩
  · rintro ⟨es, ⟨x, e1, e2, g1, g2, rfl⟩, s, rfl⟩
    obtain ⟨s1, s2⟩ := Sits.append.1 s
    refine Option.bind_eq_some_iff.2 ⟨(x, n + e1.length), (h1 _ _ _).2 ⟨e1, g1, s1, rfl⟩, (h2 x _ y _).2 ⟨e2, g2, s2, by rw [List.length_append]; omega⟩⟩
theorem Spec.then {α β : Type} {bs : List Nat} {P : Nat → Option (α × Nat)} {G : α → List Nat → Prop} {Q : α → Nat → Option (β × Nat)} {H : α → β → List Nat → Prop} (h1 : Spec bs P G) (h2 : ∀ x, Spec bs (Q x) (H x)) :
    Spec bs (fun n => (P n).bind fun p => Q p.1 p.2) (GBind G H) := h1.bind h2
theorem Spec.pure {α : Type} {bs : List Nat} (x : α) : Spec bs (fun n => some (x, n)) (GPure x) := by
  intro n y m
  constructor
  · intro h
    simp only [Option.some.injEq, Prod.mk.injEq] at h
    obtain ⟨rfl, rfl⟩ := h
    exact ⟨[], ⟨rfl, rfl⟩, Sits.nil _ _, rfl⟩
  · rintro ⟨es, ⟨rfl, rfl⟩, _, rfl⟩
    rfl
theorem Spec.none {α : Type} {bs : List Nat} : Spec (α := α) bs (fun _ => none) GNone := by
  intro n y m
  constructor
  · intro h; cases h
  · rintro ⟨_, h, _⟩; exact h.elim
theorem Spec.ite {α : Type} {bs : List Nat} {c : Prop} [Decidable c] {P Q : Nat → Option (α × Nat)} {G H : α → List Nat → Prop} (h1 : c → Spec bs P G) (h2 : ¬ c → Spec bs Q H) : Spec bs (fun n => if c then P n else Q n) (GIte c G H) := by
  intro n y m
  by_cases hc : c
  · simp only [if_pos hc, GIte, hc, true_and, not_true_eq_false, false_and, or_false]
    exact h1 hc n y m
  · simp only [if_neg hc, GIte, hc, not_false_eq_true, true_and, false_and, false_or]
    exact h2 hc n y m
theorem Spec.imp {α : Type} {bs : List Nat} {P P' : Nat → Option (α × Nat)} {G : α → List Nat → Prop} (h : Spec bs P G) (e : ∀ n, P' n = P n) : Spec bs P' G := fun n x m => by rw [e n]; exact h n x m

def InR (x : Int) : Prop := -2147483648 ≤ x ∧ x < 2147483648
def numG (x : Int) (es : List Nat) : Prop := InR x ∧ es = encNum x
def rawG (x : Nat) (es : List Nat) : Prop := x < 256 ∧ es = [x]
def timesG {α : Type} (G : α → List Nat → Prop) : Nat → List α → List Nat → Prop
  | 0 => GPure []
  | k + 1 => GBind (timesG G k) fun xs => GBind G fun x => GPure (xs ++ [x])
def withinG (lo hi : Int) (x : Int) (es : List Nat) : Prop := numG x es ∧ lo ≤ x ∧ x ≤ hi
def flagG (f : Bool) (es : List Nat) : Prop := es = [if f then 2 else 0]
def idG : Int × Int → List Nat → Prop := GBind numG fun a => GBind numG fun g => GPure (a, g)
def pixelG : List Nat → List Nat → Prop := timesG rawG 4
def boxG : List Int → List Nat → Prop := timesG numG 4
def listG : List Int → List Nat → Prop := GBind (withinG 0 100) fun n => timesG numG n.toNat
def confG : Cf → List Nat → Prop := GBind (withinG 0 15) fun n => GBind numG fun r => GPure ⟨decide (n % 2 = 1), decide (n / 2 % 2 = 1), decide (n / 4 % 2 = 1), decide (n / 8 % 2 = 1), r⟩
def nodeG : GNode → List Nat → Prop := GBind numG fun o => GBind listG fun i => GBind listG fun p => GPure ⟨o, i, p⟩
def graphG : Gr → List Nat → Prop := GBind numG fun o => GBind (withinG 0 1000) fun k => GBind (timesG nodeG k.toNat) fun ns => GPure ⟨ns, o⟩
def contentG : Ct → List Nat → Prop := GBind numG fun k =>
  GIte (k = 1) (GBind boxG fun b => GBind pixelG fun p => GPure ⟨1, Rc.of b, Pxl.of p, 0, 0, 0, []⟩)
  (GIte (k = 2) (GBind numG fun x => GBind numG fun y => GBind numG fun w => GBind numG fun h => GBind numG fun t => GBind (timesG pixelG (countOf w h)) fun ps => GPure ⟨2, ⟨x, y, 0, 0⟩, Pxl.zero, w, h, t, ps.map Pxl.of⟩)
  (GPure ⟨k, Rc.zero, Pxl.zero, 0, 0, 0, []⟩))
def lookG (k : Int) : Lk → List Nat → Prop :=
  GIte (k = 5) (GBind numG fun x => GBind numG fun y => GPure { Lk.zero with dx := x, dy := y })
  (GIte (k = 6) (GBind flagG fun f => GIte (f = true) (GBind boxG fun b => GPure { Lk.zero with hasClip := true, clip := Rc.of b }) (GPure Lk.zero))
  (GIte (k = 7) (GBind numG fun x => GPure { Lk.zero with opacity := x })
  (GIte (k = 8) (GBind numG fun x => GPure { Lk.zero with mode := x })
  (GIte (k = 9) (GBind contentG fun c => GPure { Lk.zero with content := c })
  (GIte (k = 10) (GBind flagG fun f => GIte (f = true) (GBind graphG fun b => GPure { Lk.zero with hasFilt := true, filt := b }) (GPure Lk.zero))
  (GIte (k = 11) (GBind flagG fun f => GIte (f = true) (GBind graphG fun b => GPure { Lk.zero with hasBack := true, back := b }) (GPure Lk.zero))
  (GPure Lk.zero)))))))
def oprG (k : Int) : Opr → List Nat → Prop :=
  GBind (GIte (k = 1) (GPure (0, 0)) idG) fun i => GBind (GIte (k = 1 ∨ k = 3) idG (GPure (0, 0))) fun t => GBind (GIte (k = 1 ∨ k = 3 ∨ k = 4) numG (GPure 0)) fun a => GBind (lookG k) fun l => GPure ⟨k, i, t, a, l⟩
def actG : Ac → List Nat → Prop := GBind rawG fun b =>
  GIte (1 ≤ b ∧ b ≤ 14)
    (GIte (b = 12) (GBind numG fun x => GBind numG fun y => GPure ⟨12, Opr.zero, x, y, Cf.zero⟩)
    (GIte (b = 13) (GBind confG fun c => GPure ⟨13, Opr.zero, 0, 0, c⟩)
    (GIte (b = 14) (GPure ⟨14, Opr.zero, 0, 0, Cf.zero⟩)
    (GBind (oprG b) fun o => GPure ⟨b, o, 0, 0, Cf.zero⟩))))
  GNone

/-! Numbers. -/

theorem encM_small (m : Nat) : ∀ b ∈ encM m, b < 256 := by
  induction m using Nat.strongRecOn with
  | ind m ih =>
    by_cases h : m < 128
    · rw [encM_lt h]; simp; omega
    · rw [encM_ge h]
      intro b hb
      rcases List.mem_cons.1 hb with rfl | hb
      · omega
      · exact ih _ (by omega) b hb

theorem numVal_zig {x : Int} (h : InR x) : numVal (zig x) = x := by
  unfold InR at h
  unfold numVal zig
  split <;> split <;> omega
theorem zig_numVal (m : Nat) : zig (numVal m) = m := by
  unfold numVal zig
  split <;> split <;> omega
theorem numVal_in {m : Nat} (h : m < 4294967296) : InR (numVal m) := by
  unfold InR numVal
  split <;> omega
theorem zig_lt' {x : Int} (h : InR x) : zig x < 4294967296 := by
  unfold InR at h
  unfold zig
  split <;> omega

/-- What is read from a place on, where m stands already. -/
theorem numGo_iff (bs : List Nat) (hb : ∀ b ∈ bs, b < 256) (f : Nat) : ∀ (k n m : Nat), f + k = 5 → m < 2 ^ (7 * k) → ∀ (x : Int) (q : Nat), numGo bs f n m (7 * k) = some (x, q) ↔ ∃ M, m + M * 2 ^ (7 * k) < 4294967296 ∧ x = numVal (m + M * 2 ^ (7 * k)) ∧ (k = 0 ∨ M ≠ 0) ∧ Sits (encM M) bs n ∧ q = n + (encM M).length := by
  induction f with
  | zero =>
    intro k n m hk hm x q
    obtain rfl : k = 5 := by omega
    rw [numGo]
    constructor
    · intro h; cases h
    · rintro ⟨M, h1, _, h2, _⟩
      have : (2 : Nat) ^ (7 * 5) = 34359738368 := rfl
      rw [this] at h1
      rcases h2 with h2 | h2
      · omega
      · have : 1 * 34359738368 ≤ M * 34359738368 := Nat.mul_le_mul_right _ (by omega)
        omega
  | succ f ih =>
    intro k n m hk hm x q
    rw [numGo]
    have hp : (2 : Nat) ^ (7 * (k + 1)) = 128 * 2 ^ (7 * k) := by rw [Nat.mul_add, Nat.pow_add, Nat.mul_comm]
    have hpos : 0 < (2 : Nat) ^ (7 * k) := Nat.pow_pos (by decide)
    by_cases hn : n < bs.length
    · rw [dif_pos hn]
      have hbn := hb _ (List.getElem_mem hn)
      have hgn : bs[n]? = some bs[n] := List.getElem?_eq_getElem hn
      generalize bs[n] = c at *
      by_cases hc : 128 ≤ c
      · rw [if_pos hc]
        by_cases hs : 7 * k + 7 < 35
        · rw [if_pos hs]
          have hm2 : m + c % 128 * 2 ^ (7 * k) < 2 ^ (7 * (k + 1)) := by
            rw [hp]
            have : c % 128 * 2 ^ (7 * k) ≤ 127 * 2 ^ (7 * k) := Nat.mul_le_mul_right _ (by omega)
            generalize (2 : Nat) ^ (7 * k) = p at *
            omega
          have := ih (k + 1) (n + 1) (m + c % 128 * 2 ^ (7 * k)) (by omega) hm2 x q
          rw [Nat.mul_add, Nat.mul_one] at this
          rw [this]
          have key : ∀ M, m + c % 128 * 2 ^ (7 * k) + M * 2 ^ (7 * k + 7) = m + (c % 128 + 128 * M) * 2 ^ (7 * k) := by
            intro M
            rw [Nat.pow_add, Nat.add_mul, Nat.add_assoc]
            congr 2
            rw [Nat.mul_comm 128 M, Nat.mul_assoc, Nat.mul_comm (2 ^ (7 * k))]
          constructor
          · rintro ⟨M, h1, h2, h3, h4, h5⟩
            refine ⟨c % 128 + 128 * M, ?_, ?_, ?_, ?_, ?_⟩
            · rw [← key]; exact h1
            · rw [← key]; exact h2
            · right; rcases h3 with h3 | h3 <;> omega
            · rw [encM_ge (by rcases h3 with h3 | h3 <;> omega), Sits.cons]
              refine ⟨by rw [hgn]; congr 1; omega, ?_⟩
              have : (c % 128 + 128 * M) / 128 = M := by omega
              rw [this]; exact h4
            · rw [encM_ge (by rcases h3 with h3 | h3 <;> omega)]
              have : (c % 128 + 128 * M) / 128 = M := by omega
              rw [this, List.length_cons]; omega
          · rintro ⟨M, h1, h2, h3, h4, h5⟩
            by_cases hM : M < 128
            · rw [encM_lt hM, Sits.cons, hgn] at h4
              simp only [Option.some.injEq] at h4
              omega
            · rw [encM_ge hM, Sits.cons, hgn] at h4
              rw [encM_ge hM] at h5
              simp only [Option.some.injEq] at h4
              have hcM : c % 128 + 128 * (M / 128) = M := by omega
              refine ⟨M / 128, ?_, ?_, .inr (by omega), h4.2, by rw [h5, List.length_cons]; omega⟩
              · rw [key, hcM]; exact h1
              · rw [key, hcM]; exact h2
        · rw [if_neg hs]
          constructor
          · intro h; cases h
          · rintro ⟨M, h1, h2, h3, h4, h5⟩
            obtain rfl : k = 4 := by omega
            by_cases hM : M < 128
            · rw [encM_lt hM, Sits.cons, hgn] at h4
              simp only [Option.some.injEq] at h4
              omega
            · have : (2 : Nat) ^ (7 * 4) = 268435456 := rfl
              rw [this] at h1
              have : 128 * 268435456 ≤ M * 268435456 := Nat.mul_le_mul_right _ (by omega)
              omega
      · rw [if_neg hc]
        have hcm : c % 128 = c := by omega
        rw [hcm]
        constructor
        · intro h
          split at h
          · rename_i hh
            simp only [Option.some.injEq, Prod.mk.injEq] at h
            obtain ⟨rfl, rfl⟩ := h
            refine ⟨c, hh.1, rfl, ?_, ?_, ?_⟩
            · rcases hh.2 with h | h
              · exact .inr h
              · left; omega
            · rw [encM_lt (by omega), Sits.cons]; exact ⟨hgn, Sits.nil _ _⟩
            · rw [encM_lt (by omega)]; rfl
          · cases h
        · rintro ⟨M, h1, h2, h3, h4, h5⟩
          by_cases hM : M < 128
          · rw [encM_lt hM, Sits.cons, hgn] at h4
            simp only [Option.some.injEq] at h4
            obtain ⟨rfl, _⟩ := h4
            rw [encM_lt hM] at h5
            rw [if_pos ⟨h1, h3.elim (fun h3 => .inr (by omega)) .inl⟩, h2, h5]
            rfl
          · rw [encM_ge hM, Sits.cons, hgn] at h4
            simp only [Option.some.injEq] at h4
            omega
    · rw [dif_neg hn]
      constructor
      · intro h; cases h
      · rintro ⟨M, h1, h2, h3, h4, h5⟩
        have hl := Sits.le h4
        have : 0 < (encM M).length := by
          by_cases hM : M < 128
          · rw [encM_lt hM]; simp
          · rw [encM_ge hM]; simp
        omega

theorem num_spec {bs : List Nat} (hb : ∀ b ∈ bs, b < 256) : Spec bs (numAt bs) numG := by
  intro n x m
  have h := numGo_iff bs hb 5 0 n 0 rfl (by simp) x m
  unfold numAt
  rw [show (7 * 0 : Nat) = 0 from rfl] at h
  rw [h]
  constructor
  · rintro ⟨M, h1, h2, _, h4, h5⟩
    simp only [Nat.zero_add, Nat.pow_zero, Nat.mul_one] at h1 h2
    subst h2
    exact ⟨encM M, ⟨numVal_in h1, by rw [encNum, zig_numVal]⟩, h4, h5⟩
  · rintro ⟨es, ⟨hx, rfl⟩, h4, h5⟩
    refine ⟨zig x, ?_, ?_, .inl rfl, h4, h5⟩
    · simp only [Nat.zero_add, Nat.pow_zero, Nat.mul_one]; exact zig_lt' hx
    · simp only [Nat.zero_add, Nat.pow_zero, Nat.mul_one]; exact (numVal_zig hx).symm

theorem raw_spec {bs : List Nat} (hb : ∀ b ∈ bs, b < 256) : Spec bs (rawAt bs) rawG := by
  intro n x m
  unfold rawAt
  constructor
  · intro h
    split at h
    · rename_i hn
      simp only [Option.some.injEq, Prod.mk.injEq] at h
      obtain ⟨rfl, rfl⟩ := h
      exact ⟨_, ⟨hb _ (List.getElem_mem hn), rfl⟩, Sits.cons.2 ⟨List.getElem?_eq_getElem hn, Sits.nil _ _⟩, rfl⟩
    · cases h
  · rintro ⟨es, ⟨hx, rfl⟩, hs, rfl⟩
    obtain ⟨h1, _⟩ := Sits.cons.1 hs
    obtain ⟨hn, e⟩ := List.getElem?_eq_some_iff.1 h1
    rw [dif_pos hn, e]
    rfl

theorem times_spec {α : Type} {bs : List Nat} {P : Nat → Option (α × Nat)} {G : α → List Nat → Prop} (h : Spec bs P G) (k : Nat) : Spec bs (fun n => timesAt P n k) (timesG G k) := by
  induction k with
  | zero => exact Spec.pure _
  | succ k ih =>
    have hs : Spec bs (fun n => (timesAt P n k).bind fun p => (P p.2).bind fun q => some (p.1 ++ [q.1], q.2)) (GBind (timesG G k) fun xs => GBind G fun x => GPure (xs ++ [x])) := by
      have := ih.then fun xs => h.then fun x => Spec.pure (xs ++ [x])
      exact this
    refine hs.imp fun n => ?_
    rw [timesAt]
    rcases timesAt P n k with _ | ⟨xs, m⟩
    · rfl
    · show (match P m with | some (x, q) => some (xs ++ [x], q) | none => none) = (P m).bind _
      rcases P m with _ | ⟨x, q⟩ <;> rfl

theorem within_spec {bs : List Nat} (hb : ∀ b ∈ bs, b < 256) (lo hi : Int) : Spec bs (fun n => withinAt bs n lo hi) (withinG lo hi) := by
  intro n x m
  change withinAt bs n lo hi = some (x, m) ↔ _
  unfold withinAt
  constructor
  · intro h
    split at h
    · rename_i y q hy
      split at h
      · rename_i hc
        simp only [Option.some.injEq, Prod.mk.injEq] at h
        obtain ⟨rfl, rfl⟩ := h
        obtain ⟨es, g, s, e⟩ := (num_spec hb _ _ _).1 hy
        exact ⟨es, ⟨g, hc⟩, s, e⟩
      · cases h
    · cases h
  · rintro ⟨es, ⟨g, hc⟩, s, e⟩
    have := (num_spec hb n x m).2 ⟨es, g, s, e⟩
    rw [this]
    simp only
    rw [if_pos hc]

theorem flag_spec {bs : List Nat} (hb : ∀ b ∈ bs, b < 256) : Spec bs (flagAt bs) flagG := by
  intro n x m
  unfold flagAt
  constructor
  · intro h
    split at h
    · rename_i y q hy
      simp only [Option.some.injEq, Prod.mk.injEq] at h
      obtain ⟨rfl, rfl⟩ := h
      obtain ⟨es, ⟨⟨_, rfl⟩, h0, h1⟩, s, e⟩ := (within_spec hb 0 1 _ _ _).1 hy
      have : y = 0 ∨ y = 1 := by omega
      refine ⟨_, rfl, ?_⟩
      rcases this with rfl | rfl
      · have he : encNum 0 = [0] := encM_lt (by decide)
        rw [he] at s e
        exact ⟨s, e⟩
      · have he : encNum 1 = [2] := encM_lt (by decide)
        rw [he] at s e
        exact ⟨s, e⟩
    · cases h
  · rintro ⟨es, rfl, s, e⟩
    cases x
    · have : withinAt bs n 0 1 = some (0, m) := (within_spec hb 0 1 n 0 m).2 ⟨[0], ⟨⟨⟨by decide, by decide⟩, (encM_lt (by decide)).symm⟩, by decide, by decide⟩, s, e⟩
      rw [this]; rfl
    · have : withinAt bs n 0 1 = some (1, m) := (within_spec hb 0 1 n 1 m).2 ⟨[2], ⟨⟨⟨by decide, by decide⟩, (encM_lt (by decide)).symm⟩, by decide, by decide⟩, s, e⟩
      rw [this]; rfl

theorem id_spec {bs : List Nat} (hb : ∀ b ∈ bs, b < 256) : Spec bs (idAt bs) idG := by
  have hs := (num_spec hb).then fun a => (num_spec hb).then fun g => Spec.pure (a, g)
  refine Spec.imp (P := fun n => (numAt bs n).bind fun p => (numAt bs p.2).bind fun q => some ((p.1, q.1), q.2)) hs fun n => ?_
  unfold idAt
  rcases numAt bs n with _ | ⟨a, m⟩
  · rfl
  · show (match numAt bs m with | some (g, q) => some ((a, g), q) | none => none) = (numAt bs m).bind _
    rcases numAt bs m with _ | ⟨g, q⟩ <;> rfl

theorem pixel_spec {bs : List Nat} (hb : ∀ b ∈ bs, b < 256) : Spec bs (pixelAt bs) pixelG := times_spec (raw_spec hb) 4
theorem box_spec {bs : List Nat} (hb : ∀ b ∈ bs, b < 256) : Spec bs (boxAt bs) boxG := times_spec (num_spec hb) 4
theorem list_spec {bs : List Nat} (hb : ∀ b ∈ bs, b < 256) : Spec bs (listAt bs) listG := by
  have hs := (within_spec hb 0 100).then fun n => times_spec (num_spec hb) n.toNat
  exact hs
theorem conf_spec {bs : List Nat} (hb : ∀ b ∈ bs, b < 256) : Spec bs (confAt bs) confG := by
  have hs := (within_spec hb 0 15).then fun n => (num_spec hb).then fun r => Spec.pure (⟨decide (n % 2 = 1), decide (n / 2 % 2 = 1), decide (n / 4 % 2 = 1), decide (n / 8 % 2 = 1), r⟩ : Cf)
  exact hs
theorem node_spec {bs : List Nat} (hb : ∀ b ∈ bs, b < 256) : Spec bs (nodeAt bs) nodeG := by
  have hs := (num_spec hb).then fun o => (list_spec hb).then fun i => (list_spec hb).then fun p => Spec.pure (⟨o, i, p⟩ : GNode)
  exact hs
theorem graph_spec {bs : List Nat} (hb : ∀ b ∈ bs, b < 256) : Spec bs (graphAt bs) graphG := by
  have hs := (num_spec hb).then fun o => (within_spec hb 0 1000).then fun k => (times_spec (node_spec hb) k.toNat).then fun ns => Spec.pure (⟨ns, o⟩ : Gr)
  exact hs

theorem pixels_len {k : Nat} {ps : List (List Nat)} {es : List Nat} (h : timesG pixelG k ps es) : es.length = 4 * k := by
  have one : ∀ p e, pixelG p e → e.length = 4 := by
    intro p e h
    unfold pixelG at h
    simp only [timesG, GBind, GPure, rawG] at h
    obtain ⟨_, _, _, ⟨_, _, _, ⟨_, _, _, ⟨_, _, _, ⟨_, rfl⟩, ⟨_, _, _, ⟨_, rfl⟩, ⟨_, rfl⟩, rfl⟩, rfl⟩, ⟨_, _, _, ⟨_, rfl⟩, ⟨_, rfl⟩, rfl⟩, rfl⟩, ⟨_, _, _, ⟨_, rfl⟩, ⟨_, rfl⟩, rfl⟩, rfl⟩, ⟨_, _, _, ⟨_, rfl⟩, ⟨_, rfl⟩, rfl⟩, rfl⟩ := h
    rfl
  induction k generalizing ps es with
  | zero => obtain ⟨_, rfl⟩ := h; rfl
  | succ k ih =>
    obtain ⟨xs, e1, _, h1, ⟨x, e2, _, h2, ⟨_, rfl⟩, rfl⟩, rfl⟩ := h
    simp only [List.length_append, List.length_nil, ih h1, one _ _ h2]
    omega

theorem pix_spec {bs : List Nat} (hb : ∀ b ∈ bs, b < 256) (x y w h t : Int) : Spec bs (fun n => if 4 * countOf w h ≤ bs.length - n then (timesAt (pixelAt bs) n (countOf w h)).bind fun ps => some ((⟨2, ⟨x, y, 0, 0⟩, Pxl.zero, w, h, t, ps.1.map Pxl.of⟩ : Ct), ps.2) else none) (GBind (timesG pixelG (countOf w h)) fun ps => GPure ⟨2, ⟨x, y, 0, 0⟩, Pxl.zero, w, h, t, ps.map Pxl.of⟩) := by
  have hs := (times_spec (pixel_spec hb) (countOf w h)).then fun ps => Spec.pure (⟨2, ⟨x, y, 0, 0⟩, Pxl.zero, w, h, t, ps.map Pxl.of⟩ : Ct)
  refine hs.imp fun n => ?_
  by_cases hc : 4 * countOf w h ≤ bs.length - n
  · simp only [if_pos hc]
  · simp only [if_neg hc]
    rcases ht : timesAt (pixelAt bs) n (countOf w h) with _ | ⟨ps, m⟩
    · rfl
    · obtain ⟨es, g, s, _⟩ := (times_spec (pixel_spec hb) (countOf w h) n ps m).1 ht
      have := pixels_len g
      have := s.le
      omega

theorem content_spec {bs : List Nat} (hb : ∀ b ∈ bs, b < 256) : Spec bs (contentAt bs) contentG := by
  have hs := (num_spec hb).then fun k => Spec.ite (c := k = 1) (fun _ => (box_spec hb).then fun b => (pixel_spec hb).then fun p => Spec.pure (⟨1, Rc.of b, Pxl.of p, 0, 0, 0, []⟩ : Ct)) fun _ => Spec.ite (c := k = 2) (fun _ => (num_spec hb).then fun x => (num_spec hb).then fun y => (num_spec hb).then fun w => (num_spec hb).then fun h => (num_spec hb).then fun t => pix_spec hb x y w h t) fun _ => Spec.pure (⟨k, Rc.zero, Pxl.zero, 0, 0, 0, []⟩ : Ct)
  exact hs

theorem look_spec {bs : List Nat} (hb : ∀ b ∈ bs, b < 256) (k : Int) : Spec bs (fun n => lookAt bs n k) (lookG k) := by
  have hs := Spec.ite (c := k = 5) (fun _ => (num_spec hb).then fun x => (num_spec hb).then fun y => Spec.pure { Lk.zero with dx := x, dy := y }) fun _ =>
    Spec.ite (c := k = 6) (fun _ => (flag_spec hb).then fun f => Spec.ite (c := f = true) (fun _ => (box_spec hb).then fun b => Spec.pure { Lk.zero with hasClip := true, clip := Rc.of b }) fun _ => Spec.pure Lk.zero) fun _ =>
    Spec.ite (c := k = 7) (fun _ => (num_spec hb).then fun x => Spec.pure { Lk.zero with opacity := x }) fun _ =>
    Spec.ite (c := k = 8) (fun _ => (num_spec hb).then fun x => Spec.pure { Lk.zero with mode := x }) fun _ =>
    Spec.ite (c := k = 9) (fun _ => (content_spec hb).then fun x => Spec.pure { Lk.zero with content := x }) fun _ =>
    Spec.ite (c := k = 10) (fun _ => (flag_spec hb).then fun f => Spec.ite (c := f = true) (fun _ => (graph_spec hb).then fun b => Spec.pure { Lk.zero with hasFilt := true, filt := b }) fun _ => Spec.pure Lk.zero) fun _ =>
    Spec.ite (c := k = 11) (fun _ => (flag_spec hb).then fun f => Spec.ite (c := f = true) (fun _ => (graph_spec hb).then fun b => Spec.pure { Lk.zero with hasBack := true, back := b }) fun _ => Spec.pure Lk.zero) fun _ => Spec.pure Lk.zero
  exact hs

theorem opr_spec {bs : List Nat} (hb : ∀ b ∈ bs, b < 256) (k : Int) : Spec bs (fun n => oprAt bs n k) (oprG k) := by
  have hs := (Spec.ite (c := k = 1) (fun _ => Spec.pure ((0 : Int), (0 : Int))) fun _ => id_spec hb).then fun i =>
    (Spec.ite (c := k = 1 ∨ k = 3) (fun _ => id_spec hb) fun _ => Spec.pure ((0 : Int), (0 : Int))).then fun t =>
    (Spec.ite (c := k = 1 ∨ k = 3 ∨ k = 4) (fun _ => num_spec hb) fun _ => Spec.pure (0 : Int)).then fun a =>
    (look_spec hb k).then fun l => Spec.pure (⟨k, i, t, a, l⟩ : Opr)
  exact hs

theorem act_spec {bs : List Nat} (hb : ∀ b ∈ bs, b < 256) : Spec bs (actAt bs) actG := by
  have hs := (raw_spec hb).then fun b => Spec.ite (c := 1 ≤ b ∧ b ≤ 14) (fun _ =>
    Spec.ite (c := b = 12) (fun _ => (num_spec hb).then fun x => (num_spec hb).then fun y => Spec.pure (⟨12, Opr.zero, x, y, Cf.zero⟩ : Ac)) fun _ =>
    Spec.ite (c := b = 13) (fun _ => (conf_spec hb).then fun c => Spec.pure (⟨13, Opr.zero, 0, 0, c⟩ : Ac)) fun _ =>
    Spec.ite (c := b = 14) (fun _ => Spec.pure (⟨14, Opr.zero, 0, 0, Cf.zero⟩ : Ac)) fun _ =>
    (opr_spec hb b).then fun o => Spec.pure (⟨b, o, 0, 0, Cf.zero⟩ : Ac)) fun _ => Spec.none
  exact hs

end Go.Gou

/- Acts as bytes: two pixels are held against each other. -/
namespace Go.Proofs.Ytnamnmipgpcjjaa
open Go.RowKit Go.Gou
set_option maxRecDepth 100000

theorem u8_eq (w : World) (a b : Int) : (Op.equalIn 9999 5 (.int .u8 a) (.int .u8 b)).run Try.prog w = .ok (a == b) w := by
  have key : ∀ d : Nat, (Op.equalIn (d + 1) 5 (.int .u8 a) (.int .u8 b)).run Try.prog w = .ok (a == b) w := fun d => by
    simp [Op.equalIn, Sem.run_bind, run_underlying Try.underlying5]
  exact key 9998

set_option maxHeartbeats 1000000 in
theorem px_neq (x0 x1 x2 x3 y0 y1 y2 y3 : Nat) (w : World) : (binOp .neq 27 (.agg #[.int .u8 (x0 : Nat), .int .u8 (x1 : Nat), .int .u8 (x2 : Nat), .int .u8 (x3 : Nat)]) (.agg #[.int .u8 (y0 : Nat), .int .u8 (y1 : Nat), .int .u8 (y2 : Nat), .int .u8 (y3 : Nat)])).run Try.prog w = .ok (.bool (!decide (x0 = y0 ∧ x1 = y1 ∧ x2 = y2 ∧ x3 = y3))) w := by
  have h1 : (Op.equal 27 (.agg #[.int .u8 (x0 : Nat), .int .u8 (x1 : Nat), .int .u8 (x2 : Nat), .int .u8 (x3 : Nat)]) (.agg #[.int .u8 (y0 : Nat), .int .u8 (y1 : Nat), .int .u8 (y2 : Nat), .int .u8 (y3 : Nat)])).run Try.prog w = .ok (decide (x0 = y0 ∧ x1 = y1 ∧ x2 = y2 ∧ x3 = y3)) w := by
    show (Op.equalIn (9999 + 1) _ _ _).run _ _ = _
    obtain ⟨iu, hiu, -, -, -⟩ := info_parts info_u8
    rw [run_equalIn_array w 9999 _ _ Try.underlying27 hiu]
    have hc : Try.prog.cellsOf 5 = 1 := by kernel_rfl
    have hp0 : ∀ (a b c d : Value) (w : World), (part 5 #[a, b, c, d] (0 * 1)).run Try.prog w = .ok a w := fun _ _ _ _ _ => by kernel_rfl
    have hp1 : ∀ (a b c d : Value) (w : World), (part 5 #[a, b, c, d] (1 * 1)).run Try.prog w = .ok b w := fun _ _ _ _ _ => by kernel_rfl
    have hp2 : ∀ (a b c d : Value) (w : World), (part 5 #[a, b, c, d] (2 * 1)).run Try.prog w = .ok c w := fun _ _ _ _ _ => by kernel_rfl
    have hp3 : ∀ (a b c d : Value) (w : World), (part 5 #[a, b, c, d] (3 * 1)).run Try.prog w = .ok d w := fun _ _ _ _ _ => by kernel_rfl
    have hr : List.range 4 = [0, 1, 2, 3] := rfl
    rw [hc, hr]
    simp only [Op.eqItems, Sem.run_bind, hp0, hp1, hp2, hp3, u8_eq, Result.andThen_ok, Sem.run_ite, Sem.run_pure]
    by_cases h0 : x0 = y0 <;> by_cases h1 : x1 = y1 <;> by_cases h2 : x2 = y2 <;> by_cases h3 : x3 = y3 <;> simp [h0, h1, h2, h3] <;> omega
  simp only [binOp, Sem.run_bind, h1, Result.andThen_ok, Sem.run_pure]
end Go.Proofs.Ytnamnmipgpcjjaa

/- Acts as bytes: two lists of pixels are held against each other. -/
namespace Go.Proofs.Ytnamnmipgpcjjaa
open Go.RowKit Go.Gou

set_option maxRecDepth 100000 in
set_option maxHeartbeats 1000000 in
theorem eqPix_any (w : World) (G1 G2 : Nat → Prop) (p1 p2 : Option Addr) (c1 c2 : Nat) (xs ys : List Pxl) (hx : PixR G1 w (.slice p1 xs.length c1) xs) (hy : PixR G2 w (.slice p2 ys.length c2) ys) (hl : xs.length ≤ 1000000000) (hl2 : ys.length ≤ 1000000000) :
    Calls Try.prog 60 #[.slice p1 xs.length c1, .slice p2 ys.length c2] w fun e w' => e = .returned (.bool (decide (xs = ys))) ∧ Gou.Mod (fun _ => False) w w' := by
  have Hx := Lib.hid hx
  have Hy := Lib.hid hy
  clear hx hy
  go_enter Try.func60, Try.ntmps60
  by_cases hlen : xs.length = ys.length
  · have e1 : ((xs.length : Int) != (ys.length : Int)) = false := by simp [hlen]
    have Hlen := Lib.hid hlen
    clear hlen
    go_wp2_with fail
    go_loopw [13] (fun c wr => ∃ i : Nat, c = .int .i64 i ∧ i ≤ xs.length ∧ xs.take i = ys.take i ∧ Gou.Mod (fun _ => False) w wr) (fun c _ => xs.length - (intOf c).toNat)
    case atStart => exact ⟨0, rfl, by omega, by simp, Gou.Mod.refl _ _⟩
    case round =>
      obtain ⟨i, rfl, hi, ht, hm⟩ := hrel
      have Ht := Lib.hid ht
      have Hm := Lib.hid hm
      clear ht hm
      by_cases hil : i < xs.length
      · have e2 : decide ((i : Int) < (xs.length : Int)) = true := by simp; omega
        have hil2 : i < ys.length := by have := Hlen.out; omega
        obtain ⟨-, b1, o1, rfl, hb1, -, hc1⟩ := Hx.out.cells (by omega)
        obtain ⟨-, b2, o2, rfl, hb2, -, hc2⟩ := Hy.out.cells (by omega)
        obtain ⟨k0, k1, k2, k3⟩ := hc1 i hil
        obtain ⟨l0, l1, l2, l3⟩ := hc2 i hil2
        have hm1 : ∀ j, wr.cell? ⟨b1, j, none⟩ = w.cell? ⟨b1, j, none⟩ := fun j => Hm.out.cell (p := ⟨b1, j, none⟩) hb1 (fun h => h)
        have hm2 : ∀ j, wr.cell? ⟨b2, j, none⟩ = w.cell? ⟨b2, j, none⟩ := fun j => Hm.out.cell (p := ⟨b2, j, none⟩) hb2 (fun h => h)
        rw [← hm1] at k0 k1 k2 k3
        rw [← hm2] at l0 l1 l2 l3
        clear hm1 hm2
        have hiI : (i : Int) < (xs.length : Int) := by omega
        have hiJ : (i : Int) < (ys.length : Int) := by omega
        have hi0I : (0 : Int) ≤ (i : Int) := by omega
        have Hne := Lib.hid (fun he => ne_of_get (i := i) hil hil2 he : xs[i] ≠ ys[i] → xs ≠ ys)
        have Heq := Lib.hid (fun he => take_eq_snoc hil hil2 Ht.out he : xs[i] = ys[i] → xs.take (i + 1) = ys.take (i + 1))
        clear hc1 hc2
        generalize xs[i] = x at *
        generalize ys[i] = y at *
        obtain ⟨x0, x1, x2, x3⟩ := x
        obtain ⟨y0, y1, y2, y3⟩ := y
        simp only at k0 k1 k2 k3 l0 l1 l2 l3
        simp only [Pxl.mk.injEq] at Hne Heq
        obtain ⟨bq, hq⟩ : ∃ bq, bq = decide (x0 = y0 ∧ x1 = y1 ∧ x2 = y2 ∧ x3 = y3) := ⟨_, rfl⟩
        have hne : ∀ w : World, (binOp .neq 27 (.agg #[.int .u8 (x0 : Nat), .int .u8 (x1 : Nat), .int .u8 (x2 : Nat), .int .u8 (x3 : Nat)]) (.agg #[.int .u8 (y0 : Nat), .int .u8 (y1 : Nat), .int .u8 (y2 : Nat), .int .u8 (y3 : Nat)])).run Try.prog w = .ok (.bool (!bq)) w := fun w => by rw [hq]; exact px_neq x0 x1 x2 x3 y0 y1 y2 y3 w
        cases bq with
        | true =>
          have Hs := Lib.hid (Heq.out (by simpa using hq.symm))
          clear hq
          go_wp2_with fail
          go_quiet (fail)
          go_wp2_with fail
          go_roundw
          case rel => exact ⟨i + 1, by go_num, by omega, Hs.out, Hm.out.trans' (Gou.Mod.drewN _ _ _)⟩
          case measure => simp [intOf]; omega
        | false =>
          have Hs := Lib.hid (Hne.out (by simpa using hq.symm))
          clear hq
          go_wp2_with fail
          go_quiet (fail)
          go_wp2_with fail
          go_ret
          exact ⟨by simp [Hs.out], Hm.out.trans' (Gou.Mod.drewN _ _ _)⟩
      · obtain rfl : i = xs.length := by omega
        have e2 : decide ((xs.length : Int) < (xs.length : Int)) = false := by simp
        have Hs : Hid (xs = ys) := Lib.hid (by
          have h1 := Ht.out
          rw [List.take_length, Hlen.out, List.take_length] at h1
          exact h1)
        go_wp2_with fail
        go_ret
        exact ⟨by simp [Hs.out], Hm.out⟩
  · have e1 : ((xs.length : Int) != (ys.length : Int)) = true := by simp; omega
    have Hs : Hid (xs ≠ ys) := Lib.hid (fun h => hlen (by rw [h]))
    clear hlen
    go_wp2_with fail
    go_ret
    exact ⟨by simp [Hs.out], Gou.Mod.refl _ _⟩

end Go.Proofs.Ytnamnmipgpcjjaa

/- Acts as bytes: two nodes are held against each other. -/
namespace Go.Gou
open Go.RowKit

theorem node_eq (n m : GNode) : n = m ↔ n.op = m.op ∧ n.ins = m.ins ∧ n.ps = m.ps := by
  obtain ⟨a, b, c⟩ := n
  obtain ⟨d, e, f⟩ := m
  simp

end Go.Gou
namespace Go.Proofs.Ytnamnmipgpcjjaa
open Go.RowKit Go.Gou

set_option maxRecDepth 100000 in
set_option maxHeartbeats 1000000 in
theorem sameNode_any (w : World) (G1 G2 : Nat → Prop) (pi pp qi qp : Option Addr) (ci cp di dp : Nat) (n m : GNode) (h1 : IntsR G1 w (.slice pi n.ins.length ci) n.ins) (h2 : IntsR G1 w (.slice pp n.ps.length cp) n.ps) (h3 : IntsR G2 w (.slice qi m.ins.length di) m.ins) (h4 : IntsR G2 w (.slice qp m.ps.length dp) m.ps)
    (l1 : n.ins.length ≤ 1000000000) (l2 : n.ps.length ≤ 1000000000) (l3 : m.ins.length ≤ 1000000000) (l4 : m.ps.length ≤ 1000000000) :
    Calls Try.prog 62 #[.agg #[.int .i64 n.op, .slice pi n.ins.length ci, .slice pp n.ps.length cp], .agg #[.int .i64 m.op, .slice qi m.ins.length di, .slice qp m.ps.length dp]] w fun e w' => e = .returned (.bool (decide (n = m))) ∧ Gou.Mod (fun _ => False) w w' := by
  have HM : Hid (Gou.Mod (fun _ => False) w ((w.alloc (.cells #[.int .i64 n.op, .slice pi n.ins.length ci, .slice pp n.ps.length cp] 82)).alloc (.cells #[.int .i64 m.op, .slice qi m.ins.length di, .slice qp m.ps.length dp] 82))) := Lib.hid ((Gou.Mod.alloc _ _ _).trans' (Gou.Mod.alloc _ _ _))
  have H1 := Lib.hid (RowG.mod h1 HM.out (fun _ _ _ h => h))
  have H2 := Lib.hid (RowG.mod h2 HM.out (fun _ _ _ h => h))
  have H3 := Lib.hid (RowG.mod h3 HM.out (fun _ _ _ h => h))
  have H4 := Lib.hid (RowG.mod h4 HM.out (fun _ _ _ h => h))
  have HA : Hid (Blk ((w.alloc (.cells #[.int .i64 n.op, .slice pi n.ins.length ci, .slice pp n.ps.length cp] 82)).alloc (.cells #[.int .i64 m.op, .slice qi m.ins.length di, .slice qp m.ps.length dp] 82)) w.heap.size 82 #[.int .i64 n.op, .slice pi n.ins.length ci, .slice pp n.ps.length cp]) :=
    Lib.hid ((show Blk (w.alloc (.cells #[.int .i64 n.op, .slice pi n.ins.length ci, .slice pp n.ps.length cp] 82)) w.heap.size 82 _ from heap_alloc_new w _).mod (Gou.Mod.alloc (fun _ => False) _ _) (fun h => h))
  have HB : Hid (Blk ((w.alloc (.cells #[.int .i64 n.op, .slice pi n.ins.length ci, .slice pp n.ps.length cp] 82)).alloc (.cells #[.int .i64 m.op, .slice qi m.ins.length di, .slice qp m.ps.length dp] 82)) (w.heap.size + 1) 82 #[.int .i64 m.op, .slice qi m.ins.length di, .slice qp m.ps.length dp]) :=
    Lib.hid (by
      have := heap_alloc_new (w.alloc (.cells #[.int .i64 n.op, .slice pi n.ins.length ci, .slice pp n.ps.length cp] 82)) (.cells #[.int .i64 m.op, .slice qi m.ins.length di, .slice qp m.ps.length dp] 82)
      rw [World.size_alloc] at this
      exact this)
  clear h1 h2 h3 h4
  go_enter Try.func62, Try.ntmps62
  by_cases ho : n.op = m.op
  · have e1 : (n.op == m.op) = true := by simp [ho]
    have Ho := Lib.hid ho
    clear ho
    go_wp2_with fail
    generalize hW : (w.alloc (.cells #[.int .i64 n.op, .slice pi n.ins.length ci, .slice pp n.ps.length cp] 82)).alloc (.cells #[.int .i64 m.op, .slice qi m.ins.length di, .slice qp m.ps.length dp] 82) = w0 at *
    clear hW
    have hlA := Blk.lt HA.out
    have hlB := Blk.lt HB.out
    refine (eqInts_any _ G1 G2 pi qi ci di n.ins m.ins H1.out H3.out l1 l3).mono ?_
    rintro e w1 ⟨rfl, hm1⟩
    have hA := HA.out.mod hm1 (fun h => h)
    have hB := HB.out.mod hm1 (fun h => h)
    have a2 := hA.cell 2 rfl
    have b2 := hB.cell 2 rfl
    have H2b := Lib.hid (RowG.mod H2.out hm1 (fun _ _ _ h => h))
    have H4b := Lib.hid (RowG.mod H4.out hm1 (fun _ _ _ h => h))
    have HM1 := Lib.hid (HM.out.trans' hm1)
    clear hA hB hm1
    by_cases hi : n.ins = m.ins
    · have Hi := Lib.hid hi
      have e2 : decide (n.ins = m.ins) = true := by simp [hi]
      clear hi
      go_wp2_with fail
      refine (eqInts_any _ G1 G2 pp qp cp dp n.ps m.ps H2b.out H4b.out l2 l4).mono ?_
      rintro e w2 ⟨rfl, hm2⟩
      have HM2 := Lib.hid (HM1.out.trans' hm2)
      have Hq : Hid (decide (n.ps = m.ps) = decide (n = m)) := Lib.hid (by
        have h1 := Ho.out
        have h2 := Hi.out
        simp [node_eq, h1, h2])
      clear hm2 e2
      generalize decide (n.ps = m.ps) = q at *
      cases q with
      | true =>
        go_wp2_with fail
        go_ret
        exact ⟨by rw [← Hq.out]; rfl, HM2.out⟩
      | false =>
        go_wp2_with fail
        go_ret
        exact ⟨by rw [← Hq.out]; rfl, HM2.out⟩
    · have e2 : decide (n.ins = m.ins) = false := by simp [hi]
      have Hq : Hid (decide (n = m) = false) := Lib.hid (by simp [node_eq, hi])
      clear hi
      go_wp2_with fail
      go_ret
      exact ⟨by rw [Hq.out]; rfl, HM1.out⟩
  · have e1 : (n.op == m.op) = false := beq_eq_false_iff_ne.2 ho
    have Hq : Hid (decide (n = m) = false) := Lib.hid (by simp [node_eq, ho])
    clear ho
    go_wp2_with fail
    go_ret
    exact ⟨by rw [Hq.out]; rfl, HM.out⟩

end Go.Proofs.Ytnamnmipgpcjjaa

/- Acts as bytes: two lists of nodes are held against each other. -/
namespace Go.Gou
open Go.RowKit

/-- Nodes with lists of a length that is borne. -/
def NodesBorne (ns : List GNode) : Prop := ns.length ≤ 1000000000 ∧ ∀ (i : Nat) (n : GNode), ns[i]? = some n → n.ins.length ≤ 1000000000 ∧ n.ps.length ≤ 1000000000

end Go.Gou
namespace Go.Proofs.Ytnamnmipgpcjjaa
open Go.RowKit Go.Gou

set_option maxRecDepth 100000 in
set_option maxHeartbeats 2000000 in
theorem eqNodes_any (w : World) (G1 G2 : Nat → Prop) (p1 p2 : Option Addr) (c1 c2 : Nat) (xs ys : List GNode) (hx : NodesR G1 w (.slice p1 xs.length c1) xs) (hy : NodesR G2 w (.slice p2 ys.length c2) ys) (bx : NodesBorne xs) (by_ : NodesBorne ys) :
    Calls Try.prog 61 #[.slice p1 xs.length c1, .slice p2 ys.length c2, .func (.func 62) #[] #[]] w fun e w' => e = .returned (.bool (decide (xs = ys))) ∧ Gou.Mod (fun _ => False) w w' := by
  have Hx := Lib.hid hx
  have Hy := Lib.hid hy
  have hl := bx.1
  have Bx := Lib.hid bx
  have By := Lib.hid by_
  clear hx hy bx by_
  go_enter Try.func61, Try.ntmps61
  by_cases hlen : xs.length = ys.length
  · have e1 : ((xs.length : Int) != (ys.length : Int)) = false := by simp [hlen]
    have Hlen := Lib.hid hlen
    clear hlen
    go_wp2_with fail
    go_loopw [17] (fun c wr => ∃ i : Nat, c = .int .i64 i ∧ i ≤ xs.length ∧ xs.take i = ys.take i ∧ Gou.Mod (fun _ => False) w wr) (fun c _ => xs.length - (intOf c).toNat)
    case atStart => exact ⟨0, rfl, by omega, by simp, Gou.Mod.refl _ _⟩
    case round =>
      obtain ⟨i, rfl, hi, ht, hm⟩ := hrel
      have Ht := Lib.hid ht
      have Hm := Lib.hid hm
      clear ht hm
      by_cases hil : i < xs.length
      · have e2 : decide ((i : Int) < (xs.length : Int)) = true := by simp; omega
        have hil2 : i < ys.length := by have := Hlen.out; omega
        obtain ⟨-, b1, o1, rfl, hb1, -, hc1⟩ := (Hx.out.mod Hm.out (fun _ _ _ h => h)).cells (by omega)
        obtain ⟨-, b2, o2, rfl, hb2, -, hc2⟩ := (Hy.out.mod Hm.out (fun _ _ _ h => h)).cells (by omega)
        have g1 := List.getElem?_eq_getElem hil
        have g2 := List.getElem?_eq_getElem hil2
        obtain ⟨pi, ci, pp, cp, k0, k1, k2, hI, hP⟩ := hc1 i _ g1
        obtain ⟨qi, di, qp, dp, l0, l1, l2, jI, jP⟩ := hc2 i _ g2
        have B1 := Lib.hid (Bx.out.2 i _ g1)
        have B2 := Lib.hid (By.out.2 i _ g2)
        have hiI : (i : Int) < (xs.length : Int) := by omega
        have hiJ : (i : Int) < (ys.length : Int) := by omega
        have hi0I : (0 : Int) ≤ (i : Int) := by omega
        have Hne := Lib.hid (fun he => ne_of_get (i := i) hil hil2 he : xs[i] ≠ ys[i] → xs ≠ ys)
        have Heq := Lib.hid (fun he => take_eq_snoc hil hil2 Ht.out he : xs[i] = ys[i] → xs.take (i + 1) = ys.take (i + 1))
        clear hc1 hc2 g1 g2
        generalize xs[i] = x at *
        generalize ys[i] = y at *
        have HI := Lib.hid hI
        have HP := Lib.hid hP
        have JI := Lib.hid jI
        have JP := Lib.hid jP
        clear hI hP jI jP
        have HM2 : Hid (Gou.Mod (fun _ => False) wr ((wr.alloc (.cells #[.int .i64 x.op, .slice pi x.ins.length ci, .slice pp x.ps.length cp] 82)).alloc (.cells #[.int .i64 y.op, .slice qi y.ins.length di, .slice qp y.ps.length dp] 82))) := Lib.hid ((Gou.Mod.alloc _ _ _).trans' (Gou.Mod.alloc _ _ _))
        go_wp2_with fail
        refine (sameNode_any _ G1 G2 pi pp qi qp ci cp di dp x y (RowG.mod HI.out HM2.out (fun _ _ _ h => h)) (RowG.mod HP.out HM2.out (fun _ _ _ h => h)) (RowG.mod JI.out HM2.out (fun _ _ _ h => h)) (RowG.mod JP.out HM2.out (fun _ _ _ h => h)) B1.out.1 B1.out.2 B2.out.1 B2.out.2).mono ?_
        rintro e w3 ⟨rfl, hm3⟩
        have HM3 := Lib.hid ((Hm.out.trans' HM2.out).trans' hm3)
        clear hm3
        by_cases hxy : x = y
        · have e3 : decide (x = y) = true := by simp [hxy]
          have Hs := Lib.hid (Heq.out hxy)
          clear hxy
          go_wp2_with fail
          go_roundw
          case rel => exact ⟨i + 1, by go_num, by omega, Hs.out, HM3.out⟩
          case measure => simp [intOf]; omega
        · have e3 : decide (x = y) = false := by simp [hxy]
          have Hs := Lib.hid (Hne.out hxy)
          clear hxy
          go_wp2_with fail
          go_ret
          exact ⟨by simp [Hs.out], HM3.out⟩
      · obtain rfl : i = xs.length := by omega
        have e2 : decide ((xs.length : Int) < (xs.length : Int)) = false := by simp
        have Hs : Hid (xs = ys) := Lib.hid (by
          have h1 := Ht.out
          rw [List.take_length, Hlen.out, List.take_length] at h1
          exact h1)
        go_wp2_with fail
        go_ret
        exact ⟨by simp [Hs.out], Hm.out⟩
  · have e1 : ((xs.length : Int) != (ys.length : Int)) = true := by simp; omega
    have Hs : Hid (xs ≠ ys) := Lib.hid (fun h => hlen (by rw [h]))
    clear hlen
    go_wp2_with fail
    go_ret
    exact ⟨by simp [Hs.out], Gou.Mod.refl _ _⟩

end Go.Proofs.Ytnamnmipgpcjjaa

/- Acts as bytes: two filters are held against each other. -/
namespace Go.Gou
open Go.RowKit

theorem gr_eq (g k : Gr) : g = k ↔ g.out = k.out ∧ g.nodes = k.nodes := by
  obtain ⟨a, b⟩ := g
  obtain ⟨d, e⟩ := k
  simp [and_comm]

end Go.Gou
namespace Go.Proofs.Ytnamnmipgpcjjaa
open Go.RowKit Go.Gou

set_option maxRecDepth 100000 in
set_option maxHeartbeats 1000000 in
theorem sameGraph_any (w : World) (G1 G2 : Nat → Prop) (p1 p2 : Option Addr) (c1 c2 : Nat) (g k : Gr) (hx : NodesR G1 w (.slice p1 g.nodes.length c1) g.nodes) (hy : NodesR G2 w (.slice p2 k.nodes.length c2) k.nodes) (bx : NodesBorne g.nodes) (by_ : NodesBorne k.nodes) :
    Calls Try.prog 51 #[.agg #[.slice p1 g.nodes.length c1, .int .i64 g.out], .agg #[.slice p2 k.nodes.length c2, .int .i64 k.out]] w fun e w' => e = .returned (.bool (decide (g = k))) ∧ Gou.Mod (fun _ => False) w w' := by
  have HM : Hid (Gou.Mod (fun _ => False) w ((w.alloc (.cells #[.slice p1 g.nodes.length c1, .int .i64 g.out] 33)).alloc (.cells #[.slice p2 k.nodes.length c2, .int .i64 k.out] 33))) := Lib.hid ((Gou.Mod.alloc _ _ _).trans' (Gou.Mod.alloc _ _ _))
  have Hx := Lib.hid (hx.mod HM.out (fun _ _ _ h => h))
  have Hy := Lib.hid (hy.mod HM.out (fun _ _ _ h => h))
  have Bx := Lib.hid bx
  have By := Lib.hid by_
  clear hx hy bx by_
  go_enter Try.func51, Try.ntmps51
  by_cases ho : g.out = k.out
  · have e1 : (g.out == k.out) = true := by simp [ho]
    have Ho := Lib.hid ho
    clear ho
    go_wp2_with fail
    refine (eqNodes_any _ G1 G2 p1 p2 c1 c2 g.nodes k.nodes Hx.out Hy.out Bx.out By.out).mono ?_
    rintro e w1 ⟨rfl, hm1⟩
    have HM1 := Lib.hid (HM.out.trans' hm1)
    have Hq : Hid (decide (g.nodes = k.nodes) = decide (g = k)) := Lib.hid (by
      have h1 := Ho.out
      simp [gr_eq, h1])
    clear hm1
    generalize decide (g.nodes = k.nodes) = q at *
    cases q with
    | true =>
      go_wp2_with fail
      go_ret
      exact ⟨by rw [← Hq.out]; rfl, HM1.out⟩
    | false =>
      go_wp2_with fail
      go_ret
      exact ⟨by rw [← Hq.out]; rfl, HM1.out⟩
  · have e1 : (g.out == k.out) = false := beq_eq_false_iff_ne.2 ho
    have Hq : Hid (decide (g = k) = false) := Lib.hid (by simp [gr_eq, ho])
    clear ho
    go_wp2_with fail
    go_ret
    exact ⟨by rw [Hq.out]; rfl, HM.out⟩

end Go.Proofs.Ytnamnmipgpcjjaa

/- Acts as bytes: rectangles and Ids are held against each other. -/
namespace Go.Proofs.Ytnamnmipgpcjjaa
open Go.RowKit Go.Gou
set_option maxRecDepth 100000

theorem i64_eq (w : World) (d : Nat) (a b : Int) : (Op.equalIn (d + 1) 3 (.int .i64 a) (.int .i64 b)).run Try.prog w = .ok (a == b) w := by
  simp [Op.equalIn, Sem.run_bind, run_underlying Try.underlying3]

set_option maxHeartbeats 1000000 in
theorem rect_eql (a b c d a' b' c' d' : Int) (w : World) : (Op.equal 25 (.agg #[.int .i64 a, .int .i64 b, .int .i64 c, .int .i64 d]) (.agg #[.int .i64 a', .int .i64 b', .int .i64 c', .int .i64 d'])).run Try.prog w = .ok (decide (a = a' ∧ b = b' ∧ c = c' ∧ d = d')) w := by
  show (Op.equalIn (9999 + 1) _ _ _).run _ _ = _
  have hp0 : ∀ (a b c d : Value) (w : World), (part 3 #[a, b, c, d] 0).run Try.prog w = .ok a w := fun _ _ _ _ _ => by kernel_rfl
  have hp1 : ∀ (a b c d : Value) (w : World), (part 3 #[a, b, c, d] 1).run Try.prog w = .ok b w := fun _ _ _ _ _ => by kernel_rfl
  have hp2 : ∀ (a b c d : Value) (w : World), (part 3 #[a, b, c, d] 2).run Try.prog w = .ok c w := fun _ _ _ _ _ => by kernel_rfl
  have hp3 : ∀ (a b c d : Value) (w : World), (part 3 #[a, b, c, d] 3).run Try.prog w = .ok d w := fun _ _ _ _ _ => by kernel_rfl
  have he : ∀ (w : World) (a b : Int), (Op.equalIn 9999 3 (.int .i64 a) (.int .i64 b)).run Try.prog w = .ok (a == b) w := fun w a b => i64_eq w 9998 a b
  rw [run_equalIn_struct w 9999 25 _ _ (by kernel_rfl) (by kernel_rfl)]
  simp only [Program.fieldsOf, Try.underlying25]
  generalize (9999 : Nat) = dd at *
  simp only [Op.eqFields]
  by_cases h0 : a = a' <;> by_cases h1 : b = b' <;> by_cases h2 : c = c' <;> by_cases h3 : d = d' <;> simp [Sem.run_bind, Sem.run_ite, hp0, hp1, hp2, hp3, he, h0, h1, h2, h3]

set_option maxHeartbeats 1000000 in
theorem id_eql (a b a' b' : Int) (w : World) : (Op.equal 23 (.agg #[.int .i64 a, .int .i64 b]) (.agg #[.int .i64 a', .int .i64 b'])).run Try.prog w = .ok (decide (a = a' ∧ b = b')) w := by
  show (Op.equalIn (9999 + 1) _ _ _).run _ _ = _
  have hp0 : ∀ (a b : Value) (w : World), (part 3 #[a, b] 0).run Try.prog w = .ok a w := fun _ _ _ => by kernel_rfl
  have hp1 : ∀ (a b : Value) (w : World), (part 3 #[a, b] 1).run Try.prog w = .ok b w := fun _ _ _ => by kernel_rfl
  have he : ∀ (w : World) (a b : Int), (Op.equalIn 9999 3 (.int .i64 a) (.int .i64 b)).run Try.prog w = .ok (a == b) w := fun w a b => i64_eq w 9998 a b
  rw [run_equalIn_struct w 9999 23 _ _ (by kernel_rfl) (by kernel_rfl)]
  simp only [Program.fieldsOf, Try.underlying23]
  generalize (9999 : Nat) = dd at *
  simp only [Op.eqFields]
  by_cases h0 : a = a' <;> by_cases h1 : b = b' <;> simp [Sem.run_bind, Sem.run_ite, hp0, hp1, he, h0, h1]

end Go.Proofs.Ytnamnmipgpcjjaa

/- Acts as bytes: confs and pixels are held against each other, as ==. -/
namespace Go.Proofs.Ytnamnmipgpcjjaa
open Go.RowKit Go.Gou
set_option maxRecDepth 100000

theorem bool_eq (w : World) (d : Nat) (a b : Bool) : (Op.equalIn (d + 1) 4 (.bool a) (.bool b)).run Try.prog w = .ok (a == b) w := by
  simp [Op.equalIn, Sem.run_bind, run_underlying Try.underlying4]

set_option maxHeartbeats 4000000 in
theorem conf_eql (c e : Cf) (w : World) : (Op.equal 39 (.agg #[.bool c.fuse, .bool c.alias, .bool c.roi, .bool c.damage, .int .i64 c.room]) (.agg #[.bool e.fuse, .bool e.alias, .bool e.roi, .bool e.damage, .int .i64 e.room])).run Try.prog w = .ok (decide (c = e)) w := by
  obtain ⟨a0, a1, a2, a3, a4⟩ := c
  obtain ⟨b0, b1, b2, b3, b4⟩ := e
  show (Op.equalIn (9999 + 1) _ _ _).run _ _ = _
  have hp0 : ∀ (a b c d e : Value) (w : World), (part 4 #[a, b, c, d, e] 0).run Try.prog w = .ok a w := fun _ _ _ _ _ _ => by kernel_rfl
  have hp1 : ∀ (a b c d e : Value) (w : World), (part 4 #[a, b, c, d, e] 1).run Try.prog w = .ok b w := fun _ _ _ _ _ _ => by kernel_rfl
  have hp2 : ∀ (a b c d e : Value) (w : World), (part 4 #[a, b, c, d, e] 2).run Try.prog w = .ok c w := fun _ _ _ _ _ _ => by kernel_rfl
  have hp3 : ∀ (a b c d e : Value) (w : World), (part 4 #[a, b, c, d, e] 3).run Try.prog w = .ok d w := fun _ _ _ _ _ _ => by kernel_rfl
  have hp4 : ∀ (a b c d e : Value) (w : World), (part 3 #[a, b, c, d, e] 4).run Try.prog w = .ok e w := fun _ _ _ _ _ _ => by kernel_rfl
  have he : ∀ (w : World) (a b : Int), (Op.equalIn 9999 3 (.int .i64 a) (.int .i64 b)).run Try.prog w = .ok (a == b) w := fun w a b => i64_eq w 9998 a b
  have hb : ∀ (w : World) (a b : Bool), (Op.equalIn 9999 4 (.bool a) (.bool b)).run Try.prog w = .ok (a == b) w := fun w a b => bool_eq w 9998 a b
  rw [run_equalIn_struct w 9999 39 _ _ (by kernel_rfl) (by kernel_rfl)]
  simp only [Program.fieldsOf, Try.underlying39]
  generalize (9999 : Nat) = dd at *
  simp only [Op.eqFields]
  by_cases h0 : a0 = b0
  · by_cases h1 : a1 = b1
    · by_cases h2 : a2 = b2
      · by_cases h3 : a3 = b3
        · by_cases h4 : a4 = b4
          · simp [Sem.run_bind, Sem.run_ite, hp0, hp1, hp2, hp3, hp4, he, hb, h0, h1, h2, h3, h4]
          · simp [Sem.run_bind, Sem.run_ite, hp0, hp1, hp2, hp3, hp4, he, hb, h0, h1, h2, h3, h4]
        · simp [Sem.run_bind, Sem.run_ite, hp0, hp1, hp2, hp3, hp4, he, hb, h0, h1, h2, h3]
      · simp [Sem.run_bind, Sem.run_ite, hp0, hp1, hp2, hp3, hp4, he, hb, h0, h1, h2]
    · simp [Sem.run_bind, Sem.run_ite, hp0, hp1, hp2, hp3, hp4, he, hb, h0, h1]
  · simp [Sem.run_bind, Sem.run_ite, hp0, hp1, hp2, hp3, hp4, he, hb, h0]

end Go.Proofs.Ytnamnmipgpcjjaa

