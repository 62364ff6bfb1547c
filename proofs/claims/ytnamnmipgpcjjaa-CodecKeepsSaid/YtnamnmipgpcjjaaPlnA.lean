/- Acts as bytes: the plain law of the bytes: what is read is what is written, and is written in one way. -/
import Derived.Test.YtnamnmipgpcjjaaSamA
namespace Go.Gou
open Go.RowKit

/-- es stand in bs from n on. -/
def Sits (es bs : List Nat) (n : Nat) : Prop := ∃ rest, bs.drop n = es ++ rest

theorem Sits.nil (bs : List Nat) (n : Nat) : Sits [] bs n := ⟨_, rfl⟩
theorem Sits.append {a b bs : List Nat} {n : Nat} : Sits (a ++ b) bs n ↔ Sits a bs n ∧ Sits b bs (n + a.length) := by
  constructor
  · rintro ⟨r, h⟩
    refine ⟨⟨b ++ r, by rw [h, List.append_assoc]⟩, ⟨r, ?_⟩⟩
    rw [← List.drop_drop, h, List.append_assoc, List.drop_left]
  · rintro ⟨⟨r, h⟩, ⟨q, k⟩⟩
    refine ⟨q, ?_⟩
    rw [← List.drop_drop, h, List.drop_left] at k
    rw [h, k, List.append_assoc]
theorem Sits.cons {x : Nat} {b bs : List Nat} {n : Nat} : Sits (x :: b) bs n ↔ bs[n]? = some x ∧ Sits b bs (n + 1) := by
  have h := Sits.append (a := [x]) (b := b) (bs := bs) (n := n)
  rw [List.singleton_append] at h
  rw [h]
  refine and_congr_left fun _ => ?_
  constructor
  · rintro ⟨r, h⟩
    have := congrArg (fun l => l[0]?) h
    simpa [List.getElem?_drop] using this
  · intro h
    obtain ⟨hn, e⟩ := List.getElem?_eq_some_iff.1 h
    exact ⟨bs.drop (n + 1), by rw [List.drop_eq_getElem_cons hn, e]; rfl⟩
theorem Sits.le {es bs : List Nat} {n : Nat} (h : Sits es bs n) : es.length ≤ bs.length - n := by
  obtain ⟨r, h⟩ := h
  have := congrArg List.length h
  simp only [List.length_drop, List.length_append] at this
  omega
theorem Sits.self (es : List Nat) : Sits es es 0 := ⟨[], by simp⟩
theorem Sits.take {es bs : List Nat} {n k : Nat} : Sits es (bs.take k) n ↔ Sits es bs n ∧ (es = [] ∨ n + es.length ≤ k) := by
  constructor
  · rintro ⟨r, h⟩
    have hl := Sits.le ⟨r, h⟩
    rw [List.length_take] at hl
    refine ⟨⟨r ++ (bs.drop n).drop (k - n), ?_⟩, ?_⟩
    · rw [← List.append_assoc, ← h, List.drop_take]
      exact (List.take_append_drop _ _).symm
    · rcases es with _ | ⟨e, es⟩
      · exact .inl rfl
      · right
        simp only [List.length_cons] at hl ⊢
        omega
  · rintro ⟨⟨r, h⟩, rfl | hk⟩
    · exact Sits.nil _ _
    · refine ⟨r.take (k - n - es.length), ?_⟩
      rw [List.drop_take, h, List.take_append, List.take_of_length_le (by omega)]

/-- A reading from a place on: what it reads, and the bytes of it. -/
def Spec {α : Type} (bs : List Nat) (P : Nat → Option (α × Nat)) (G : α → List Nat → Prop) : Prop := ∀ n x m, P n = some (x, m) ↔ ∃ es, G x es ∧ Sits es bs n ∧ m = n + es.length

def GBind {α β : Type} (G : α → List Nat → Prop) (H : α → β → List Nat → Prop) : β → List Nat → Prop := fun y es => ∃ x e1 e2, G x e1 ∧ H x y e2 ∧ es = e1 ++ e2
def GPure {α : Type} (x : α) : α → List Nat → Prop := fun y es => y = x ∧ es = []
def GNone {α : Type} : α → List Nat → Prop := fun _ _ => False
def GIte {α : Type} (c : Prop) (G H : α → List Nat → Prop) : α → List Nat → Prop := fun y es => (c ∧ G y es) ∨ (¬ c ∧ H y es)

theorem Spec.bind {α β : Type} {bs : List Nat} {P : Nat → Option (α × Nat)} {G : α → List Nat → Prop} {Q : α × Nat → Option (β × Nat)} {H : α → β → List Nat → Prop} (h1 : Spec bs P G) (h2 : ∀ x, Spec bs (fun n => Q (x, n)) (H x)) :
    Spec bs (fun n => (P n).bind Q) (GBind G H) := by
  intro n y m
  constructor
  · intro h
    obtain ⟨⟨x, q⟩, hp, hq⟩ := Option.bind_eq_some_iff.1 h
    obtain ⟨e1, g1, s1, rfl⟩ := (h1 n x q).1 hp
    obtain ⟨e2, g2, s2, rfl⟩ := (h2 x _ y m).1 hq
    exact ⟨e1 ++ e2, ⟨x, e1, e2, g1, g2, rfl⟩, Sits.append.2 ⟨s1, s2⟩, by rw [List.length_append]; omega⟩
  · rintro ⟨es, ⟨x, e1, e2, g1, g2, rfl⟩, s, rfl⟩
    obtain ⟨s1, s2⟩ := Sits.append.1 s
    refine Option.bind_eq_some_iff.2 ⟨(x, n + e1.length), (h1 _ _ _).2 ⟨e1, g1, s1, rfl⟩, (h2 x _ y _).2 ⟨e2, g2, s2, by rw [List.length_append]; omega⟩⟩
theorem Spec.then {α β : Type} {bs : List Nat} {P : Nat → Option (α × Nat)} {G : α → List Nat → Prop} {Q : α → Nat → Option (β × Nat)} {H : α → β → List Nat → Prop} (h1 : Spec bs P G) (h2 : ∀ x, Spec bs (Q x) (H x)) :
    Spec bs (fun n => (P n).bind fun p => Q p.1 p.2) (GBind G H) := h1.bind h2
theorem Spec.pure {α : Type} {bs : List Nat} (x : α) : Spec bs (fun n => some (x, n)) (GPure x) := by
  intro n y m
  constructor
  · intro h
    simp only [Option.some.injEq, Prod.mk.injEq] at h
    obtain ⟨rfl, rfl⟩ := h
    exact ⟨[], ⟨rfl, rfl⟩, Sits.nil _ _, rfl⟩
  · rintro ⟨es, ⟨rfl, rfl⟩, _, rfl⟩
    rfl
theorem Spec.none {α : Type} {bs : List Nat} : Spec (α := α) bs (fun _ => none) GNone := by
  intro n y m
  constructor
  · intro h; cases h
  · rintro ⟨_, h, _⟩; exact h.elim
theorem Spec.ite {α : Type} {bs : List Nat} {c : Prop} [Decidable c] {P Q : Nat → Option (α × Nat)} {G H : α → List Nat → Prop} (h1 : c → Spec bs P G) (h2 : ¬ c → Spec bs Q H) : Spec bs (fun n => if c then P n else Q n) (GIte c G H) := by
  intro n y m
  by_cases hc : c
  · simp only [if_pos hc, GIte, hc, true_and, not_true_eq_false, false_and, or_false]
    exact h1 hc n y m
  · simp only [if_neg hc, GIte, hc, not_false_eq_true, true_and, false_and, false_or]
    exact h2 hc n y m
theorem Spec.imp {α : Type} {bs : List Nat} {P P' : Nat → Option (α × Nat)} {G : α → List Nat → Prop} (h : Spec bs P G) (e : ∀ n, P' n = P n) : Spec bs P' G := fun n x m => by rw [e n]; exact h n x m

def InR (x : Int) : Prop := -2147483648 ≤ x ∧ x < 2147483648
def numG (x : Int) (es : List Nat) : Prop := InR x ∧ es = encNum x
def rawG (x : Nat) (es : List Nat) : Prop := x < 256 ∧ es = [x]
def timesG {α : Type} (G : α → List Nat → Prop) : Nat → List α → List Nat → Prop
  | 0 => GPure []
  | k + 1 => GBind (timesG G k) fun xs => GBind G fun x => GPure (xs ++ [x])
def withinG (lo hi : Int) (x : Int) (es : List Nat) : Prop := numG x es ∧ lo ≤ x ∧ x ≤ hi
def flagG (f : Bool) (es : List Nat) : Prop := es = [if f then 2 else 0]
def idG : Int × Int → List Nat → Prop := GBind numG fun a => GBind numG fun g => GPure (a, g)
def pixelG : List Nat → List Nat → Prop := timesG rawG 4
def boxG : List Int → List Nat → Prop := timesG numG 4
def listG : List Int → List Nat → Prop := GBind (withinG 0 100) fun n => timesG numG n.toNat
def confG : Cf → List Nat → Prop := GBind (withinG 0 15) fun n => GBind numG fun r => GPure ⟨decide (n % 2 = 1), decide (n / 2 % 2 = 1), decide (n / 4 % 2 = 1), decide (n / 8 % 2 = 1), r⟩
def nodeG : GNode → List Nat → Prop := GBind numG fun o => GBind listG fun i => GBind listG fun p => GPure ⟨o, i, p⟩
def graphG : Gr → List Nat → Prop := GBind numG fun o => GBind (withinG 0 1000) fun k => GBind (timesG nodeG k.toNat) fun ns => GPure ⟨ns, o⟩
def contentG : Ct → List Nat → Prop := GBind numG fun k =>
  GIte (k = 1) (GBind boxG fun b => GBind pixelG fun p => GPure ⟨1, Rc.of b, Pxl.of p, 0, 0, 0, []⟩)
  (GIte (k = 2) (GBind numG fun x => GBind numG fun y => GBind numG fun w => GBind numG fun h => GBind numG fun t => GBind (timesG pixelG (countOf w h)) fun ps => GPure ⟨2, ⟨x, y, 0, 0⟩, Pxl.zero, w, h, t, ps.map Pxl.of⟩)
  (GPure ⟨k, Rc.zero, Pxl.zero, 0, 0, 0, []⟩))
def lookG (k : Int) : Lk → List Nat → Prop :=
  GIte (k = 5) (GBind numG fun x => GBind numG fun y => GPure { Lk.zero with dx := x, dy := y })
  (GIte (k = 6) (GBind flagG fun f => GIte (f = true) (GBind boxG fun b => GPure { Lk.zero with hasClip := true, clip := Rc.of b }) (GPure Lk.zero))
  (GIte (k = 7) (GBind numG fun x => GPure { Lk.zero with opacity := x })
  (GIte (k = 8) (GBind numG fun x => GPure { Lk.zero with mode := x })
  (GIte (k = 9) (GBind contentG fun c => GPure { Lk.zero with content := c })
  (GIte (k = 10) (GBind flagG fun f => GIte (f = true) (GBind graphG fun b => GPure { Lk.zero with hasFilt := true, filt := b }) (GPure Lk.zero))
  (GIte (k = 11) (GBind flagG fun f => GIte (f = true) (GBind graphG fun b => GPure { Lk.zero with hasBack := true, back := b }) (GPure Lk.zero))
  (GPure Lk.zero)))))))
def oprG (k : Int) : Opr → List Nat → Prop :=
  GBind (GIte (k = 1) (GPure (0, 0)) idG) fun i => GBind (GIte (k = 1 ∨ k = 3) idG (GPure (0, 0))) fun t => GBind (GIte (k = 1 ∨ k = 3 ∨ k = 4) numG (GPure 0)) fun a => GBind (lookG k) fun l => GPure ⟨k, i, t, a, l⟩
def actG : Ac → List Nat → Prop := GBind rawG fun b =>
  GIte (1 ≤ b ∧ b ≤ 14)
    (GIte (b = 12) (GBind numG fun x => GBind numG fun y => GPure ⟨12, Opr.zero, x, y, Cf.zero⟩)
    (GIte (b = 13) (GBind confG fun c => GPure ⟨13, Opr.zero, 0, 0, c⟩)
    (GIte (b = 14) (GPure ⟨14, Opr.zero, 0, 0, Cf.zero⟩)
    (GBind (oprG b) fun o => GPure ⟨b, o, 0, 0, Cf.zero⟩))))
  GNone

/-! Numbers. -/

theorem encM_small (m : Nat) : ∀ b ∈ encM m, b < 256 := by
  induction m using Nat.strongRecOn with
  | ind m ih =>
    by_cases h : m < 128
    · rw [encM_lt h]; simp; omega
    · rw [encM_ge h]
      intro b hb
      rcases List.mem_cons.1 hb with rfl | hb
      · omega
      · exact ih _ (by omega) b hb

theorem numVal_zig {x : Int} (h : InR x) : numVal (zig x) = x := by
  unfold InR at h
  unfold numVal zig
  split <;> split <;> omega
theorem zig_numVal (m : Nat) : zig (numVal m) = m := by
  unfold numVal zig
  split <;> split <;> omega
theorem numVal_in {m : Nat} (h : m < 4294967296) : InR (numVal m) := by
  unfold InR numVal
  split <;> omega
theorem zig_lt' {x : Int} (h : InR x) : zig x < 4294967296 := by
  unfold InR at h
  unfold zig
  split <;> omega

/-- What is read from a place on, where m stands already. -/
theorem numGo_iff (bs : List Nat) (hb : ∀ b ∈ bs, b < 256) (f : Nat) : ∀ (k n m : Nat), f + k = 5 → m < 2 ^ (7 * k) → ∀ (x : Int) (q : Nat), numGo bs f n m (7 * k) = some (x, q) ↔ ∃ M, m + M * 2 ^ (7 * k) < 4294967296 ∧ x = numVal (m + M * 2 ^ (7 * k)) ∧ (k = 0 ∨ M ≠ 0) ∧ Sits (encM M) bs n ∧ q = n + (encM M).length := by
  induction f with
  | zero =>
    intro k n m hk hm x q
    obtain rfl : k = 5 := by omega
    rw [numGo]
    constructor
    · intro h; cases h
    · rintro ⟨M, h1, _, h2, _⟩
      have : (2 : Nat) ^ (7 * 5) = 34359738368 := rfl
      rw [this] at h1
      rcases h2 with h2 | h2
      · omega
      · have : 1 * 34359738368 ≤ M * 34359738368 := Nat.mul_le_mul_right _ (by omega)
        omega
  | succ f ih =>
    intro k n m hk hm x q
    rw [numGo]
    have hp : (2 : Nat) ^ (7 * (k + 1)) = 128 * 2 ^ (7 * k) := by rw [Nat.mul_add, Nat.pow_add, Nat.mul_comm]
    have hpos : 0 < (2 : Nat) ^ (7 * k) := Nat.pow_pos (by decide)
    by_cases hn : n < bs.length
    · rw [dif_pos hn]
      have hbn := hb _ (List.getElem_mem hn)
      have hgn : bs[n]? = some bs[n] := List.getElem?_eq_getElem hn
      generalize bs[n] = c at *
      by_cases hc : 128 ≤ c
      · rw [if_pos hc]
        by_cases hs : 7 * k + 7 < 35
        · rw [if_pos hs]
          have hm2 : m + c % 128 * 2 ^ (7 * k) < 2 ^ (7 * (k + 1)) := by
            rw [hp]
            have : c % 128 * 2 ^ (7 * k) ≤ 127 * 2 ^ (7 * k) := Nat.mul_le_mul_right _ (by omega)
            generalize (2 : Nat) ^ (7 * k) = p at *
            omega
          have := ih (k + 1) (n + 1) (m + c % 128 * 2 ^ (7 * k)) (by omega) hm2 x q
          rw [Nat.mul_add, Nat.mul_one] at this
          rw [this]
          have key : ∀ M, m + c % 128 * 2 ^ (7 * k) + M * 2 ^ (7 * k + 7) = m + (c % 128 + 128 * M) * 2 ^ (7 * k) := by
            intro M
            rw [Nat.pow_add, Nat.add_mul, Nat.add_assoc]
            congr 2
            rw [Nat.mul_comm 128 M, Nat.mul_assoc, Nat.mul_comm (2 ^ (7 * k))]
          constructor
          · rintro ⟨M, h1, h2, h3, h4, h5⟩
            refine ⟨c % 128 + 128 * M, ?_, ?_, ?_, ?_, ?_⟩
            · rw [← key]; exact h1
            · rw [← key]; exact h2
            · right; rcases h3 with h3 | h3 <;> omega
            · rw [encM_ge (by rcases h3 with h3 | h3 <;> omega), Sits.cons]
              refine ⟨by rw [hgn]; congr 1; omega, ?_⟩
              have : (c % 128 + 128 * M) / 128 = M := by omega
              rw [this]; exact h4
            · rw [encM_ge (by rcases h3 with h3 | h3 <;> omega)]
              have : (c % 128 + 128 * M) / 128 = M := by omega
              rw [this, List.length_cons]; omega
          · rintro ⟨M, h1, h2, h3, h4, h5⟩
            by_cases hM : M < 128
            · rw [encM_lt hM, Sits.cons, hgn] at h4
              simp only [Option.some.injEq] at h4
              omega
            · rw [encM_ge hM, Sits.cons, hgn] at h4
              rw [encM_ge hM] at h5
              simp only [Option.some.injEq] at h4
              have hcM : c % 128 + 128 * (M / 128) = M := by omega
              refine ⟨M / 128, ?_, ?_, .inr (by omega), h4.2, by rw [h5, List.length_cons]; omega⟩
              · rw [key, hcM]; exact h1
              · rw [key, hcM]; exact h2
        · rw [if_neg hs]
          constructor
          · intro h; cases h
          · rintro ⟨M, h1, h2, h3, h4, h5⟩
            obtain rfl : k = 4 := by omega
            by_cases hM : M < 128
            · rw [encM_lt hM, Sits.cons, hgn] at h4
              simp only [Option.some.injEq] at h4
              omega
            · have : (2 : Nat) ^ (7 * 4) = 268435456 := rfl
              rw [this] at h1
              have : 128 * 268435456 ≤ M * 268435456 := Nat.mul_le_mul_right _ (by omega)
              omega
      · rw [if_neg hc]
        have hcm : c % 128 = c := by omega
        rw [hcm]
        constructor
        · intro h
          split at h
          · rename_i hh
            simp only [Option.some.injEq, Prod.mk.injEq] at h
            obtain ⟨rfl, rfl⟩ := h
            refine ⟨c, hh.1, rfl, ?_, ?_, ?_⟩
            · rcases hh.2 with h | h
              · exact .inr h
              · left; omega
            · rw [encM_lt (by omega), Sits.cons]; exact ⟨hgn, Sits.nil _ _⟩
            · rw [encM_lt (by omega)]; rfl
          · cases h
        · rintro ⟨M, h1, h2, h3, h4, h5⟩
          by_cases hM : M < 128
          · rw [encM_lt hM, Sits.cons, hgn] at h4
            simp only [Option.some.injEq] at h4
            obtain ⟨rfl, _⟩ := h4
            rw [encM_lt hM] at h5
            rw [if_pos ⟨h1, h3.elim (fun h3 => .inr (by omega)) .inl⟩, h2, h5]
            rfl
          · rw [encM_ge hM, Sits.cons, hgn] at h4
            simp only [Option.some.injEq] at h4
            omega
    · rw [dif_neg hn]
      constructor
      · intro h; cases h
      · rintro ⟨M, h1, h2, h3, h4, h5⟩
        have hl := Sits.le h4
        have : 0 < (encM M).length := by
          by_cases hM : M < 128
          · rw [encM_lt hM]; simp
          · rw [encM_ge hM]; simp
        omega

theorem num_spec {bs : List Nat} (hb : ∀ b ∈ bs, b < 256) : Spec bs (numAt bs) numG := by
  intro n x m
  have h := numGo_iff bs hb 5 0 n 0 rfl (by simp) x m
  unfold numAt
  rw [show (7 * 0 : Nat) = 0 from rfl] at h
  rw [h]
  constructor
  · rintro ⟨M, h1, h2, _, h4, h5⟩
    simp only [Nat.zero_add, Nat.pow_zero, Nat.mul_one] at h1 h2
    subst h2
    exact ⟨encM M, ⟨numVal_in h1, by rw [encNum, zig_numVal]⟩, h4, h5⟩
  · rintro ⟨es, ⟨hx, rfl⟩, h4, h5⟩
    refine ⟨zig x, ?_, ?_, .inl rfl, h4, h5⟩
    · simp only [Nat.zero_add, Nat.pow_zero, Nat.mul_one]; exact zig_lt' hx
    · simp only [Nat.zero_add, Nat.pow_zero, Nat.mul_one]; exact (numVal_zig hx).symm

theorem raw_spec {bs : List Nat} (hb : ∀ b ∈ bs, b < 256) : Spec bs (rawAt bs) rawG := by
  intro n x m
  unfold rawAt
  constructor
  · intro h
    split at h
    · rename_i hn
      simp only [Option.some.injEq, Prod.mk.injEq] at h
      obtain ⟨rfl, rfl⟩ := h
      exact ⟨_, ⟨hb _ (List.getElem_mem hn), rfl⟩, Sits.cons.2 ⟨List.getElem?_eq_getElem hn, Sits.nil _ _⟩, rfl⟩
    · cases h
  · rintro ⟨es, ⟨hx, rfl⟩, hs, rfl⟩
    obtain ⟨h1, _⟩ := Sits.cons.1 hs
    obtain ⟨hn, e⟩ := List.getElem?_eq_some_iff.1 h1
    rw [dif_pos hn, e]
    rfl

theorem times_spec {α : Type} {bs : List Nat} {P : Nat → Option (α × Nat)} {G : α → List Nat → Prop} (h : Spec bs P G) (k : Nat) : Spec bs (fun n => timesAt P n k) (timesG G k) := by
  induction k with
  | zero => exact Spec.pure _
  | succ k ih =>
    have hs : Spec bs (fun n => (timesAt P n k).bind fun p => (P p.2).bind fun q => some (p.1 ++ [q.1], q.2)) (GBind (timesG G k) fun xs => GBind G fun x => GPure (xs ++ [x])) := by
      have := ih.then fun xs => h.then fun x => Spec.pure (xs ++ [x])
      exact this
    refine hs.imp fun n => ?_
    rw [timesAt]
    rcases timesAt P n k with _ | ⟨xs, m⟩
    · rfl
    · show (match P m with | some (x, q) => some (xs ++ [x], q) | none => none) = (P m).bind _
      rcases P m with _ | ⟨x, q⟩ <;> rfl

theorem within_spec {bs : List Nat} (hb : ∀ b ∈ bs, b < 256) (lo hi : Int) : Spec bs (fun n => withinAt bs n lo hi) (withinG lo hi) := by
  intro n x m
  change withinAt bs n lo hi = some (x, m) ↔ _
  unfold withinAt
  constructor
  · intro h
    split at h
    · rename_i y q hy
      split at h
      · rename_i hc
        simp only [Option.some.injEq, Prod.mk.injEq] at h
        obtain ⟨rfl, rfl⟩ := h
        obtain ⟨es, g, s, e⟩ := (num_spec hb _ _ _).1 hy
        exact ⟨es, ⟨g, hc⟩, s, e⟩
      · cases h
    · cases h
  · rintro ⟨es, ⟨g, hc⟩, s, e⟩
    have := (num_spec hb n x m).2 ⟨es, g, s, e⟩
    rw [this]
    simp only
    rw [if_pos hc]

theorem flag_spec {bs : List Nat} (hb : ∀ b ∈ bs, b < 256) : Spec bs (flagAt bs) flagG := by
  intro n x m
  unfold flagAt
  constructor
  · intro h
    split at h
    · rename_i y q hy
      simp only [Option.some.injEq, Prod.mk.injEq] at h
      obtain ⟨rfl, rfl⟩ := h
      obtain ⟨es, ⟨⟨_, rfl⟩, h0, h1⟩, s, e⟩ := (within_spec hb 0 1 _ _ _).1 hy
      have : y = 0 ∨ y = 1 := by omega
      refine ⟨_, rfl, ?_⟩
      rcases this with rfl | rfl
      · have he : encNum 0 = [0] := encM_lt (by decide)
        rw [he] at s e
        exact ⟨s, e⟩
      · have he : encNum 1 = [2] := encM_lt (by decide)
        rw [he] at s e
        exact ⟨s, e⟩
    · cases h
  · rintro ⟨es, rfl, s, e⟩
    cases x
    · have : withinAt bs n 0 1 = some (0, m) := (within_spec hb 0 1 n 0 m).2 ⟨[0], ⟨⟨⟨by decide, by decide⟩, (encM_lt (by decide)).symm⟩, by decide, by decide⟩, s, e⟩
      rw [this]; rfl
    · have : withinAt bs n 0 1 = some (1, m) := (within_spec hb 0 1 n 1 m).2 ⟨[2], ⟨⟨⟨by decide, by decide⟩, (encM_lt (by decide)).symm⟩, by decide, by decide⟩, s, e⟩
      rw [this]; rfl

theorem id_spec {bs : List Nat} (hb : ∀ b ∈ bs, b < 256) : Spec bs (idAt bs) idG := by
  have hs := (num_spec hb).then fun a => (num_spec hb).then fun g => Spec.pure (a, g)
  refine Spec.imp (P := fun n => (numAt bs n).bind fun p => (numAt bs p.2).bind fun q => some ((p.1, q.1), q.2)) hs fun n => ?_
  unfold idAt
  rcases numAt bs n with _ | ⟨a, m⟩
  · rfl
  · show (match numAt bs m with | some (g, q) => some ((a, g), q) | none => none) = (numAt bs m).bind _
    rcases numAt bs m with _ | ⟨g, q⟩ <;> rfl

theorem pixel_spec {bs : List Nat} (hb : ∀ b ∈ bs, b < 256) : Spec bs (pixelAt bs) pixelG := times_spec (raw_spec hb) 4
theorem box_spec {bs : List Nat} (hb : ∀ b ∈ bs, b < 256) : Spec bs (boxAt bs) boxG := times_spec (num_spec hb) 4
theorem list_spec {bs : List Nat} (hb : ∀ b ∈ bs, b < 256) : Spec bs (listAt bs) listG := by
  have hs := (within_spec hb 0 100).then fun n => times_spec (num_spec hb) n.toNat
  exact hs
theorem conf_spec {bs : List Nat} (hb : ∀ b ∈ bs, b < 256) : Spec bs (confAt bs) confG := by
  have hs := (within_spec hb 0 15).then fun n => (num_spec hb).then fun r => Spec.pure (⟨decide (n % 2 = 1), decide (n / 2 % 2 = 1), decide (n / 4 % 2 = 1), decide (n / 8 % 2 = 1), r⟩ : Cf)
  exact hs
theorem node_spec {bs : List Nat} (hb : ∀ b ∈ bs, b < 256) : Spec bs (nodeAt bs) nodeG := by
  have hs := (num_spec hb).then fun o => (list_spec hb).then fun i => (list_spec hb).then fun p => Spec.pure (⟨o, i, p⟩ : GNode)
  exact hs
theorem graph_spec {bs : List Nat} (hb : ∀ b ∈ bs, b < 256) : Spec bs (graphAt bs) graphG := by
  have hs := (num_spec hb).then fun o => (within_spec hb 0 1000).then fun k => (times_spec (node_spec hb) k.toNat).then fun ns => Spec.pure (⟨ns, o⟩ : Gr)
  exact hs

theorem pixels_len {k : Nat} {ps : List (List Nat)} {es : List Nat} (h : timesG pixelG k ps es) : es.length = 4 * k := by
  have one : ∀ p e, pixelG p e → e.length = 4 := by
    intro p e h
    unfold pixelG at h
    simp only [timesG, GBind, GPure, rawG] at h
    obtain ⟨_, _, _, ⟨_, _, _, ⟨_, _, _, ⟨_, _, _, ⟨_, rfl⟩, ⟨_, _, _, ⟨_, rfl⟩, ⟨_, rfl⟩, rfl⟩, rfl⟩, ⟨_, _, _, ⟨_, rfl⟩, ⟨_, rfl⟩, rfl⟩, rfl⟩, ⟨_, _, _, ⟨_, rfl⟩, ⟨_, rfl⟩, rfl⟩, rfl⟩, ⟨_, _, _, ⟨_, rfl⟩, ⟨_, rfl⟩, rfl⟩, rfl⟩ := h
    rfl
  induction k generalizing ps es with
  | zero => obtain ⟨_, rfl⟩ := h; rfl
  | succ k ih =>
    obtain ⟨xs, e1, _, h1, ⟨x, e2, _, h2, ⟨_, rfl⟩, rfl⟩, rfl⟩ := h
    simp only [List.length_append, List.length_nil, ih h1, one _ _ h2]
    omega

theorem pix_spec {bs : List Nat} (hb : ∀ b ∈ bs, b < 256) (x y w h t : Int) : Spec bs (fun n => if 4 * countOf w h ≤ bs.length - n then (timesAt (pixelAt bs) n (countOf w h)).bind fun ps => some ((⟨2, ⟨x, y, 0, 0⟩, Pxl.zero, w, h, t, ps.1.map Pxl.of⟩ : Ct), ps.2) else none) (GBind (timesG pixelG (countOf w h)) fun ps => GPure ⟨2, ⟨x, y, 0, 0⟩, Pxl.zero, w, h, t, ps.map Pxl.of⟩) := by
  have hs := (times_spec (pixel_spec hb) (countOf w h)).then fun ps => Spec.pure (⟨2, ⟨x, y, 0, 0⟩, Pxl.zero, w, h, t, ps.map Pxl.of⟩ : Ct)
  refine hs.imp fun n => ?_
  by_cases hc : 4 * countOf w h ≤ bs.length - n
  · simp only [if_pos hc]
  · simp only [if_neg hc]
    rcases ht : timesAt (pixelAt bs) n (countOf w h) with _ | ⟨ps, m⟩
    · rfl
    · obtain ⟨es, g, s, _⟩ := (times_spec (pixel_spec hb) (countOf w h) n ps m).1 ht
      have := pixels_len g
      have := s.le
      omega

theorem content_spec {bs : List Nat} (hb : ∀ b ∈ bs, b < 256) : Spec bs (contentAt bs) contentG := by
  have hs := (num_spec hb).then fun k => Spec.ite (c := k = 1) (fun _ => (box_spec hb).then fun b => (pixel_spec hb).then fun p => Spec.pure (⟨1, Rc.of b, Pxl.of p, 0, 0, 0, []⟩ : Ct)) fun _ => Spec.ite (c := k = 2) (fun _ => (num_spec hb).then fun x => (num_spec hb).then fun y => (num_spec hb).then fun w => (num_spec hb).then fun h => (num_spec hb).then fun t => pix_spec hb x y w h t) fun _ => Spec.pure (⟨k, Rc.zero, Pxl.zero, 0, 0, 0, []⟩ : Ct)
  exact hs

theorem look_spec {bs : List Nat} (hb : ∀ b ∈ bs, b < 256) (k : Int) : Spec bs (fun n => lookAt bs n k) (lookG k) := by
  have hs := Spec.ite (c := k = 5) (fun _ => (num_spec hb).then fun x => (num_spec hb).then fun y => Spec.pure { Lk.zero with dx := x, dy := y }) fun _ =>
    Spec.ite (c := k = 6) (fun _ => (flag_spec hb).then fun f => Spec.ite (c := f = true) (fun _ => (box_spec hb).then fun b => Spec.pure { Lk.zero with hasClip := true, clip := Rc.of b }) fun _ => Spec.pure Lk.zero) fun _ =>
    Spec.ite (c := k = 7) (fun _ => (num_spec hb).then fun x => Spec.pure { Lk.zero with opacity := x }) fun _ =>
    Spec.ite (c := k = 8) (fun _ => (num_spec hb).then fun x => Spec.pure { Lk.zero with mode := x }) fun _ =>
    Spec.ite (c := k = 9) (fun _ => (content_spec hb).then fun x => Spec.pure { Lk.zero with content := x }) fun _ =>
    Spec.ite (c := k = 10) (fun _ => (flag_spec hb).then fun f => Spec.ite (c := f = true) (fun _ => (graph_spec hb).then fun b => Spec.pure { Lk.zero with hasFilt := true, filt := b }) fun _ => Spec.pure Lk.zero) fun _ =>
    Spec.ite (c := k = 11) (fun _ => (flag_spec hb).then fun f => Spec.ite (c := f = true) (fun _ => (graph_spec hb).then fun b => Spec.pure { Lk.zero with hasBack := true, back := b }) fun _ => Spec.pure Lk.zero) fun _ => Spec.pure Lk.zero
  exact hs

theorem opr_spec {bs : List Nat} (hb : ∀ b ∈ bs, b < 256) (k : Int) : Spec bs (fun n => oprAt bs n k) (oprG k) := by
  have hs := (Spec.ite (c := k = 1) (fun _ => Spec.pure ((0 : Int), (0 : Int))) fun _ => id_spec hb).then fun i =>
    (Spec.ite (c := k = 1 ∨ k = 3) (fun _ => id_spec hb) fun _ => Spec.pure ((0 : Int), (0 : Int))).then fun t =>
    (Spec.ite (c := k = 1 ∨ k = 3 ∨ k = 4) (fun _ => num_spec hb) fun _ => Spec.pure (0 : Int)).then fun a =>
    (look_spec hb k).then fun l => Spec.pure (⟨k, i, t, a, l⟩ : Opr)
  exact hs

theorem act_spec {bs : List Nat} (hb : ∀ b ∈ bs, b < 256) : Spec bs (actAt bs) actG := by
  have hs := (raw_spec hb).then fun b => Spec.ite (c := 1 ≤ b ∧ b ≤ 14) (fun _ =>
    Spec.ite (c := b = 12) (fun _ => (num_spec hb).then fun x => (num_spec hb).then fun y => Spec.pure (⟨12, Opr.zero, x, y, Cf.zero⟩ : Ac)) fun _ =>
    Spec.ite (c := b = 13) (fun _ => (conf_spec hb).then fun c => Spec.pure (⟨13, Opr.zero, 0, 0, c⟩ : Ac)) fun _ =>
    Spec.ite (c := b = 14) (fun _ => Spec.pure (⟨14, Opr.zero, 0, 0, Cf.zero⟩ : Ac)) fun _ =>
    (opr_spec hb b).then fun o => Spec.pure (⟨b, o, 0, 0, Cf.zero⟩ : Ac)) fun _ => Spec.none
  exact hs

end Go.Gou
