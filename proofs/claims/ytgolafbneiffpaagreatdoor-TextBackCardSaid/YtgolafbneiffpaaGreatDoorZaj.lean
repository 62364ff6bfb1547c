/- Texts of the scenes' proofs, laid together: TxD, TxE, TxL, TwB, TxF, TxG, TxH, TxI, Defer, Tk, TxJ, TyA. -/
import Derived.Test.YtgolafbneiffpaaGreatDoorZai
import Derived.Lib.Split
import Derived.Lib.FieldsP
import Derived.Laws.RangeString
import Derived.Shelf.Strings.Builder1
import Derived.Shelf.Strings.Builder2
import Derived.Shelf.Strings.OnBuilder
import Derived.Shelf.Strings.BuilderF
import Derived.Shelf.Strings.BuilderK
import Derived.Shelf.Utf8.RuneCount
import Derived.Shelf.Strings.Builder2Cap
import Derived.Shelf.Strconv.Atoi
import Derived.Shelf.Strconv.Itoa0
import Derived.Shelf.Strconv.Itoa1
import Derived.Shelf.LaysM
import Derived.Shelf.Strconv.Itoa2
import Derived.Shelf.Strconv.Itoa3
import Derived.Shelf.Strconv.AtoiErrFast
import Derived.Shelf.Strconv.ParseIntEmpty
import Derived.Shelf.Strconv.AtoiFail
import Derived.Shelf.Strconv.Clone
import Derived.Shelf.Strconv.SyntaxError
import Derived.Shelf.LaysC
import Derived.Shelf.Strconv.ToError
import Derived.Shelf.Strconv.AtoiErr
import Derived.Shelf.Strconv.ErrVar
import Derived.Shelf.Strconv.Lower
import Derived.Shelf.Strconv.ParseUint10
import Derived.Shelf.Strconv.ParseUint10Empty
import Derived.Shelf.Strconv.ParseUint10Any
import Derived.Shelf.Strconv.ParseInt10
import Derived.Shelf.Strconv.AtoiLong
import Derived.Shelf.Strconv.AtoiInnerAll
import Derived.Shelf.Strconv.RangeError
import Derived.Shelf.Strconv.ToErrorRange
import Derived.Shelf.Strconv.AtoiAll
import Derived.Shelf.Strconv.ErrVarAll
import Derived.Shelf.Strconv.ParseUintEmpty
import Derived.Shelf.Strconv.ParseUint10b64
import Derived.Shelf.Strconv.ParseUint10b32
import Derived.Shelf.Strconv.ParseUint10b16
import Derived.Shelf.Strconv.ParseUint10b8
import Derived.Shelf.Strconv.ParseUint10At
import Derived.Shelf.Strconv.ParseInt10At64
import Derived.Shelf.Strconv.ParseInt10At32
import Derived.Shelf.Strconv.ParseInt10At16
import Derived.Shelf.Strconv.ParseInt10At8
import Derived.Shelf.Strconv.ParseInt10All
import Derived.Shelf.Strings.Search1
import Derived.Shelf.Strings.Search2
import Derived.Shelf.Strings.Search3
import Derived.Shelf.Strings.Cut
import Derived.Shelf.Strings.Count
import Derived.Shelf.Strings.Shaped
import Derived.Shelf.Strings.Split
import Derived.Shelf.Strings.SplitShaped
import Derived.Shelf.Unicode.Decode
import Derived.Shelf.Strings.RuneCount
import Derived.Shelf.Strings.Explode
import Derived.Shelf.Unicode.DecodeSlow
import Derived.Shelf.Unicode.DecodeAny
import Derived.Shelf.Strings.FieldsFuncAny
import Derived.Shelf.Strings.BuilderCap
import Derived.Shelf.Slices.Turned
import Derived.Shelf.Slices.Equal
import Derived.Shelf.Slices.Empties2
import Derived.Ground.SlgnProg
import Derived.Shelf.SlicesE.Index
import Derived.Shelf.SlicesE.Equal
import Derived.Test.YtgolafbneiffpaaGreatDoorProg
import Derived.Test.YtgolafbneiffpaaGreatDoorZae
import Derived.Maps.AppendAt
import Derived.Deep.RegionHeld
import Derived.Great.BuildSlice
import Derived.Laws.Rows
import Derived.Lib.LaidTab
import Derived.Laws.IdiomStrings
set_option maxHeartbeats 64000000
set_option linter.unusedSimpArgs false
set_option linter.unusedVariables false
set_option linter.unusedSectionVars false
set_option linter.constructorNameAsVariable false
namespace Go.Txt
open Go Go.Gou
theorem ule {l : List Int} {w : Wd} (h : w ∈ nums l) : Word w := by
 obtain ⟨n, _, rfl⟩ := List.mem_map.1 h
 exact up7 n
theorem cw (w : Wd) (h : (w ≠ [] ∧ ∀ c ∈ w, solid c = true) := by decide) : Word w := ⟨h.1, h.2⟩
theorem up8 {has : Bool} {g : Gr} (ho : has = true → una g) {w : Wd} (h : w ∈ ulg has g) : Word w := by
 cases has
 ·rw [List.mem_singleton.1 (show w ∈ [wOff] from h)]
  exact cw wOff
 ·rcases List.mem_cons.1 (show w ∈ Lib.itoa g.out :: g.nodes.flatMap umz from h) with rfl | h
  ·exact up7 _
  ·obtain ⟨n, hn, h⟩ := List.mem_flatMap.1 h
   have := ho rfl n hn
   simp only [umz, List.mem_cons, List.mem_append, List.not_mem_nil, or_false] at h
   rcases h with rfl | h | rfl | h | rfl
   ·exact uv2 this.1 this.2
   ·exact ule h
   ·exact cw uoh
   ·exact ule h
   ·exact cw uqk
theorem tree_word {o : Opr} {w : Wd} (h : w ∈ uml o) : Word w := by
 unfold uml at h
 repeat' split at h
 all_goals first
     | (rcases List.mem_cons.1 h with rfl | h
        ·exact cw _
        ·exact ule h)
     | cases h
theorem look_word {o : Opr} (hs : PxSmall o.look.content) (h10 : o.kind = 10 → o.look.hasFilt = true → una o.look.filt) (h11 : o.kind = 11 → o.look.hasBack = true → una o.look.back) {w : Wd} (h : w ∈ ulb o) : Word w := by
 unfold ulb at h
 split at h
 ·rcases List.mem_cons.1 h with rfl | h
  ·exact cw _
  ·exact ule h
 split at h
 ·rcases List.mem_cons.1 h with rfl | h
  ·exact cw _
  ·rcases List.mem_append.1 h with h | h
   ·exact ule h
   ·split at h
    ·exact ule h
    ·rw [List.mem_singleton.1 h]; exact cw wOff
 split at h
 ·rcases List.mem_cons.1 h with rfl | h
  ·exact cw _
  ·exact ule h
 split at h
 ·rcases List.mem_cons.1 h with rfl | h
  ·exact cw _
  ·exact ule h
 split at h
 ·unfold unx at h
  split at h
  ·rcases List.mem_cons.1 h with rfl | h
   ·exact cw _
   ·exact ule h
  split at h
  ·rcases List.mem_cons.1 h with rfl | h
   ·exact cw _
   ·rcases List.mem_append.1 h with h | h
    ·exact ule h
    ·rw [List.mem_singleton.1 h]; exact uu1 hs.px
  ·rcases List.mem_cons.1 h with rfl | h
   ·exact cw _
   ·rcases List.mem_append.1 h with h | h
    ·exact ule h
    ·obtain ⟨p, hp, rfl⟩ := List.mem_map.1 h
     exact uu1 (hs.pix p hp)
 split at h
 ·rename_i hk
  rcases List.mem_cons.1 h with rfl | h
  ·exact cw _
  ·rcases List.mem_append.1 h with h | h
   ·exact ule h
   ·exact up8 (h10 hk) h
 split at h
 ·rename_i hk
  rcases List.mem_cons.1 h with rfl | h
  ·exact cw _
  ·rcases List.mem_append.1 h with h | h
   ·exact ule h
   ·exact up8 (h11 hk) h
 ·cases h
theorem uv7 {c : Cf} {w : Wd} (h : w ∈ um7 c) : Word w := by
 unfold um7 at h
 simp only [List.mem_append] at h
 rcases h with h | h | h | h <;> (split at h) <;> first | (rw [List.mem_singleton.1 h]; exact cw _) | cases h
theorem uqs {a : Ac} (hs : PxSmall a.op.look.content) (ok : upj a) : ∀ w ∈ ukp a, Word w := by
 intro w h
 unfold ukp at h
 split at h
 ·rcases List.mem_cons.1 h with rfl | h
  ·exact cw _
  ·exact ule h
 split at h
 ·rcases List.mem_cons.1 h with rfl | h
  ·exact cw _
  rcases List.mem_cons.1 h with rfl | h
  ·exact up7 _
  ·exact uv7 h
 split at h
 ·rw [List.mem_singleton.1 h]
  exact cw _
 ·rcases List.mem_append.1 h with h | h
  ·exact tree_word h
  ·exact look_word hs ok.2.1 ok.2.2 h
theorem upa {c : UInt8} {k : Nat} (h : digT c = some k) : k < 16 := by
 unfold digT at h
 split at h
 ·cases h; omega
 ·split at h
  ·cases h; omega
  ·cases h
theorem upp {a b : UInt8} {k : Nat} (h : uns a b = some k) : k < 256 := by
 unfold uns at h
 obtain ⟨x, hx, h⟩ := Option.bind_eq_some_iff.1 h
 obtain ⟨y, hy, rfl⟩ := Option.map_eq_some_iff.1 h
 have := upa hx
 have := upa hy
 omega
theorem ust {w : Wd} {p : Pxl} (h : pxT w = some p) : p.Small := by
 unfold pxT at h
 split at h
 ·obtain ⟨a, ha, h⟩ := Option.bind_eq_some_iff.1 h
  obtain ⟨b, hb, h⟩ := Option.bind_eq_some_iff.1 h
  obtain ⟨c, hc, h⟩ := Option.bind_eq_some_iff.1 h
  obtain ⟨d, hd, rfl⟩ := Option.map_eq_some_iff.1 h
  exact ⟨upp ha, upp hb, upp hc, upp hd⟩
 ·cases h
theorem uq4 : ∀ {ws : List Wd} {l : List Pxl}, pixP ws = some l → ∀ p ∈ l, p.Small
 | [], l, h => by cases h; intro p hp; cases hp
 | w :: r, l, h => by
  obtain ⟨p, hp, h⟩ := Option.bind_eq_some_iff.1 h
  obtain ⟨q, hq, rfl⟩ := Option.map_eq_some_iff.1 h
  intro x hx
  rcases List.mem_cons.1 hx with rfl | hx
  ·exact ust hp
  ·exact uq4 hq x hx
theorem uq7 : ∀ {f n : Nat} {ws : List Wd} {l : List ubb}, ung f n ws = some l → ∀ x ∈ l, 1 ≤ x.op ∧ x.op ≤ 12
 | f, n, [], l, h => by
  have : l = [] := by cases f <;> (cases h; rfl)
  subst this
  intro x hx; cases hx
 | 0, n, w :: r, l, h => by cases h
 | f + 1, n, w :: r, l, h => by
  obtain ⟨op, hop, h⟩ := Option.bind_eq_some_iff.1 h
  split at h
  ·obtain ⟨i, hi, h⟩ := Option.bind_eq_some_iff.1 h
   obtain ⟨p, hp, h⟩ := Option.bind_eq_some_iff.1 h
   obtain ⟨l', hl, rfl⟩ := Option.map_eq_some_iff.1 h
   intro x hx
   rcases List.mem_cons.1 hx with rfl | hx
   ·exact uuh hop
   ·exact uq7 hl x hx
  ·cases h
theorem ure {ws : List Wd} {g : Bool × Gr} {r : List Wd} (h : umd ws = some (g, r)) : una g.2 := by
 unfold umd at h
 split at h
 ·cases h; intro x hx; cases hx
 ·obtain ⟨o, ho, h⟩ := Option.bind_eq_some_iff.1 h
  obtain ⟨l, hl, h⟩ := Option.map_eq_some_iff.1 h
  cases h
  exact uq7 hl
structure url (a : Ac) : Prop where
 ok : upj a
 small : PxSmall a.op.look.content
theorem uue {k : Int} {i : Int × Int} {l : Lk} (h : k ≠ 9) (h10 : k = 10 → una l.filt) (h11 : k = 11 → una l.back) (hc : l.content = Ct.zero) : url (lkA k i l) :=
 ⟨⟨fun e => absurd e h, fun e _ => h10 e, fun e _ => h11 e⟩, by show PxSmall l.content; rw [hc]; exact PxSmall.zero⟩
theorem uu6 {k n : Int} {i t : Int × Int} (h9 : k ≠ 9) (h10 : k ≠ 10) (h11 : k ≠ 11) : url (opA ⟨k, i, t, n, Lk.zero⟩) :=
 ⟨⟨fun e => absurd e h9, fun e => absurd e h10, fun e => absurd e h11⟩, PxSmall.zero⟩
def POk (p : P Ac) : Prop := ∀ ws a r, p ws = some (a, r) → url a
theorem POk.ite {p q : P Ac} {c : Prop} [Decidable c] (hp : POk p) (hq : POk q) : POk (if c then p else q) := by
 by_cases h : c
 ·rw [if_pos h]; exact hp
 ·rw [if_neg h]; exact hq
theorem z_ok : ∀ (k x y : Int) (c : Cf), url ⟨k, Opr.zero, x, y, c⟩ := fun k x y c => ⟨⟨fun e => absurd e (show (0 : Int) ≠ 9 by decide), fun e => absurd e (show (0 : Int) ≠ 10 by decide), fun e => absurd e (show (0 : Int) ≠ 11 by decide)⟩, PxSmall.zero⟩
theorem uv3 : POk umu := fun ws a r h => by
 obtain ⟨i, hi, h⟩ := Option.bind_eq_some_iff.1 h
 obtain ⟨n, hn, h⟩ := Option.map_eq_some_iff.1 h
 cases h
 exact uu6 (by decide) (by decide) (by decide)
theorem uvw : POk um9 := fun ws a r h => by
 obtain ⟨i, hi, h⟩ := Option.map_eq_some_iff.1 h
 cases h
 exact uu6 (by decide) (by decide) (by decide)
theorem usr : POk uln := fun ws a r h => by
 obtain ⟨i, hi, h⟩ := Option.bind_eq_some_iff.1 h
 obtain ⟨t, ht, h⟩ := Option.bind_eq_some_iff.1 h
 obtain ⟨n, hn, h⟩ := Option.map_eq_some_iff.1 h
 cases h
 exact uu6 (by decide) (by decide) (by decide)
theorem ut5 : POk ul6 := fun ws a r h => by
 obtain ⟨i, hi, h⟩ := Option.bind_eq_some_iff.1 h
 obtain ⟨n, hn, h⟩ := Option.map_eq_some_iff.1 h
 cases h
 exact uu6 (by decide) (by decide) (by decide)
theorem shiftP_ok : POk um2 := fun ws a r h => by
 obtain ⟨i, hi, h⟩ := Option.bind_eq_some_iff.1 h
 obtain ⟨x, hx, h⟩ := Option.bind_eq_some_iff.1 h
 obtain ⟨y, hy, h⟩ := Option.map_eq_some_iff.1 h
 cases h
 exact uue (by decide) (fun e => absurd e (by decide)) (fun e => absurd e (by decide)) rfl
theorem cutP_ok : POk cutP := fun ws a r h => by
 obtain ⟨i, hi, h⟩ := Option.bind_eq_some_iff.1 h
 split at h
 ·cases h
  exact uue (by decide) (fun e => absurd e (by decide)) (fun e => absurd e (by decide)) rfl
 ·obtain ⟨y, hy, h⟩ := Option.map_eq_some_iff.1 h
  cases h
  exact uue (by decide) (fun e => absurd e (by decide)) (fun e => absurd e (by decide)) rfl
theorem fadeP_ok : POk uqg := fun ws a r h => by
 obtain ⟨i, hi, h⟩ := Option.bind_eq_some_iff.1 h
 obtain ⟨x, hx, h⟩ := Option.map_eq_some_iff.1 h
 cases h
 exact uue (by decide) (fun e => absurd e (by decide)) (fun e => absurd e (by decide)) rfl
theorem modeP_ok : POk up4 := fun ws a r h => by
 obtain ⟨i, hi, h⟩ := Option.bind_eq_some_iff.1 h
 obtain ⟨x, hx, h⟩ := Option.map_eq_some_iff.1 h
 cases h
 exact uue (by decide) (fun e => absurd e (by decide)) (fun e => absurd e (by decide)) rfl
theorem hideP_ok : POk uqp := fun ws a r h => by
 obtain ⟨i, hi, h⟩ := Option.map_eq_some_iff.1 h
 cases h
 exact ⟨⟨fun _ => ⟨show (0 : Int) ≤ 0 by decide, show (0 : Int) ≤ 2 by decide⟩, fun e => absurd e (show (9 : Int) ≠ 10 by decide), fun e => absurd e (show (9 : Int) ≠ 11 by decide)⟩, PxSmall.zero⟩
theorem fillP_ok : POk upk := fun ws a r h => by
 obtain ⟨i, hi, h⟩ := Option.bind_eq_some_iff.1 h
 obtain ⟨b, hb, h⟩ := Option.bind_eq_some_iff.1 h
 obtain ⟨p, hp, h⟩ := Option.map_eq_some_iff.1 h
 cases h
 have hp' : p.1.Small := by
  cases hh : b.2 with
  | nil => rw [hh] at hp; cases hp
  | cons x r =>
   rw [hh] at hp
   obtain ⟨q, hq, hp⟩ := Option.map_eq_some_iff.1 hp
   cases hp
   exact ust hq
 exact ⟨⟨fun _ => ⟨show (0 : Int) ≤ 1 by decide, show (1 : Int) ≤ 2 by decide⟩, fun e => absurd e (show (9 : Int) ≠ 10 by decide), fun e => absurd e (show (9 : Int) ≠ 11 by decide)⟩, ⟨hp', fun _ h => nomatch h⟩⟩
theorem uua : POk ull := fun ws a r h => by
 obtain ⟨i, hi, h⟩ := Option.bind_eq_some_iff.1 h
 obtain ⟨x, hx, h⟩ := Option.bind_eq_some_iff.1 h
 obtain ⟨y, hy, h⟩ := Option.bind_eq_some_iff.1 h
 obtain ⟨u, hu, h⟩ := Option.bind_eq_some_iff.1 h
 obtain ⟨v, hv, h⟩ := Option.bind_eq_some_iff.1 h
 obtain ⟨t, ht, h⟩ := Option.bind_eq_some_iff.1 h
 obtain ⟨l, hl, h⟩ := Option.map_eq_some_iff.1 h
 cases h
 exact ⟨⟨fun _ => ⟨show (0 : Int) ≤ 2 by decide, show (2 : Int) ≤ 2 by decide⟩, fun e => absurd e (show (9 : Int) ≠ 10 by decide), fun e => absurd e (show (9 : Int) ≠ 11 by decide)⟩, ⟨PxSmall.zero.px, uq4 hl⟩⟩
theorem uwb : POk ulz := fun ws a r h => by
 obtain ⟨i, hi, h⟩ := Option.bind_eq_some_iff.1 h
 obtain ⟨g, hg, h⟩ := Option.map_eq_some_iff.1 h
 cases h
 exact uue (by decide) (fun _ => ure hg) (fun e => absurd e (by decide)) rfl
theorem utp : POk ulj := fun ws a r h => by
 obtain ⟨i, hi, h⟩ := Option.bind_eq_some_iff.1 h
 obtain ⟨g, hg, h⟩ := Option.map_eq_some_iff.1 h
 cases h
 exact uue (by decide) (fun e => absurd e (by decide)) (fun _ => ure hg) rfl
theorem viewP_ok : POk upt := fun ws a r h => by
 obtain ⟨w, hw, h⟩ := Option.bind_eq_some_iff.1 h
 obtain ⟨n, hn, h⟩ := Option.map_eq_some_iff.1 h
 cases h
 exact z_ok _ _ _ _
theorem confP_ok : POk uqq := fun ws a r h => by
 obtain ⟨n, hn, h⟩ := Option.map_eq_some_iff.1 h
 cases h
 exact z_ok _ _ _ _
theorem frameP_ok : POk uqb := fun ws a r h => by
 cases h
 exact z_ok _ _ _ _
theorem read_ok {w : Wd} {ws r : List Wd} {a : Ac} (h : ulx w ws = some (a, r)) : url a :=
 (show POk (ulx w) from POk.ite uv3 (.ite uvw (.ite usr (.ite ut5 (.ite shiftP_ok (.ite cutP_ok (.ite fadeP_ok (.ite modeP_ok (.ite hideP_ok (.ite fillP_ok (.ite uua (.ite uwb (.ite utp (.ite viewP_ok (.ite confP_ok (.ite frameP_ok (fun _ _ _ h => nomatch h))))))))))))))))) ws a r h
theorem one_ok {ws : List Wd} {a : Ac} (h : oneT ws = some a) : url a ∧ (uk6 a).isSome = true := by
 cases ws with
 | nil => cases h
 | cons w r =>
  obtain ⟨p, hp, h⟩ := Option.bind_eq_some_iff.1 h
  split at h
  ·rename_i hh
   cases h
   exact ⟨read_ok (r := p.2) hp, hh.2⟩
  ·cases h
def uk7 : Nat → List (List UInt8) → List Ac × Option Nat
 | _, [] => ([], none)
 | n, l :: r => match uli l with
  | none => ([], some (n + 1))
  | some [] => uk7 (n + 1) r
  | some (w :: ws) => match oneT (w :: ws) with
   | none => ([], some (n + 1))
   | some a => (a :: (uk7 (n + 1) r).1, (uk7 (n + 1) r).2)
def getT (s : List UInt8) : List Ac × Option Nat := uk7 0 (uko s)
def urb (a : Ac) : List UInt8 := [32].intercalate (ukp a) ++ [10]
structure Fit (a : Ac) : Prop where
 ok : upj a
 small : PxSmall a.op.look.content
 put : (uk6 a).isSome = true
theorem Fit.act {a : Ac} (h : Fit a) : ∃ es, actG a es := by
 obtain ⟨es, he⟩ := Option.isSome_iff_exists.1 h.put
 exact ⟨es, (uov h.small).1 he⟩
theorem Fit.words {a : Ac} (h : Fit a) : uli ([32].intercalate (ukp a)) = some (ukp a) ∧ oneT (ukp a) = some a ∧ ukp a ≠ [] := by
 obtain ⟨es, he⟩ := h.act
 obtain ⟨w, r, e, _⟩ := uq1 he h.ok
 have hne : ukp a ≠ [] := by rw [e]; simp
 exact ⟨uvs (uqs h.small h.ok) hne, one_words he h.put h.ok, hne⟩
theorem Fit.noline {a : Ac} (h : Fit a) : ∀ c ∈ [32].intercalate (ukp a), c ≠ 10 := by
 intro c hc e
 subst e
 rcases upo _ _ hc with h' | ⟨w, hw, hc⟩
 ·cases h'
 ·exact absurd ((uqs h.small h.ok w hw).solid _ hc) (by decide)
theorem back_law : ∀ (xs : List Ac) (n : Nat), (∀ a ∈ xs, Fit a) → uk7 n (uko (xs.flatMap urb)) = (xs, none)
 | [], n, _ => by simp [uko, uk7, show uli [] = some [] from rfl]
 | a :: xs, n, h => by
  have hf := h a List.mem_cons_self
  have ih := back_law xs (n + 1) fun x hx => h x (List.mem_cons_of_mem _ hx)
  rw [List.flatMap_cons, urb, List.append_assoc, show [10] ++ xs.flatMap urb = 10 :: xs.flatMap urb from rfl, uoe _ _ hf.noline]
  obtain ⟨h1, h2, h3⟩ := hf.words
  rw [uk7, h1]
  cases hw : ukp a with
  | nil => exact absurd hw h3
  | cons w ws =>
   rw [hw] at h2
   simp only [h2, ih]
theorem uuj : ∀ (n : Nat) (l : List (List UInt8)), ∀ a ∈ (uk7 n l).1, Fit a
 | n, [], a, h => by cases h
 | n, l :: r, a, h => by
  unfold uk7 at h
  split at h
  ·cases h
  ·exact uuj (n + 1) r a h
  ·split at h
   ·cases h
   ·rename_i hx
    rcases List.mem_cons.1 h with rfl | h
    ·have := one_ok hx
     exact ⟨this.1.ok, this.1.small, this.2⟩
    ·exact uuj (n + 1) r a h
theorem putT_fit {a : Ac} (h : Fit a) : putT a = some (urb a) := if_pos ⟨h.put, h.ok⟩
theorem putT_some {a : Ac} {l : List UInt8} (hs : PxSmall a.op.look.content) (h : putT a = some l) : Fit a ∧ l = urb a := by
 unfold putT at h
 split at h
 ·rename_i hh
  cases h
  exact ⟨⟨hh.2, hs, hh.1⟩, rfl⟩
 ·cases h
open Go
theorem urc (c b : UInt8) (l : List UInt8) : Lib.index (b :: l) [c] = if c = b then 0 else if Lib.index l [c] = -1 then -1 else Lib.index l [c] + 1 := by
 rw [Lib.index]
 by_cases h : c = b
 ·subst h; simp [List.isPrefixOf]
 ·simp [List.isPrefixOf, h]
theorem us6 (l : List UInt8) (c : UInt8) : Lib.index l [c] = -1 ∨ ∃ i : Nat, Lib.index l [c] = i := by
 have := Lib.index_ge l [c]
 by_cases h : Lib.index l [c] = -1
 ·exact .inl h
 ·exact .inr ⟨(Lib.index l [c]).toNat, by omega⟩
theorem upw : ∀ s : List UInt8, Lib.splitK [10] 0 (Lib.count s [10]) s = uko s
 | [] => rfl
 | b :: l => by
  have ih := upw l
  have hc := urc 10 b l
  by_cases h : (10 : UInt8) = b
  ·subst h
   have h0 : Lib.index (10 :: l) [10] = ((0 : Nat) : Int) := by rw [hc, if_pos rfl]; rfl
   rw [Lib.count_hit (by simp) h0]
   simp only [Nat.zero_add, List.length_singleton, List.drop_succ_cons, List.drop_zero]
   rw [Nat.add_comm, Lib.splitK, h0]
   rw [if_neg (by decide)]
   simp only [Int.toNat_natCast, Nat.zero_add, List.take_zero, List.length_singleton, List.drop_succ_cons, List.drop_zero, ih]
   rw [uko, if_pos rfl]
  ·rw [if_neg h] at hc
   rw [uko, if_neg (fun e => h e.symm), ← ih]
   rcases us6 l 10 with hm | ⟨i, hi⟩
   ·rw [if_pos hm] at hc
    rw [Lib.count_miss hc, Lib.count_miss hm]
    rfl
   ·rw [if_neg (by omega), hi] at hc
    have hc' : Lib.index (b :: l) [10] = ((i + 1 : Nat) : Int) := by rw [hc]; omega
    rw [Lib.count_hit (by simp) hc', Lib.count_hit (by simp) hi]
    simp only [List.length_singleton, List.drop_succ_cons]
    rw [Nat.add_comm, Lib.splitK, Lib.splitK, hc', hi]
    rw [if_neg (by simp; omega), if_neg (by simp)]
    simp only [Int.toNat_natCast, Nat.add_zero, List.length_singleton, List.take_succ_cons, List.drop_succ_cons]
theorem cut_head : ∀ s : List UInt8, (Lib.cut s [35]).1 = unr s := by
 intro s
 have key : ∀ s : List UInt8, unr s = if 0 ≤ Lib.index s [35] then s.take (Lib.index s [35]).toNat else s := by
  intro s
  induction s with
  | nil => rfl
  | cons b l ih =>
   have hc := urc 35 b l
   unfold unr at ih ⊢
   rw [List.takeWhile_cons]
   by_cases h : (35 : UInt8) = b
   ·subst h
    rw [if_pos rfl] at hc
    rw [hc]
    simp
   ·rw [if_neg h] at hc
    have hb : (b != 35) = true := by simp; exact fun e => h e.symm
    rw [if_pos hb, ih]
    rcases us6 l 35 with hm | ⟨i, hi⟩
    ·rw [if_pos hm] at hc
     rw [hc, hm]
     rfl
    ·rw [if_neg (by omega), hi] at hc
     rw [hc, hi, if_pos (by omega), if_pos (by omega)]
     rw [show ((i : Int) + 1).toNat = i + 1 by omega, Int.toNat_natCast, List.take_succ_cons]
 rw [key, Lib.cut]
 split <;> rfl
def unw (x : Nat) : Bool := x == 32 || x == 9
theorem upg (s : ByteArray) (a b : Nat) : (s.extract a b).data.toList = (s.data.toList.drop a).take (b - a) := by
 rw [ByteArray.data_extract, Array.toList_extract]
theorem usm (s : ByteArray) (hs : ∀ c ∈ s.data.toList, c.toNat < 128) : ∀ (f pos : Nat) (st : Option Nat) (acc : List (Nat × Nat)), s.size ≤ pos + f → pos ≤ s.size → (∀ a, st = some a → a < pos) →
  (Lib.closeSpans s (Lib.spansFromP unw s f pos st acc)).map (fun x => (s.extract x.1 x.2).data.toList) =
      acc.map (fun x => (s.extract x.1 x.2).data.toList) ++ ukl (match st with | some a => (s.data.toList.drop a).take (pos - a) | none => []) (s.data.toList.drop pos) := by
 have hsz : s.size = s.data.toList.length := by show s.data.size = _; rw [Array.length_toList]
 have done : ∀ (pos : Nat) (st : Option Nat) (acc : List (Nat × Nat)), pos = s.size → (∀ a, st = some a → a < pos) → (Lib.closeSpans s (acc, st)).map (fun x => (s.extract x.1 x.2).data.toList) =
     acc.map (fun x => (s.extract x.1 x.2).data.toList) ++ ukl (match st with | some a => (s.data.toList.drop a).take (pos - a) | none => []) (s.data.toList.drop pos) := by
  intro pos st acc h hst
  rw [h, hsz, List.drop_length]
  cases st with
  | none => simp [Lib.closeSpans, ukl]
  | some a =>
   have ha := hst a rfl
   have hne : (s.data.toList.drop a).take (s.data.toList.length - a) ≠ [] := by
    intro e
    have := congrArg List.length e
    simp only [List.length_take, List.length_drop, List.length_nil] at this
    omega
   simp only [Lib.closeSpans, List.map_append, List.map_cons, List.map_nil, ukl, if_neg hne, upg, hsz]
 intro f
 induction f with
 | zero => exact fun pos st acc h1 h2 h3 => done pos st acc (by omega) h3
 | succ f ih =>
  intro pos st acc h1 h2 h3
  by_cases hp : pos < s.size
  ·have hdec : Utf8.decode s pos = ((s[pos]'hp).toNat, 1) := decode_ascii s pos hp (hs _ (by
    simp only [ByteArray.getElem_eq_getElem_data]
    exact Array.mem_toList_iff.2 (Array.getElem_mem _)))
   have hd : s.data.toList.drop pos = s[pos]'hp :: s.data.toList.drop (pos + 1) := by
    rw [List.drop_eq_getElem_cons (by rw [← hsz]; exact hp)]
    simp only [ByteArray.getElem_eq_getElem_data, Array.getElem_toList]
   have hbl : unw (s[pos]'hp).toNat = uly (s[pos]'hp) := by
    generalize s[pos]'hp = c
    unfold unw uly
    have e1 : (c.toNat == 32) = (c == 32) := by
     by_cases h : c = 32
     ·subst h; rfl
     ·rw [bqf.2 h, bqf]
      exact fun e => h (UInt8.toNat_inj.1 e)
    have e2 : (c.toNat == 9) = (c == 9) := by
     by_cases h : c = 9
     ·subst h; rfl
     ·rw [bqf.2 h, bqf]
      exact fun e => h (UInt8.toNat_inj.1 e)
    rw [e1, e2]
   unfold Lib.spansFromP
   rw [if_pos hp, hdec, hd]
   simp only [hbl, ukl]
   cases hb : uly (s[pos]'hp) with
   | true =>
    simp only [if_true]
    cases st with
    | none =>
     simp only
     rw [ih (pos + 1) none acc (by omega) (by omega) (fun a e => by cases e)]
     simp
    | some a =>
     have ha := h3 a rfl
     have hne : (s.data.toList.drop a).take (pos - a) ≠ [] := by
      intro e
      have := congrArg List.length e
      simp only [List.length_take, List.length_drop, List.length_nil] at this
      omega
     simp only [if_neg hne]
     rw [ih (pos + 1) none (acc ++ [(a, pos)]) (by omega) (by omega) (fun a e => by cases e)]
     simp [upg]
   | false =>
    simp only [Bool.false_eq_true, if_false]
    cases st with
    | none =>
     simp only [List.nil_append]
     rw [ih (pos + 1) (some pos) acc (by omega) (by omega) (fun a e => by cases e; omega)]
     simp only [show pos + 1 - pos = 1 by omega, hd, List.take_succ_cons, List.take_zero]
    | some a =>
     have ha := h3 a rfl
     simp only
     rw [ih (pos + 1) (some a) acc (by omega) (by omega) (fun a' e => by cases e; omega)]
     congr 2
     show List.take (pos + 1 - a) (s.data.toList.drop a) = _
     have e : s.data.toList.drop pos = (s.data.toList.drop a).drop (pos - a) := by rw [List.drop_drop]; congr 1; omega
     rw [show pos + 1 - a = (pos - a) + 1 by omega, List.take_add_one]
     congr 1
     rw [← List.head?_drop, ← e, hd]
     rfl
  ·rw [Lib.spansFromP_end _ _ _ _ _ _ hp]
   exact done pos st acc (by omega) h3
theorem uul (s : ByteArray) (hs : ∀ c ∈ s.data.toList, c.toNat < 128) : (Lib.goFieldsP unw s).map (fun x => x.data.toList) = ukl [] s.data.toList := by
 have := usm s hs s.size 0 none [] (by omega) (by omega) (fun a e => by cases e)
 simpa [Lib.goFieldsP, Lib.spansOfP, List.map_map, Function.comp_def] using this
end Go.Txt
namespace Go.Proofs
open Go.Shelf Go.RowKit Go.Sort Go.Lib
def Tryz.lays156_ren : Go.Shelf.Ren := ⟨fun | 156 => 19 | 165 => 39 | 166 => 40 | 169 => 41 | 240 => 67 | 241 => 68 | 276 => 107 | 277 => 108 | n => n, fun | 31 => 66 | 9 => 9 | 3 => 3 | 4 => 4 | 0 => 0 | 20 => 20 | 72 => 99 | 76 => 103 | 70 => 97 | 37 => 61 | 75 => 102 | 127 => 137 | 164 => 160 | 5 => 5 | 80 => 105 | n => n, fun | n => n⟩
theorem Tryz.lays156 : Go.Proofs.Lays.n156 Tryz.prog Tryz.lays156_ren := {
 mixed := by kernel_rfl
 f156 := Tryz.func19.trans (congrArg some (by kernel_rfl))
 f165 := Tryz.func39.trans (congrArg some (by kernel_rfl))
 f166 := Tryz.func40.trans (congrArg some (by kernel_rfl))
 f169 := Tryz.func41.trans (congrArg some (by kernel_rfl))
 f240 := Tryz.func67.trans (congrArg some (by kernel_rfl))
 f241 := Tryz.func68.trans (congrArg some (by kernel_rfl))
 f276 := Tryz.func107.trans (congrArg some (by kernel_rfl))
 f277 := Tryz.func108.trans (congrArg some (by kernel_rfl))
 t0 := Tryz.underlying0
 a0 := Tryz.isAgg0
 z0 := Tryz.sizeOf0
 v0 := Tryz.zeroValue0
 t3 := Tryz.underlying3
 a3 := Tryz.isAgg3
 z3 := Tryz.sizeOf3
 v3 := Tryz.zeroValue3
 t4 := Tryz.underlying4
 a4 := Tryz.isAgg4
 z4 := Tryz.sizeOf4
 v4 := Tryz.zeroValue4
 t9 := Tryz.underlying9
 a9 := Tryz.isAgg9
 z9 := Tryz.sizeOf9
 v9 := Tryz.zeroValue9
 t20 := Tryz.underlying20
 a20 := Tryz.isAgg20
 z20 := Tryz.sizeOf20
 v20 := Tryz.zeroValue20
 t31 := Tryz.underlying66
 a31 := Tryz.isAgg66
 z31 := Tryz.sizeOf66
 v31 := Tryz.zeroValue66
 t37 := Tryz.underlying61
 a37 := Tryz.isAgg61
 z37 := Tryz.sizeOf61
 v37 := Tryz.zeroValue61
 t70 := Tryz.underlying97
 a70 := Tryz.isAgg97
 z70 := Tryz.sizeOf97
 v70 := Tryz.zeroValue97
 t72 := Tryz.underlying99
 a72 := Tryz.isAgg99
 z72 := Tryz.sizeOf99
 v72 := Tryz.zeroValue99
 t75 := Tryz.underlying102
 a75 := Tryz.isAgg102
 z75 := Tryz.sizeOf102
 v75 := Tryz.zeroValue102
 t76 := Tryz.underlying103
 a76 := Tryz.isAgg103
 z76 := Tryz.sizeOf103
 v76 := Tryz.zeroValue103
 t127 := Tryz.underlying137
 a127 := Tryz.isAgg137
 z127 := Tryz.sizeOf137
 v127 := Tryz.zeroValue137
 t164 := Tryz.underlying160
 a164 := Tryz.isAgg160
 z164 := Tryz.sizeOf160
 v164 := Tryz.zeroValue160 }
theorem Tryz.Builder_Extra_156 : Builder.Extra Tryz.prog Tryz.lays156_ren := {
 sizeBuilder := by kernel_rfl
 liesBuilder := by kernel_rfl
 t5 := Tryz.underlying5
 a5 := Tryz.isAgg5
 z5 := Tryz.sizeOf5
 v5 := Tryz.zeroValue5
 infoByte := by kernel_rfl
 cellsByte := by kernel_rfl
 sizeByte := by kernel_rfl
 neB5 := by decide }
theorem Tryz.strings_Join_none (a : Option Addr) (c : Nat) (sep : ByteArray) (w : World) :
 Calls Tryz.prog 19 #[.slice a 0 c, .string sep] w fun e w' => e = .returned (.string ⟨#[]⟩) ∧ w' = w := Any.strings_Join_none Tryz.lays156 Tryz.Builder_Extra_156 a c sep w
theorem Tryz.strings_Join (bk o c : Nat) (xs : List ByteArray) (sep : ByteArray) (w : World) (hcells : ∀ (j : Nat) x, xs[j]? = some x → w.cell? ⟨bk, o + j, none⟩ = some (.string x)) (hbk : bk < w.heap.size) (hN : xs.length ≤ 140737488355328) (hcap : xs.length ≤ c) (hlen : (Lib.join (xs.map (·.data.toList)) sep.data.toList).length ≤ 140737488355328) :
 Calls Tryz.prog 19 #[.slice (some ⟨bk, o, none⟩) xs.length c, .string sep] w fun e w' => e = .returned (.string ⟨(Lib.join (xs.map (·.data.toList)) sep.data.toList).toArray⟩) ∧ Below w.heap.size w w' := Any.strings_Join Tryz.lays156 Tryz.Builder_Extra_156 bk o c xs sep w hcells hbk hN hcap hlen
def Tryz.laysM171_ren : Go.Shelf.Ren := ⟨fun | 171 => 61 | 243 => 105 | 246 => 132 | 283 => 149 | 284 => 150 | 285 => 151 | 286 => 152 | 129 => 158 | 317 => 157 | 318 => 159 | 319 => 160 | 320 => 161 | 337 => 167 | 338 => 168 | n => n, fun | 3 => 3 | 9 => 9 | 2 => 2 | 4 => 4 | 171 => 193 | 0 => 0 | 53 => 194 | 37 => 61 | 5 => 5 | 173 => 197 | 212 => 208 | 51 => 203 | 20 => 20 | 213 => 209 | 46 => 187 | 232 => 224 | 233 => 225 | n => n, fun | 17 => 5 | 18 => 8 | 19 => 9 | n => n⟩
theorem Tryz.laysM171 : Go.Proofs.LaysM.n171 Tryz.prog Tryz.laysM171_ren := {
 mixed := by kernel_rfl
 f129 := Tryz.func158.trans (congrArg some (by kernel_rfl))
 f171 := Tryz.func61.trans (congrArg some (by kernel_rfl))
 f243 := Tryz.func105.trans (congrArg some (by kernel_rfl))
 f246 := Tryz.func132.trans (congrArg some (by kernel_rfl))
 f283 := Tryz.func149.trans (congrArg some (by kernel_rfl))
 f284 := Tryz.func150.trans (congrArg some (by kernel_rfl))
 f285 := Tryz.func151.trans (congrArg some (by kernel_rfl))
 f286 := Tryz.func152.trans (congrArg some (by kernel_rfl))
 f317 := Tryz.func157.trans (congrArg some (by kernel_rfl))
 f318 := Tryz.func159.trans (congrArg some (by kernel_rfl))
 f319 := Tryz.func160.trans (congrArg some (by kernel_rfl))
 f320 := Tryz.func161.trans (congrArg some (by kernel_rfl))
 f337 := Tryz.func167.trans (congrArg some (by kernel_rfl))
 f338 := Tryz.func168.trans (congrArg some (by kernel_rfl))
 t0 := Tryz.underlying0
 a0 := Tryz.isAgg0
 z0 := Tryz.sizeOf0
 v0 := Tryz.zeroValue0
 t2 := Tryz.underlying2
 a2 := Tryz.isAgg2
 z2 := Tryz.sizeOf2
 v2 := Tryz.zeroValue2
 t3 := Tryz.underlying3
 a3 := Tryz.isAgg3
 z3 := Tryz.sizeOf3
 v3 := Tryz.zeroValue3
 t4 := Tryz.underlying4
 a4 := Tryz.isAgg4
 z4 := Tryz.sizeOf4
 v4 := Tryz.zeroValue4
 t5 := Tryz.underlying5
 a5 := Tryz.isAgg5
 z5 := Tryz.sizeOf5
 v5 := Tryz.zeroValue5
 t9 := Tryz.underlying9
 a9 := Tryz.isAgg9
 z9 := Tryz.sizeOf9
 v9 := Tryz.zeroValue9
 t20 := Tryz.underlying20
 a20 := Tryz.isAgg20
 z20 := Tryz.sizeOf20
 v20 := Tryz.zeroValue20
 t37 := Tryz.underlying61
 a37 := Tryz.isAgg61
 z37 := Tryz.sizeOf61
 v37 := Tryz.zeroValue61
 t46 := Tryz.underlying187
 a46 := Tryz.isAgg187
 z46 := Tryz.sizeOf187
 v46 := Tryz.zeroValue187
 t51 := Tryz.underlying203
 a51 := Tryz.isAgg203
 z51 := Tryz.sizeOf203
 v51 := Tryz.zeroValue203
 t53 := Tryz.underlying194
 a53 := Tryz.isAgg194
 z53 := Tryz.sizeOf194
 v53 := Tryz.zeroValue194
 t171 := Tryz.underlying193
 a171 := Tryz.isAgg193
 z171 := Tryz.sizeOf193
 v171 := Tryz.zeroValue193
 t173 := Tryz.underlying197
 a173 := Tryz.isAgg197
 z173 := Tryz.sizeOf197
 v173 := Tryz.zeroValue197
 t212 := Tryz.underlying208
 a212 := Tryz.isAgg208
 z212 := Tryz.sizeOf208
 v212 := Tryz.zeroValue208
 t213 := Tryz.underlying209
 a213 := Tryz.isAgg209
 z213 := Tryz.sizeOf209
 t232 := Tryz.underlying224
 a232 := Tryz.isAgg224
 z232 := Tryz.sizeOf224
 v232 := Tryz.zeroValue224
 t233 := Tryz.underlying225
 a233 := Tryz.isAgg225
 z233 := Tryz.sizeOf225
 v233 := Tryz.zeroValue225
 g17 := by kernel_rfl
 g18 := by kernel_rfl
 g19 := by kernel_rfl
 i0 := by kernel_rfl
 i2 := by kernel_rfl
 i3 := by kernel_rfl
 i4 := by kernel_rfl
 i5 := by kernel_rfl
 i9 := by kernel_rfl
 i20 := by kernel_rfl
 i37 := by kernel_rfl
 i46 := by kernel_rfl
 i51 := by kernel_rfl
 i53 := by kernel_rfl
 i171 := by kernel_rfl
 i173 := by kernel_rfl
 i212 := by kernel_rfl
 i232 := by kernel_rfl
 i233 := by kernel_rfl
 m17 := by kernel_rfl
 m18 := by kernel_rfl
 m19 := by kernel_rfl }
theorem Tryz.strconv_Itoa (n : Int) (h0 : -9223372036854775808 ≤ n) (h1 : n ≤ 9223372036854775807) (w : World) (htab : Lib.TabIs Tryz.prog w "internal/strconv.uint64pow10" .u64 Lib.pow10Tab) :
 Calls Tryz.prog 61 #[.int .i64 n] w fun e w' => e = .returned (.string ⟨(Lib.itoa n).toArray⟩) ∧ ∃ k os, w' = grow (w.drewN k) os := Any.strconv_Itoa Tryz.laysM171 n h0 h1 w htab
def Tryz.laysC172_ren : Go.Shelf.Ren := ⟨fun | 172 => 142 | 244 => 155 | 245 => 156 | 247 => 162 | 279 => 163 | 280 => 164 | 281 => 165 | 282 => 166 | 287 => 169 | 316 => 170 | 171 => 61 | 205 => 171 | 321 => 172 | 322 => 173 | 243 => 105 | 246 => 132 | 283 => 149 | 284 => 150 | 285 => 151 | 286 => 152 | 129 => 158 | 317 => 157 | 318 => 159 | 319 => 160 | 320 => 161 | 337 => 167 | 338 => 168 | n => n, fun | 9 => 9 | 3 => 3 | 75 => 102 | 76 => 103 | 4 => 4 | 5 => 5 | 167 => 211 | 37 => 61 | 0 => 0 | 85 => 212 | 2 => 2 | 168 => 214 | 53 => 194 | 175 => 218 | 46 => 187 | 210 => 222 | 127 => 137 | 145 => 228 | 143 => 226 | 21 => 21 | 171 => 193 | 173 => 197 | 212 => 208 | 51 => 203 | 20 => 20 | 213 => 209 | 232 => 224 | 233 => 225 | 80 => 105 | n => n, fun | 15 => 6 | 16 => 7 | 17 => 5 | 18 => 8 | 19 => 9 | n => n⟩
theorem Tryz.laysC172 : Go.Proofs.LaysC.n172 Tryz.prog Tryz.laysC172_ren := {
 mixed := by kernel_rfl
 f129 := Tryz.func158.trans (congrArg some (by kernel_rfl))
 f171 := Tryz.func61.trans (congrArg some (by kernel_rfl))
 f172 := Tryz.func142.trans (congrArg some (by kernel_rfl))
 f205 := Tryz.func171.trans (congrArg some (by kernel_rfl))
 f243 := Tryz.func105.trans (congrArg some (by kernel_rfl))
 f244 := Tryz.func155.trans (congrArg some (by kernel_rfl))
 f245 := Tryz.func156.trans (congrArg some (by kernel_rfl))
 f246 := Tryz.func132.trans (congrArg some (by kernel_rfl))
 f247 := Tryz.func162.trans (congrArg some (by kernel_rfl))
 f279 := Tryz.func163.trans (congrArg some (by kernel_rfl))
 f280 := Tryz.func164.trans (congrArg some (by kernel_rfl))
 f281 := Tryz.func165.trans (congrArg some (by kernel_rfl))
 f282 := Tryz.func166.trans (congrArg some (by kernel_rfl))
 f283 := Tryz.func149.trans (congrArg some (by kernel_rfl))
 f284 := Tryz.func150.trans (congrArg some (by kernel_rfl))
 f285 := Tryz.func151.trans (congrArg some (by kernel_rfl))
 f286 := Tryz.func152.trans (congrArg some (by kernel_rfl))
 f287 := Tryz.func169.trans (congrArg some (by kernel_rfl))
 f316 := Tryz.func170.trans (congrArg some (by kernel_rfl))
 f317 := Tryz.func157.trans (congrArg some (by kernel_rfl))
 f318 := Tryz.func159.trans (congrArg some (by kernel_rfl))
 f319 := Tryz.func160.trans (congrArg some (by kernel_rfl))
 f320 := Tryz.func161.trans (congrArg some (by kernel_rfl))
 f321 := Tryz.func172.trans (congrArg some (by kernel_rfl))
 f322 := Tryz.func173.trans (congrArg some (by kernel_rfl))
 f337 := Tryz.func167.trans (congrArg some (by kernel_rfl))
 f338 := Tryz.func168.trans (congrArg some (by kernel_rfl))
 t0 := Tryz.underlying0
 a0 := Tryz.isAgg0
 z0 := Tryz.sizeOf0
 v0 := Tryz.zeroValue0
 t2 := Tryz.underlying2
 a2 := Tryz.isAgg2
 z2 := Tryz.sizeOf2
 v2 := Tryz.zeroValue2
 t3 := Tryz.underlying3
 a3 := Tryz.isAgg3
 z3 := Tryz.sizeOf3
 v3 := Tryz.zeroValue3
 t4 := Tryz.underlying4
 a4 := Tryz.isAgg4
 z4 := Tryz.sizeOf4
 v4 := Tryz.zeroValue4
 t5 := Tryz.underlying5
 a5 := Tryz.isAgg5
 z5 := Tryz.sizeOf5
 v5 := Tryz.zeroValue5
 t9 := Tryz.underlying9
 a9 := Tryz.isAgg9
 z9 := Tryz.sizeOf9
 v9 := Tryz.zeroValue9
 t20 := Tryz.underlying20
 a20 := Tryz.isAgg20
 z20 := Tryz.sizeOf20
 v20 := Tryz.zeroValue20
 t21 := Tryz.underlying21
 a21 := Tryz.isAgg21
 z21 := Tryz.sizeOf21
 v21 := Tryz.zeroValue21
 t37 := Tryz.underlying61
 a37 := Tryz.isAgg61
 z37 := Tryz.sizeOf61
 v37 := Tryz.zeroValue61
 t46 := Tryz.underlying187
 a46 := Tryz.isAgg187
 z46 := Tryz.sizeOf187
 v46 := Tryz.zeroValue187
 t51 := Tryz.underlying203
 a51 := Tryz.isAgg203
 z51 := Tryz.sizeOf203
 v51 := Tryz.zeroValue203
 t53 := Tryz.underlying194
 a53 := Tryz.isAgg194
 z53 := Tryz.sizeOf194
 v53 := Tryz.zeroValue194
 t75 := Tryz.underlying102
 a75 := Tryz.isAgg102
 z75 := Tryz.sizeOf102
 v75 := Tryz.zeroValue102
 t76 := Tryz.underlying103
 a76 := Tryz.isAgg103
 z76 := Tryz.sizeOf103
 v76 := Tryz.zeroValue103
 t85 := Tryz.underlying212
 a85 := Tryz.isAgg212
 z85 := Tryz.sizeOf212
 v85 := Tryz.zeroValue212
 t127 := Tryz.underlying137
 a127 := Tryz.isAgg137
 z127 := Tryz.sizeOf137
 v127 := Tryz.zeroValue137
 t143 := Tryz.underlying226
 a143 := Tryz.isAgg226
 z143 := Tryz.sizeOf226
 v143 := Tryz.zeroValue226
 t145 := Tryz.underlying228
 a145 := Tryz.isAgg228
 z145 := Tryz.sizeOf228
 v145 := Tryz.zeroValue228
 t167 := Tryz.underlying211
 a167 := Tryz.isAgg211
 z167 := Tryz.sizeOf211
 v167 := Tryz.zeroValue211
 t168 := Tryz.underlying214
 a168 := Tryz.isAgg214
 z168 := Tryz.sizeOf214
 v168 := Tryz.zeroValue214
 t171 := Tryz.underlying193
 a171 := Tryz.isAgg193
 z171 := Tryz.sizeOf193
 v171 := Tryz.zeroValue193
 t173 := Tryz.underlying197
 a173 := Tryz.isAgg197
 z173 := Tryz.sizeOf197
 v173 := Tryz.zeroValue197
 t175 := Tryz.underlying218
 a175 := Tryz.isAgg218
 z175 := Tryz.sizeOf218
 v175 := Tryz.zeroValue218
 t210 := Tryz.underlying222
 a210 := Tryz.isAgg222
 z210 := Tryz.sizeOf222
 v210 := Tryz.zeroValue222
 t212 := Tryz.underlying208
 a212 := Tryz.isAgg208
 z212 := Tryz.sizeOf208
 v212 := Tryz.zeroValue208
 t213 := Tryz.underlying209
 a213 := Tryz.isAgg209
 z213 := Tryz.sizeOf209
 t232 := Tryz.underlying224
 a232 := Tryz.isAgg224
 z232 := Tryz.sizeOf224
 v232 := Tryz.zeroValue224
 t233 := Tryz.underlying225
 a233 := Tryz.isAgg225
 z233 := Tryz.sizeOf225
 v233 := Tryz.zeroValue225
 g15 := by kernel_rfl
 g16 := by kernel_rfl
 g17 := by kernel_rfl
 g18 := by kernel_rfl
 g19 := by kernel_rfl
 t80 := Tryz.underlying105
 a80 := Tryz.isAgg105
 z80 := Tryz.sizeOf105
 v80 := Tryz.zeroValue105
 i0 := by kernel_rfl
 i2 := by kernel_rfl
 i3 := by kernel_rfl
 i4 := by kernel_rfl
 i5 := by kernel_rfl
 i9 := by kernel_rfl
 i20 := by kernel_rfl
 i21 := by kernel_rfl
 i37 := by kernel_rfl
 i46 := by kernel_rfl
 i51 := by kernel_rfl
 i53 := by kernel_rfl
 i75 := by kernel_rfl
 i76 := by kernel_rfl
 i80 := by kernel_rfl
 i85 := by kernel_rfl
 i127 := by kernel_rfl
 i143 := by kernel_rfl
 i145 := by kernel_rfl
 i167 := by kernel_rfl
 i168 := by kernel_rfl
 i171 := by kernel_rfl
 i173 := by kernel_rfl
 i175 := by kernel_rfl
 i210 := by kernel_rfl
 i212 := by kernel_rfl
 i232 := by kernel_rfl
 i233 := by kernel_rfl
 m15 := by kernel_rfl
 m16 := by kernel_rfl
 m17 := by kernel_rfl
 m18 := by kernel_rfl
 m19 := by kernel_rfl
 c0 := by kernel_rfl
 c2 := by kernel_rfl
 c3 := by kernel_rfl
 c4 := by kernel_rfl
 c5 := by kernel_rfl
 c9 := by kernel_rfl
 c20 := by kernel_rfl
 c21 := by kernel_rfl
 c37 := by kernel_rfl
 c46 := by kernel_rfl
 c51 := by kernel_rfl
 c53 := by kernel_rfl
 c75 := by kernel_rfl
 c76 := by kernel_rfl
 c80 := by kernel_rfl
 c85 := by kernel_rfl
 c127 := by kernel_rfl
 c143 := by kernel_rfl
 c145 := by kernel_rfl
 c167 := by kernel_rfl
 c168 := by kernel_rfl
 c171 := by kernel_rfl
 c173 := by kernel_rfl
 c175 := by kernel_rfl
 c210 := by kernel_rfl
 c212 := by kernel_rfl
 c213 := by kernel_rfl
 c232 := by kernel_rfl
 c233 := by kernel_rfl }
theorem Tryz.strconv_Atoi_ok (s : ByteArray) (hmax : s.size ≤ 9223372036854775806) (v : Int) (h : Lib.atoiAll s.data.toList = .ok v) (w : World) :
 Calls Tryz.prog 142 #[.string s] w fun e w' => e = .returned (.tuple #[.int .i64 v, .nilIface]) ∧ (w' = w ∨ ∃ t, w' = Lib.bytesWorld w 5 t) := Any.strconv_Atoi_ok Tryz.laysC172 s hmax v h w
open Go.RowKit in
theorem Tryz.strconv_Atoi_bad_var (s : ByteArray) (hlim : s.size ≤ 281474976710656) (h : (∀ v, Lib.atoiAll s.data.toList ≠ .ok v) ∧ Lib.atoiAll s.data.toList ≠ .range) (tp : TypeId) (p : Value) (w : World) (hvar : w.var? Tryz.prog "strconv.ErrSyntax" = some #[.iface tp p]) :
  Calls Tryz.prog 142 #[.string s] w fun e w' => ∃ N, e = .returned (.tuple #[.int .i64 0, .iface 214 (.pointer (some ⟨N, 0, none⟩))]) ∧ w.heap.size ≤ N ∧ w'.heap[N]? = some (.cells #[.string ⟨#[65, 116, 111, 105]⟩, .string s, .iface tp p] 222 (0, 0)) ∧ Below w.heap.size w w' := by
 cases hx : Lib.atoiAll s.data.toList
 case ok v => exact absurd hx (h.1 v)
 case range => exact absurd hx h.2
 all_goals exact Any.strconv_Atoi_syntax_var Tryz.laysC172 s hlim hx tp p w hvar
theorem Tryz.strconv_Atoi_range_var (s : ByteArray) (hlim : s.size ≤ 281474976710656) (h : Lib.atoiAll s.data.toList = .range) (tp : TypeId) (p : Value) (w : World) (hvar : w.var? Tryz.prog "strconv.ErrRange" = some #[.iface tp p]) :
 Calls Tryz.prog 142 #[.string s] w fun e w' => ∃ N, e = .returned (.tuple #[.int .i64 (Lib.atoiSat s.data.toList), .iface 214 (.pointer (some ⟨N, 0, none⟩))]) ∧ w.heap.size ≤ N ∧ w'.heap[N]? = some (.cells #[.string ⟨#[65, 116, 111, 105]⟩, .string s, .iface tp p] 222 (0, 0)) ∧ Below w.heap.size w w' := Any.strconv_Atoi_range_var Tryz.laysC172 s hlim h tp p w hvar
def Tryz.lays145_ren : Go.Shelf.Ren := ⟨fun | 145 => 47 | 220 => 76 | 219 => 114 | 217 => 137 | 225 => 138 | 224 => 139 | 267 => 140 | 266 => 153 | 314 => 154 | n => n, fun | 9 => 9 | 4 => 4 | 59 => 114 | 3 => 3 | 5 => 5 | 46 => 187 | 146 => 204 | 51 => 203 | n => n, fun | 1 => 2 | n => n⟩
theorem Tryz.lays145 : Go.Proofs.Lays.n145 Tryz.prog Tryz.lays145_ren := {
 mixed := by kernel_rfl
 f145 := Tryz.func47.trans (congrArg some (by kernel_rfl))
 f217 := Tryz.func137.trans (congrArg some (by kernel_rfl))
 f219 := Tryz.func114.trans (congrArg some (by kernel_rfl))
 f220 := Tryz.func76.trans (congrArg some (by kernel_rfl))
 f224 := Tryz.func139.trans (congrArg some (by kernel_rfl))
 f225 := Tryz.func138.trans (congrArg some (by kernel_rfl))
 f266 := Tryz.func153.trans (congrArg some (by kernel_rfl))
 f267 := Tryz.func140.trans (congrArg some (by kernel_rfl))
 f314 := Tryz.func154.trans (congrArg some (by kernel_rfl))
 t3 := Tryz.underlying3
 a3 := Tryz.isAgg3
 z3 := Tryz.sizeOf3
 v3 := Tryz.zeroValue3
 t4 := Tryz.underlying4
 a4 := Tryz.isAgg4
 z4 := Tryz.sizeOf4
 v4 := Tryz.zeroValue4
 t5 := Tryz.underlying5
 a5 := Tryz.isAgg5
 z5 := Tryz.sizeOf5
 v5 := Tryz.zeroValue5
 t9 := Tryz.underlying9
 a9 := Tryz.isAgg9
 z9 := Tryz.sizeOf9
 v9 := Tryz.zeroValue9
 t46 := Tryz.underlying187
 a46 := Tryz.isAgg187
 z46 := Tryz.sizeOf187
 v46 := Tryz.zeroValue187
 t51 := Tryz.underlying203
 a51 := Tryz.isAgg203
 z51 := Tryz.sizeOf203
 v51 := Tryz.zeroValue203
 t59 := Tryz.underlying114
 a59 := Tryz.isAgg114
 z59 := Tryz.sizeOf114
 v59 := Tryz.zeroValue114
 t146 := Tryz.underlying204
 a146 := Tryz.isAgg204
 z146 := Tryz.sizeOf204
 v146 := Tryz.zeroValue204
 g1 := by kernel_rfl }
theorem Tryz.strings_Cut (s sep : ByteArray) (m : Int) (w : World) (hs : s.size < 4294967281) (hm : w.cell? ⟨2, 0, none⟩ = some (.int .i64 m)) :
 Calls Tryz.prog 47 #[.string s, .string sep] w fun e w' => e = .returned (.tuple #[.string ⟨(Lib.cut s.data.toList sep.data.toList).1.toArray⟩, .string ⟨(Lib.cut s.data.toList sep.data.toList).2.1.toArray⟩, .bool (Lib.cut s.data.toList sep.data.toList).2.2]) ∧ ∃ n, w' = w.drewN n := Any.strings_Cut Tryz.lays145 s sep m w hs hm
def Tryz.lays146_ren : Go.Shelf.Ren := ⟨fun | 146 => 24 | 221 => 46 | 268 => 73 | 138 => 74 | 143 => 75 | 195 => 111 | 197 => 112 | 218 => 113 | 219 => 114 | 260 => 136 | 217 => 137 | 225 => 138 | 224 => 139 | 267 => 140 | 266 => 153 | 314 => 154 | n => n, fun | 9 => 9 | 31 => 66 | 3 => 3 | 4 => 4 | 0 => 0 | 105 => 167 | 21 => 21 | 5 => 5 | 46 => 187 | 119 => 199 | 139 => 202 | 138 => 201 | 146 => 204 | 51 => 203 | n => n, fun | 1 => 2 | 3 => 3 | 4 => 4 | n => n⟩
theorem Tryz.lays146 : Go.Proofs.Lays.n146 Tryz.prog Tryz.lays146_ren := {
 mixed := by kernel_rfl
 f138 := Tryz.func74.trans (congrArg some (by kernel_rfl))
 f143 := Tryz.func75.trans (congrArg some (by kernel_rfl))
 f146 := Tryz.func24.trans (congrArg some (by kernel_rfl))
 f195 := Tryz.func111.trans (congrArg some (by kernel_rfl))
 f197 := Tryz.func112.trans (congrArg some (by kernel_rfl))
 f217 := Tryz.func137.trans (congrArg some (by kernel_rfl))
 f218 := Tryz.func113.trans (congrArg some (by kernel_rfl))
 f219 := Tryz.func114.trans (congrArg some (by kernel_rfl))
 f221 := Tryz.func46.trans (congrArg some (by kernel_rfl))
 f224 := Tryz.func139.trans (congrArg some (by kernel_rfl))
 f225 := Tryz.func138.trans (congrArg some (by kernel_rfl))
 f260 := Tryz.func136.trans (congrArg some (by kernel_rfl))
 f266 := Tryz.func153.trans (congrArg some (by kernel_rfl))
 f267 := Tryz.func140.trans (congrArg some (by kernel_rfl))
 f268 := Tryz.func73.trans (congrArg some (by kernel_rfl))
 f314 := Tryz.func154.trans (congrArg some (by kernel_rfl))
 t0 := Tryz.underlying0
 a0 := Tryz.isAgg0
 z0 := Tryz.sizeOf0
 v0 := Tryz.zeroValue0
 t3 := Tryz.underlying3
 a3 := Tryz.isAgg3
 z3 := Tryz.sizeOf3
 v3 := Tryz.zeroValue3
 t4 := Tryz.underlying4
 a4 := Tryz.isAgg4
 z4 := Tryz.sizeOf4
 v4 := Tryz.zeroValue4
 t5 := Tryz.underlying5
 a5 := Tryz.isAgg5
 z5 := Tryz.sizeOf5
 v5 := Tryz.zeroValue5
 t9 := Tryz.underlying9
 a9 := Tryz.isAgg9
 z9 := Tryz.sizeOf9
 v9 := Tryz.zeroValue9
 t21 := Tryz.underlying21
 a21 := Tryz.isAgg21
 z21 := Tryz.sizeOf21
 v21 := Tryz.zeroValue21
 t31 := Tryz.underlying66
 a31 := Tryz.isAgg66
 z31 := Tryz.sizeOf66
 v31 := Tryz.zeroValue66
 t46 := Tryz.underlying187
 a46 := Tryz.isAgg187
 z46 := Tryz.sizeOf187
 v46 := Tryz.zeroValue187
 t51 := Tryz.underlying203
 a51 := Tryz.isAgg203
 z51 := Tryz.sizeOf203
 v51 := Tryz.zeroValue203
 t105 := Tryz.underlying167
 a105 := Tryz.isAgg167
 z105 := Tryz.sizeOf167
 v105 := Tryz.zeroValue167
 t119 := Tryz.underlying199
 a119 := Tryz.isAgg199
 z119 := Tryz.sizeOf199
 t138 := Tryz.underlying201
 a138 := Tryz.isAgg201
 z138 := Tryz.sizeOf201
 v138 := Tryz.zeroValue201
 t139 := Tryz.underlying202
 a139 := Tryz.isAgg202
 z139 := Tryz.sizeOf202
 v139 := Tryz.zeroValue202
 t146 := Tryz.underlying204
 a146 := Tryz.isAgg204
 z146 := Tryz.sizeOf204
 v146 := Tryz.zeroValue204
 g1 := by kernel_rfl
 g3 := by kernel_rfl
 g4 := by kernel_rfl }
theorem Tryz.strings_Split (s sep : ByteArray) (m : Int) (w : World) (hs : s.size < 4294967281) (hm : w.cell? ⟨2, 0, none⟩ = some (.int .i64 m)) (h1 : 1 ≤ sep.size) :
 Calls Tryz.prog 24 #[.string s, .string sep] w fun e w' =>
  e = .returned (.slice (some ⟨w.heap.size, 0, none⟩) (Lib.countB s sep + 1) (Lib.countB s sep + 1)) ∧ w' = w.alloc (.cells ((Lib.splitB sep 0 (Lib.countB s sep) s).map Value.string).toArray 9) := Any.strings_Split Tryz.lays146 (by kernel_rfl) s sep m w hs hm h1
def Tryz.lays229_ren : Go.Shelf.Ren := ⟨fun | 229 => 48 | n => n, fun | 9 => 9 | 40 => 117 | 31 => 66 | 152 => 147 | 3 => 3 | 0 => 0 | 4 => 4 | 21 => 21 | 154 => 149 | n => n, fun | n => n⟩
theorem Tryz.lays229 : Go.Proofs.Lays.n229 Tryz.prog Tryz.lays229_ren := {
 mixed := by kernel_rfl
 f229 := Tryz.func48.trans (congrArg some (by kernel_rfl))
 t0 := Tryz.underlying0
 a0 := Tryz.isAgg0
 z0 := Tryz.sizeOf0
 v0 := Tryz.zeroValue0
 t3 := Tryz.underlying3
 a3 := Tryz.isAgg3
 z3 := Tryz.sizeOf3
 v3 := Tryz.zeroValue3
 t4 := Tryz.underlying4
 a4 := Tryz.isAgg4
 z4 := Tryz.sizeOf4
 v4 := Tryz.zeroValue4
 t9 := Tryz.underlying9
 a9 := Tryz.isAgg9
 z9 := Tryz.sizeOf9
 v9 := Tryz.zeroValue9
 t21 := Tryz.underlying21
 a21 := Tryz.isAgg21
 z21 := Tryz.sizeOf21
 v21 := Tryz.zeroValue21
 t31 := Tryz.underlying66
 a31 := Tryz.isAgg66
 z31 := Tryz.sizeOf66
 v31 := Tryz.zeroValue66
 t40 := Tryz.underlying117
 a40 := Tryz.isAgg117
 z40 := Tryz.sizeOf117
 v40 := Tryz.zeroValue117
 t152 := Tryz.underlying147
 a152 := Tryz.isAgg147
 z152 := Tryz.sizeOf147
 v152 := Tryz.zeroValue147
 t154 := Tryz.underlying149
 a154 := Tryz.isAgg149
 z154 := Tryz.sizeOf149
 v154 := Tryz.zeroValue149 }
open Go.RowKit Go.Lib in
theorem Tryz.strings_FieldsFunc_runes (g : Nat) (lb : Array Value) (eg : ∀ args w, (callFunc g args).run Tryz.prog w = .ok (.enter g args) w) (p : Nat → Bool) (s : ByteArray) (w : World) (hs : s.size ≤ 4294967296) (hp : PredAtRunes Tryz.prog g lb p w) :
 Calls Tryz.prog 48 #[.string s, .func (.func g) #[] lb] w fun e w' => ∃ A, e = .returned (.slice (some ⟨A, 0, none⟩) (Lib.goFieldsP p s).length (Lib.goFieldsP p s).length) ∧ w.heap.size ≤ A ∧
     w'.ownsRow w.heap.size 9 1 (.slice (some ⟨A, 0, none⟩) (Lib.goFieldsP p s).length (Lib.goFieldsP p s).length) (Lib.goFieldsP p s).length ((Lib.goFieldsP p s).map Value.string) ∧ Below w.heap.size w w' := Any.strings_FieldsFunc_runes Tryz.lays229 g lb eg p s w hs hp (by kernel_rfl) (by kernel_rfl)
def Tryz.lays109_ren : Go.Shelf.Ren := ⟨fun | 109 => 144 | n => n, fun | 31 => 66 | 9 => 9 | 3 => 3 | 0 => 0 | 4 => 4 | n => n, fun | n => n⟩
theorem Tryz.lays109 : Go.Proofs.Lays.n109 Tryz.prog Tryz.lays109_ren := {
 mixed := by kernel_rfl
 f109 := Tryz.func144.trans (congrArg some (by kernel_rfl))
 t0 := Tryz.underlying0
 a0 := Tryz.isAgg0
 z0 := Tryz.sizeOf0
 v0 := Tryz.zeroValue0
 t3 := Tryz.underlying3
 a3 := Tryz.isAgg3
 z3 := Tryz.sizeOf3
 v3 := Tryz.zeroValue3
 t4 := Tryz.underlying4
 a4 := Tryz.isAgg4
 z4 := Tryz.sizeOf4
 v4 := Tryz.zeroValue4
 t9 := Tryz.underlying9
 a9 := Tryz.isAgg9
 z9 := Tryz.sizeOf9
 v9 := Tryz.zeroValue9
 t31 := Tryz.underlying66
 a31 := Tryz.isAgg66
 z31 := Tryz.sizeOf66
 v31 := Tryz.zeroValue66 }
theorem Tryz.slices_Index_string (b off n c : Nat) (zs : List ByteArray) (x : ByteArray) (w : World) (hz : n ≤ zs.length) (hbig : n ≤ 9223372036854775807) (hc : ∀ j, j < zs.length → w.cell? ⟨b, off + j, none⟩ = some (.string (zs.getD j ByteArray.empty))) :
 Calls Tryz.prog 144 #[.slice (some ⟨b, off, none⟩) n c, .string x] w fun e w' => e = .returned (.int .i64 (Lib.idxOfS (zs.take n) x)) ∧ w' = w := Any.slices_Index_string Tryz.lays109 b off n c zs x w hz hbig hc
end Go.Proofs
namespace Go.Gou
open Go.RowKit
theorem halt {p : Prop} (h : Shut p) : p := h
structure RowT (P : Program) (t e : TypeId) (k bytes : Nat) (z : Value) : Prop where
 und : P.underlying t = some (.slice e)
 info : (P.info? e).map (fun i => (i.zero, i.size, i.bytes)) = some (some z, k, bytes)
 zc : z.cells.size = k
 pos : 0 < k
theorem ueh {P : Program} (t ty e : TypeId) (i : TypeInfo) (ht : P.underlying t = some (.slice e)) (hi : P.info? e = some i) (w : World) (p : Option Addr) (n cap c : Nat) (hnc : n ≤ cap) :
  (Builtin.append_ #[t, t] ty #[.slice p n cap, .slice none 0 c]).run P w = .ok (.slice p n cap) w := by
 cases p <;> simp [Builtin.append_, run_underlying ht, sizeOf, typeInfo, hi, Builtin.lenOf, Builtin.firstCells, hnc, storeCells]
structure Grown (w : World) (B : Nat) (e : TypeId) (k : Nat) (v : Value) (n : Nat) (cs : List Value) (v' : Value) (w' : World) : Prop where
 own : w'.ownsRow B e k v' n cs
 mod : Mod (fun b => v.ownBlock = some b) w w'
 blk : ∀ g, v'.ownBlock = some g → v.ownBlock = some g ∨ w.heap.size ≤ g
theorem uco {P : Program} {t e : TypeId} {k bytes : Nat} {z : Value} (T : RowT P t e k bytes z) (ty : TypeId) (w : World) (B : Nat) (v : Value) (n : Nat) (cs : List Value) (G : Nat → Prop) (u : Value) (m : Nat) (ds : List Value) (hB : B ≤ w.heap.size) (hown : w.ownsRow B e k v n cs)
  (hy : RowG G w k u m ds) (h1 : ∀ d ∈ ds, d.oneCell' = true) (hn : n + m ≤ maxLen) (hby : (n + m) * bytes ≤ 140737488355328) :
  ∃ v' w', (Builtin.append_ #[t, t] ty #[v, u]).run P w = .ok v' w' ∧ Grown w B e k v (n + m) (cs ++ ds) v' w' := by
 obtain ⟨i0, hi0, hz0, hz1, hz2⟩ := info_parts T.info
 obtain ⟨hyl, p, cap, rfl, hcap, hc⟩ := hy
 cases p with
 | none =>
  have h0 : m = 0 := by
   rcases hc with hc | ⟨b, o, h, _⟩
   ·exact hc
   ·cases h
  subst h0
  have hds : ds = [] := List.length_eq_zero_iff.1 (by simpa using hyl)
  subst hds
  have hv : ∃ p n c, v = .slice p n c ∧ n ≤ c := by
   rcases hown.2 with ⟨h, _⟩ | ⟨g, c, cur, h, _, _, hn, _⟩
   ·exact ⟨none, 0, 0, h, Nat.le_refl _⟩
   ·exact ⟨_, _, c, h, hn⟩
  obtain ⟨p, n', c, rfl, hnc⟩ := hv
  exact ⟨_, w, ueh _ _ _ i0 T.und hi0 w p n' c cap hnc, by simpa using hown, Mod.refl _ _, fun g hg => .inl hg⟩
 | some ad =>
  obtain ⟨v', w', hr, h2, h3, h4, h5⟩ := run_append_own_at (P := P) w B t ty e i0 z k bytes T.und hi0 hz0 hz1 hz2 T.zc T.pos v n cs hown ad m cap ds hyl
      (fun j u hu => by
        have hj := (lgS.1 hu).1
        rcases hc with h0 | ⟨b, o2, e, hb, _, hc⟩
        ·subst h0
         omega
        ·simp only [Option.some.injEq] at e
         subst e
         have hadd : (⟨b, o2, none⟩ : Addr).add j = ⟨b, o2 + j, none⟩ := by unfold Addr.add; split <;> simp_all
         rw [hadd, hc j u hu]) h1 hn hby hB
  refine ⟨v', w', hr, h2, Mod.of_grown h3, fun g hg => ?_⟩
  rcases h5 with h5 | h5
  ·left; rw [← h5]; exact hg
  ·right
   rw [h5] at hg
   simp only [Option.some.injEq] at hg
   omega
theorem uaz {P : Program} {t e : TypeId} {k bytes : Nat} {z : Value} (T : RowT P t e k bytes z) {ops : Array Oper} {rest : List Oper} {o : Oper} {a : Act} {w : World} {Q : Exit → Act → World → Prop} (hgd : o.guard = none) (s x : Operand) (hop : o.op = .call { callee := .builtin .append, args := #[s, x], argTypes := #[t, t] })
  (B : Nat) (v : Value) (n : Nat) (cs : List Value) (G : Nat → Prop) (u : Value) (m : Nat) (ds : List Value) (hs : a.eval s = v) (hx : a.eval x = u) (hB : B ≤ w.heap.size) (hown : w.ownsRow B e k v n cs) (hy : RowG G w k u m ds) (h1 : ∀ d ∈ ds, d.oneCell' = true)
  (hn : n + m ≤ maxLen) (hby : (n + m) * bytes ≤ 140737488355328) (h : ∀ v' w1, Grown w B e k v (n + m) (cs ++ ds) v' w1 → wpList P ops Q rest (a.put o.dst v') w1) : wpList P ops Q (o :: rest) a w := by
 obtain ⟨v', w1, hr, h2⟩ := uco T o.type w B v n cs G u m ds hB hown hy h1 hn hby
 refine wpList_plain hgd fun K hK => ?_
 unfold Oper.wp execOp
 simp only [hop, resolve, invoke, builtin, Sem.run_bind, Sem.run_pure, Result.andThen_ok, List.map_toArray, List.map_cons, List.map_nil, hs, hx, hr]
 exact hK _ _ (h v' w1 h2)
theorem ual {P : Program} {t e : TypeId} {k bytes : Nat} {z : Value} (T : RowT P t e k bytes z) {o : Oper} {a : Act} {w : World} {K : Act → World → Prop} {Q : Exit → Act → World → Prop} (s x : Operand) (hop : o.op = .call { callee := .builtin .append, args := #[s, x], argTypes := #[t, t] })
  (B : Nat) (v : Value) (n : Nat) (cs : List Value) (G : Nat → Prop) (u : Value) (m : Nat) (ds : List Value) (hs : a.eval s = v) (hx : a.eval x = u) (hB : B ≤ w.heap.size) (hown : w.ownsRow B e k v n cs) (hy : RowG G w k u m ds) (h1 : ∀ d ∈ ds, d.oneCell' = true)
  (hn : n + m ≤ maxLen) (hby : (n + m) * bytes ≤ 140737488355328) (h : ∀ v' w1, Grown w B e k v (n + m) (cs ++ ds) v' w1 → K (a.put o.dst v') w1) : o.wp P a w K Q := by
 obtain ⟨v', w1, hr, h2⟩ := uco T o.type w B v n cs G u m ds hB hown hy h1 hn hby
 unfold Oper.wp execOp
 simp only [hop, resolve, invoke, builtin, Sem.run_bind, Sem.run_pure, Result.andThen_ok, List.map_toArray, List.map_cons, List.map_nil, hs, hx, hr]
 exact h v' w1 h2
theorem Mod.alloc0 (w : World) (o : Obj) : Mod (fun _ => False) w (w.alloc o) := Mod.alloc _ w o
theorem Blk.new (w : World) (T : TypeId) (cs : Array Value) : Blk (w.alloc (.cells cs T)) w.heap.size T cs := heap_alloc_new _ _
theorem RowG.of_blk {w : World} {b : Nat} {T : TypeId} {cs : Array Value} (h : Blk w b T cs) (k n : Nat) (hn : cs.size = n * k) (G : Nat → Prop) (hG : G b) : RowG G w k (.slice (some ⟨b, 0, none⟩) n n) n cs.toList :=
 ⟨by simpa using hn, _, n, rfl, Nat.le_refl _, .inr ⟨b, 0, rfl, h.lt, hG, fun j u hu => by
  rw [Nat.zero_add]
  exact h.cell j (by rw [← hu, agT])⟩⟩
theorem uf8 (xs : List Int) : ∀ d ∈ ivs xs, d.oneCell' = true := by
 intro d hd
 simp [ivs] at hd
 obtain ⟨x, _, rfl⟩ := hd
 simp [Value.oneCell']
abbrev strs (us : List (List UInt8)) : List Value := us.map fun u => .string ⟨u.toArray⟩
theorem uuw (us : List (List UInt8)) : ∀ d ∈ strs us, d.oneCell' = true := fun d hd => by
 obtain ⟨u, _, rfl⟩ := List.mem_map.1 hd
 rfl
end Go.Gou
namespace Go.Proofs.YtgolafbneiffpaaGreatDoor
open Go.RowKit Go.Gou Go.Txt
set_option maxRecDepth 100000
theorem T_str : RowT Tryz.prog 66 9 1 16 (.string ⟨#[]⟩) := ⟨Tryz.underlying66, by kernel_rfl, rfl, by omega⟩
structure Ln (w : World) (L : Nat) (ws : List Wd) (vs : Value) : Prop where
 box : Blk w L 68 #[vs]
 own : w.ownsRow (L + 1) 9 1 vs ws.length (strs ws)
def LnP (w : World) (L : Nat) (ws : List Wd) (vs : Value) (us : List Wd) (e : Ending) (w' : World) : Prop :=
 ∃ vs', e = .returned (.tuple #[]) ∧ Ln w' L (ws ++ us) vs' ∧ WTo L w vs w' vs'
theorem ut4 (w : World) (L : Nat) (ws us : List Wd) (vs v : Value) (h : Ln w L ws vs) (hx : RowG (fun b => b ≠ L ∧ vs.ownBlock ≠ some b) w 1 v us.length (strs us)) (hl : ws.length + us.length ≤ 1000000000) :
  Calls Tryz.prog 34 #[.pointer (some ⟨L, 0, none⟩), v] w (LnP w L ws vs us) := by
 have H := hd' h
 have Hx := hd' hx
 have Hl := hd' hl
 obtain ⟨pv, cv, rfl⟩ := ownsRow_form h.own
 obtain ⟨p, c, rfl, hpc⟩ := RowG.form hx
 have cL := h.box.cell 0 rfl
 have HLt := hd' (Blk.lt h.box)
 clear h hx hl hpc
 go_enter Tryz.func34, Tryz.ntmps34
 go_wp2_with (first | ((with_reducible show wpList _ _ _ (⟨_, Op.call ⟨.builtin .append, _, _⟩, _, _, _, _⟩ :: _) _ _); refine halt ?_) | fail)
 refine uaz T_str rfl _ _ rfl (L + 1) (.slice pv ws.length cv) ws.length (strs ws) _ (.slice p us.length c) us.length (strs us) rfl rfl (by have := HLt.o; omega) H.o.own Hx.o (uuw us) (by have := Hl.o; unfold maxLen; omega) (by have := Hl.o; omega) ?_
 intro v2 w2 G
 obtain ⟨p2, c2, rfl⟩ := Gou.ownsRow_form G.own
 have hb2 := H.o.box.mod G.mod (fun e => by have := (H.o.own.lt _ e).1; omega)
 have HB2 := hd' hb2
 have cL2 := hb2.cell 0 rfl
 have fL2 := hb2.frozen 0
 have HG := hd' G
 clear G cL hb2
 go_wp2_with fail
 first | go_end0 | refine bpr (results_none rfl _ _ _) rfl ?_
 refine ⟨.slice p2 (ws.length + us.length) c2, rfl, ⟨HB2.o.set 0 _, ?_⟩, ⟨?_, fun g hg => HG.o.blk g hg⟩⟩
 ·have h1 := uac (S := fun k => k = L) HG.o.own (Gou.Mod.setCell w2 ⟨L, 0, none⟩ (.slice p2 (ws.length + us.length) c2)) (fun k hk e => by
   have := HLt.o
   rcases HG.o.blk k hk with h | h
   ·have := (H.o.own.lt _ h).1; omega
   ·omega)
  rw [List.length_append, show strs (ws ++ us) = strs ws ++ strs us by simp]
  exact h1
 ·exact (HG.o.mod.imp fun _ _ h => .inr h).trans' ((Gou.Mod.setCell w2 ⟨L, 0, none⟩ _).imp fun _ _ h => .inl h)
end Go.Proofs.YtgolafbneiffpaaGreatDoor
namespace Go.Gou
open Go.RowKit
theorem Mod.grow (w : World) (os : Array Obj) : Mod (fun _ => False) w (Sort.grow w os) :=
 ⟨rfl, rfl, rfl, by simp [Sort.grow], fun k hk _ => by simp only [Sort.grow]; exact Array.getElem?_append_left hk⟩
theorem uro {P : Program} {w w' : World} {S : Nat → Prop} (hm : Mod S w w') {n : String} {g : Nat} (hg : P.globalNamed n = some g) (hs : g < w.heap.size) (hS : ¬ S g) : w'.var? P n = w.var? P n := by
 unfold World.var?
 rw [hg]
 simp only [Option.bind_some]
 rw [hm.block g hs hS]
end Go.Gou
namespace Go.Proofs.YtgolafbneiffpaaGreatDoor
open Go.RowKit Go.Gou Go.Txt
set_option maxRecDepth 100000
def kindsL : List Wd := [] :: kinds
structure LT (w : World) : Prop where
 sz : 10 ≤ w.heap.size
 pow : Lib.TabIs Tryz.prog w "internal/strconv.uint64pow10" .u64 Lib.pow10Tab
 errS : ∃ tp p, w.var? Tryz.prog "strconv.ErrSyntax" = some #[.iface tp p]
 errR : ∃ tp p, w.var? Tryz.prog "strconv.ErrRange" = some #[.iface tp p]
 kinds : ∀ i, i < 13 → w.cell? ⟨1, i, none⟩ = some (.string ⟨(kindsL.getD i []).toArray⟩)
 mx : ∃ m, w.cell? ⟨2, 0, none⟩ = some (iV m)
theorem g5 : Tryz.prog.globalNamed "internal/strconv.uint64pow10" = some 5 := by kernel_rfl
theorem g6 : Tryz.prog.globalNamed "strconv.ErrSyntax" = some 6 := by kernel_rfl
theorem g7 : Tryz.prog.globalNamed "strconv.ErrRange" = some 7 := by kernel_rfl
theorem LT.up {w w' : World} {S : Nat → Prop} (h : LT w) (hm : Gou.Mod S w w') (hS : ∀ k, k < 10 → ¬ S k) : LT w' := by
 have hz := h.sz
 refine ⟨Nat.le_trans hz hm.size, ?_, ?_, ?_, fun i hi => ?_, ?_⟩
 ·unfold Lib.TabIs
  rw [uro hm g5 (by omega) (hS _ (by omega))]
  exact h.pow
 ·obtain ⟨tp, p, e⟩ := h.errS
  exact ⟨tp, p, by rw [uro hm g6 (by omega) (hS _ (by omega))]; exact e⟩
 ·obtain ⟨tp, p, e⟩ := h.errR
  exact ⟨tp, p, by rw [uro hm g7 (by omega) (hS _ (by omega))]; exact e⟩
 ·rw [hm.cell (p := ⟨1, i, none⟩) (by show 1 < _; omega) (hS _ (by show 1 < 10; omega))]
  exact h.kinds i hi
 ·obtain ⟨m, e⟩ := h.mx
  exact ⟨m, by rw [hm.cell (p := ⟨2, 0, none⟩) (by show 2 < _; omega) (hS _ (by show 2 < 10; omega))]; exact e⟩
theorem LT.up0 {w w' : World} (h : LT w) (hm : Gou.Mod (fun _ => False) w w') : LT w' := h.up hm fun _ _ h => h
theorem uvb (n : Int) (h0 : -9223372036854775808 ≤ n) (h1 : n ≤ 9223372036854775807) (w : World) (ht : LT w) :
  Calls Tryz.prog 61 #[iV n] w fun e w' => e = .returned (.string ⟨(Lib.itoa n).toArray⟩) ∧ Gou.Mod (fun _ => False) w w' := by
 refine (Tryz.strconv_Itoa n h0 h1 w ht.pow).mono ?_
 rintro e w' ⟨rfl, k, os, rfl⟩
 exact ⟨rfl, (Gou.Mod.drewN _ w k).trans' (Gou.Mod.grow _ os)⟩
end Go.Proofs.YtgolafbneiffpaaGreatDoor
namespace Go.Gou
open Go.RowKit
theorem take_nums {xs : List Int} {i : Nat} (h : i < xs.length) : Go.Txt.nums (xs.take (i + 1)) = Go.Txt.nums (xs.take i) ++ [Lib.itoa (xs.getD i 0)] := by
 rw [List.take_add_one, lgE h]
 unfold Go.Txt.nums
 rw [List.map_append]
 congr 1
 simp [List.getD, h]
end Go.Gou
namespace Go.Proofs.YtgolafbneiffpaaGreatDoor
open Go.RowKit Go.Gou Go.Txt
set_option maxRecDepth 100000
theorem Ln.other {w w' : World} {L : Nat} {ws : List Wd} {vs : Value} (h : Ln w L ws vs) (hm : Gou.Mod (fun _ => False) w w') : Ln w' L ws vs :=
 ⟨h.box.mod hm (fun h => h), uac h.own hm (fun _ _ h => h)⟩
theorem upc (w : World) (L : Nat) (ws : List Wd) (vs v : Value) (xs : List Int) (ht : LT w) (h10 : 10 ≤ L) (h : Ln w L ws vs) (hx : IntsR (fun b => b ≠ L ∧ vs.ownBlock ≠ some b) w v xs) (hr : ∀ x ∈ xs, InR x) (hl : ws.length + xs.length ≤ 1000000000) :
  Calls Tryz.prog 35 #[.pointer (some ⟨L, 0, none⟩), v] w (LnP w L ws vs (nums xs)) := by
 have H := hd' h
 have Ht := hd' ht
 have Hr := hd' hr
 obtain ⟨p, c, rfl, hpc⟩ := RowG.form hx
 have Hx := hd' hx
 have Hl := hd' hl
 have hxl : xs.length ≤ 1000000000 := by omega
 have H10 := hd' h10
 clear h hx hl hpc ht hr h10
 go_enter Tryz.func35, Tryz.ntmps35
 go_wp2_with fail
 go_loopw [8] (fun c wr => ∃ (i : Nat) (v1 : Value), c = iV i ∧ i ≤ xs.length ∧ Ln wr L (ws ++ nums (xs.take i)) v1 ∧ WTo L w vs wr v1) (fun c _ => xs.length - (intOf c).toNat)
 case atStart => exact ⟨0, vs, rfl, by omega, by simpa [nums] using H.o, WTo.refl _ _ _⟩
 case round =>
  obtain ⟨i, v1, rfl, hi, hw1, ht1⟩ := hrel
  have Hw1 := hd' hw1
  have Ht1 := hd' ht1
  have HLT : Hid (LT wr) := hd' (Ht.o.up ht1.mod (fun k hk e => by
   have := H10.o
   rcases e with rfl | e
   ·omega
   ·have := (H.o.own.lt _ e).1; omega))
  have hi1 : wrap64 ((i : Int) + 1) = (i : Int) + 1 := IntWalk.wrap64_in _ (by omega)
  clear hw1 ht1
  by_cases hil : i < xs.length
  ·have e1 : decide ((i : Int) < (xs.length : Int)) = true := by simp; omega
   obtain ⟨-, b, o, rfl, hb, hG, hc⟩ := Hx.o.cells (by omega)
   have hxi := hc i hil
   rw [← Ht1.o.mod.cell (p := ⟨b, o + i, none⟩) hb (by rintro (e | e); exact hG.1 e; exact hG.2 e)] at hxi
   have hiI : (i : Int) < (xs.length : Int) := by omega
   have hi0I : (0 : Int) ≤ (i : Int) := by omega
   have Htk := hd' (take_nums hil)
   have Hin : Hid (InR (xs.getD i 0)) := hd' (Hr.o _ (by simp [List.getD, hil]))
   have Hil := hd' hil
   clear hc hG
   generalize hxe : xs.getD i 0 = x at *
   clear hxe
   go_wp2_with fail
   refine (uvb x (by have := Hin.o.1; omega) (by have := Hin.o.2; omega) wr HLT.o).mono ?_
   rintro e w2 ⟨rfl, hm2⟩
   have Hw2 := hd' (Hw1.o.other hm2)
   have Ht2 := hd' (Ht1.o.trans (WTo.other hm2 _))
   clear hm2 hxi
   go_wp2_with fail
   have Hw3 := hd' (Hw2.o.other (Gou.Mod.alloc0 w2 (.cells #[.string ⟨(Lib.itoa x).toArray⟩] 9)))
   have Ht3 := hd' (Ht2.o.trans (WTo.other (Gou.Mod.alloc0 w2 (.cells #[.string ⟨(Lib.itoa x).toArray⟩] 9)) _))
   have HB := hd' (RowG.of_blk (Blk.new w2 9 #[.string ⟨(Lib.itoa x).toArray⟩]) 1 1 rfl (fun b => b ≠ L ∧ v1.ownBlock ≠ some b) ⟨by have := Blk.lt Hw2.o.box; omega, fun e => by have := (Hw2.o.own.lt _ e).2; omega⟩)
   refine (ut4 _ L _ [Lib.itoa x] v1 _ Hw3.o HB.o (by have := Hl.o; have := Hil.o; simp [nums]; omega)).mono ?_
   rintro e w4 ⟨v4, rfl, hw4, ht4⟩
   have Hw4 := hd' hw4
   have Ht4 := hd' (Ht3.o.trans ht4)
   clear hw4 ht4
   go_wp2_with fail
   go_roundw
   case rel => exact ⟨i + 1, v4, by go_num, by have := Hil.o; omega, by rw [Htk.o, ← List.append_assoc]; exact Hw4.o, Ht4.o⟩
   case measure => have := Hil.o; simp [intOf, hi1]; omega
  ·have hie : i = xs.length := by omega
   subst hie
   have e1 : decide ((xs.length : Int) < (xs.length : Int)) = false := by simp
   go_wp2_with fail
   first | go_end0 | refine bpr (results_none rfl _ _ _) rfl ?_
   exact ⟨v1, rfl, by have := Hw1.o; rwa [List.take_length] at this, Ht1.o⟩
theorem LnP.from {w w1 : World} {L : Nat} {ws us : List Wd} {vs : Value} {e : Ending} {w' : World} (h : LnP w1 L ws vs us e w') (hm : Gou.Mod (fun _ => False) w w1) : LnP w L ws vs us e w' := by
 obtain ⟨v', he, hL, ht⟩ := h
 exact ⟨v', he, hL, (WTo.other hm vs).trans ht⟩
theorem say_new (w : World) (L : Nat) (ws us : List Wd) (vs : Value) (h : Ln w L ws vs) (hl : ws.length + us.length ≤ 1000000000) {N n : Nat} {cs : Array Value} (hN : w.heap.size = N) (hn : us.length = n) (hc : (strs us).toArray = cs) :
  Calls Tryz.prog 34 #[.pointer (some ⟨L, 0, none⟩), .slice (some ⟨N, 0, none⟩) n n] (w.alloc (.cells cs 9)) (LnP w L ws vs us) := by
 subst hN hn hc
 have ha := Gou.Mod.alloc0 w (.cells (strs us).toArray 9)
 have hx := RowG.of_blk (Blk.new w 9 (strs us).toArray) 1 us.length (by simp) (fun b => b ≠ L ∧ vs.ownBlock ≠ some b) ⟨by have := Blk.lt h.box; omega, fun e => by have := (h.own.lt _ e).2; omega⟩
 refine (ut4 _ L ws us vs _ (h.other ha) hx hl).mono ?_
 exact fun e w' hp => hp.from ha
theorem uud (w : World) (L : Nat) (ws : List Wd) (xs : List Int) (vs : Value) (ht : LT w) (h10 : 10 ≤ L) (h : Ln w L ws vs) (hr : ∀ x ∈ xs, InR x) (hl : ws.length + xs.length ≤ 1000000000) {N n : Nat} {cs : Array Value} (hN : w.heap.size = N) (hn : xs.length = n) (hc : (ivs xs).toArray = cs) :
  Calls Tryz.prog 35 #[.pointer (some ⟨L, 0, none⟩), .slice (some ⟨N, 0, none⟩) n n] (w.alloc (.cells cs 3)) (LnP w L ws vs (nums xs)) := by
 subst hN hn hc
 have ha := Gou.Mod.alloc0 w (.cells (ivs xs).toArray 3)
 have hx := RowG.of_blk (Blk.new w 3 (ivs xs).toArray) 1 xs.length (by simp) (fun b => b ≠ L ∧ vs.ownBlock ≠ some b) ⟨by have := Blk.lt h.box; omega, fun e => by have := (h.own.lt _ e).2; omega⟩
 refine (upc _ L ws vs _ xs (ht.up0 ha) h10 (h.other ha) hx hr hl).mono ?_
 exact fun e w' hp => hp.from ha
theorem ul8 {a b : Int} (h0 : InR a) (h1 : InR b) : ∀ x ∈ [a, b], InR x := by
 intro x hx
 simp only [List.mem_cons, List.not_mem_nil, or_false] at hx
 rcases hx with rfl | rfl <;> assumption
theorem ur1 {a b c d : Int} (h0 : InR a) (h1 : InR b) (h2 : InR c) (h3 : InR d) : ∀ x ∈ [a, b, c, d], InR x := by
 intro x hx
 simp only [List.mem_cons, List.not_mem_nil, or_false] at hx
 rcases hx with rfl | rfl | rfl | rfl <;> assumption
theorem lid_any (w : World) (L : Nat) (ws : List Wd) (vs : Value) (i : Int × Int) (ht : LT w) (h10 : 10 ≤ L) (h : Ln w L ws vs) (hr : InR i.1 ∧ InR i.2) (hl : ws.length ≤ 900000000) :
  Calls Tryz.prog 63 #[.pointer (some ⟨L, 0, none⟩), .agg #[iV i.1, iV i.2]] w (LnP w L ws vs (nums [i.1, i.2])) := by
 obtain ⟨a, b⟩ := i
 have H := hd' h
 have Ht := hd' ht
 have Hr := hd' (ul8 hr.1 hr.2)
 have Hl := hd' hl
 have H10 := hd' h10
 clear h ht hr hl h10
 go_enter Tryz.func63, Tryz.ntmps63
 go_wp2_with fail
 have hm := Gou.Mod.alloc0 w (.cells #[iV a, iV b] 23)
 refine (uud _ L ws [a, b] vs (Ht.o.up0 hm) H10.o (H.o.other hm) Hr.o (by have := Hl.o; simp; omega) (by simp) rfl rfl).mono ?_
 rintro e w4 hP
 obtain ⟨v4, rfl, hL, hT⟩ := hP.from hm
 have HL := hd' hL
 have HT := hd' hT
 clear hL hT hm
 go_wp2_with fail
 first | go_end0 | refine bpr (results_none rfl _ _ _) rfl ?_
 exact ⟨v4, rfl, HL.o, HT.o⟩
theorem lbox_any (w : World) (L : Nat) (ws : List Wd) (vs : Value) (r : Rc) (ht : LT w) (h10 : 10 ≤ L) (h : Ln w L ws vs) (hr : InR r.x0 ∧ InR r.y0 ∧ InR r.x1 ∧ InR r.y1) (hl : ws.length ≤ 900000000) :
  Calls Tryz.prog 64 #[.pointer (some ⟨L, 0, none⟩), .agg #[iV r.x0, iV r.y0, iV r.x1, iV r.y1]] w (LnP w L ws vs (nums [r.x0, r.y0, r.x1, r.y1])) := by
 obtain ⟨a, b, c, d⟩ := r
 have H := hd' h
 have Ht := hd' ht
 have Hr := hd' (ur1 hr.1 hr.2.1 hr.2.2.1 hr.2.2.2)
 have Hl := hd' hl
 have H10 := hd' h10
 clear h ht hr hl h10
 go_enter Tryz.func64, Tryz.ntmps64
 go_wp2_with fail
 have hm := Gou.Mod.alloc0 w (.cells #[iV a, iV b, iV c, iV d] 25)
 refine (uud _ L ws [a, b, c, d] vs (Ht.o.up0 hm) H10.o (H.o.other hm) Hr.o (by have := Hl.o; simp; omega) (by simp) rfl rfl).mono ?_
 rintro e w4 hP
 obtain ⟨v4, rfl, hL, hT⟩ := hP.from hm
 have HL := hd' hL
 have HT := hd' hT
 clear hL hT hm
 go_wp2_with fail
 first | go_end0 | refine bpr (results_none rfl _ _ _) rfl ?_
 exact ⟨v4, rfl, HL.o, HT.o⟩
end Go.Proofs.YtgolafbneiffpaaGreatDoor
namespace Go.Gou
open Go
def dfr (ops : Array Oper) (n : Nat) (o : Oper) : Array Oper := ops.setIfInBounds n { o with op := .assign (.const (.bool true)) }
def ufs (P : Program) (o : Oper) (Q : Exit → Act → World → Prop) : Exit → Act → World → Prop
 | .normal, a, w => o.wp P a w (fun a' w' => Q .normal a' w') Q
 | .exit i, a, w => Q (.exit i) a w
 | .goto l, a, w => Q (.goto l) a w
 | .ret, a, w => Q .ret a w
 | .panic c, a, w => Q (.panic c) a w
 | .outgrown, a, w => Q .outgrown a w
def backB (md : Region.Mode) (ops : Array Oper) : Bool :=
 (List.range ops.size).all fun j => ((ops[j]?).map (fun o => o.after.all fun e => !Region.binds md e || decide (e.on < j))).getD false
def sinkN (md : Region.Mode) (ops : Array Oper) (n : Nat) : Bool :=
 (List.range ops.size).all fun j => decide (j = n) || ((ops[n]?).map (fun o => o.after.any fun e => Region.binds md e && e.on == j)).getD false
section
variable {P : Program} {ops : Array Oper} {md : Region.Mode} {n : Nat} {o : Oper} {Q : Exit → Act → World → Prop} {S : World → Prop}
theorem dfr_size : (dfr ops n o).size = ops.size := by simp [dfr]
theorem dfr_ne {j : Nat} (h : j ≠ n) : (dfr ops n o)[j]? = ops[j]? := by
 unfold dfr
 rw [Array.getElem?_setIfInBounds_ne (Ne.symm h)]
theorem dfr_eq (ho : ops[n]? = some o) : (dfr ops n o)[n]? = some { o with op := .assign (.const (.bool true)) } := by
 have hlt : n < ops.size := (Array.getElem?_eq_some_iff.1 ho).1
 unfold dfr
 simp [hlt]
theorem uej (ho : ops[n]? = some o) (listed : Array Bool) : Region.ready md (dfr ops n o) listed = Region.ready md ops listed := by
 unfold Region.ready
 rw [dfr_size]
 congr 1
 funext i
 by_cases h : i = n
 ·subst h
  rw [dfr_eq ho, ho]
  rfl
 ·rw [dfr_ne h]
theorem uhm (ho : ops[n]? = some o) (tmps : Array Value) : yielded (dfr ops n o) tmps = yielded ops tmps := by
 funext j
 unfold yielded
 by_cases h : j = n
 ·subst h
  rw [dfr_eq ho, ho]
  rfl
 ·rw [dfr_ne h]
theorem wp_deferQ {x : Oper} {a : Act} {w : World} {K : Act → World → Prop} (h : x.wp P a w K (ufs P o Q)) : x.wp P a w K Q := by
 unfold Oper.wp at *
 generalize (execOp a.eval x).run P w = r at *
 cases r with
 | ok n w' =>
  cases n <;> simp only [Oper.upon] at h ⊢ <;>
      first
          | exact h
          | exact Calls.mono h (fun e w'' he => by cases e <;> exact he)
          | exact Rows.mono h (fun _ _ he => he)
 | halt x w' => cases x <;> simp only [Oper.upon] at h ⊢ <;> exact h
theorem wpOp_dfr (ho : ops[n]? = some o) {i : Nat} (hi : i ≠ n) {K : Act → World → Prop} {a : Act} {w : World} (h : wpOp P (dfr ops n o) (ufs P o Q) i K a w) : wpOp P ops Q i K a w := by
 unfold wpOp at *
 rw [dfr_ne hi] at h
 rw [uhm ho] at h
 split
 ·rename_i hn
  simpa [hn] using h
 ·rename_i x hx
  simp only [hx] at h
  split
  ·rename_i hw
   simp only [hw, if_true] at h
   exact h.imp wp_deferQ id
  ·rename_i hw
   simpa [hw] using h
theorem uj4 (hb : backB md ops = true) {listed : Array Bool} (hsz : listed.size = ops.size) (h : Region.ready md ops listed = []) : ∀ j, j < ops.size → listed.getD j false = true := by
 intro j
 induction j using Nat.strongRecOn with
 | _ j ih =>
  intro hj
  cases hl : listed.getD j false with
  | true => rfl
  | false =>
   exfalso
   have hl' : listed.getD j true = false := by
    have : j < listed.size := by omega
    simp [this] at hl ⊢
    exact hl
   have hm : j ∈ Region.ready md ops listed := by
    rw [mem_ready]
    refine ⟨hl', ops[j], by simp [hj], fun e he hbnd => ?_⟩
    have h1 := List.all_eq_true.1 hb j (List.mem_range.2 hj)
    simp only [Array.getElem?_eq_getElem hj, Option.map_some, Option.getD_some] at h1
    have h2 := (Array.all_eq_true_iff_forall_mem.1 h1) e he
    simp only [hbnd, Bool.not_true, Bool.false_or, decide_eq_true_eq] at h2
    exact ih e.on h2 (by omega)
   rw [h] at hm
   cases hm
theorem ready_nil {listed : Array Bool} (h : ∀ j, j < ops.size → listed.getD j true = true) : Region.ready md ops listed = [] := by
 rw [List.eq_nil_iff_forall_not_mem]
 intro j hj
 obtain ⟨h1, x, hx, _⟩ := mem_ready.1 hj
 rw [h j (Array.getElem?_eq_some_iff.1 hx).1] at h1
 cases h1
theorem uho (ho : ops[n]? = some o) (hd : o.dst = none) (hg : o.guard = none) (hb : backB md ops = true) (hs : sinkN md ops n = true) :
  ∀ (fuel : Nat) (listed : Array Bool) (a : Act) (w : World), listed.size = ops.size → listed.getD n true = false → wpAny P md (dfr ops n o) (ufs P o Q) fuel listed a w → wpAny P md ops Q fuel listed a w := by
 have hlt : n < ops.size := (Array.getElem?_eq_some_iff.1 ho).1
 have never : ∀ listed : Array Bool, listed.size = ops.size → listed.getD n true = false → Region.ready md ops listed ≠ [] := fun listed hsz hn h => by
  have h1 := uj4 hb hsz h n hlt
  have : n < listed.size := by omega
  simp [this] at h1 hn
  rw [h1] at hn
  cases hn
 intro fuel
 induction fuel with
 | zero =>
  intro listed a w hsz hn h
  have h1 := h.1
  rw [uej ho] at h1
  exact absurd h1 (never listed hsz hn)
 | succ fuel ih =>
  intro listed a w hsz hn h
  refine ⟨fun h0 => absurd h0 (never listed hsz hn), fun i hi => ?_⟩
  have h2 := h.2 i (by rw [uej ho]; exact hi)
  by_cases hin : i = n
  ·subst hin
   have hall : Region.ready md ops (listed.setIfInBounds i true) = [] := by
    refine ready_nil fun j hj => ?_
    obtain ⟨_, x, hx, hxa⟩ := mem_ready.1 hi
    rw [ho] at hx
    obtain rfl := Option.some.inj hx
    by_cases hji : j = i
    ·subst hji
     have : j < listed.size := by omega
     simp [this]
    ·rw [getD_set_ne true (Ne.symm hji)]
     have h3 := List.all_eq_true.1 hs j (List.mem_range.2 hj)
     simp only [hji, decide_false, Bool.false_or, ho, Option.map_some, Option.getD_some] at h3
     obtain ⟨e, he, he2⟩ := Array.any_eq_true'.1 h3
     simp only [Bool.and_eq_true, beq_iff_eq] at he2
     have h4 := hxa e he he2.1
     rw [he2.2] at h4
     have : j < listed.size := by omega
     simp [this] at h4 ⊢
     exact h4
   have key : wpAny P md (dfr ops i o) (ufs P o Q) fuel (listed.setIfInBounds i true) a w := by
    unfold wpOp at h2
    rw [dfr_eq ho] at h2
    have hw : Region.wanted { o with op := .assign (.const (.bool true)) } (yielded (dfr ops i o) a.tmps) = true := by simp [Region.wanted, hg]
    simp only [hw, if_true] at h2
    rcases h2 with h2 | ⟨h2, _⟩
    ·simp only [Oper.wp, execOp, Sem.run_pure, Oper.upon, hd, Act.put] at h2
     exact h2
    ·exfalso
     unfold Oper.asks at h2
     have := h2.1
     have h0 : (Sem.runT P (execOp a.eval { o with op := .assign (.const (.bool true)) }) w #[]).2 = #[] := rfl
     rw [h0] at this
     simp at this
   have key2 : o.wp P a w (fun a' w' => Q .normal a' w') Q := by
    cases fuel with
    | zero => exact key.2
    | succ f => exact key.1 (by rw [uej ho]; exact hall)
   unfold wpOp
   rw [ho]
   have hw : Region.wanted o (yielded ops a.tmps) = true := by simp [Region.wanted, hg]
   simp only [hw, if_true]
   refine .inl (Oper.wp_mono (fun a' w' hq => ?_) key2)
   cases fuel with
   | zero => exact ⟨hall, hq⟩
   | succ f => exact ⟨fun _ => hq, by rw [hall]; simp⟩
  ·refine wpOp_mono (fun a' w' h3 => ih _ a' w' (by simpa using hsz) ?_ h3) (wpOp_dfr ho hin h2)
   rw [getD_set_ne true hin]
   exact hn
theorem ud8 {id : Nat} {a : Act} {w : World} (n : Nat) (o : Oper) (ho : ops[n]? = some o) (hm : P.follows .mixedOrders = true) (hd : o.dst = none) (hg : o.guard = none) (hb : backB .any ops = true) (hs : sinkN .any ops n = true)
  (hS : S w.drew) (h : S w.drew → wpAnyH P .any (dfr ops n o) (ufs P o Q) S ops.size (Array.replicate ops.size false) a w.drew) : (Code.region id ops true).wp P Q a w :=
 have hlt : n < ops.size := (Array.getElem?_eq_some_iff.1 ho).1
 wp_region_any hm (uho ho hd hg hb hs _ _ _ _ (by simp) (by simp [hlt]) (wpAny_of_held _ _ _ _ (h hS)))
end
open Go.RowKit
theorem uSa {α : Type _} (l : List α) (i : Nat) (a : α) : l.toArray.setIfInBounds i a = (l.set i a).toArray := by rw [List.setIfInBounds_toArray]
theorem uSb {α : Type _} (a : α) (l : List α) (b : α) : (a :: l).set 0 b = b :: l := rfl
theorem uSc {α : Type _} (a : α) (l : List α) (n : Nat) (b : α) : (a :: l).set (n + 1) b = a :: l.set n b := rfl
inductive Nth : List Oper → Nat → Oper → Prop
 | z {o : Oper} {l : List Oper} : Nth (o :: l) 0 o
 | s {o x : Oper} {l : List Oper} {n : Nat} : Nth l n o → Nth (x :: l) (n + 1) o
theorem Nth.get {l : List Oper} {n : Nat} {o : Oper} (h : Nth l n o) : l.toArray[n]? = some o := by
 induction h with
 | z => rfl
 | s _ ih => simpa using ih
inductive Dfr : List Oper → Nat → Oper → List Oper → Prop
 | z {d : Option Tmp} {op : Op} {t : TypeId} {p : String} {e : Array Edge} {g : Option (Nat × Bool)} {l : List Oper} : Dfr ({ dst := d, op := op, type := t, pos := p, after := e, guard := g } :: l) 0 { dst := d, op := op, type := t, pos := p, after := e, guard := g } ({ dst := d, op := .assign (.const (.bool true)), type := t, pos := p, after := e, guard := g } :: l)
 | s {o x : Oper} {l l' : List Oper} {n : Nat} : Dfr l n o l' → Dfr (x :: l) (n + 1) o (x :: l')
theorem Dfr.get {l l' : List Oper} {n : Nat} {o : Oper} (h : Dfr l n o l') : l[n]? = some o ∧ l.set n { o with op := .assign (.const (.bool true)) } = l' := by
 induction h with
 | z => exact ⟨rfl, rfl⟩
 | s _ ih => exact ⟨by simpa using ih.1, by simpa using ih.2⟩
section
variable {P : Program} {md : Region.Mode} {l : List Oper} {Q : Exit → Act → World → Prop} {S : World → Prop} {fuel : Nat} {listed : Array Bool} {a : Act} {w : World}
theorem tk (i : Nat) (v : Value) (hS : S w) {oi : Oper} {b' : Act} (hn : Nth l i oi := by repeat constructor) (hs : Region.noSelect l.toArray = true := by kernel_rfl) (hf : Region.free md l.toArray listed i = true := by kernel_rfl) (hr : (Region.ready md l.toArray listed).contains i = true := by kernel_rfl)
  (hw : Region.wanted oi (yielded l.toArray a.tmps) = true := by rfl) (hy : ∀ w', (execOp a.eval oi).run P w' = .ok (.value v) w' := by (intro w'; go_simp; try with_reducible rfl))
  (ha : a.put oi.dst v = b' := by first | (simp only [Act.put, uSa, uSb, uSc]; done) | (simp only [Act.put, uSa, uSb, uSc]; exact rfl) | exact rfl)
  (hQ : ∀ c a w, Q (.panic c) (a.put oi.dst v) w → Q (.panic c) a w := by exact fun _ _ _ h => h)
  (h : wpAnyH P md l.toArray Q S fuel (listed.setIfInBounds i true) b' w) : wpAnyH P md l.toArray Q S (fuel + 1) listed a w :=
 wpAnyH_take hn.get hs hf hr hQ (.inl ⟨hw, fun w' _ => hy w'⟩) hS (ha ▸ h)
theorem tkK (i : Nat) (v : Value) (hS : S w) {oi : Oper} {b' : Act} (hn : Nth l i oi := by repeat constructor) (hs : Region.noSelect l.toArray = true := by kernel_rfl) (hf : Region.free md l.toArray listed i = true := by kernel_rfl) (hr : (Region.ready md l.toArray listed).contains i = true := by kernel_rfl)
  (hw : Region.wanted oi (yielded l.toArray a.tmps) = true := by rfl) (hy : ∀ w', (execOp a.eval oi).run P w' = .ok (.value v) w' := by (intro w'; kernel_rfl))
  (ha : a.put oi.dst v = b' := by first | (simp only [Act.put, uSa, uSb, uSc]; done) | (simp only [Act.put, uSa, uSb, uSc]; exact rfl) | exact rfl)
  (hQ : ∀ c a w, Q (.panic c) (a.put oi.dst v) w → Q (.panic c) a w := by exact fun _ _ _ h => h)
  (h : wpAnyH P md l.toArray Q S fuel (listed.setIfInBounds i true) b' w) : wpAnyH P md l.toArray Q S (fuel + 1) listed a w :=
 wpAnyH_take hn.get hs hf hr hQ (.inl ⟨hw, fun w' _ => hy w'⟩) hS (ha ▸ h)
theorem tkC {SB : Nat → Prop} {W : World} (i : Nat) {b o : Nat} {v : Value} (g : W.cell? ⟨b, o, none⟩ = some v) (ns : ¬ SB b) (hS : Gou.Mod SB W w) {oi : Oper} {b' : Act} (hn : Nth l i oi := by repeat constructor) (hs : Region.noSelect l.toArray = true := by kernel_rfl) (hf : Region.free md l.toArray listed i = true := by kernel_rfl) (hr : (Region.ready md l.toArray listed).contains i = true := by kernel_rfl)
  (hw : Region.wanted oi (yielded l.toArray a.tmps) = true := by rfl) (hy : ∀ w' : World, w'.cell? ⟨b, o, none⟩ = some v → (execOp a.eval oi).run P w' = .ok (.value v) w' := by (intro w' g; go_simp; try with_reducible rfl))
  (ha : a.put oi.dst v = b' := by first | (simp only [Act.put, uSa, uSb, uSc]; done) | (simp only [Act.put, uSa, uSb, uSc]; exact rfl) | exact rfl)
  (hQ : ∀ c a w, Q (.panic c) (a.put oi.dst v) w → Q (.panic c) a w := by exact fun _ _ _ h => h)
  (h : wpAnyH P md l.toArray Q (fun w' => Gou.Mod SB W w') fuel (listed.setIfInBounds i true) b' w) : wpAnyH P md l.toArray Q (fun w' => Gou.Mod SB W w') (fuel + 1) listed a w :=
 wpAnyH_take hn.get hs hf hr hQ (.inl ⟨hw, fun w' hw' => hy w' ((hw'.cell (p := ⟨b, o, none⟩) (wbc _ _ g) ns).trans g)⟩) hS (ha ▸ h)
theorem rd (i : Nat) {o : Oper} (hn : Nth l i o := by repeat constructor) (hr : Region.ready md l.toArray listed = [i] := by kernel_rfl) (hw : Region.wanted o (yielded l.toArray a.tmps) = true := by rfl)
  (h : ∀ K : Act → World → Prop, Shut (∀ a w, S w → (S w → wpAnyH P md l.toArray Q S fuel (listed.setIfInBounds i true) a w) → K a w) → Oper.wp P o a w K Q) : wpAnyH P md l.toArray Q S (fuel + 1) listed a w :=
 wpAnyH_ready hr (by simp) (AllReadyH.cons hn.get (fun K hK => by rw [if_pos hw]; exact h K hK) AllReadyH.nil)
theorem wdf (n : Nat) {id : Nat} {o : Oper} {l' : List Oper} (hS : S w.drew) (hn : Dfr l n o l' := by repeat constructor) (hm : P.follows .mixedOrders = true := by kernel_rfl) (hd : o.dst = none := by rfl) (hg : o.guard = none := by rfl) (hb : backB .any l.toArray = true := by kernel_rfl) (hs : sinkN .any l.toArray n = true := by kernel_rfl)
  (h : S w.drew → wpAnyH P .any l'.toArray (ufs P o Q) S l.toArray.size (Array.replicate l.toArray.size false) a w.drew) : (Code.region id l.toArray true).wp P Q a w :=
 ud8 n o (by simpa using hn.get.1) hm hd hg hb hs hS (fun g => by
  have e : dfr l.toArray n o = l'.toArray := by unfold dfr; rw [List.setIfInBounds_toArray, hn.get.2]
  rw [e]; exact h g)
end
section
variable {P : Program} {ops : Array Oper} {rest : List Oper} {a : Act} {w : World} {Q : Exit → Act → World → Prop} {T : TypeId} {b o n : Nat} {d : TypeDesc} {dst : Option Tmp} {x y : Operand} {t : TypeId} {p : String} {e : Array Edge} {g : Option (Nat × Bool)}
theorem lT (T : TypeId) (h : wpList P ops Q ({ dst := dst, op := .load T x, type := t, pos := p, after := e, guard := g } :: rest) a w) : wpList P ops Q ({ dst := dst, op := .load T x, type := t, pos := p, after := e, guard := g } :: rest) a w := h
theorem sT (T : TypeId) (h : wpList P ops Q ({ dst := dst, op := .store T x y, type := t, pos := p, after := e, guard := g } :: rest) a w) : wpList P ops Q ({ dst := dst, op := .store T x y, type := t, pos := p, after := e, guard := g } :: rest) a w := h
theorem ldA {cs : List Value} {v : Array Value} (hc : w.rangeAt b o cs) (hu : P.underlying T = some d) (hi : (P.info? T).map (·.size) = some n) (hn : cs.length = n := by rfl) (hx : a.eval x = .pointer (some ⟨b, o, none⟩) := by rfl) (hd : d.isRow = true := by rfl) (hv : cs.toArray = v := by first | exact Array.toArray_toList .. | rfl)
  (h : wpList P ops Q rest (a.put dst (.agg v)) w) : wpList P ops Q ({ dst := dst, op := .load T x, type := t, pos := p, after := e, guard := none } :: rest) a w :=
 wpList_load_mid rfl T x rfl b o hx cs d hc hu hd (by rw [hn]; exact hi) (by rw [hv]; exact h)
theorem stA (cells : Array Value) (ht : w.there b o n) (hi : (P.info? T).map (·.size) = some n) (h1 : cells.all (·.oneCell') = true) (hn : cells.size = n := by rfl) (hx : a.eval x = .pointer (some ⟨b, o, none⟩) := by rfl) (hy : a.eval y = .agg cells := by rfl)
  (h : wpList P ops Q rest a (w.setCells b o cells.toList)) : wpList P ops Q ({ dst := none, op := .store T x y, type := t, pos := p, after := e, guard := none } :: rest) a w :=
 wpList_store_mid rfl T x y rfl b o cells hx hy (by rw [hn]; exact ht) (by rw [hn]; exact hi) h1 h
end
theorem ul0 {P : Program} {ev : Operand → Value} {d : Option Tmp} {T ty : TypeId} {x y : Operand} {pos : String} {af : Array Edge} {g : Option (Nat × Bool)} {r : Value} {w : World} (h : (Instr.index T (ev x) (ev y)).run P w = .ok r w) :
  (execOp ev { dst := d, op := .index T x y, type := ty, pos := pos, after := af, guard := g }).run P w = .ok (.value r) w := by
 unfold execOp
 simp only [Sem.run_bind, h, Result.andThen_ok, Sem.run_pure]
theorem six {k : Nat} (h : k < 16) : k = 0 ∨ k = 1 ∨ k = 2 ∨ k = 3 ∨ k = 4 ∨ k = 5 ∨ k = 6 ∨ k = 7 ∨ k = 8 ∨ k = 9 ∨ k = 10 ∨ k = 11 ∨ k = 12 ∨ k = 13 ∨ k = 14 ∨ k = 15 := by omega
theorem lt4 {j : Nat} (h : j < 4) : j = 0 ∨ j = 1 ∨ j = 2 ∨ j = 3 := by omega
def Pxl.at (p : Pxl) (i : Nat) : Nat := if i = 0 then p.p0 else if i = 1 then p.p1 else if i = 2 then p.p2 else p.p3
def hx (k : Nat) : Nat := (Go.Txt.hexd k).toNat
def hxs (p : Pxl) : Nat → List Nat
 | 0 => []
 | i + 1 => hxs p i ++ [hx (p.at i / 16), hx (p.at i % 16)]
theorem hxs_four (p : Pxl) : hxs p 4 = (Go.Txt.pxW p).map fun c => c.toNat := rfl
theorem Pxl.at_lt {p : Pxl} (h : p.Small) (i : Nat) : p.at i < 256 := by
 obtain ⟨h0, h1, h2, h3⟩ := h
 unfold Pxl.at
 split
 ·exact h0
 split
 ·exact h1
 split
 ·exact h2
 ·exact h3
end Go.Gou
namespace Go.Proofs.YtgolafbneiffpaaGreatDoor
open Go.RowKit Go.Gou Go.Txt
set_option maxRecDepth 100000
theorem T_u8 : RowT Tryz.prog 61 5 1 1 (.int .u8 0) := ⟨Tryz.underlying61, by kernel_rfl, rfl, by omega⟩
theorem uvj {k : Nat} (h : k < 16) (w : World) : (Instr.index 9 (.string ⟨#[48, 49, 50, 51, 52, 53, 54, 55, 56, 57, 97, 98, 99, 100, 101, 102]⟩) (.int .u8 ((k : Nat) : Int))).run Tryz.prog w = .ok (.int .u8 ((hx k : Nat) : Int)) w := by
 rcases six h with rfl | rfl | rfl | rfl | rfl | rfl | rfl | rfl | rfl | rfl | rfl | rfl | rfl | rfl | rfl | rfl <;> kernel_rfl
theorem lpx_any (w : World) (L : Nat) (ws : List Wd) (vs : Value) (p : Pxl) (h : Ln w L ws vs) (hp : p.Small) (hl : ws.length ≤ 900000000) :
  Calls Tryz.prog 106 #[.pointer (some ⟨L, 0, none⟩), .agg #[.int .u8 (p.p0 : Nat), .int .u8 (p.p1 : Nat), .int .u8 (p.p2 : Nat), .int .u8 (p.p3 : Nat)]] w (LnP w L ws vs [pxW p]) := by
 have H := hd' h
 have Hp := hd' hp
 have Hl := hd' hl
 clear h hp hl
 go_enter Tryz.func106, Tryz.ntmps106
 go_wp2_with fail
 have HM0 := hd' (Gou.Mod.alloc0 w (.cells #[.int .u8 (p.p0 : Nat), .int .u8 (p.p1 : Nat), .int .u8 (p.p2 : Nat), .int .u8 (p.p3 : Nat)] 27))
 have HS0 : Hid ((w.alloc (.cells #[.int .u8 (p.p0 : Nat), .int .u8 (p.p1 : Nat), .int .u8 (p.p2 : Nat), .int .u8 (p.p3 : Nat)] 27)).heap.size = w.heap.size + 1) := hd' (by simp)
 generalize w.alloc (.cells #[.int .u8 (p.p0 : Nat), .int .u8 (p.p1 : Nat), .int .u8 (p.p2 : Nat), .int .u8 (p.p3 : Nat)] 27) = W0 at *
 go_loopw [4, 8] (fun vb vi wr => ∃ i : Nat, vi = iV i ∧ i ≤ 4 ∧ wr.ownsRow W0.heap.size 5 1 vb (2 * i) (u8s (hxs p i)) ∧ Gou.Mod (fun _ => False) W0 wr) (fun _ vi _ => 4 - (intOf vi).toNat)
 case atStart => exact ⟨0, rfl, by omega, World.ownsRow_nil _ _ _ _, Gou.Mod.refl _ _⟩
 case round =>
  obtain ⟨i, rfl, hi, hown, hm⟩ := hrel
  have Hown := hd' hown
  have Hm := hd' hm
  obtain ⟨pb, cb, rfl⟩ := Gou.ownsRow_form hown
  clear hown hm
  have hi1 : wrap64 ((i : Int) + 1) = (i : Int) + 1 := IntWalk.wrap64_in _ (by omega)
  by_cases hi4 : i < 4
  ·have t1 : decide ((i : Int) < 4) = true := dqt (by omega)
   have j0 : (0 : Int) ≤ (i : Int) := by omega
   have j1 : (i : Int) < 4 := by omega
   have ij : ∀ w' : World, (Instr.index 27 (.agg #[.int .u8 (p.p0 : Nat), .int .u8 (p.p1 : Nat), .int .u8 (p.p2 : Nat), .int .u8 (p.p3 : Nat)]) (iV (i : Int))).run Tryz.prog w' = .ok (.int .u8 ((p.at i : Nat) : Int)) w' := by
    rcases lt4 hi4 with rfl | rfl | rfl | rfl <;> (intro w'; kernel_rfl)
   have Hc := hd' (Pxl.at_lt Hp.o i)
   have Hi4 := hd' hi4
   have Hx : Hid (hxs p (i + 1) = hxs p i ++ [hx (p.at i / 16), hx (p.at i % 16)]) := hd' rfl
   generalize p.at i = c at *
   have d0 := fun w' => uvj (show c / 16 < 16 by have := Hc.o; omega) w'
   have d1 := fun w' => uvj (show c % 16 < 16 by have := Hc.o; omega) w'
   generalize hx (c / 16) = ha at *
   generalize hx (c % 16) = hb at *
   have q0 : Int.tdiv (c : Int) 16 = ((c / 16 : Nat) : Int) := by rw [Int.tdiv_eq_ediv_of_nonneg (by omega)]; omega
   have q1 : Int.tmod (c : Int) 16 = ((c % 16 : Nat) : Int) := by rw [Int.tmod_eq_emod_of_nonneg (by omega)]; omega
   have u0 : IntKind.u8.wrap ((c / 16 : Nat) : Int) = ((c / 16 : Nat) : Int) := IntWalk.u8_in _ (by have := Hc.o; omega)
   have u1 : IntKind.u8.wrap ((c % 16 : Nat) : Int) = ((c % 16 : Nat) : Int) := IntWalk.u8_in _ (by have := Hc.o; omega)
   have u2 : IntKind.u8.wrap ((c : Int) / 16) = (c : Int) / 16 := IntWalk.u8_in _ (by have := Hc.o; omega)
   have u3 : IntKind.u8.wrap ((c : Int) % 16) = (c : Int) % 16 := IntWalk.u8_in _ (by have := Hc.o; omega)
   go_wp2_with fail
   refine wp_region_held_drew (S := fun w' => Gou.Mod (fun k => (Value.slice pb (2 * i) cb).ownBlock = some k) wr w') (by kernel_rfl) (Gou.Mod.drew _ _) (fun hH => ?_)
   refine tk 0 (.slice pb (2 * i) cb) hH (h := ?_)
   refine tk 1 (.int .u8 (c : Nat)) hH (h := ?_)
   refine tk 2 (.int .u8 ((c / 16 : Nat) : Int)) hH (h := ?_)
   refine tk 3 (.int .u8 ((ha : Nat) : Int)) hH (hy := fun w' => ul0 (d0 w')) (h := ?_)
   refine tk 4 (.int .u8 (c : Nat)) hH (h := ?_)
   refine tk 5 (.int .u8 ((c % 16 : Nat) : Int)) hH (h := ?_)
   refine tk 6 (.int .u8 ((hb : Nat) : Int)) hH (hy := fun w' => ul0 (d1 w')) (h := ?_)
   refine rd 7 (h := fun K hK => ?_)
   go_simp
   have M := hd' (((Gou.Mod.alloc0 wr (.cells #[.int .u8 ((ha : Nat) : Int), .int .u8 ((hb : Nat) : Int)] 5)).imp fun _ _ h => h.elim).trans' (Gou.Mod.drew (fun k => (Value.slice pb (2 * i) cb).ownBlock = some k) _))
   clear hH
   refine hK _ _ M.o (fun hH => ?_)
   clear hK K M
   try simp only [Act.put, uSa, uSb, uSc]
   refine rd 8 (h := fun K hK => ?_)
   have HB8 := hd' (Blk.mod (Blk.new wr 5 #[.int .u8 ((ha : Nat) : Int), .int .u8 ((hb : Nat) : Int)]) (Gou.Mod.drew (fun _ => False) _) (fun h => h))
   refine ual T_u8 _ _ rfl W0.heap.size (.slice pb (2 * i) cb) (2 * i) (u8s (hxs p i)) (fun _ => True) (.slice (some ⟨wr.heap.size, 0, none⟩) 2 2) 2 [.int .u8 ((ha : Nat) : Int), .int .u8 ((hb : Nat) : Int)] rfl rfl (by have := Hm.o.size; simp; omega) (uac Hown.o ((Gou.Mod.alloc0 wr _).trans' (Gou.Mod.drew _ _)) (fun _ _ h => h)) (RowG.of_blk HB8.o 1 2 rfl _ trivial) (by simp [Value.oneCell']) (by have := Hi4.o; unfold maxLen; omega) (by have := Hi4.o; omega) ?_
   intro v8 w8 G8
   have HG8 := hd' G8
   have M := hd' (hH.trans' G8.mod)
   clear hH G8
   refine hK _ _ M.o (fun hH => ?_)
   clear hK K M
   try simp only [Act.put, uSa, uSb, uSc]
   refine tk 9 v8 hH (h := ?_)
   have MS := hd' hH
   refine wpAnyH_done (by kernel_rfl) ?_ _
   clear hH
   go_wp2_with fail
   go_roundw
   case rel =>
    refine ⟨i + 1, by go_num, by have := Hi4.o; omega, ?_, Hm.o.trans MS.o (fun k hk e => by have := (Hown.o.lt _ e).1; omega)⟩
    rw [show 2 * (i + 1) = 2 * i + 2 by omega, Hx.o, show u8s (hxs p i ++ [ha, hb]) = u8s (hxs p i) ++ [.int .u8 ((ha : Nat) : Int), .int .u8 ((hb : Nat) : Int)] by simp [u8s]]
    exact HG8.o.own
   case measure => have := Hi4.o; simp [intOf, hi1]; omega
  ·obtain rfl : i = 4 := by omega
   have t1 : decide (((4 : Nat) : Int) < 4) = false := rfl
   have hr := RowG.of_own Hown.o
   obtain ⟨-, p', c', e, -, hr⟩ := hr
   simp only [Value.slice.injEq] at e
   obtain ⟨rfl, -, rfl⟩ := e
   rcases hr with hr | ⟨b, o, rfl, hb, hG, hc⟩
   ·omega
   have hcv := run_convert_bytes_back (P := Tryz.prog) wr 61 9 5 ⟨b, o, none⟩ cb (pxW p) Tryz.underlying61 Tryz.underlying5 Tryz.underlying9 (fun j hj => by
    have hv := hc j (.int .u8 (((pxW p)[j]'hj).toNat : Int)) (by
     rw [hxs_four]
     simp [u8s, hj])
    rw [show (⟨b, o, none⟩ : Addr).add j = ⟨b, o + j, none⟩ by unfold Addr.add; split <;> simp_all]
    exact hv)
   have hcv8 : (convert 61 9 (.slice (some ⟨b, o, none⟩) 8 cb)).run Tryz.prog wr = .ok (.string ⟨(pxW p).toArray⟩) wr := hcv
   have hcv9 : (convert 61 9 (.slice (some ⟨b, o, none⟩) (2 * 4) cb)).run Tryz.prog wr = .ok (.string ⟨(pxW p).toArray⟩) wr := hcv
   have HL := hd' ((H.o.other HM0.o).other Hm.o)
   have HM := hd' (HM0.o.trans' Hm.o)
   clear hc hG
   go_wp2_with fail
   refine (say_new _ L ws [pxW p] vs HL.o (by have := Hl.o; simp; omega) rfl rfl rfl).mono ?_
   rintro e w4 hP
   obtain ⟨v4, rfl, hL4, hT4⟩ := hP.from HM.o
   have HL4 := hd' hL4
   have HT4 := hd' hT4
   clear hL4 hT4
   go_wp2_with fail
   first | go_end0 | refine bpr (results_none rfl _ _ _) rfl ?_
   exact ⟨v4, rfl, HL4.o, HT4.o⟩
structure LS (w : World) (L : Nat) (ws : List Wd) (vs : Value) : Prop where
 lt : LT w
 h10 : 10 ≤ L
 ln : Ln w L ws vs
theorem LS.far {w w' : World} {L : Nat} {ws : List Wd} {vs vs' : Value} (h : LS w L ws vs) (t : WTo L w vs w' vs') : Gou.Mod (fun k => L ≤ k) w w' :=
 t.mod.imp fun k _ hk => by
  rcases hk with rfl | hk
  ·exact Nat.le_refl _
  ·have := (h.ln.own.lt _ hk).1; omega
theorem LS.mod {w w' : World} {L : Nat} {ws us : List Wd} {vs vs' : Value} (h : LS w L ws vs) (t : WTo L w vs w' vs') (hl : Ln w' L us vs') : LS w' L us vs' :=
 ⟨h.lt.up (h.far t) (fun k hk => by have := h.h10; omega), h.h10, hl⟩
theorem LS.other {w w' : World} {L : Nat} {ws : List Wd} {vs : Value} (h : LS w L ws vs) (hm : Gou.Mod (fun _ => False) w w') : LS w' L ws vs :=
 ⟨h.lt.up0 hm, h.h10, h.ln.other hm⟩
structure Loc (w : World) (L : Nat) (vs : Value) (b : Nat) (T : TypeId) (cs : Array Value) : Prop where
 blk : Blk w b T cs
 ne : b ≠ L
 off : vs.ownBlock ≠ some b
theorem Loc.step {w w' : World} {L : Nat} {vs vs' : Value} {b : Nat} {T : TypeId} {cs : Array Value} (h : Loc w L vs b T cs) (t : WTo L w vs w' vs') : Loc w' L vs' b T cs :=
 ⟨h.blk.mod t.mod (by
  rintro (e | e)
  ·exact h.ne e
  ·exact h.off e), h.ne, fun e => by
  rcases t.fresh _ e with e | e
  ·exact h.off e
  ·have := Blk.lt h.blk; omega⟩
theorem Loc.other {w w' : World} {L : Nat} {vs : Value} {b : Nat} {T : TypeId} {cs : Array Value} (h : Loc w L vs b T cs) (hm : Gou.Mod (fun _ => False) w w') : Loc w' L vs b T cs := h.step (WTo.other hm vs)
theorem Loc.new {w : World} {L : Nat} {ws : List Wd} {vs : Value} (h : LS w L ws vs) (T : TypeId) (cs : Array Value) {b : Nat} (hb : w.heap.size = b) : Loc (w.alloc (.cells cs T)) L vs b T cs := by
 subst hb
 exact ⟨Blk.new w T cs, by have := Blk.lt h.ln.box; omega, fun e => by have := (h.ln.own.lt _ e).2; omega⟩
def LSP (w : World) (L : Nat) (ws : List Wd) (vs : Value) (us : List Wd) (e : Ending) (w' : World) : Prop :=
 ∃ vs', e = .returned (.tuple #[]) ∧ LS w' L (ws ++ us) vs' ∧ WTo L w vs w' vs'
theorem LSP.of {w : World} {L : Nat} {ws us : List Wd} {vs : Value} (h : LS w L ws vs) {e : Ending} {w' : World} (hp : LnP w L ws vs us e w') : LSP w L ws vs us e w' := by
 obtain ⟨v', he, hl, ht⟩ := hp
 exact ⟨v', he, h.mod ht hl, ht⟩
abbrev ute : List PanicEntry := [{ v := .iface 84 (.agg #[]), recovered := false }]
def LSF (w : World) (L : Nat) (ws : List Wd) (vs : Value) (r : Option (List Wd)) (e : Ending) (w' : World) : Prop :=
 ∃ vs', WTo L w vs w' vs' ∧ match r with
  | none => e = .panicked ute
  | some us => e = .returned (.tuple #[]) ∧ LS w' L (ws ++ us) vs'
theorem ulr {w : World} {L : Nat} {ws : List Wd} {vs : Value} (h : LS w L ws vs) (us : List Wd) (hl : ws.length + us.length ≤ 1000000000) {N n : Nat} {cs : Array Value} (hN : w.heap.size = N) (hn : us.length = n) (hc : (strs us).toArray = cs) :
  Calls Tryz.prog 34 #[.pointer (some ⟨L, 0, none⟩), .slice (some ⟨N, 0, none⟩) n n] (w.alloc (.cells cs 9)) (LSP w L ws vs us) :=
 (say_new w L ws us vs h.ln hl hN hn hc).mono fun _ _ hp => LSP.of h hp
theorem uok {w : World} {L : Nat} {ws : List Wd} {vs : Value} (h : LS w L ws vs) (xs : List Int) (hr : ∀ x ∈ xs, InR x) (hl : ws.length + xs.length ≤ 1000000000) {N n : Nat} {cs : Array Value} (hN : w.heap.size = N) (hn : xs.length = n) (hc : (ivs xs).toArray = cs) :
  Calls Tryz.prog 35 #[.pointer (some ⟨L, 0, none⟩), .slice (some ⟨N, 0, none⟩) n n] (w.alloc (.cells cs 3)) (LSP w L ws vs (nums xs)) :=
 (uud w L ws xs vs h.lt h.h10 h.ln hr hl hN hn hc).mono fun _ _ hp => LSP.of h hp
theorem row_ls {w : World} {L : Nat} {ws : List Wd} {vs v : Value} (h : LS w L ws vs) (xs : List Int) (hx : IntsR (fun b => b < L) w v xs) (hr : ∀ x ∈ xs, InR x) (hl : ws.length + xs.length ≤ 1000000000) :
  Calls Tryz.prog 35 #[.pointer (some ⟨L, 0, none⟩), v] w (LSP w L ws vs (nums xs)) :=
 (upc w L ws vs v xs h.lt h.h10 h.ln (RowG.imp hx fun k _ hG => ⟨by omega, fun e => by have := (h.ln.own.lt _ e).1; omega⟩) hr hl).mono fun _ _ hp => LSP.of h hp
theorem un5 {w : World} {L : Nat} {ws : List Wd} {vs : Value} (h : LS w L ws vs) (a b : Int) (hr : InR a ∧ InR b) (hl : ws.length ≤ 900000000) :
  Calls Tryz.prog 63 #[.pointer (some ⟨L, 0, none⟩), .agg #[iV a, iV b]] w (LSP w L ws vs (nums [a, b])) :=
 (lid_any w L ws vs (a, b) h.lt h.h10 h.ln hr hl).mono fun _ _ hp => LSP.of h hp
theorem box_ls {w : World} {L : Nat} {ws : List Wd} {vs : Value} (h : LS w L ws vs) (a b c d : Int) (hr : InR a ∧ InR b ∧ InR c ∧ InR d) (hl : ws.length ≤ 900000000) :
  Calls Tryz.prog 64 #[.pointer (some ⟨L, 0, none⟩), .agg #[iV a, iV b, iV c, iV d]] w (LSP w L ws vs (nums [a, b, c, d])) :=
 (lbox_any w L ws vs ⟨a, b, c, d⟩ h.lt h.h10 h.ln hr hl).mono fun _ _ hp => LSP.of h hp
theorem px_ls {w : World} {L : Nat} {ws : List Wd} {vs : Value} (h : LS w L ws vs) (p : Pxl) (hp : p.Small) (hl : ws.length ≤ 900000000) :
  Calls Tryz.prog 106 #[.pointer (some ⟨L, 0, none⟩), .agg #[.int .u8 (p.p0 : Nat), .int .u8 (p.p1 : Nat), .int .u8 (p.p2 : Nat), .int .u8 (p.p3 : Nat)]] w (LSP w L ws vs [pxW p]) :=
 (lpx_any w L ws vs p h.ln hp hl).mono fun _ _ hp => LSP.of h hp
theorem ulo (w : World) : Calls Tryz.prog 17 #[.bool true] w fun e w' => e = .returned (.tuple #[]) ∧ w' = w := by
 go_enter Tryz.func17, Tryz.ntmps17
 go_wp2
 go_end0
 exact ⟨rfl, rfl⟩
theorem ukv (w : World) : Calls Tryz.prog 17 #[.bool false] w fun e w' => e = .panicked ute ∧ w' = w := by
 go_enter Tryz.func17, Tryz.ntmps17
 go_wp2
 exact ⟨rfl, rfl, rfl⟩
theorem um5 (xs : List Int) : (nums xs).length = xs.length := by simp [nums]
end Go.Proofs.YtgolafbneiffpaaGreatDoor
