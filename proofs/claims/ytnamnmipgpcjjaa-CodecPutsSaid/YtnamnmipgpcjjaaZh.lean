/- Texts of the codec's proofs, laid together: PlnB, SamJ, PutA, PutB. -/
import Derived.Test.YtnamnmipgpcjjaaZf
import Derived.Test.YtnamnmipgpcjjaaZg
import Derived.RegionDies
set_option linter.unusedSimpArgs false
set_option linter.unusedVariables false
set_option linter.unusedSectionVars false
set_option linter.constructorNameAsVariable false

/- Acts as bytes: what is read is written so, and what bounds the bytes have. -/
namespace Go.Gou
open Go.RowKit

/-! Bounds. -/

def Fine (B : Nat) (es : List Nat) : Prop := es.length ≤ B ∧ ∀ b ∈ es, b < 256
theorem Fine.append {A B : Nat} {a b : List Nat} (h : Fine A a) (k : Fine B b) : Fine (A + B) (a ++ b) :=
  ⟨by rw [List.length_append]; have := h.1; have := k.1; omega, fun x hx => (List.mem_append.1 hx).elim (h.2 x) (k.2 x)⟩
theorem Fine.mono {A B : Nat} {a : List Nat} (h : Fine A a) (k : A ≤ B) : Fine B a := ⟨Nat.le_trans h.1 k, h.2⟩
theorem Fine.nil (B : Nat) : Fine B [] := ⟨Nat.zero_le _, fun _ h => nomatch h⟩
def Pxl.Small (p : Pxl) : Prop := p.p0 < 256 ∧ p.p1 < 256 ∧ p.p2 < 256 ∧ p.p3 < 256
structure PxSmall (c : Ct) : Prop where
  px : c.px.Small
  pix : ∀ p ∈ c.pix, Pxl.Small p

theorem encNums_fine {xs : List Int} {es : List Nat} (h : encNums xs = some es) : Fine (5 * xs.length) es := by
  refine ⟨encNums_len h, ?_⟩
  induction xs generalizing es with
  | nil => simp only [encNums, Option.some.injEq] at h; subst h; simp
  | cons x r ih =>
    rw [encNums] at h
    split at h
    · obtain ⟨e, he, rfl⟩ := Option.map_eq_some_iff.1 h
      intro b hb
      rcases List.mem_append.1 hb with hb | hb
      · exact encM_small _ b hb
      · exact ih he b hb
    · cases h
theorem encNode_fine {n : GNode} {es : List Nat} (h : encNode n = some es) : Fine 1015 es := by
  refine ⟨encNode_len h, ?_⟩
  unfold encNode at h
  split at h
  · obtain ⟨a, ha, h⟩ := Option.bind_eq_some_iff.1 h
    obtain ⟨b, hb, h⟩ := Option.bind_eq_some_iff.1 h
    obtain ⟨c, hc, h⟩ := Option.bind_eq_some_iff.1 h
    obtain ⟨d, hd, h⟩ := Option.bind_eq_some_iff.1 h
    simp only [Option.some.injEq] at h
    subst h
    exact ((encNums_fine ha).append ((encNums_fine hb).append ((encNums_fine hc).append (encNums_fine hd)))).2
  · cases h
theorem encNodes_fine {ns : List GNode} {es : List Nat} (h : encNodes ns = some es) : Fine (1015 * ns.length) es := by
  induction ns generalizing es with
  | nil => simp only [encNodes, Option.some.injEq] at h; subst h; exact Fine.nil _
  | cons n r ih =>
    rw [encNodes] at h
    obtain ⟨a, ha, h⟩ := Option.bind_eq_some_iff.1 h
    obtain ⟨b, hb, rfl⟩ := Option.map_eq_some_iff.1 h
    exact ((encNode_fine ha).append (ih hb)).mono (by rw [List.length_cons]; omega)
theorem encGraph_fine {g : Gr} {es : List Nat} (h : encGraph g = some es) : Fine 1015010 es := by
  unfold encGraph at h
  split at h
  · obtain ⟨a, ha, h⟩ := Option.bind_eq_some_iff.1 h
    obtain ⟨b, hb, rfl⟩ := Option.map_eq_some_iff.1 h
    exact ((encNums_fine ha).append (encNodes_fine hb)).mono (by simp only [List.length_cons, List.length_nil]; omega)
  · cases h
theorem pxBytes_fine {ps : List Pxl} (h : ∀ p ∈ ps, Pxl.Small p) : Fine (4 * ps.length) (pxBytes ps) := by
  refine ⟨Nat.le_of_eq (pxBytes_len ps), fun b hb => ?_⟩
  obtain ⟨p, hp, hb⟩ := List.mem_flatMap.1 hb
  obtain ⟨h0, h1, h2, h3⟩ := h p hp
  simp only [List.mem_cons, List.not_mem_nil, or_false] at hb
  rcases hb with rfl | rfl | rfl | rfl <;> assumption
theorem encContent_fine {c : Ct} {es : List Nat} (h : encContent c = some es) (hp : PxSmall c) : Fine 263000 es := by
  unfold encContent at h
  obtain ⟨a, ha, h⟩ := Option.bind_eq_some_iff.1 h
  split at h
  · obtain ⟨b, hb, h⟩ := Option.bind_eq_some_iff.1 h
    simp only [Option.some.injEq] at h
    subst h
    exact ((encNums_fine ha).append ((encNums_fine hb).append (pxBytes_fine (by simpa using hp.px)))).mono (by simp)
  · split at h
    · split at h
      · rename_i hk
        obtain ⟨b, hb, h⟩ := Option.bind_eq_some_iff.1 h
        simp only [Option.some.injEq] at h
        subst h
        have := countOf_le c.w c.h
        exact ((encNums_fine ha).append ((encNums_fine hb).append (pxBytes_fine hp.pix))).mono (by simp only [List.length_cons, List.length_nil]; omega)
      · cases h
    · simp only [Option.some.injEq] at h
      subst h
      exact (encNums_fine ha).mono (by simp)
set_option maxHeartbeats 2000000 in
theorem encOpr_fine {o : Opr} {es : List Nat} (h : encOpr o = some es) (hp : PxSmall o.look.content) : Fine 1100000 es := by
  unfold encOpr at h
  obtain ⟨a, ha, h⟩ := Option.bind_eq_some_iff.1 h
  have fa : Fine 10 a := by
    split at ha
    · simp only [Option.some.injEq] at ha; subst ha; exact Fine.nil _
    · exact encNums_fine ha
  have one : ∀ (xs : List Int) (r : List Nat), ((encNums xs).bind fun b => some (a ++ b)) = some r → xs.length ≤ 10 → Fine 1100000 r := by
    intro xs r h hl
    obtain ⟨b, hb, h⟩ := Option.bind_eq_some_iff.1 h
    simp only [Option.some.injEq] at h
    subst h
    exact (fa.append (encNums_fine hb)).mono (by omega)
  have gr : ∀ (g : Gr) (f : Bool) (r : List Nat), ((encNums [if f then 1 else 0]).bind fun b => if f then (encGraph g).bind fun c => some (a ++ (b ++ c)) else some (a ++ b)) = some r → Fine 1100000 r := by
    intro g f r h
    obtain ⟨b, hb, h⟩ := Option.bind_eq_some_iff.1 h
    have fb : Fine 5 b := encNums_fine hb
    split at h
    · obtain ⟨c, hc, h⟩ := Option.bind_eq_some_iff.1 h
      simp only [Option.some.injEq] at h
      subst h
      exact (fa.append (fb.append (encGraph_fine hc))).mono (by omega)
    · simp only [Option.some.injEq] at h
      subst h
      exact (fa.append fb).mono (by omega)
  split at h
  · obtain ⟨b, hb, h⟩ := Option.bind_eq_some_iff.1 h
    obtain ⟨c, hc, h⟩ := Option.bind_eq_some_iff.1 h
    simp only [Option.some.injEq] at h
    subst h
    exact (fa.append ((encNums_fine hb).append (encNums_fine hc))).mono (by simp)
  split at h
  · exact one _ _ h (by simp)
  split at h
  · exact one _ _ h (by simp)
  split at h
  · obtain ⟨b, hb, h⟩ := Option.bind_eq_some_iff.1 h
    have fb : Fine 5 b := encNums_fine hb
    split at h
    · obtain ⟨c, hc, h⟩ := Option.bind_eq_some_iff.1 h
      simp only [Option.some.injEq] at h
      subst h
      exact (fa.append (fb.append (encNums_fine hc))).mono (by simp)
    · simp only [Option.some.injEq] at h
      subst h
      exact (fa.append fb).mono (by omega)
  split at h
  · exact one _ _ h (by simp)
  split at h
  · exact one _ _ h (by simp)
  split at h
  · obtain ⟨b, hb, h⟩ := Option.bind_eq_some_iff.1 h
    simp only [Option.some.injEq] at h
    subst h
    exact (fa.append (encContent_fine hb hp)).mono (by omega)
  split at h
  · exact gr _ _ _ h
  split at h
  · exact gr _ _ _ h
  simp only [Option.some.injEq] at h
  subst h
  exact fa.mono (by omega)
theorem flagsOf_in (c : Cf) : 0 ≤ flagsOf c ∧ flagsOf c ≤ 15 := by
  obtain ⟨a, b, d, e, r⟩ := c
  cases a <;> cases b <;> cases d <;> cases e <;> exact ⟨by simp [flagsOf], by simp [flagsOf]⟩
theorem encAct_fine {a : Ac} {es : List Nat} (h : encAct a = some es) (hp : PxSmall a.op.look.content) : Fine 1100001 es := by
  unfold encAct at h
  split at h
  · rename_i hk
    obtain ⟨b, hb, h⟩ := Option.bind_eq_some_iff.1 h
    simp only [Option.some.injEq] at h
    subst h
    have fb : Fine 1100000 b := by
      split at hb
      · exact (encNums_fine hb).mono (by simp)
      split at hb
      · exact (encNums_fine hb).mono (by simp)
      split at hb
      · simp only [Option.some.injEq] at hb; subst hb; exact Fine.nil _
      exact encOpr_fine hb hp
    exact ⟨by rw [List.length_cons]; have := fb.1; omega, fun x hx => (List.mem_cons.1 hx).elim (fun e => by omega) (fb.2 x)⟩
  · cases h

/-! What is read is what is written. -/

theorem encNums_app {xs ys : List Int} {a b : List Nat} (h : encNums xs = some a) (k : encNums ys = some b) : encNums (xs ++ ys) = some (a ++ b) := by
  induction xs generalizing a with
  | nil => simp only [encNums, Option.some.injEq] at h; subst h; simpa using k
  | cons x r ih =>
    rw [encNums] at h
    split at h
    · rename_i hx
      obtain ⟨e, he, rfl⟩ := Option.map_eq_some_iff.1 h
      rw [List.cons_append, encNums, if_pos hx, ih he]
      simp
    · cases h
theorem encNums_one {x : Int} {es : List Nat} (h : numG x es) : encNums [x] = some es := by
  obtain ⟨hx, rfl⟩ := h
  rw [encNums, if_pos (show -2147483648 ≤ x ∧ x < 2147483648 from hx), encNums]
  simp
theorem timesG_len {α : Type} {G : α → List Nat → Prop} {k : Nat} {xs : List α} {es : List Nat} (h : timesG G k xs es) : xs.length = k := by
  induction k generalizing xs es with
  | zero => obtain ⟨rfl, _⟩ := h; rfl
  | succ k ih =>
    obtain ⟨xs, e1, _, h1, ⟨x, e2, _, h2, ⟨rfl, rfl⟩, rfl⟩, rfl⟩ := h
    rw [List.length_append, ih h1]
    rfl
theorem timesG_all {α : Type} {G : α → List Nat → Prop} {k : Nat} {xs : List α} {es : List Nat} (h : timesG G k xs es) : ∀ x ∈ xs, ∃ e, G x e := by
  induction k generalizing xs es with
  | zero => obtain ⟨rfl, _⟩ := h; intro x hx; cases hx
  | succ k ih =>
    obtain ⟨xs, e1, _, h1, ⟨x, e2, _, h2, ⟨rfl, rfl⟩, rfl⟩, rfl⟩ := h
    intro y hy
    rcases List.mem_append.1 hy with hy | hy
    · exact ih h1 y hy
    · obtain rfl := List.mem_singleton.1 hy
      exact ⟨e2, h2⟩
theorem timesG_num {k : Nat} {xs : List Int} {es : List Nat} (h : timesG numG k xs es) : encNums xs = some es := by
  induction k generalizing xs es with
  | zero => obtain ⟨rfl, rfl⟩ := h; rfl
  | succ k ih =>
    obtain ⟨xs, e1, _, h1, ⟨x, e2, _, h2, ⟨rfl, rfl⟩, rfl⟩, rfl⟩ := h
    rw [List.append_nil]
    exact encNums_app (ih h1) (encNums_one h2)
theorem idG_enc {i : Int × Int} {es : List Nat} (h : idG i es) : encNums [i.1, i.2] = some es := by
  obtain ⟨a, e1, _, h1, ⟨g, e2, _, h2, ⟨rfl, rfl⟩, rfl⟩, rfl⟩ := h
  rw [List.append_nil]
  exact encNums_app (xs := [a]) (encNums_one h1) (encNums_one h2)
theorem boxG_enc {l : List Int} {es : List Nat} (h : boxG l es) : encNums [(Rc.of l).x0, (Rc.of l).y0, (Rc.of l).x1, (Rc.of l).y1] = some es := by
  have hl := timesG_len h
  have he := timesG_num h
  match l, hl with
  | [a, b, c, d], _ => exact he
theorem pixelG_form {p es : List Nat} (h : pixelG p es) : p = es ∧ p.length = 4 ∧ ∀ b ∈ p, b < 256 := by
  have key : ∀ k p es, timesG rawG k p es → p = es ∧ ∀ b ∈ p, b < 256 := by
    intro k
    induction k with
    | zero => rintro p es ⟨rfl, rfl⟩; exact ⟨rfl, fun _ h => nomatch h⟩
    | succ k ih =>
      rintro p es ⟨xs, e1, _, h1, ⟨x, e2, _, ⟨hx, rfl⟩, ⟨rfl, rfl⟩, rfl⟩, rfl⟩
      obtain ⟨rfl, hs⟩ := ih _ _ h1
      refine ⟨by simp, fun b hb => ?_⟩
      rcases List.mem_append.1 hb with hb | hb
      · exact hs b hb
      · obtain rfl := List.mem_singleton.1 hb; exact hx
  obtain ⟨h1, h2⟩ := key 4 p es h
  exact ⟨h1, timesG_len h, h2⟩
theorem pixelG_enc {p es : List Nat} (h : pixelG p es) : pxBytes [Pxl.of p] = es ∧ (Pxl.of p).Small := by
  obtain ⟨rfl, hl, hs⟩ := pixelG_form h
  match p, hl with
  | [a, b, c, d], _ => exact ⟨rfl, hs a (by simp), hs b (by simp), hs c (by simp), hs d (by simp)⟩
theorem pixelsG_enc {k : Nat} {ps : List (List Nat)} {es : List Nat} (h : timesG pixelG k ps es) : pxBytes (ps.map Pxl.of) = es ∧ ∀ p ∈ ps.map Pxl.of, Pxl.Small p := by
  induction k generalizing ps es with
  | zero => obtain ⟨rfl, rfl⟩ := h; exact ⟨rfl, fun _ h => nomatch h⟩
  | succ k ih =>
    obtain ⟨xs, e1, _, h1, ⟨x, e2, _, h2, ⟨rfl, rfl⟩, rfl⟩, rfl⟩ := h
    obtain ⟨i1, i2⟩ := ih h1
    obtain ⟨p1, p2⟩ := pixelG_enc h2
    constructor
    · rw [List.map_append, List.append_nil, pxBytes, List.flatMap_append]
      rw [pxBytes] at i1 p1
      rw [i1]
      exact congrArg (e1 ++ ·) p1
    · intro p hp
      rw [List.map_append] at hp
      rcases List.mem_append.1 hp with hp | hp
      · exact i2 p hp
      · obtain rfl : p = Pxl.of x := by simpa using hp
        exact p2
theorem listG_enc {l : List Int} {es : List Nat} (h : listG l es) : ∃ e1 e2, es = e1 ++ e2 ∧ encNums [(l.length : Int)] = some e1 ∧ encNums l = some e2 ∧ l.length ≤ 100 := by
  obtain ⟨n, e1, e2, ⟨h1, hlo, hhi⟩, h2, rfl⟩ := h
  have hl := timesG_len h2
  have hn : (l.length : Int) = n := by omega
  exact ⟨e1, e2, rfl, by rw [hn]; exact encNums_one h1, timesG_num h2, by omega⟩
theorem nodeG_enc {n : GNode} {es : List Nat} (h : nodeG n es) : encNode n = some es ∧ n.ins.length ≤ 100 ∧ n.ps.length ≤ 100 := by
  obtain ⟨o, e1, _, h1, ⟨i, _, _, h2, ⟨p, _, _, h3, ⟨rfl, rfl⟩, rfl⟩, rfl⟩, rfl⟩ := h
  obtain ⟨a1, a2, rfl, b1, b2, hi⟩ := listG_enc h2
  obtain ⟨c1, c2, rfl, d1, d2, hp⟩ := listG_enc h3
  refine ⟨?_, hi, hp⟩
  unfold encNode
  rw [if_pos ⟨hi, hp⟩, show encNums [o, (i.length : Int)] = _ from encNums_app (xs := [o]) (encNums_one h1) b1]
  simp only [b2, d1, d2, Option.bind_some, Option.some.injEq, List.append_assoc, List.append_nil]
theorem nodesG_enc {k : Nat} {ns : List GNode} {es : List Nat} (h : timesG nodeG k ns es) : encNodes ns = some es := by
  have app : ∀ xs ys a b, encNodes xs = some a → encNodes ys = some b → encNodes (xs ++ ys) = some (a ++ b) := by
    intro xs
    induction xs with
    | nil => intro ys a b h k; simp only [encNodes, Option.some.injEq] at h; subst h; simpa using k
    | cons x r ih =>
      intro ys a b h k
      rw [encNodes] at h
      obtain ⟨u, hu, h⟩ := Option.bind_eq_some_iff.1 h
      obtain ⟨v, hv, rfl⟩ := Option.map_eq_some_iff.1 h
      rw [List.cons_append, encNodes, hu, ih ys v b hv k]
      simp
  induction k generalizing ns es with
  | zero => obtain ⟨rfl, rfl⟩ := h; rfl
  | succ k ih =>
    obtain ⟨xs, e1, _, h1, ⟨x, e2, _, h2, ⟨rfl, rfl⟩, rfl⟩, rfl⟩ := h
    rw [List.append_nil]
    refine app _ _ _ _ (ih h1) ?_
    rw [encNodes, (nodeG_enc h2).1, encNodes]
    simp
theorem graphG_enc {g : Gr} {es : List Nat} (h : graphG g es) : encGraph g = some es ∧ NodesBorne g.nodes := by
  obtain ⟨o, e1, _, h1, ⟨k, e2, _, ⟨h2, hlo, hhi⟩, ⟨ns, e3, _, h3, ⟨rfl, rfl⟩, rfl⟩, rfl⟩, rfl⟩ := h
  have hl := timesG_len h3
  have hk : (ns.length : Int) = k := by omega
  constructor
  · unfold encGraph
    simp only
    rw [if_pos (by omega), hk, show encNums [o, k] = _ from encNums_app (xs := [o]) (encNums_one h1) (encNums_one h2), nodesG_enc h3]
    simp
  · refine ⟨by simp only; omega, fun i n hi => ?_⟩
    obtain ⟨e, he⟩ := timesG_all h3 n (List.mem_of_getElem? hi)
    have := (nodeG_enc he).2
    omega
theorem contentG_enc {c : Ct} {es : List Nat} (h : contentG c es) : encContent c = some es ∧ c.pix.length ≤ 1000000000 ∧ PxSmall c := by
  obtain ⟨k, e1, _, h1, h, rfl⟩ := h
  have z : Pxl.zero.Small := by unfold Pxl.Small Pxl.zero; decide
  unfold encContent
  rcases h with ⟨rfl, ⟨b, e2, _, hb, ⟨p, e3, _, hp, ⟨rfl, rfl⟩, rfl⟩, rfl⟩⟩ | ⟨hk, h⟩
  · refine ⟨?_, by simp, ⟨(pixelG_enc hp).2, fun _ h => nomatch h⟩⟩
    simp only [encNums_one h1, boxG_enc hb, (pixelG_enc hp).1, Option.bind_some, if_true, List.append_nil]
  · rcases h with ⟨rfl, ⟨x, f1, _, g1, ⟨y, f2, _, g2, ⟨w, f3, _, g3, ⟨h, f4, _, g4, ⟨t, f5, _, g5, ⟨ps, f6, _, g6, ⟨rfl, rfl⟩, rfl⟩, rfl⟩, rfl⟩, rfl⟩, rfl⟩, rfl⟩⟩ | ⟨hk2, ⟨rfl, rfl⟩⟩
    · have hl := timesG_len g6
      have hc := countOf_le w h
      refine ⟨?_, by simp only [List.length_map]; omega, ⟨z, (pixelsG_enc g6).2⟩⟩
      have e : encNums [x, y, w, h, t] = some (f1 ++ (f2 ++ (f3 ++ (f4 ++ f5)))) := encNums_app (xs := [x]) (encNums_one g1) (encNums_app (xs := [y]) (encNums_one g2) (encNums_app (xs := [w]) (encNums_one g3) (encNums_app (xs := [h]) (encNums_one g4) (encNums_one g5))))
      simp only [encNums_one h1, Option.bind_some, hk, if_false, if_true, List.length_map, hl, e, (pixelsG_enc g6).1, List.append_assoc, List.append_nil]
    · refine ⟨?_, by simp, ⟨z, fun _ h => nomatch h⟩⟩
      simp only [encNums_one h1, Option.bind_some, hk, hk2, if_false, List.append_nil]
theorem confG_enc {c : Cf} {es : List Nat} (h : confG c es) : encNums [flagsOf c, c.room] = some es := by
  obtain ⟨n, e1, _, ⟨h1, hlo, hhi⟩, ⟨r, e2, _, h2, ⟨rfl, rfl⟩, rfl⟩, rfl⟩ := h
  rw [List.append_nil]
  have : flagsOf ⟨decide (n % 2 = 1), decide (n / 2 % 2 = 1), decide (n / 4 % 2 = 1), decide (n / 8 % 2 = 1), r⟩ = n := by
    have : n = 0 ∨ n = 1 ∨ n = 2 ∨ n = 3 ∨ n = 4 ∨ n = 5 ∨ n = 6 ∨ n = 7 ∨ n = 8 ∨ n = 9 ∨ n = 10 ∨ n = 11 ∨ n = 12 ∨ n = 13 ∨ n = 14 ∨ n = 15 := by omega
    rcases this with rfl | rfl | rfl | rfl | rfl | rfl | rfl | rfl | rfl | rfl | rfl | rfl | rfl | rfl | rfl | rfl <;> rfl
  rw [this]
  exact encNums_app (xs := [n]) (encNums_one h1) (encNums_one h2)
theorem flagG_enc {f : Bool} {es : List Nat} (h : flagG f es) : encNums [if f then 1 else 0] = some es := by
  unfold flagG at h
  subst h
  have h1 : encNum 1 = [2] := encM_lt (by decide)
  have h0 : encNum 0 = [0] := encM_lt (by decide)
  cases f
  · simp [encNums, h0]
  · simp [encNums, h1]
theorem LookBorne.zero : LookBorne Lk.zero := ⟨by simp [Lk.zero, Ct.zero], ⟨by simp [Lk.zero, Gr.zero], by simp [Lk.zero, Gr.zero]⟩, ⟨by simp [Lk.zero, Gr.zero], by simp [Lk.zero, Gr.zero]⟩⟩
theorem PxSmall.zero : PxSmall Ct.zero := ⟨by unfold Pxl.Small; decide, fun _ h => nomatch h⟩
/-- What a look's bytes say of it. -/
structure LookG (k : Int) (l : Lk) : Prop where
  borne : LookBorne l
  small : PxSmall l.content

theorem lookG_enc {k : Int} {l : Lk} {e4 : List Nat} (h : lookG k l e4) : LookG k l ∧
    ∀ (a : List Nat) (i t : Int × Int) (at_ : Int), (if k = 1 then some [] else encNums [i.1, i.2]) = some a → k ≠ 1 → k ≠ 3 → k ≠ 4 → encOpr ⟨k, i, t, at_, l⟩ = some (a ++ e4) := by
  have z := LookBorne.zero
  have s := PxSmall.zero
  rcases h with ⟨rfl, x, e1, _, h1, ⟨y, e2, _, h2, ⟨rfl, rfl⟩, rfl⟩, rfl⟩ | ⟨h5, h⟩
  · refine ⟨⟨⟨z.pix, z.filt, z.back⟩, s⟩, fun a i t at_ ha k1 k3 k4 => ?_⟩
    have e := encNums_app (xs := [x]) (encNums_one h1) (encNums_one h2)
    simp only [List.singleton_append] at e
    simp [encOpr] at ha ⊢
    simp [ha, e]
  rcases h with ⟨rfl, f, e1, _, h1, h, rfl⟩ | ⟨h6, h⟩
  · rcases h with ⟨rfl, b, e2, _, h2, ⟨rfl, rfl⟩, rfl⟩ | ⟨hf, ⟨rfl, rfl⟩⟩
    · refine ⟨⟨⟨z.pix, z.filt, z.back⟩, s⟩, fun a i t at_ ha k1 k3 k4 => ?_⟩
      have e := boxG_enc h2
      have g := flagG_enc h1
      simp at g
      simp [encOpr] at ha ⊢
      simp [ha, e, g]
    · refine ⟨⟨z, s⟩, fun a i t at_ ha k1 k3 k4 => ?_⟩
      have g := flagG_enc h1
      simp at hf
      simp [hf] at g
      simp [encOpr, Lk.zero] at ha ⊢
      simp [ha, g]
  rcases h with ⟨rfl, x, e1, _, h1, ⟨rfl, rfl⟩, rfl⟩ | ⟨h7, h⟩
  · refine ⟨⟨⟨z.pix, z.filt, z.back⟩, s⟩, fun a i t at_ ha k1 k3 k4 => ?_⟩
    have e := encNums_one h1
    simp [encOpr] at ha ⊢
    simp [ha, e]
  rcases h with ⟨rfl, x, e1, _, h1, ⟨rfl, rfl⟩, rfl⟩ | ⟨h8, h⟩
  · refine ⟨⟨⟨z.pix, z.filt, z.back⟩, s⟩, fun a i t at_ ha k1 k3 k4 => ?_⟩
    have e := encNums_one h1
    simp [encOpr] at ha ⊢
    simp [ha, e]
  rcases h with ⟨rfl, c, e1, _, h1, ⟨rfl, rfl⟩, rfl⟩ | ⟨h9, h⟩
  · obtain ⟨e, hb, hs⟩ := contentG_enc h1
    refine ⟨⟨⟨hb, z.filt, z.back⟩, hs⟩, fun a i t at_ ha k1 k3 k4 => ?_⟩
    simp [encOpr] at ha ⊢
    simp [ha, e]
  rcases h with ⟨rfl, f, e1, _, h1, h, rfl⟩ | ⟨h10, h⟩
  · rcases h with ⟨rfl, b, e2, _, h2, ⟨rfl, rfl⟩, rfl⟩ | ⟨hf, ⟨rfl, rfl⟩⟩
    · obtain ⟨e, hb⟩ := graphG_enc h2
      refine ⟨⟨⟨z.pix, hb, z.back⟩, s⟩, fun a i t at_ ha k1 k3 k4 => ?_⟩
      have g := flagG_enc h1
      simp at g
      simp [encOpr] at ha ⊢
      simp [ha, e, g]
    · refine ⟨⟨z, s⟩, fun a i t at_ ha k1 k3 k4 => ?_⟩
      have g := flagG_enc h1
      simp at hf
      simp [hf] at g
      simp [encOpr, Lk.zero] at ha ⊢
      simp [ha, g]
  rcases h with ⟨rfl, f, e1, _, h1, h, rfl⟩ | ⟨h11, h⟩
  · rcases h with ⟨rfl, b, e2, _, h2, ⟨rfl, rfl⟩, rfl⟩ | ⟨hf, ⟨rfl, rfl⟩⟩
    · obtain ⟨e, hb⟩ := graphG_enc h2
      refine ⟨⟨⟨z.pix, z.filt, hb⟩, s⟩, fun a i t at_ ha k1 k3 k4 => ?_⟩
      have g := flagG_enc h1
      simp at g
      simp [encOpr] at ha ⊢
      simp [ha, e, g]
    · refine ⟨⟨z, s⟩, fun a i t at_ ha k1 k3 k4 => ?_⟩
      have g := flagG_enc h1
      simp at hf
      simp [hf] at g
      simp [encOpr, Lk.zero] at ha ⊢
      simp [ha, g]
  obtain ⟨rfl, rfl⟩ := h
  refine ⟨⟨z, s⟩, fun a i t at_ ha k1 k3 k4 => ?_⟩
  rw [if_neg k1] at ha
  simp only [encOpr, ha, Option.bind_some, k1, k3, k4, h5, h6, h7, h8, h9, h10, h11, or_self, if_false, List.append_nil]

theorem oprG_enc {k : Int} {o : Opr} {es : List Nat} (h : oprG k o es) : encOpr o = some es ∧ o.kind = k ∧ LookG k o.look := by
  obtain ⟨i, a, _, hi, ⟨t, e2, _, ht, ⟨at_, e3, _, ha, ⟨l, e4, _, hl, ⟨rfl, rfl⟩, rfl⟩, rfl⟩, rfl⟩, rfl⟩ := h
  obtain ⟨hL, key⟩ := lookG_enc hl
  refine ⟨?_, rfl, hL⟩
  have hid : (if k = 1 then some [] else encNums [i.1, i.2]) = some a := by
    rcases hi with ⟨h1, _, rfl⟩ | ⟨h1, h⟩
    · rw [if_pos h1]
    · rw [if_neg h1]; exact idG_enc h
  by_cases h13 : k = 1 ∨ k = 3
  · have ht' : idG t e2 := ht.elim (fun h => h.2) fun h => absurd h13 h.1
    have ha' : numG at_ e3 := by
      rcases ha with ⟨_, h⟩ | ⟨h, _⟩
      · exact h
      · exact absurd (h13.elim .inl fun h => .inr (.inl h)) h
    have hl' : e4 = [] := by
      rcases h13 with rfl | rfl <;> · simp [lookG, GIte, GPure] at hl; exact hl.2
    subst hl'
    simp only [encOpr, hid, Option.bind_some, h13, if_true, idG_enc ht', encNums_one ha', List.append_nil, List.append_assoc]
  · have ht' : e2 = [] := ht.elim (fun h => absurd h.1 h13) fun h => h.2.2
    subst ht'
    by_cases h4 : k = 4
    · have ha' : numG at_ e3 := by
        rcases ha with ⟨_, h⟩ | ⟨h, _⟩
        · exact h
        · exact absurd (.inr (.inr h4)) h
      have hl' : e4 = [] := by subst h4; simp [lookG, GIte, GPure] at hl; exact hl.2
      subst hl'
      unfold encOpr
      simp only
      rw [hid, Option.bind_some, if_neg h13, if_pos h4, encNums_one ha', Option.bind_some]
      simp
    · have ha' : e3 = [] := by
        rcases ha with ⟨h, _⟩ | ⟨_, _, h⟩
        · omega
        · exact h
      subst ha'
      simpa using key a i t at_ hid (fun h => h13 (.inl h)) (fun h => h13 (.inr h)) h4

/-- What is read is written so. -/
theorem actG_enc {a : Ac} {es : List Nat} (h : actG a es) : encAct a = some es ∧ LookBorne a.op.look ∧ PxSmall a.op.look.content := by
  obtain ⟨b, _, _, ⟨hb, rfl⟩, h, rfl⟩ := h
  have z : LookBorne Opr.zero.look ∧ PxSmall Opr.zero.look.content := ⟨LookBorne.zero, PxSmall.zero⟩
  rcases h with ⟨hr, h⟩ | ⟨_, h⟩
  · rcases h with ⟨rfl, x, e1, _, h1, ⟨y, e2, _, h2, ⟨rfl, rfl⟩, rfl⟩, rfl⟩ | ⟨h12, h⟩
    · have e := encNums_app (xs := [x]) (encNums_one h1) (encNums_one h2)
      simp only [List.singleton_append] at e
      refine ⟨?_, z⟩
      simp [encAct, e]
    rcases h with ⟨rfl, c, e1, _, h1, ⟨rfl, rfl⟩, rfl⟩ | ⟨h13, h⟩
    · refine ⟨?_, z⟩
      simp [encAct, confG_enc h1]
    rcases h with ⟨rfl, ⟨rfl, rfl⟩⟩ | ⟨h14, h⟩
    · refine ⟨?_, z⟩
      simp [encAct]
    obtain ⟨o, e1, _, h1, ⟨rfl, rfl⟩, rfl⟩ := h
    obtain ⟨he, _, hL⟩ := oprG_enc h1
    refine ⟨?_, hL.borne, hL.small⟩
    unfold encAct
    simp only
    rw [if_pos (by omega), if_neg (by omega), if_neg (by omega), if_neg (by omega), he]
    simp
  · exact h.elim

/-! The bytes of an act. -/

/-- The bytes that an act has, if any. -/
def putOf (a : Ac) : Option (List Nat) := (encAct a).bind fun es => (actAt es 0).bind fun p => if p.1 = a then some es else none

theorem putOf_iff {a : Ac} {es : List Nat} (hs : PxSmall a.op.look.content) : putOf a = some es ↔ actG a es := by
  unfold putOf
  constructor
  · intro h
    obtain ⟨e, he, h⟩ := Option.bind_eq_some_iff.1 h
    obtain ⟨⟨x, m⟩, hx, h⟩ := Option.bind_eq_some_iff.1 h
    simp only at h
    split at h
    · rename_i hxa
      simp only [Option.some.injEq] at h
      subst h
      subst hxa
      obtain ⟨e', g, _, _⟩ := (act_spec (encAct_fine he hs).2 0 x m).1 hx
      rw [(actG_enc g).1] at he
      simp only [Option.some.injEq] at he
      rw [← he]
      exact g
    · cases h
  · intro g
    have he := (actG_enc g).1
    have := (act_spec (encAct_fine he hs).2 0 a es.length).2 ⟨es, g, Sits.self es, by omega⟩
    rw [he, Option.bind_some, this, Option.bind_some, if_pos rfl]

theorem putOf_of_act {bs : List Nat} (hb : ∀ b ∈ bs, b < 256) {n m : Nat} {a : Ac} (h : actAt bs n = some (a, m)) : ∃ es, putOf a = some es ∧ Sits es bs n ∧ m = n + es.length ∧ LookBorne a.op.look ∧ PxSmall a.op.look.content := by
  obtain ⟨es, g, s, e⟩ := (act_spec hb n a m).1 h
  have k := actG_enc g
  exact ⟨es, (putOf_iff k.2.2).2 g, s, e, k.2⟩
theorem act_of_putOf {bs : List Nat} (hb : ∀ b ∈ bs, b < 256) {n : Nat} {a : Ac} {es : List Nat} (hs : PxSmall a.op.look.content) (h : putOf a = some es) (s : Sits es bs n) : actAt bs n = some (a, n + es.length) :=
  (act_spec hb n a _).2 ⟨es, (putOf_iff hs).1 h, s, rfl⟩

end Go.Gou

/- Acts as bytes: two acts are held against each other. -/
namespace Go.Gou
open Go.RowKit

theorem ac_eq (c e : Ac) : c = e ↔ c.op.kind = e.op.kind ∧ c.op.id = e.op.id ∧ c.op.to = e.op.to ∧ c.op.at_ = e.op.at_ ∧ c.op.look = e.op.look ∧ c.kind = e.kind ∧ c.w = e.w ∧ c.h = e.h ∧ c.conf = e.conf := by
  obtain ⟨a1, ⟨a2, a3, a4, a5, a6⟩, a7, a8, a9⟩ := c
  obtain ⟨b1, ⟨b2, b3, b4, b5, b6⟩, b7, b8, b9⟩ := e
  constructor
  · intro h; cases h; simp
  · rintro ⟨h1, h2, h3, h4, h5, h6, h7, h8, h9⟩
    simp only at h1 h2 h3 h4 h5 h6 h7 h8 h9
    subst h1 h2 h3 h4 h5 h6 h7 h8 h9
    rfl

theorem act_look (a : Ac) (vp vf vb : Value) : (actC a vp vf vb).toList = [.int .i64 a.kind, .int .i64 a.op.kind, .int .i64 a.op.id.1, .int .i64 a.op.id.2, .int .i64 a.op.to.1, .int .i64 a.op.to.2, .int .i64 a.op.at_] ++ ((lookC a.op.look vp vf vb).toList ++ [.int .i64 a.w, .int .i64 a.h, .bool a.conf.fuse, .bool a.conf.alias, .bool a.conf.roi, .bool a.conf.damage, .int .i64 a.conf.room]) := rfl

end Go.Gou
namespace Go.Proofs.Ytnamnmipgpcjjaa
open Go.RowKit Go.Gou

set_option linter.constructorNameAsVariable false
set_option maxRecDepth 100000

theorem id_op (a b : Int × Int) (w : World) : (binOp .eql 23 (.agg #[.int .i64 a.1, .int .i64 a.2]) (.agg #[.int .i64 b.1, .int .i64 b.2])).run Try.prog w = .ok (.bool (decide (a = b))) w := by
  simp only [binOp, Sem.run_bind, id_eql, Result.andThen_ok, Sem.run_pure, Prod.ext_iff]

theorem conf_op (a b : Cf) (w : World) : (binOp .eql 39 (.agg #[.bool a.fuse, .bool a.alias, .bool a.roi, .bool a.damage, .int .i64 a.room]) (.agg #[.bool b.fuse, .bool b.alias, .bool b.roi, .bool b.damage, .int .i64 b.room])).run Try.prog w = .ok (.bool (decide (a = b))) w := by
  simp only [binOp, Sem.run_bind, conf_eql, Result.andThen_ok, Sem.run_pure]

set_option maxHeartbeats 4000000 in
theorem sameAct_any (w : World) (G1 G2 : Nat → Prop) (p1 p2 p3 q1 q2 q3 : Option Addr) (k1 k2 k3 j1 j2 j3 : Nat) (c e : Ac) (hx : LookR G1 w c.op.look (.slice p1 c.op.look.content.pix.length k1) (.slice p2 c.op.look.filt.nodes.length k2) (.slice p3 c.op.look.back.nodes.length k3)) (hy : LookR G2 w e.op.look (.slice q1 e.op.look.content.pix.length j1) (.slice q2 e.op.look.filt.nodes.length j2) (.slice q3 e.op.look.back.nodes.length j3)) (l1 : LookBorne c.op.look) (l2 : LookBorne e.op.look) :
    Calls Try.prog 23 #[.agg (AcA c p1 p2 p3 k1 k2 k3), .agg (AcA e q1 q2 q3 j1 j2 j3)] w fun r w' => r = .returned (.bool (decide (c = e))) ∧ Gou.Mod (fun _ => False) w w' := by
  have HM : Hid (Gou.Mod (fun _ => False) w ((w.alloc (.cells (AcA c p1 p2 p3 k1 k2 k3) 41)).alloc (.cells (AcA e q1 q2 q3 j1 j2 j3) 41))) := Lib.hid ((Gou.Mod.alloc _ _ _).trans' (Gou.Mod.alloc _ _ _))
  have Hx := Lib.hid (LookR.mod hx HM.out (fun _ _ _ h => h))
  have Hy := Lib.hid (LookR.mod hy HM.out (fun _ _ _ h => h))
  have L1 := Lib.hid l1
  have L2 := Lib.hid l2
  have HA : Hid (Blk ((w.alloc (.cells (AcA c p1 p2 p3 k1 k2 k3) 41)).alloc (.cells (AcA e q1 q2 q3 j1 j2 j3) 41)) w.heap.size 41 (AcA c p1 p2 p3 k1 k2 k3)) := Lib.hid ((show Blk (w.alloc (.cells (AcA c p1 p2 p3 k1 k2 k3) 41)) w.heap.size 41 _ from heap_alloc_new w _).mod (Gou.Mod.alloc (fun _ => False) _ _) (fun h => h))
  have HB : Hid (Blk ((w.alloc (.cells (AcA c p1 p2 p3 k1 k2 k3) 41)).alloc (.cells (AcA e q1 q2 q3 j1 j2 j3) 41)) (w.heap.size + 1) 41 (AcA e q1 q2 q3 j1 j2 j3)) := Lib.hid (by
    have := heap_alloc_new (w.alloc (.cells (AcA c p1 p2 p3 k1 k2 k3) 41)) (.cells (AcA e q1 q2 q3 j1 j2 j3) 41)
    rw [World.size_alloc] at this
    exact this)
  have Hra : Hid ((((w.alloc (.cells (AcA c p1 p2 p3 k1 k2 k3) 41)).alloc (.cells (AcA e q1 q2 q3 j1 j2 j3) 41))).rangeAt w.heap.size 7 (LkA c.op.look p1 p2 p3 k1 k2 k3).toList) := Lib.hid (Blk.range HA.out (act_look c _ _ _) rfl)
  have Hrb : Hid ((((w.alloc (.cells (AcA c p1 p2 p3 k1 k2 k3) 41)).alloc (.cells (AcA e q1 q2 q3 j1 j2 j3) 41))).rangeAt (w.heap.size + 1) 7 (LkA e.op.look q1 q2 q3 j1 j2 j3).toList) := Lib.hid (Blk.range HB.out (act_look e _ _ _) rfl)
  have HiA : Hid ((Try.prog.info? 35).map (·.size) = some (LkA c.op.look p1 p2 p3 k1 k2 k3).toList.length) := Lib.hid (size_look.trans (by simp [LkA, lookC]))
  have HiB : Hid ((Try.prog.info? 35).map (·.size) = some (LkA e.op.look q1 q2 q3 j1 j2 j3).toList.length) := Lib.hid (size_look.trans (by simp [LkA, lookC]))
  clear hx hy l1 l2
  have a1 : (((w.alloc (.cells (AcA c p1 p2 p3 k1 k2 k3) 41)).alloc (.cells (AcA e q1 q2 q3 j1 j2 j3) 41))).cell? ⟨w.heap.size, 1, none⟩ = some (.int .i64 c.op.kind) := HA.out.cell 1 rfl
  have b1 : (((w.alloc (.cells (AcA c p1 p2 p3 k1 k2 k3) 41)).alloc (.cells (AcA e q1 q2 q3 j1 j2 j3) 41))).cell? ⟨w.heap.size + 1, 1, none⟩ = some (.int .i64 e.op.kind) := HB.out.cell 1 rfl
  have a2 : (((w.alloc (.cells (AcA c p1 p2 p3 k1 k2 k3) 41)).alloc (.cells (AcA e q1 q2 q3 j1 j2 j3) 41))).cell? ⟨w.heap.size, 2, none⟩ = some (.int .i64 c.op.id.1) := HA.out.cell 2 rfl
  have b2 : (((w.alloc (.cells (AcA c p1 p2 p3 k1 k2 k3) 41)).alloc (.cells (AcA e q1 q2 q3 j1 j2 j3) 41))).cell? ⟨w.heap.size + 1, 2, none⟩ = some (.int .i64 e.op.id.1) := HB.out.cell 2 rfl
  have a3 : (((w.alloc (.cells (AcA c p1 p2 p3 k1 k2 k3) 41)).alloc (.cells (AcA e q1 q2 q3 j1 j2 j3) 41))).cell? ⟨w.heap.size, 3, none⟩ = some (.int .i64 c.op.id.2) := HA.out.cell 3 rfl
  have b3 : (((w.alloc (.cells (AcA c p1 p2 p3 k1 k2 k3) 41)).alloc (.cells (AcA e q1 q2 q3 j1 j2 j3) 41))).cell? ⟨w.heap.size + 1, 3, none⟩ = some (.int .i64 e.op.id.2) := HB.out.cell 3 rfl
  have a4 : (((w.alloc (.cells (AcA c p1 p2 p3 k1 k2 k3) 41)).alloc (.cells (AcA e q1 q2 q3 j1 j2 j3) 41))).cell? ⟨w.heap.size, 4, none⟩ = some (.int .i64 c.op.to.1) := HA.out.cell 4 rfl
  have b4 : (((w.alloc (.cells (AcA c p1 p2 p3 k1 k2 k3) 41)).alloc (.cells (AcA e q1 q2 q3 j1 j2 j3) 41))).cell? ⟨w.heap.size + 1, 4, none⟩ = some (.int .i64 e.op.to.1) := HB.out.cell 4 rfl
  have a5 : (((w.alloc (.cells (AcA c p1 p2 p3 k1 k2 k3) 41)).alloc (.cells (AcA e q1 q2 q3 j1 j2 j3) 41))).cell? ⟨w.heap.size, 5, none⟩ = some (.int .i64 c.op.to.2) := HA.out.cell 5 rfl
  have b5 : (((w.alloc (.cells (AcA c p1 p2 p3 k1 k2 k3) 41)).alloc (.cells (AcA e q1 q2 q3 j1 j2 j3) 41))).cell? ⟨w.heap.size + 1, 5, none⟩ = some (.int .i64 e.op.to.2) := HB.out.cell 5 rfl
  have a6 : (((w.alloc (.cells (AcA c p1 p2 p3 k1 k2 k3) 41)).alloc (.cells (AcA e q1 q2 q3 j1 j2 j3) 41))).cell? ⟨w.heap.size, 6, none⟩ = some (.int .i64 c.op.at_) := HA.out.cell 6 rfl
  have b6 : (((w.alloc (.cells (AcA c p1 p2 p3 k1 k2 k3) 41)).alloc (.cells (AcA e q1 q2 q3 j1 j2 j3) 41))).cell? ⟨w.heap.size + 1, 6, none⟩ = some (.int .i64 e.op.at_) := HB.out.cell 6 rfl
  have Hr1 := Lib.hid (id_op c.op.id e.op.id)
  have Hr2 := Lib.hid (id_op c.op.to e.op.to)
  have Hr3 := Lib.hid (conf_op c.conf e.conf)
  have HRi := Hr1.out
  have HRt := Hr2.out
  have HRc := Hr3.out
  go_enter Try.func23, Try.ntmps23
  by_cases h_op_kind : c.op.kind = e.op.kind
  case neg =>
    have q_op_kind : (c.op.kind == e.op.kind) = false := by simp [h_op_kind]
    have Hq : Hid (decide (c = e) = false) := Lib.hid (by simp [ac_eq, h_op_kind])
    clear h_op_kind
    go_wp2_with fail
    go_ret
    exact ⟨by rw [Hq.out]; rfl, HM.out⟩
  have q_op_kind : (c.op.kind == e.op.kind) = true := by simp [h_op_kind]
  have I_op_kind := Lib.hid h_op_kind
  clear h_op_kind
  by_cases h_op_id : c.op.id = e.op.id
  case neg =>
    have q_op_id : decide (c.op.id = e.op.id) = false := by simp [h_op_id]
    have Hq : Hid (decide (c = e) = false) := Lib.hid (by simp [ac_eq, h_op_id])
    clear h_op_id
    go_wp2_with fail
    go_ret
    exact ⟨by rw [Hq.out]; rfl, HM.out⟩
  have q_op_id : decide (c.op.id = e.op.id) = true := by simp [h_op_id]
  have I_op_id := Lib.hid h_op_id
  clear h_op_id
  by_cases h_op_to : c.op.to = e.op.to
  case neg =>
    have q_op_to : decide (c.op.to = e.op.to) = false := by simp [h_op_to]
    have Hq : Hid (decide (c = e) = false) := Lib.hid (by simp [ac_eq, h_op_to])
    clear h_op_to
    go_wp2_with fail
    go_ret
    exact ⟨by rw [Hq.out]; rfl, HM.out⟩
  have q_op_to : decide (c.op.to = e.op.to) = true := by simp [h_op_to]
  have I_op_to := Lib.hid h_op_to
  clear h_op_to
  by_cases h_op_at_ : c.op.at_ = e.op.at_
  case neg =>
    have q_op_at_ : (c.op.at_ == e.op.at_) = false := by simp [h_op_at_]
    have Hq : Hid (decide (c = e) = false) := Lib.hid (by simp [ac_eq, h_op_at_])
    clear h_op_at_
    go_wp2_with fail
    go_ret
    exact ⟨by rw [Hq.out]; rfl, HM.out⟩
  have q_op_at_ : (c.op.at_ == e.op.at_) = true := by simp [h_op_at_]
  have I_op_at_ := Lib.hid h_op_at_
  clear h_op_at_
  go_wp2_with (first | ((with_reducible refine wpList_load_midG ?g_1 35 ?x_1 ?o_1 w.heap.size 7 ?h_1 (LkA c.op.look p1 p2 p3 k1 k2 k3).toList ?d_1 ?c_1 ?u_1 ?s_1 ?i_1 ?r_1); (case g_1 | o_1 | h_1 => exact rfl); (case c_1 => exact Hra.out); (case u_1 => exact Try.underlying35); (case s_1 => exact rfl); (case i_1 => exact HiA.out)) | ((with_reducible refine wpList_load_midG ?g_2 35 ?x_2 ?o_2 (w.heap.size + 1) 7 ?h_2 (LkA e.op.look q1 q2 q3 j1 j2 j3).toList ?d_2 ?c_2 ?u_2 ?s_2 ?i_2 ?r_2); (case g_2 | o_2 | h_2 => exact rfl); (case c_2 => exact Hrb.out); (case u_2 => exact Try.underlying35); (case s_2 => exact rfl); (case i_2 => exact HiB.out)) | fail)
  refine (sameLook_any _ G1 G2 p1 p2 p3 q1 q2 q3 k1 k2 k3 j1 j2 j3 c.op.look e.op.look Hx.out Hy.out L1.out L2.out).mono ?_
  rintro r w1 ⟨rfl, hm1⟩
  have HM1 := Lib.hid (HM.out.trans' hm1)
  have HA1 := Lib.hid (HA.out.mod hm1 (fun h => h))
  have HB1 := Lib.hid (HB.out.mod hm1 (fun h => h))
  clear hm1
  have a0 : w1.cell? ⟨w.heap.size, 0, none⟩ = some (.int .i64 c.kind) := HA1.out.cell 0 rfl
  have b0 : w1.cell? ⟨w.heap.size + 1, 0, none⟩ = some (.int .i64 e.kind) := HB1.out.cell 0 rfl
  have a35 : w1.cell? ⟨w.heap.size, 35, none⟩ = some (.int .i64 c.w) := HA1.out.cell 35 rfl
  have b35 : w1.cell? ⟨w.heap.size + 1, 35, none⟩ = some (.int .i64 e.w) := HB1.out.cell 35 rfl
  have a36 : w1.cell? ⟨w.heap.size, 36, none⟩ = some (.int .i64 c.h) := HA1.out.cell 36 rfl
  have b36 : w1.cell? ⟨w.heap.size + 1, 36, none⟩ = some (.int .i64 e.h) := HB1.out.cell 36 rfl
  have a37 : w1.cell? ⟨w.heap.size, 37, none⟩ = some (.bool c.conf.fuse) := HA1.out.cell 37 rfl
  have b37 : w1.cell? ⟨w.heap.size + 1, 37, none⟩ = some (.bool e.conf.fuse) := HB1.out.cell 37 rfl
  have a38 : w1.cell? ⟨w.heap.size, 38, none⟩ = some (.bool c.conf.alias) := HA1.out.cell 38 rfl
  have b38 : w1.cell? ⟨w.heap.size + 1, 38, none⟩ = some (.bool e.conf.alias) := HB1.out.cell 38 rfl
  have a39 : w1.cell? ⟨w.heap.size, 39, none⟩ = some (.bool c.conf.roi) := HA1.out.cell 39 rfl
  have b39 : w1.cell? ⟨w.heap.size + 1, 39, none⟩ = some (.bool e.conf.roi) := HB1.out.cell 39 rfl
  have a40 : w1.cell? ⟨w.heap.size, 40, none⟩ = some (.bool c.conf.damage) := HA1.out.cell 40 rfl
  have b40 : w1.cell? ⟨w.heap.size + 1, 40, none⟩ = some (.bool e.conf.damage) := HB1.out.cell 40 rfl
  have a41 : w1.cell? ⟨w.heap.size, 41, none⟩ = some (.int .i64 c.conf.room) := HA1.out.cell 41 rfl
  have b41 : w1.cell? ⟨w.heap.size + 1, 41, none⟩ = some (.int .i64 e.conf.room) := HB1.out.cell 41 rfl
  by_cases h_look : c.op.look = e.op.look
  case neg =>
    have q_look : decide (c.op.look = e.op.look) = false := by simp [h_look]
    have Hq : Hid (decide (c = e) = false) := Lib.hid (by simp [ac_eq, h_look])
    clear h_look
    generalize decide (c.op.look = e.op.look) = q at *
    subst q_look
    go_wp2_with fail
    go_ret
    exact ⟨by rw [Hq.out]; rfl, HM1.out⟩
  have q_look : decide (c.op.look = e.op.look) = true := by simp [h_look]
  have I_look := Lib.hid h_look
  clear h_look
  generalize decide (c.op.look = e.op.look) = q at *
  subst q_look
  by_cases h_kind : c.kind = e.kind
  case neg =>
    have q_kind : (c.kind == e.kind) = false := by simp [h_kind]
    have Hq : Hid (decide (c = e) = false) := Lib.hid (by simp [ac_eq, h_kind])
    clear h_kind
    go_wp2_with fail
    go_ret
    exact ⟨by rw [Hq.out]; rfl, HM1.out⟩
  have q_kind : (c.kind == e.kind) = true := by simp [h_kind]
  have I_kind := Lib.hid h_kind
  clear h_kind
  by_cases h_w : c.w = e.w
  case neg =>
    have q_w : (c.w == e.w) = false := by simp [h_w]
    have Hq : Hid (decide (c = e) = false) := Lib.hid (by simp [ac_eq, h_w])
    clear h_w
    go_wp2_with fail
    go_ret
    exact ⟨by rw [Hq.out]; rfl, HM1.out⟩
  have q_w : (c.w == e.w) = true := by simp [h_w]
  have I_w := Lib.hid h_w
  clear h_w
  by_cases h_h : c.h = e.h
  case neg =>
    have q_h : (c.h == e.h) = false := by simp [h_h]
    have Hq : Hid (decide (c = e) = false) := Lib.hid (by simp [ac_eq, h_h])
    clear h_h
    go_wp2_with fail
    go_ret
    exact ⟨by rw [Hq.out]; rfl, HM1.out⟩
  have q_h : (c.h == e.h) = true := by simp [h_h]
  have I_h := Lib.hid h_h
  clear h_h
  by_cases h_conf : c.conf = e.conf
  case neg =>
    have q_conf : decide (c.conf = e.conf) = false := by simp [h_conf]
    have Hq : Hid (decide (c = e) = false) := Lib.hid (by simp [ac_eq, h_conf])
    clear h_conf
    go_wp2_with fail
    go_ret
    exact ⟨by rw [Hq.out]; rfl, HM1.out⟩
  have q_conf : decide (c.conf = e.conf) = true := by simp [h_conf]
  have I_conf := Lib.hid h_conf
  clear h_conf
  have Hq : Hid (decide (c = e) = true) := Lib.hid (by simp [ac_eq, I_op_kind.out, I_op_id.out, I_op_to.out, I_op_at_.out, I_look.out, I_kind.out, I_w.out, I_h.out, I_conf.out])
  go_wp2_with fail
  go_ret
  exact ⟨by rw [Hq.out]; rfl, HM1.out⟩

end Go.Proofs.Ytnamnmipgpcjjaa

/- Acts as bytes: a Put's fault is caught. -/
namespace Go.Proofs.Ytnamnmipgpcjjaa
open Go.RowKit Go.Gou

set_option maxRecDepth 100000 in
theorem put_idle (p0 p1 : Value) (w : World) :
    CallsD Try.prog 19 #[p0, p1] .returning w fun e u' w' => e = .returned (.tuple #[]) ∧ u' = .returning ∧ w' = w := by
  refine callsD_of_wpS Try.func19 rfl fun c₀ cs hu => ?_
  apply wpS_seq
  apply wpS_region
  simp [wpOpsS, go_sem, recoverD, hu, Try.ntmps19, Exit.thenS]
  refine (caught_nil _).mono ?_
  rintro e w' ⟨rfl, rfl⟩
  simp [wpOpsS, go_sem, recoverD, hu, Try.ntmps19, Exit.thenS]
  refine wpS_cond (t := false) (by simp [Act.eval, Array.replicate]) ?_
  simp only [Bool.false_eq_true, if_false]
  refine wpS_of_wp (wp_skip ?_)
  cases c₀
  simp_all [bodyPostS, results, Try.results19]

set_option maxRecDepth 100000 in
set_option maxHeartbeats 2000000 in
theorem put_caught (O E : Nat) (vo ve : Value) (w0 w : World) (older : List PanicEntry) (hm0 : Gou.Mod (fun _ => False) w0 w)
    (hO : Blk w O 44 #[vo]) (hE : Blk w E 45 #[ve]) (hO0 : w0.heap.size ≤ O) (hE0 : w0.heap.size ≤ E) (hOE : O ≠ E) :
    CallsD Try.prog 19 #[.pointer (some ⟨O, 0, none⟩), .pointer (some ⟨E, 0, none⟩)] (.panicking ({ v := .iface 84 (.agg #[]), recovered := false } :: older)) w fun e u' w' =>
      e = .returned (.tuple #[]) ∧ u' = .panicking ({ v := .iface 84 (.agg #[]), recovered := true } :: older) ∧ Gou.Mod (fun _ => False) w0 w' ∧ Blk w' O 44 #[.slice none 0 0] ∧ Blk w' E 45 #[.int .i64 1] := by
  refine callsD_of_wpS Try.func19 rfl fun c₀ cs' hu => ?_
  apply wpS_seq
  apply wpS_region
  simp [wpOpsS, go_sem, recoverD, hu, Try.ntmps19, Exit.thenS]
  refine (caught_fault _).mono ?_
  rintro e w1 ⟨rfl, hm1⟩
  have hO1 := hO.mod hm1 (fun h => h)
  have hE1 := hE.mod hm1 (fun h => h)
  have cO := hO1.cell 0 rfl
  have fO := hO1.frozen 0
  have hE2 := hE1.mod (Gou.Mod.setCell w1 ⟨O, 0, none⟩ (.slice none 0 0)) (fun h => hOE h.symm)
  have cE := hE2.cell 0 rfl
  have fE := hE2.frozen 0
  have hO3 := (hO1.set 0 (.slice none 0 0)).mod (Gou.Mod.setCell _ ⟨E, 0, none⟩ (.int .i64 1)) (fun h => hOE h)
  have hE3 := hE2.set 0 (.int .i64 1)
  have hm3 := ((hm0.trans' hm1).own ⟨O, 0, none⟩ (.slice none 0 0) hO0).own ⟨E, 0, none⟩ (.int .i64 1) hE0
  have HE := Lib.hid (And.intro hm3 (And.intro hO3 hE3))
  clear hO3 hE3 hm3 hE2 hO1 hE1 hm0 hO hE hm1
  simp [wpOpsS, go_sem, recoverD, hu, Try.ntmps19, Exit.thenS]
  refine wpS_cond (t := true) (by simp [Act.eval, Array.replicate]) ?_
  simp only [if_true]
  refine wpS_of_wp ?_
  go_wp2_with fail
  cases c₀
  simp_all [bodyPostS, results, Try.results19]
  exact HE.out

end Go.Proofs.Ytnamnmipgpcjjaa

/- Acts as bytes: an act's bytes, or none. -/
namespace Go.Gou
open Go.RowKit

theorem BytesAt.of_own {w : World} {base : Nat} {e : TypeId} {v : Value} {bs : List Nat} (h : w.ownsRow base e 1 v bs.length (u8s bs)) : BytesAt (fun _ => True) w v bs := by
  have hlt := h.lt
  obtain ⟨hl, h⟩ := h
  rcases h with ⟨rfl, h0⟩ | ⟨g, cap, cur, rfl, hg, hh, hn, _, _, ht⟩
  · obtain rfl := List.length_eq_zero_iff.1 h0
    exact ⟨none, 0, rfl, Nat.le_refl _, .inl rfl⟩
  · refine ⟨_, cap, rfl, hn, .inr ⟨g, 0, rfl, (hlt g rfl).2, trivial, fun j hj => ?_⟩⟩
    rw [Nat.zero_add, cell_of_row w g j cur e (0, 0) hh]
    have : cur.toList[j]? = (u8s bs)[j]? := by rw [← ht, List.getElem?_take, if_pos (by omega)]
    rw [← Array.getElem?_toList, this]
    simp [hj]

end Go.Gou
namespace Go.Proofs.Ytnamnmipgpcjjaa
open Go.RowKit Go.Gou

set_option linter.constructorNameAsVariable false

/-- What Put comes to. -/
def PutP (w : World) (res : Option (List Nat)) (e : Ending) (w' : World) : Prop :=
  Gou.Mod (fun _ => False) w w' ∧ match res with
    | some bs => ∃ v, e = .returned (.tuple #[v, .int .i64 0]) ∧ w'.ownsRow w.heap.size 5 1 v bs.length (u8s bs)
    | none => e = .returned (.tuple #[.slice none 0 0, .int .i64 1])

theorem run_sliceVar (w : World) (o : Nat) (p : Option Addr) (n c : Nat) (h : w.cell? ⟨o, 0, none⟩ = some (.slice p n c)) : (loadVar 44 ⟨o, 0, none⟩).run Try.prog w = .ok (.slice p n c) w := by simp [go_sem, h]
theorem run_errVar (w : World) (o : Nat) (n : Int) (h : w.cell? ⟨o, 0, none⟩ = some (.int .i64 n)) : (loadVar 45 ⟨o, 0, none⟩).run Try.prog w = .ok (.int .i64 n) w := by simp [go_sem, h]

/-- The act's box, the result's two, and what was stays. -/
structure PutIn (w : World) (ac : Array Value) (w' : World) : Prop where
  mod : Gou.Mod (fun _ => False) w w'
  act : Blk w' w.heap.size 41 ac
  out : Blk w' (w.heap.size + 1) 44 #[.slice none 0 0]
  err : Blk w' (w.heap.size + 1 + 1) 45 #[.int .i64 0]

theorem PutIn.next {w : World} {ac : Array Value} {w1 w2 : World} {S : Nat → Prop} (h : PutIn w ac w1) (hm : Gou.Mod S w1 w2) (hS : ∀ k, S k → w.heap.size + 1 + 1 < k) : PutIn w ac w2 :=
  ⟨h.mod.trans hm fun i hi hs => by have := hS i hs; omega, h.act.mod hm fun hs => by have := hS _ hs; omega, h.out.mod hm fun hs => by have := hS _ hs; omega, h.err.mod hm fun hs => by have := hS _ hs; omega⟩

theorem putIn_start (w : World) (ac : Array Value) : PutIn w ac (((w.alloc (.cells ac 41)).alloc (.cells #[.slice none 0 0] 44)).alloc (.cells #[.int .i64 0] 45)) := by
  refine ⟨((Gou.Mod.alloc _ _ _).trans' (Gou.Mod.alloc _ _ _)).trans' (Gou.Mod.alloc _ _ _), ?_, ?_, ?_⟩
  · exact ((show Blk (w.alloc (.cells ac 41)) w.heap.size 41 _ from heap_alloc_new w _).mod (Gou.Mod.alloc (fun _ => False) _ _) (fun h => h)).mod (Gou.Mod.alloc (fun _ => False) _ _) (fun h => h)
  · have h1 : Blk ((w.alloc (.cells ac 41)).alloc (.cells #[.slice none 0 0] 44)) (w.heap.size + 1) 44 #[.slice none 0 0] := by
      have := heap_alloc_new (w.alloc (.cells ac 41)) (.cells #[.slice none 0 0] 44)
      rw [World.size_alloc] at this
      exact this
    exact h1.mod (Gou.Mod.alloc (fun _ => False) _ _) (fun h => h)
  · have := heap_alloc_new ((w.alloc (.cells ac 41)).alloc (.cells #[.slice none 0 0] 44)) (.cells #[.int .i64 0] 45)
    rw [World.size_alloc, World.size_alloc] at this
    exact this

/-- A fault is caught: no bytes. -/
theorem put_none {w w1 : World} {ac : Array Value} (h : PutIn w ac w1) (older : List PanicEntry) {res : Option (List Nat)} (hr : res = none) (fn : Func) (tmps : Array Value) (hf : fn.results = #[.cell 2 44, .cell 3 45]) (h2 : tmps.getD 2 undef = .pointer (some ⟨w.heap.size + 1, 0, none⟩)) (h3 : tmps.getD 3 undef = .pointer (some ⟨w.heap.size + 1 + 1, 0, none⟩)) :
    Leaves Try.prog fn tmps (PutP w res) [{ target := .fn (.func 19) #[.pointer (some ⟨w.heap.size + 1, 0, none⟩), .pointer (some ⟨w.heap.size + 1 + 1, 0, none⟩)], args := #[] }] (.panicking ({ v := .iface 84 (.agg #[]), recovered := false } :: [])) w1 := by
  refine leaves_cons (f := 19) (args := #[.pointer (some ⟨w.heap.size + 1, 0, none⟩), .pointer (some ⟨w.heap.size + 1 + 1, 0, none⟩)]) (by simp) (by simp [go_sem]) ?_
  refine (put_caught _ _ _ _ w w1 _ h.mod h.out h.err (by omega) (by omega) (by omega)).mono ?_
  rintro e u' w2 ⟨rfl, rfl, hm, hO, hE⟩
  have hlO := run_sliceVar _ _ _ _ _ (hO.cell 0 rfl)
  have hlE := run_errVar _ _ _ (hE.cell 0 rfl)
  refine ⟨.tuple #[.slice none 0 0, .int .i64 1], ?_, hm, by subst hr; rfl⟩
  exact results_two hf _ _ _ _ _ _ h2 h3 hlO hlE

set_option maxRecDepth 100000 in
set_option maxHeartbeats 4000000 in
theorem put_any (w : World) (p1 p2 p3 : Option Addr) (k1 k2 k3 : Nat) (a : Ac) (hx : LookR (fun _ => True) w a.op.look (.slice p1 a.op.look.content.pix.length k1) (.slice p2 a.op.look.filt.nodes.length k2) (.slice p3 a.op.look.back.nodes.length k3)) (hb : LookBorne a.op.look) (hs : PxSmall a.op.look.content) :
    Calls Try.prog 11 #[.agg (AcA a p1 p2 p3 k1 k2 k3)] w (PutP w (putOf a)) := by
  have H := Lib.hid (putIn_start w (AcA a p1 p2 p3 k1 k2 k3))
  have HB := Lib.hid hb
  have HS := Lib.hid hs
  have Hx := Lib.hid (hx.imp (G' := fun b => b < w.heap.size) fun k hk _ => hk)
  have Hsz : Hid (((((w.alloc (.cells (AcA a p1 p2 p3 k1 k2 k3) 41)).alloc (.cells #[.slice none 0 0] 44)).alloc (.cells #[.int .i64 0] 45))).heap.size = w.heap.size + 1 + 1 + 1) := Lib.hid (by simp)
  clear hb hs hx
  have H1 : Hid (PutIn w (AcA a p1 p2 p3 k1 k2 k3) ((((w.alloc (.cells (AcA a p1 p2 p3 k1 k2 k3) 41)).alloc (.cells #[.slice none 0 0] 44)).alloc (.cells #[.int .i64 0] 45)).alloc (.cells #[.slice none 0 0] 65))) := Lib.hid (H.out.next (S := fun _ => False) (Gou.Mod.alloc _ _ _) (fun _ h => h.elim))
  have Ha := Lib.hid H1.out.act
  have HW : Hid (Wr ((((w.alloc (.cells (AcA a p1 p2 p3 k1 k2 k3) 41)).alloc (.cells #[.slice none 0 0] 44)).alloc (.cells #[.int .i64 0] 45)).alloc (.cells #[.slice none 0 0] 65)) (w.heap.size + 1 + 1 + 1) [] (.slice none 0 0)) := Lib.hid ⟨by
    have := heap_alloc_new ((((w.alloc (.cells (AcA a p1 p2 p3 k1 k2 k3) 41)).alloc (.cells #[.slice none 0 0] 44)).alloc (.cells #[.int .i64 0] 45))) (.cells #[.slice none 0 0] 65)
    rw [Hsz.out] at this
    exact this, ⟨rfl, .inl ⟨rfl, rfl⟩⟩⟩
  have Hl : Hid (LookR (fun b => b < (w.heap.size + 1 + 1 + 1)) ((((w.alloc (.cells (AcA a p1 p2 p3 k1 k2 k3) 41)).alloc (.cells #[.slice none 0 0] 44)).alloc (.cells #[.int .i64 0] 45)).alloc (.cells #[.slice none 0 0] 65)) a.op.look (.slice p1 a.op.look.content.pix.length k1) (.slice p2 a.op.look.filt.nodes.length k2) (.slice p3 a.op.look.back.nodes.length k3)) := Lib.hid ((Hx.out.mod H1.out.mod (fun _ _ _ h => h)).imp fun k _ hk => by omega)
  go_enter_defers Try.func11, Try.ntmps11
  go_wp2_with (first | ((with_reducible refine wpList_load_row ?g_1 41 ?x_1 ?o_1 w.heap.size ?h_1 ?t_1 ?c_1 ?f_1 ?d_1 ?b_1 ?u_1 ?s_1 ?i_1 ?r_1); (case g_1 | o_1 | h_1 => exact rfl); (case b_1 => exact Ha.out); (case u_1 => exact Try.underlying41); (case s_1 => exact rfl); (case i_1 => exact size_act.trans (by simp [AcA, actC]))) | fail)
  refine (wact_any _ (w.heap.size + 1 + 1 + 1) [] (.slice none 0 0) p1 k1 p2 k2 p3 k3 a HW.out Hl.out (by simp)).mono ?_
  rintro e w2 ⟨vs, t2, h2⟩
  have H2 : Hid (PutIn w (AcA a p1 p2 p3 k1 k2 k3) w2) := Lib.hid (H1.out.next t2.mod (fun k hk => by
    rcases hk with rfl | hk
    · omega
    · cases hk))
  rcases he : encAct a with _ | es
  · rw [he] at h2
    subst h2
    have Hno : Hid (putOf a = none) := Lib.hid (by unfold putOf; rw [he]; rfl)
    clear t2 he
    go_wp2_with fail
    exact put_none H2.out [] Hno.out _ _ rfl rfl rfl
  rw [he] at h2
  obtain ⟨rfl, hw2⟩ := h2
  rw [List.nil_append] at hw2
  have Hw2 := Lib.hid hw2
  have Hfi := Lib.hid (encAct_fine he HS.out)
  have He := Lib.hid he
  obtain ⟨pv, cv, rfl⟩ := Gou.ownsRow_form hw2.own
  have cb := hw2.box.cell 0 rfl
  have hBlt := Blk.lt hw2.box
  have Hrd : Hid (RdAt (w2.alloc (.cells #[.slice pv es.length cv, .int .i64 0] 69)) w2.heap.size (.slice pv es.length cv) es 0) := Lib.hid (RdAt.make (BytesAt.of_own hw2.own) Hfi.out.2 (by have := Hfi.out.1; unfold maxLen; omega))
  have H3 : Hid (PutIn w (AcA a p1 p2 p3 k1 k2 k3) (w2.alloc (.cells #[.slice pv es.length cv, .int .i64 0] 69))) := Lib.hid (H2.out.next (S := fun _ => False) (Gou.Mod.alloc _ _ _) (fun _ h => h.elim))
  have Hw3 : Hid (Wr (w2.alloc (.cells #[.slice pv es.length cv, .int .i64 0] 69)) (w.heap.size + 1 + 1 + 1) es (.slice pv es.length cv)) := Lib.hid (hw2.alloc _)
  have Hs3 : Hid (w2.heap.size < (w2.alloc (.cells #[.slice pv es.length cv, .int .i64 0] 69)).heap.size) := Lib.hid (by simp)
  have hvlt := hw2.own.lt
  have Hvlt := Lib.hid hvlt
  clear hvlt hw2 t2 he
  go_wp2_with fail
  generalize hW3 : w2.alloc (.cells #[.slice pv es.length cv, .int .i64 0] 69) = w3 at *
  clear hW3 cb
  have Ha3 : Hid (Blk w3.drew w.heap.size 41 (AcA a p1 p2 p3 k1 k2 k3)) := Lib.hid H3.out.act
  refine wp_region_any (by kernel_rfl) ?_
  try (change wpAny _ _ _ _ _ _ _ (World.drew _))
  refine wpAny_ready (rs := [0, 2]) (by kernel_rfl) (by simp) ?_
  refine AllReady.cons rfl (fun K hK => ?_) (AllReady.cons rfl (fun K hK => ?_) AllReady.nil)
  · go_simp
    refine hK _ _ ?_
    clear hK K
    refine wpAny_ready (rs := [1, 2]) (by kernel_rfl) (by simp) ?_
    refine AllReady.cons rfl (fun K hK => ?_) (AllReady.cons rfl (fun K hK => ?_) AllReady.nil)
    · go_simp
      refine (act_any w3.drew w2.heap.size (.slice pv es.length cv) es 0 Hrd.out.drew).mono ?_
      rintro e w4 ⟨hm4, h4⟩
      have H4 : Hid (PutIn w (AcA a p1 p2 p3 k1 k2 k3) w4) := Lib.hid (H3.out.next ((Gou.Mod.drew (fun k => k = w2.heap.size) w3).trans' hm4) (fun k hk => by subst hk; omega))
      have Hw4 : Hid (Wr w4 (w.heap.size + 1 + 1 + 1) es (.slice pv es.length cv)) := Lib.hid (Hw3.out.other ((Gou.Mod.drew (fun k => k = w2.heap.size) w3).trans' hm4) (by omega) (fun k hk e => by subst e; have := (Hvlt.out _ hk).2; omega))
      rcases hn : actAt es 0 with _ | ⟨x, m⟩
      · rw [hn] at h4
        obtain ⟨rfl, _⟩ := h4
        have Hno : Hid (putOf a = none) := Lib.hid (by unfold putOf; rw [He.out, Option.bind_some, hn]; rfl)
        exact put_none H4.out [] Hno.out _ _ rfl rfl rfl
      rw [hn] at h4
      obtain ⟨_, rfl, ⟨vp, vf, vb, rfl, hlr, hsoft⟩, hr4⟩ := h4
      obtain ⟨q1, j1, rfl, _⟩ := RowG.form hlr.pix
      obtain ⟨q2, j2, rfl⟩ := hlr.filt.form
      obtain ⟨q3, j3, rfl⟩ := hlr.back.form
      have Hlr := Lib.hid hlr
      have Hn := Lib.hid hn
      have Hbx : Hid (LookBorne x.op.look) := Lib.hid (by
        obtain ⟨_, _, _, _, h, _⟩ := putOf_of_act Hfi.out.2 hn
        exact h)
      have HR4 := Lib.hid (Hx.out.mod H4.out.mod (fun _ _ _ h => h))
      clear hlr hn hr4 hsoft hm4
      refine hK _ _ ?_
      clear hK K
      refine wpAny_ready (rs := [2]) (by kernel_rfl) (by simp) ?_
      refine AllReady.cons rfl (fun K hK => ?_) AllReady.nil
      refine wp_load_mid 41 _ rfl w.heap.size 0 rfl (AcA a p1 p2 p3 k1 k2 k3).toList _ (Blk.range (pre := []) (post := []) H4.out.act (by rw [List.append_nil]; rfl) rfl) Try.underlying41 rfl (size_act.trans (by simp [AcA, actC])) ?_
      refine hK _ _ ?_
      clear hK K
      refine wpAny_ready (rs := [3]) (by kernel_rfl) (by simp) ?_
      refine AllReady.cons rfl (fun K3 hK3 => ?_) AllReady.nil
      go_simp
      refine (sameAct_any w4 _ _ q1 q2 q3 p1 p2 p3 j1 j2 j3 k1 k2 k3 x a Hlr.out HR4.out Hbx.out HB.out).mono ?_
      rintro e w5 ⟨rfl, hm5⟩
      have H5 : Hid (PutIn w (AcA a p1 p2 p3 k1 k2 k3) w5) := Lib.hid (H4.out.next hm5 (fun _ h => h.elim))
      have Hw5 : Hid (Wr w5 (w.heap.size + 1 + 1 + 1) es (.slice pv es.length cv)) := Lib.hid (Hw4.out.other hm5 (fun h => h) (fun _ _ h => h))
      clear hm5
      refine hK3 _ _ ?_
      clear hK3 K3
      by_cases hxa : x = a
      · have Hyes : Hid (putOf a = some es) := Lib.hid (by unfold putOf; rw [He.out, Option.bind_some, Hn.out, Option.bind_some, if_pos hxa])
        have hd : decide (x = a) = true := by simp [hxa]
        clear hxa
        generalize decide (x = a) = q at *
        subst hd
        refine wpAny_ready (rs := [4]) (by kernel_rfl) (by simp) ?_
        refine AllReady.cons rfl (fun K3 hK3 => ?_) AllReady.nil
        go_simp
        refine (must_true _).mono ?_
        rintro e w6 ⟨rfl, hww⟩
        obtain rfl : w5 = w6 := hww.symm
        clear hww
        refine hK3 _ _ ?_
        clear hK3 K3
        refine wpAny_done (by kernel_rfl) ?_ _
        have cb := Hw5.out.box.cell 0 rfl
        have cO := H5.out.out.cell 0 rfl
        have fO := H5.out.out.frozen 0
        have hO1 := H5.out.out.set 0 (.slice pv es.length cv)
        have hE1 := H5.out.err.mod (Gou.Mod.setCell w5 ⟨(w.heap.size + 1), 0, none⟩ (.slice pv es.length cv)) (by simp)
        have cE := hE1.cell 0 rfl
        have fE := hE1.frozen 0
        have hE2 := hE1.set 0 (.int .i64 0)
        have hO2 := hO1.mod (Gou.Mod.setCell _ ⟨(w.heap.size + 1 + 1), 0, none⟩ (.int .i64 0)) (by simp)
        have hmm := (H5.out.mod.own ⟨(w.heap.size + 1), 0, none⟩ (.slice pv es.length cv) (by simp)).own ⟨(w.heap.size + 1 + 1), 0, none⟩ (.int .i64 0) (by simp; omega)
        have hown := ownsRow_mod (ownsRow_mod Hw5.out.own (Gou.Mod.setCell w5 ⟨(w.heap.size + 1), 0, none⟩ (.slice pv es.length cv)) (fun k hk e => by have := (Hw5.out.own.lt k hk).1; simp at e; omega)) (Gou.Mod.setCell _ ⟨(w.heap.size + 1 + 1), 0, none⟩ (.int .i64 0)) (fun k hk e => by have := (Hw5.out.own.lt k hk).1; simp at e; omega)
        have HE := Lib.hid (And.intro hO2 (And.intro hE2 (And.intro hmm (ownsRow_low (base' := w.heap.size) hown (by omega)))))
        clear hO1 hE1 hE2 hO2 hmm hown
        go_wp2_with fail
        refine leaves_cons (f := 19) (args := #[.pointer (some ⟨(w.heap.size + 1), 0, none⟩), .pointer (some ⟨(w.heap.size + 1 + 1), 0, none⟩)]) (by simp) (by simp [go_sem]) ?_
        refine (put_idle _ _ _).mono ?_
        rintro e u' w7 ⟨rfl, rfl, rfl⟩
        obtain ⟨hO2, hE2, hmm, hown⟩ := HE.out
        refine ⟨.tuple #[.slice pv es.length cv, .int .i64 0], ?_, hmm, by rw [Hyes.out]; exact ⟨_, rfl, hown⟩⟩
        exact results_two rfl _ _ _ _ _ _ rfl rfl (run_sliceVar _ _ _ _ _ (hO2.cell 0 rfl)) (run_errVar _ _ _ (hE2.cell 0 rfl))
      · have Hno : Hid (putOf a = none) := Lib.hid (by unfold putOf; rw [He.out, Option.bind_some, Hn.out, Option.bind_some, if_neg hxa])
        have hd : decide (x = a) = false := by simp [hxa]
        clear hxa
        generalize decide (x = a) = q at *
        subst hd
        refine wpAny_ready (rs := [4]) (by kernel_rfl) (by simp) ?_
        refine AllReady.cons rfl (fun K3 hK3 => ?_) AllReady.nil
        go_simp
        refine (must_false _).mono ?_
        rintro e w6 ⟨rfl, hww⟩
        obtain rfl : w5 = w6 := hww.symm
        exact put_none H5.out [] Hno.out _ _ rfl rfl rfl
    · refine wp_load_mid 41 _ rfl w.heap.size 0 rfl (AcA a p1 p2 p3 k1 k2 k3).toList _ (Blk.range (pre := []) (post := []) Ha3.out (by rw [List.append_nil]; rfl) rfl) Try.underlying41 rfl (size_act.trans (by simp [AcA, actC])) ?_
      refine hK _ _ ?_
      clear hK K
      refine wpAny_ready (rs := [1]) (by kernel_rfl) (by simp) ?_
      refine AllReady.cons rfl (fun K hK => ?_) AllReady.nil
      go_simp
      refine (act_any w3.drew w2.heap.size (.slice pv es.length cv) es 0 Hrd.out.drew).mono ?_
      rintro e w4 ⟨hm4, h4⟩
      have H4 : Hid (PutIn w (AcA a p1 p2 p3 k1 k2 k3) w4) := Lib.hid (H3.out.next ((Gou.Mod.drew (fun k => k = w2.heap.size) w3).trans' hm4) (fun k hk => by subst hk; omega))
      have Hw4 : Hid (Wr w4 (w.heap.size + 1 + 1 + 1) es (.slice pv es.length cv)) := Lib.hid (Hw3.out.other ((Gou.Mod.drew (fun k => k = w2.heap.size) w3).trans' hm4) (by omega) (fun k hk e => by subst e; have := (Hvlt.out _ hk).2; omega))
      rcases hn : actAt es 0 with _ | ⟨x, m⟩
      · rw [hn] at h4
        obtain ⟨rfl, _⟩ := h4
        have Hno : Hid (putOf a = none) := Lib.hid (by unfold putOf; rw [He.out, Option.bind_some, hn]; rfl)
        exact put_none H4.out [] Hno.out _ _ rfl rfl rfl
      rw [hn] at h4
      obtain ⟨_, rfl, ⟨vp, vf, vb, rfl, hlr, hsoft⟩, hr4⟩ := h4
      obtain ⟨q1, j1, rfl, _⟩ := RowG.form hlr.pix
      obtain ⟨q2, j2, rfl⟩ := hlr.filt.form
      obtain ⟨q3, j3, rfl⟩ := hlr.back.form
      have Hlr := Lib.hid hlr
      have Hn := Lib.hid hn
      have Hbx : Hid (LookBorne x.op.look) := Lib.hid (by
        obtain ⟨_, _, _, _, h, _⟩ := putOf_of_act Hfi.out.2 hn
        exact h)
      have HR4 := Lib.hid (Hx.out.mod H4.out.mod (fun _ _ _ h => h))
      clear hlr hn hr4 hsoft hm4
      refine hK _ _ ?_
      clear hK K
      refine wpAny_ready (rs := [3]) (by kernel_rfl) (by simp) ?_
      refine AllReady.cons rfl (fun K3 hK3 => ?_) AllReady.nil
      go_simp
      refine (sameAct_any w4 _ _ q1 q2 q3 p1 p2 p3 j1 j2 j3 k1 k2 k3 x a Hlr.out HR4.out Hbx.out HB.out).mono ?_
      rintro e w5 ⟨rfl, hm5⟩
      have H5 : Hid (PutIn w (AcA a p1 p2 p3 k1 k2 k3) w5) := Lib.hid (H4.out.next hm5 (fun _ h => h.elim))
      have Hw5 : Hid (Wr w5 (w.heap.size + 1 + 1 + 1) es (.slice pv es.length cv)) := Lib.hid (Hw4.out.other hm5 (fun h => h) (fun _ _ h => h))
      clear hm5
      refine hK3 _ _ ?_
      clear hK3 K3
      by_cases hxa : x = a
      · have Hyes : Hid (putOf a = some es) := Lib.hid (by unfold putOf; rw [He.out, Option.bind_some, Hn.out, Option.bind_some, if_pos hxa])
        have hd : decide (x = a) = true := by simp [hxa]
        clear hxa
        generalize decide (x = a) = q at *
        subst hd
        refine wpAny_ready (rs := [4]) (by kernel_rfl) (by simp) ?_
        refine AllReady.cons rfl (fun K3 hK3 => ?_) AllReady.nil
        go_simp
        refine (must_true _).mono ?_
        rintro e w6 ⟨rfl, hww⟩
        obtain rfl : w5 = w6 := hww.symm
        clear hww
        refine hK3 _ _ ?_
        clear hK3 K3
        refine wpAny_done (by kernel_rfl) ?_ _
        have cb := Hw5.out.box.cell 0 rfl
        have cO := H5.out.out.cell 0 rfl
        have fO := H5.out.out.frozen 0
        have hO1 := H5.out.out.set 0 (.slice pv es.length cv)
        have hE1 := H5.out.err.mod (Gou.Mod.setCell w5 ⟨(w.heap.size + 1), 0, none⟩ (.slice pv es.length cv)) (by simp)
        have cE := hE1.cell 0 rfl
        have fE := hE1.frozen 0
        have hE2 := hE1.set 0 (.int .i64 0)
        have hO2 := hO1.mod (Gou.Mod.setCell _ ⟨(w.heap.size + 1 + 1), 0, none⟩ (.int .i64 0)) (by simp)
        have hmm := (H5.out.mod.own ⟨(w.heap.size + 1), 0, none⟩ (.slice pv es.length cv) (by simp)).own ⟨(w.heap.size + 1 + 1), 0, none⟩ (.int .i64 0) (by simp; omega)
        have hown := ownsRow_mod (ownsRow_mod Hw5.out.own (Gou.Mod.setCell w5 ⟨(w.heap.size + 1), 0, none⟩ (.slice pv es.length cv)) (fun k hk e => by have := (Hw5.out.own.lt k hk).1; simp at e; omega)) (Gou.Mod.setCell _ ⟨(w.heap.size + 1 + 1), 0, none⟩ (.int .i64 0)) (fun k hk e => by have := (Hw5.out.own.lt k hk).1; simp at e; omega)
        have HE := Lib.hid (And.intro hO2 (And.intro hE2 (And.intro hmm (ownsRow_low (base' := w.heap.size) hown (by omega)))))
        clear hO1 hE1 hE2 hO2 hmm hown
        go_wp2_with fail
        refine leaves_cons (f := 19) (args := #[.pointer (some ⟨(w.heap.size + 1), 0, none⟩), .pointer (some ⟨(w.heap.size + 1 + 1), 0, none⟩)]) (by simp) (by simp [go_sem]) ?_
        refine (put_idle _ _ _).mono ?_
        rintro e u' w7 ⟨rfl, rfl, rfl⟩
        obtain ⟨hO2, hE2, hmm, hown⟩ := HE.out
        refine ⟨.tuple #[.slice pv es.length cv, .int .i64 0], ?_, hmm, by rw [Hyes.out]; exact ⟨_, rfl, hown⟩⟩
        exact results_two rfl _ _ _ _ _ _ rfl rfl (run_sliceVar _ _ _ _ _ (hO2.cell 0 rfl)) (run_errVar _ _ _ (hE2.cell 0 rfl))
      · have Hno : Hid (putOf a = none) := Lib.hid (by unfold putOf; rw [He.out, Option.bind_some, Hn.out, Option.bind_some, if_neg hxa])
        have hd : decide (x = a) = false := by simp [hxa]
        clear hxa
        generalize decide (x = a) = q at *
        subst hd
        refine wpAny_ready (rs := [4]) (by kernel_rfl) (by simp) ?_
        refine AllReady.cons rfl (fun K3 hK3 => ?_) AllReady.nil
        go_simp
        refine (must_false _).mono ?_
        rintro e w6 ⟨rfl, hww⟩
        obtain rfl : w5 = w6 := hww.symm
        exact put_none H5.out [] Hno.out _ _ rfl rfl rfl
  · refine wp_load_mid 41 _ rfl w.heap.size 0 rfl (AcA a p1 p2 p3 k1 k2 k3).toList _ (Blk.range (pre := []) (post := []) Ha3.out (by rw [List.append_nil]; rfl) rfl) Try.underlying41 rfl (size_act.trans (by simp [AcA, actC])) ?_
    refine hK _ _ ?_
    clear hK K
    refine wpAny_ready (rs := [0]) (by kernel_rfl) (by simp) ?_
    refine AllReady.cons rfl (fun K hK => ?_) AllReady.nil
    go_simp
    refine hK _ _ ?_
    clear hK K
    refine wpAny_ready (rs := [1]) (by kernel_rfl) (by simp) ?_
    refine AllReady.cons rfl (fun K hK => ?_) AllReady.nil
    go_simp
    refine (act_any w3.drew w2.heap.size (.slice pv es.length cv) es 0 Hrd.out.drew).mono ?_
    rintro e w4 ⟨hm4, h4⟩
    have H4 : Hid (PutIn w (AcA a p1 p2 p3 k1 k2 k3) w4) := Lib.hid (H3.out.next ((Gou.Mod.drew (fun k => k = w2.heap.size) w3).trans' hm4) (fun k hk => by subst hk; omega))
    have Hw4 : Hid (Wr w4 (w.heap.size + 1 + 1 + 1) es (.slice pv es.length cv)) := Lib.hid (Hw3.out.other ((Gou.Mod.drew (fun k => k = w2.heap.size) w3).trans' hm4) (by omega) (fun k hk e => by subst e; have := (Hvlt.out _ hk).2; omega))
    rcases hn : actAt es 0 with _ | ⟨x, m⟩
    · rw [hn] at h4
      obtain ⟨rfl, _⟩ := h4
      have Hno : Hid (putOf a = none) := Lib.hid (by unfold putOf; rw [He.out, Option.bind_some, hn]; rfl)
      exact put_none H4.out [] Hno.out _ _ rfl rfl rfl
    rw [hn] at h4
    obtain ⟨_, rfl, ⟨vp, vf, vb, rfl, hlr, hsoft⟩, hr4⟩ := h4
    obtain ⟨q1, j1, rfl, _⟩ := RowG.form hlr.pix
    obtain ⟨q2, j2, rfl⟩ := hlr.filt.form
    obtain ⟨q3, j3, rfl⟩ := hlr.back.form
    have Hlr := Lib.hid hlr
    have Hn := Lib.hid hn
    have Hbx : Hid (LookBorne x.op.look) := Lib.hid (by
      obtain ⟨_, _, _, _, h, _⟩ := putOf_of_act Hfi.out.2 hn
      exact h)
    have HR4 := Lib.hid (Hx.out.mod H4.out.mod (fun _ _ _ h => h))
    clear hlr hn hr4 hsoft hm4
    refine hK _ _ ?_
    clear hK K
    refine wpAny_ready (rs := [3]) (by kernel_rfl) (by simp) ?_
    refine AllReady.cons rfl (fun K3 hK3 => ?_) AllReady.nil
    go_simp
    refine (sameAct_any w4 _ _ q1 q2 q3 p1 p2 p3 j1 j2 j3 k1 k2 k3 x a Hlr.out HR4.out Hbx.out HB.out).mono ?_
    rintro e w5 ⟨rfl, hm5⟩
    have H5 : Hid (PutIn w (AcA a p1 p2 p3 k1 k2 k3) w5) := Lib.hid (H4.out.next hm5 (fun _ h => h.elim))
    have Hw5 : Hid (Wr w5 (w.heap.size + 1 + 1 + 1) es (.slice pv es.length cv)) := Lib.hid (Hw4.out.other hm5 (fun h => h) (fun _ _ h => h))
    clear hm5
    refine hK3 _ _ ?_
    clear hK3 K3
    by_cases hxa : x = a
    · have Hyes : Hid (putOf a = some es) := Lib.hid (by unfold putOf; rw [He.out, Option.bind_some, Hn.out, Option.bind_some, if_pos hxa])
      have hd : decide (x = a) = true := by simp [hxa]
      clear hxa
      generalize decide (x = a) = q at *
      subst hd
      refine wpAny_ready (rs := [4]) (by kernel_rfl) (by simp) ?_
      refine AllReady.cons rfl (fun K3 hK3 => ?_) AllReady.nil
      go_simp
      refine (must_true _).mono ?_
      rintro e w6 ⟨rfl, hww⟩
      obtain rfl : w5 = w6 := hww.symm
      clear hww
      refine hK3 _ _ ?_
      clear hK3 K3
      refine wpAny_done (by kernel_rfl) ?_ _
      have cb := Hw5.out.box.cell 0 rfl
      have cO := H5.out.out.cell 0 rfl
      have fO := H5.out.out.frozen 0
      have hO1 := H5.out.out.set 0 (.slice pv es.length cv)
      have hE1 := H5.out.err.mod (Gou.Mod.setCell w5 ⟨(w.heap.size + 1), 0, none⟩ (.slice pv es.length cv)) (by simp)
      have cE := hE1.cell 0 rfl
      have fE := hE1.frozen 0
      have hE2 := hE1.set 0 (.int .i64 0)
      have hO2 := hO1.mod (Gou.Mod.setCell _ ⟨(w.heap.size + 1 + 1), 0, none⟩ (.int .i64 0)) (by simp)
      have hmm := (H5.out.mod.own ⟨(w.heap.size + 1), 0, none⟩ (.slice pv es.length cv) (by simp)).own ⟨(w.heap.size + 1 + 1), 0, none⟩ (.int .i64 0) (by simp; omega)
      have hown := ownsRow_mod (ownsRow_mod Hw5.out.own (Gou.Mod.setCell w5 ⟨(w.heap.size + 1), 0, none⟩ (.slice pv es.length cv)) (fun k hk e => by have := (Hw5.out.own.lt k hk).1; simp at e; omega)) (Gou.Mod.setCell _ ⟨(w.heap.size + 1 + 1), 0, none⟩ (.int .i64 0)) (fun k hk e => by have := (Hw5.out.own.lt k hk).1; simp at e; omega)
      have HE := Lib.hid (And.intro hO2 (And.intro hE2 (And.intro hmm (ownsRow_low (base' := w.heap.size) hown (by omega)))))
      clear hO1 hE1 hE2 hO2 hmm hown
      go_wp2_with fail
      refine leaves_cons (f := 19) (args := #[.pointer (some ⟨(w.heap.size + 1), 0, none⟩), .pointer (some ⟨(w.heap.size + 1 + 1), 0, none⟩)]) (by simp) (by simp [go_sem]) ?_
      refine (put_idle _ _ _).mono ?_
      rintro e u' w7 ⟨rfl, rfl, rfl⟩
      obtain ⟨hO2, hE2, hmm, hown⟩ := HE.out
      refine ⟨.tuple #[.slice pv es.length cv, .int .i64 0], ?_, hmm, by rw [Hyes.out]; exact ⟨_, rfl, hown⟩⟩
      exact results_two rfl _ _ _ _ _ _ rfl rfl (run_sliceVar _ _ _ _ _ (hO2.cell 0 rfl)) (run_errVar _ _ _ (hE2.cell 0 rfl))
    · have Hno : Hid (putOf a = none) := Lib.hid (by unfold putOf; rw [He.out, Option.bind_some, Hn.out, Option.bind_some, if_neg hxa])
      have hd : decide (x = a) = false := by simp [hxa]
      clear hxa
      generalize decide (x = a) = q at *
      subst hd
      refine wpAny_ready (rs := [4]) (by kernel_rfl) (by simp) ?_
      refine AllReady.cons rfl (fun K3 hK3 => ?_) AllReady.nil
      go_simp
      refine (must_false _).mono ?_
      rintro e w6 ⟨rfl, hww⟩
      obtain rfl : w5 = w6 := hww.symm
      exact put_none H5.out [] Hno.out _ _ rfl rfl rfl

end Go.Proofs.Ytnamnmipgpcjjaa

