/- Acts as bytes: what is read is written so, and what bounds the bytes have. -/
import Derived.Test.YtnamnmipgpcjjaaPlnA
import Derived.Test.YtnamnmipgpcjjaaSamI
namespace Go.Gou
open Go.RowKit

/-! Bounds. -/

def Fine (B : Nat) (es : List Nat) : Prop := es.length ≤ B ∧ ∀ b ∈ es, b < 256
theorem Fine.append {A B : Nat} {a b : List Nat} (h : Fine A a) (k : Fine B b) : Fine (A + B) (a ++ b) :=
  ⟨by rw [List.length_append]; have := h.1; have := k.1; omega, fun x hx => (List.mem_append.1 hx).elim (h.2 x) (k.2 x)⟩
theorem Fine.mono {A B : Nat} {a : List Nat} (h : Fine A a) (k : A ≤ B) : Fine B a := ⟨Nat.le_trans h.1 k, h.2⟩
theorem Fine.nil (B : Nat) : Fine B [] := ⟨Nat.zero_le _, fun _ h => nomatch h⟩
def Pxl.Small (p : Pxl) : Prop := p.p0 < 256 ∧ p.p1 < 256 ∧ p.p2 < 256 ∧ p.p3 < 256
structure PxSmall (c : Ct) : Prop where
  px : c.px.Small
  pix : ∀ p ∈ c.pix, Pxl.Small p

theorem encNums_fine {xs : List Int} {es : List Nat} (h : encNums xs = some es) : Fine (5 * xs.length) es := by
  refine ⟨encNums_len h, ?_⟩
  induction xs generalizing es with
  | nil => simp only [encNums, Option.some.injEq] at h; subst h; simp
  | cons x r ih =>
    rw [encNums] at h
    split at h
    · obtain ⟨e, he, rfl⟩ := Option.map_eq_some_iff.1 h
      intro b hb
      rcases List.mem_append.1 hb with hb | hb
      · exact encM_small _ b hb
      · exact ih he b hb
    · cases h
theorem encNode_fine {n : GNode} {es : List Nat} (h : encNode n = some es) : Fine 1015 es := by
  refine ⟨encNode_len h, ?_⟩
  unfold encNode at h
  split at h
  · obtain ⟨a, ha, h⟩ := Option.bind_eq_some_iff.1 h
    obtain ⟨b, hb, h⟩ := Option.bind_eq_some_iff.1 h
    obtain ⟨c, hc, h⟩ := Option.bind_eq_some_iff.1 h
    obtain ⟨d, hd, h⟩ := Option.bind_eq_some_iff.1 h
    simp only [Option.some.injEq] at h
    subst h
    exact ((encNums_fine ha).append ((encNums_fine hb).append ((encNums_fine hc).append (encNums_fine hd)))).2
  · cases h
theorem encNodes_fine {ns : List GNode} {es : List Nat} (h : encNodes ns = some es) : Fine (1015 * ns.length) es := by
  induction ns generalizing es with
  | nil => simp only [encNodes, Option.some.injEq] at h; subst h; exact Fine.nil _
  | cons n r ih =>
    rw [encNodes] at h
    obtain ⟨a, ha, h⟩ := Option.bind_eq_some_iff.1 h
    obtain ⟨b, hb, rfl⟩ := Option.map_eq_some_iff.1 h
    exact ((encNode_fine ha).append (ih hb)).mono (by rw [List.length_cons]; omega)
theorem encGraph_fine {g : Gr} {es : List Nat} (h : encGraph g = some es) : Fine 1015010 es := by
  unfold encGraph at h
  split at h
  · obtain ⟨a, ha, h⟩ := Option.bind_eq_some_iff.1 h
    obtain ⟨b, hb, rfl⟩ := Option.map_eq_some_iff.1 h
    exact ((encNums_fine ha).append (encNodes_fine hb)).mono (by simp only [List.length_cons, List.length_nil]; omega)
  · cases h
theorem pxBytes_fine {ps : List Pxl} (h : ∀ p ∈ ps, Pxl.Small p) : Fine (4 * ps.length) (pxBytes ps) := by
  refine ⟨Nat.le_of_eq (pxBytes_len ps), fun b hb => ?_⟩
  obtain ⟨p, hp, hb⟩ := List.mem_flatMap.1 hb
  obtain ⟨h0, h1, h2, h3⟩ := h p hp
  simp only [List.mem_cons, List.not_mem_nil, or_false] at hb
  rcases hb with rfl | rfl | rfl | rfl <;> assumption
theorem encContent_fine {c : Ct} {es : List Nat} (h : encContent c = some es) (hp : PxSmall c) : Fine 263000 es := by
  unfold encContent at h
  obtain ⟨a, ha, h⟩ := Option.bind_eq_some_iff.1 h
  split at h
  · obtain ⟨b, hb, h⟩ := Option.bind_eq_some_iff.1 h
    simp only [Option.some.injEq] at h
    subst h
    exact ((encNums_fine ha).append ((encNums_fine hb).append (pxBytes_fine (by simpa using hp.px)))).mono (by simp)
  · split at h
    · split at h
      · rename_i hk
        obtain ⟨b, hb, h⟩ := Option.bind_eq_some_iff.1 h
        simp only [Option.some.injEq] at h
        subst h
        have := countOf_le c.w c.h
        exact ((encNums_fine ha).append ((encNums_fine hb).append (pxBytes_fine hp.pix))).mono (by simp only [List.length_cons, List.length_nil]; omega)
      · cases h
    · simp only [Option.some.injEq] at h
      subst h
      exact (encNums_fine ha).mono (by simp)
set_option maxHeartbeats 2000000 in
theorem encOpr_fine {o : Opr} {es : List Nat} (h : encOpr o = some es) (hp : PxSmall o.look.content) : Fine 1100000 es := by
  unfold encOpr at h
  obtain ⟨a, ha, h⟩ := Option.bind_eq_some_iff.1 h
  have fa : Fine 10 a := by
    split at ha
    · simp only [Option.some.injEq] at ha; subst ha; exact Fine.nil _
    · exact encNums_fine ha
  have one : ∀ (xs : List Int) (r : List Nat), ((encNums xs).bind fun b => some (a ++ b)) = some r → xs.length ≤ 10 → Fine 1100000 r := by
    intro xs r h hl
    obtain ⟨b, hb, h⟩ := Option.bind_eq_some_iff.1 h
    simp only [Option.some.injEq] at h
    subst h
    exact (fa.append (encNums_fine hb)).mono (by omega)
  have gr : ∀ (g : Gr) (f : Bool) (r : List Nat), ((encNums [if f then 1 else 0]).bind fun b => if f then (encGraph g).bind fun c => some (a ++ (b ++ c)) else some (a ++ b)) = some r → Fine 1100000 r := by
    intro g f r h
    obtain ⟨b, hb, h⟩ := Option.bind_eq_some_iff.1 h
    have fb : Fine 5 b := encNums_fine hb
    split at h
    · obtain ⟨c, hc, h⟩ := Option.bind_eq_some_iff.1 h
      simp only [Option.some.injEq] at h
      subst h
      exact (fa.append (fb.append (encGraph_fine hc))).mono (by omega)
    · simp only [Option.some.injEq] at h
      subst h
      exact (fa.append fb).mono (by omega)
  split at h
  · obtain ⟨b, hb, h⟩ := Option.bind_eq_some_iff.1 h
    obtain ⟨c, hc, h⟩ := Option.bind_eq_some_iff.1 h
    simp only [Option.some.injEq] at h
    subst h
    exact (fa.append ((encNums_fine hb).append (encNums_fine hc))).mono (by simp)
  split at h
  · exact one _ _ h (by simp)
  split at h
  · exact one _ _ h (by simp)
  split at h
  · obtain ⟨b, hb, h⟩ := Option.bind_eq_some_iff.1 h
    have fb : Fine 5 b := encNums_fine hb
    split at h
    · obtain ⟨c, hc, h⟩ := Option.bind_eq_some_iff.1 h
      simp only [Option.some.injEq] at h
      subst h
      exact (fa.append (fb.append (encNums_fine hc))).mono (by simp)
    · simp only [Option.some.injEq] at h
      subst h
      exact (fa.append fb).mono (by omega)
  split at h
  · exact one _ _ h (by simp)
  split at h
  · exact one _ _ h (by simp)
  split at h
  · obtain ⟨b, hb, h⟩ := Option.bind_eq_some_iff.1 h
    simp only [Option.some.injEq] at h
    subst h
    exact (fa.append (encContent_fine hb hp)).mono (by omega)
  split at h
  · exact gr _ _ _ h
  split at h
  · exact gr _ _ _ h
  simp only [Option.some.injEq] at h
  subst h
  exact fa.mono (by omega)
theorem flagsOf_in (c : Cf) : 0 ≤ flagsOf c ∧ flagsOf c ≤ 15 := by
  obtain ⟨a, b, d, e, r⟩ := c
  cases a <;> cases b <;> cases d <;> cases e <;> exact ⟨by simp [flagsOf], by simp [flagsOf]⟩
theorem encAct_fine {a : Ac} {es : List Nat} (h : encAct a = some es) (hp : PxSmall a.op.look.content) : Fine 1100001 es := by
  unfold encAct at h
  split at h
  · rename_i hk
    obtain ⟨b, hb, h⟩ := Option.bind_eq_some_iff.1 h
    simp only [Option.some.injEq] at h
    subst h
    have fb : Fine 1100000 b := by
      split at hb
      · exact (encNums_fine hb).mono (by simp)
      split at hb
      · exact (encNums_fine hb).mono (by simp)
      split at hb
      · simp only [Option.some.injEq] at hb; subst hb; exact Fine.nil _
      exact encOpr_fine hb hp
    exact ⟨by rw [List.length_cons]; have := fb.1; omega, fun x hx => (List.mem_cons.1 hx).elim (fun e => by omega) (fb.2 x)⟩
  · cases h

/-! What is read is what is written. -/

theorem encNums_app {xs ys : List Int} {a b : List Nat} (h : encNums xs = some a) (k : encNums ys = some b) : encNums (xs ++ ys) = some (a ++ b) := by
  induction xs generalizing a with
  | nil => simp only [encNums, Option.some.injEq] at h; subst h; simpa using k
  | cons x r ih =>
    rw [encNums] at h
    split at h
    · rename_i hx
      obtain ⟨e, he, rfl⟩ := Option.map_eq_some_iff.1 h
      rw [List.cons_append, encNums, if_pos hx, ih he]
      simp
    · cases h
theorem encNums_one {x : Int} {es : List Nat} (h : numG x es) : encNums [x] = some es := by
  obtain ⟨hx, rfl⟩ := h
  rw [encNums, if_pos (show -2147483648 ≤ x ∧ x < 2147483648 from hx), encNums]
  simp
theorem timesG_len {α : Type} {G : α → List Nat → Prop} {k : Nat} {xs : List α} {es : List Nat} (h : timesG G k xs es) : xs.length = k := by
  induction k generalizing xs es with
  | zero => obtain ⟨rfl, _⟩ := h; rfl
  | succ k ih =>
    obtain ⟨xs, e1, _, h1, ⟨x, e2, _, h2, ⟨rfl, rfl⟩, rfl⟩, rfl⟩ := h
    rw [List.length_append, ih h1]
    rfl
theorem timesG_all {α : Type} {G : α → List Nat → Prop} {k : Nat} {xs : List α} {es : List Nat} (h : timesG G k xs es) : ∀ x ∈ xs, ∃ e, G x e := by
  induction k generalizing xs es with
  | zero => obtain ⟨rfl, _⟩ := h; intro x hx; cases hx
  | succ k ih =>
    obtain ⟨xs, e1, _, h1, ⟨x, e2, _, h2, ⟨rfl, rfl⟩, rfl⟩, rfl⟩ := h
    intro y hy
    rcases List.mem_append.1 hy with hy | hy
    · exact ih h1 y hy
    · obtain rfl := List.mem_singleton.1 hy
      exact ⟨e2, h2⟩
theorem timesG_num {k : Nat} {xs : List Int} {es : List Nat} (h : timesG numG k xs es) : encNums xs = some es := by
  induction k generalizing xs es with
  | zero => obtain ⟨rfl, rfl⟩ := h; rfl
  | succ k ih =>
    obtain ⟨xs, e1, _, h1, ⟨x, e2, _, h2, ⟨rfl, rfl⟩, rfl⟩, rfl⟩ := h
    rw [List.append_nil]
    exact encNums_app (ih h1) (encNums_one h2)
theorem idG_enc {i : Int × Int} {es : List Nat} (h : idG i es) : encNums [i.1, i.2] = some es := by
  obtain ⟨a, e1, _, h1, ⟨g, e2, _, h2, ⟨rfl, rfl⟩, rfl⟩, rfl⟩ := h
  rw [List.append_nil]
  exact encNums_app (xs := [a]) (encNums_one h1) (encNums_one h2)
theorem boxG_enc {l : List Int} {es : List Nat} (h : boxG l es) : encNums [(Rc.of l).x0, (Rc.of l).y0, (Rc.of l).x1, (Rc.of l).y1] = some es := by
  have hl := timesG_len h
  have he := timesG_num h
  match l, hl with
  | [a, b, c, d], _ => exact he
theorem pixelG_form {p es : List Nat} (h : pixelG p es) : p = es ∧ p.length = 4 ∧ ∀ b ∈ p, b < 256 := by
  have key : ∀ k p es, timesG rawG k p es → p = es ∧ ∀ b ∈ p, b < 256 := by
    intro k
    induction k with
    | zero => rintro p es ⟨rfl, rfl⟩; exact ⟨rfl, fun _ h => nomatch h⟩
    | succ k ih =>
      rintro p es ⟨xs, e1, _, h1, ⟨x, e2, _, ⟨hx, rfl⟩, ⟨rfl, rfl⟩, rfl⟩, rfl⟩
      obtain ⟨rfl, hs⟩ := ih _ _ h1
      refine ⟨by simp, fun b hb => ?_⟩
      rcases List.mem_append.1 hb with hb | hb
      · exact hs b hb
      · obtain rfl := List.mem_singleton.1 hb; exact hx
  obtain ⟨h1, h2⟩ := key 4 p es h
  exact ⟨h1, timesG_len h, h2⟩
theorem pixelG_enc {p es : List Nat} (h : pixelG p es) : pxBytes [Pxl.of p] = es ∧ (Pxl.of p).Small := by
  obtain ⟨rfl, hl, hs⟩ := pixelG_form h
  match p, hl with
  | [a, b, c, d], _ => exact ⟨rfl, hs a (by simp), hs b (by simp), hs c (by simp), hs d (by simp)⟩
theorem pixelsG_enc {k : Nat} {ps : List (List Nat)} {es : List Nat} (h : timesG pixelG k ps es) : pxBytes (ps.map Pxl.of) = es ∧ ∀ p ∈ ps.map Pxl.of, Pxl.Small p := by
  induction k generalizing ps es with
  | zero => obtain ⟨rfl, rfl⟩ := h; exact ⟨rfl, fun _ h => nomatch h⟩
  | succ k ih =>
    obtain ⟨xs, e1, _, h1, ⟨x, e2, _, h2, ⟨rfl, rfl⟩, rfl⟩, rfl⟩ := h
    obtain ⟨i1, i2⟩ := ih h1
    obtain ⟨p1, p2⟩ := pixelG_enc h2
    constructor
    · rw [List.map_append, List.append_nil, pxBytes, List.flatMap_append]
      rw [pxBytes] at i1 p1
      rw [i1]
      exact congrArg (e1 ++ ·) p1
    · intro p hp
      rw [List.map_append] at hp
      rcases List.mem_append.1 hp with hp | hp
      · exact i2 p hp
      · obtain rfl : p = Pxl.of x := by simpa using hp
        exact p2
theorem listG_enc {l : List Int} {es : List Nat} (h : listG l es) : ∃ e1 e2, es = e1 ++ e2 ∧ encNums [(l.length : Int)] = some e1 ∧ encNums l = some e2 ∧ l.length ≤ 100 := by
  obtain ⟨n, e1, e2, ⟨h1, hlo, hhi⟩, h2, rfl⟩ := h
  have hl := timesG_len h2
  have hn : (l.length : Int) = n := by omega
  exact ⟨e1, e2, rfl, by rw [hn]; exact encNums_one h1, timesG_num h2, by omega⟩
theorem nodeG_enc {n : GNode} {es : List Nat} (h : nodeG n es) : encNode n = some es ∧ n.ins.length ≤ 100 ∧ n.ps.length ≤ 100 := by
  obtain ⟨o, e1, _, h1, ⟨i, _, _, h2, ⟨p, _, _, h3, ⟨rfl, rfl⟩, rfl⟩, rfl⟩, rfl⟩ := h
  obtain ⟨a1, a2, rfl, b1, b2, hi⟩ := listG_enc h2
  obtain ⟨c1, c2, rfl, d1, d2, hp⟩ := listG_enc h3
  refine ⟨?_, hi, hp⟩
  unfold encNode
  rw [if_pos ⟨hi, hp⟩, show encNums [o, (i.length : Int)] = _ from encNums_app (xs := [o]) (encNums_one h1) b1]
  simp only [b2, d1, d2, Option.bind_some, Option.some.injEq, List.append_assoc, List.append_nil]
theorem nodesG_enc {k : Nat} {ns : List GNode} {es : List Nat} (h : timesG nodeG k ns es) : encNodes ns = some es := by
  have app : ∀ xs ys a b, encNodes xs = some a → encNodes ys = some b → encNodes (xs ++ ys) = some (a ++ b) := by
    intro xs
    induction xs with
    | nil => intro ys a b h k; simp only [encNodes, Option.some.injEq] at h; subst h; simpa using k
    | cons x r ih =>
      intro ys a b h k
      rw [encNodes] at h
      obtain ⟨u, hu, h⟩ := Option.bind_eq_some_iff.1 h
      obtain ⟨v, hv, rfl⟩ := Option.map_eq_some_iff.1 h
      rw [List.cons_append, encNodes, hu, ih ys v b hv k]
      simp
  induction k generalizing ns es with
  | zero => obtain ⟨rfl, rfl⟩ := h; rfl
  | succ k ih =>
    obtain ⟨xs, e1, _, h1, ⟨x, e2, _, h2, ⟨rfl, rfl⟩, rfl⟩, rfl⟩ := h
    rw [List.append_nil]
    refine app _ _ _ _ (ih h1) ?_
    rw [encNodes, (nodeG_enc h2).1, encNodes]
    simp
theorem graphG_enc {g : Gr} {es : List Nat} (h : graphG g es) : encGraph g = some es ∧ NodesBorne g.nodes := by
  obtain ⟨o, e1, _, h1, ⟨k, e2, _, ⟨h2, hlo, hhi⟩, ⟨ns, e3, _, h3, ⟨rfl, rfl⟩, rfl⟩, rfl⟩, rfl⟩ := h
  have hl := timesG_len h3
  have hk : (ns.length : Int) = k := by omega
  constructor
  · unfold encGraph
    simp only
    rw [if_pos (by omega), hk, show encNums [o, k] = _ from encNums_app (xs := [o]) (encNums_one h1) (encNums_one h2), nodesG_enc h3]
    simp
  · refine ⟨by simp only; omega, fun i n hi => ?_⟩
    obtain ⟨e, he⟩ := timesG_all h3 n (List.mem_of_getElem? hi)
    have := (nodeG_enc he).2
    omega
theorem contentG_enc {c : Ct} {es : List Nat} (h : contentG c es) : encContent c = some es ∧ c.pix.length ≤ 1000000000 ∧ PxSmall c := by
  obtain ⟨k, e1, _, h1, h, rfl⟩ := h
  have z : Pxl.zero.Small := by unfold Pxl.Small Pxl.zero; decide
  unfold encContent
  rcases h with ⟨rfl, ⟨b, e2, _, hb, ⟨p, e3, _, hp, ⟨rfl, rfl⟩, rfl⟩, rfl⟩⟩ | ⟨hk, h⟩
  · refine ⟨?_, by simp, ⟨(pixelG_enc hp).2, fun _ h => nomatch h⟩⟩
    simp only [encNums_one h1, boxG_enc hb, (pixelG_enc hp).1, Option.bind_some, if_true, List.append_nil]
  · rcases h with ⟨rfl, ⟨x, f1, _, g1, ⟨y, f2, _, g2, ⟨w, f3, _, g3, ⟨h, f4, _, g4, ⟨t, f5, _, g5, ⟨ps, f6, _, g6, ⟨rfl, rfl⟩, rfl⟩, rfl⟩, rfl⟩, rfl⟩, rfl⟩, rfl⟩⟩ | ⟨hk2, ⟨rfl, rfl⟩⟩
    · have hl := timesG_len g6
      have hc := countOf_le w h
      refine ⟨?_, by simp only [List.length_map]; omega, ⟨z, (pixelsG_enc g6).2⟩⟩
      have e : encNums [x, y, w, h, t] = some (f1 ++ (f2 ++ (f3 ++ (f4 ++ f5)))) := encNums_app (xs := [x]) (encNums_one g1) (encNums_app (xs := [y]) (encNums_one g2) (encNums_app (xs := [w]) (encNums_one g3) (encNums_app (xs := [h]) (encNums_one g4) (encNums_one g5))))
      simp only [encNums_one h1, Option.bind_some, hk, if_false, if_true, List.length_map, hl, e, (pixelsG_enc g6).1, List.append_assoc, List.append_nil]
    · refine ⟨?_, by simp, ⟨z, fun _ h => nomatch h⟩⟩
      simp only [encNums_one h1, Option.bind_some, hk, hk2, if_false, List.append_nil]
theorem confG_enc {c : Cf} {es : List Nat} (h : confG c es) : encNums [flagsOf c, c.room] = some es := by
  obtain ⟨n, e1, _, ⟨h1, hlo, hhi⟩, ⟨r, e2, _, h2, ⟨rfl, rfl⟩, rfl⟩, rfl⟩ := h
  rw [List.append_nil]
  have : flagsOf ⟨decide (n % 2 = 1), decide (n / 2 % 2 = 1), decide (n / 4 % 2 = 1), decide (n / 8 % 2 = 1), r⟩ = n := by
    have : n = 0 ∨ n = 1 ∨ n = 2 ∨ n = 3 ∨ n = 4 ∨ n = 5 ∨ n = 6 ∨ n = 7 ∨ n = 8 ∨ n = 9 ∨ n = 10 ∨ n = 11 ∨ n = 12 ∨ n = 13 ∨ n = 14 ∨ n = 15 := by omega
    rcases this with rfl | rfl | rfl | rfl | rfl | rfl | rfl | rfl | rfl | rfl | rfl | rfl | rfl | rfl | rfl | rfl <;> rfl
  rw [this]
  exact encNums_app (xs := [n]) (encNums_one h1) (encNums_one h2)
theorem flagG_enc {f : Bool} {es : List Nat} (h : flagG f es) : encNums [if f then 1 else 0] = some es := by
  unfold flagG at h
  subst h
  have h1 : encNum 1 = [2] := encM_lt (by decide)
  have h0 : encNum 0 = [0] := encM_lt (by decide)
  cases f
  · simp [encNums, h0]
  · simp [encNums, h1]
theorem LookBorne.zero : LookBorne Lk.zero := ⟨by simp [Lk.zero, Ct.zero], ⟨by simp [Lk.zero, Gr.zero], by simp [Lk.zero, Gr.zero]⟩, ⟨by simp [Lk.zero, Gr.zero], by simp [Lk.zero, Gr.zero]⟩⟩
theorem PxSmall.zero : PxSmall Ct.zero := ⟨by unfold Pxl.Small; decide, fun _ h => nomatch h⟩
/-- What a look's bytes say of it. -/
structure LookG (k : Int) (l : Lk) : Prop where
  borne : LookBorne l
  small : PxSmall l.content

theorem lookG_enc {k : Int} {l : Lk} {e4 : List Nat} (h : lookG k l e4) : LookG k l ∧
    ∀ (a : List Nat) (i t : Int × Int) (at_ : Int), (if k = 1 then some [] else encNums [i.1, i.2]) = some a → k ≠ 1 → k ≠ 3 → k ≠ 4 → encOpr ⟨k, i, t, at_, l⟩ = some (a ++ e4) := by
  have z := LookBorne.zero
  have s := PxSmall.zero
  rcases h with ⟨rfl, x, e1, _, h1, ⟨y, e2, _, h2, ⟨rfl, rfl⟩, rfl⟩, rfl⟩ | ⟨h5, h⟩
  · refine ⟨⟨⟨z.pix, z.filt, z.back⟩, s⟩, fun a i t at_ ha k1 k3 k4 => ?_⟩
    have e := encNums_app (xs := [x]) (encNums_one h1) (encNums_one h2)
    simp only [List.singleton_append] at e
    simp [encOpr] at ha ⊢
    simp [ha, e]
  rcases h with ⟨rfl, f, e1, _, h1, h, rfl⟩ | ⟨h6, h⟩
  · rcases h with ⟨rfl, b, e2, _, h2, ⟨rfl, rfl⟩, rfl⟩ | ⟨hf, ⟨rfl, rfl⟩⟩
    · refine ⟨⟨⟨z.pix, z.filt, z.back⟩, s⟩, fun a i t at_ ha k1 k3 k4 => ?_⟩
      have e := boxG_enc h2
      have g := flagG_enc h1
      simp at g
      simp [encOpr] at ha ⊢
      simp [ha, e, g]
    · refine ⟨⟨z, s⟩, fun a i t at_ ha k1 k3 k4 => ?_⟩
      have g := flagG_enc h1
      simp at hf
      simp [hf] at g
      simp [encOpr, Lk.zero] at ha ⊢
      simp [ha, g]
  rcases h with ⟨rfl, x, e1, _, h1, ⟨rfl, rfl⟩, rfl⟩ | ⟨h7, h⟩
  · refine ⟨⟨⟨z.pix, z.filt, z.back⟩, s⟩, fun a i t at_ ha k1 k3 k4 => ?_⟩
    have e := encNums_one h1
    simp [encOpr] at ha ⊢
    simp [ha, e]
  rcases h with ⟨rfl, x, e1, _, h1, ⟨rfl, rfl⟩, rfl⟩ | ⟨h8, h⟩
  · refine ⟨⟨⟨z.pix, z.filt, z.back⟩, s⟩, fun a i t at_ ha k1 k3 k4 => ?_⟩
    have e := encNums_one h1
    simp [encOpr] at ha ⊢
    simp [ha, e]
  rcases h with ⟨rfl, c, e1, _, h1, ⟨rfl, rfl⟩, rfl⟩ | ⟨h9, h⟩
  · obtain ⟨e, hb, hs⟩ := contentG_enc h1
    refine ⟨⟨⟨hb, z.filt, z.back⟩, hs⟩, fun a i t at_ ha k1 k3 k4 => ?_⟩
    simp [encOpr] at ha ⊢
    simp [ha, e]
  rcases h with ⟨rfl, f, e1, _, h1, h, rfl⟩ | ⟨h10, h⟩
  · rcases h with ⟨rfl, b, e2, _, h2, ⟨rfl, rfl⟩, rfl⟩ | ⟨hf, ⟨rfl, rfl⟩⟩
    · obtain ⟨e, hb⟩ := graphG_enc h2
      refine ⟨⟨⟨z.pix, hb, z.back⟩, s⟩, fun a i t at_ ha k1 k3 k4 => ?_⟩
      have g := flagG_enc h1
      simp at g
      simp [encOpr] at ha ⊢
      simp [ha, e, g]
    · refine ⟨⟨z, s⟩, fun a i t at_ ha k1 k3 k4 => ?_⟩
      have g := flagG_enc h1
      simp at hf
      simp [hf] at g
      simp [encOpr, Lk.zero] at ha ⊢
      simp [ha, g]
  rcases h with ⟨rfl, f, e1, _, h1, h, rfl⟩ | ⟨h11, h⟩
  · rcases h with ⟨rfl, b, e2, _, h2, ⟨rfl, rfl⟩, rfl⟩ | ⟨hf, ⟨rfl, rfl⟩⟩
    · obtain ⟨e, hb⟩ := graphG_enc h2
      refine ⟨⟨⟨z.pix, z.filt, hb⟩, s⟩, fun a i t at_ ha k1 k3 k4 => ?_⟩
      have g := flagG_enc h1
      simp at g
      simp [encOpr] at ha ⊢
      simp [ha, e, g]
    · refine ⟨⟨z, s⟩, fun a i t at_ ha k1 k3 k4 => ?_⟩
      have g := flagG_enc h1
      simp at hf
      simp [hf] at g
      simp [encOpr, Lk.zero] at ha ⊢
      simp [ha, g]
  obtain ⟨rfl, rfl⟩ := h
  refine ⟨⟨z, s⟩, fun a i t at_ ha k1 k3 k4 => ?_⟩
  rw [if_neg k1] at ha
  simp only [encOpr, ha, Option.bind_some, k1, k3, k4, h5, h6, h7, h8, h9, h10, h11, or_self, if_false, List.append_nil]

theorem oprG_enc {k : Int} {o : Opr} {es : List Nat} (h : oprG k o es) : encOpr o = some es ∧ o.kind = k ∧ LookG k o.look := by
  obtain ⟨i, a, _, hi, ⟨t, e2, _, ht, ⟨at_, e3, _, ha, ⟨l, e4, _, hl, ⟨rfl, rfl⟩, rfl⟩, rfl⟩, rfl⟩, rfl⟩ := h
  obtain ⟨hL, key⟩ := lookG_enc hl
  refine ⟨?_, rfl, hL⟩
  have hid : (if k = 1 then some [] else encNums [i.1, i.2]) = some a := by
    rcases hi with ⟨h1, _, rfl⟩ | ⟨h1, h⟩
    · rw [if_pos h1]
    · rw [if_neg h1]; exact idG_enc h
  by_cases h13 : k = 1 ∨ k = 3
  · have ht' : idG t e2 := ht.elim (fun h => h.2) fun h => absurd h13 h.1
    have ha' : numG at_ e3 := by
      rcases ha with ⟨_, h⟩ | ⟨h, _⟩
      · exact h
      · exact absurd (h13.elim .inl fun h => .inr (.inl h)) h
    have hl' : e4 = [] := by
      rcases h13 with rfl | rfl <;> · simp [lookG, GIte, GPure] at hl; exact hl.2
    subst hl'
    simp only [encOpr, hid, Option.bind_some, h13, if_true, idG_enc ht', encNums_one ha', List.append_nil, List.append_assoc]
  · have ht' : e2 = [] := ht.elim (fun h => absurd h.1 h13) fun h => h.2.2
    subst ht'
    by_cases h4 : k = 4
    · have ha' : numG at_ e3 := by
        rcases ha with ⟨_, h⟩ | ⟨h, _⟩
        · exact h
        · exact absurd (.inr (.inr h4)) h
      have hl' : e4 = [] := by subst h4; simp [lookG, GIte, GPure] at hl; exact hl.2
      subst hl'
      unfold encOpr
      simp only
      rw [hid, Option.bind_some, if_neg h13, if_pos h4, encNums_one ha', Option.bind_some]
      simp
    · have ha' : e3 = [] := by
        rcases ha with ⟨h, _⟩ | ⟨_, _, h⟩
        · omega
        · exact h
      subst ha'
      simpa using key a i t at_ hid (fun h => h13 (.inl h)) (fun h => h13 (.inr h)) h4

/-- What is read is written so. -/
theorem actG_enc {a : Ac} {es : List Nat} (h : actG a es) : encAct a = some es ∧ LookBorne a.op.look ∧ PxSmall a.op.look.content := by
  obtain ⟨b, _, _, ⟨hb, rfl⟩, h, rfl⟩ := h
  have z : LookBorne Opr.zero.look ∧ PxSmall Opr.zero.look.content := ⟨LookBorne.zero, PxSmall.zero⟩
  rcases h with ⟨hr, h⟩ | ⟨_, h⟩
  · rcases h with ⟨rfl, x, e1, _, h1, ⟨y, e2, _, h2, ⟨rfl, rfl⟩, rfl⟩, rfl⟩ | ⟨h12, h⟩
    · have e := encNums_app (xs := [x]) (encNums_one h1) (encNums_one h2)
      simp only [List.singleton_append] at e
      refine ⟨?_, z⟩
      simp [encAct, e]
    rcases h with ⟨rfl, c, e1, _, h1, ⟨rfl, rfl⟩, rfl⟩ | ⟨h13, h⟩
    · refine ⟨?_, z⟩
      simp [encAct, confG_enc h1]
    rcases h with ⟨rfl, ⟨rfl, rfl⟩⟩ | ⟨h14, h⟩
    · refine ⟨?_, z⟩
      simp [encAct]
    obtain ⟨o, e1, _, h1, ⟨rfl, rfl⟩, rfl⟩ := h
    obtain ⟨he, _, hL⟩ := oprG_enc h1
    refine ⟨?_, hL.borne, hL.small⟩
    unfold encAct
    simp only
    rw [if_pos (by omega), if_neg (by omega), if_neg (by omega), if_neg (by omega), he]
    simp
  · exact h.elim

/-! The bytes of an act. -/

/-- The bytes that an act has, if any. -/
def putOf (a : Ac) : Option (List Nat) := (encAct a).bind fun es => (actAt es 0).bind fun p => if p.1 = a then some es else none

theorem putOf_iff {a : Ac} {es : List Nat} (hs : PxSmall a.op.look.content) : putOf a = some es ↔ actG a es := by
  unfold putOf
  constructor
  · intro h
    obtain ⟨e, he, h⟩ := Option.bind_eq_some_iff.1 h
    obtain ⟨⟨x, m⟩, hx, h⟩ := Option.bind_eq_some_iff.1 h
    simp only at h
    split at h
    · rename_i hxa
      simp only [Option.some.injEq] at h
      subst h
      subst hxa
      obtain ⟨e', g, _, _⟩ := (act_spec (encAct_fine he hs).2 0 x m).1 hx
      rw [(actG_enc g).1] at he
      simp only [Option.some.injEq] at he
      rw [← he]
      exact g
    · cases h
  · intro g
    have he := (actG_enc g).1
    have := (act_spec (encAct_fine he hs).2 0 a es.length).2 ⟨es, g, Sits.self es, by omega⟩
    rw [he, Option.bind_some, this, Option.bind_some, if_pos rfl]

theorem putOf_of_act {bs : List Nat} (hb : ∀ b ∈ bs, b < 256) {n m : Nat} {a : Ac} (h : actAt bs n = some (a, m)) : ∃ es, putOf a = some es ∧ Sits es bs n ∧ m = n + es.length ∧ LookBorne a.op.look ∧ PxSmall a.op.look.content := by
  obtain ⟨es, g, s, e⟩ := (act_spec hb n a m).1 h
  have k := actG_enc g
  exact ⟨es, (putOf_iff k.2.2).2 g, s, e, k.2⟩
theorem act_of_putOf {bs : List Nat} (hb : ∀ b ∈ bs, b < 256) {n : Nat} {a : Ac} {es : List Nat} (hs : PxSmall a.op.look.content) (h : putOf a = some es) (s : Sits es bs n) : actAt bs n = some (a, n + es.length) :=
  (act_spec hb n a _).2 ⟨es, (putOf_iff hs).1 h, s, rfl⟩

end Go.Gou
