/- Plain words on memory: acts, and what they hold. -/
import Derived.Test.YtnamnmipgpcjjaaCRdC
import Derived.Deep.MidRow
import Derived.Deep.AppendLies
namespace Go.Gou
open Go.RowKit

structure Rc where
  x0 : Int
  y0 : Int
  x1 : Int
  y1 : Int
  deriving DecidableEq

structure Pxl where
  p0 : Nat
  p1 : Nat
  p2 : Nat
  p3 : Nat
  deriving DecidableEq

deriving instance DecidableEq for GNode
deriving instance DecidableEq for Gr

structure Ct where
  kind : Int
  box : Rc
  px : Pxl
  w : Int
  h : Int
  turn : Int
  pix : List Pxl
  deriving DecidableEq

structure Lk where
  dx : Int
  dy : Int
  hasClip : Bool
  clip : Rc
  opacity : Int
  mode : Int
  content : Ct
  hasFilt : Bool
  filt : Gr
  hasBack : Bool
  back : Gr
  deriving DecidableEq

structure Opr where
  kind : Int
  id : Int × Int
  to : Int × Int
  at_ : Int
  look : Lk
  deriving DecidableEq

structure Cf where
  fuse : Bool
  alias : Bool
  roi : Bool
  damage : Bool
  room : Int
  deriving DecidableEq

structure Ac where
  kind : Int
  op : Opr
  w : Int
  h : Int
  conf : Cf
  deriving DecidableEq

def Rc.zero : Rc := ⟨0, 0, 0, 0⟩
def Pxl.zero : Pxl := ⟨0, 0, 0, 0⟩
def Gr.zero : Gr := ⟨[], 0⟩
def Ct.zero : Ct := ⟨0, Rc.zero, Pxl.zero, 0, 0, 0, []⟩
def Lk.zero : Lk := ⟨0, 0, false, Rc.zero, 0, 0, Ct.zero, false, Gr.zero, false, Gr.zero⟩
def Opr.zero : Opr := ⟨0, (0, 0), (0, 0), 0, Lk.zero⟩
def Cf.zero : Cf := ⟨false, false, false, false, 0⟩
def Ac.zero : Ac := ⟨0, Opr.zero, 0, 0, Cf.zero⟩

def Rc.of (l : List Int) : Rc := ⟨l.getD 0 0, l.getD 1 0, l.getD 2 0, l.getD 3 0⟩
def Pxl.of (l : List Nat) : Pxl := ⟨l.getD 0 0, l.getD 1 0, l.getD 2 0, l.getD 3 0⟩
def Pxl.cells (p : Pxl) : List Value := [.int .u8 (p.p0 : Nat), .int .u8 (p.p1 : Nat), .int .u8 (p.p2 : Nat), .int .u8 (p.p3 : Nat)]
abbrev ivs (xs : List Int) : List Value := xs.map (.int .i64)
abbrev pxs (ps : List Pxl) : List Value := ps.flatMap Pxl.cells

/-- The cells of a content, a look, an operation, an act; the slices that they hold apart. -/
def contC (c : Ct) (vp : Value) : Array Value :=
  #[.int .i64 c.kind, .int .i64 c.box.x0, .int .i64 c.box.y0, .int .i64 c.box.x1, .int .i64 c.box.y1,
    .int .u8 (c.px.p0 : Nat), .int .u8 (c.px.p1 : Nat), .int .u8 (c.px.p2 : Nat), .int .u8 (c.px.p3 : Nat), .int .i64 c.w, .int .i64 c.h, .int .i64 c.turn, vp]
def lookC (l : Lk) (vp vf vb : Value) : Array Value :=
  List.toArray (Value.int .i64 l.dx :: Value.int .i64 l.dy :: Value.bool l.hasClip :: Value.int .i64 l.clip.x0 :: Value.int .i64 l.clip.y0 :: Value.int .i64 l.clip.x1 :: Value.int .i64 l.clip.y1 :: Value.int .i64 l.opacity :: Value.int .i64 l.mode :: Value.int .i64 l.content.kind :: Value.int .i64 l.content.box.x0 :: Value.int .i64 l.content.box.y0 :: Value.int .i64 l.content.box.x1 :: Value.int .i64 l.content.box.y1 :: Value.int .u8 (l.content.px.p0 : Nat) :: Value.int .u8 (l.content.px.p1 : Nat) :: Value.int .u8 (l.content.px.p2 : Nat) :: Value.int .u8 (l.content.px.p3 : Nat) :: Value.int .i64 l.content.w :: Value.int .i64 l.content.h :: Value.int .i64 l.content.turn :: vp :: Value.bool l.hasFilt :: vf :: Value.int .i64 l.filt.out :: Value.bool l.hasBack :: vb :: Value.int .i64 l.back.out :: [])
def oprC (o : Opr) (vp vf vb : Value) : Array Value :=
  List.toArray (Value.int .i64 o.kind :: Value.int .i64 o.id.1 :: Value.int .i64 o.id.2 :: Value.int .i64 o.to.1 :: Value.int .i64 o.to.2 :: Value.int .i64 o.at_ :: Value.int .i64 o.look.dx :: Value.int .i64 o.look.dy :: Value.bool o.look.hasClip :: Value.int .i64 o.look.clip.x0 :: Value.int .i64 o.look.clip.y0 :: Value.int .i64 o.look.clip.x1 :: Value.int .i64 o.look.clip.y1 :: Value.int .i64 o.look.opacity :: Value.int .i64 o.look.mode :: Value.int .i64 o.look.content.kind :: Value.int .i64 o.look.content.box.x0 :: Value.int .i64 o.look.content.box.y0 :: Value.int .i64 o.look.content.box.x1 :: Value.int .i64 o.look.content.box.y1 :: Value.int .u8 (o.look.content.px.p0 : Nat) :: Value.int .u8 (o.look.content.px.p1 : Nat) :: Value.int .u8 (o.look.content.px.p2 : Nat) :: Value.int .u8 (o.look.content.px.p3 : Nat) :: Value.int .i64 o.look.content.w :: Value.int .i64 o.look.content.h :: Value.int .i64 o.look.content.turn :: vp :: Value.bool o.look.hasFilt :: vf :: Value.int .i64 o.look.filt.out :: Value.bool o.look.hasBack :: vb :: Value.int .i64 o.look.back.out :: [])
def confC (c : Cf) : Array Value := #[.bool c.fuse, .bool c.alias, .bool c.roi, .bool c.damage, .int .i64 c.room]
def actC (a : Ac) (vp vf vb : Value) : Array Value :=
  List.toArray (Value.int .i64 a.kind :: Value.int .i64 a.op.kind :: Value.int .i64 a.op.id.1 :: Value.int .i64 a.op.id.2 :: Value.int .i64 a.op.to.1 :: Value.int .i64 a.op.to.2 :: Value.int .i64 a.op.at_ :: Value.int .i64 a.op.look.dx :: Value.int .i64 a.op.look.dy :: Value.bool a.op.look.hasClip :: Value.int .i64 a.op.look.clip.x0 :: Value.int .i64 a.op.look.clip.y0 :: Value.int .i64 a.op.look.clip.x1 :: Value.int .i64 a.op.look.clip.y1 :: Value.int .i64 a.op.look.opacity :: Value.int .i64 a.op.look.mode :: Value.int .i64 a.op.look.content.kind :: Value.int .i64 a.op.look.content.box.x0 :: Value.int .i64 a.op.look.content.box.y0 :: Value.int .i64 a.op.look.content.box.x1 :: Value.int .i64 a.op.look.content.box.y1 :: Value.int .u8 (a.op.look.content.px.p0 : Nat) :: Value.int .u8 (a.op.look.content.px.p1 : Nat) :: Value.int .u8 (a.op.look.content.px.p2 : Nat) :: Value.int .u8 (a.op.look.content.px.p3 : Nat) :: Value.int .i64 a.op.look.content.w :: Value.int .i64 a.op.look.content.h :: Value.int .i64 a.op.look.content.turn :: vp :: Value.bool a.op.look.hasFilt :: vf :: Value.int .i64 a.op.look.filt.out :: Value.bool a.op.look.hasBack :: vb :: Value.int .i64 a.op.look.back.out :: Value.int .i64 a.w :: Value.int .i64 a.h :: Value.bool a.conf.fuse :: Value.bool a.conf.alias :: Value.bool a.conf.roi :: Value.bool a.conf.damage :: Value.int .i64 a.conf.room :: [])

/-- A slice value of n elements of k cells each, that read as cs, in blocks that are good. -/
def RowG (G : Nat → Prop) (w : World) (k : Nat) (v : Value) (n : Nat) (cs : List Value) : Prop :=
  cs.length = n * k ∧ ∃ (p : Option Addr) (cap : Nat), v = .slice p n cap ∧ n ≤ cap ∧ (n = 0 ∨ ∃ b o, p = some ⟨b, o, none⟩ ∧ b < w.heap.size ∧ G b ∧
    ∀ j u, cs[j]? = some u → w.cell? ⟨b, o + j, none⟩ = some u)

theorem RowG.mod {G S : Nat → Prop} {w w' : World} {k : Nat} {v : Value} {n : Nat} {cs : List Value} (h : RowG G w k v n cs) (hm : Mod S w w') (hS : ∀ k, k < w.heap.size → G k → ¬ S k) : RowG G w' k v n cs := by
  obtain ⟨hl, p, cap, rfl, hcap, h⟩ := h
  refine ⟨hl, p, cap, rfl, hcap, h.imp id ?_⟩
  rintro ⟨b, o, rfl, hB, hG, hc⟩
  exact ⟨b, o, rfl, Nat.lt_of_lt_of_le hB hm.size, hG, fun j u hu => by rw [hm.cell (p := ⟨b, o + j, none⟩) hB (hS b hB hG)]; exact hc j u hu⟩

theorem RowG.imp {G G' : Nat → Prop} {w : World} {k : Nat} {v : Value} {n : Nat} {cs : List Value} (h : RowG G w k v n cs) (hG : ∀ k, k < w.heap.size → G k → G' k) : RowG G' w k v n cs := by
  obtain ⟨hl, p, cap, rfl, hcap, h⟩ := h
  refine ⟨hl, p, cap, rfl, hcap, h.imp id ?_⟩
  rintro ⟨b, o, rfl, hB, hG', hc⟩
  exact ⟨b, o, rfl, hB, hG b hB hG', hc⟩

theorem RowG.form {G : Nat → Prop} {w : World} {k : Nat} {v : Value} {n : Nat} {cs : List Value} (h : RowG G w k v n cs) : ∃ p cap, v = .slice p n cap ∧ n ≤ cap := by
  obtain ⟨_, p, cap, rfl, hcap, _⟩ := h
  exact ⟨p, cap, rfl, hcap⟩

theorem RowG.nil (G : Nat → Prop) (w : World) (k : Nat) : RowG G w k (.slice none 0 0) 0 [] := ⟨by simp, none, 0, rfl, Nat.le_refl _, .inl rfl⟩

theorem RowG.of_own {w : World} {base : Nat} {e : TypeId} {k : Nat} {v : Value} {n : Nat} {cs : List Value} (h : w.ownsRow base e k v n cs) : RowG (fun b => base ≤ b) w k v n cs := by
  have hlt := h.lt
  obtain ⟨hl, h⟩ := h
  rcases h with ⟨rfl, rfl⟩ | ⟨g, cap, cur, rfl, hg, hh, hn, _, _, ht⟩
  · exact ⟨hl, _, _, rfl, Nat.le_refl _, .inl rfl⟩
  · refine ⟨hl, _, _, rfl, hn, .inr ⟨g, 0, rfl, (hlt g rfl).2, hg, fun j u hu => ?_⟩⟩
    rw [Nat.zero_add, cell_of_row w g j cur e (0, 0) hh, ← hu, ← ht, List.getElem?_take]
    have hj : j < cs.length := (List.getElem?_eq_some_iff.1 hu).1
    rw [if_pos (by omega)]
    simp

theorem RowG.own_of {w : World} {base : Nat} {e : TypeId} {k : Nat} {v : Value} {n : Nat} {cs : List Value} (h : w.ownsRow base e k v n cs) {G : Nat → Prop} (hG : ∀ b, v.ownBlock = some b → base ≤ b → G b) : RowG G w k v n cs := by
  have h1 := RowG.of_own h
  obtain ⟨hl, p, cap, rfl, hcap, h1⟩ := h1
  refine ⟨hl, p, cap, rfl, hcap, h1.imp id ?_⟩
  rintro ⟨b, o, rfl, hB, hb, hc⟩
  exact ⟨b, o, rfl, hB, hG b rfl hb, hc⟩

/-- A slice whose block may be written. -/
def Soft (w : World) (v : Value) : Prop := ∀ b, v.ownBlock = some b → ∃ cur T, w.heap[b]? = some (.cells cur T (0, 0))

theorem Soft.of_own {w : World} {base : Nat} {e : TypeId} {k : Nat} {v : Value} {n : Nat} {cs : List Value} (h : w.ownsRow base e k v n cs) : Soft w v := by
  intro b hb
  rcases h.2 with ⟨rfl, _⟩ | ⟨g, cap, cur, rfl, hg, hh, _⟩
  · cases hb
  · obtain rfl : g = b := by simpa [Value.ownBlock] using hb
    exact ⟨cur, e, hh⟩

def IntsR (G : Nat → Prop) (w : World) (v : Value) (xs : List Int) : Prop := RowG G w 1 v xs.length (ivs xs)
def PixR (G : Nat → Prop) (w : World) (v : Value) (ps : List Pxl) : Prop := RowG G w 4 v ps.length (pxs ps)

/-- What a list of cells says as nodes. -/
def NodeC (G : Nat → Prop) (w : World) (xs : List Value) (ns : List GNode) : Prop :=
  xs.length = ns.length * 3 ∧ ∀ i, (h : i < ns.length) → ∃ vi vp, xs[i * 3]? = some (.int .i64 ns[i].op) ∧ xs[i * 3 + 1]? = some vi ∧ xs[i * 3 + 2]? = some vp ∧ IntsR G w vi ns[i].ins ∧ IntsR G w vp ns[i].ps

theorem NodeC.nil (G : Nat → Prop) (w : World) : NodeC G w [] [] := ⟨rfl, fun i h => by simp at h⟩

theorem NodeC.snoc {G : Nat → Prop} {w : World} {xs : List Value} {ns : List GNode} (h : NodeC G w xs ns) (n : GNode) (vi vp : Value) (h1 : IntsR G w vi n.ins) (h2 : IntsR G w vp n.ps) :
    NodeC G w (xs ++ [.int .i64 n.op, vi, vp]) (ns ++ [n]) := by
  obtain ⟨hl, h⟩ := h
  refine ⟨by simp [hl]; omega, fun i hi => ?_⟩
  by_cases hin : i < ns.length
  · obtain ⟨a, b, c0, c1, c2, c3, c4⟩ := h i hin
    refine ⟨a, b, ?_, ?_, ?_, ?_, ?_⟩
    · rw [List.getElem?_append_left (by omega), c0, List.getElem_append_left hin]
    · rw [List.getElem?_append_left (by omega), c1]
    · rw [List.getElem?_append_left (by omega), c2]
    · rw [List.getElem_append_left hin]; exact c3
    · rw [List.getElem_append_left hin]; exact c4
  · have hi' : i = ns.length := by simp at hi; omega
    subst hi'
    refine ⟨vi, vp, ?_, ?_, ?_, ?_, ?_⟩
    · rw [List.getElem?_append_right (by omega), hl]; simp
    · rw [List.getElem?_append_right (by omega), hl]
      have : ns.length * 3 + 1 - ns.length * 3 = 1 := by omega
      rw [this]; rfl
    · rw [List.getElem?_append_right (by omega), hl]
      have : ns.length * 3 + 2 - ns.length * 3 = 2 := by omega
      rw [this]; rfl
    · simpa using h1
    · simpa using h2

theorem NodeC.mod {G S : Nat → Prop} {w w' : World} {xs : List Value} {ns : List GNode} (h : NodeC G w xs ns) (hm : Mod S w w') (hS : ∀ k, k < w.heap.size → G k → ¬ S k) : NodeC G w' xs ns :=
  ⟨h.1, fun i hi => by
    obtain ⟨a, b, c0, c1, c2, c3, c4⟩ := h.2 i hi
    exact ⟨a, b, c0, c1, c2, RowG.mod c3 hm hS, RowG.mod c4 hm hS⟩⟩

theorem NodeC.imp {G G' : Nat → Prop} {w : World} {xs : List Value} {ns : List GNode} (h : NodeC G w xs ns) (hG : ∀ k, k < w.heap.size → G k → G' k) : NodeC G' w xs ns :=
  ⟨h.1, fun i hi => by
    obtain ⟨a, b, c0, c1, c2, c3, c4⟩ := h.2 i hi
    exact ⟨a, b, c0, c1, c2, RowG.imp c3 hG, RowG.imp c4 hG⟩⟩

def NodesR (G : Nat → Prop) (w : World) (v : Value) (ns : List GNode) : Prop := ∃ cs, RowG G w 3 v ns.length cs ∧ NodeC G w cs ns

theorem NodesR.mod {G S : Nat → Prop} {w w' : World} {v : Value} {ns : List GNode} (h : NodesR G w v ns) (hm : Mod S w w') (hS : ∀ k, k < w.heap.size → G k → ¬ S k) : NodesR G w' v ns := by
  obtain ⟨cs, h1, h2⟩ := h
  exact ⟨cs, h1.mod hm hS, h2.mod hm hS⟩

theorem NodesR.imp {G G' : Nat → Prop} {w : World} {v : Value} {ns : List GNode} (h : NodesR G w v ns) (hG : ∀ k, k < w.heap.size → G k → G' k) : NodesR G' w v ns := by
  obtain ⟨cs, h1, h2⟩ := h
  exact ⟨cs, h1.imp hG, h2.imp hG⟩

theorem NodesR.nil (G : Nat → Prop) (w : World) : NodesR G w (.slice none 0 0) [] := ⟨[], RowG.nil G w 3, NodeC.nil G w⟩
theorem PixR.nil (G : Nat → Prop) (w : World) : PixR G w (.slice none 0 0) [] := RowG.nil G w 4

/-- The slices of a look. -/
structure LookR (G : Nat → Prop) (w : World) (l : Lk) (vp vf vb : Value) : Prop where
  pix : PixR G w vp l.content.pix
  filt : NodesR G w vf l.filt.nodes
  back : NodesR G w vb l.back.nodes

theorem LookR.mod {G S : Nat → Prop} {w w' : World} {l : Lk} {vp vf vb : Value} (h : LookR G w l vp vf vb) (hm : Mod S w w') (hS : ∀ k, k < w.heap.size → G k → ¬ S k) : LookR G w' l vp vf vb :=
  ⟨RowG.mod h.pix hm hS, h.filt.mod hm hS, h.back.mod hm hS⟩

theorem LookR.imp {G G' : Nat → Prop} {w : World} {l : Lk} {vp vf vb : Value} (h : LookR G w l vp vf vb) (hG : ∀ k, k < w.heap.size → G k → G' k) : LookR G' w l vp vf vb :=
  ⟨RowG.imp h.pix hG, h.filt.imp hG, h.back.imp hG⟩

/-- A value that reads as an act. -/
def ActV (G : Nat → Prop) (w : World) (v : Value) (a : Ac) : Prop := ∃ vp vf vb, v = .agg (actC a vp vf vb) ∧ LookR G w a.op.look vp vf vb

/-- A box of a variable's cells, whole. -/
abbrev Blk (w : World) (b : Nat) (T : TypeId) (cs : Array Value) : Prop := w.heap[b]? = some (.cells cs T (0, 0))

theorem Blk.lt {w : World} {b : Nat} {T : TypeId} {cs : Array Value} (h : Blk w b T cs) : b < w.heap.size := (Array.getElem?_eq_some_iff.1 h).1
theorem Blk.mod {S : Nat → Prop} {w w' : World} {b : Nat} {T : TypeId} {cs : Array Value} (h : Blk w b T cs) (hm : Mod S w w') (hS : ¬ S b) : Blk w' b T cs := by
  have h' := hm.block b (Blk.lt h) hS
  unfold Blk at h ⊢
  rw [h', h]
theorem Blk.cell {w : World} {b : Nat} {T : TypeId} {cs : Array Value} (h : Blk w b T cs) (i : Nat) {u : Value} (hu : cs[i]? = some u) : w.cell? ⟨b, i, none⟩ = some u := by
  rw [cell_of_row w b i cs T _ h, hu]
theorem Blk.frozen {w : World} {b : Nat} {T : TypeId} {cs : Array Value} (h : Blk w b T cs) (i : Nat) : w.frozen? ⟨b, i, none⟩ = false := frozen_of_row w b i cs T h
theorem Blk.set {w : World} {b : Nat} {T : TypeId} {cs : Array Value} (h : Blk w b T cs) (i : Nat) (u : Value) : Blk (w.setCell ⟨b, i, none⟩ u) b T (cs.setIfInBounds i u) := heap_setCell_same w b i cs T u h

def setMany (cs : Array Value) : Nat → List Value → Array Value
  | _, [] => cs
  | o, v :: r => setMany (cs.setIfInBounds o v) (o + 1) r

theorem Blk.sets {w : World} {b : Nat} {T : TypeId} {cs : Array Value} (h : Blk w b T cs) (o : Nat) (vs : List Value) : Blk (w.setCells b o vs) b T (setMany cs o vs) := by
  induction vs generalizing w cs o with
  | nil => exact h
  | cons v r ih => exact ih (h.set o v) (o + 1)

theorem Blk.there {w : World} {b : Nat} {T : TypeId} {cs : Array Value} (h : Blk w b T cs) (o n : Nat) (hn : o + n ≤ cs.size) : w.there b o n := fun j hj =>
  ⟨by rw [cell_of_row w b (o + j) cs T _ h]; simp; omega, frozen_of_row w b (o + j) cs T h⟩

theorem Blk.setMod (w : World) (b o : Nat) (vs : List Value) : Mod (fun k => k = b) w (w.setCells b o vs) := by
  induction vs generalizing w o with
  | nil => exact Mod.refl _ _
  | cons v r ih => exact (Mod.setCell w ⟨b, o, none⟩ v).trans' (ih _ _)

theorem setMany_all (cs : Array Value) (vs : List Value) (h : cs.size = vs.length) : setMany cs 0 vs = vs.toArray := by
  have key : ∀ (vs pre rest : List Value), rest.length = vs.length → setMany (pre ++ rest).toArray pre.length vs = (pre ++ vs).toArray := by
    intro vs
    induction vs with
    | nil => intro pre rest hr; obtain rfl := List.length_eq_zero_iff.1 hr; rfl
    | cons v r ih =>
      intro pre rest hr
      match rest, hr with
      | x :: rest', hr =>
        have e : ((pre ++ x :: rest').toArray).setIfInBounds pre.length v = ((pre ++ [v]) ++ rest').toArray := by simp
        have := ih (pre ++ [v]) rest' (by simpa using hr)
        rw [setMany, e]
        simpa using this
  have := key vs [] cs.toList (by simpa using h)
  simpa using this

/-- A variable's box of the call's own, the box of its result, and the reader on the way. -/
structure Loc (w : World) (R : Nat) (vb : Value) (bs : List Nat) (T : TypeId) (N L : Nat) (z cs : Array Value) (m : Nat) (wr : World) : Prop where
  old : ∃ n, RdAt w R vb bs n
  rd : RdAt wr R vb bs m
  mod : Mod (fun k => k = R) w wr
  hN : w.heap.size ≤ N
  hL : w.heap.size ≤ L
  ne : N ≠ L
  res : Blk wr N T z
  loc : Blk wr L T cs

theorem Loc.step {w : World} {R : Nat} {vb : Value} {bs : List Nat} {T : TypeId} {N L : Nat} {z cs : Array Value} {m q : Nat} {wr w1 : World} (h : Loc w R vb bs T N L z cs m wr) (hm : Mod (fun k => k = R) wr w1) (hr : RdAt w1 R vb bs q) :
    Loc w R vb bs T N L z cs q w1 := by
  obtain ⟨n, hn⟩ := h.old
  have := hn.lt
  have := h.hN
  have := h.hL
  exact ⟨h.old, hr, h.mod.trans' hm, h.hN, h.hL, h.ne, h.res.mod hm (by omega), h.loc.mod hm (by omega)⟩

theorem Loc.put {w : World} {R : Nat} {vb : Value} {bs : List Nat} {T : TypeId} {N L : Nat} {z cs : Array Value} {m : Nat} {wr : World} (h : Loc w R vb bs T N L z cs m wr) (i : Nat) (u : Value) :
    Loc w R vb bs T N L z (cs.setIfInBounds i u) m (wr.setCell ⟨L, i, none⟩ u) := by
  obtain ⟨n, hn⟩ := h.old
  exact ⟨h.old, hn.own h.rd h.mod _ _ h.hL, h.mod.own _ _ h.hL, h.hN, h.hL, h.ne, h.res.mod (Mod.setCell _ _ _) h.ne, h.loc.set i u⟩

theorem RdAt.owns {w w2 : World} {R : Nat} {vb : Value} {bs : List Nat} {n q : Nat} (H : RdAt w R vb bs n) (h2 : RdAt w2 R vb bs q) (hm : Mod (fun k => k = R) w w2) (b o : Nat) (vs : List Value) (hb : w.heap.size ≤ b) :
    RdAt (w2.setCells b o vs) R vb bs q ∧ Mod (fun k => k = R) w (w2.setCells b o vs) := by
  induction vs generalizing w2 o with
  | nil => exact ⟨h2, hm⟩
  | cons v r ih => exact ih (H.own h2 hm _ _ hb) (hm.own _ _ hb) (o + 1)

theorem Loc.puts {w : World} {R : Nat} {vb : Value} {bs : List Nat} {T : TypeId} {N L : Nat} {z cs : Array Value} {m : Nat} {wr : World} (h : Loc w R vb bs T N L z cs m wr) (o : Nat) (vs : List Value) :
    Loc w R vb bs T N L z (setMany cs o vs) m (wr.setCells L o vs) := by
  obtain ⟨n, hn⟩ := h.old
  have h1 := hn.owns h.rd h.mod L o vs h.hL
  exact ⟨h.old, h1.1, h1.2, h.hN, h.hL, h.ne, h.res.mod (Blk.setMod _ _ _ _) h.ne, h.loc.sets o vs⟩

/-- At the end the variable is stored into the result's box. -/
theorem Loc.done {w : World} {R : Nat} {vb : Value} {bs : List Nat} {T : TypeId} {N L : Nat} {z cs : Array Value} {m : Nat} {wr : World} (h : Loc w R vb bs T N L z cs m wr) (hz : z.size = cs.size) :
    RdAt (wr.setCells N 0 cs.toList) R vb bs m ∧ Mod (fun k => k = R) w (wr.setCells N 0 cs.toList) ∧ Blk (wr.setCells N 0 cs.toList) N T cs ∧ Mod (fun k => k = N) wr (wr.setCells N 0 cs.toList) := by
  obtain ⟨n, hn⟩ := h.old
  have h1 := hn.owns h.rd h.mod N 0 cs.toList h.hN
  refine ⟨h1.1, h1.2, ?_, Blk.setMod _ _ _ _⟩
  have h2 := h.res.sets 0 cs.toList
  rw [setMany_all z cs.toList (by simpa using hz)] at h2
  exact h2

end Go.Gou
