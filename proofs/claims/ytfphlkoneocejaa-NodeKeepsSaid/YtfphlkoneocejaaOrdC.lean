/- order.All, its parts outside the walk: what holds ahead of each round. -/
import Derived.Test.YtfphlkoneocejaaOrdB
import Derived.Test.YtfphlkoneocejaaKahn
namespace Go.Proofs.Ytfphlkoneocejaa
open Go.RowKit Go.Gou

abbrev ci (l : List Nat) : List Int := l.map (fun (k : Nat) => (k : Int))

/-- The inputs as places. -/
def insN (g : Gr) : List (List Nat) := (insG g).map fun l => l.map Int.toNat

theorem insN_len (g : Gr) : (insN g).length = g.nodes.length := by simp [insN, insG]
theorem insG_len (g : Gr) : (insG g).length = g.nodes.length := by simp [insG]

theorem insG_get (g : Gr) (i : Nat) (hi : i < g.nodes.length) : (insG g).getD i [] = insL g.nodes.length g.nodes[i].ins := by simp [insG, List.getD, hi]
theorem insN_get (g : Gr) (i : Nat) : (insN g).getD i [] = ((insG g).getD i []).map Int.toNat := by
  simp only [insN, List.getD, List.getElem?_map]
  cases (insG g)[i]? <;> simp

theorem insG_mem (g : Gr) (i : Nat) (hi : i < g.nodes.length) : ((insG g).getD i []).Nodup ∧ ∀ x ∈ (insG g).getD i [], 0 ≤ x ∧ x < g.nodes.length := by
  rw [insG_get g i hi]
  obtain ⟨h1, h2⟩ := insL_nodup g.nodes.length g.nodes[i].ins
  exact ⟨h1, fun x hx => ((h2 x).1 hx).2⟩

theorem mem_toNat {l : List Int} (h : ∀ x ∈ l, 0 ≤ x) (k : Nat) : k ∈ l.map Int.toNat ↔ (k : Int) ∈ l := by
  rw [List.mem_map]
  constructor
  · rintro ⟨x, hx, rfl⟩
    rw [Int.toNat_of_nonneg (h x hx)]
    exact hx
  · intro hk
    exact ⟨k, hk, by simp⟩

theorem nodup_toNat {l : List Int} (h : ∀ x ∈ l, 0 ≤ x) (hn : l.Nodup) : (l.map Int.toNat).Nodup := by
  induction l with
  | nil => simp
  | cons a l ih =>
    rw [List.nodup_cons] at hn
    rw [List.map_cons, List.nodup_cons]
    refine ⟨fun hm => hn.1 ?_, ih (fun x hx => h x (by simp [hx])) hn.2⟩
    rw [mem_toNat (fun x hx => h x (by simp [hx]))] at hm
    rwa [Int.toNat_of_nonneg (h a (by simp))] at hm

theorem insN_mem (g : Gr) (i : Nat) (hi : i < g.nodes.length) (k : Nat) : k ∈ (insN g).getD i [] ↔ (k : Int) ∈ (insG g).getD i [] := by
  rw [insN_get]
  exact mem_toNat (fun x hx => ((insG_mem g i hi).2 x hx).1) k

theorem insN_nodup (g : Gr) (i : Nat) (hi : i < g.nodes.length) : ((insN g).getD i []).Nodup := by
  rw [insN_get]
  exact nodup_toNat (fun x hx => ((insG_mem g i hi).2 x hx).1) (insG_mem g i hi).1

/-- Who has k as an input. -/
theorem usesL_mem (g : Gr) (k : Nat) : (∀ x ∈ usesL (insG g) g.nodes.length 0 k, 0 ≤ x) ∧ (∀ u : Nat, (u : Int) ∈ usesL (insG g) g.nodes.length 0 k ↔ u < g.nodes.length ∧ k ∈ (insN g).getD u []) ∧ (usesL (insG g) g.nodes.length 0 k).Nodup := by
  have e : usesL (insG g) g.nodes.length 0 k = ci ((List.range g.nodes.length).filter (fun (j : Nat) => decide ((k : Int) ∈ (insG g).getD j []))) := by
    simp [usesL, ci]
  rw [e]
  refine ⟨fun x hx => ?_, fun u => ?_, ?_⟩
  · obtain ⟨y, _, rfl⟩ := List.mem_map.1 hx
    omega
  · rw [List.mem_map]
    constructor
    · rintro ⟨y, hy, hyu⟩
      obtain rfl : y = u := by omega
      rw [List.mem_filter, List.mem_range] at hy
      exact ⟨hy.1, (insN_mem g y hy.1 k).2 (by simpa using hy.2)⟩
    · rintro ⟨hu, hk⟩
      exact ⟨u, List.mem_filter.2 ⟨List.mem_range.2 hu, by simpa using (insN_mem g u hu k).1 hk⟩, rfl⟩
  · have hn : ((List.range g.nodes.length).filter (fun (j : Nat) => decide ((k : Int) ∈ (insG g).getD j []))).Nodup := List.nodup_range.filter _
    exact List.Pairwise.map _ (fun a b hab => by omega) hn

/-- The heap and the counts, as both loops have them. -/
structure HL (w : World) (base Lb N n : Nat) (vh : Value) (xs lf : List Int) (nx : List Nat) : Prop where
  pl : PlAt w N base vh xs
  perm : xs.Perm (ci nx)
  left : w.ownsRow base 3 1 (.slice (some ⟨Lb, 0, none⟩) n n) n (iv lf)
  LN : Lb ≠ N
  LH : vh.ownBlock ≠ some Lb
  baseN : base ≤ N

theorem HL.mod {w w' : World} {base Lb N n : Nat} {vh : Value} {xs lf : List Int} {nx : List Nat} (h : HL w base Lb N n vh xs lf nx) {S : Nat → Prop} (hm : Mod S w w') (hs : ∀ b, base ≤ b → b < w.heap.size → ¬ S b) : HL w' base Lb N n vh xs lf nx :=
  ⟨⟨h.pl.cell.mod hm (hs _ h.baseN h.pl.cell.lt), ownsRow_mod h.pl.own hm (fun b hb => hs b (h.pl.own.lt b hb).1 (h.pl.own.lt b hb).2), h.pl.apart⟩, h.perm,
    ownsRow_mod h.left hm (fun b hb => hs b (h.left.lt b hb).1 (h.left.lt b hb).2), h.LN, h.LH, h.baseN⟩

/-- A count stored. -/
theorem HL.store {w : World} {base Lb N n : Nat} {vh : Value} {xs lf : List Int} {nx : List Nat} (h : HL w base Lb N n vh xs lf nx) (i : Nat) (x : Int) :
    HL (w.setCell ⟨Lb, i, none⟩ (.int .i64 x)) base Lb N n vh xs (lf.set i x) nx := by
  have hm := Mod.setCell w ⟨Lb, i, none⟩ (.int .i64 x)
  obtain ⟨s1, _⟩ := h.left.stored i (.int .i64 x)
  refine ⟨⟨h.pl.cell.mod hm (fun e => h.LN e.symm), ownsRow_mod h.pl.own hm (fun b hb e => h.LH (by simp at e; rw [← e]; exact hb)), h.pl.apart⟩, h.perm, ?_, h.LN, h.LH, h.baseN⟩
  rw [iv_set]
  exact s1

/-- Behind a push. -/
theorem HL.push {w w' : World} {base Lb N n : Nat} {vh : Value} {xs lf : List Int} {nx : List Nat} (h : HL w base Lb N n vh xs lf nx) {e : Ending} {i : Nat} (hp : HPushPost w N base vh i xs e w') :
    e = .returned (.tuple #[]) ∧ ∃ vh' xs', HL w' base Lb N n vh' xs' lf (i :: nx) ∧ Mod (Own2 N vh) w w' ∧ Lies w vh vh' := by
  obtain ⟨v', ys, rfl, hperm, hpl, hmod, hlies⟩ := hp
  have hLw : Lb < w.heap.size := (h.left.lt _ rfl).2
  refine ⟨rfl, v', ys, ⟨hpl, hperm.trans (List.Perm.cons _ h.perm), ?_, h.LN, ?_, h.baseN⟩, hmod, hlies⟩
  · exact ownsRow_mod h.left hmod (fun b hb hs => by
      simp [Value.ownBlock] at hb
      subst hb
      rcases hs with hs | hs
      · exact h.LN hs
      · exact h.LH hs)
  · rcases hlies with hl | ⟨g, hg, hge⟩
    · rw [hl]; exact h.LH
    · rw [hg]
      intro e
      have := Option.some.inj e
      omega

/-- Behind a pop. -/
theorem HL.pop {w w' : World} {base Lb N n : Nat} {vh : Value} {xs lf : List Int} {nx : List Nat} (h : HL w base Lb N n vh xs lf nx) {e : Ending} (hp : HPopPost w N base vh xs e w') :
    ∃ k nx' vh' xs', e = .returned (.iface 3 (.int .i64 ((k : Nat) : Int))) ∧ nx.Perm (k :: nx') ∧ HL w' base Lb N n vh' xs' lf nx' ∧ Mod (Own2 N vh) w w' ∧ vh'.ownBlock = vh.ownBlock := by
  obtain ⟨v', x, ys, rfl, hperm, hpl, hmod, hob⟩ := hp
  have hall : (ci nx).Perm (x :: ys) := h.perm.symm.trans hperm
  have hx : x ∈ ci nx := hall.mem_iff.2 (by simp)
  obtain ⟨k, hk, rfl⟩ := List.mem_map.1 hx
  have hpk : nx.Perm (k :: nx.erase k) := List.perm_cons_erase hk
  have hys : ys.Perm (ci (nx.erase k)) := by
    have h1 : (ci nx).Perm (((k : Nat) : Int) :: ci (nx.erase k)) := hpk.map _
    exact (List.Perm.cons_inv (hall.symm.trans h1))
  refine ⟨k, nx.erase k, v', ys, rfl, hpk, ⟨hpl, hys, ?_, h.LN, ?_, h.baseN⟩, hmod, hob⟩
  · exact ownsRow_mod h.left hmod (fun b hb hs => by
      simp [Value.ownBlock] at hb
      subst hb
      rcases hs with hs | hs
      · exact h.LN hs
      · exact h.LH hs)
  · rw [hob]; exact h.LH

/-- Ahead of a round of the first loop. -/
def L1 (base Lb N n : Nat) (G : List (List Int)) (i : Nat) (w : World) : Prop :=
  ∃ vh xs lf nx, HL w base Lb N n vh xs lf nx ∧ lf.length = n ∧ (∀ j, j < i → lf.getD j 0 = ((G.getD j []).length : Int)) ∧ nx.Nodup ∧ ∀ j, j ∈ nx ↔ j < i ∧ G.getD j [] = []

/-- What the second loop may turn of what was there ahead of it. -/
def S0 (Lb N : Nat) (vh0 : Value) : Nat → Prop := fun b => b = Lb ∨ b = N ∨ vh0.ownBlock = some b

/-- How the heap's row and the order's lie. -/
structure Away (ws : World) (Lb : Nat) (vh0 vh vo : Value) : Prop where
  heap : vh.ownBlock = vh0.ownBlock ∨ ∃ g, vh.ownBlock = some g ∧ ws.heap.size ≤ g
  out : ∀ b, vo.ownBlock = some b → ws.heap.size ≤ b ∧ vh.ownBlock ≠ some b

/-- Ahead of a round of the second loop. -/
def L2 (base Lb N n : Nat) (G : List (List Nat)) (ws : World) (vh0 : Value) (vo : Value) (w : World) : Prop :=
  ∃ out vh xs lf nx, HL w base Lb N n vh xs lf nx ∧ KInv G out nx lf ∧ w.ownsRow ws.heap.size 3 1 vo out.length (iv (ci out)) ∧ Mod (S0 Lb N vh0) ws w ∧ Away ws Lb vh0 vh vo

/-- Ahead of a round of the third loop. -/
def L3 (base Lb N n : Nat) (G : List (List Nat)) (ws : World) (vh0 : Value) (vo : Value) (out : List Nat) (k : Nat) (told : List Nat) (w : World) : Prop :=
  ∃ vh xs lf nx, HL w base Lb N n vh xs lf nx ∧ KIn G out k told nx lf ∧ w.ownsRow ws.heap.size 3 1 vo (out ++ [k]).length (iv (ci (out ++ [k]))) ∧ Mod (S0 Lb N vh0) ws w ∧ Away ws Lb vh0 vh vo

def lenV : Value → Nat | .slice _ n _ => n | _ => 0

/-- What comes back: an order of what is sure to lead nowhere round. -/
def AllPost (w : World) (g : Gr) (e : Ending) (w' : World) : Prop :=
  ∃ v out, e = .returned v ∧ w'.ownsRow w.heap.size 3 1 v out.length (iv (ci out)) ∧ IsOrder (insN g) out ∧ Below w.heap.size w w'

end Go.Proofs.Ytfphlkoneocejaa
