/- Plain: what is sure to lead nowhere round is struck, pass by pass. -/
import Derived.Test.YtfphlkoneocejaaDoorRefG
namespace Go.Proofs.YtfphlkoneocejaaDoor
open Go.RowKit Go.Gou

def okx (n : Nat) (D : List Bool) (x : Int) : Bool := decide (x < 0) || (decide ((n : Int) ≤ x) || D.getD x.toNat false)
def okN (n : Nat) (D : List Bool) (ins : List Int) : Bool := ins.all (okx n D)

structure RI (g : Gr) (D : List Bool) : Prop where
  len : D.length = g.nodes.length
  sound : ∀ i, i < g.nodes.length → D.getD i false = true → Done (insN g) i

def ClosedD (g : Gr) (D : List Bool) : Prop := ∀ i, (h : i < g.nodes.length) → okN g.nodes.length D g.nodes[i].ins = true → D.getD i false = true

structure RP (g : Gr) (D0 : List Bool) (i : Nat) (D : List Bool) : Prop where
  base : RI g D
  more : ∀ j, D0.getD j false = true → D.getD j false = true
  got : ∀ j, (h : j < g.nodes.length) → j < i → okN g.nodes.length D0 g.nodes[j].ins = true → D.getD j false = true
  still : ClosedD g D0 → D = D0

def RQ (g : Gr) (t : Nat) (D : List Bool) : Prop := RI g D ∧ (ClosedD g D ∨ t ≤ D.countP id)

theorem getDB_set (l : List Bool) (u : Nat) (x : Bool) (hu : u < l.length) (i : Nat) : (l.set u x).getD i false = if i = u then x else l.getD i false := by
  by_cases h : i = u
  · subst h
    simp [List.getD, hu]
  · simp [List.getD, List.getElem?_set, h, show ¬ u = i from fun e => h e.symm]

theorem RI.start (g : Gr) : RI g (List.replicate g.nodes.length false) := by
  refine ⟨by simp, fun i hi h => ?_⟩
  simp [List.getD, hi] at h

theorem RQ.start (g : Gr) : RQ g 0 (List.replicate g.nodes.length false) := ⟨RI.start g, .inr (Nat.zero_le _)⟩

theorem RP.start {g : Gr} {D : List Bool} (h : RI g D) : RP g D 0 D := ⟨h, fun _ h => h, fun _ _ h => by omega, fun _ => rfl⟩

theorem okN_mono {n : Nat} {D D' : List Bool} {ins : List Int} (h : ∀ j, D.getD j false = true → D'.getD j false = true) (ho : okN n D ins = true) : okN n D' ins = true := by
  unfold okN at ho ⊢
  rw [List.all_eq_true] at ho ⊢
  intro x hx
  have := ho x hx
  simp only [okx, Bool.or_eq_true, decide_eq_true_eq] at this ⊢
  rcases this with h1 | h1 | h1
  · exact .inl h1
  · exact .inr (.inl h1)
  · exact .inr (.inr (h _ h1))

theorem RP.step {g : Gr} {D0 D : List Bool} {i : Nat} (h : RP g D0 i D) (hi : i < g.nodes.length) (b : Bool) (hb : b = (D.getD i false || okN g.nodes.length D g.nodes[i].ins)) : RP g D0 (i + 1) (D.set i b) := by
  have hlen := h.base.len
  have hset := getDB_set D i b (by omega)
  have hup : ∀ j, D.getD j false = true → (D.set i b).getD j false = true := by
    intro j hj
    rw [hset]
    split
    · rename_i e
      subst e
      rw [hb, hj]
      rfl
    · exact hj
  refine ⟨⟨by simpa using hlen, ?_⟩, fun j hj => hup j (h.more j hj), ?_, ?_⟩
  · intro k hk hkt
    rw [hset] at hkt
    split at hkt
    · rename_i e
      subst e
      rw [hb, Bool.or_eq_true] at hkt
      rcases hkt with hkt | hkt
      · exact h.base.sound k hk hkt
      · refine Done.mk k (by rw [insN_len]; exact hk) fun u hu => ?_
        have hu' : u ∈ (insN g).getD k [] := by simpa [List.getD, hk, insN_len] using hu
        rw [insN_mem g k hk, insG_get g k hk] at hu'
        obtain ⟨h1, h2, h3⟩ := ((insL_nodup _ _).2 _).1 hu'
        unfold okN at hkt
        rw [List.all_eq_true] at hkt
        have := hkt _ h1
        simp only [okx, Bool.or_eq_true, decide_eq_true_eq] at this
        refine h.base.sound u (by omega) ?_
        rcases this with h4 | h4 | h4
        · omega
        · omega
        · simpa using h4
    · exact h.base.sound k hk hkt
  · intro j hj hji ho
    by_cases e : j = i
    · subst e
      rw [hset, if_pos rfl, hb, okN_mono h.more ho, Bool.or_true]
    · exact hup j (h.got j hj (by omega) ho)
  · intro hc
    have e := h.still hc
    subst e
    have hbi : b = D.getD i false := by
      rw [hb]
      cases ho : okN g.nodes.length D g.nodes[i].ins with
      | false => simp
      | true => rw [hc i hi ho]; rfl
    rw [hbi]
    simp [List.getD, show i < D.length by omega]

theorem count_le : ∀ (a b : List Bool), a.length = b.length → (∀ j, a.getD j false = true → b.getD j false = true) → a.countP id ≤ b.countP id ∧ (a ≠ b → a.countP id < b.countP id)
  | [], [], _, _ => ⟨Nat.le_refl _, fun h => absurd rfl h⟩
  | [], _ :: _, h, _ => by simp at h
  | _ :: _, [], h, _ => by simp at h
  | x :: a, y :: b, hl, h => by
    have ih := count_le a b (by simpa using hl) (fun j hj => by simpa using h (j + 1) (by simpa using hj))
    have h0 : x = true → y = true := fun e => by simpa using h 0 (by simpa using e)
    cases x <;> cases y
    · simp only [List.countP_cons, id, Bool.false_eq_true, if_false, Nat.add_zero, ne_eq, List.cons.injEq, true_and]; exact ih
    · simp only [List.countP_cons, id, Bool.false_eq_true, if_false, if_true, Nat.add_zero]; omega
    · exact absurd (h0 rfl) (by simp)
    · simp only [List.countP_cons, id, if_true, ne_eq, List.cons.injEq, true_and]
      exact ⟨by omega, fun hn => by have := ih.2 hn; omega⟩

theorem RQ.pass {g : Gr} {D0 D : List Bool} {t : Nat} (h : RQ g t D0) (hp : RP g D0 g.nodes.length D) : RQ g (t + 1) D := by
  refine ⟨hp.base, ?_⟩
  rcases h.2 with hc | ht
  · rw [hp.still hc]; exact .inl hc
  · by_cases e : D = D0
    · left
      intro i hi ho
      exact hp.got i hi hi (by rw [← e]; exact ho)
    · right
      have := (count_le D0 D (by rw [h.1.len, hp.base.len]) hp.more).2 (fun e' => e e'.symm)
      omega

theorem RQ.full {g : Gr} {D : List Bool} (h : RQ g g.nodes.length D) (i : Nat) (hd : Done (insN g) i) : D.getD i false = true := by
  have hlen := h.1.len
  rcases h.2 with hc | ht
  · induction hd with
    | mk i hi hk ih =>
      have hi' : i < g.nodes.length := by rw [← insN_len]; exact hi
      refine hc i hi' ?_
      unfold okN
      rw [List.all_eq_true]
      intro x hx
      simp only [okx, Bool.or_eq_true, decide_eq_true_eq]
      by_cases h1 : x < 0
      · exact .inl h1
      · by_cases h2 : (g.nodes.length : Int) ≤ x
        · exact .inr (.inl h2)
        · refine .inr (.inr (ih x.toNat ?_))
          have : x.toNat ∈ (insN g).getD i [] := by
            rw [insN_mem g i hi', insG_get g i hi']
            exact ((insL_nodup _ _).2 _).2 ⟨by rw [Int.toNat_of_nonneg (by omega)]; exact hx, by omega, by omega⟩
          simpa [List.getD, hi] using this
  · have hle : D.countP id ≤ D.length := List.countP_le_length
    have hall := List.countP_eq_length.1 (show D.countP id = D.length by omega)
    have hi : i < D.length := by have := hd.lt; rw [insN_len] at this; omega
    have := hall D[i] (List.getElem_mem hi)
    simpa [List.getD, hi] using this

theorem RQ.no {g : Gr} {D : List Bool} (h : RQ g g.nodes.length D) (i : Nat) (hi : i < g.nodes.length) (hf : D.getD i false = false) : roundB g = true := by
  simp only [roundB, decide_eq_true_eq]
  exact ⟨i, hi, fun hd => by rw [h.full i hd] at hf; cases hf⟩

theorem RQ.yes {g : Gr} {D : List Bool} (h : RQ g g.nodes.length D) (hf : ∀ i, i < g.nodes.length → D.getD i false = true) : roundB g = false := by
  simp only [roundB, decide_eq_false_iff_not, not_exists, not_and, Classical.not_not]
  exact fun i hi => h.1.sound i hi (hf i hi)

end Go.Proofs.YtfphlkoneocejaaDoor
