/- Plain: nodes that wait for others, struck one by one. G: for each node those that it waits for, each once. Nothing of the program stands here. -/
namespace Go.Gou

/-- A node is sure to lead nowhere round. -/
inductive Done (G : List (List Nat)) : Nat → Prop
  | mk (i : Nat) (h : i < G.length) (hk : ∀ k, k ∈ G[i] → Done G k) : Done G i

theorem Done.lt {G : List (List Nat)} {i : Nat} (h : Done G i) : i < G.length := by cases h; assumption
theorem Done.ins {G : List (List Nat)} {i k : Nat} (h : Done G i) (hk : k ∈ G.getD i []) : Done G k := by
  cases h with
  | mk _ hl hall => exact hall k (by simpa [List.getD, hl] using hk)

/-- How many of a list are not in another one. -/
def rest (out l : List Nat) : Nat := l.countP (fun k => !decide (k ∈ out))

theorem rest_zero {out l : List Nat} : rest out l = 0 ↔ ∀ k ∈ l, k ∈ out := by
  simp [rest, List.countP_eq_zero]

theorem rest_nil (l : List Nat) : rest [] l = l.length := by
  simp [rest]

theorem rest_le (out l : List Nat) : rest out l ≤ l.length := List.countP_le_length

theorem rest_snoc_not {out l : List Nat} {k : Nat} (h : k ∉ l) : rest (out ++ [k]) l = rest out l := by
  unfold rest
  apply List.countP_congr
  intro x hx
  have : x ≠ k := fun e => h (e ▸ hx)
  simp [this]

theorem rest_snoc {out l : List Nat} {k : Nat} (hn : l.Nodup) (hk : k ∈ l) (ho : k ∉ out) : rest out l = rest (out ++ [k]) l + 1 := by
  induction l with
  | nil => simp at hk
  | cons a l ih =>
    rw [List.nodup_cons] at hn
    unfold rest
    rw [List.countP_cons, List.countP_cons]
    by_cases e : a = k
    · subst e
      have := rest_snoc_not (out := out) hn.1
      unfold rest at this
      rw [this]
      simp [ho]
    · have hkl : k ∈ l := by simpa [Ne.symm e] using hk
      have := ih hn.2 hkl
      unfold rest at this
      rw [this]
      simp [e]
      omega

/-- The state ahead of a round: out is struck, next waits to be struck, left counts. -/
structure KInv (G : List (List Nat)) (out next : List Nat) (left : List Int) : Prop where
  nodup : (out ++ next).Nodup
  len : left.length = G.length
  lt : ∀ i, i ∈ out ++ next → i < G.length
  count : ∀ i, i < G.length → left.getD i 0 = (rest out (G.getD i []) : Int)
  zero : ∀ i, i < G.length → (i ∈ out ++ next ↔ left.getD i 0 = 0)
  done : ∀ i, i ∈ out → Done G i
  topo : ∀ pre i post, out = pre ++ i :: post → ∀ k ∈ G.getD i [], k ∈ pre

/-- Within a round: k is being struck; of those that wait for it, the first ones are told. -/
structure KIn (G : List (List Nat)) (out : List Nat) (k : Nat) (told : List Nat) (next : List Nat) (left : List Int) : Prop where
  nodup : (out ++ [k] ++ next).Nodup
  len : left.length = G.length
  lt : ∀ i, i ∈ out ++ [k] ++ next → i < G.length
  count : ∀ i, i < G.length → left.getD i 0 = (rest out (G.getD i []) : Int) - (if i ∈ told then 1 else 0)
  zero : ∀ i, i < G.length → (i ∈ out ++ [k] ++ next ↔ left.getD i 0 = 0)
  done : ∀ i, i ∈ out ++ [k] → Done G i
  topo : ∀ pre i post, out ++ [k] = pre ++ i :: post → ∀ k ∈ G.getD i [], k ∈ pre

theorem split_snoc {out pre post : List Nat} {k i : Nat} (h : out ++ [k] = pre ++ i :: post) : (pre = out ∧ i = k ∧ post = []) ∨ ∃ post', out = pre ++ i :: post' := by
  rcases List.eq_nil_or_concat post with rfl | ⟨l, b, rfl⟩
  · left
    have := List.append_inj' h rfl
    simp at this
    exact ⟨this.1.symm, this.2.symm, rfl⟩
  · right
    rw [List.concat_eq_append, ← List.cons_append, ← List.append_assoc] at h
    have := List.append_inj' h rfl
    exact ⟨l, this.1⟩

theorem KInv.start {G : List (List Nat)} {next : List Nat} (hn : next.Nodup) (hm : ∀ i, i ∈ next ↔ i < G.length ∧ G.getD i [] = []) : KInv G [] next (G.map fun l => (l.length : Int)) where
  nodup := by simpa using hn
  len := by simp
  lt := fun i hi => ((hm i).1 (by simpa using hi)).1
  count := fun i hi => by simp [rest_nil, List.getD, hi]
  zero := fun i hi => by
    rw [List.nil_append, hm]
    simp [List.getD, hi]
  done := by simp
  topo := fun pre i post h => by simp at h

theorem KInv.pop {G : List (List Nat)} {out next next' : List Nat} {left : List Int} {k : Nat} (h : KInv G out next left) (hp : next.Perm (k :: next')) : KIn G out k [] next' left := by
  have hperm : (out ++ [k] ++ next').Perm (out ++ next) := by
    rw [List.append_assoc]
    exact List.Perm.append_left out hp.symm
  have hin : ∀ i, i ∈ out ++ [k] ++ next' ↔ i ∈ out ++ next := fun i => hperm.mem_iff
  have hk : k < G.length := h.lt k ((hin k).1 (by simp))
  have hall : ∀ j ∈ G.getD k [], j ∈ out := by
    have h0 := (h.zero k hk).1 ((hin k).1 (by simp))
    rw [h.count k hk] at h0
    exact rest_zero.1 (by omega)
  refine ⟨hperm.nodup_iff.2 h.nodup, h.len, fun i hi => h.lt i ((hin i).1 hi), fun i hi => by simpa using h.count i hi, fun i hi => by rw [hin]; exact h.zero i hi, ?_, ?_⟩
  · intro i hi
    rw [List.mem_append] at hi
    rcases hi with hi | hi
    · exact h.done i hi
    · obtain rfl : i = k := by simpa using hi
      refine Done.mk i hk fun j hj => h.done j (hall j ?_)
      simpa [List.getD, hk] using hj
  · intro pre i post he
    rcases split_snoc he with ⟨rfl, rfl, rfl⟩ | ⟨post', rfl⟩
    · exact hall
    · exact h.topo pre i post' rfl

theorem getD_set (l : List Int) (u : Nat) (x : Int) (hu : u < l.length) (i : Nat) : (l.set u x).getD i 0 = if i = u then x else l.getD i 0 := by
  simp only [List.getD, List.getElem?_set]
  by_cases e : i = u
  · subst e; simp [hu]
  · simp [e, Ne.symm e]

theorem KIn.tell {G : List (List Nat)} {out told next : List Nat} {left : List Int} {k u : Nat} (h : KIn G out k told next left) (hu : u < G.length) (hku : k ∈ G.getD u []) (ht : u ∉ told) :
    (left.getD u 0 - 1 ≠ 0 → KIn G out k (told ++ [u]) next (left.set u (left.getD u 0 - 1))) ∧
    (left.getD u 0 - 1 = 0 → ∀ next', next'.Perm (u :: next) → KIn G out k (told ++ [u]) next' (left.set u (left.getD u 0 - 1))) := by
  have hc := h.count u hu
  simp only [ht, if_false] at hc
  have hko : k ∉ out := by
    have := h.nodup
    simp only [List.nodup_append] at this
    intro hk
    exact this.1.2.2 k hk k (by simp) rfl
  have hpos : 0 < rest out (G.getD u []) := Nat.pos_of_ne_zero fun h0 => hko (rest_zero.1 h0 k hku)
  have hnot : u ∉ out ++ [k] ++ next := fun hm => by
    have := (h.zero u hu).1 hm
    omega
  have hul : u < left.length := by rw [h.len]; exact hu
  have hcount : ∀ i, i < G.length → (left.set u (left.getD u 0 - 1)).getD i 0 = (rest out (G.getD i []) : Int) - (if i ∈ told ++ [u] then 1 else 0) := by
    intro i hi
    rw [getD_set _ _ _ hul]
    by_cases e : i = u
    · subst e
      rw [if_pos rfl, if_pos (by simp)]
      omega
    · rw [if_neg e, h.count i hi]
      simp [e]
  constructor
  · intro hne
    refine ⟨h.nodup, by simpa using h.len, h.lt, hcount, fun i hi => ?_, h.done, h.topo⟩
    rw [getD_set _ _ _ hul]
    by_cases e : i = u
    · subst e
      simp only [if_true]
      exact ⟨fun hm => absurd hm hnot, fun h0 => absurd h0 hne⟩
    · rw [if_neg e]
      exact h.zero i hi
  · intro h0 next' hp
    have hperm : (out ++ [k] ++ next').Perm (u :: (out ++ [k] ++ next)) := (List.Perm.append_left _ hp).trans List.perm_middle
    have hin : ∀ i, i ∈ out ++ [k] ++ next' ↔ i = u ∨ i ∈ out ++ [k] ++ next := fun i => by rw [hperm.mem_iff, List.mem_cons]
    refine ⟨hperm.nodup_iff.2 (List.nodup_cons.2 ⟨hnot, h.nodup⟩), by simpa using h.len, fun i hi => ?_, hcount, fun i hi => ?_, h.done, h.topo⟩
    · rcases (hin i).1 hi with rfl | hi
      · exact hu
      · exact h.lt i hi
    · rw [getD_set _ _ _ hul, hin]
      by_cases e : i = u
      · subst e
        rw [if_pos rfl]
        exact ⟨fun _ => h0, fun _ => .inl rfl⟩
      · rw [if_neg e, ← h.zero i hi]
        simp [e]

theorem KIn.finish {G : List (List Nat)} {out told next : List Nat} {left : List Int} {k : Nat} (hG : ∀ i, i < G.length → (G.getD i []).Nodup) (h : KIn G out k told next left)
    (ht : ∀ i, i < G.length → (i ∈ told ↔ k ∈ G.getD i [])) : KInv G (out ++ [k]) next left where
  nodup := h.nodup
  len := h.len
  lt := h.lt
  count := fun i hi => by
    have hko : k ∉ out := by
      have := h.nodup
      simp only [List.nodup_append] at this
      intro hk
      exact this.1.2.2 k hk k (by simp) rfl
    rw [h.count i hi]
    by_cases e : k ∈ G.getD i []
    · rw [if_pos ((ht i hi).2 e), rest_snoc (hG i hi) e hko]
      omega
    · rw [if_neg (fun hm => e ((ht i hi).1 hm)), rest_snoc_not e]
      omega
  zero := h.zero
  done := h.done
  topo := h.topo

/-- Nothing waits any more: what is struck is all that is sure to lead nowhere. -/
theorem KInv.all {G : List (List Nat)} {out : List Nat} {left : List Int} (h : KInv G out [] left) (i : Nat) : i ∈ out ↔ Done G i := by
  refine ⟨h.done i, fun hd => ?_⟩
  induction hd with
  | mk i hi hk ih =>
    have hz : left.getD i 0 = 0 := by
      rw [h.count i hi]
      have : rest out (G.getD i []) = 0 := rest_zero.2 fun k hkm => ih k (by simpa [List.getD, hi] using hkm)
      omega
    have := (h.zero i hi).2 hz
    simpa using this

/-- The order of a filter: what is struck, each once, each behind those that it waits for. -/
structure IsOrder (G : List (List Nat)) (out : List Nat) : Prop where
  nodup : out.Nodup
  mem : ∀ i, i ∈ out ↔ Done G i
  topo : ∀ pre i post, out = pre ++ i :: post → ∀ k ∈ G.getD i [], k ∈ pre

theorem KInv.order {G : List (List Nat)} {out : List Nat} {left : List Int} (h : KInv G out [] left) : IsOrder G out := ⟨by simpa using h.nodup, h.all, h.topo⟩

theorem nodup_length_le {l m : List Nat} (hl : l.Nodup) (h : ∀ i ∈ l, i ∈ m) : l.length ≤ m.length := by
  induction l generalizing m with
  | nil => simp
  | cons a l ih =>
    rw [List.nodup_cons] at hl
    have ha : a ∈ m := h a (by simp)
    have : l.length ≤ (m.erase a).length := ih hl.2 fun i hi => by
      have hne : i ≠ a := fun e => hl.1 (e ▸ hi)
      exact (List.mem_erase_of_ne hne).2 (h i (by simp [hi]))
    rw [List.length_erase_of_mem ha] at this
    have hp : 0 < m.length := List.length_pos_of_mem ha
    simp only [List.length_cons]
    omega

theorem IsOrder.le {G : List (List Nat)} {out : List Nat} (h : IsOrder G out) : out.length ≤ G.length := by
  have := nodup_length_le (m := List.range G.length) h.nodup fun i hi => List.mem_range.2 ((h.mem i).1 hi).lt
  simpa using this

/-- Fewer are struck than there are: some node leads round. -/
theorem IsOrder.round {G : List (List Nat)} {out : List Nat} (h : IsOrder G out) : out.length < G.length ↔ ∃ i, i < G.length ∧ ¬ Done G i := by
  constructor
  · intro hlt
    apply Classical.byContradiction
    intro hn
    have hall : ∀ i, i < G.length → Done G i := fun i hi => Classical.byContradiction fun hd => hn ⟨i, hi, hd⟩
    have := nodup_length_le (l := List.range G.length) (m := out) List.nodup_range fun i hi => (h.mem i).2 (hall i (List.mem_range.1 hi))
    rw [List.length_range] at this
    omega
  · rintro ⟨i, hi, hd⟩
    have hni : i ∉ out := fun hm => hd ((h.mem i).1 hm)
    have := nodup_length_le (l := i :: out) (m := List.range G.length) (List.nodup_cons.2 ⟨hni, h.nodup⟩) fun j hj => by
      rcases List.mem_cons.1 hj with rfl | hj
      · exact List.mem_range.2 hi
      · exact List.mem_range.2 ((h.mem j).1 hj).lt
    rw [List.length_range, List.length_cons] at this
    omega

end Go.Gou
