/- What comes in, opened: rows of bytes, acts and rows of acts. -/
import Derived.Test.YtnamnmipgpcjjaaOpen
import Derived.Test.YtnamnmipgpcjjaaLawC
namespace Go.Gou
open Go.RowKit Go.ChangeShapes Go.WideShapes Go.Deep Go.Joins

section
variable {H : Type} {enc : TypeId × Value → H} {P : Program} {w : World} {base : Nat} {spare : Nat → Bool} {held : Bool}

/-- A row of bytes. -/
theorem open_bytes_at {t e : TypeId} {fuel : Nat} {v : Value} {x : DataW H × List MemPlace} (ht : P.underlying t = some (.slice e)) (he : P.underlying e = some (.int .u8)) (hc : P.cellsOf e = 1)
    (h : DataW.trod enc P w base spare held fuel t [v] = some x) : ∃ bs, BytesAt (fun _ => True) w v bs ∧ (∀ y ∈ bs, y < 256) ∧ bs.length ≤ maxLen := by
  rcases open_slice1 ht hc h with ⟨hcs, _⟩ | ⟨a, len, cap, m, n, V, D, Pl, hcs, _, hl, hm, hmm, _, hi⟩
  · obtain rfl : v = .slice none 0 0 := by simpa using hcs
    exact ⟨[], ⟨none, 0, rfl, Nat.le_refl _, .inl rfl⟩, by simp, by simp⟩
  · obtain rfl : v = .slice (some a) len cap := by simpa using hcs
    have hlm : len ≤ m := by rw [hmm]; split <;> omega
    have hint : ∀ i, i < len → ∃ q : Nat, V i = .int .u8 (q : Int) ∧ q < 256 := by
      intro i hil
      obtain ⟨_, ht'⟩ := hi i (by omega)
      obtain ⟨q, hq, _, hw⟩ := DataW.trod_int he ht'
      simp at hq
      simp only [Lit.wf, Bool.and_eq_true, decide_eq_true_eq] at hw
      have h1 : (0 : Int) ≤ q := hw.1
      have h2 : q ≤ 255 := hw.2
      exact ⟨q.toNat, by rw [hq]; congr 1; omega, by omega⟩
    obtain ⟨f, hf⟩ := choose_lt (p := fun i (q : Nat) => V i = .int .u8 (q : Int) ∧ q < 256) hint
    refine ⟨(List.range len).map f, ?_, ?_, by simp; omega⟩
    · by_cases h0 : len = 0
      · subst h0
        exact ⟨some a, cap, rfl, by simp, .inl rfl⟩
      · obtain ⟨b, o, sp⟩ := a
        have hsp : sp = none := by
          have := World.cell?_spot (hi 0 (by omega)).1
          simpa [Addr.add] using this
        subst hsp
        refine ⟨_, cap, by simp, by simpa using hl, .inr ⟨b, o, rfl, ?_, trivial, ?_⟩⟩
        · have := World.block_lt_of_cell? w _ (hi 0 (by omega)).1
          simpa [Addr.add] using this
        · intro i hil
          have hil' : i < len := by simpa using hil
          have h1 := (hi i (by omega)).1
          rw [add_plain] at h1
          rw [h1, (hf i hil').1]
          simp
    · intro y hy
      simp at hy
      obtain ⟨i, hil, rfl⟩ := hy
      exact (hf i hil).2

/-- A struct's cells, field by field. -/
def Parts (enc : TypeId × Value → H) (P : Program) (w : World) (base : Nat) (spare : Nat → Bool) (held : Bool) (n : Nat) : List Field → List Value → Prop
  | [], cs => cs = []
  | f :: r, cs => ∃ c1 c2 y, cs = c1 ++ c2 ∧ DataW.trod enc P w base spare held n f.type c1 = some y ∧ Parts enc P w base spare held n r c2

def contig (P : Program) : List Field → Nat → Option Nat
  | [], o => some o
  | f :: r, o => if f.offset = o then contig P r (o + P.cellsOf f.type) else none

theorem parts_of {n : Nat} {cs : List Value} : ∀ (fs : List Field) (o : Nat), contig P fs o = some cs.length → (∀ f ∈ fs, ∃ y, DataW.trod enc P w base spare held n f.type ((cs.drop f.offset).take (P.cellsOf f.type)) = some y) → Parts enc P w base spare held n fs (cs.drop o)
  | [], o, h, _ => by
    simp only [contig, Option.some.injEq] at h
    subst h
    show cs.drop cs.length = []
    simp
  | f :: r, o, h, hf => by
    rw [contig] at h
    split at h
    · rename_i ho
      obtain ⟨y, hy⟩ := hf f (List.mem_cons_self ..)
      rw [ho] at hy
      have := parts_of r _ h (fun g hg => hf g (List.mem_cons_of_mem _ hg))
      exact ⟨_, cs.drop (o + P.cellsOf f.type), y, by rw [← List.drop_drop]; exact (List.take_append_drop _ _).symm, hy, this⟩
    · cases h

theorem trod_parts {t : TypeId} {fs : Array Field} {fuel : Nat} {cs : List Value} {x : DataW H × List MemPlace} (ht : P.underlying t = some (.struct fs)) (hc : contig P fs.toList 0 = some (P.cellsOf t)) (h : DataW.trod enc P w base spare held fuel t cs = some x) :
    ∃ n, Parts enc P w base spare held n fs.toList cs := by
  obtain ⟨xs, n, _, _, hl, hxl, hf⟩ := DataW.trod_struct ht h
  refine ⟨n, ?_⟩
  have := parts_of (enc := enc) (P := P) (w := w) (base := base) (spare := spare) (held := held) (n := n) (cs := cs) fs.toList 0 (by rw [hc, hl]) (fun f hf' => by
    obtain ⟨i, hi⟩ := List.getElem?_of_mem hf'
    have hi' : fs[i]? = some f := by rw [← hi]; simp
    have h1 := hf i f hi'
    have : i < xs.length := by rw [hxl]; exact (Array.getElem?_eq_some_iff.1 hi').1
    exact ⟨xs[i], h1.trans (List.getElem?_eq_getElem this)⟩)
  simpa using this

theorem trod_slice_one {t e : TypeId} {fuel : Nat} {cs : List Value} {x : DataW H × List MemPlace} (ht : P.underlying t = some (.slice e)) (h : DataW.trod enc P w base spare held fuel t cs = some x) : ∃ v, cs = [v] := by
  rcases open_slice ht h with ⟨hcs, _⟩ | ⟨a, len, cap, m, n, D, Pl, hcs, _⟩
  · exact ⟨_, hcs⟩
  · exact ⟨_, hcs⟩

theorem IntsR.of_at {v : Value} {xs : List Int} (h : IntsAt w.heap.size w v xs) : IntsR (fun _ => True) w v xs := by
  obtain ⟨p, cap, rfl, hcap, h⟩ := h
  refine ⟨by simp, p, cap, rfl, hcap, ?_⟩
  rcases h with rfl | ⟨b, o, rfl, hb, hc⟩
  · exact .inl rfl
  · refine .inr ⟨b, o, rfl, hb, trivial, fun j u hu => ?_⟩
    simp only [ivs, List.getElem?_map, Option.map_eq_some_iff] at hu
    obtain ⟨y, hy, rfl⟩ := hu
    obtain ⟨hj, rfl⟩ := List.getElem?_eq_some_iff.1 hy
    exact hc j hj

theorem NodesR.of_at {v : Value} {ns : List GNode} (h : NodesAt w.heap.size w v ns) : NodesR (fun _ => True) w v ns := by
  obtain ⟨p, cap, rfl, hcap, h⟩ := h
  rcases h with rfl | ⟨b, o, rfl, hb, hc⟩
  · exact ⟨[], ⟨rfl, p, cap, rfl, hcap, .inl rfl⟩, NodeC.nil _ _⟩
  · have hcells : ∀ i, (h : i < ns.length) → ∃ q : Value × Value, w.cell? ⟨b, o + i * 3, none⟩ = some (.int .i64 ns[i].op) ∧ w.cell? ⟨b, o + i * 3 + 1, none⟩ = some q.1 ∧ w.cell? ⟨b, o + i * 3 + 2, none⟩ = some q.2 ∧ IntsAt w.heap.size w q.1 ns[i].ins ∧ IntsAt w.heap.size w q.2 ns[i].ps := fun i hi => by
      obtain ⟨vi, vp, h1⟩ := hc i hi
      exact ⟨(vi, vp), h1⟩
    obtain ⟨f, hf⟩ := choose_lt (p := fun i (q : Value × Value) => ∃ h : i < ns.length, w.cell? ⟨b, o + i * 3, none⟩ = some (.int .i64 ns[i].op) ∧ w.cell? ⟨b, o + i * 3 + 1, none⟩ = some q.1 ∧ w.cell? ⟨b, o + i * 3 + 2, none⟩ = some q.2 ∧ IntsAt w.heap.size w q.1 ns[i].ins ∧ IntsAt w.heap.size w q.2 ns[i].ps) (n := ns.length) (fun i hi => by
      obtain ⟨q, hq⟩ := hcells i hi
      exact ⟨q, hi, hq⟩)
    have hlen : ∀ l : List Nat, (l.flatMap fun i => [Value.int .i64 ns[i]!.op, (f i).1, (f i).2]).length = l.length * 3 := by
      intro l
      induction l with
      | nil => rfl
      | cons a r ih => rw [List.flatMap_cons, List.length_append, ih]; simp; omega
    have hget : ∀ (n : Nat) (j : Nat), j < n * 3 → ((List.range n).flatMap fun i => [Value.int .i64 ns[i]!.op, (f i).1, (f i).2])[j]? = [Value.int .i64 ns[j / 3]!.op, (f (j / 3)).1, (f (j / 3)).2][j % 3]? := by
      intro n
      induction n with
      | zero => intro j hj; omega
      | succ n ih =>
        intro j hj
        rw [List.range_succ, List.flatMap_append]
        by_cases hjn : j < n * 3
        · rw [List.getElem?_append_left (by rw [hlen]; simpa using hjn), ih j hjn]
        · rw [List.getElem?_append_right (by rw [hlen]; simp; omega), hlen]
          have e1 : j / 3 = n := by omega
          have e2 : j - (List.range n).length * 3 = j % 3 := by simp; omega
          rw [e1, e2]
          simp
    refine ⟨(List.range ns.length).flatMap fun i => [Value.int .i64 ns[i]!.op, (f i).1, (f i).2], ⟨by rw [hlen]; simp, some ⟨b, o, none⟩, cap, rfl, hcap, .inr ⟨b, o, rfl, hb, trivial, fun j u hu => ?_⟩⟩, ⟨by rw [hlen]; simp, fun i hi => ?_⟩⟩
    · have hj : j < ns.length * 3 := by
        have := (List.getElem?_eq_some_iff.1 hu).1
        rw [hlen] at this
        simpa using this
      rw [hget _ j hj] at hu
      obtain ⟨hi, h0, h1, h2, _⟩ := hf (j / 3) (by omega)
      have hbang : ns[j / 3]! = ns[j / 3] := getElem!_pos ns (j / 3) hi
      rw [hbang] at hu
      have hm : j % 3 = 0 ∨ j % 3 = 1 ∨ j % 3 = 2 := by omega
      rcases hm with hm | hm | hm
      · rw [hm] at hu; simp at hu; subst hu
        have : o + j = o + j / 3 * 3 := by omega
        rw [this]; exact h0
      · rw [hm] at hu; simp at hu; subst hu
        have : o + j = o + j / 3 * 3 + 1 := by omega
        rw [this]; exact h1
      · rw [hm] at hu; simp at hu; subst hu
        have : o + j = o + j / 3 * 3 + 2 := by omega
        rw [this]; exact h2
    · obtain ⟨hi', h0, h1, h2, h3, h4⟩ := hf i hi
      have hbang : ns[i]! = ns[i] := getElem!_pos ns i hi
      refine ⟨(f i).1, (f i).2, ?_, ?_, ?_, IntsR.of_at h3, IntsR.of_at h4⟩
      · rw [hget _ _ (by omega)]
        have e1 : i * 3 / 3 = i := by omega
        have e2 : i * 3 % 3 = 0 := by omega
        rw [e1, e2, hbang]; rfl
      · rw [hget _ _ (by omega)]
        have e1 : (i * 3 + 1) / 3 = i := by omega
        have e2 : (i * 3 + 1) % 3 = 1 := by omega
        rw [e1, e2]; rfl
      · rw [hget _ _ (by omega)]
        have e1 : (i * 3 + 2) / 3 = i := by omega
        have e2 : (i * 3 + 2) % 3 = 2 := by omega
        rw [e1, e2]; rfl

/-- Four bytes. -/
theorem open_px {t e : TypeId} {fuel : Nat} {cs : List Value} {x : DataW H × List MemPlace} (ht : P.underlying t = some (.array 4 e)) (he : P.underlying e = some (.int .u8)) (hc : P.cellsOf e = 1) (hct : P.cellsOf t = 4)
    (h : DataW.trod enc P w base spare held fuel t cs = some x) : ∃ p : Pxl, cs = p.cells ∧ p.Small := by
  obtain ⟨xs, m, _, _, hl, hxl, hi⟩ := DataW.trod_array ht h
  rw [hct] at hl
  have one : ∀ i, i < 4 → ∃ q : Nat, cs[i]? = some (.int .u8 (q : Int)) ∧ q < 256 := by
    intro i hi4
    have h1 := hi i hi4
    rw [hc, Nat.mul_one] at h1
    have hx : xs[i]? = some (xs[i]'(by omega)) := List.getElem?_eq_getElem (by omega)
    rw [hx] at h1
    obtain ⟨q, hq, _, hw⟩ := DataW.trod_int he h1
    simp only [Lit.wf, Bool.and_eq_true, decide_eq_true_eq] at hw
    have h2 : (0 : Int) ≤ q := hw.1
    have h3 : q ≤ 255 := hw.2
    refine ⟨q.toNat, ?_, by omega⟩
    have h4 := congrArg (fun l => l[0]?) hq
    simp only [List.getElem?_take, List.getElem?_drop, Nat.zero_lt_one, if_true, Nat.add_zero, List.getElem?_cons_zero] at h4
    rw [h4]
    congr 2
    omega
  obtain ⟨q0, h0, s0⟩ := one 0 (by omega)
  obtain ⟨q1, h1, s1⟩ := one 1 (by omega)
  obtain ⟨q2, h2, s2⟩ := one 2 (by omega)
  obtain ⟨q3, h3, s3⟩ := one 3 (by omega)
  obtain ⟨a, b, c, d, rfl⟩ : ∃ a b c d, cs = [a, b, c, d] := by
    match cs, hl with
    | [a, b, c, d], _ => exact ⟨a, b, c, d, rfl⟩
  simp at h0 h1 h2 h3
  subst h0 h1 h2 h3
  exact ⟨⟨q0, q1, q2, q3⟩, rfl, s0, s1, s2, s3⟩

instance : Inhabited Pxl := ⟨Pxl.zero⟩

/-- A row of pixels. -/
theorem open_pixels {t e u : TypeId} {fuel : Nat} {v : Value} {x : DataW H × List MemPlace} (ht : P.underlying t = some (.slice e)) (he : P.underlying e = some (.array 4 u)) (hu : P.underlying u = some (.int .u8)) (hc : P.cellsOf u = 1) (hct : P.cellsOf e = 4)
    (h : DataW.trod enc P w base spare held fuel t [v] = some x) : ∃ ps, PixR (fun _ => True) w v ps ∧ (∀ p ∈ ps, Pxl.Small p) ∧ ps.length ≤ maxLen := by
  rcases open_slice ht h with ⟨hcs, _⟩ | ⟨a, len, cap, m, n, D, Pl, hcs, _, hl, hm, hmm, _, hi⟩
  · obtain rfl : v = .slice none 0 0 := by simpa using hcs
    exact ⟨[], PixR.nil _ _, by simp, by simp⟩
  · obtain rfl : v = .slice (some a) len cap := by simpa using hcs
    have hlm : len ≤ m := by rw [hmm]; split <;> omega
    have hone : ∀ i, i < len → ∃ p : Pxl, p.Small ∧ ∀ j u, p.cells[j]? = some u → w.cell? (a.add (i * 4 + j)) = some u := by
      intro i hil
      obtain ⟨cs', h1, h2⟩ := hi i (by omega)
      obtain ⟨p, rfl, hs⟩ := open_px he hu hc hct h2
      rw [hct] at h1
      obtain ⟨_, _, hat⟩ := World.cells?_some h1
      refine ⟨p, hs, fun j u hj => ?_⟩
      have hj4 : j < 4 := by
        have := (List.getElem?_eq_some_iff.1 hj).1
        simpa [Pxl.cells] using this
      rw [← Go.Deep.add_add, hat j hj4]
      exact hj
    obtain ⟨f, hf⟩ := choose_lt (p := fun i (p : Pxl) => p.Small ∧ ∀ j u, p.cells[j]? = some u → w.cell? (a.add (i * 4 + j)) = some u) hone
    refine ⟨(List.range len).map f, ⟨by rw [pxs_len]; omega, some a, cap, by simp, by simpa using hl, ?_⟩, ?_, by simp; omega⟩
    · by_cases h0 : len = 0
      · subst h0; exact .inl (by simp)
      · obtain ⟨b, o, sp⟩ := a
        obtain ⟨_, h1⟩ := hf 0 (by omega)
        have hc0 := h1 0 _ rfl
        have hsp : sp = none := by
          have := World.cell?_spot hc0
          simpa [Addr.add] using this
        subst hsp
        refine .inr ⟨b, o, rfl, ?_, trivial, ?_⟩
        · have := World.block_lt_of_cell? w _ hc0
          simpa [Addr.add] using this
        · have key : ∀ (n : Nat) (j : Nat) (u : Value), n ≤ len → (pxs ((List.range n).map f))[j]? = some u → w.cell? ⟨b, o + j, none⟩ = some u := by
            intro n
            induction n with
            | zero => intro j u _ hu; simp at hu
            | succ n ih =>
              intro j u hn hu
              rw [List.range_succ, List.map_append, pxs, List.flatMap_append] at hu
              by_cases hj : j < (pxs ((List.range n).map f)).length
              · rw [List.getElem?_append_left hj] at hu
                exact ih j u (by omega) hu
              · rw [List.getElem?_append_right (by simp only [pxs] at hj; omega)] at hu
                rw [pxs_len] at hj
                simp at hj
                have hl2 : (((List.range n).map f).flatMap Pxl.cells).length = 4 * n := by
                  have := pxs_len ((List.range n).map f)
                  simpa [pxs] using this
                rw [hl2] at hu
                have := (hf n (by omega)).2 (j - 4 * n) u (by simpa using hu)
                rw [add_plain] at this
                have e : o + (n * 4 + (j - 4 * n)) = o + j := by omega
                rw [e] at this
                exact this
          intro j u hu
          exact key len j u (Nat.le_refl _) hu
    · intro p hp
      simp at hp
      obtain ⟨i, hil, rfl⟩ := hp
      exact (hf i hil).1
end

end Go.Gou
