/- Plain: a filter that is taken, with one node more behind. -/
import Derived.Test.YtfphlkoneocejaaBounds12
namespace Go.Proofs.Ytfphlkoneocejaa
open Go.RowKit Go.Gou

def grMore (g : Gr) (n : GNode) : Gr := ⟨g.nodes ++ [n], g.out⟩

theorem grMore_len (g : Gr) (n : GNode) : (grMore g n).nodes.length = g.nodes.length + 1 := by simp [grMore]

theorem oneS_more {m : GNode} {c : Int} (h : oneS m c = 0) : oneS m (c + 1) = 0 := by
  obtain ⟨h1, h2, h3, h4⟩ := oneS_zero h
  have h5 : m.ins.all (withinB (-1) (c + 1 - 1)) = true := by
    rw [List.all_eq_true] at h3 ⊢
    intro x hx
    have := h3 x hx
    simp only [withinB, Bool.and_eq_true, decide_eq_true_eq] at this ⊢
    omega
  unfold oneS
  rw [h1, h2, h4, h5]
  rfl

theorem firstBad_more (c : Int) (l : List GNode) (n : GNode) (h : ∀ m ∈ l, oneS m c = 0) : firstBad c (l ++ [n]) = oneS n c := by
  induction l with
  | nil =>
    simp only [List.nil_append, firstBad]
    split
    · rename_i h0; exact h0.symm
    · rfl
  | cons a l ih =>
    simp only [List.cons_append, firstBad]
    rw [if_pos (h a (by simp))]
    exact ih fun m hm => h m (by simp [hm])

theorem more_ins (g : Gr) (n : GNode) (i : Nat) (hi : i < g.nodes.length) (k : Nat) (ht : Taken g) : k ∈ (insN (grMore g n)).getD i [] → k ∈ (insN g).getD i [] := by
  have hi' : i < (grMore g n).nodes.length := by rw [grMore_len]; omega
  rw [insN_mem _ i hi', insG_get _ i hi', insN_mem _ i hi, insG_get _ i hi]
  have hn : (grMore g n).nodes[i] = g.nodes[i] := by simp [grMore, hi]
  rw [hn]
  intro h
  obtain ⟨h1, h2, h3⟩ := ((insL_nodup _ _).2 _).1 h
  exact ((insL_nodup _ _).2 _).2 ⟨h1, h2, (ht.input i hi _ h1).2.1⟩

theorem more_done (g : Gr) (n : GNode) (ht : Taken g) (i : Nat) (h : Done (insN g) i) : Done (insN (grMore g n)) i := by
  induction h with
  | mk i hi hk ih =>
    have hi' : i < g.nodes.length := by rw [← insN_len]; exact hi
    have hi2 : i < (insN (grMore g n)).length := by rw [insN_len, grMore_len]; omega
    refine Done.mk i hi2 fun k hkm => ?_
    have h1 : k ∈ (insN (grMore g n)).getD i [] := by simpa [List.getD, hi2] using hkm
    have h2 := more_ins g n i hi' k ht h1
    exact ih k (by simpa [List.getD, hi] using h2)

theorem more_round (g : Gr) (n : GNode) (ht : Taken g) (hno : (g.nodes.length : Int) ∉ n.ins) : roundB (grMore g n) = false := by
  simp only [roundB, decide_eq_false_iff_not, not_exists, not_and, Classical.not_not]
  intro i hi
  by_cases h : i < g.nodes.length
  · exact more_done g n ht i (ht.done i h)
  · rw [grMore_len] at hi
    obtain rfl : i = g.nodes.length := by omega
    have hl : g.nodes.length < (grMore g n).nodes.length := by rw [grMore_len]; omega
    have hl2 : g.nodes.length < (insN (grMore g n)).length := by rw [insN_len]; exact hl
    refine Done.mk _ hl2 fun k hkm => ?_
    have h1 : k ∈ (insN (grMore g n)).getD g.nodes.length [] := by simpa [List.getD, hl2] using hkm
    rw [insN_mem _ _ hl, insG_get _ _ hl] at h1
    obtain ⟨h2, h3, h4⟩ := ((insL_nodup _ _).2 _).1 h1
    have hn : (grMore g n).nodes[g.nodes.length] = n := by simp [grMore]
    rw [hn] at h2
    rw [grMore_len] at h4
    have hne : k ≠ g.nodes.length := fun e => hno (by rw [← e]; exact h2)
    exact more_done g n ht k (ht.done k (by omega))

theorem checkS_more (g : Gr) (n : GNode) (ht : Taken g) (hl : g.nodes.length ≤ 255) (hno : (g.nodes.length : Int) ∉ n.ins) : checkS (grMore g n) = oneS n (g.nodes.length + 1 : Nat) := by
  have h0 := ht.out0
  have h1 := ht.out1
  have hfb : firstBad ((grMore g n).nodes.length : Int) (grMore g n).nodes = oneS n (g.nodes.length + 1 : Nat) := by
    rw [grMore_len]
    exact firstBad_more _ _ _ fun m hm => by
      have := oneS_more (ht.one m hm)
      simpa using this
  have ho : (grMore g n).out = g.out := rfl
  unfold checkS
  rw [if_neg (by rw [grMore_len]; omega), hfb]
  by_cases hz : oneS n (g.nodes.length + 1 : Nat) = 0
  · rw [if_neg (by rw [hz]; simp), if_neg (by rw [grMore_len, ho]; omega), if_neg (by rw [more_round g n ht hno]; simp), hz]
  · rw [if_pos hz]

end Go.Proofs.Ytfphlkoneocejaa
