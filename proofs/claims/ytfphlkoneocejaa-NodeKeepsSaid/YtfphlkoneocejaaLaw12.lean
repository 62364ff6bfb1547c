/- The laws of layer 12 that speak of the program alone: what each answers. -/
import Derived.Test.YtfphlkoneocejaaAwake
namespace Go.Proofs.Ytfphlkoneocejaa
open Go.RowKit Go.Gou

def fewN (n : GNode) : Bool := decide (n.ins.length ≤ 20) && decide (n.ps.length ≤ 40)
def fewB (g : Gr) (most : Int) : Bool := decide ((g.nodes.length : Int) ≤ most) && g.nodes.all fewN

set_option maxHeartbeats 1000000 in
theorem few_any (w : World) (v : Value) (g : Gr) (most : Int) (hg : GrV w v g) (hwf : GrWf g) :
    Calls Try.prog 7 #[v, .int .i64 most] w fun e w' => e = .returned (.bool (fewB g most)) ∧ Below w.heap.size w w' := by
  obtain ⟨vn, rfl, p, cap, rfl, _, hp⟩ := hg
  have hl := hwf.len
  have Hwf := Lib.hid hwf
  clear hwf
  unfold maxLen at hl
  by_cases hm : most < g.nodes.length
  · have hs : fewB g most = false := by simp [fewB]; omega
    have Hs := Lib.hid hs
    clear hs
    go_enter Try.func7, Try.ntmps7
    go_wp2
    go_ret
    exact ⟨ret_bool Hs.out.symm, (Below.refl _ _).alloc (Nat.le_refl _) _⟩
  · have hs : fewB g most = g.nodes.all fewN := by simp [fewB]; omega
    have Hs := Lib.hid hs
    clear hs
    go_enter Try.func7, Try.ntmps7
    go_wp2
    go_loop [5] (fun i => ∃ k : Nat, k ≤ g.nodes.length ∧ i = .int .i64 k ∧ (g.nodes.take k).all fewN = true) (fun i => g.nodes.length - (intOf i).toNat)
    case atStart => exact ⟨0, Nat.zero_le _, rfl, rfl⟩
    case round =>
      obtain ⟨k, hk, rfl, hall⟩ := hrel
      have Hall := Lib.hid hall
      clear hall
      by_cases hlt : k < g.nodes.length
      · rcases hp with hp | ⟨b, o, rfl, hb, hc⟩
        · rw [hp] at hlt; simp at hlt
        obtain ⟨vi, vp, h0, h1, h2, hi, hpp⟩ := hc k hlt
        obtain ⟨pi, ci, rfl⟩ := hi.len
        obtain ⟨pp, cp, rfl⟩ := hpp.len
        have hli := Hwf.out.insl _ (List.getElem_mem hlt)
        have hlp := Hwf.out.psl _ (List.getElem_mem hlt)
        unfold maxLen at hli hlp
        have hn : fewN g.nodes[k] = false → g.nodes.all fewN = false := by
          intro h
          rw [Bool.eq_false_iff]
          intro hm
          rw [List.all_eq_true] at hm
          have := hm _ (List.getElem_mem hlt)
          rw [h] at this
          cases this
        have hy : fewN g.nodes[k] = true → (g.nodes.take (k + 1)).all fewN = true := fun h => by rw [List.all_take_succ _ _ _ hlt, Hall.out, h]; rfl
        have Hn := Lib.hid hn
        have Hy := Lib.hid hy
        clear hc hi hpp hn hy
        generalize g.nodes[k] = nk at *
        by_cases hf1 : nk.ins.length ≤ 20
        · by_cases hf2 : nk.ps.length ≤ 40
          · have hfn : fewN nk = true := by simp [fewN, hf1, hf2]
            have Hfn := Lib.hid (Hy.out hfn)
            clear hfn
            go_wp2
            go_round
            case rel => exact ⟨k + 1, by omega, by go_num, Hfn.out⟩
            case measure => simp [intOf]; omega
          · have hfn : fewN nk = false := by simp [fewN]; omega
            have Hfn := Lib.hid (Hn.out hfn)
            clear hfn
            go_wp2
            go_ret
            exact ⟨ret_bool (by rw [Hs.out, Hfn.out]), (Below.refl _ _).alloc (Nat.le_refl _) _⟩
        · have hfn : fewN nk = false := by simp [fewN]; omega
          have Hfn := Lib.hid (Hn.out hfn)
          clear hfn
          go_wp2
          go_ret
          exact ⟨ret_bool (by rw [Hs.out, Hfn.out]), (Below.refl _ _).alloc (Nat.le_refl _) _⟩
      · go_wp2
        go_ret
        exact ⟨ret_bool (by rw [Hs.out, ← Hall.out, List.take_of_length_le (by omega)]), (Below.refl _ _).alloc (Nat.le_refl _) _⟩

end Go.Proofs.Ytfphlkoneocejaa
