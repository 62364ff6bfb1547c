/- order.Round. -/
import Derived.Test.YtfphlkoneocejaaOrdD
import Derived.Deep.RegionHeld3
namespace Go.Proofs.Ytfphlkoneocejaa
open Go.RowKit Go.Gou

open Classical in
/-- Some node leads round. -/
noncomputable def roundB (g : Gr) : Bool := decide (∃ i, i < g.nodes.length ∧ ¬ Done (insN g) i)

theorem round_len {g : Gr} {out : List Nat} (h : IsOrder (insN g) out) : decide (out.length < g.nodes.length) = roundB g := by
  have := h.round
  rw [insN_len] at this
  unfold roundB
  rw [decide_eq_decide]
  exact this

set_option maxHeartbeats 1000000 in
theorem round_any (w : World) (v : Value) (g : Gr) (hg : GrV w v g) (hok : GrOk g) :
    Calls Try.prog 13 #[v] w fun e w' => e = .returned (.bool (roundB g)) ∧ Below w.heap.size w w' := by
  have Hg := Lib.hid hg
  have Hok := Lib.hid hok
  have hfew := hok.few
  obtain ⟨p, cap, rfl⟩ := hg.form
  clear hg hok
  have hb0 := (Below.refl w.heap.size w).alloc (Nat.le_refl _) (.cells #[.slice p g.nodes.length cap, .int .i64 g.out] 24)
  have hlt : w.heap.size < (w.alloc (.cells #[.slice p g.nodes.length cap, .int .i64 g.out] 24)).heap.size := by simp
  have hc0 : (w.alloc (.cells #[.slice p g.nodes.length cap, .int .i64 g.out] 24)).cell? ⟨w.heap.size, 0, none⟩ = some (.slice p g.nodes.length cap) := by simp [go_sem]
  have hc1 : (w.alloc (.cells #[.slice p g.nodes.length cap, .int .i64 g.out] 24)).cell? ⟨w.heap.size, 1, none⟩ = some (.int .i64 g.out) := by simp [go_sem]
  go_enter Try.func13, Try.ntmps13
  go_wp2_with fail
  generalize w.alloc (.cells #[.slice p g.nodes.length cap, .int .i64 g.out] 24) = wb at *
  go_region_held3 (fun w' => (Below wb.heap.size wb w' ∧ w'.cell? ⟨w.heap.size, 0, none⟩ = some (.slice p g.nodes.length cap) ∧ w'.cell? ⟨w.heap.size, 1, none⟩ = some (.int .i64 g.out)))
    (first
      | exact ⟨(Below.refl _ _).drew, hc0, hc1⟩
      | (obtain ⟨g0, g1, g2⟩ := ‹Below wb.heap.size wb _ ∧ _›; exact ⟨later_below g0 (hb3.mono (by omega)), later_cell g0 hb3 hlt g1, later_cell g0 hb3 hlt g2⟩))
    (first
      | (go_at_call 19; refine (all_ord _ _ g (Hg.out.up (hb0.trans ((‹Below wb.heap.size wb _ ∧ _›).1.mono (by omega)))) Hok.out).mono ?_; rintro e w3 ⟨v3, out, rfl, hown3, hord, hb3⟩; obtain ⟨p3, c3, rfl⟩ := ownsRow_form hown3; have hle := hord.le; rw [insN_len] at hle))
  have hfin := hb0.trans ((‹Below wb.heap.size wb w3 ∧ _›).1.mono (by omega))
  go_wp2
  go_ret
  exact ⟨ret_bool (round_len hord), hfin⟩

end Go.Proofs.Ytfphlkoneocejaa
