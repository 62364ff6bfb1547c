/- Acts as bytes: an act is written, whichever. -/
import Derived.Test.YtnamnmipgpcjjaaWrI
namespace Go.Proofs.Ytnamnmipgpcjjaa
open Go.RowKit Go.Gou

theorem wact_any (w : World) (W : Nat) (bs : List Nat) (vs : Value) (p1 : Option Addr) (k1 : Nat) (p2 : Option Addr) (k2 : Nat) (p3 : Option Addr) (k3 : Nat) (a : Ac) (h : Wr w W bs vs) (hx : LookR (fun b => b < W) w a.op.look (.slice p1 a.op.look.content.pix.length k1) (.slice p2 a.op.look.filt.nodes.length k2) (.slice p3 a.op.look.back.nodes.length k3)) (hl : bs.length ≤ 600000000) :
    Calls Try.prog 21 #[.pointer (some ⟨W, 0, none⟩), .agg (actC a (.slice p1 a.op.look.content.pix.length k1) (.slice p2 a.op.look.filt.nodes.length k2) (.slice p3 a.op.look.back.nodes.length k3))] w (WrP w W bs vs (encAct a)) := by
  by_cases hb : 1 ≤ a.kind ∧ a.kind ≤ 14
  · obtain ⟨K, hK⟩ : ∃ K : Nat, a.kind = (K : Nat) := ⟨a.kind.toNat, by omega⟩
    by_cases h12 : K = 12
    · subst h12; exact wact_12 w W bs vs p1 k1 p2 k2 p3 k3 a hK h hx hl
    by_cases h13 : K = 13
    · subst h13; exact wact_13 w W bs vs p1 k1 p2 k2 p3 k3 a hK h hx hl
    by_cases h14 : K = 14
    · subst h14; exact wact_14 w W bs vs p1 k1 p2 k2 p3 k3 a hK h hx hl
    exact wact_0 w W bs vs p1 k1 p2 k2 p3 k3 a K ⟨by omega, by omega⟩ hK h hx hl
  · exact wact_bad w W bs vs p1 k1 p2 k2 p3 k3 a hb h hx hl

end Go.Proofs.Ytnamnmipgpcjjaa
