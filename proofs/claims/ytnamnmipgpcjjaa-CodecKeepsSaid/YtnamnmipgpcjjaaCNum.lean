/- Acts as bytes: a number is read. -/
import Derived.Test.YtnamnmipgpcjjaaCRd
import Derived.ScopeJumps
namespace Go.Gou

def numVal (m : Nat) : Int := if m % 2 = 1 then -(((m + 1) / 2 : Nat) : Int) else ((m / 2 : Nat) : Int)

def numGo (bs : List Nat) : Nat → Nat → Nat → Nat → Option (Int × Nat)
  | 0, _, _, _ => none
  | f + 1, n, m, s =>
    if h : n < bs.length then
      if 128 ≤ bs[n] then (if s + 7 < 35 then numGo bs f (n + 1) (m + bs[n] % 128 * 2 ^ s) (s + 7) else none)
      else if m + bs[n] % 128 * 2 ^ s < 4294967296 ∧ (bs[n] ≠ 0 ∨ s + 7 = 7) then some (numVal (m + bs[n] % 128 * 2 ^ s), n + 1) else none
    else none

/-- A number from a place on, and the place behind it. -/
def numAt (bs : List Nat) (n : Nat) : Option (Int × Nat) := numGo bs 5 n 0 0

end Go.Gou
namespace Go.Proofs.Ytnamnmipgpcjjaa
open Go.RowKit Go.Gou

/-- What a reading comes to: its value and the place behind, or a fault; but for the reader's box all is as it was. -/
def RdP {α : Type} (w : World) (R : Nat) (vb : Value) (bs : List Nat) (I : World → Value → α → Prop) (res : Option (α × Nat)) (e : Ending) (w' : World) : Prop :=
  Mod (fun k => k = R) w w' ∧ match res with
    | some (x, n) => ∃ v, e = .returned v ∧ I w' v x ∧ RdAt w' R vb bs n
    | none => e = .panicked faultC ∧ ∃ n, RdAt w' R vb bs n

def IsInt (_ : World) (v : Value) (x : Int) : Prop := v = .int .i64 x

/-- What stands at the label 'next'. -/
def NextC (w : World) (R : Nat) (vb : Value) (bs : List Nat) (res : Option (Int × Nat)) (a : Act) (w' : World) : Prop :=
  ∃ (n m k : Nat) (vm vs : Int), numGo bs (5 - k) n m (7 * k) = res ∧ vm = m ∧ vs = 7 * k ∧ k ≤ 4 ∧ m < 2 ^ (7 * k) ∧ RdAt w' R vb bs n ∧ Mod (fun k => k = R) w w' ∧
    ∃ u1 u5 u6 u7 u8 u9 u10 u11 u12 u13 u14 u15 u16 u17 u18 u19 u20 u21 u22 u23 u24 u25 u26 u27 u28 u29 u30 u31 u32 u33 u34 u35 u36 u37 u38 u39 u40 u41 : Value, a = { tmps := #[.pointer (some ⟨R, 0, none⟩), u1, .int .i64 0, .int .i64 vm, .int .i64 vs, u5, u6, u7, u8, u9, u10, u11, u12, u13, u14, u15, u16, u17, u18, u19, u20, u21, u22, u23, u24, u25, u26, u27, u28, u29, u30, u31, u32, u33, u34, u35, u36, u37, u38, u39, u40, u41], defers := [] }

theorem and127 (c : Nat) (h : c < 256) : bits BinOp.and IntKind.u8 (c : Int) 127 = ((c % 128 : Nat) : Int) := by
  have h1 : ((BitVec.ofInt IntKind.u8.bits (c : Int)) &&& (BitVec.ofInt IntKind.u8.bits 127)).toNat = c % 128 := by
    rw [BitVec.toNat_and]
    have e1 : (BitVec.ofInt IntKind.u8.bits (c : Int)).toNat = c := by
      rw [BitVec.toNat_ofInt]
      have : ((2 ^ IntKind.u8.bits : Nat) : Int) = 256 := rfl
      rw [this]
      omega
    have e2 : (BitVec.ofInt IntKind.u8.bits 127).toNat = 2 ^ 7 - 1 := rfl
    rw [e1, e2, Nat.and_two_pow_sub_one_eq_mod]
  show IntKind.u8.wrap (((BitVec.ofInt IntKind.u8.bits (c : Int)) &&& (BitVec.ofInt IntKind.u8.bits 127)).toNat : Int) = _
  rw [h1]
  exact IntWalk.u8_in _ (by omega)
theorem num_odd {V : Int} {M : Nat} (hV : V = (M : Int)) (hA : M < 4294967296) (hp : M % 2 = 1) : wrap64 ((wrap64 (-wrap64 (V + 1))).tdiv 2) = numVal M := by
  have e1 : wrap64 (V + 1) = ((M + 1 : Nat) : Int) := by rw [IntWalk.wrap64_in _ (by omega), hV]; rfl
  have e2 : wrap64 (-((M + 1 : Nat) : Int)) = -((M + 1 : Nat) : Int) := IntWalk.wrap64_in _ (by omega)
  have e3 : (-((M + 1 : Nat) : Int)).tdiv 2 = -(((M + 1) / 2 : Nat) : Int) := by rw [Int.neg_tdiv]; rfl
  rw [e1, e2, e3, IntWalk.wrap64_in _ (by omega)]
  unfold numVal
  rw [if_pos hp]

theorem num_even {V : Int} {M : Nat} (hV : V = (M : Int)) (hA : M < 4294967296) (hp : ¬ M % 2 = 1) : wrap64 (V.tdiv 2) = numVal M := by
  have e3 : ((M : Nat) : Int).tdiv 2 = ((M / 2 : Nat) : Int) := rfl
  rw [hV, e3, IntWalk.wrap64_in _ (by omega)]
  unfold numVal
  rw [if_neg hp]

theorem wp_scope_fall {P : Program} {r1 rest : Code} {a : Act} {w : World} {Q : Exit → Act → World → Prop} (l : Nat) (J : Act → World → Prop) (μ : Act → World → Nat)
    (hf : findLabel (Code.seq r1 (Code.seq (Code.label l) rest)) l = some (Code.seq Code.skip rest)) (h0 : r1.wp P (fun e a' w' => e = .normal ∧ J a' w') a w)
    (pass : ∀ a w, J a w → rest.wp P (Exit.jump l (fun a' w' => J a' w' ∧ μ a' w' < μ a w) Q) a w) : (Code.scope (Code.seq r1 (Code.seq (Code.label l) rest))).wp P Q a w := by
  refine wp_scope_jumps l J μ hf ?_ (fun a w hJ => wp_seq (wp_skip (pass a w hJ)))
  refine wp_seq (wp_mono h0 ?_)
  rintro e a' w' ⟨rfl, hJ⟩
  show Code.wp P (Code.seq (Code.label l) rest) _ a' w'
  refine wp_seq (wp_label ?_)
  show Code.wp P rest _ a' w'
  refine wp_mono (pass a' w' hJ) fun e a w h => ?_
  cases e <;> first | exact ⟨h.1, h.2.1⟩ | exact h

theorem num_lt {m d k : Nat} (hm : m < 2 ^ (7 * k)) (hd : d < 128) : m + d * 2 ^ (7 * k) < 2 ^ (7 * k + 7) := by
  rw [Nat.pow_add]
  have : d * 2 ^ (7 * k) ≤ 127 * 2 ^ (7 * k) := Nat.mul_le_mul_right _ (by omega)
  have h2 : (2 : Nat) ^ 7 = 128 := rfl
  rw [h2]
  omega

set_option maxRecDepth 100000 in
set_option maxHeartbeats 4000000 in
theorem number_any (w : World) (R : Nat) (vb : Value) (bs : List Nat) (n : Nat) (h : RdAt w R vb bs n) :
    Calls Try.prog 35 #[.pointer (some ⟨R, 0, none⟩)] w (RdP w R vb bs IsInt (numAt bs n)) := by
  have H := Lib.hid h
  clear h
  go_enter Try.func35, Try.ntmps35
  go_wp2_with fail
  refine wp_scope_fall 0 (NextC w R vb bs (numAt bs n)) (fun a _ => 35 - (intOf (a.tmps.getD 4 undef)).toNat) rfl ?first ?pass
  case pass =>
    rintro a wa ⟨n, m, k, _, _, hres, rfl, rfl, hk, hm, h, hmod, u1, u5, u6, u7, u8, u9, u10, u11, u12, u13, u14, u15, u16, u17, u18, u19, u20, u21, u22, u23, u24, u25, u26, u27, u28, u29, u30, u31, u32, u33, u34, u35, u36, u37, u38, u39, u40, u41, rfl⟩
    obtain ⟨f, h5⟩ : ∃ f, 5 - k = f + 1 := ⟨4 - k, by omega⟩
    rw [h5] at hres
    by_cases hn : n < bs.length
    · have hc256 := h.byte _ (List.getElem_mem hn)
      have hgd : bs.getD n 0 = bs[n] := by simp [List.getD, hn]
      have Hraw := Lib.hid (raw_some wa R vb bs n h hn)
      rw [hgd] at Hraw
      have hstep : numGo bs (f + 1) n m (7 * k) = if 128 ≤ bs[n] then (if 7 * k + 7 < 35 then numGo bs f (n + 1) (m + bs[n] % 128 * 2 ^ (7 * k)) (7 * k + 7) else none)
          else if m + bs[n] % 128 * 2 ^ (7 * k) < 4294967296 ∧ (bs[n] ≠ 0 ∨ 7 * k + 7 = 7) then some (numVal (m + bs[n] % 128 * 2 ^ (7 * k)), n + 1) else none := by
        rw [numGo, dif_pos hn]
      rw [hstep] at hres
      clear hstep
      generalize bs[n] = c at *
      obtain ⟨d, hd⟩ : ∃ d, d = c % 128 := ⟨_, rfl⟩
      obtain ⟨M, hM⟩ : ∃ M, M = m + d * 2 ^ (7 * k) := ⟨_, rfl⟩
      rw [← hd, ← hM] at hres
      have hb1 : bits BinOp.and IntKind.u8 (c : Int) 127 = (d : Int) := by rw [hd]; exact and127 c hc256
      have hd128 : d < 128 := by rw [hd]; exact Nat.mod_lt _ (by decide)
      have hb2 : wrap64 (d : Int) = d := IntWalk.wrap64_in _ (by clear hm hres hM; omega)
      have hM2 : M < 2 ^ (7 * k + 7) := by rw [hM]; exact num_lt hm hd128
      have hk35 : (2 : Nat) ^ (7 * k + 7) ≤ 2 ^ 35 := Nat.pow_le_pow_right (by decide) (by clear hM2 hM hm hres; omega)
      have hM35 : M < 34359738368 := Nat.lt_of_lt_of_le hM2 hk35
      have hdk : ((d * 2 ^ (7 * k) : Nat) : Int) = (d : Int) * 2 ^ (7 * k) := by push_cast; rfl
      have HM2 := Lib.hid hM2
      clear hM2 hk35
      have hb3 : wrap64 ((d : Int) * 2 ^ (7 * k)) = (d : Int) * 2 ^ (7 * k) := by
        rw [← hdk]
        generalize d * 2 ^ (7 * k) = q at *
        exact IntWalk.wrap64_in _ (by clear hres hm; omega)
      have hb4 : wrap64 ((m : Int) + (d : Int) * 2 ^ (7 * k)) = (M : Int) := by
        rw [← hdk]
        generalize d * 2 ^ (7 * k) = q at *
        exact (IntWalk.wrap64_in _ (by clear hres hm; omega)).trans (by clear hres hm; omega)
      clear hdk hM hm hd
      have HM35 := Lib.hid hM35
      have Hres := Lib.hid hres
      clear hM35 hres
      obtain ⟨V, hV⟩ : ∃ V : Int, V = (M : Int) := ⟨_, rfl⟩
      rw [← hV] at hb4
      have HV := Lib.hid hV
      clear hV
      go_wp2_with fail
      refine Hraw.out.mono ?_
      rintro e w1 ⟨rfl, h1, hm1⟩
      clear Hraw
      by_cases hc1 : 128 ≤ c
      · have e1 : decide ((128 : Int) ≤ (c : Int)) = true := by simp; omega
        have hres := Hres.out
        rw [if_pos hc1] at hres
        clear Hres
        by_cases hk4 : 7 * k + 7 < 35
        · have e2 : decide (7 * (k : Int) + 7 < 35) = true := by simp; omega
          rw [if_pos hk4] at hres
          have Hres := Lib.hid hres
          clear hres
          go_wp2_with fail
          refine (must_true _).mono ?_; rintro e w2 ⟨rfl, rfl⟩
          go_wp2_with fail
          go_step3
          simp only [Exit.then, Exit.jump]
          have h55 : 5 - (k + 1) = f := by omega
          exact ⟨by first | trivial | rfl, ⟨n + 1, M, k + 1, V, _, by rw [h55]; exact Hres.out, HV.out, by push_cast; rfl, by omega, HM2.out, h1, hmod.trans' hm1, _, _, _, _, _, _, _, _, _, _, _, _, _, _, _, _, _, _, _, _, _, _, _, _, _, _, _, _, _, _, _, _, _, _, _, _, _, _, rfl⟩, by simp [intOf]; omega⟩
        · have e2 : decide (7 * (k : Int) + 7 < 35) = false := by simp; omega
          rw [if_neg hk4] at hres
          have Hres2 := Lib.hid hres
          clear hres
          go_wp2_with fail
          refine (must_false _).mono ?_; rintro e w2 ⟨rfl, rfl⟩
          exact ⟨rfl, hmod.trans' hm1, by rw [← Hres2.out]; exact ⟨rfl, _, h1⟩⟩
      · have e1 : decide ((128 : Int) ≤ (c : Int)) = false := by simp; omega
        have hres := Hres.out
        rw [if_neg hc1] at hres
        have Hres := Lib.hid hres
        clear hres
        by_cases hA : M < 4294967296
        · have e3 : decide (V < 4294967296) = true := by rw [HV.out]; simp; omega
          have HA := Lib.hid hA
          clear hA
          by_cases hC : c = 0
          · have e4 : ((c : Int) != 0) = false := by simp [hC]
            have HC := Lib.hid hC
            clear hC
            by_cases hk0 : k = 0
            · have e5 : (7 * (k : Int) + 7 == 7) = true := by simp [hk0]
              have hor : Hid (c ≠ 0 ∨ 7 * k + 7 = 7) := Or.inr (by omega)
              clear hk0
              have hres := Hres.out
              rw [if_pos ⟨HA.out, hor.out⟩] at hres
              have Hres := Lib.hid hres
              clear hres
              go_wp2_with fail
              refine (must_true _).mono ?_; rintro e w2 ⟨rfl, rfl⟩
              by_cases hp : M % 2 = 1
              · have eR : (V.tmod 2 == 1) = true := by rw [HV.out]; show (((M % 2 : Nat) : Int) == 1) = true; rw [hp]; rfl
                have Hp := Lib.hid hp
                clear hp
                go_wp2_with fail
                simp only [Exit.jump]
                go_ret
                rw [← Hres.out]
                exact ⟨hmod.trans' hm1, _, rfl, congrArg (Value.int .i64) (num_odd HV.out HA.out Hp.out), h1⟩
              · have eR : (V.tmod 2 == 1) = false := by rw [HV.out]; show (((M % 2 : Nat) : Int) == 1) = false; exact beq_eq_false_iff_ne.2 (by omega)
                have Hp := Lib.hid hp
                clear hp
                go_wp2_with fail
                simp only [Exit.jump]
                go_ret
                rw [← Hres.out]
                exact ⟨hmod.trans' hm1, _, rfl, congrArg (Value.int .i64) (num_even HV.out HA.out Hp.out), h1⟩
            · have e5 : (7 * (k : Int) + 7 == 7) = false := by simp; omega
              have hres := Hres.out
              rw [if_neg (fun hx => by first | exact hA hx.1 | exact hx.2.elim (fun h => h HC.out) (fun h => by omega))] at hres
              have Hres2 := Lib.hid hres
              clear hres
              (try clear hA)
              go_wp2_with fail
              refine (must_false _).mono ?_; rintro e w2 ⟨rfl, rfl⟩
              exact ⟨rfl, hmod.trans' hm1, by rw [← Hres2.out]; exact ⟨rfl, _, h1⟩⟩
          · have e4 : ((c : Int) != 0) = true := by simp; omega
            have hor : Hid (c ≠ 0 ∨ 7 * k + 7 = 7) := Or.inl hC
            clear hC
            have hres := Hres.out
            rw [if_pos ⟨HA.out, hor.out⟩] at hres
            have Hres := Lib.hid hres
            clear hres
            go_wp2_with fail
            refine (must_true _).mono ?_; rintro e w2 ⟨rfl, rfl⟩
            by_cases hp : M % 2 = 1
            · have eR : (V.tmod 2 == 1) = true := by rw [HV.out]; show (((M % 2 : Nat) : Int) == 1) = true; rw [hp]; rfl
              have Hp := Lib.hid hp
              clear hp
              go_wp2_with fail
              simp only [Exit.jump]
              go_ret
              rw [← Hres.out]
              exact ⟨hmod.trans' hm1, _, rfl, congrArg (Value.int .i64) (num_odd HV.out HA.out Hp.out), h1⟩
            · have eR : (V.tmod 2 == 1) = false := by rw [HV.out]; show (((M % 2 : Nat) : Int) == 1) = false; exact beq_eq_false_iff_ne.2 (by omega)
              have Hp := Lib.hid hp
              clear hp
              go_wp2_with fail
              simp only [Exit.jump]
              go_ret
              rw [← Hres.out]
              exact ⟨hmod.trans' hm1, _, rfl, congrArg (Value.int .i64) (num_even HV.out HA.out Hp.out), h1⟩
        · have e3 : decide (V < 4294967296) = false := by rw [HV.out]; simp; omega
          have hres := Hres.out
          rw [if_neg (fun hx => by first | exact hA hx.1 | exact hx.2.elim (fun h => h HC.out) (fun h => by omega))] at hres
          have Hres2 := Lib.hid hres
          clear hres
          (try clear hA)
          go_wp2_with fail
          refine (must_false _).mono ?_; rintro e w2 ⟨rfl, rfl⟩
          exact ⟨rfl, hmod.trans' hm1, by rw [← Hres2.out]; exact ⟨rfl, _, h1⟩⟩
    · obtain rfl : n = bs.length := by have := h.le; omega
      have hr : numGo bs (f + 1) bs.length m (7 * k) = none := by rw [numGo, dif_neg (by omega)]
      rw [hr] at hres
      have Hres2 := Lib.hid hres
      clear hres hr hm
      have Hraw := Lib.hid (raw_none wa R vb bs h)
      go_wp2_with fail
      refine Hraw.out.mono ?_
      rintro e w1 ⟨rfl, h1, hm1⟩
      exact ⟨rfl, hmod.trans' hm1, by rw [← Hres2.out]; exact ⟨rfl, _, h1⟩⟩
  case first =>
    go_wp2_with fail
    exact ⟨n, 0, 0, _, _, rfl, rfl, rfl, by omega, by decide, H.out, Mod.refl _ _, _, _, _, _, _, _, _, _, _, _, _, _, _, _, _, _, _, _, _, _, _, _, _, _, _, _, _, _, _, _, _, _, _, _, _, _, _, _, rfl⟩

end Go.Proofs.Ytnamnmipgpcjjaa
