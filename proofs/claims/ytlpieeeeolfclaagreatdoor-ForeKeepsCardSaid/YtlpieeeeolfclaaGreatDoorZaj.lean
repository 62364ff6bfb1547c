/- Texts of the scenes' proofs, laid together: RkE, RkF. -/
import Derived.Test.YtlpieeeeolfclaaGreatDoorZai
import Derived.Deep.CutBlock
import Derived.Deep.CutRange
set_option linter.unusedSimpArgs false
set_option linter.unusedVariables false
set_option linter.unusedSectionVars false
set_option linter.constructorNameAsVariable false

/- Regions: two rows' spans are gone through side by side. -/
namespace Go.Reg

theorem Next.grows {e : List Int} {i j : Nat} {x c : Int} (h : Next e i j x) (hu : Upto e i c) (hc : c < x) : i ≤ j := by
  rcases Nat.lt_or_ge j i with h1 | h1
  · have hl := hu.le
    have h2 := List.getElem?_eq_getElem (by omega : j < e.length)
    have := hu.lo j _ h1 h2
    have := h.up.hi j _ (Nat.le_refl _) h2
    omega
  · exact h1

end Go.Reg
namespace Go.Proofs.YtlpieeeeolfclaaGreatDoor
open Go.RowKit Go.Gou Go.Reg Go.Shelf
set_option maxRecDepth 100000

/-- The first twelve of 101 slots. -/
structure At12 (tm : Array Value) (v0 v1 v2 v3 v4 v5 v6 v7 v8 v9 v10 v11 : Value) : Prop where
  size : tm.size = 101
  s0 : tm.getD 0 undef = v0
  s1 : tm.getD 1 undef = v1
  s2 : tm.getD 2 undef = v2
  s3 : tm.getD 3 undef = v3
  s4 : tm.getD 4 undef = v4
  s5 : tm.getD 5 undef = v5
  s6 : tm.getD 6 undef = v6
  s7 : tm.getD 7 undef = v7
  s8 : tm.getD 8 undef = v8
  s9 : tm.getD 9 undef = v9
  s10 : tm.getD 10 undef = v10
  s11 : tm.getD 11 undef = v11

theorem arr_of (tm : Array Value) (n : Nat) (h : tm.size = n) : tm = ((List.range n).map fun i => tm.getD i undef).toArray := by
  subst h
  apply Array.ext
  · simp
  · intro i h1 h2
    simp [h1]
theorem At12.opened {tm : Array Value} {v0 v1 v2 v3 v4 v5 v6 v7 v8 v9 v10 v11 : Value} (h : At12 tm v0 v1 v2 v3 v4 v5 v6 v7 v8 v9 v10 v11) : ∃ u : Nat → Value, tm = #[v0, v1, v2, v3, v4, v5, v6, v7, v8, v9, v10, v11, u 12, u 13, u 14, u 15, u 16, u 17, u 18, u 19, u 20, u 21, u 22, u 23, u 24, u 25, u 26, u 27, u 28, u 29, u 30, u 31, u 32, u 33, u 34, u 35, u 36, u 37, u 38, u 39, u 40, u 41, u 42, u 43, u 44, u 45, u 46, u 47, u 48, u 49, u 50, u 51, u 52, u 53, u 54, u 55, u 56, u 57, u 58, u 59, u 60, u 61, u 62, u 63, u 64, u 65, u 66, u 67, u 68, u 69, u 70, u 71, u 72, u 73, u 74, u 75, u 76, u 77, u 78, u 79, u 80, u 81, u 82, u 83, u 84, u 85, u 86, u 87, u 88, u 89, u 90, u 91, u 92, u 93, u 94, u 95, u 96, u 97, u 98, u 99, u 100] := by
  refine ⟨fun i => tm.getD i undef, ?_⟩
  rw [← h.s0, ← h.s1, ← h.s2, ← h.s3, ← h.s4, ← h.s5, ← h.s6, ← h.s7, ← h.s8, ← h.s9, ← h.s10, ← h.s11]
  exact arr_of tm 101 h.size

/-- The way through, between two edges. -/
def MergeJ (w : World) (a b : List Sp) (f : Bool → Bool → Bool) (g : Nat) (pa pb : Option Addr) (ca cb : Nat) (ac : Act) (w' : World) : Prop :=
  ∃ (vo : Value) (i k : Nat) (op : Int) (is : Bool), At12 ac.tmps (.slice pa a.length ca) (.slice pb b.length cb) (.func (.func g) #[] #[]) (undef) (undef) (undef) (.slice none 0 0) vo (.int .i64 i) (.int .i64 k) (.int .i64 op) (.bool is) ∧ ac.defers = [] ∧ ∃ (o : List Sp) (c : Int), MInv a b f i k op is o c ∧ o.length ≤ i + k ∧ w'.ownsRow w.heap.size 108 2 vo o.length (sps o) ∧ Gou.Mod (fun _ => False) w w'
/-- .. at its end. -/
def MergeK (w : World) (a b : List Sp) (f : Bool → Bool → Bool) (g : Nat) (pa pb : Option Addr) (ca cb : Nat) (ac : Act) (w' : World) : Prop :=
  ∃ (vo v8 v9 v10 v11 : Value), At12 ac.tmps (.slice pa a.length ca) (.slice pb b.length cb) (.func (.func g) #[] #[]) (undef) (undef) (undef) (.slice none 0 0) vo v8 v9 v10 v11 ∧ ac.defers = [] ∧ ∃ (o : List Sp) (c : Int) (op : Int) (is : Bool), MInv a b f (2 * a.length) (2 * b.length) op is o c ∧ o.length ≤ 2 * a.length + 2 * b.length ∧ w'.ownsRow w.heap.size 108 2 vo o.length (sps o) ∧ Gou.Mod (fun _ => False) w w'

/-- What two rows come to. -/
def MergeP (w : World) (a b : List Sp) (f : Bool → Bool → Bool) (e : Ending) (w' : World) : Prop :=
  Gou.Mod (fun _ => False) w w' ∧ ∃ v s, e = .returned v ∧ w'.ownsRow w.heap.size 108 2 v s.length (sps s) ∧ Canon s ∧ (∀ x, In s x ↔ Want f (In a x) (In b x)) ∧ s.length ≤ 2 * a.length + 2 * b.length

set_option maxHeartbeats 16000000 in
theorem merge_any (w : World) (g : Nat) (f : Bool → Bool → Bool) (hW : WantF g f) (pa pb : Option Addr) (ca cb : Nat) (a b : List Sp) (hA : SpR (fun _ => True) w (.slice pa a.length ca) a) (hB : SpR (fun _ => True) w (.slice pb b.length cb) b)
    (hca : Canon a) (hcb : Canon b) (hna : a.length ≤ 4000000000) (hnb : b.length ≤ 4000000000) :
    Calls Tryz.prog 69 #[.slice pa a.length ca, .slice pb b.length cb, .func (.func g) #[] #[]] w (MergeP w a b f) := by
  have HW := Lib.hid hW
  have HA0 := Lib.hid hA
  have HB0 := Lib.hid hB
  have Hca := Lib.hid hca
  have Hcb := Lib.hid hcb
  have Hna := Lib.hid hna
  have Hnb := Lib.hid hnb
  clear hW hA hB hca hcb hna hnb
  go_enter Tryz.func69, Tryz.ntmps69
  go_wp2_with fail
  refine wp_scope_jumps2_at 0 1 (MergeJ w a b f g pa pb ca cb) (MergeK w a b f g pa pb ca cb) (fun a' _ => (2 * a.length + 2 * b.length) - ((intOf (a'.tmps.getD 8 undef)).toNat + (intOf (a'.tmps.getD 9 undef)).toNat)) rfl rfl rfl ?first ?pass ?over
  case over =>
    rintro ⟨tm, df⟩ w' ⟨vo, v8, v9, v10, v11, ht, hd, o, c, op, is, hM, hol, hown, hm⟩
    obtain ⟨u, rfl⟩ := ht.opened
    obtain rfl : df = [] := hd
    clear ht
    obtain ⟨h1, h2⟩ := hM.done Hca.out Hcb.out HW.out.none
    have Hend : Hid (MergeP w a b f (.returned vo) w') := Lib.hid ⟨hm, vo, o, rfl, hown, h1, h2, hol⟩
    obtain ⟨po, co, rfl⟩ := Gou.ownsRow_form hown
    clear hM hol hown hm h1 h2
    go_wp2_with fail
    simp only [Exit.jump2]
    go_ret
    exact Hend.out
  case pass =>
    rintro ⟨tm, df⟩ wr ⟨vo, i, k, op, is, ht, hd, o, c, hM, hol, hown, hm⟩
    obtain ⟨u, rfl⟩ := ht.opened
    obtain rfl : df = [] := hd
    clear ht
    obtain ⟨po, co, rfl⟩ := Gou.ownsRow_form hown
    have HM := Lib.hid hM
    have Hol := Lib.hid hol
    have Hown := Lib.hid hown
    have Hm := Lib.hid hm
    clear hM hol hown hm
    have Hna2 : Hid (2 * a.length ≤ 8000000000 ∧ 2 * b.length ≤ 8000000000) := Lib.hid (by have := Hna.out; have := Hnb.out; omega)
    have wa : IntKind.i64.wrap (2 * (a.length : Int)) = 2 * (a.length : Int) := wrap_id (by omega) (by have := Hna.out; omega)
    have wb : IntKind.i64.wrap (2 * (b.length : Int)) = 2 * (b.length : Int) := wrap_id (by omega) (by have := Hnb.out; omega)
    have HA := Lib.hid (HA0.out.mod Hm.out (fun _ _ _ h => h))
    have HB := Lib.hid (HB0.out.mod Hm.out (fun _ _ _ h => h))
    have Hi : Hid (i ≤ 2 * a.length) := Lib.hid (by have := HM.out.ui.le; rwa [edgesOf_len] at this)
    have Hk : Hid (k ≤ 2 * b.length) := Lib.hid (by have := HM.out.uk.le; rwa [edgesOf_len] at this)
    by_cases hend : i = 2 * a.length ∧ k = 2 * b.length
    · obtain ⟨rfl, rfl⟩ := hend
      have ea : (((2 * a.length : Nat) : Int) == 2 * (a.length : Int)) = true := by simp
      have eb : (((2 * b.length : Nat) : Int) == 2 * (b.length : Int)) = true := by simp
      have ea' : ((2 * (a.length : Int)) == 2 * (a.length : Int)) = true := by simp
      have eb' : ((2 * (b.length : Int)) == 2 * (b.length : Int)) = true := by simp
      go_wp2_with fail
      go_step3
      show (_ ∧ _) ∨ (_ ∧ _)
      exact .inr ⟨rfl, ⟨_, _, _, _, _, ⟨rfl, rfl, rfl, rfl, rfl, rfl, rfl, rfl, rfl, rfl, rfl, rfl, rfl⟩, rfl, o, c, op, is, HM.out, Hol.out, Hown.out, Hm.out⟩⟩
    · have Hend := Lib.hid hend
      clear hend
      go_upto_block 0 with fail
      go_cut [12] from 14 to 51 (fun vx wx => ∃ x : Int, vx = .int .i64 x ∧ ((c < x) ∧ (∀ u, (edgesOf a)[i]? = some u → x ≤ u) ∧ (∀ u, (edgesOf b)[k]? = some u → x ≤ u) ∧ ((edgesOf a)[i]? = some x ∨ (edgesOf b)[k]? = some x)) ∧ wx = wr)
      case first =>
        by_cases hia : i < 2 * a.length
        · have ea : ((i : Int) == 2 * (a.length : Int)) = false := by simp; omega
          obtain ⟨u, hu⟩ := edges_at a i hia
          have Hed := Lib.hid (edge_any _ _ pa ca a i u HA.out (by have := Hna.out; omega) hu)
          have hcu := HM.out.ui.hi i u (Nat.le_refl _) hu
          by_cases hkb : k < 2 * b.length
          · have eb : ((k : Int) == 2 * (b.length : Int)) = false := by simp; omega
            obtain ⟨v, hv⟩ := edges_at b k hkb
            have Hed2 := Lib.hid (edge_any _ _ pb cb b k v HB.out (by have := Hnb.out; omega) hv)
            have hcv := HM.out.uk.hi k v (Nat.le_refl _) hv
            obtain ⟨x, hx⟩ : ∃ x, x = min u v := ⟨_, rfl⟩
            have ex : (if v < u then v else u) = x := by rw [hx, min_ite]
            have Hx : Hid ((c < x) ∧ (∀ u, (edgesOf a)[i]? = some u → x ≤ u) ∧ (∀ u, (edgesOf b)[k]? = some u → x ≤ u) ∧ ((edgesOf a)[i]? = some x ∨ (edgesOf b)[k]? = some x)) := Lib.hid (by
              refine ⟨by omega, fun u' h => ?_, fun u' h => ?_, ?_⟩
              · rw [hu] at h; simp only [Option.some.injEq] at h; omega
              · rw [hv] at h; simp only [Option.some.injEq] at h; omega
              · rcases (by omega : x = u ∨ x = v) with rfl | rfl
                · exact .inl hu
                · exact .inr hv)
            clear hu hv hx hcu hcv hia hkb
            go_wp2_with (first | (go_at_call 80; first | (with_reducible refine Hed.out.mono ?_; rintro e w' ⟨rfl, rfl⟩) | (with_reducible refine Hed2.out.mono ?_; rintro e w' ⟨rfl, rfl⟩)) | fail)
            all_goals go_meet
            all_goals (try (case rel => exact ⟨_, by first | rfl | (congr 1; omega), Hx.out, rfl⟩))
          · have hk2 : k = 2 * b.length := by have := Hk.out; omega
            have eb : ((k : Int) == 2 * (b.length : Int)) = true := by simp; omega
            have Hx : Hid ((c < u) ∧ (∀ u', (edgesOf a)[i]? = some u' → u ≤ u') ∧ (∀ u', (edgesOf b)[k]? = some u' → u ≤ u') ∧ ((edgesOf a)[i]? = some u ∨ (edgesOf b)[k]? = some u)) := Lib.hid (by
              refine ⟨hcu, fun u' h => ?_, fun u' h => ?_, .inl hu⟩
              · rw [hu] at h; simp only [Option.some.injEq] at h; omega
              · rw [edges_end _ _ hkb] at h; cases h)
            clear hu hcu hia hkb hk2
            go_wp2_with (first | (go_at_call 80; refine Hed.out.mono ?_; rintro e w' ⟨rfl, rfl⟩) | fail)
            go_meet
            case rel => exact ⟨u, rfl, Hx.out, rfl⟩
        · have hi2 : i = 2 * a.length := by have := Hi.out; omega
          have hkb : k < 2 * b.length := by have := Hk.out; have := Hend.out; omega
          have ea : ((i : Int) == 2 * (a.length : Int)) = true := by simp; omega
          have eb : ((k : Int) == 2 * (b.length : Int)) = false := by simp; omega
          obtain ⟨v, hv⟩ := edges_at b k hkb
          have Hed2 := Lib.hid (edge_any _ _ pb cb b k v HB.out (by have := Hnb.out; omega) hv)
          have hcv := HM.out.uk.hi k v (Nat.le_refl _) hv
          have Hx : Hid ((c < v) ∧ (∀ u', (edgesOf a)[i]? = some u' → v ≤ u') ∧ (∀ u', (edgesOf b)[k]? = some u' → v ≤ u') ∧ ((edgesOf a)[i]? = some v ∨ (edgesOf b)[k]? = some v)) := Lib.hid (by
              refine ⟨hcv, fun u' h => ?_, fun u' h => ?_, .inr hv⟩
              · rw [edges_end _ _ hia] at h; cases h
              · rw [hv] at h; simp only [Option.some.injEq] at h; omega)
          clear hv hcv hia hkb hi2
          go_wp2_with (first | (go_at_call 80; refine Hed2.out.mono ?_; rintro e w' ⟨rfl, rfl⟩) | fail)
          go_meet
          case rel => exact ⟨v, rfl, Hx.out, rfl⟩
      case rest =>
        obtain ⟨x, rfl, hx, hww⟩ := hcut
        have hww := hww.symm
        subst hww
        have HX := Lib.hid hx
        clear hx
        go_upto_block 1 with fail
        go_cut [8] from 52 to 65 (fun vi wx => ∃ j : Nat, vi = .int .i64 j ∧ j ≤ 2 * a.length ∧ Reg.Next (edgesOf a) i j x ∧ wx = wr)
        case first =>
          go_wp2_with fail
          go_loopw [8] (fun vi wx => ∃ j : Nat, vi = .int .i64 j ∧ i ≤ j ∧ j ≤ 2 * a.length ∧ (∀ m u, i ≤ m → m < j → (edgesOf a)[m]? = some u → u = x) ∧ wx = wr) (fun vi _ => 2 * a.length - (intOf vi).toNat)
          case atStart => exact ⟨i, rfl, Nat.le_refl _, by have := Hi.out; omega, fun m u h1 h2 => absurd h1 (by omega), rfl⟩
          case round =>
            obtain ⟨j, rfl, hj0, hj1, hj2, hww⟩ := hrel
            have hww := hww.symm
            subst hww
            have Hj2 := Lib.hid hj2
            clear hj2
            have wj : IntKind.i64.wrap ((j : Int) + 1) = (j : Int) + 1 := wrap_id (by omega) (by have := Hna.out; omega)
            by_cases hjl : j < 2 * a.length
            · have t1 : decide ((j : Int) < 2 * (a.length : Int)) = true := decide_eq_true (by omega)
              obtain ⟨u, hu⟩ := edges_at a j hjl
              have hed := fun (w' : World) (h : SpR (fun _ => True) w' (.slice pa a.length ca) a) => edge_any w' _ pa ca a j u h (by have := Hna.out; omega) hu
              have Hed := Lib.hid (hed _ HA.out)
              have Hu := Lib.hid hu
              clear hed hu
              by_cases hux : u = x
              · have t2 : (u == x) = true := by simpa using hux
                have Hux := Lib.hid hux
                clear hux
                go_wp2_with (first | (go_at_call 80; refine Hed.out.mono ?_; rintro e w' ⟨rfl, rfl⟩) | fail)
                go_roundw
                case rel =>
                  refine ⟨j + 1, by go_num, by omega, by omega, fun m u' h1 h2 h3 => ?_, by first | rfl | trivial⟩
                  rcases Nat.lt_or_ge m j with h | h
                  · exact Hj2.out m u' h1 h h3
                  · obtain rfl : m = j := by omega
                    rw [Hu.out] at h3
                    simp only [Option.some.injEq] at h3
                    rw [← h3]
                    exact Hux.out
                case measure => simp [intOf, wj]; omega
              · have t2 : (u == x) = false := by simpa using hux
                have Hnx : Hid (Reg.Next (edgesOf a) i j x) := Lib.hid (Next.of_loop Hca.out HM.out.ui HX.out.1 HX.out.2.1 hj0 (by rw [edgesOf_len]; exact hj1) Hj2.out (fun u' h => by rw [Hu.out] at h; simp only [Option.some.injEq] at h; rw [← h]; exact hux))
                clear hux
                go_wp2_with (first | (go_at_call 80; refine Hed.out.mono ?_; rintro e w' ⟨rfl, rfl⟩) | fail)
                go_meet
                case rel => exact ⟨j, rfl, hj1, Hnx.out, rfl⟩
            · obtain rfl : j = 2 * a.length := by omega
              have t1 : decide (((2 * a.length : Nat) : Int) < 2 * (a.length : Int)) = false := decide_eq_false (by omega)
              have t1' : decide (2 * (a.length : Int) < 2 * (a.length : Int)) = false := decide_eq_false (by omega)
              have Hnx : Hid (Reg.Next (edgesOf a) i (2 * a.length) x) := Lib.hid (Next.of_loop Hca.out HM.out.ui HX.out.1 HX.out.2.1 hj0 (by rw [edgesOf_len]; exact hj1) Hj2.out (fun u' h => by rw [edges_end _ _ (by omega)] at h; cases h))
              go_wp2_with fail
              go_meet
              case rel => exact ⟨2 * a.length, rfl, hj1, Hnx.out, rfl⟩
        case rest =>
          obtain ⟨i2, rfl, hi2, hni2, hww⟩ := hcut
          have hww := hww.symm
          subst hww
          have Hi2l := Lib.hid hi2
          have Hni2 := Lib.hid hni2
          clear hi2 hni2
          go_upto_block 3 with fail
          go_cut [9] from 66 to 79 (fun vi wx => ∃ j : Nat, vi = .int .i64 j ∧ j ≤ 2 * b.length ∧ Reg.Next (edgesOf b) k j x ∧ wx = wr)
          case first =>
            go_wp2_with fail
            go_loopw [9] (fun vi wx => ∃ j : Nat, vi = .int .i64 j ∧ k ≤ j ∧ j ≤ 2 * b.length ∧ (∀ m u, k ≤ m → m < j → (edgesOf b)[m]? = some u → u = x) ∧ wx = wr) (fun vi _ => 2 * b.length - (intOf vi).toNat)
            case atStart => exact ⟨k, rfl, Nat.le_refl _, by have := Hk.out; omega, fun m u h1 h2 => absurd h1 (by omega), rfl⟩
            case round =>
              obtain ⟨j, rfl, hj0, hj1, hj2, hww⟩ := hrel
              have hww := hww.symm
              subst hww
              have Hj2 := Lib.hid hj2
              clear hj2
              have wj : IntKind.i64.wrap ((j : Int) + 1) = (j : Int) + 1 := wrap_id (by omega) (by have := Hnb.out; omega)
              by_cases hjl : j < 2 * b.length
              · have t1 : decide ((j : Int) < 2 * (b.length : Int)) = true := decide_eq_true (by omega)
                obtain ⟨u, hu⟩ := edges_at b j hjl
                have hed := fun (w' : World) (h : SpR (fun _ => True) w' (.slice pb b.length cb) b) => edge_any w' _ pb cb b j u h (by have := Hnb.out; omega) hu
                have Hed := Lib.hid (hed _ HB.out)
                have Hu := Lib.hid hu
                clear hed hu
                by_cases hux : u = x
                · have t2 : (u == x) = true := by simpa using hux
                  have Hux := Lib.hid hux
                  clear hux
                  go_wp2_with (first | (go_at_call 80; refine Hed.out.mono ?_; rintro e w' ⟨rfl, rfl⟩) | fail)
                  go_roundw
                  case rel =>
                    refine ⟨j + 1, by go_num, by omega, by omega, fun m u' h1 h2 h3 => ?_, by first | rfl | trivial⟩
                    rcases Nat.lt_or_ge m j with h | h
                    · exact Hj2.out m u' h1 h h3
                    · obtain rfl : m = j := by omega
                      rw [Hu.out] at h3
                      simp only [Option.some.injEq] at h3
                      rw [← h3]
                      exact Hux.out
                  case measure => simp [intOf, wj]; omega
                · have t2 : (u == x) = false := by simpa using hux
                  have Hnx : Hid (Reg.Next (edgesOf b) k j x) := Lib.hid (Next.of_loop Hcb.out HM.out.uk HX.out.1 HX.out.2.2.1 hj0 (by rw [edgesOf_len]; exact hj1) Hj2.out (fun u' h => by rw [Hu.out] at h; simp only [Option.some.injEq] at h; rw [← h]; exact hux))
                  clear hux
                  go_wp2_with (first | (go_at_call 80; refine Hed.out.mono ?_; rintro e w' ⟨rfl, rfl⟩) | fail)
                  go_meet
                  case rel => exact ⟨j, rfl, hj1, Hnx.out, rfl⟩
              · obtain rfl : j = 2 * b.length := by omega
                have t1 : decide (((2 * b.length : Nat) : Int) < 2 * (b.length : Int)) = false := decide_eq_false (by omega)
                have t1' : decide (2 * (b.length : Int) < 2 * (b.length : Int)) = false := decide_eq_false (by omega)
                have Hnx : Hid (Reg.Next (edgesOf b) k (2 * b.length) x) := Lib.hid (Next.of_loop Hcb.out HM.out.uk HX.out.1 HX.out.2.2.1 hj0 (by rw [edgesOf_len]; exact hj1) Hj2.out (fun u' h => by rw [edges_end _ _ (by omega)] at h; cases h))
                go_wp2_with fail
                go_meet
                case rel => exact ⟨2 * b.length, rfl, hj1, Hnx.out, rfl⟩
          case rest =>
            obtain ⟨k2, rfl, hk2, hnk2, hww⟩ := hcut
            have hww := hww.symm
            subst hww
            have Hk2l := Lib.hid hk2
            have Hnk2 := Lib.hid hnk2
            clear hk2 hnk2
            have HP : Hid (∃ P, P = decide (i2 % 2 = 1)) := Lib.hid ⟨_, rfl⟩
            have HQ : Hid (∃ Q, Q = decide (k2 % 2 = 1)) := Lib.hid ⟨_, rfl⟩
            obtain ⟨P, hP⟩ := HP.out
            obtain ⟨Q, hQ⟩ := HQ.out
            have p1 : (((i2 : Int).tmod 2) == 1) = P := by rw [hP, Int.tmod_eq_emod_of_nonneg (by omega), Bool.eq_iff_iff]; simp; omega
            have p2 : (((k2 : Int).tmod 2) == 1) = Q := by rw [hQ, Int.tmod_eq_emod_of_nonneg (by omega), Bool.eq_iff_iff]; simp; omega
            have p3 : IntKind.i64.wrap ((i2 : Int).tmod 2) = (i2 : Int).tmod 2 := by rw [Int.tmod_eq_emod_of_nonneg (by omega)]; exact wrap_id (by omega) (by omega)
            have p4 : IntKind.i64.wrap ((k2 : Int).tmod 2) = (k2 : Int).tmod 2 := by rw [Int.tmod_eq_emod_of_nonneg (by omega)]; exact wrap_id (by omega) (by omega)
            obtain ⟨now, hnow⟩ : ∃ now, now = f P Q := ⟨_, rfl⟩
            have HST := Lib.hid (MInv.step Hca.out Hcb.out HM.out HX.out.1 Hni2.out Hnk2.out now (by rw [hnow, hP, hQ]))
            have Hlt : Hid (i ≤ i2 ∧ k ≤ k2 ∧ i + k < i2 + k2) := Lib.hid (by
              have h1 : i ≤ i2 := Hni2.out.grows HM.out.ui HX.out.1
              have h2 : k ≤ k2 := Hnk2.out.grows HM.out.uk HX.out.1
              rcases HX.out.2.2.2 with h | h
              · have := Hni2.out.moves h; omega
              · have := Hnk2.out.moves h; omega)
            have Hnow := Lib.hid hnow
            have p5 : (((i2 : Int) % 2) == 1) = P := by rw [hP, Bool.eq_iff_iff]; simp; omega
            have p6 : (((k2 : Int) % 2) == 1) = Q := by rw [hQ, Bool.eq_iff_iff]; simp; omega
            have HW2 := Lib.hid (fun w' => HW.out.tells P Q w')
            have eg := HW.out.enters
            clear hP hQ HP HQ hnow
            cases now with
            | true =>
              cases is with
              | true =>
                have HST2 : Hid (MInv a b f i2 k2 op true o x) := Lib.hid (by have h := HST.out; simpa using h)
                clear HST
                go_wp2_with (first | (go_at_fn g; refine (HW2.out _).mono ?_; rintro e w' ⟨rfl, hw'⟩; (have hw' := hw'.symm); subst hw'; rw [← Hnow.out]) | fail)
                go_step3
                show (_ ∧ _) ∨ (_ ∧ _)
                refine .inl ⟨rfl, ⟨_, i2, k2, op, true, ⟨rfl, rfl, rfl, rfl, rfl, rfl, rfl, rfl, rfl, rfl, rfl, rfl, rfl⟩, rfl, o, x, HST2.out, ?_, Hown.out, Hm.out⟩, ?_⟩
                · have := Hol.out; have := Hlt.out; omega
                · have h1 := Hlt.out; have h2 := Hi2l.out; have h3 := Hk2l.out
                  simp only [intOf]
                  simp
                  omega
              | false =>
                have HST2 : Hid (MInv a b f i2 k2 x true o x) := Lib.hid (by have h := HST.out; simpa using h)
                clear HST
                go_wp2_with (first | (go_at_fn g; refine (HW2.out _).mono ?_; rintro e w' ⟨rfl, hw'⟩; (have hw' := hw'.symm); subst hw'; rw [← Hnow.out]) | fail)
                go_step3
                show (_ ∧ _) ∨ (_ ∧ _)
                refine .inl ⟨rfl, ⟨_, i2, k2, x, true, ⟨rfl, rfl, rfl, rfl, rfl, rfl, rfl, rfl, rfl, rfl, rfl, rfl, rfl⟩, rfl, o, x, HST2.out, ?_, Hown.out, Hm.out⟩, ?_⟩
                · have := Hol.out; have := Hlt.out; omega
                · have h1 := Hlt.out; have h2 := Hi2l.out; have h3 := Hk2l.out
                  simp only [intOf]
                  simp
                  omega
            | false =>
              cases is with
              | true =>
                have HST2 : Hid (MInv a b f i2 k2 x false (o ++ [⟨op, x⟩]) x) := Lib.hid (by have h := HST.out; simpa using h)
                clear HST
                go_wp2_with (first | (go_at_fn g; refine (HW2.out _).mono ?_; rintro e w' ⟨rfl, hw'⟩; (have hw' := hw'.symm); subst hw'; rw [← Hnow.out]) | ((with_reducible show wpList _ _ _ (⟨_, Op.call ⟨.builtin .append, _, _⟩, _, _, _, _⟩ :: _) _ _); refine halt ?_) | fail)
                refine wpList_append_row T_sp rfl _ _ rfl (w.heap.size) (.slice po o.length co) (o.length) (sps o) (fun _ => True) (.slice (some ⟨wr.heap.size, 0, none⟩) 1 1) (1) ([.int .i64 op, .int .i64 x]) rfl rfl (by have := Hm.out.size; simp; omega) (own_up Hown.out (Gou.Mod.alloc0 _ _)) (RowG.of_blk (Blk.new _ _ #[.int .i64 op, .int .i64 x]) 2 1 rfl _ trivial) (spC_one ⟨op, x⟩) (by have := Hol.out; have := Hi.out; have := Hk.out; have := Hna.out; have := Hnb.out; first | (unfold maxLen; omega) | omega) (by have := Hol.out; have := Hi.out; have := Hk.out; have := Hna.out; have := Hnb.out; first | (unfold maxLen; omega) | omega) ?_
                intro v5 w5 G5
                have Hm5 := Lib.hid (G5.mod0 (Hm.out.trans' (Gou.Mod.alloc0 _ _)) (own_ge Hown.out))
                have Hown5 := Lib.hid G5.own
                clear G5
                obtain ⟨p5', c5, rfl⟩ := Gou.ownsRow_form Hown5.out
                go_wp2_with fail
                go_step3
                show (_ ∧ _) ∨ (_ ∧ _)
                refine .inl ⟨rfl, ⟨_, i2, k2, x, false, ⟨rfl, rfl, rfl, rfl, rfl, rfl, rfl, rfl, rfl, rfl, rfl, rfl, rfl⟩, rfl, (o ++ [⟨op, x⟩]), x, HST2.out, ?_, (by have h := Hown5.out; rw [sps_app]; simpa [sps, spC] using h), Hm5.out⟩, ?_⟩
                · have := Hol.out; have := Hlt.out; simp; omega
                · have h1 := Hlt.out; have h2 := Hi2l.out; have h3 := Hk2l.out
                  simp only [intOf]
                  simp
                  omega
              | false =>
                have HST2 : Hid (MInv a b f i2 k2 op false o x) := Lib.hid (by have h := HST.out; simpa using h)
                clear HST
                go_wp2_with (first | (go_at_fn g; refine (HW2.out _).mono ?_; rintro e w' ⟨rfl, hw'⟩; (have hw' := hw'.symm); subst hw'; rw [← Hnow.out]) | fail)
                go_step3
                show (_ ∧ _) ∨ (_ ∧ _)
                refine .inl ⟨rfl, ⟨_, i2, k2, op, false, ⟨rfl, rfl, rfl, rfl, rfl, rfl, rfl, rfl, rfl, rfl, rfl, rfl, rfl⟩, rfl, o, x, HST2.out, ?_, Hown.out, Hm.out⟩, ?_⟩
                · have := Hol.out; have := Hlt.out; omega
                · have h1 := Hlt.out; have h2 := Hi2l.out; have h3 := Hk2l.out
                  simp only [intOf]
                  simp
                  omega
  case first =>
    obtain ⟨c, hM⟩ := MInv.start a b Hca.out Hcb.out HW.out.none
    have HM := Lib.hid hM
    clear hM
    go_wp2_with fail
    show Code.wp _ _ _ _ _
    go_wp2_with fail
    show Code.wp _ _ _ _ _
    go_wp2_with fail
    show Code.wp _ _ _ _ _
    go_wp2_with fail
    show MergeJ _ _ _ _ _ _ _ _ _ _ _
    exact ⟨_, 0, 0, 0, false, ⟨rfl, rfl, rfl, rfl, rfl, rfl, rfl, rfl, rfl, rfl, rfl, rfl, rfl⟩, rfl, [], c, HM.out, by simp, World.ownsRow_nil _ _ _ _, Gou.Mod.refl _ _⟩

end Go.Proofs.YtlpieeeeolfclaaGreatDoor

/- Regions: the edges in Y: gathered, sorted, each once. -/
namespace Go.Gou
open Go.RowKit Go.Reg

/-- The edges in Y of the rectangles that have points. -/
def edgeNums (l : List Rt) : List Int := l.flatMap fun r => if r.Some then [r.y0, r.y1] else []
theorem edgeNums_app (a b : List Rt) : edgeNums (a ++ b) = edgeNums a ++ edgeNums b := by simp [edgeNums]
theorem edgeNums_snoc (l : List Rt) (r : Rt) : edgeNums (l ++ [r]) = edgeNums l ++ (if r.Some then [r.y0, r.y1] else []) := by simp [edgeNums]
theorem edgeNums_len (l : List Rt) : (edgeNums l).length ≤ 2 * l.length := by
  induction l with
  | nil => simp [edgeNums]
  | cons r l ih =>
    rw [show edgeNums (r :: l) = (if r.Some then [r.y0, r.y1] else []) ++ edgeNums l from rfl, List.length_append, List.length_cons]
    split
    · simp only [List.length_cons, List.length_nil]; omega
    · simp only [List.length_nil]; omega
theorem edgeNums_y {l : List Rt} {ys : List Int} (h : ∀ y, y ∈ ys ↔ y ∈ edgeNums l) {a : List Rt} (ha : ∀ r ∈ a, r ∈ l) : YEdges ys a := by
  intro r hr hs
  have h1 : ∀ y, y ∈ (if r.Some then [r.y0, r.y1] else []) → y ∈ edgeNums l := fun y hy => List.mem_flatMap.2 ⟨r, ha r hr, hy⟩
  exact ⟨(h _).2 (h1 _ (by simp [hs])), (h _).2 (h1 _ (by simp [hs]))⟩

/-- Go's Compact, of numbers that rise. -/
theorem compact_mem {zs : List Int} (x : Int) : x ∈ Lib.compact zs ↔ x ∈ zs := by
  unfold Lib.compact Lib.compactUpTo
  simp only [List.mem_map, List.mem_filter, List.mem_range]
  constructor
  · rintro ⟨j, ⟨hj, _⟩, rfl⟩
    have : zs.toArray[j]! = zs[j] := by simp [hj]
    rw [this]
    exact List.getElem_mem hj
  · intro hx
    obtain ⟨j, hj, rfl⟩ := List.getElem_of_mem hx
    clear hx
    induction j with
    | zero => exact ⟨0, ⟨hj, by simp [Lib.keeps]⟩, by simp [hj]⟩
    | succ j ih =>
      by_cases he : zs[j + 1] = zs[j]
      · rw [he]
        exact ih (by omega)
      · refine ⟨j + 1, ⟨hj, ?_⟩, by simp [hj]⟩
        have hj' : j < zs.length := by omega
        simp [Lib.keeps, hj, hj', he]
theorem compact_up {zs : List Int} (h : Sorted zs) : Up (Lib.compact zs) := by
  unfold Lib.compact Lib.compactUpTo Up
  rw [List.pairwise_map]
  refine List.Pairwise.imp_of_mem ?_ (List.pairwise_lt_range.filter _)
  intro i j hi hj hij
  simp only [List.mem_filter, List.mem_range] at hi hj
  have ei : zs.toArray[i]! = zs[i] := by simp [hi.1]
  have ej : zs.toArray[j]! = zs[j] := by simp [hj.1]
  have hj' : j - 1 < zs.length := by omega
  have ek : zs.toArray[j - 1]! = zs[j - 1] := by simp [hj']
  have hk := hj.2
  unfold Lib.keeps at hk
  rw [ej, ek] at hk
  simp only [decide_eq_true_eq] at hk
  rw [ei, ej]
  have hs := List.pairwise_iff_getElem.1 h
  have h1 : zs[j - 1] ≤ zs[j] := hs (j - 1) j hj' hj.1 (by omega)
  have h2 : zs[i] ≤ zs[j - 1] := by
    rcases Nat.lt_or_ge i (j - 1) with h | h
    · exact hs i (j - 1) hi.1 hj' h
    · have : i = j - 1 := by omega
      subst this
      exact Int.le_refl _
  rcases hk with hk | hk <;> omega
theorem compact_len (zs : List Int) : (Lib.compact zs).length ≤ zs.length := by
  unfold Lib.compact Lib.compactUpTo
  rw [List.length_map]
  exact Nat.le_trans (List.length_filter_le _ _) (by simp)

theorem holds_ivs {w : World} {B g cap n : Nat} {e : TypeId} {xs : List Int} (hn : n = xs.length) (h : w.ownsRow B e 1 (.slice (some ⟨g, 0, none⟩) n cap) n (ivs xs)) : Sort.Holds (Value.int .i64) w g 0 xs.toArray := by
  subst hn
  intro j hj
  have hj' : j < xs.length := by simpa using hj
  rw [Nat.zero_add]
  refine ⟨?_, h.frozenAt j⟩
  rw [h.cellAt j (by omega)]
  simp [ivs, hj']

end Go.Gou
namespace Go.Proofs.YtlpieeeeolfclaaGreatDoor
open Go.RowKit Go.Gou Go.Reg Go.Shelf
set_option maxRecDepth 100000

/-- Sorted: the same numbers, rising; they may be left out in place. -/
theorem sortInt_any (w : World) (B : Nat) (v : Value) (xs : List Int) (hown : w.ownsRow B 3 1 v xs.length (ivs xs)) (hl : xs.length ≤ 400000000000) :
    Calls Tryz.prog 78 #[v] w fun e w' => e = .returned (.tuple #[]) ∧ Gou.Mod (fun k => v.ownBlock = some k) w w' ∧ ∃ ys : List Int, ys.Perm xs ∧ Sorted ys ∧
      ((v = .slice none 0 0 ∧ ys = []) ∨ ∃ g cap, v = .slice (some ⟨g, 0, none⟩) ys.length cap ∧ B ≤ g ∧ g < w'.heap.size ∧ ys.length ≤ cap ∧ Go.Sort.Holds (Value.int .i64) w' g 0 ys.toArray) := by
  have hlt := hown.lt
  rcases hown.2 with ⟨rfl, h0⟩ | ⟨g, cap, cur, rfl, hg, hh, hn, _⟩
  · have hl0 : xs = [] := List.length_eq_zero_iff.1 h0
    subst hl0
    refine (AnyG.slices_Sort_int_none sortInt none 0 w).mono ?_
    rintro e w' ⟨rfl, rfl⟩
    exact ⟨rfl, Gou.Mod.refl _ _, [], List.Perm.refl _, List.Pairwise.nil, .inl ⟨rfl, rfl⟩⟩
  · have hH := holds_ivs rfl hown
    refine (AnyG.slices_Sort_int sortInt g 0 cap xs w hH (hlt g rfl).2 (by omega)).mono ?_
    rintro e w' ⟨rfl, n, os, rfl⟩
    have hp : (xs.mergeSort fun x y => decide (x ≤ y)).Perm xs := List.mergeSort_perm _ _
    have hs : Sorted (xs.mergeSort fun x y => decide (x ≤ y)) := by
      have := List.pairwise_mergeSort (le := fun x y : Int => decide (x ≤ y)) (fun a b c h1 h2 => by simp at *; omega) (fun a b => by simp; omega) xs
      exact this.imp fun h => by simpa using h
    refine ⟨rfl, (mod_putRow _ w n g 0 _ os).imp (fun k _ h => by rw [h]; rfl), _, hp, hs, .inr ⟨g, cap, by rw [hp.length_eq], hg, ?_, by rw [hp.length_eq]; exact hn, ?_⟩⟩
    · exact Nat.lt_of_lt_of_le (hlt g rfl).2 (mod_putRow _ w n g 0 _ os).size
    · refine Go.Sort.holds_grow _ _ os g 0 _ (by rw [Go.Sort.size_putRow]; exact (hlt g rfl).2) ?_
      exact Go.Sort.holds_putRow _ _ g 0 xs.toArray _ (Go.Sort.holds_ahead _ w n g 0 _ hH) (by simp [hp.length_eq])

/-- Each number once. -/
theorem compInt_any (w : World) (g cap : Nat) (ys : List Int) (hH : Go.Sort.Holds (Value.int .i64) w g 0 ys.toArray) (hg : g < w.heap.size) (hcap : ys.length ≤ cap) (hl : ys.length ≤ 400000000000) :
    Calls Tryz.prog 79 #[.slice (some ⟨g, 0, none⟩) ys.length cap] w fun e w' => Gou.Mod (fun k => k = g) w w' ∧ e = .returned (.slice (some ⟨g, 0, none⟩) (Go.Lib.compact ys).length cap) ∧ IntsR (fun b => b = g) w' (.slice (some ⟨g, 0, none⟩) (Go.Lib.compact ys).length cap) (Go.Lib.compact ys) := by
  refine (AnyG.slices_Compact_int compInt g 0 cap ys w hH (by omega) hcap).mono ?_
  rintro e w' ⟨rfl, q, rfl⟩
  have hl := compact_len ys
  have hm := mod_putRow (Value.int .i64) w q g 0 (Go.Lib.compact ys ++ List.replicate (ys.length - (Go.Lib.compact ys).length) 0).toArray #[]
  rw [Go.Sort.grow_empty] at hm
  refine ⟨hm, rfl, ⟨by simp [ivs], _, cap, rfl, by omega, .inr ⟨g, 0, rfl, Nat.lt_of_lt_of_le hg hm.size, rfl, fun j u hu => ?_⟩⟩⟩
  have hj : j < (Go.Lib.compact ys).length := by
    have := (List.getElem?_eq_some_iff.1 hu).1
    simpa [ivs] using this
  have hH2 := Go.Sort.holds_putRow (Value.int .i64) (Go.Sort.ahead w q) g 0 ys.toArray (Go.Lib.compact ys ++ List.replicate (ys.length - (Go.Lib.compact ys).length) 0).toArray (Go.Sort.holds_ahead _ w q g 0 _ hH) (by simp; omega)
  rw [(hH2 j (by simp; omega)).1, ← hu]
  simp [ivs, hj, List.getElem_append_left, show j < (Go.Lib.compact ys).length + (ys.length - (Go.Lib.compact ys).length) from by omega]

/-- What the edges come to. -/
def EdgesP (w : World) (l : List Rt) (e : Ending) (w' : World) : Prop :=
  Gou.Mod (fun _ => False) w w' ∧ ∃ v ys, e = .returned v ∧ IntsR (fun b => w.heap.size ≤ b) w' v ys ∧ Up ys ∧ (∀ y, y ∈ ys ↔ y ∈ edgeNums l) ∧ ys.length ≤ 2 * l.length

def preOf (a b : List Rt) (j : Nat) : List Rt := if j = 0 then [] else if j = 1 then a else a ++ b

set_option maxHeartbeats 8000000 in
theorem edges_any (w : World) (M : Nat) (T : TypeId) (pa pb : Option Addr) (ca cb : Nat) (a b : List Rt) (hA : RtR (fun _ => True) w (.slice pa a.length ca) a) (hB : RtR (fun _ => True) w (.slice pb b.length cb) b)
    (hM : Blk w M T #[.slice pa a.length ca, .slice pb b.length cb]) (hna : a.length ≤ 4000000000) (hnb : b.length ≤ 4000000000) :
    Calls Tryz.prog 68 #[.slice (some ⟨M, 0, none⟩) 2 2] w (EdgesP w (a ++ b)) := by
  have HA := Lib.hid hA
  have HB := Lib.hid hB
  have HM := Lib.hid hM
  have Hn : Hid (a.length ≤ 4000000000 ∧ b.length ≤ 4000000000) := Lib.hid ⟨hna, hnb⟩
  clear hA hB hM hna hnb
  go_enter Tryz.func68, Tryz.ntmps68
  go_wp2_with fail
  go_loopw [3, 10] (fun vo vj wr => ∃ (j : Nat) (xs : List Int), vj = .int .i64 j ∧ j ≤ 2 ∧ xs = edgeNums (preOf a b j) ∧ wr.ownsRow w.heap.size 3 1 vo xs.length (ivs xs) ∧ Gou.Mod (fun _ => False) w wr) (fun _ vj _ => 2 - (intOf vj).toNat)
  case atStart => exact ⟨0, [], rfl, by omega, rfl, World.ownsRow_nil _ _ _ _, Gou.Mod.refl _ _⟩
  case round =>
    obtain ⟨j, xs, rfl, hj, hxs, hown, hm⟩ := hrel
    obtain ⟨po, co, rfl⟩ := Gou.ownsRow_form hown
    by_cases hj2 : j < 2
    · have e1 : decide ((j : Int) < 2) = true := decide_eq_true (by omega)
      have hj0 : (0 : Int) ≤ (j : Int) := by omega
      have hj1 : (j : Int) < 2 := by omega
      have wj : IntKind.i64.wrap ((j : Int) + 1) = (j : Int) + 1 := wrap_id (by omega) (by omega)
      obtain ⟨l, p, c, hcell, hl, hpre, hln⟩ : ∃ l p c, wr.cell? ⟨M, j, none⟩ = some (.slice p l.length c) ∧ RtR (fun _ => True) w (.slice p l.length c) l ∧ preOf a b (j + 1) = preOf a b j ++ l ∧ l.length ≤ 4000000000 ∧ (preOf a b j).length ≤ 4000000000 := by
        have hM2 := HM.out.mod0 hm
        rcases (by omega : j = 0 ∨ j = 1) with rfl | rfl
        · exact ⟨a, pa, ca, hM2.cell 0 rfl, HA.out, rfl, Hn.out.1, by simp [preOf]⟩
        · exact ⟨b, pb, cb, hM2.cell 1 rfl, HB.out, rfl, Hn.out.2, Hn.out.1⟩
      have HL := Lib.hid hl
      have Hpre := Lib.hid hpre
      have Hln := Lib.hid hln
      have Hj := Lib.hid (And.intro hj hj2)
      have Hxs := Lib.hid hxs
      have Hown0 := Lib.hid hown
      have Hm0 := Lib.hid hm
      clear hl hpre hln hxs hown hm
      go_wp2_with fail
      go_loopw [3, 16] (fun vo vi wx => ∃ (i : Nat) (ys : List Int), vi = .int .i64 i ∧ i ≤ l.length ∧ ys = edgeNums (preOf a b j ++ l.take i) ∧ wx.ownsRow w.heap.size 3 1 vo ys.length (ivs ys) ∧ Gou.Mod (fun _ => False) w wx) (fun _ vi _ => l.length - (intOf vi).toNat)
      case atStart => exact ⟨0, xs, rfl, by omega, by rw [Hxs.out]; simp, Hown0.out, Hm0.out⟩
      case round =>
        obtain ⟨i, xs, rfl, hi, hxs, hown, hm⟩ := hrel
        obtain ⟨po, co, rfl⟩ := Gou.ownsRow_form hown
        have Hxl : Hid (xs.length ≤ 2 * (4000000000 + i)) := Lib.hid (by rw [hxs]; have h1 := edgeNums_len (preOf a b j ++ l.take i); have h2 := Hln.out.2; simp only [List.length_append, List.length_take] at h1; omega)
        have Hxs := Lib.hid hxs
        have Hown := Lib.hid hown
        have Hm := Lib.hid hm
        clear hxs hown hm
        by_cases hil : i < l.length
        · have t1 : decide ((i : Int) < (l.length : Int)) = true := decide_eq_true (by omega)
          obtain ⟨-, bl, off, rfl, hb, -, hc⟩ := HL.out.cells (by omega)
          obtain ⟨k0, k1, k2, k3⟩ := hc i hil
          rw [← Hm.out.cell (p := ⟨bl, off + i * 4, none⟩) hb (fun h => h)] at k0
          rw [← Hm.out.cell (p := ⟨bl, off + i * 4 + 1, none⟩) hb (fun h => h)] at k1
          rw [← Hm.out.cell (p := ⟨bl, off + i * 4 + 2, none⟩) hb (fun h => h)] at k2
          rw [← Hm.out.cell (p := ⟨bl, off + i * 4 + 3, none⟩) hb (fun h => h)] at k3
          have hi1 : (i : Int) < (l.length : Int) := by omega
          have hi0 : (0 : Int) ≤ (i : Int) := by omega
          have wi : IntKind.i64.wrap ((i : Int) + 1) = (i : Int) + 1 := wrap_id (by omega) (by have := Hln.out; omega)
          have Hstep : Hid (edgeNums (preOf a b j ++ l.take (i + 1)) = xs ++ (if l[i].Some then [l[i].y0, l[i].y1] else [])) := Lib.hid (by rw [Hxs.out, List.take_succ_eq_append_getElem hil, ← List.append_assoc, edgeNums_snoc])
          have Hin := Lib.hid (And.intro hi hil)
          clear hc
          generalize l[i] = s at *
          obtain ⟨a', b', c', d⟩ := s
          simp only at k0 k1 k2 k3
          have Hem := Lib.hid (fun (w' : World) => rectEmpty_any ⟨a', b', c', d⟩ w')
          obtain ⟨q, hq⟩ : ∃ q, q = decide (Rt.Some ⟨a', b', c', d⟩) := ⟨_, rfl⟩
          have Hq := Lib.hid hq
          rw [← hq] at Hem
          clear hq
          go_wp2_with fail
          refine (Hem.out _).mono ?_
          rintro e w2 ⟨rfl, hb2⟩
          have HB2 := Lib.hid ((Blk.new _ 32 #[.int .i64 a', .int .i64 b', .int .i64 c', .int .i64 d]).up hb2)
          have Hm2 := Lib.hid ((Hm.out.trans' (Gou.Mod.alloc0 _ _)).trans' (Gou.Mod.of_below hb2 (fun _ => False)))
          have Hown2 := Lib.hid (own_up Hown.out ((Gou.Mod.alloc0 _ _).trans' (Gou.Mod.of_below hb2 (fun _ => False))))
          clear hb2 Hown Hm k0 k1 k2 k3
          obtain ⟨⟨k0, k1, k2, k3⟩, -⟩ := four HB2.out
          cases q with
          | true =>
            have Hs2 : Hid (edgeNums (preOf a b j ++ l.take (i + 1)) = xs ++ [b', d]) := Lib.hid (by rw [Hstep.out, if_pos (of_decide_eq_true Hq.out.symm)])
            clear Hstep Hq
            go_wp2_with (first | ((with_reducible show wpList _ _ _ (⟨_, Op.call ⟨.builtin .append, _, _⟩, _, _, _, _⟩ :: _) _ _); refine halt ?_) | fail)
            refine wpList_append_row T_int rfl _ _ rfl (w.heap.size) (.slice po xs.length co) (xs.length) (ivs xs) (fun _ => True) (.slice (some ⟨w2.heap.size, 0, none⟩) 2 2) (2) ([.int .i64 b', .int .i64 d]) rfl rfl (by have := Hm2.out.size; simp; omega) (own_up Hown2.out (Gou.Mod.alloc0 _ _)) (RowG.of_blk (Blk.new _ _ #[.int .i64 b', .int .i64 d]) 1 2 rfl _ trivial) (ivs_one [b', d]) (by have := Hxl.out; have := Hn.out; have := Hln.out; first | (unfold maxLen; omega) | omega) (by have := Hxl.out; have := Hn.out; have := Hln.out; first | (unfold maxLen; omega) | omega) ?_
            intro v5 w5 G5
            have Hm5 := Lib.hid (G5.mod0 (Hm2.out.trans' (Gou.Mod.alloc0 _ _)) (own_ge Hown2.out))
            have Hown5 := Lib.hid G5.own
            clear G5
            obtain ⟨p5, c5, rfl⟩ := Gou.ownsRow_form Hown5.out
            go_wp2_with fail
            go_roundw
            case rel =>
              refine ⟨i + 1, edgeNums (preOf a b j ++ l.take (i + 1)), by go_num, by have := Hin.out; omega, rfl, ?_, Hm5.out⟩
              rw [Hs2.out]; have h := Hown5.out; simpa [ivs] using h
            case measure => have := Hin.out; simp [intOf, wi]; omega
          | false =>
            have Hs2 : Hid (edgeNums (preOf a b j ++ l.take (i + 1)) = xs) := Lib.hid (by rw [Hstep.out, if_neg (of_decide_eq_false Hq.out.symm), List.append_nil])
            clear Hstep Hq
            go_wp2_with fail
            go_roundw
            case rel =>
              exact ⟨i + 1, edgeNums (preOf a b j ++ l.take (i + 1)), by go_num, by have := Hin.out; omega, rfl, by rw [Hs2.out]; exact Hown2.out, Hm2.out⟩
            case measure => have := Hin.out; simp [intOf, wi]; omega
        · obtain rfl : i = l.length := by omega
          have t1 : decide ((l.length : Int) < (l.length : Int)) = false := decide_eq_false (by omega)
          rw [List.take_length, ← Hpre.out] at Hxs
          go_wp2_with fail
          go_roundw
          case rel => exact ⟨j + 1, xs, by go_num, by have := Hj.out; omega, Hxs.out, Hown.out, Hm.out⟩
          case measure => have := Hj.out; simp [intOf, wj]; omega
    · obtain rfl : j = 2 := by omega
      have e1 : decide (((2 : Nat) : Int) < 2) = false := rfl
      have hxl : xs.length ≤ 2 * (a ++ b).length := by rw [hxs]; exact edgeNums_len _
      have Hxl : Hid (xs.length ≤ 2 * (a ++ b).length ∧ xs.length ≤ 16000000000) := Lib.hid ⟨hxl, by have := Hn.out; simp at hxl; omega⟩
      have Hxs : Hid (xs = edgeNums (a ++ b)) := Lib.hid hxs
      have Hown := Lib.hid hown
      have Hm := Lib.hid hm
      clear hxs hown hm hxl
      go_wp2_with fail
      refine (sortInt_any _ w.heap.size (.slice po xs.length co) xs Hown.out (by have := Hxl.out; omega)).mono ?_
      rintro e w2 ⟨rfl, hm2, ys, hp, hs, hv⟩
      have Hm2 := Lib.hid (Gou.Mod.own Hm.out Hown.out hm2)
      have Hys := Lib.hid (And.intro hp hs)
      have hyl := hp.length_eq
      clear hm2 hp hs
      rcases hv with ⟨hv, hy0⟩ | ⟨g, cap, hv, hgB, hg, hcap, hH⟩
      · simp only [Value.slice.injEq] at hv
        obtain ⟨rfl, hx0, rfl⟩ := hv
        subst hy0
        have hx0' : xs = [] := List.length_eq_zero_iff.1 hx0
        subst hx0'
        go_wp2_with fail
        refine (AnyG.slices_Compact_int_empty compInt none 0 _).mono ?_
        rintro e w3 ⟨rfl, rfl⟩
        go_wp2_with fail
        go_ret
        exact ⟨Hm2.out, _, [], rfl, RowG.nil _ _ _, List.Pairwise.nil, fun y => by rw [← Hxs.out], by simp⟩
      · simp only [Value.slice.injEq] at hv
        obtain ⟨rfl, hx0, rfl⟩ := hv
        have hcon := compInt_any w2 g co ys hH hg hcap (by have := Hxl.out; omega)
        rw [hyl] at hcon
        have Hg := Lib.hid hgB
        have Hyl := Lib.hid hyl
        clear hH hcap hx0 hyl
        go_wp2_with fail
        refine hcon.mono ?_
        clear hcon
        rintro e w3 ⟨hm3, rfl, hi3⟩
        have Hend : Hid (EdgesP w (a ++ b) (.returned (.slice (some ⟨g, 0, none⟩) (Go.Lib.compact ys).length co)) w3) := Lib.hid ⟨Hm2.out.trans hm3 (fun k hk h => by have := Hg.out; omega), _, Go.Lib.compact ys, rfl, hi3.imp (fun k _ h => by rw [h]; exact Hg.out), compact_up Hys.out.2,
          fun y => by rw [compact_mem, Hys.out.1.mem_iff, Hxs.out], Nat.le_trans (compact_len ys) (by have := Hxl.out; have := Hyl.out; omega)⟩
        clear hm3 hi3
        go_wp2_with fail
        go_ret
        exact Hend.out

end Go.Proofs.YtlpieeeeolfclaaGreatDoor

