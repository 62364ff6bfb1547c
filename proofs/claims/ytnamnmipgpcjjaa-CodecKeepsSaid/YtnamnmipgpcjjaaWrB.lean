/- Acts as bytes: numbers are written. -/
import Derived.Test.YtnamnmipgpcjjaaWrA
namespace Go.Gou
open Go.RowKit

theorem encNums_drop {xs : List Int} {i : Nat} (h : i < xs.length) : encNums (xs.drop i) = if -2147483648 ≤ xs.getD i 0 ∧ xs.getD i 0 < 2147483648 then (encNums (xs.drop (i + 1))).map (encNum (xs.getD i 0) ++ ·) else none := by
  rw [List.drop_eq_getElem_cons h, encNums]
  simp [List.getD, h]

end Go.Gou
namespace Go.Proofs.Ytnamnmipgpcjjaa
open Go.RowKit Go.Gou

abbrev Wr (w : World) (W : Nat) (bs : List Nat) (vs : Value) : Prop := WrAt w W 65 5 bs vs

/-- What a writing comes to. -/
def WrP (w : World) (W : Nat) (bs : List Nat) (vs : Value) (res : Option (List Nat)) (e : Ending) (w' : World) : Prop :=
  ∃ vs', WTo W w vs w' vs' ∧ match res with
    | some es => e = .returned (.tuple #[]) ∧ Wr w' W (bs ++ es) vs'
    | none => e = .panicked faultC

theorem info_u8 : (Try.prog.info? 5).map (fun i => (i.zero, i.size, i.bytes)) = some (some (.int .u8 0), 1, 1) := by kernel_rfl

set_option maxRecDepth 100000 in
set_option maxHeartbeats 2000000 in
theorem numbers_any (w : World) (W : Nat) (bs : List Nat) (vs v : Value) (xs : List Int) (h : Wr w W bs vs) (hx : IntsR (fun b => b ≠ W ∧ vs.ownBlock ≠ some b) w v xs) (hl : bs.length + 5 * xs.length ≤ 1000000000) :
    Calls Try.prog 30 #[.pointer (some ⟨W, 0, none⟩), v] w (WrP w W bs vs (encNums xs)) := by
  have H := Lib.hid h
  obtain ⟨i0, hi0, hz0, hz1, hz2⟩ := info_parts info_u8
  obtain ⟨p, c, rfl, hpc⟩ := RowG.form hx
  have Hx := Lib.hid hx
  have Hl := Lib.hid hl
  have hxl : xs.length ≤ 200000000 := by omega
  clear h hx hl hpc
  go_enter Try.func30, Try.ntmps30
  go_wp2_with fail
  go_loopw [9] (fun c wr => ∃ (i : Nat) (es : List Nat) (v1 : Value), c = .int .i64 i ∧ i ≤ xs.length ∧ encNums xs = (encNums (xs.drop i)).map (es ++ ·) ∧ es.length ≤ 5 * i ∧ Wr wr W (bs ++ es) v1 ∧ WTo W w vs wr v1) (fun c _ => xs.length - (intOf c).toNat)
  case atStart => exact ⟨0, [], vs, rfl, by omega, by simp, by simp, by simpa using H.out, WTo.refl _ _ _⟩
  case round =>
    obtain ⟨i, es, v1, rfl, hi, henc, hes, hw1, ht1⟩ := hrel
    have Henc := Lib.hid henc
    have Hes := Lib.hid hes
    have Hw1 := Lib.hid hw1
    have Ht1 := Lib.hid ht1
    clear henc hes hw1 ht1
    by_cases hil : i < xs.length
    · have e1 : decide ((i : Int) < (xs.length : Int)) = true := by simp; omega
      obtain ⟨-, b, o, rfl, hb, hG, hc⟩ := Hx.out.cells (by omega)
      have hxi := hc i hil
      rw [← Ht1.out.mod.cell (p := ⟨b, o + i, none⟩) hb (by rintro (e | e); exact hG.1 e; exact hG.2 e)] at hxi
      have hiI : (i : Int) < (xs.length : Int) := by omega
      have hi0I : (0 : Int) ≤ (i : Int) := by omega
      have Hd := Lib.hid (encNums_drop hil)
      clear hc hG
      generalize hxe : xs.getD i 0 = x at *
      clear hxe
      by_cases hlo : -2147483648 ≤ x
      · have e2 : decide (-2147483648 ≤ x) = true := by simp [hlo]
        by_cases hhi : x < 2147483648
        · have e3 : decide (x < 2147483648) = true := by simp [hhi]
          have hb1 : wrap64 (2 * x) = 2 * x := IntWalk.wrap64_in _ (by omega)
          have hrange : Hid (-2147483648 ≤ x ∧ x < 2147483648) := Lib.hid ⟨hlo, hhi⟩
          have hb2 : wrap64 (-(2 * x)) = -(2 * x) := IntWalk.wrap64_in _ (by omega)
          have hb3 : wrap64 (-(2 * x) - 1) = -(2 * x) - 1 := IntWalk.wrap64_in _ (by omega)
          have Hd2 := Lib.hid (Hd.out.trans (if_pos ⟨hlo, hhi⟩))
          have Hb1 := Lib.hid hb1
          have Hb2 := Lib.hid hb2
          have Hb3 := Lib.hid hb3
          clear hlo hhi hb1 hb2 hb3
          by_cases hneg : x < 0
          · have e4 : decide (x < 0) = true := by simp [hneg]
            have hz : -(2 * x) - 1 = (zig x : Int) := by unfold zig; rw [if_pos hneg]; omega
            have Hz := Lib.hid hz
            clear hneg hz
            go_wp2_with fail
            refine (must_true _).mono ?_
            rintro e w' ⟨rfl, rfl⟩
            go_wp2_with fail
            go_loopw [6] (fun c wr => ∃ (m : Nat) (e2 : List Nat) (v2 : Value), c = .int .i64 m ∧ m < 4294967296 ∧ encNum x = e2 ++ encM m ∧ Wr wr W (bs ++ es ++ e2) v2 ∧ WTo W w vs wr v2) (fun c _ => (intOf c).toNat)
            case atStart => exact ⟨zig x, [], v1, by first | rw [Hb1.out, Hb2.out, Hb3.out, Hz.out] | rw [Hb1.out, Hz.out], zig_lt hrange.out, rfl, by simpa using Hw1.out, Ht1.out⟩
            case round =>
              obtain ⟨m, e2, v2, rfl, hm, hen, hw2, ht2⟩ := hrel
              have he2 : e2.length ≤ 5 := by have := encNum_len hrange.out; rw [hen] at this; simp only [List.length_append] at this; omega
              obtain ⟨BS, hBS⟩ : ∃ BS, BS = bs ++ es ++ e2 := ⟨_, rfl⟩
              rw [← hBS] at hw2
              have Hbl : Hid (BS.length + 1 ≤ 2000000000) := Lib.hid (by have := Hes.out; have := Hl.out; rw [hBS]; simp only [List.length_append]; omega)
              obtain ⟨pv, cv, rfl⟩ := ownsRow_form hw2.own
              have Hw2 := Lib.hid hw2
              have Ht2 := Lib.hid ht2
              have Hen := Lib.hid hen
              have HBS := Lib.hid hBS
              have Hm := Lib.hid hm
              have cW := hw2.box.cell 0 rfl
              have fW := hw2.box.frozen 0
              have hWlt := Blk.lt hw2.box
              clear hw2 ht2 hen hBS he2
              by_cases hbig : m < 128
              · have e5 : decide (128 ≤ (m : Int)) = false := by simp; omega
                have Hown := Lib.hid (Hw2.out.own.alloc (.cells #[.int .u8 (m : Int)] 5))
                have hb6 : IntKind.u8.wrap (m : Int) = m := IntWalk.u8_in _ (by omega)
                go_wp2_with (first | (at_builtin; go_loud (refine wpList_append_lies _ rfl _ _ 44 rfl (W + 1) 5 i0 (.int .u8 0) 1 1 Try.underlying44 hi0 hz0 hz1 hz2 rfl (by omega) (.slice pv BS.length cv) BS.length (u8s BS) rfl Hown.out ⟨wr.heap.size, 0, none⟩ 1 1 [.int .u8 ((m : Int))] rfl rfl (cell_one_new _ _ _) (by simp [Value.oneCell']) (by omega) (by have := Hbl.out; unfold maxLen; omega) (by have := Hbl.out; omega) (by simp; omega) (wr.heap.size + 1) (by simp) ?_)) | fail)
                intro gg cp w4 hown4 hgrow4 hat4 hlt4
                obtain ⟨c4, f4⟩ := Hw2.out.mid hgrow4
                have hxv : ((m : Int) : Int) = ((m : Nat) : Int) := by omega
                rw [hxv] at hown4
                have hP := Hw2.out.push (x := m) rfl hown4 hgrow4 hat4
                have HP := Lib.hid hP
                clear hP hown4 hgrow4 hat4 hlt4 hxv
                go_wp2_with fail
                go_roundw
                case rel => exact ⟨i + 1, es ++ encNum x, _, by go_num, by omega, by
                    have h1 := Henc.out
                    rw [Hd2.out] at h1
                    rw [h1]
                    cases encNums (xs.drop (i + 1)) <;> simp, by have := Hes.out; have := encNum_len hrange.out; simp only [List.length_append]; omega, by
                    have h3 := Hen.out
                    rw [encM_lt hbig] at h3
                    have he : bs ++ (es ++ encNum x) = BS ++ [m] := by rw [h3, HBS.out]; simp
                    rw [he]
                    exact HP.out.1, Ht2.out.trans HP.out.2⟩
                case measure => simp [intOf]; omega
              · have e5 : decide (128 ≤ (m : Int)) = true := by simp; omega
                have Hown := Lib.hid (Hw2.out.own.alloc (.cells #[.int .u8 ((m : Int) % 128 + 128)] 5))
                go_wp2_with (first | (at_builtin; go_loud (refine wpList_append_lies _ rfl _ _ 44 rfl (W + 1) 5 i0 (.int .u8 0) 1 1 Try.underlying44 hi0 hz0 hz1 hz2 rfl (by omega) (.slice pv BS.length cv) BS.length (u8s BS) rfl Hown.out ⟨wr.heap.size, 0, none⟩ 1 1 [.int .u8 ((m : Int) % 128 + 128)] rfl rfl (cell_one_new _ _ _) (by simp [Value.oneCell']) (by omega) (by have := Hbl.out; unfold maxLen; omega) (by have := Hbl.out; omega) (by simp; omega) (wr.heap.size + 1) (by simp) ?_)) | fail)
                intro gg cp w4 hown4 hgrow4 hat4 hlt4
                obtain ⟨c4, f4⟩ := Hw2.out.mid hgrow4
                have hxv : ((m : Int) % 128 + 128 : Int) = ((m % 128 + 128 : Nat) : Int) := by omega
                rw [hxv] at hown4
                have hP := Hw2.out.push (x := m % 128 + 128) rfl hown4 hgrow4 hat4
                have HP := Lib.hid hP
                clear hP hown4 hgrow4 hat4 hlt4 hxv
                go_wp2_with fail
                go_roundw
                case rel => exact ⟨m / 128, e2 ++ [m % 128 + 128], _, by simp, by have := Hm.out; omega, by
                    have h3 := Hen.out
                    rw [encM_ge hbig] at h3
                    rw [h3]
                    simp, by
                    have he : bs ++ es ++ (e2 ++ [m % 128 + 128]) = BS ++ [m % 128 + 128] := by rw [HBS.out]; simp
                    rw [he]
                    exact HP.out.1, Ht2.out.trans HP.out.2⟩
                case measure => simp [intOf]; omega
          · have e4 : decide (x < 0) = false := by simp; omega
            have hz : 2 * x = (zig x : Int) := by unfold zig; rw [if_neg hneg]; omega
            have Hz := Lib.hid hz
            clear hneg hz
            go_wp2_with fail
            refine (must_true _).mono ?_
            rintro e w' ⟨rfl, rfl⟩
            go_wp2_with fail
            go_loopw [6] (fun c wr => ∃ (m : Nat) (e2 : List Nat) (v2 : Value), c = .int .i64 m ∧ m < 4294967296 ∧ encNum x = e2 ++ encM m ∧ Wr wr W (bs ++ es ++ e2) v2 ∧ WTo W w vs wr v2) (fun c _ => (intOf c).toNat)
            case atStart => exact ⟨zig x, [], v1, by first | rw [Hb1.out, Hb2.out, Hb3.out, Hz.out] | rw [Hb1.out, Hz.out], zig_lt hrange.out, rfl, by simpa using Hw1.out, Ht1.out⟩
            case round =>
              obtain ⟨m, e2, v2, rfl, hm, hen, hw2, ht2⟩ := hrel
              have he2 : e2.length ≤ 5 := by have := encNum_len hrange.out; rw [hen] at this; simp only [List.length_append] at this; omega
              obtain ⟨BS, hBS⟩ : ∃ BS, BS = bs ++ es ++ e2 := ⟨_, rfl⟩
              rw [← hBS] at hw2
              have Hbl : Hid (BS.length + 1 ≤ 2000000000) := Lib.hid (by have := Hes.out; have := Hl.out; rw [hBS]; simp only [List.length_append]; omega)
              obtain ⟨pv, cv, rfl⟩ := ownsRow_form hw2.own
              have Hw2 := Lib.hid hw2
              have Ht2 := Lib.hid ht2
              have Hen := Lib.hid hen
              have HBS := Lib.hid hBS
              have Hm := Lib.hid hm
              have cW := hw2.box.cell 0 rfl
              have fW := hw2.box.frozen 0
              have hWlt := Blk.lt hw2.box
              clear hw2 ht2 hen hBS he2
              by_cases hbig : m < 128
              · have e5 : decide (128 ≤ (m : Int)) = false := by simp; omega
                have Hown := Lib.hid (Hw2.out.own.alloc (.cells #[.int .u8 (m : Int)] 5))
                have hb6 : IntKind.u8.wrap (m : Int) = m := IntWalk.u8_in _ (by omega)
                go_wp2_with (first | (at_builtin; go_loud (refine wpList_append_lies _ rfl _ _ 44 rfl (W + 1) 5 i0 (.int .u8 0) 1 1 Try.underlying44 hi0 hz0 hz1 hz2 rfl (by omega) (.slice pv BS.length cv) BS.length (u8s BS) rfl Hown.out ⟨wr.heap.size, 0, none⟩ 1 1 [.int .u8 ((m : Int))] rfl rfl (cell_one_new _ _ _) (by simp [Value.oneCell']) (by omega) (by have := Hbl.out; unfold maxLen; omega) (by have := Hbl.out; omega) (by simp; omega) (wr.heap.size + 1) (by simp) ?_)) | fail)
                intro gg cp w4 hown4 hgrow4 hat4 hlt4
                obtain ⟨c4, f4⟩ := Hw2.out.mid hgrow4
                have hxv : ((m : Int) : Int) = ((m : Nat) : Int) := by omega
                rw [hxv] at hown4
                have hP := Hw2.out.push (x := m) rfl hown4 hgrow4 hat4
                have HP := Lib.hid hP
                clear hP hown4 hgrow4 hat4 hlt4 hxv
                go_wp2_with fail
                go_roundw
                case rel => exact ⟨i + 1, es ++ encNum x, _, by go_num, by omega, by
                    have h1 := Henc.out
                    rw [Hd2.out] at h1
                    rw [h1]
                    cases encNums (xs.drop (i + 1)) <;> simp, by have := Hes.out; have := encNum_len hrange.out; simp only [List.length_append]; omega, by
                    have h3 := Hen.out
                    rw [encM_lt hbig] at h3
                    have he : bs ++ (es ++ encNum x) = BS ++ [m] := by rw [h3, HBS.out]; simp
                    rw [he]
                    exact HP.out.1, Ht2.out.trans HP.out.2⟩
                case measure => simp [intOf]; omega
              · have e5 : decide (128 ≤ (m : Int)) = true := by simp; omega
                have Hown := Lib.hid (Hw2.out.own.alloc (.cells #[.int .u8 ((m : Int) % 128 + 128)] 5))
                go_wp2_with (first | (at_builtin; go_loud (refine wpList_append_lies _ rfl _ _ 44 rfl (W + 1) 5 i0 (.int .u8 0) 1 1 Try.underlying44 hi0 hz0 hz1 hz2 rfl (by omega) (.slice pv BS.length cv) BS.length (u8s BS) rfl Hown.out ⟨wr.heap.size, 0, none⟩ 1 1 [.int .u8 ((m : Int) % 128 + 128)] rfl rfl (cell_one_new _ _ _) (by simp [Value.oneCell']) (by omega) (by have := Hbl.out; unfold maxLen; omega) (by have := Hbl.out; omega) (by simp; omega) (wr.heap.size + 1) (by simp) ?_)) | fail)
                intro gg cp w4 hown4 hgrow4 hat4 hlt4
                obtain ⟨c4, f4⟩ := Hw2.out.mid hgrow4
                have hxv : ((m : Int) % 128 + 128 : Int) = ((m % 128 + 128 : Nat) : Int) := by omega
                rw [hxv] at hown4
                have hP := Hw2.out.push (x := m % 128 + 128) rfl hown4 hgrow4 hat4
                have HP := Lib.hid hP
                clear hP hown4 hgrow4 hat4 hlt4 hxv
                go_wp2_with fail
                go_roundw
                case rel => exact ⟨m / 128, e2 ++ [m % 128 + 128], _, by simp, by have := Hm.out; omega, by
                    have h3 := Hen.out
                    rw [encM_ge hbig] at h3
                    rw [h3]
                    simp, by
                    have he : bs ++ es ++ (e2 ++ [m % 128 + 128]) = BS ++ [m % 128 + 128] := by rw [HBS.out]; simp
                    rw [he]
                    exact HP.out.1, Ht2.out.trans HP.out.2⟩
                case measure => simp [intOf]; omega
        · have e3 : decide (x < 2147483648) = false := by simp; omega
          have hno : Hid (encNums xs = none) := Lib.hid (by have h1 := Henc.out; have h2 := Hd.out; rw [if_neg (fun h => hhi h.2)] at h2; rw [h1, h2]; rfl)
          go_wp2_with fail
          refine (must_false _).mono ?_
          rintro e w' ⟨rfl, rfl⟩
          exact ⟨rfl, _, Ht1.out, by rw [hno.out]⟩
      · have e2 : decide (-2147483648 ≤ x) = false := by simp; omega
        have hno : Hid (encNums xs = none) := Lib.hid (by have h1 := Henc.out; have h2 := Hd.out; rw [if_neg (fun h => hlo h.1)] at h2; rw [h1, h2]; rfl)
        go_wp2_with fail
        refine (must_false _).mono ?_
        rintro e w' ⟨rfl, rfl⟩
        exact ⟨rfl, _, Ht1.out, by rw [hno.out]⟩
    · obtain rfl : i = xs.length := by omega
      have e1 : decide ((xs.length : Int) < (xs.length : Int)) = false := by simp
      have hres : Hid (encNums xs = some es) := Lib.hid (by have h1 := Henc.out; rw [List.drop_length, encNums] at h1; simpa using h1)
      go_wp2_with fail
      go_end0
      exact ⟨_, Ht1.out, by rw [hres.out]; exact ⟨rfl, Hw1.out⟩⟩

end Go.Proofs.Ytnamnmipgpcjjaa
