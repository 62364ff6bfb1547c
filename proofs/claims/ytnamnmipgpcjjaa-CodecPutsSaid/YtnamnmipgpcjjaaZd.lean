/- Texts of the codec's proofs, laid together: WrA, WrB. -/
import Derived.Test.YtnamnmipgpcjjaaZc
set_option linter.unusedSimpArgs false
set_option linter.unusedVariables false
set_option linter.unusedSectionVars false
set_option linter.constructorNameAsVariable false

/- Acts as bytes: the writer's ground. -/
namespace Go.Gou
open Go.RowKit

abbrev u8s (bs : List Nat) : List Value := bs.map fun x => .int .u8 (x : Nat)

/-- A number's bytes. -/
def encM (m : Nat) : List Nat := if h : m < 128 then [m] else (m % 128 + 128) :: encM (m / 128)
termination_by m
decreasing_by omega

def zig (n : Int) : Nat := if n < 0 then (-(2 * n) - 1).toNat else (2 * n).toNat
def encNum (n : Int) : List Nat := encM (zig n)
def encNums : List Int → Option (List Nat)
  | [] => some []
  | x :: r => if -2147483648 ≤ x ∧ x < 2147483648 then (encNums r).map (encNum x ++ ·) else none

theorem encM_lt {m : Nat} (h : m < 128) : encM m = [m] := by rw [encM, dif_pos h]
theorem encM_ge {m : Nat} (h : ¬ m < 128) : encM m = (m % 128 + 128) :: encM (m / 128) := by rw [encM, dif_neg h]

theorem encM_len (k : Nat) : ∀ m, m < 128 ^ (k + 1) → (encM m).length ≤ k + 1 := by
  induction k with
  | zero => intro m hm; rw [encM_lt (by simpa using hm)]; simp
  | succ k ih =>
    intro m hm
    by_cases h : m < 128
    · rw [encM_lt h]; simp
    · rw [encM_ge h]
      have : m / 128 < 128 ^ (k + 1) := by
        rw [Nat.div_lt_iff_lt_mul (by omega)]
        rwa [← Nat.pow_succ]
      have := ih _ this
      simp only [List.length_cons]
      omega

theorem zig_lt {n : Int} (h : -2147483648 ≤ n ∧ n < 2147483648) : zig n < 4294967296 := by
  unfold zig
  split <;> omega

theorem encNum_len {n : Int} (h : -2147483648 ≤ n ∧ n < 2147483648) : (encNum n).length ≤ 5 := encM_len 4 _ (Nat.lt_trans (zig_lt h) (by decide))

theorem encNums_len {xs : List Int} {es : List Nat} (h : encNums xs = some es) : es.length ≤ 5 * xs.length := by
  induction xs generalizing es with
  | nil => simp only [encNums, Option.some.injEq] at h; subst h; simp
  | cons x r ih =>
    rw [encNums] at h
    split at h
    · rename_i hx
      obtain ⟨e2, h2, rfl⟩ := Option.map_eq_some_iff.1 h
      have := ih h2
      have := encNum_len hx
      simp only [List.length_append, List.length_cons]
      omega
    · cases h

/-- The writer's box W: what has been written. -/
structure WrAt (w : World) (W : Nat) (TW TB : TypeId) (bs : List Nat) (vs : Value) : Prop where
  box : Blk w W TW #[vs]
  own : w.ownsRow (W + 1) TB 1 vs bs.length (u8s bs)

/-- Of the blocks that were, only the writer's own have turned. -/
structure WTo (W : Nat) (w : World) (vs : Value) (w' : World) (vs' : Value) : Prop where
  mod : Mod (fun k => k = W ∨ vs.ownBlock = some k) w w'
  fresh : ∀ g, vs'.ownBlock = some g → vs.ownBlock = some g ∨ w.heap.size ≤ g

theorem WTo.refl (W : Nat) (w : World) (vs : Value) : WTo W w vs w vs := ⟨Mod.refl _ _, fun _ h => .inl h⟩

theorem WTo.trans {W : Nat} {w w1 w2 : World} {vs v1 v2 : Value} (h : WTo W w vs w1 v1) (k : WTo W w1 v1 w2 v2) : WTo W w vs w2 v2 := by
  refine ⟨h.mod.trans k.mod fun i hi hs => ?_, fun g hg => ?_⟩
  · rcases hs with hs | hs
    · exact .inl hs
    · rcases h.fresh i hs with h' | h'
      · exact .inr h'
      · omega
  · rcases k.fresh g hg with h' | h'
    · exact h.fresh g h'
    · exact .inr (Nat.le_trans h.mod.size h')

theorem WTo.other {W : Nat} {w w' : World} (h : Mod (fun _ => False) w w') (vs : Value) : WTo W w vs w' vs := ⟨h.imp fun _ _ h => h.elim, fun _ h => .inl h⟩

theorem WrAt.other {w w' : World} {W : Nat} {TW TB : TypeId} {bs : List Nat} {vs : Value} (h : WrAt w W TW TB bs vs) {S : Nat → Prop} (hm : Mod S w w') (hW : ¬ S W) (hS : ∀ k, vs.ownBlock = some k → ¬ S k) : WrAt w' W TW TB bs vs :=
  ⟨h.box.mod hm hW, ownsRow_mod h.own hm hS⟩

/-- A byte is appended. -/
theorem WrAt.push {w w2 : World} {W : Nat} {TW TB : TypeId} {bs : List Nat} {vs : Value} {x : Nat} {o : Obj} {gg cp t : Nat} (h : WrAt w W TW TB bs vs) (ht : t = bs.length + 1)
    (hown : w2.ownsRow (W + 1) TB 1 (.slice (some ⟨gg, 0, none⟩) t cp) t (u8s bs ++ [.int .u8 (x : Nat)])) (hgrow : (w.alloc o).grownBy w2 vs.ownBlock) (hat : vs.ownBlock = some gg ∨ gg = w.heap.size + 1) :
    WrAt (w2.setCell ⟨W, 0, none⟩ (.slice (some ⟨gg, 0, none⟩) t cp)) W TW TB (bs ++ [x]) (.slice (some ⟨gg, 0, none⟩) t cp) ∧ WTo W w vs (w2.setCell ⟨W, 0, none⟩ (.slice (some ⟨gg, 0, none⟩) t cp)) (.slice (some ⟨gg, 0, none⟩) t cp) := by
  subst ht
  have hlt : ∀ k, vs.ownBlock = some k → W + 1 ≤ k ∧ k < w.heap.size := fun k hk => h.own.lt k hk
  have hW := Blk.lt h.box
  have hm2 := Mod.of_grown hgrow
  have hb2 : Blk w2 W TW #[vs] := (h.box.mod (Mod.alloc (fun _ => False) w o) (fun h => h)).mod hm2 (fun e => by have := hlt _ e; omega)
  have hggW : gg ≠ W := by
    rcases hat with hat | hat
    · have := hlt _ hat; omega
    · omega
  refine ⟨⟨hb2.set 0 _, ?_⟩, ⟨?_, ?_⟩⟩
  · have e : u8s (bs ++ [x]) = u8s bs ++ [.int .u8 (x : Nat)] := by simp [u8s]
    rw [e]
    have h1 := ownsRow_mod (S := fun k => k = W) hown (Mod.setCell w2 ⟨W, 0, none⟩ (.slice (some ⟨gg, 0, none⟩) (bs.length + 1) cp)) (fun k hk => by simp only [Value.ownBlock, Option.some.injEq] at hk; subst hk; exact hggW)
    simpa using h1
  · exact (((Mod.alloc _ w o).trans' (hm2.imp fun _ _ h => .inr h)).trans' ((Mod.setCell w2 ⟨W, 0, none⟩ _).imp fun _ _ h => .inl h))
  · intro g hg
    simp only [Value.ownBlock, Option.some.injEq] at hg
    subst hg
    rcases hat with hat | hat
    · exact .inl hat
    · exact .inr (by omega)

/-- Between the append and the store. -/
theorem WrAt.mid {w w2 : World} {W : Nat} {TW TB : TypeId} {bs : List Nat} {vs : Value} {o : Obj} (h : WrAt w W TW TB bs vs) (hgrow : (w.alloc o).grownBy w2 vs.ownBlock) : w2.cell? ⟨W, 0, none⟩ = some vs ∧ w2.frozen? ⟨W, 0, none⟩ = false := by
  have hb2 : Blk w2 W TW #[vs] := (h.box.mod (Mod.alloc (fun _ => False) w o) (fun h => h)).mod (Mod.of_grown hgrow) (fun e => by have := (h.own.lt _ e).1; omega)
  exact ⟨hb2.cell 0 rfl, hb2.frozen 0⟩

theorem IntsR.cells {G : Nat → Prop} {w : World} {p : Option Addr} {c n : Nat} {xs : List Int} (h : IntsR G w (.slice p n c) xs) (h0 : 0 < xs.length) :
    n = xs.length ∧ ∃ b o, p = some ⟨b, o, none⟩ ∧ b < w.heap.size ∧ G b ∧ ∀ i, i < xs.length → w.cell? ⟨b, o + i, none⟩ = some (.int .i64 (xs.getD i 0)) := by
  obtain ⟨hl, p', c', e, hcap, h⟩ := h
  simp only [Value.slice.injEq] at e
  obtain ⟨rfl, rfl, rfl⟩ := e
  rcases h with h | ⟨b, o, rfl, hb, hG, hc⟩
  · omega
  · refine ⟨rfl, b, o, rfl, hb, hG, fun i hi => hc i _ ?_⟩
    simp [ivs, List.getD, hi]

end Go.Gou

/- Acts as bytes: numbers are written. -/
namespace Go.Gou
open Go.RowKit

theorem encNums_drop {xs : List Int} {i : Nat} (h : i < xs.length) : encNums (xs.drop i) = if -2147483648 ≤ xs.getD i 0 ∧ xs.getD i 0 < 2147483648 then (encNums (xs.drop (i + 1))).map (encNum (xs.getD i 0) ++ ·) else none := by
  rw [List.drop_eq_getElem_cons h, encNums]
  simp [List.getD, h]

end Go.Gou
namespace Go.Proofs.Ytnamnmipgpcjjaa
open Go.RowKit Go.Gou

abbrev Wr (w : World) (W : Nat) (bs : List Nat) (vs : Value) : Prop := WrAt w W 65 5 bs vs

/-- What a writing comes to. -/
def WrP (w : World) (W : Nat) (bs : List Nat) (vs : Value) (res : Option (List Nat)) (e : Ending) (w' : World) : Prop :=
  ∃ vs', WTo W w vs w' vs' ∧ match res with
    | some es => e = .returned (.tuple #[]) ∧ Wr w' W (bs ++ es) vs'
    | none => e = .panicked faultC

theorem info_u8 : (Try.prog.info? 5).map (fun i => (i.zero, i.size, i.bytes)) = some (some (.int .u8 0), 1, 1) := by kernel_rfl

set_option maxRecDepth 100000 in
set_option maxHeartbeats 2000000 in
theorem numbers_any (w : World) (W : Nat) (bs : List Nat) (vs v : Value) (xs : List Int) (h : Wr w W bs vs) (hx : IntsR (fun b => b ≠ W ∧ vs.ownBlock ≠ some b) w v xs) (hl : bs.length + 5 * xs.length ≤ 1000000000) :
    Calls Try.prog 30 #[.pointer (some ⟨W, 0, none⟩), v] w (WrP w W bs vs (encNums xs)) := by
  have H := Lib.hid h
  obtain ⟨i0, hi0, hz0, hz1, hz2⟩ := info_parts info_u8
  obtain ⟨p, c, rfl, hpc⟩ := RowG.form hx
  have Hx := Lib.hid hx
  have Hl := Lib.hid hl
  have hxl : xs.length ≤ 200000000 := by omega
  clear h hx hl hpc
  go_enter Try.func30, Try.ntmps30
  go_wp2_with fail
  go_loopw [9] (fun c wr => ∃ (i : Nat) (es : List Nat) (v1 : Value), c = .int .i64 i ∧ i ≤ xs.length ∧ encNums xs = (encNums (xs.drop i)).map (es ++ ·) ∧ es.length ≤ 5 * i ∧ Wr wr W (bs ++ es) v1 ∧ WTo W w vs wr v1) (fun c _ => xs.length - (intOf c).toNat)
  case atStart => exact ⟨0, [], vs, rfl, by omega, by simp, by simp, by simpa using H.out, WTo.refl _ _ _⟩
  case round =>
    obtain ⟨i, es, v1, rfl, hi, henc, hes, hw1, ht1⟩ := hrel
    have Henc := Lib.hid henc
    have Hes := Lib.hid hes
    have Hw1 := Lib.hid hw1
    have Ht1 := Lib.hid ht1
    clear henc hes hw1 ht1
    by_cases hil : i < xs.length
    · have e1 : decide ((i : Int) < (xs.length : Int)) = true := by simp; omega
      obtain ⟨-, b, o, rfl, hb, hG, hc⟩ := Hx.out.cells (by omega)
      have hxi := hc i hil
      rw [← Ht1.out.mod.cell (p := ⟨b, o + i, none⟩) hb (by rintro (e | e); exact hG.1 e; exact hG.2 e)] at hxi
      have hiI : (i : Int) < (xs.length : Int) := by omega
      have hi0I : (0 : Int) ≤ (i : Int) := by omega
      have Hd := Lib.hid (encNums_drop hil)
      clear hc hG
      generalize hxe : xs.getD i 0 = x at *
      clear hxe
      by_cases hlo : -2147483648 ≤ x
      · have e2 : decide (-2147483648 ≤ x) = true := by simp [hlo]
        by_cases hhi : x < 2147483648
        · have e3 : decide (x < 2147483648) = true := by simp [hhi]
          have hb1 : wrap64 (2 * x) = 2 * x := IntWalk.wrap64_in _ (by omega)
          have hrange : Hid (-2147483648 ≤ x ∧ x < 2147483648) := Lib.hid ⟨hlo, hhi⟩
          have hb2 : wrap64 (-(2 * x)) = -(2 * x) := IntWalk.wrap64_in _ (by omega)
          have hb3 : wrap64 (-(2 * x) - 1) = -(2 * x) - 1 := IntWalk.wrap64_in _ (by omega)
          have Hd2 := Lib.hid (Hd.out.trans (if_pos ⟨hlo, hhi⟩))
          have Hb1 := Lib.hid hb1
          have Hb2 := Lib.hid hb2
          have Hb3 := Lib.hid hb3
          clear hlo hhi hb1 hb2 hb3
          by_cases hneg : x < 0
          · have e4 : decide (x < 0) = true := by simp [hneg]
            have hz : -(2 * x) - 1 = (zig x : Int) := by unfold zig; rw [if_pos hneg]; omega
            have Hz := Lib.hid hz
            clear hneg hz
            go_wp2_with fail
            refine (must_true _).mono ?_
            rintro e w' ⟨rfl, rfl⟩
            go_wp2_with fail
            go_loopw [6] (fun c wr => ∃ (m : Nat) (e2 : List Nat) (v2 : Value), c = .int .i64 m ∧ m < 4294967296 ∧ encNum x = e2 ++ encM m ∧ Wr wr W (bs ++ es ++ e2) v2 ∧ WTo W w vs wr v2) (fun c _ => (intOf c).toNat)
            case atStart => exact ⟨zig x, [], v1, by first | rw [Hb1.out, Hb2.out, Hb3.out, Hz.out] | rw [Hb1.out, Hz.out], zig_lt hrange.out, rfl, by simpa using Hw1.out, Ht1.out⟩
            case round =>
              obtain ⟨m, e2, v2, rfl, hm, hen, hw2, ht2⟩ := hrel
              have he2 : e2.length ≤ 5 := by have := encNum_len hrange.out; rw [hen] at this; simp only [List.length_append] at this; omega
              obtain ⟨BS, hBS⟩ : ∃ BS, BS = bs ++ es ++ e2 := ⟨_, rfl⟩
              rw [← hBS] at hw2
              have Hbl : Hid (BS.length + 1 ≤ 2000000000) := Lib.hid (by have := Hes.out; have := Hl.out; rw [hBS]; simp only [List.length_append]; omega)
              obtain ⟨pv, cv, rfl⟩ := ownsRow_form hw2.own
              have Hw2 := Lib.hid hw2
              have Ht2 := Lib.hid ht2
              have Hen := Lib.hid hen
              have HBS := Lib.hid hBS
              have Hm := Lib.hid hm
              have cW := hw2.box.cell 0 rfl
              have fW := hw2.box.frozen 0
              have hWlt := Blk.lt hw2.box
              clear hw2 ht2 hen hBS he2
              by_cases hbig : m < 128
              · have e5 : decide (128 ≤ (m : Int)) = false := by simp; omega
                have Hown := Lib.hid (Hw2.out.own.alloc (.cells #[.int .u8 (m : Int)] 5))
                have hb6 : IntKind.u8.wrap (m : Int) = m := IntWalk.u8_in _ (by omega)
                go_wp2_with (first | (at_builtin; go_loud (refine wpList_append_lies _ rfl _ _ 44 rfl (W + 1) 5 i0 (.int .u8 0) 1 1 Try.underlying44 hi0 hz0 hz1 hz2 rfl (by omega) (.slice pv BS.length cv) BS.length (u8s BS) rfl Hown.out ⟨wr.heap.size, 0, none⟩ 1 1 [.int .u8 ((m : Int))] rfl rfl (cell_one_new _ _ _) (by simp [Value.oneCell']) (by omega) (by have := Hbl.out; unfold maxLen; omega) (by have := Hbl.out; omega) (by simp; omega) (wr.heap.size + 1) (by simp) ?_)) | fail)
                intro gg cp w4 hown4 hgrow4 hat4 hlt4
                obtain ⟨c4, f4⟩ := Hw2.out.mid hgrow4
                have hxv : ((m : Int) : Int) = ((m : Nat) : Int) := by omega
                rw [hxv] at hown4
                have hP := Hw2.out.push (x := m) rfl hown4 hgrow4 hat4
                have HP := Lib.hid hP
                clear hP hown4 hgrow4 hat4 hlt4 hxv
                go_wp2_with fail
                go_roundw
                case rel => exact ⟨i + 1, es ++ encNum x, _, by go_num, by omega, by
                    have h1 := Henc.out
                    rw [Hd2.out] at h1
                    rw [h1]
                    cases encNums (xs.drop (i + 1)) <;> simp, by have := Hes.out; have := encNum_len hrange.out; simp only [List.length_append]; omega, by
                    have h3 := Hen.out
                    rw [encM_lt hbig] at h3
                    have he : bs ++ (es ++ encNum x) = BS ++ [m] := by rw [h3, HBS.out]; simp
                    rw [he]
                    exact HP.out.1, Ht2.out.trans HP.out.2⟩
                case measure => simp [intOf]; omega
              · have e5 : decide (128 ≤ (m : Int)) = true := by simp; omega
                have Hown := Lib.hid (Hw2.out.own.alloc (.cells #[.int .u8 ((m : Int) % 128 + 128)] 5))
                go_wp2_with (first | (at_builtin; go_loud (refine wpList_append_lies _ rfl _ _ 44 rfl (W + 1) 5 i0 (.int .u8 0) 1 1 Try.underlying44 hi0 hz0 hz1 hz2 rfl (by omega) (.slice pv BS.length cv) BS.length (u8s BS) rfl Hown.out ⟨wr.heap.size, 0, none⟩ 1 1 [.int .u8 ((m : Int) % 128 + 128)] rfl rfl (cell_one_new _ _ _) (by simp [Value.oneCell']) (by omega) (by have := Hbl.out; unfold maxLen; omega) (by have := Hbl.out; omega) (by simp; omega) (wr.heap.size + 1) (by simp) ?_)) | fail)
                intro gg cp w4 hown4 hgrow4 hat4 hlt4
                obtain ⟨c4, f4⟩ := Hw2.out.mid hgrow4
                have hxv : ((m : Int) % 128 + 128 : Int) = ((m % 128 + 128 : Nat) : Int) := by omega
                rw [hxv] at hown4
                have hP := Hw2.out.push (x := m % 128 + 128) rfl hown4 hgrow4 hat4
                have HP := Lib.hid hP
                clear hP hown4 hgrow4 hat4 hlt4 hxv
                go_wp2_with fail
                go_roundw
                case rel => exact ⟨m / 128, e2 ++ [m % 128 + 128], _, by simp, by have := Hm.out; omega, by
                    have h3 := Hen.out
                    rw [encM_ge hbig] at h3
                    rw [h3]
                    simp, by
                    have he : bs ++ es ++ (e2 ++ [m % 128 + 128]) = BS ++ [m % 128 + 128] := by rw [HBS.out]; simp
                    rw [he]
                    exact HP.out.1, Ht2.out.trans HP.out.2⟩
                case measure => simp [intOf]; omega
          · have e4 : decide (x < 0) = false := by simp; omega
            have hz : 2 * x = (zig x : Int) := by unfold zig; rw [if_neg hneg]; omega
            have Hz := Lib.hid hz
            clear hneg hz
            go_wp2_with fail
            refine (must_true _).mono ?_
            rintro e w' ⟨rfl, rfl⟩
            go_wp2_with fail
            go_loopw [6] (fun c wr => ∃ (m : Nat) (e2 : List Nat) (v2 : Value), c = .int .i64 m ∧ m < 4294967296 ∧ encNum x = e2 ++ encM m ∧ Wr wr W (bs ++ es ++ e2) v2 ∧ WTo W w vs wr v2) (fun c _ => (intOf c).toNat)
            case atStart => exact ⟨zig x, [], v1, by first | rw [Hb1.out, Hb2.out, Hb3.out, Hz.out] | rw [Hb1.out, Hz.out], zig_lt hrange.out, rfl, by simpa using Hw1.out, Ht1.out⟩
            case round =>
              obtain ⟨m, e2, v2, rfl, hm, hen, hw2, ht2⟩ := hrel
              have he2 : e2.length ≤ 5 := by have := encNum_len hrange.out; rw [hen] at this; simp only [List.length_append] at this; omega
              obtain ⟨BS, hBS⟩ : ∃ BS, BS = bs ++ es ++ e2 := ⟨_, rfl⟩
              rw [← hBS] at hw2
              have Hbl : Hid (BS.length + 1 ≤ 2000000000) := Lib.hid (by have := Hes.out; have := Hl.out; rw [hBS]; simp only [List.length_append]; omega)
              obtain ⟨pv, cv, rfl⟩ := ownsRow_form hw2.own
              have Hw2 := Lib.hid hw2
              have Ht2 := Lib.hid ht2
              have Hen := Lib.hid hen
              have HBS := Lib.hid hBS
              have Hm := Lib.hid hm
              have cW := hw2.box.cell 0 rfl
              have fW := hw2.box.frozen 0
              have hWlt := Blk.lt hw2.box
              clear hw2 ht2 hen hBS he2
              by_cases hbig : m < 128
              · have e5 : decide (128 ≤ (m : Int)) = false := by simp; omega
                have Hown := Lib.hid (Hw2.out.own.alloc (.cells #[.int .u8 (m : Int)] 5))
                have hb6 : IntKind.u8.wrap (m : Int) = m := IntWalk.u8_in _ (by omega)
                go_wp2_with (first | (at_builtin; go_loud (refine wpList_append_lies _ rfl _ _ 44 rfl (W + 1) 5 i0 (.int .u8 0) 1 1 Try.underlying44 hi0 hz0 hz1 hz2 rfl (by omega) (.slice pv BS.length cv) BS.length (u8s BS) rfl Hown.out ⟨wr.heap.size, 0, none⟩ 1 1 [.int .u8 ((m : Int))] rfl rfl (cell_one_new _ _ _) (by simp [Value.oneCell']) (by omega) (by have := Hbl.out; unfold maxLen; omega) (by have := Hbl.out; omega) (by simp; omega) (wr.heap.size + 1) (by simp) ?_)) | fail)
                intro gg cp w4 hown4 hgrow4 hat4 hlt4
                obtain ⟨c4, f4⟩ := Hw2.out.mid hgrow4
                have hxv : ((m : Int) : Int) = ((m : Nat) : Int) := by omega
                rw [hxv] at hown4
                have hP := Hw2.out.push (x := m) rfl hown4 hgrow4 hat4
                have HP := Lib.hid hP
                clear hP hown4 hgrow4 hat4 hlt4 hxv
                go_wp2_with fail
                go_roundw
                case rel => exact ⟨i + 1, es ++ encNum x, _, by go_num, by omega, by
                    have h1 := Henc.out
                    rw [Hd2.out] at h1
                    rw [h1]
                    cases encNums (xs.drop (i + 1)) <;> simp, by have := Hes.out; have := encNum_len hrange.out; simp only [List.length_append]; omega, by
                    have h3 := Hen.out
                    rw [encM_lt hbig] at h3
                    have he : bs ++ (es ++ encNum x) = BS ++ [m] := by rw [h3, HBS.out]; simp
                    rw [he]
                    exact HP.out.1, Ht2.out.trans HP.out.2⟩
                case measure => simp [intOf]; omega
              · have e5 : decide (128 ≤ (m : Int)) = true := by simp; omega
                have Hown := Lib.hid (Hw2.out.own.alloc (.cells #[.int .u8 ((m : Int) % 128 + 128)] 5))
                go_wp2_with (first | (at_builtin; go_loud (refine wpList_append_lies _ rfl _ _ 44 rfl (W + 1) 5 i0 (.int .u8 0) 1 1 Try.underlying44 hi0 hz0 hz1 hz2 rfl (by omega) (.slice pv BS.length cv) BS.length (u8s BS) rfl Hown.out ⟨wr.heap.size, 0, none⟩ 1 1 [.int .u8 ((m : Int) % 128 + 128)] rfl rfl (cell_one_new _ _ _) (by simp [Value.oneCell']) (by omega) (by have := Hbl.out; unfold maxLen; omega) (by have := Hbl.out; omega) (by simp; omega) (wr.heap.size + 1) (by simp) ?_)) | fail)
                intro gg cp w4 hown4 hgrow4 hat4 hlt4
                obtain ⟨c4, f4⟩ := Hw2.out.mid hgrow4
                have hxv : ((m : Int) % 128 + 128 : Int) = ((m % 128 + 128 : Nat) : Int) := by omega
                rw [hxv] at hown4
                have hP := Hw2.out.push (x := m % 128 + 128) rfl hown4 hgrow4 hat4
                have HP := Lib.hid hP
                clear hP hown4 hgrow4 hat4 hlt4 hxv
                go_wp2_with fail
                go_roundw
                case rel => exact ⟨m / 128, e2 ++ [m % 128 + 128], _, by simp, by have := Hm.out; omega, by
                    have h3 := Hen.out
                    rw [encM_ge hbig] at h3
                    rw [h3]
                    simp, by
                    have he : bs ++ es ++ (e2 ++ [m % 128 + 128]) = BS ++ [m % 128 + 128] := by rw [HBS.out]; simp
                    rw [he]
                    exact HP.out.1, Ht2.out.trans HP.out.2⟩
                case measure => simp [intOf]; omega
        · have e3 : decide (x < 2147483648) = false := by simp; omega
          have hno : Hid (encNums xs = none) := Lib.hid (by have h1 := Henc.out; have h2 := Hd.out; rw [if_neg (fun h => hhi h.2)] at h2; rw [h1, h2]; rfl)
          go_wp2_with fail
          refine (must_false _).mono ?_
          rintro e w' ⟨rfl, rfl⟩
          exact ⟨rfl, _, Ht1.out, by rw [hno.out]⟩
      · have e2 : decide (-2147483648 ≤ x) = false := by simp; omega
        have hno : Hid (encNums xs = none) := Lib.hid (by have h1 := Henc.out; have h2 := Hd.out; rw [if_neg (fun h => hlo h.1)] at h2; rw [h1, h2]; rfl)
        go_wp2_with fail
        refine (must_false _).mono ?_
        rintro e w' ⟨rfl, rfl⟩
        exact ⟨rfl, _, Ht1.out, by rw [hno.out]⟩
    · obtain rfl : i = xs.length := by omega
      have e1 : decide ((xs.length : Int) < (xs.length : Int)) = false := by simp
      have hres : Hid (encNums xs = some es) := Lib.hid (by have h1 := Henc.out; rw [List.drop_length, encNums] at h1; simpa using h1)
      go_wp2_with fail
      go_end0
      exact ⟨_, Ht1.out, by rw [hres.out]; exact ⟨rfl, Hw1.out⟩⟩

end Go.Proofs.Ytnamnmipgpcjjaa

