/- Texts of the codec's proofs, laid together: RnP. -/
import Derived.Test.YtnamnmipgpcjjaaYRnE
set_option linter.unusedSimpArgs false
set_option linter.unusedVariables false
set_option linter.unusedSectionVars false
set_option linter.constructorNameAsVariable false

/- Acts as bytes: the document's heads of acts, in plain numbers. -/
namespace Go.Gou
open Go.RowKit

theorem id_two (bs : List Nat) (n : Nat) : idAt bs n = (timesAt (numAt bs) n 2).bind fun p => match p.1 with | [a, b] => some ((a, b), p.2) | _ => none := by
  rcases h1 : numAt bs n with _ | ⟨a, m1⟩
  · simp [idAt, timesAt, h1]
  rcases h2 : numAt bs m1 with _ | ⟨b, m2⟩
  · simp [idAt, timesAt, h1, h2]
  simp [idAt, timesAt, h1, h2]

theorem opr1_none {bs : List Nat} {n : Nat} (h : timesAt (numAt bs) n 3 = none) : oprAt bs n 1 = none := by
  unfold oprAt
  rcases h1 : numAt bs n with _ | ⟨a, m1⟩
  · simp [idAt, h1]
  rcases h2 : numAt bs m1 with _ | ⟨b, m2⟩
  · simp [idAt, h1, h2]
  rcases h3 : numAt bs m2 with _ | ⟨c, m3⟩
  · simp [idAt, h1, h2, h3]
  simp [timesAt, h1, h2, h3] at h
theorem opr1 {bs : List Nat} {n q : Nat} {a b c : Int} (h : timesAt (numAt bs) n 3 = some ([a, b, c], q)) : oprAt bs n 1 = (lookAt bs q 1).bind fun l => some (⟨1, (0, 0), (a, b), c, l.1⟩, l.2) := by
  unfold oprAt
  rcases h1 : numAt bs n with _ | ⟨a, m1⟩
  · simp [timesAt, h1] at h
  rcases h2 : numAt bs m1 with _ | ⟨b, m2⟩
  · simp [timesAt, h1, h2] at h
  rcases h3 : numAt bs m2 with _ | ⟨c, m3⟩
  · simp [timesAt, h1, h2, h3] at h
  simp [timesAt, h1, h2, h3] at h
  obtain ⟨⟨rfl, rfl, rfl⟩, rfl⟩ := h
  simp [idAt, h1, h2, h3]
theorem opr4_none {bs : List Nat} {n : Nat} (h : timesAt (numAt bs) n 3 = none) : oprAt bs n 4 = none := by
  unfold oprAt
  rcases h1 : numAt bs n with _ | ⟨a, m1⟩
  · simp [idAt, h1]
  rcases h2 : numAt bs m1 with _ | ⟨b, m2⟩
  · simp [idAt, h1, h2]
  rcases h3 : numAt bs m2 with _ | ⟨c, m3⟩
  · simp [idAt, h1, h2, h3]
  simp [timesAt, h1, h2, h3] at h
theorem opr4 {bs : List Nat} {n q : Nat} {a b c : Int} (h : timesAt (numAt bs) n 3 = some ([a, b, c], q)) : oprAt bs n 4 = (lookAt bs q 4).bind fun l => some (⟨4, (a, b), (0, 0), c, l.1⟩, l.2) := by
  unfold oprAt
  rcases h1 : numAt bs n with _ | ⟨a, m1⟩
  · simp [timesAt, h1] at h
  rcases h2 : numAt bs m1 with _ | ⟨b, m2⟩
  · simp [timesAt, h1, h2] at h
  rcases h3 : numAt bs m2 with _ | ⟨c, m3⟩
  · simp [timesAt, h1, h2, h3] at h
  simp [timesAt, h1, h2, h3] at h
  obtain ⟨⟨rfl, rfl, rfl⟩, rfl⟩ := h
  simp [idAt, h1, h2, h3]
theorem opr3_none {bs : List Nat} {n : Nat} (h : timesAt (numAt bs) n 5 = none) : oprAt bs n 3 = none := by
  unfold oprAt
  rcases h1 : numAt bs n with _ | ⟨a, m1⟩
  · simp [idAt, h1]
  rcases h2 : numAt bs m1 with _ | ⟨b, m2⟩
  · simp [idAt, h1, h2]
  rcases h3 : numAt bs m2 with _ | ⟨c, m3⟩
  · simp [idAt, h1, h2, h3]
  rcases h4 : numAt bs m3 with _ | ⟨d, m4⟩
  · simp [idAt, h1, h2, h3, h4]
  rcases h5 : numAt bs m4 with _ | ⟨e, m5⟩
  · simp [idAt, h1, h2, h3, h4, h5]
  simp [timesAt, h1, h2, h3, h4, h5] at h
theorem opr3 {bs : List Nat} {n q : Nat} {a b c d e : Int} (h : timesAt (numAt bs) n 5 = some ([a, b, c, d, e], q)) : oprAt bs n 3 = (lookAt bs q 3).bind fun l => some (⟨3, (a, b), (c, d), e, l.1⟩, l.2) := by
  unfold oprAt
  rcases h1 : numAt bs n with _ | ⟨a, m1⟩
  · simp [timesAt, h1] at h
  rcases h2 : numAt bs m1 with _ | ⟨b, m2⟩
  · simp [timesAt, h1, h2] at h
  rcases h3 : numAt bs m2 with _ | ⟨c, m3⟩
  · simp [timesAt, h1, h2, h3] at h
  rcases h4 : numAt bs m3 with _ | ⟨d, m4⟩
  · simp [timesAt, h1, h2, h3, h4] at h
  rcases h5 : numAt bs m4 with _ | ⟨e, m5⟩
  · simp [timesAt, h1, h2, h3, h4, h5] at h
  simp [timesAt, h1, h2, h3, h4, h5] at h
  obtain ⟨⟨rfl, rfl, rfl, rfl, rfl⟩, rfl⟩ := h
  simp [idAt, h1, h2, h3, h4, h5]
theorem oprI_none {bs : List Nat} {n : Nat} {k : Int} (hk : k ≠ 1 ∧ k ≠ 3 ∧ k ≠ 4) (h : timesAt (numAt bs) n 2 = none) : oprAt bs n k = none := by
  unfold oprAt
  rw [if_neg hk.1]
  rcases h1 : numAt bs n with _ | ⟨a, m1⟩
  · simp [idAt, h1]
  rcases h2 : numAt bs m1 with _ | ⟨b, m2⟩
  · simp [idAt, h1, h2]
  simp [timesAt, h1, h2] at h
theorem oprI {bs : List Nat} {n q : Nat} {k : Int} (hk : k ≠ 1 ∧ k ≠ 3 ∧ k ≠ 4) {a b : Int} (h : timesAt (numAt bs) n 2 = some ([a, b], q)) : oprAt bs n k = (lookAt bs q k).bind fun l => some (⟨k, (a, b), (0, 0), 0, l.1⟩, l.2) := by
  unfold oprAt
  rw [if_neg hk.1]
  rcases h1 : numAt bs n with _ | ⟨a, m1⟩
  · simp [timesAt, h1] at h
  rcases h2 : numAt bs m1 with _ | ⟨b, m2⟩
  · simp [timesAt, h1, h2] at h
  simp [timesAt, h1, h2] at h
  obtain ⟨⟨rfl, rfl⟩, rfl⟩ := h
  simp [idAt, h1, h2, hk.1, hk.2.1, hk.2.2]
theorem act_at {bs : List Nat} {n k : Nat} (hn : n < bs.length) (hk : bs[n] = k) : actAt bs n = if 1 ≤ k ∧ k ≤ 14 then
    if k = 12 then (numAt bs (n + 1)).bind fun x => (numAt bs x.2).bind fun y => some (⟨12, Opr.zero, x.1, y.1, Cf.zero⟩, y.2)
    else if k = 13 then (confAt bs (n + 1)).bind fun c => some (⟨13, Opr.zero, 0, 0, c.1⟩, c.2)
    else if k = 14 then some (⟨14, Opr.zero, 0, 0, Cf.zero⟩, n + 1)
    else (oprAt bs (n + 1) k).bind fun o => some (⟨k, o.1, 0, 0, Cf.zero⟩, o.2)
  else none := by
  unfold actAt rawAt
  rw [dif_pos hn, Option.bind_some, hk]
theorem act_out {bs : List Nat} {n : Nat} (hn : ¬ n < bs.length) : actAt bs n = none := by
  unfold actAt rawAt
  rw [dif_neg hn]
  rfl
theorem act_bad {bs : List Nat} {n k : Nat} (hn : n < bs.length) (hk : bs[n] = k) (h : ¬ (1 ≤ k ∧ k ≤ 14)) : actAt bs n = none := by
  rw [act_at hn hk, if_neg h]
theorem act_opr {bs : List Nat} {n k : Nat} (hn : n < bs.length) (hk : bs[n] = k) (h1 : 1 ≤ k) (h2 : k ≤ 11) : actAt bs n = (oprAt bs (n + 1) k).bind fun o => some (⟨k, o.1, 0, 0, Cf.zero⟩, o.2) := by
  rw [act_at hn hk, if_pos (by omega), if_neg (by omega), if_neg (by omega), if_neg (by omega)]
theorem act12 {bs : List Nat} {n : Nat} (hn : n < bs.length) (hk : bs[n] = 12) : actAt bs n = (timesAt (numAt bs) (n + 1) 2).bind fun p => match p.1 with | [a, b] => some (⟨12, Opr.zero, a, b, Cf.zero⟩, p.2) | _ => none := by
  rw [act_at hn hk, if_pos (by omega), if_pos rfl]
  rcases h1 : numAt bs (n + 1) with _ | ⟨a, m1⟩
  · simp [timesAt, h1]
  rcases h2 : numAt bs m1 with _ | ⟨b, m2⟩
  · simp [timesAt, h1, h2]
  simp [timesAt, h1, h2]
theorem act13 {bs : List Nat} {n : Nat} (hn : n < bs.length) (hk : bs[n] = 13) : actAt bs n = (timesAt (numAt bs) (n + 1) 2).bind fun p => match p.1 with | [a, b] => if 0 ≤ a ∧ a ≤ 15 then some (⟨13, Opr.zero, 0, 0, ⟨decide (a % 2 = 1), decide (a / 2 % 2 = 1), decide (a / 4 % 2 = 1), decide (a / 8 % 2 = 1), b⟩⟩, p.2) else none | _ => none := by
  rw [act_at hn hk, if_pos (by omega), if_neg (by omega), if_pos rfl]
  unfold confAt withinAt
  rcases h1 : numAt bs (n + 1) with _ | ⟨a, m1⟩
  · simp [timesAt, h1]
  by_cases ha : 0 ≤ a ∧ a ≤ 15
  · rcases h2 : numAt bs m1 with _ | ⟨b, m2⟩
    · simp [timesAt, h1, h2, ha]
    simp [timesAt, h1, h2, ha]
  · rcases h2 : numAt bs m1 with _ | ⟨b, m2⟩
    · simp [timesAt, h1, h2, ha]
    simp [timesAt, h1, h2, ha]
theorem act14 {bs : List Nat} {n : Nat} (hn : n < bs.length) (hk : bs[n] = 14) : actAt bs n = some (⟨14, Opr.zero, 0, 0, Cf.zero⟩, n + 1) := by
  rw [act_at hn hk, if_pos (by omega), if_neg (by omega), if_neg (by omega), if_pos rfl]

end Go.Gou

