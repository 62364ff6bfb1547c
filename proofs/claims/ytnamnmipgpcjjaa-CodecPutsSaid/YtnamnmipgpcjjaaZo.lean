/- Texts of the codec's proofs, laid together: RpA, RpB, PlnC, RpC, PlnD. -/
import Derived.Test.YtnamnmipgpcjjaaZi
import Derived.Test.YtnamnmipgpcjjaaZh
import Derived.Test.YtnamnmipgpcjjaaYRnH
import Derived.Test.YtnamnmipgpcjjaaZl
import Derived.Test.YtnamnmipgpcjjaaZj
set_option linter.unusedSimpArgs false
set_option linter.unusedVariables false
set_option linter.unusedSectionVars false
set_option linter.constructorNameAsVariable false

/- Acts as bytes: the document's bytes of a number. -/
namespace Go.Proofs.Ytnamnmipgpcjjaa
open Go.RowKit Go.Gou

/-- 'append(bytes, x)'. -/
theorem wpList_append_byte {ops : Array Oper} {rest : List Oper} {o : Oper} {a : Act} {w : World} {Q : Exit → Act → World → Prop} (hg : o.guard = none) (s x : Operand) (ho : o.op = .call { callee := .builtin .append, args := #[s, x], argTypes := #[44, 44] })
    (base : Nat) (v : Value) (n : Nat) (cs : List Value) (B : Nat) (d : Int) (hs : a.eval s = v) (hx : a.eval x = .slice (some ⟨B, 0, none⟩) 1 1) (hown : w.ownsRow base 5 1 v n cs)
    (hB : w.heap[B]? = some (.cells #[.int .u8 d] 5 (0, 0))) (hn : n ≤ 1000000000) (hbase : base ≤ w.heap.size)
    (h : ∀ g cap w', w'.ownsRow base 5 1 (.slice (some ⟨g, 0, none⟩) (n + 1) cap) (n + 1) (cs ++ [.int .u8 d]) → Gou.Mod (fun k => v.ownBlock = some k) w w' → (v.ownBlock = some g ∨ w.heap.size ≤ g) → wpList Try.prog ops Q rest (a.put o.dst (.slice (some ⟨g, 0, none⟩) (n + 1) cap)) w') : wpList Try.prog ops Q (o :: rest) a w := by
  obtain ⟨i0, hi0, hz0, hz1, hz2⟩ := info_parts info_u8
  exact wpList_append_lies w hg s x 44 ho base 5 i0 (.int .u8 0) 1 1 Try.underlying44 hi0 hz0 hz1 hz2 rfl (by omega) v n cs hs hown ⟨B, 0, none⟩ 1 1 [.int .u8 d] hx rfl (news_at hB rfl) (fun u hu => by
    simp only [List.mem_cons, List.not_mem_nil, or_false] at hu
    subst hu
    simp [Value.oneCell']) (by omega) (by unfold maxLen; omega) (by omega) hbase _ rfl (fun g cap w' h1 h2 h3 _ => h g cap w' h1 (Gou.Mod.of_grown h2) (h3.imp id fun e => by omega))

/-- What the document's bytes of a number come to. -/
def NmP (w : World) (x : Int) (e : Ending) (w' : World) : Prop :=
  Gou.Mod (fun _ => False) w w' ∧ ∃ p c, e = .returned (.slice p (encNum x).length c) ∧ w'.ownsRow w.heap.size 5 1 (.slice p (encNum x).length c) (encNum x).length (u8s (encNum x))

theorem num_byte {M : Nat} (h : M < 4294967296) : wrap64 (128 + (M : Int).tmod 128) = ((M % 128 + 128 : Nat) : Int) ∧ IntKind.u8.wrap ((M % 128 + 128 : Nat) : Int) = ((M % 128 + 128 : Nat) : Int) ∧ wrap64 ((M : Int).tdiv 128) = ((M / 128 : Nat) : Int) := by
  have e1 : (M : Int).tmod 128 = ((M % 128 : Nat) : Int) := rfl
  have e2 : (M : Int).tdiv 128 = ((M / 128 : Nat) : Int) := rfl
  rw [e1, e2]
  exact ⟨(IntWalk.wrap64_in _ (by omega)).trans (by omega), IntWalk.u8_in _ (by omega), IntWalk.wrap64_in _ (by omega)⟩

set_option linter.constructorNameAsVariable false
set_option maxRecDepth 100000

set_option maxHeartbeats 4000000 in
theorem fits_any (w : World) (x : Int) : Calls Try.prog 38 #[.int .i64 x] w fun e w' => e = .returned (.bool (decide (-2147483648 ≤ x ∧ x < 2147483648))) ∧ w' = w := by
  go_enter Try.func38, Try.ntmps38
  by_cases h1 : -2147483648 ≤ x
  · have t1 : decide (-2147483648 ≤ x) = true := decide_eq_true h1
    by_cases h2 : x ≤ 2147483647
    · have t2 : decide (x ≤ 2147483647) = true := decide_eq_true h2
      have Hr : Hid (decide (-2147483648 ≤ x ∧ x < 2147483648) = true) := Lib.hid (decide_eq_true (by omega))
      clear h1 h2
      go_wp2_with fail
      go_ret
      exact ⟨by rw [Hr.out]; rfl, rfl⟩
    · have t2 : decide (x ≤ 2147483647) = false := decide_eq_false h2
      have Hr : Hid (decide (-2147483648 ≤ x ∧ x < 2147483648) = false) := Lib.hid (decide_eq_false (by omega))
      clear h1 h2
      go_wp2_with fail
      go_ret
      exact ⟨by rw [Hr.out]; rfl, rfl⟩
  · have t1 : decide (-2147483648 ≤ x) = false := decide_eq_false h1
    have Hr : Hid (decide (-2147483648 ≤ x ∧ x < 2147483648) = false) := Lib.hid (decide_eq_false (by omega))
    clear h1
    go_wp2_with fail
    go_ret
    exact ⟨by rw [Hr.out]; rfl, rfl⟩

set_option maxHeartbeats 4000000 in
theorem numW_any (w : World) (x : Int) (hx : -2147483648 ≤ x ∧ x < 2147483648) : Calls Try.prog 39 #[.int .i64 x] w (NmP w x) := by
  have Hz := Lib.hid (zig_lt hx)
  have r1 : wrap64 (2 * x) = 2 * x := IntWalk.wrap64_in _ (by omega)
  have r2 : wrap64 (-2 * x) = -2 * x := IntWalk.wrap64_in _ (by omega)
  have r3 : wrap64 (-2 * x - 1) = -2 * x - 1 := IntWalk.wrap64_in _ (by omega)
  have HX := Lib.hid hx
  go_enter Try.func39, Try.ntmps39
  clear hx
  by_cases hneg : x < 0
  · have t0 : decide (x < 0) = true := decide_eq_true hneg
    have Hzz : Hid (wrap64 (wrap64 (-2 * x) - 1) = (zig x : Int)) := Lib.hid (by rw [r2, r3]; unfold zig; rw [if_pos hneg]; omega)
    clear hneg r1 r2 r3
    go_wp2_with fail
    go_loopw [3, 4] (fun vm vo wr => ∃ (M : Nat) (e2 : List Nat), vm = .int .i64 M ∧ M < 4294967296 ∧ encNum x = e2 ++ encM M ∧ wr.ownsRow w.heap.size 5 1 vo e2.length (u8s e2) ∧ Gou.Mod (fun _ => False) w wr) (fun vm _ _ => (intOf vm).toNat)
    case atStart => exact ⟨zig x, [], congrArg (Value.int IntKind.i64) Hzz.out, Hz.out, rfl, World.ownsRow_nil _ _ _ _, Gou.Mod.refl _ _⟩
    case round =>
      obtain ⟨M, e2, rfl, hM, hen, hown, hm⟩ := hrel
      obtain ⟨po, co, rfl⟩ := Gou.ownsRow_form hown
      have he2 : e2.length ≤ 5 := by have := encNum_len HX.out; rw [hen] at this; simp only [List.length_append] at this; omega
      have Hl : Hid (e2.length ≤ 1000000000) := Lib.hid (by omega)
      have Hen := Lib.hid hen
      have HM := Lib.hid hM
      have Hown := Lib.hid hown
      have Hm := Lib.hid hm
      have Hbs : ∀ d : Int, Hid (w.heap.size ≤ (wr.alloc (.cells #[.int .u8 d] 5)).heap.size) := fun d => Lib.hid (by rw [World.size_alloc]; have := Hm.out.size; omega)
      obtain ⟨f1, f2, f3⟩ := num_byte hM
      obtain ⟨d, hd⟩ : ∃ d : Nat, d = M % 128 + 128 := ⟨_, rfl⟩
      rw [← hd] at f1 f2
      have Hd := Lib.hid hd
      clear hen hown hm he2 hd
      by_cases hbig : M < 128
      · have t1 : decide (127 < (M : Int)) = false := decide_eq_false (by omega)
        have g1 : IntKind.u8.wrap (M : Int) = (M : Int) := IntWalk.u8_in _ (by omega)
        have Hlast : Hid (encNum x = e2 ++ [M]) := Lib.hid (by rw [Hen.out, encM_lt hbig])
        clear hbig hM f1 f2 f3
        go_wp2_with (first | ((with_reducible refine wpList_append_byte ?g_1 ?s_1 ?x_1 ?o_1 w.heap.size (.slice po e2.length co) e2.length (u8s e2) wr.heap.size (M : Int) ?a_1 ?b_1 ?d_1 ?e_1 ?f_1 ?q_1 ?r_1); (case g_1 | o_1 | a_1 | b_1 => exact rfl); (case d_1 => exact Hown.out.alloc _); (case e_1 => exact heap_alloc_new wr _); (case f_1 => exact Hl.out); (case q_1 => exact (Hbs _).out); (intro gg cap w5 hown5 m5 hgr5)) | fail)
        have hown6 : w5.ownsRow w.heap.size 5 1 (.slice (some ⟨gg, 0, none⟩) (encNum x).length cap) (encNum x).length (u8s (encNum x)) := by rw [Hlast.out]; simpa [u8s] using hown5
        have M5 : Gou.Mod (fun _ => False) w w5 := (Hm.out.trans' (Gou.Mod.alloc _ _ _)).trans m5 (fun k hk e => by have := (Hown.out.lt k e).1; omega)
        have Hown6 := Lib.hid hown6
        have HM5 := Lib.hid M5
        have hel : e2.length + 1 = (encNum x).length := by rw [Hlast.out]; simp
        rw [hel] at *
        clear hown5 m5 hown6 M5
        go_wp2_with fail
        go_ret
        exact ⟨HM5.out, _, _, rfl, Hown6.out⟩
      · have t1 : decide (127 < (M : Int)) = true := decide_eq_true (by omega)
        have Hnx : Hid (encNum x = (e2 ++ [d]) ++ encM (M / 128)) := Lib.hid (by rw [Hen.out, encM_ge hbig, Hd.out]; simp)
        have Hdec : Hid (M / 128 < M) := Lib.hid (by omega)
        clear hbig
        go_wp2_with (first | ((with_reducible refine wpList_append_byte ?g_2 ?s_2 ?x_2 ?o_2 w.heap.size (.slice po e2.length co) e2.length (u8s e2) wr.heap.size (128 + (M : Int) % 128) ?a_2 ?b_2 ?d_2 ?e_2 ?f_2 ?q_2 ?r_2); (case g_2 | o_2 | a_2 | b_2 => exact rfl); (case d_2 => exact Hown.out.alloc _); (case e_2 => exact heap_alloc_new wr _); (case f_2 => exact Hl.out); (case q_2 => exact (Hbs _).out); (intro gg cap w5 hown5 m5 hgr5)) | fail)
        have hdi : (128 + (M : Int) % 128) = (d : Int) := by rw [Hd.out]; omega
        rw [hdi] at hown5
        have Hown6 : Hid (w5.ownsRow w.heap.size 5 1 (.slice (some ⟨gg, 0, none⟩) (e2.length + 1) cap) (e2 ++ [d]).length (u8s (e2 ++ [d]))) := Lib.hid (by simpa [u8s] using hown5)
        have M5 : Hid (Gou.Mod (fun _ => False) w w5) := Lib.hid ((Hm.out.trans' (Gou.Mod.alloc _ _ _)).trans m5 (fun k hk e => by have := (Hown.out.lt k e).1; omega))
        clear hown5 m5
        go_wp2_with fail
        go_roundw
        case rel => exact ⟨M / 128, e2 ++ [d], (by first | exact congrArg (Value.int IntKind.i64) f3 | exact congrArg (Value.int IntKind.i64) (by omega)), by have := HM.out; omega, Hnx.out, Hown6.out, M5.out⟩
        case measure => have := Hdec.out; simp [intOf]; omega
  · have t0 : decide (x < 0) = false := decide_eq_false hneg
    have Hzz : Hid (wrap64 (2 * x) = (zig x : Int)) := Lib.hid (by rw [r1]; unfold zig; rw [if_neg hneg]; omega)
    clear hneg r1 r2 r3
    go_wp2_with fail
    go_loopw [3, 4] (fun vm vo wr => ∃ (M : Nat) (e2 : List Nat), vm = .int .i64 M ∧ M < 4294967296 ∧ encNum x = e2 ++ encM M ∧ wr.ownsRow w.heap.size 5 1 vo e2.length (u8s e2) ∧ Gou.Mod (fun _ => False) w wr) (fun vm _ _ => (intOf vm).toNat)
    case atStart => exact ⟨zig x, [], congrArg (Value.int IntKind.i64) Hzz.out, Hz.out, rfl, World.ownsRow_nil _ _ _ _, Gou.Mod.refl _ _⟩
    case round =>
      obtain ⟨M, e2, rfl, hM, hen, hown, hm⟩ := hrel
      obtain ⟨po, co, rfl⟩ := Gou.ownsRow_form hown
      have he2 : e2.length ≤ 5 := by have := encNum_len HX.out; rw [hen] at this; simp only [List.length_append] at this; omega
      have Hl : Hid (e2.length ≤ 1000000000) := Lib.hid (by omega)
      have Hen := Lib.hid hen
      have HM := Lib.hid hM
      have Hown := Lib.hid hown
      have Hm := Lib.hid hm
      have Hbs : ∀ d : Int, Hid (w.heap.size ≤ (wr.alloc (.cells #[.int .u8 d] 5)).heap.size) := fun d => Lib.hid (by rw [World.size_alloc]; have := Hm.out.size; omega)
      obtain ⟨f1, f2, f3⟩ := num_byte hM
      obtain ⟨d, hd⟩ : ∃ d : Nat, d = M % 128 + 128 := ⟨_, rfl⟩
      rw [← hd] at f1 f2
      have Hd := Lib.hid hd
      clear hen hown hm he2 hd
      by_cases hbig : M < 128
      · have t1 : decide (127 < (M : Int)) = false := decide_eq_false (by omega)
        have g1 : IntKind.u8.wrap (M : Int) = (M : Int) := IntWalk.u8_in _ (by omega)
        have Hlast : Hid (encNum x = e2 ++ [M]) := Lib.hid (by rw [Hen.out, encM_lt hbig])
        clear hbig hM f1 f2 f3
        go_wp2_with (first | ((with_reducible refine wpList_append_byte ?g_3 ?s_3 ?x_3 ?o_3 w.heap.size (.slice po e2.length co) e2.length (u8s e2) wr.heap.size (M : Int) ?a_3 ?b_3 ?d_3 ?e_3 ?f_3 ?q_3 ?r_3); (case g_3 | o_3 | a_3 | b_3 => exact rfl); (case d_3 => exact Hown.out.alloc _); (case e_3 => exact heap_alloc_new wr _); (case f_3 => exact Hl.out); (case q_3 => exact (Hbs _).out); (intro gg cap w5 hown5 m5 hgr5)) | fail)
        have hown6 : w5.ownsRow w.heap.size 5 1 (.slice (some ⟨gg, 0, none⟩) (encNum x).length cap) (encNum x).length (u8s (encNum x)) := by rw [Hlast.out]; simpa [u8s] using hown5
        have M5 : Gou.Mod (fun _ => False) w w5 := (Hm.out.trans' (Gou.Mod.alloc _ _ _)).trans m5 (fun k hk e => by have := (Hown.out.lt k e).1; omega)
        have Hown6 := Lib.hid hown6
        have HM5 := Lib.hid M5
        have hel : e2.length + 1 = (encNum x).length := by rw [Hlast.out]; simp
        rw [hel] at *
        clear hown5 m5 hown6 M5
        go_wp2_with fail
        go_ret
        exact ⟨HM5.out, _, _, rfl, Hown6.out⟩
      · have t1 : decide (127 < (M : Int)) = true := decide_eq_true (by omega)
        have Hnx : Hid (encNum x = (e2 ++ [d]) ++ encM (M / 128)) := Lib.hid (by rw [Hen.out, encM_ge hbig, Hd.out]; simp)
        have Hdec : Hid (M / 128 < M) := Lib.hid (by omega)
        clear hbig
        go_wp2_with (first | ((with_reducible refine wpList_append_byte ?g_4 ?s_4 ?x_4 ?o_4 w.heap.size (.slice po e2.length co) e2.length (u8s e2) wr.heap.size (128 + (M : Int) % 128) ?a_4 ?b_4 ?d_4 ?e_4 ?f_4 ?q_4 ?r_4); (case g_4 | o_4 | a_4 | b_4 => exact rfl); (case d_4 => exact Hown.out.alloc _); (case e_4 => exact heap_alloc_new wr _); (case f_4 => exact Hl.out); (case q_4 => exact (Hbs _).out); (intro gg cap w5 hown5 m5 hgr5)) | fail)
        have hdi : (128 + (M : Int) % 128) = (d : Int) := by rw [Hd.out]; omega
        rw [hdi] at hown5
        have Hown6 : Hid (w5.ownsRow w.heap.size 5 1 (.slice (some ⟨gg, 0, none⟩) (e2.length + 1) cap) (e2 ++ [d]).length (u8s (e2 ++ [d]))) := Lib.hid (by simpa [u8s] using hown5)
        have M5 : Hid (Gou.Mod (fun _ => False) w w5) := Lib.hid ((Hm.out.trans' (Gou.Mod.alloc _ _ _)).trans m5 (fun k hk e => by have := (Hown.out.lt k e).1; omega))
        clear hown5 m5
        go_wp2_with fail
        go_roundw
        case rel => exact ⟨M / 128, e2 ++ [d], (by first | exact congrArg (Value.int IntKind.i64) f3 | exact congrArg (Value.int IntKind.i64) (by omega)), by have := HM.out; omega, Hnx.out, Hown6.out, M5.out⟩
        case measure => have := Hdec.out; simp [intOf]; omega

end Go.Proofs.Ytnamnmipgpcjjaa

/- Acts as bytes: the document's bytes of numbers. -/
namespace Go.Proofs.Ytnamnmipgpcjjaa
open Go.RowKit Go.Gou

/-- What the document's bytes of numbers come to. -/
def AllP (w : World) (base : Nat) (v : Value) (bs : List Nat) (l : List Int) (e : Ending) (w' : World) : Prop :=
  Gou.Mod (fun k => v.ownBlock = some k) w w' ∧ match encNums l with
    | some es => ∃ v', e = .returned (.tuple #[v', .bool true]) ∧ w'.ownsRow base 5 1 v' (bs ++ es).length (u8s (bs ++ es)) ∧ (∀ g, v'.ownBlock = some g → v.ownBlock = some g ∨ w.heap.size ≤ g)
    | none => ∃ p n c, e = .returned (.tuple #[.slice p n c, .bool false])

set_option linter.constructorNameAsVariable false
set_option maxRecDepth 100000

set_option maxHeartbeats 4000000 in
theorem allR_any (w : World) (base : Nat) (p : Option Addr) (n c : Nat) (bs : List Nat) (pl : Option Addr) (cl : Nat) (l : List Int) (hbase : base ≤ w.heap.size) (hown : w.ownsRow base 5 1 (.slice p n c) bs.length (u8s bs)) (hx : IntsR (fun k => (Value.slice p n c).ownBlock ≠ some k) w (.slice pl l.length cl) l) (hl : bs.length + 5 * l.length ≤ 1000000000) :
    Calls Try.prog 26 #[.slice p n c, .slice pl l.length cl] w (AllP w base (.slice p n c) bs l) := by
  have Hown0 := Lib.hid hown
  have Hx := Lib.hid hx
  have Hl := Lib.hid hl
  have Hbase := Lib.hid hbase
  have hll : l.length ≤ 200000000 := by omega
  clear hown hx hl hbase
  go_enter Try.func26, Try.ntmps26
  go_wp2_with fail
  go_loopw [0, 6, 7] (fun vo vk vi wr => ∃ (i : Nat) (es : List Nat) (ok : Bool) (q : Option Addr) (m d : Nat), vo = .slice q m d ∧ vk = .bool ok ∧ vi = .int .i64 i ∧ i ≤ l.length ∧ Gou.Mod (fun k => (Value.slice p n c).ownBlock = some k) w wr ∧ (ok = true → encNums l = (encNums (l.drop i)).map (es ++ ·) ∧ es.length ≤ 5 * i ∧ wr.ownsRow base 5 1 (.slice q m d) (bs ++ es).length (u8s (bs ++ es)) ∧ (∀ g, (Value.slice q m d).ownBlock = some g → (Value.slice p n c).ownBlock = some g ∨ w.heap.size ≤ g)) ∧ (ok = false → encNums l = none)) (fun _ _ vi _ => l.length - (intOf vi).toNat)
  case atStart => exact ⟨0, [], true, p, n, c, rfl, rfl, rfl, by omega, Gou.Mod.refl _ _, fun _ => ⟨by simp, by simp, by simpa using Hown0.out, fun g hg => .inl hg⟩, fun h => by cases h⟩
  case round =>
    obtain ⟨i, es, ok, q, m, d, rfl, rfl, rfl, hi, hm, h1, h2⟩ := hrel
    have Hm := Lib.hid hm
    have H1 := Lib.hid h1
    have H2 := Lib.hid h2
    clear hm h1 h2
    by_cases hil : i < l.length
    · have e1 : decide ((i : Int) < (l.length : Int)) = true := by simp; omega
      obtain ⟨-, b, o, rfl, hb, hG, hc⟩ := Hx.out.cells (by omega)
      have hxi := hc i hil
      rw [← Hm.out.cell (p := ⟨b, o + i, none⟩) hb hG] at hxi
      have hiI : (i : Int) < (l.length : Int) := by omega
      have hi0I : (0 : Int) ≤ (i : Int) := by omega
      have Hd := Lib.hid (encNums_drop hil)
      clear hc hG hb
      generalize hxe : l.getD i 0 = x at *
      clear hxe
      cases ok with
      | false =>
        go_wp2_with fail
        go_roundw
        case rel => exact ⟨i + 1, es, false, q, m, d, rfl, rfl, by go_num, by omega, Hm.out, (fun h => by cases h), fun _ => H2.out rfl⟩
        case measure => simp [intOf]; omega
      | true =>
        obtain ⟨k1, k2, k3, k4⟩ := H1.out rfl
        have K1 := Lib.hid k1
        have K2 := Lib.hid k2
        have K3 := Lib.hid k3
        have K4 := Lib.hid k4
        clear k1 k2 k3 k4
        go_wp2_with fail
        refine (fits_any _ x).mono ?_
        rintro e w1 ⟨rfl, rfl⟩
        by_cases hf : -2147483648 ≤ x ∧ x < 2147483648
        · rw [show decide (-2147483648 ≤ x ∧ x < 2147483648) = true from decide_eq_true hf]
          have Hf := Lib.hid hf
          clear hf
          go_wp2_with fail
          refine (numW_any _ x Hf.out).mono ?_
          rintro e w2 ⟨hm2, pn, cn, rfl, hnum⟩
          have Hm2 := Lib.hid hm2
          have Hnum := Lib.hid hnum
          have Hb2 : Hid (base ≤ w2.heap.size) := Lib.hid (by have := Hbase.out; have := Hm.out.size; have := hm2.size; omega)
          have K5 := Lib.hid (ownsRow_mod K3.out hm2 (fun _ _ h => h))
          have Hyl : Hid ((bs ++ es).length + (encNum x).length ≤ 1000000000) := Lib.hid (by have := encNum_len Hf.out; have := K2.out; have := Hl.out; rw [List.length_append]; omega)
          clear hm2 hnum H1 H2
          go_wp2_with (first | ((with_reducible refine wpList_append_bytes ?g1 ?s1 ?x1 ?o1 base (.slice q m d) (bs ++ es) (encNum x) (fun _ => True) (.slice pn (encNum x).length cn) ?a1 ?b1 ?c1 ?d1 ?e1 ?f1 ?h1); (case g1 | o1 | a1 | b1 => exact rfl); (case c1 => exact Hb2.out); (case d1 => exact K5.out); (case e1 => exact BytesAt.of_own Hnum.out); (case f1 => exact Hyl.out); (intro v' w5 hown5 m5 hv5)) | fail)
          obtain ⟨pv, cv, rfl⟩ := Gou.ownsRow_form hown5
          have m9 : Gou.Mod (fun k => (Value.slice p n c).ownBlock = some k) w w5 := (Hm.out.trans' (Hm2.out.imp fun _ _ h => h.elim)).trans m5 (fun k hk e => (K4.out k e).elim id (fun h => by omega))
          refine ⟨⟨i + 1, es ++ encNum x, true, _, _, _, rfl, rfl, by go_num, by omega, m9, (fun _ => ⟨?_, ?_, ?_, fun g hg => ?_⟩), (fun h => by cases h)⟩, ?_⟩
          · rw [K1.out, Hd.out, if_pos Hf.out]
            cases encNums (l.drop (i + 1)) <;> simp
          · have := K2.out; have := encNum_len Hf.out; rw [List.length_append]; omega
          · rw [← List.append_assoc]; exact hown5
          · rcases hv5 g hg with h | h
            · exact K4.out g h
            · right; have := Hm.out.size; have := Hm2.out.size; omega
          · simp [intOf]; omega
        · rw [show decide (-2147483648 ≤ x ∧ x < 2147483648) = false from decide_eq_false hf]
          have Hno : Hid (encNums l = none) := Lib.hid (by rw [K1.out, Hd.out, if_neg hf]; rfl)
          clear hf
          go_wp2_with fail
          go_roundw
          case rel => exact ⟨i + 1, es, false, q, m, d, rfl, rfl, by go_num, by omega, Hm.out, (fun h => by cases h), fun _ => Hno.out⟩
          case measure => simp [intOf]; omega
    · have e1 : decide ((i : Int) < (l.length : Int)) = false := by simp; omega
      obtain rfl : i = l.length := by omega
      clear hil hi
      go_wp2_with fail
      cases ok with
      | false =>
        refine bodyPost_ret (v := .tuple #[.slice q m d, .bool false]) (by simp [results, Try.results26, go_sem]) rfl ?_
        exact ⟨Hm.out, by rw [H2.out rfl]; exact ⟨q, m, d, rfl⟩⟩
      | true =>
        refine bodyPost_ret (v := .tuple #[.slice q m d, .bool true]) (by simp [results, Try.results26, go_sem]) rfl ?_
        obtain ⟨k1, k2, k3, k4⟩ := H1.out rfl
        rw [List.drop_length] at k1
        exact ⟨Hm.out, by rw [k1]; exact ⟨_, rfl, by simpa using k3, k4⟩⟩

end Go.Proofs.Ytnamnmipgpcjjaa

/- Acts as bytes: what the document puts, in plain numbers. -/
namespace Go.Gou
open Go.RowKit

/-- A filter's numbers. -/
def nodeNums (n : GNode) : List Int := [n.op, (n.ins.length : Int)] ++ (n.ins ++ ([(n.ps.length : Int)] ++ n.ps))
def graphNums (g : Gr) : List Int := [1, g.out, (g.nodes.length : Int)] ++ g.nodes.flatMap nodeNums
def contNums (c : Ct) : List Int := [c.kind] ++ (if c.kind = 1 then [c.box.x0, c.box.y0, c.box.x1, c.box.y1] else if c.kind = 2 then [c.box.x0, c.box.y0, c.w, c.h, c.turn] else [])
def lookNums (k : Int) (l : Lk) : List Int :=
  if k = 5 then [l.dx, l.dy]
  else if k = 6 then (if l.hasClip then [1, l.clip.x0, l.clip.y0, l.clip.x1, l.clip.y1] else [0])
  else if k = 7 then [l.opacity]
  else if k = 8 then [l.mode]
  else if k = 9 then contNums l.content
  else if k = 10 then (if l.hasFilt then graphNums l.filt else [0])
  else if k = 11 then (if l.hasBack then graphNums l.back else [0])
  else []
def numsOf (a : Ac) : List Int :=
  if a.kind = 12 then [a.w, a.h]
  else if a.kind = 13 then [flagsOf a.conf, a.conf.room]
  else if a.kind = 14 then []
  else if a.kind = 1 then [a.op.to.1, a.op.to.2, a.op.at_]
  else if a.kind = 3 then [a.op.id.1, a.op.id.2, a.op.to.1, a.op.to.2, a.op.at_]
  else if a.kind = 4 then [a.op.id.1, a.op.id.2, a.op.at_]
  else [a.op.id.1, a.op.id.2] ++ lookNums a.kind a.op.look
def pxOf (a : Ac) : List Pxl := if a.kind = 9 then (if a.op.look.content.kind = 1 then [a.op.look.content.px] else if a.op.look.content.kind = 2 then a.op.look.content.pix else []) else []
/-- What the bytes would be. -/
def refEnc (a : Ac) : Option (List Nat) := if 1 ≤ a.kind ∧ a.kind ≤ 14 then (encNums (numsOf a)).map fun b => a.kind.toNat :: b ++ pxBytes (pxOf a) else none
/-- The document's bytes of an act. -/
def refPut (a : Ac) : Option (List Nat) := (refEnc a).bind fun es => match actAt es 0 with
  | some (b, m) => if m = es.length ∧ b = a then some es else none
  | none => none

theorem nums_app : ∀ (x y : List Int) {a b : List Nat}, encNums x = some a → encNums y = some b → encNums (x ++ y) = some (a ++ b)
  | [], y, a, b, h1, h2 => by
    simp only [encNums, Option.some.injEq] at h1
    subst h1
    exact h2
  | z :: x, y, a, b, h1, h2 => by
    rw [encNums] at h1
    split at h1
    · rename_i hz
      obtain ⟨a', ha', rfl⟩ := Option.map_eq_some_iff.1 h1
      rw [List.cons_append, encNums, if_pos hz, nums_app x y ha' h2]
      simp
    · cases h1
theorem enc_one : encNums [1] = some [2] := by simp [encNums, encNum, zig, encM]
theorem enc_zero : encNums [0] = some [0] := by simp [encNums, encNum, zig, encM]
theorem node_nums {n : GNode} {es : List Nat} (h : encNode n = some es) : encNums (nodeNums n) = some es := by
  unfold encNode at h
  split at h
  · obtain ⟨a, ha, h⟩ := Option.bind_eq_some_iff.1 h
    obtain ⟨b, hb, h⟩ := Option.bind_eq_some_iff.1 h
    obtain ⟨c, hc, h⟩ := Option.bind_eq_some_iff.1 h
    obtain ⟨d, hd, h⟩ := Option.bind_eq_some_iff.1 h
    simp only [Option.some.injEq] at h
    subst h
    exact nums_app _ _ ha (nums_app _ _ hb (nums_app _ _ hc hd))
  · cases h
theorem nodes_nums : ∀ (ns : List GNode) {es : List Nat}, encNodes ns = some es → encNums (ns.flatMap nodeNums) = some es
  | [], es, h => h
  | n :: r, es, h => by
    rw [encNodes] at h
    obtain ⟨a, ha, h⟩ := Option.bind_eq_some_iff.1 h
    obtain ⟨b, hb, rfl⟩ := Option.map_eq_some_iff.1 h
    rw [List.flatMap_cons]
    exact nums_app _ _ (node_nums ha) (nodes_nums r hb)
theorem graph_nums {g : Gr} {es b : List Nat} (h1 : encNums [1] = some b) (h : encGraph g = some es) : encNums (graphNums g) = some (b ++ es) := by
  unfold encGraph at h
  split at h
  · obtain ⟨a, ha, h⟩ := Option.bind_eq_some_iff.1 h
    obtain ⟨c, hc, rfl⟩ := Option.map_eq_some_iff.1 h
    exact nums_app [1] ([g.out, (g.nodes.length : Int)] ++ g.nodes.flatMap nodeNums) h1 (nums_app _ _ ha (nodes_nums _ hc))
  · cases h
theorem enc_ref {a : Ac} {es : List Nat} (hop : a.kind ≤ 11 → a.op.kind = a.kind) (h : encAct a = some es) : refEnc a = some es := by
  unfold encAct at h
  unfold refEnc
  split at h
  case isFalse => cases h
  rename_i hk
  rw [if_pos hk]
  obtain ⟨b, hb, h⟩ := Option.bind_eq_some_iff.1 h
  simp only [Option.some.injEq] at h
  subst h
  have key : ∀ {c d : List Nat}, encNums (numsOf a) = some c → pxBytes (pxOf a) = d → b = c ++ d → (encNums (numsOf a)).map (fun b => a.kind.toNat :: b ++ pxBytes (pxOf a)) = some (a.kind.toNat :: b) := by
    intro c d h1 h2 h3
    rw [h1, h2, h3]
    simp
  have px0 : a.kind ≠ 9 → pxBytes (pxOf a) = [] := fun h => by rw [pxOf, if_neg h]; rfl
  split at hb
  · rename_i h12
    exact key (by rw [numsOf, if_pos h12]; exact hb) (px0 (by omega)) (by simp)
  rename_i h12
  split at hb
  · rename_i h13
    exact key (by rw [numsOf, if_neg h12, if_pos h13]; exact hb) (px0 (by omega)) (by simp)
  rename_i h13
  split at hb
  · rename_i h14
    exact key (by rw [numsOf, if_neg h12, if_neg h13, if_pos h14]; exact hb) (px0 (by omega)) (by simp)
  rename_i h14
  have hk11 : a.kind ≤ 11 := by omega
  unfold encOpr at hb
  rw [hop hk11] at hb
  obtain ⟨i, hi, hb⟩ := Option.bind_eq_some_iff.1 hb
  by_cases h1 : a.kind = 1
  · rw [if_pos h1, Option.some.injEq] at hi
    subst hi
    rw [if_pos (Or.inl h1)] at hb
    obtain ⟨x, hx, hb⟩ := Option.bind_eq_some_iff.1 hb
    obtain ⟨y, hy, hb⟩ := Option.bind_eq_some_iff.1 hb
    simp only [Option.some.injEq, List.nil_append] at hb
    subst hb
    exact key (by rw [numsOf, if_neg h12, if_neg h13, if_neg h14, if_pos h1]; exact nums_app [a.op.to.1, a.op.to.2] [a.op.at_] hx hy) (px0 (by omega)) (by simp)
  rw [if_neg h1] at hi
  by_cases h3 : a.kind = 3
  · rw [if_pos (Or.inr h3)] at hb
    obtain ⟨x, hx, hb⟩ := Option.bind_eq_some_iff.1 hb
    obtain ⟨y, hy, hb⟩ := Option.bind_eq_some_iff.1 hb
    simp only [Option.some.injEq] at hb
    subst hb
    exact key (by rw [numsOf, if_neg h12, if_neg h13, if_neg h14, if_neg h1, if_pos h3]; exact nums_app [a.op.id.1, a.op.id.2] [a.op.to.1, a.op.to.2, a.op.at_] hi (nums_app [a.op.to.1, a.op.to.2] [a.op.at_] hx hy)) (px0 (by omega)) (by simp)
  rw [if_neg (by omega)] at hb
  by_cases h4 : a.kind = 4
  · rw [if_pos h4] at hb
    obtain ⟨x, hx, hb⟩ := Option.bind_eq_some_iff.1 hb
    simp only [Option.some.injEq] at hb
    subst hb
    exact key (by rw [numsOf, if_neg h12, if_neg h13, if_neg h14, if_neg h1, if_neg h3, if_pos h4]; exact nums_app [a.op.id.1, a.op.id.2] [a.op.at_] hi hx) (px0 (by omega)) (by simp)
  rw [if_neg h4] at hb
  have hn : numsOf a = [a.op.id.1, a.op.id.2] ++ lookNums a.kind a.op.look := by rw [numsOf, if_neg h12, if_neg h13, if_neg h14, if_neg h1, if_neg h3, if_neg h4]
  have key2 : ∀ {c d : List Nat}, encNums (lookNums a.kind a.op.look) = some c → pxBytes (pxOf a) = d → b = i ++ c ++ d → (encNums (numsOf a)).map (fun b => a.kind.toNat :: b ++ pxBytes (pxOf a)) = some (a.kind.toNat :: b) := by
    intro c d e1 e2 e3
    exact key (by rw [hn]; exact nums_app _ _ hi e1) e2 e3
  by_cases h5 : a.kind = 5
  · rw [if_pos h5] at hb
    obtain ⟨x, hx, hb⟩ := Option.bind_eq_some_iff.1 hb
    simp only [Option.some.injEq] at hb
    subst hb
    exact key2 (by rw [lookNums, if_pos h5]; exact hx) (px0 (by omega)) (by simp)
  rw [if_neg h5] at hb
  by_cases h6 : a.kind = 6
  · rw [if_pos h6] at hb
    obtain ⟨x, hx, hb⟩ := Option.bind_eq_some_iff.1 hb
    by_cases hf : a.op.look.hasClip = true
    · rw [if_pos hf] at hb hx
      obtain ⟨y, hy, hb⟩ := Option.bind_eq_some_iff.1 hb
      simp only [Option.some.injEq] at hb
      subst hb
      exact key2 (by rw [lookNums, if_neg h5, if_pos h6, if_pos hf]; exact nums_app [1] _ hx hy) (px0 (by omega)) (by simp)
    · rw [if_neg hf] at hb hx
      simp only [Option.some.injEq] at hb
      subst hb
      exact key2 (by rw [lookNums, if_neg h5, if_pos h6, if_neg hf]; exact hx) (px0 (by omega)) (by simp)
  rw [if_neg h6] at hb
  by_cases h7 : a.kind = 7
  · rw [if_pos h7] at hb
    obtain ⟨x, hx, hb⟩ := Option.bind_eq_some_iff.1 hb
    simp only [Option.some.injEq] at hb
    subst hb
    exact key2 (by rw [lookNums, if_neg h5, if_neg h6, if_pos h7]; exact hx) (px0 (by omega)) (by simp)
  rw [if_neg h7] at hb
  by_cases h8 : a.kind = 8
  · rw [if_pos h8] at hb
    obtain ⟨x, hx, hb⟩ := Option.bind_eq_some_iff.1 hb
    simp only [Option.some.injEq] at hb
    subst hb
    exact key2 (by rw [lookNums, if_neg h5, if_neg h6, if_neg h7, if_pos h8]; exact hx) (px0 (by omega)) (by simp)
  rw [if_neg h8] at hb
  by_cases h9 : a.kind = 9
  · rw [if_pos h9] at hb
    obtain ⟨x, hx, hb⟩ := Option.bind_eq_some_iff.1 hb
    simp only [Option.some.injEq] at hb
    subst hb
    have hl : lookNums a.kind a.op.look = contNums a.op.look.content := by rw [lookNums, if_neg h5, if_neg h6, if_neg h7, if_neg h8, if_pos h9]
    unfold encContent at hx
    obtain ⟨c, hc, hx⟩ := Option.bind_eq_some_iff.1 hx
    by_cases k1 : a.op.look.content.kind = 1
    · rw [if_pos k1] at hx
      obtain ⟨y, hy, hx⟩ := Option.bind_eq_some_iff.1 hx
      simp only [Option.some.injEq] at hx
      subst hx
      exact key2 (by rw [hl, contNums, if_pos k1]; exact nums_app _ _ hc hy) (by rw [pxOf, if_pos h9, if_pos k1]) (by simp)
    rw [if_neg k1] at hx
    by_cases k2 : a.op.look.content.kind = 2
    · rw [if_pos k2] at hx
      split at hx
      · obtain ⟨y, hy, hx⟩ := Option.bind_eq_some_iff.1 hx
        simp only [Option.some.injEq] at hx
        subst hx
        exact key2 (by rw [hl, contNums, if_neg k1, if_pos k2]; exact nums_app _ _ hc hy) (by rw [pxOf, if_pos h9, if_neg k1, if_pos k2]) (by simp)
      · cases hx
    rw [if_neg k2] at hx
    simp only [Option.some.injEq] at hx
    subst hx
    exact key2 (by rw [hl, contNums, if_neg k1, if_neg k2, List.append_nil]; exact hc) (d := []) (by rw [pxOf, if_pos h9, if_neg k1, if_neg k2]; rfl) (by simp)
  rw [if_neg h9] at hb
  by_cases h10 : a.kind = 10
  · rw [if_pos h10] at hb
    obtain ⟨x, hx, hb⟩ := Option.bind_eq_some_iff.1 hb
    by_cases hf : a.op.look.hasFilt = true
    · rw [if_pos hf] at hb hx
      obtain ⟨y, hy, hb⟩ := Option.bind_eq_some_iff.1 hb
      simp only [Option.some.injEq] at hb
      subst hb
      exact key2 (by rw [lookNums, if_neg h5, if_neg h6, if_neg h7, if_neg h8, if_neg h9, if_pos h10, if_pos hf]; exact graph_nums hx hy) (px0 (by omega)) (by simp)
    · rw [if_neg hf] at hb hx
      simp only [Option.some.injEq] at hb
      subst hb
      exact key2 (by rw [lookNums, if_neg h5, if_neg h6, if_neg h7, if_neg h8, if_neg h9, if_pos h10, if_neg hf]; exact hx) (px0 (by omega)) (by simp)
  rw [if_neg h10] at hb
  by_cases h11 : a.kind = 11
  · rw [if_pos h11] at hb
    obtain ⟨x, hx, hb⟩ := Option.bind_eq_some_iff.1 hb
    by_cases hf : a.op.look.hasBack = true
    · rw [if_pos hf] at hb hx
      obtain ⟨y, hy, hb⟩ := Option.bind_eq_some_iff.1 hb
      simp only [Option.some.injEq] at hb
      subst hb
      exact key2 (by rw [lookNums, if_neg h5, if_neg h6, if_neg h7, if_neg h8, if_neg h9, if_neg h10, if_pos h11, if_pos hf]; exact graph_nums hx hy) (px0 (by omega)) (by simp)
    · rw [if_neg hf] at hb hx
      simp only [Option.some.injEq] at hb
      subst hb
      exact key2 (by rw [lookNums, if_neg h5, if_neg h6, if_neg h7, if_neg h8, if_neg h9, if_neg h10, if_pos h11, if_neg hf]; exact hx) (px0 (by omega)) (by simp)
  rw [if_neg h11] at hb
  simp only [Option.some.injEq] at hb
  subst hb
  exact key2 (c := []) (by rw [lookNums, if_neg h5, if_neg h6, if_neg h7, if_neg h8, if_neg h9, if_neg h10, if_neg h11]; rfl) (px0 h9) (by simp)

theorem act_kinds {bs : List Nat} {n m : Nat} {a : Ac} (h : actAt bs n = some (a, m)) : a.kind ≤ 11 → a.op.kind = a.kind := by
  intro hk
  unfold actAt at h
  obtain ⟨b, hb, h⟩ := Option.bind_eq_some_iff.1 h
  split at h
  case isFalse => cases h
  split at h
  · obtain ⟨x, hx, h⟩ := Option.bind_eq_some_iff.1 h
    obtain ⟨y, hy, h⟩ := Option.bind_eq_some_iff.1 h
    simp only [Option.some.injEq, Prod.mk.injEq] at h
    obtain ⟨rfl, -⟩ := h
    simp at hk
  split at h
  · obtain ⟨x, hx, h⟩ := Option.bind_eq_some_iff.1 h
    simp only [Option.some.injEq, Prod.mk.injEq] at h
    obtain ⟨rfl, -⟩ := h
    simp at hk
  split at h
  · simp only [Option.some.injEq, Prod.mk.injEq] at h
    obtain ⟨rfl, -⟩ := h
    simp at hk
  · obtain ⟨x, hx, h⟩ := Option.bind_eq_some_iff.1 h
    simp only [Option.some.injEq, Prod.mk.injEq] at h
    obtain ⟨rfl, -⟩ := h
    unfold oprAt at hx
    obtain ⟨i, hi, hx⟩ := Option.bind_eq_some_iff.1 hx
    obtain ⟨t, ht, hx⟩ := Option.bind_eq_some_iff.1 hx
    obtain ⟨c, hc, hx⟩ := Option.bind_eq_some_iff.1 hx
    obtain ⟨l, hl, hx⟩ := Option.bind_eq_some_iff.1 hx
    simp only [Option.some.injEq] at hx
    subst hx
    rfl

theorem refPut_eq {a : Ac} (hs : PxSmall a.op.look.content) (hb : ∀ es, refEnc a = some es → ∀ b ∈ es, b < 256) : refPut a = putOf a := by
  unfold refPut
  rcases hp : putOf a with _ | es
  · rcases hr : refEnc a with _ | e2
    · rfl
    · rw [Option.bind_some]
      rcases ha : actAt e2 0 with _ | ⟨b, m⟩
      · rfl
      · simp only
        split
        · rename_i hc
          obtain ⟨hm, rfl⟩ := hc
          obtain ⟨e3, h3, _⟩ := putOf_of_act (hb e2 hr) ha
          rw [h3] at hp
          cases hp
        · rfl
  · have hp' := hp
    unfold putOf at hp'
    obtain ⟨e2, he2, hp'⟩ := Option.bind_eq_some_iff.1 hp'
    obtain ⟨⟨x, m⟩, hx, hp'⟩ := Option.bind_eq_some_iff.1 hp'
    simp only at hp'
    split at hp'
    · rename_i hxa
      simp only [Option.some.injEq] at hp'
      subst hp' hxa
      have hr := enc_ref (act_kinds hx) he2
      have hf : actAt e2 0 = some (x, 0 + e2.length) := act_of_putOf (hb _ hr) hs hp (Sits.self e2)
      rw [hr, Option.bind_some, hf]
      simp
    · cases hp'

end Go.Gou

/- Acts as bytes: a filter's numbers. -/
namespace Go.Gou
open Go.RowKit

theorem IntsR.of_own {w : World} {base : Nat} {e : TypeId} {v : Value} {xs : List Int} (h : w.ownsRow base e 1 v xs.length (ivs xs)) : IntsR (fun b => base ≤ b ∧ v.ownBlock = some b) w v xs := by
  have hlt := h.lt
  obtain ⟨hl, h⟩ := h
  rcases h with ⟨rfl, h0⟩ | ⟨g, cap, cur, rfl, hg, hh, hn, _, _, ht⟩
  · obtain rfl := List.length_eq_zero_iff.1 h0
    exact ⟨rfl, none, 0, rfl, Nat.le_refl _, .inl rfl⟩
  · refine ⟨hl, _, cap, rfl, hn, .inr ⟨g, 0, rfl, (hlt g rfl).2, ⟨hg, rfl⟩, fun j u hu => ?_⟩⟩
    rw [Nat.zero_add, cell_of_row w g j cur e (0, 0) hh]
    have hj : j < xs.length := by
      have := (List.getElem?_eq_some_iff.1 hu).1
      simpa using this
    have : cur.toList[j]? = (ivs xs)[j]? := by rw [← ht, List.getElem?_take, if_pos (by omega)]
    rw [← Array.getElem?_toList, this, hu]

end Go.Gou
namespace Go.Proofs.Ytnamnmipgpcjjaa
open Go.RowKit Go.Gou

/-- 'append(xs, ys...)' of numbers. -/
theorem wpList_append_ints {ops : Array Oper} {rest : List Oper} {o : Oper} {a : Act} {w : World} {Q : Exit → Act → World → Prop} (hgd : o.guard = none) (s x : Operand) (hop : o.op = .call { callee := .builtin .append, args := #[s, x], argTypes := #[72, 72] })
    (B : Nat) (v : Value) (xs ys : List Int) (G : Nat → Prop) (u : Value) (hs : a.eval s = v) (hx : a.eval x = u) (hB : B ≤ w.heap.size) (hown : w.ownsRow B 3 1 v xs.length (ivs xs)) (hy : IntsR G w u ys) (hn : xs.length + ys.length ≤ 100000000)
    (h : ∀ v' w1, w1.ownsRow B 3 1 v' (xs ++ ys).length (ivs (xs ++ ys)) → Gou.Mod (fun k => v.ownBlock = some k) w w1 → (∀ g, v'.ownBlock = some g → v.ownBlock = some g ∨ w.heap.size ≤ g) → wpList Try.prog ops Q rest (a.put o.dst v') w1) :
    wpList Try.prog ops Q (o :: rest) a w := by
  obtain ⟨i0, hi0, hz0, hz1, hz2⟩ := info_parts info_int
  have hrun : ∃ v' w1, (Builtin.append_ #[72, 72] o.type #[v, u]).run Try.prog w = .ok v' w1 ∧ w1.ownsRow B 3 1 v' (xs ++ ys).length (ivs (xs ++ ys)) ∧ Gou.Mod (fun k => v.ownBlock = some k) w w1 ∧ (∀ g, v'.ownBlock = some g → v.ownBlock = some g ∨ w.heap.size ≤ g) := by
    obtain ⟨hyl, p, cap, rfl, hcap, hc⟩ := hy
    cases p with
    | none =>
      have h0 : ys = [] := by
        rcases hc with hc | ⟨b, o, h, _⟩
        · exact List.length_eq_zero_iff.1 hc
        · cases h
      subst h0
      have hv : ∃ p n c, v = .slice p n c ∧ n ≤ c := by
        rcases hown.2 with ⟨h, _⟩ | ⟨g, c, cur, h, _, _, hn, _⟩
        · exact ⟨none, 0, 0, h, Nat.le_refl _⟩
        · exact ⟨_, _, c, h, hn⟩
      obtain ⟨p, n, c, rfl, hnc⟩ := hv
      exact ⟨_, w, run_none' _ _ _ i0 Try.underlying72 hi0 w p n c cap hnc, by simpa using hown, Gou.Mod.refl _ _, fun g hg => .inl hg⟩
    | some ad =>
      obtain ⟨v', w', hr, h2, h3, h4, h5⟩ := run_append_own_at (P := Try.prog) w B 72 o.type 3 i0 (.int .i64 0) 1 8 Try.underlying72 hi0 hz0 hz1 hz2 rfl (by omega) _ xs.length _ hown ad ys.length cap (ivs ys) (by simp)
        (fun j u hu => by
          have hj : j < ys.length := by
            have := (List.getElem?_eq_some_iff.1 hu).1
            simpa using this
          rcases hc with h0 | ⟨b, o2, e, hb, _, hc⟩
          · omega
          · simp only [Option.some.injEq] at e
            subst e
            have hadd : (⟨b, o2, none⟩ : Addr).add j = ⟨b, o2 + j, none⟩ := by unfold Addr.add; split <;> simp_all
            rw [hadd, hc j u hu]) (fun u hu => by
          simp only [List.mem_map] at hu
          obtain ⟨y, _, rfl⟩ := hu
          simp [Value.oneCell']) (by unfold maxLen; omega) (by omega) hB
      refine ⟨v', w', hr, by rw [List.length_append]; simpa [ivs] using h2, Gou.Mod.of_grown h3, fun g hg => ?_⟩
      rcases h5 with h5 | h5
      · left; rw [← h5]; exact hg
      · right
        rw [h5] at hg
        simp only [Option.some.injEq] at hg
        omega
  obtain ⟨v', w1, hr, h1, h2, h3⟩ := hrun
  refine wpList_plain hgd fun K hK => ?_
  unfold Oper.wp execOp
  simp only [hop, resolve, invoke, builtin, Sem.run_bind, Sem.run_pure, Result.andThen_ok, List.map_toArray, List.map_cons, List.map_nil, hs, hx, hr]
  exact hK _ _ (h v' w1 h1 h2 h3)

/-- What a filter's numbers come to. -/
def PtsP (w : World) (g : Gr) (e : Ending) (w' : World) : Prop :=
  Gou.Mod (fun _ => False) w w' ∧ ∃ v, e = .returned v ∧ w'.ownsRow w.heap.size 3 1 v (graphNums g).length (ivs (graphNums g))

theorem graphNums_len {g : Gr} (h : LittleOk g.nodes) (hl : g.nodes.length ≤ 1100) : ∀ i, i ≤ g.nodes.length → ((g.nodes.take i).flatMap nodeNums).length ≤ 403 * i := by
  intro i
  induction i with
  | zero => intro _; simp
  | succ i ih =>
    intro hi
    have h1 := ih (by omega)
    have h2 := h _ (List.getElem_mem (l := g.nodes) (n := i) (by omega))
    rw [List.take_succ_eq_append_getElem (by omega), List.flatMap_append, List.length_append]
    simp only [List.flatMap_cons, List.flatMap_nil, List.append_nil, nodeNums, List.length_append, List.length_cons, List.length_nil]
    omega

/-- On the way through a node. -/
structure PtsIn (w wr : World) (cs : Array Value) (v : Value) (xs : List Int) (w' : World) : Prop where
  mod : Gou.Mod (fun k => w.heap.size + 1 ≤ k) wr w'
  own : w'.ownsRow (w.heap.size + 1) 3 1 v xs.length (ivs xs)
  box : Blk w' wr.heap.size 82 cs
  apart : v.ownBlock ≠ some wr.heap.size

theorem PtsIn.step {w wr W W2 w5 : World} {cs : Array Value} {v v' : Value} {xs ys : List Int} (h : PtsIn w wr cs v xs W) (hm : Gou.Mod (fun _ => False) W W2) (hown : w5.ownsRow (w.heap.size + 1) 3 1 v' (xs ++ ys).length (ivs (xs ++ ys))) (m5 : Gou.Mod (fun k => v.ownBlock = some k) W2 w5) (f5 : ∀ g, v'.ownBlock = some g → v.ownBlock = some g ∨ W2.heap.size ≤ g) : PtsIn w wr cs v' (xs ++ ys) w5 := by
  have hb := h.box.lt
  have hs := hm.size
  refine ⟨(h.mod.trans' (hm.imp fun _ _ h => h.elim)).trans' (m5.imp fun k _ e => (h.own.lt k e).1), hown, (h.box.mod hm (fun h => h)).mod m5 (fun e => h.apart e), fun e => ?_⟩
  rcases f5 _ e with h1 | h1
  · exact h.apart h1
  · omega
theorem lit_ints (w : World) (xs : List Int) (n : Nat) (hn : xs.length = n) (hl : n ≤ 10) : IntsR (fun _ => True) (w.alloc (.cells (ivs xs).toArray 3)) (.slice (some ⟨w.heap.size, 0, none⟩) n n) xs := by
  subst hn
  have := World.ownsRow_lit (base := 0) (size := 1) (e := 3) w (ivs xs).toArray xs.length (by omega) (by unfold maxLen; omega) (by simp)
  exact (IntsR.of_own (by simpa using this)).imp fun _ _ _ => trivial

set_option linter.constructorNameAsVariable false
set_option maxRecDepth 100000

set_option maxHeartbeats 4000000 in
theorem putsR_any (w : World) (G : Nat → Prop) (p : Option Addr) (c : Nat) (g : Gr) (hx : NodesR G w (.slice p g.nodes.length c) g.nodes) (hlo : LittleOk g.nodes) (hl : g.nodes.length ≤ 1100) :
    Calls Try.prog 25 #[.agg #[.slice p g.nodes.length c, .int .i64 g.out]] w (PtsP w g) := by
  have Hx := Lib.hid hx
  have Hlo := Lib.hid hlo
  clear hx hlo
  go_enter Try.func25, Try.ntmps25
  go_wp2_with fail
  have HG : Hid (Blk ((w.alloc (.cells #[.slice p g.nodes.length c, .int .i64 g.out] 33)).alloc (.cells #[.int .i64 1, .int .i64 g.out, .int .i64 (g.nodes.length : Int)] 3)) w.heap.size 33 #[.slice p g.nodes.length c, .int .i64 g.out]) := Lib.hid ((show Blk (w.alloc (.cells #[.slice p g.nodes.length c, .int .i64 g.out] 33)) w.heap.size 33 _ from heap_alloc_new w _).mod (Gou.Mod.alloc (fun _ => False) _ _) (fun h => h))
  have HO : Hid (World.ownsRow ((w.alloc (.cells #[.slice p g.nodes.length c, .int .i64 g.out] 33)).alloc (.cells #[.int .i64 1, .int .i64 g.out, .int .i64 (g.nodes.length : Int)] 3)) (w.heap.size + 1) 3 1 (.slice (some ⟨w.heap.size + 1, 0, none⟩) 3 3) 3 (ivs [1, g.out, (g.nodes.length : Int)])) := Lib.hid (by
    have := World.ownsRow_lit (base := w.heap.size + 1) (size := 1) (e := 3) (w.alloc (.cells #[.slice p g.nodes.length c, .int .i64 g.out] 33)) #[.int .i64 1, .int .i64 g.out, .int .i64 (g.nodes.length : Int)] 3 (by simp) (by unfold maxLen; omega) rfl
    rw [World.size_alloc] at this
    exact this)
  have HM : Hid (Gou.Mod (fun _ => False) w ((w.alloc (.cells #[.slice p g.nodes.length c, .int .i64 g.out] 33)).alloc (.cells #[.int .i64 1, .int .i64 g.out, .int .i64 (g.nodes.length : Int)] 3))) := Lib.hid ((Gou.Mod.alloc _ _ _).trans' (Gou.Mod.alloc _ _ _))
  generalize ((w.alloc (.cells #[.slice p g.nodes.length c, .int .i64 g.out] 33)).alloc (.cells #[.int .i64 1, .int .i64 g.out, .int .i64 (g.nodes.length : Int)] 3)) = w1 at *
  obtain ⟨P, hP⟩ : ∃ P : Nat → List Int, P = fun i => [1, g.out, (g.nodes.length : Int)] ++ (g.nodes.take i).flatMap nodeNums := ⟨_, rfl⟩
  have HP := Lib.hid hP
  have hPl : ∀ i, i ≤ g.nodes.length → (P i).length ≤ 3 + 403 * i := fun i hi => by
    have := graphNums_len Hlo.out hl i hi
    rw [hP, List.length_append]
    simp only [List.length_cons, List.length_nil]
    omega
  have HPl := Lib.hid hPl
  clear hP hPl
  go_loopw [3, 4] (fun vl vi wr => ∃ i : Nat, vi = .int .i64 i ∧ i ≤ g.nodes.length ∧ wr.ownsRow (w.heap.size + 1) 3 1 vl (P i).length (ivs (P i)) ∧ Gou.Mod (fun k => w.heap.size + 1 ≤ k) w1 wr) (fun _ vi _ => g.nodes.length - (intOf vi).toNat)
  case atStart => exact ⟨0, rfl, by omega, by rw [HP.out]; exact HO.out, Gou.Mod.refl _ _⟩
  case round =>
    obtain ⟨i, rfl, hi, hown, hm⟩ := hrel
    obtain ⟨po, co, rfl⟩ := Gou.ownsRow_form hown
    have Hown := Lib.hid hown
    have Hm := Lib.hid hm
    have Hmw : Hid (Gou.Mod (fun _ => False) w wr) := Lib.hid (HM.out.trans hm (fun k hk h => by omega))
    have hG := HG.out.mod hm (by omega)
    have a0 : wr.cell? ⟨w.heap.size, 0, none⟩ = some (.slice p g.nodes.length c) := hG.cell 0 rfl
    clear hown hm hG
    by_cases hil : i < g.nodes.length
    case neg =>
      obtain rfl : i = g.nodes.length := by omega
      have e1 : decide ((g.nodes.length : Int) < (g.nodes.length : Int)) = false := by simp
      go_wp2_with fail
      go_ret
      have hgn : P g.nodes.length = graphNums g := by rw [HP.out]; simp only [List.take_length]; rfl
      have h := Hown.out
      rw [hgn] at h
      refine ⟨Hmw.out, _, by rw [hgn]; rfl, ownsRow_low h (by omega)⟩
    have e1 : decide ((i : Int) < (g.nodes.length : Int)) = true := by simp; omega
    obtain ⟨-, x1, o1, rfl, hx1, -, hc1⟩ := Hx.out.cells (by omega)
    obtain ⟨pi, ci, pp, cp, m0, m1, m2, hi1, hp1⟩ := hc1 i _ (List.getElem?_eq_getElem hil)
    rw [← Hmw.out.cell (p := ⟨x1, o1 + i * 3, none⟩) hx1 (fun h => h)] at m0
    rw [← Hmw.out.cell (p := ⟨x1, o1 + i * 3 + 1, none⟩) hx1 (fun h => h)] at m1
    rw [← Hmw.out.cell (p := ⟨x1, o1 + i * 3 + 2, none⟩) hx1 (fun h => h)] at m2
    have HI := Lib.hid ((hi1.imp (G' := fun b => b < w.heap.size) fun b hb _ => hb).mod Hmw.out (fun _ _ _ h => h))
    have HPp := Lib.hid ((hp1.imp (G' := fun b => b < w.heap.size) fun b hb _ => hb).mod Hmw.out (fun _ _ _ h => h))
    have hiI : (i : Int) < (g.nodes.length : Int) := by omega
    have hi0I : (0 : Int) ≤ (i : Int) := by omega
    have Hn2 := Lib.hid (Hlo.out _ (List.getElem_mem hil))
    have Hnx : Hid (P (i + 1) = P i ++ nodeNums g.nodes[i]) := Lib.hid (by
      rw [HP.out]
      simp only
      rw [List.take_succ_eq_append_getElem hil, List.flatMap_append, List.append_assoc]
      simp)
    clear hc1 hi1 hp1
    generalize g.nodes[i] = nd at *
    have hil1 : nd.ins.length ≤ 200 := Hn2.out.1
    have hil2 : nd.ps.length ≤ 200 := Hn2.out.2
    have Hpi := Lib.hid (HPl.out i (by omega))
    have K0 : Hid (PtsIn w wr #[.int .i64 nd.op, .slice pi nd.ins.length ci, .slice pp nd.ps.length cp] (.slice po (P i).length co) (P i) (wr.alloc (.cells #[.int .i64 nd.op, .slice pi nd.ins.length ci, .slice pp nd.ps.length cp] 82))) := Lib.hid ⟨Gou.Mod.alloc _ _ _, Hown.out.alloc _, heap_alloc_new wr _, fun e => by have := (Hown.out.lt _ e).2; omega⟩
    have HL1 : Hid (IntsR (fun _ => True) ((wr.alloc (.cells #[.int .i64 nd.op, .slice pi nd.ins.length ci, .slice pp nd.ps.length cp] 82)).alloc (.cells #[.int .i64 nd.op, .int .i64 (nd.ins.length : Int)] 3)) (.slice (some ⟨wr.heap.size + 1, 0, none⟩) 2 2) [nd.op, (nd.ins.length : Int)]) := Lib.hid (by
      have := lit_ints (wr.alloc (.cells #[.int .i64 nd.op, .slice pi nd.ins.length ci, .slice pp nd.ps.length cp] 82)) [nd.op, (nd.ins.length : Int)] 2 rfl (by omega)
      rw [World.size_alloc] at this
      exact this)
    have Hc0 : Hid (w.heap.size ≤ wr.heap.size) := Lib.hid Hmw.out.size
    have Hc1 : Hid (w.heap.size + 1 ≤ ((wr.alloc (.cells #[.int .i64 nd.op, .slice pi nd.ins.length ci, .slice pp nd.ps.length cp] 82)).alloc (.cells #[.int .i64 nd.op, .int .i64 (nd.ins.length : Int)] 3)).heap.size) := Lib.hid (by rw [World.size_alloc, World.size_alloc]; have := Hmw.out.size; omega)
    have Hf : Hid ((P i).length + [nd.op, (nd.ins.length : Int)].length ≤ 100000000 ∧ (P i ++ [nd.op, (nd.ins.length : Int)]).length + nd.ins.length ≤ 100000000 ∧ (P i ++ [nd.op, (nd.ins.length : Int)] ++ nd.ins).length + [(nd.ps.length : Int)].length ≤ 100000000 ∧ (P i ++ [nd.op, (nd.ins.length : Int)] ++ nd.ins ++ [(nd.ps.length : Int)]).length + nd.ps.length ≤ 100000000) := Lib.hid (by
      have := Hpi.out
      simp only [List.length_append, List.length_cons, List.length_nil]
      omega)
    go_wp2_with (first | ((with_reducible refine wpList_append_ints ?g_7 ?s_7 ?x_7 ?o_7 (w.heap.size + 1) (.slice po (P i).length co) (P i) ([nd.op, (nd.ins.length : Int)]) ?G_7 (.slice (some ⟨wr.heap.size + 1, 0, none⟩) 2 2) ?a_7 ?b_7 ?c_7 ?d_7 ?e_7 ?f_7 ?r_7); (case g_7 | o_7 | a_7 | b_7 => exact rfl); (case e_7 => exact HL1.out); (case c_7 => exact Hc1.out); (case d_7 => exact (Hown.out.alloc _).alloc _); (case f_7 => exact Hf.out.1); (intro v5 w5 hown5 m5 f5); (have k1 := K0.out.step (Gou.Mod.alloc _ _ _) hown5 m5 f5); (obtain ⟨X1, hX1⟩ : ∃ X, X = P i ++ [nd.op, (nd.ins.length : Int)] := ⟨_, rfl⟩); (rw [← hX1] at k1 hown5); (obtain ⟨p5, c5, rfl⟩ := Gou.ownsRow_form hown5); (have K1 := Lib.hid k1); (have HX1 := Lib.hid hX1); (clear k1 hX1 hown5 m5 f5); (have b1 : w5.cell? ⟨wr.heap.size, 1, none⟩ = some (.slice pi nd.ins.length ci) := K1.out.box.cell 1 rfl); (have HI5 := Lib.hid (HI.out.mod K1.out.mod (fun k _ hG h => by omega))); (have Hc5 : Hid (w.heap.size + 1 ≤ w5.heap.size) := Lib.hid (by have := K1.out.box.lt; have := Hc0.out; omega))) | ((with_reducible refine wpList_append_ints ?g2_7 ?s2_7 ?x2_7 ?o2_7 (w.heap.size + 1) (.slice p5 X1.length c5) X1 (nd.ins) ?G2_7 (.slice pi nd.ins.length ci) ?a2_7 ?b2_7 ?c2_7 ?d2_7 ?e2_7 ?f2_7 ?r2_7); (case g2_7 | o2_7 | a2_7 | b2_7 => exact rfl); (case e2_7 => exact HI5.out); (case c2_7 => exact Hc5.out); (case d2_7 => exact K1.out.own); (case f2_7 => (rw [HX1.out]; exact Hf.out.2.1)); (intro v6 w6 hown6 m6 f6); (have k2 := K1.out.step (Gou.Mod.refl _ _) hown6 m6 f6); (obtain ⟨X2, hX2⟩ : ∃ X, X = X1 ++ nd.ins := ⟨_, rfl⟩); (rw [← hX2] at k2 hown6); (obtain ⟨p6, c6, rfl⟩ := Gou.ownsRow_form hown6); (have K2 := Lib.hid k2); (have HX2 := Lib.hid hX2); (clear k2 hX2 hown6 m6 f6); (have b2 : w6.cell? ⟨wr.heap.size, 2, none⟩ = some (.slice pp nd.ps.length cp) := K2.out.box.cell 2 rfl); (have HL3 := Lib.hid (lit_ints w6 [(nd.ps.length : Int)] 1 rfl (by omega))); (have Hc6 : Hid (w.heap.size + 1 ≤ (w6.alloc (.cells (ivs [(nd.ps.length : Int)]).toArray 3)).heap.size) := Lib.hid (by rw [World.size_alloc]; have := K2.out.box.lt; have := Hc0.out; omega))) | ((with_reducible refine wpList_append_ints ?g3_7 ?s3_7 ?x3_7 ?o3_7 (w.heap.size + 1) (.slice p6 X2.length c6) X2 ([(nd.ps.length : Int)]) ?G3_7 (.slice (some ⟨w6.heap.size, 0, none⟩) 1 1) ?a3_7 ?b3_7 ?c3_7 ?d3_7 ?e3_7 ?f3_7 ?r3_7); (case g3_7 | o3_7 | a3_7 | b3_7 => exact rfl); (case e3_7 => exact HL3.out); (case c3_7 => exact Hc6.out); (case d3_7 => exact K2.out.own.alloc _); (case f3_7 => (rw [HX2.out, HX1.out]; exact Hf.out.2.2.1)); (intro v7 w7 hown7 m7 f7); (have k3 := K2.out.step (Gou.Mod.alloc _ _ _) hown7 m7 f7); (obtain ⟨X3, hX3⟩ : ∃ X, X = X2 ++ [(nd.ps.length : Int)] := ⟨_, rfl⟩); (rw [← hX3] at k3 hown7); (obtain ⟨p7, c7, rfl⟩ := Gou.ownsRow_form hown7); (have K3 := Lib.hid k3); (have HX3 := Lib.hid hX3); (clear k3 hX3 hown7 m7 f7); (have b3 : w7.cell? ⟨wr.heap.size, 2, none⟩ = some (.slice pp nd.ps.length cp) := K3.out.box.cell 2 rfl); (have HP7 := Lib.hid (HPp.out.mod K3.out.mod (fun k _ hG h => by omega))); (have Hc7 : Hid (w.heap.size + 1 ≤ w7.heap.size) := Lib.hid (by have := K3.out.box.lt; have := Hc0.out; omega))) | ((with_reducible refine wpList_append_ints ?g4_7 ?s4_7 ?x4_7 ?o4_7 (w.heap.size + 1) (.slice p7 X3.length c7) X3 (nd.ps) ?G4_7 (.slice pp nd.ps.length cp) ?a4_7 ?b4_7 ?c4_7 ?d4_7 ?e4_7 ?f4_7 ?r4_7); (case g4_7 | o4_7 | a4_7 | b4_7 => exact rfl); (case e4_7 => exact HP7.out); (case c4_7 => exact Hc7.out); (case d4_7 => exact K3.out.own); (case f4_7 => (rw [HX3.out, HX2.out, HX1.out]; exact Hf.out.2.2.2)); (intro v8 w8 hown8 m8 f8); (have k4 := K3.out.step (Gou.Mod.refl _ _) hown8 m8 f8); (obtain ⟨X4, hX4⟩ : ∃ X, X = X3 ++ nd.ps := ⟨_, rfl⟩); (rw [← hX4] at k4 hown8); (obtain ⟨p8, c8, rfl⟩ := Gou.ownsRow_form hown8); (have K4 := Lib.hid k4); (have HX4 := Lib.hid hX4); (clear k4 hX4 hown8 m8 f8)) | fail)
    go_roundw
    case rel => exact ⟨i + 1, by go_num, by omega, by
      have e : P (i + 1) = X4 := by rw [Hnx.out, HX4.out, HX3.out, HX2.out, HX1.out]; simp [nodeNums]
      rw [e]
      exact K4.out.own, Hm.out.trans' K4.out.mod⟩
    case measure => simp [intOf]; omega

end Go.Proofs.Ytnamnmipgpcjjaa

/- Acts as bytes: what the document puts, its sizes. -/
namespace Go.Gou
open Go.RowKit

theorem nodes_numsLen : ∀ (ns : List GNode), LittleOk ns → (ns.flatMap nodeNums).length ≤ 403 * ns.length
  | [], _ => by simp
  | n :: r, h => by
    have h1 := nodes_numsLen r fun m hm => h m (List.mem_cons_of_mem _ hm)
    have h2 := h n (List.mem_cons_self ..)
    rw [List.flatMap_cons, List.length_append, List.length_cons]
    have : (nodeNums n).length = 3 + n.ins.length + n.ps.length := by
      simp only [nodeNums, List.length_append, List.length_cons, List.length_nil]
      omega
    omega
theorem graphNums_lenB {g : Gr} (h : LittleOk g.nodes) (hl : g.nodes.length ≤ 1100) : (graphNums g).length ≤ 450000 := by
  have := nodes_numsLen _ h
  simp only [graphNums, List.length_append, List.length_cons, List.length_nil]
  omega
theorem contNums_len (c : Ct) : (contNums c).length ≤ 6 := by
  unfold contNums
  split
  · simp
  · split <;> simp
theorem lookNums_len (k : Int) {a : Ac} (h : FewOk a) : (lookNums k a.op.look).length ≤ 450000 := by
  have h1 := graphNums_lenB h.filts h.filt
  have h2 := graphNums_lenB h.backs h.back
  have h3 := contNums_len a.op.look.content
  unfold lookNums
  repeat' split
  all_goals (first | omega | simp)
theorem numsOf_len {a : Ac} (h : FewOk a) : (numsOf a).length ≤ 500000 := by
  have := lookNums_len a.kind h
  unfold numsOf
  repeat' split
  all_goals (first | (rw [List.length_append]; simp; omega) | simp)
theorem pxOf_len {a : Ac} (h : FewOk a) : (pxOf a).length ≤ 400 := by
  have := h.pix
  unfold pxOf
  repeat' split
  all_goals (first | omega | simp)
theorem pxOf_small {a : Ac} (h : PxSmall a.op.look.content) : ∀ p ∈ pxOf a, Pxl.Small p := by
  unfold pxOf
  repeat' split
  · intro p hp
    simp only [List.mem_singleton] at hp
    subst hp
    exact h.px
  · exact h.pix
  · simp
  · simp
theorem pxBytes_small {ps : List Pxl} (h : ∀ p ∈ ps, Pxl.Small p) : ∀ b ∈ pxBytes ps, b < 256 := by
  intro b hb
  unfold pxBytes at hb
  obtain ⟨p, hp, hb⟩ := List.mem_flatMap.1 hb
  obtain ⟨h0, h1, h2, h3⟩ := h p hp
  simp only [List.mem_cons, List.not_mem_nil, or_false] at hb
  rcases hb with rfl | rfl | rfl | rfl <;> assumption
theorem refEnc_eq {a : Ac} (hk : 1 ≤ a.kind ∧ a.kind ≤ 14) {es : List Nat} (h : encNums (numsOf a) = some es) : refEnc a = some (a.kind.toNat :: es ++ pxBytes (pxOf a)) := by
  unfold refEnc
  rw [if_pos hk, h]
  rfl
theorem refPut_noenc {a : Ac} (h : encNums (numsOf a) = none) : refPut a = none := by
  unfold refPut refEnc
  rw [h]
  split <;> rfl
theorem refEnc_small {a : Ac} (hs : PxSmall a.op.look.content) {fs : List Nat} (h : refEnc a = some fs) : ∀ b ∈ fs, b < 256 := by
  unfold refEnc at h
  split at h
  case isFalse => cases h
  rename_i hk
  obtain ⟨es, he, rfl⟩ := Option.map_eq_some_iff.1 h
  intro b hb
  rw [List.mem_append, List.mem_cons] at hb
  rcases hb with (rfl | hb) | hb
  · omega
  · exact (encNums_fine he).2 b hb
  · exact pxBytes_small (pxOf_small hs) b hb
theorem refPut_of {a : Ac} {fs : List Nat} (h : refEnc a = some fs) : refPut a = match actAt fs 0 with
  | some (b, m) => if m = fs.length ∧ b = a then some fs else none
  | none => none := by
  unfold refPut
  rw [h]
  rfl
end Go.Gou

