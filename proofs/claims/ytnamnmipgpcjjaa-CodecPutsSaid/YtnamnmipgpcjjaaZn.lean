/- Texts of the codec's proofs, laid together: RnA, RnB, RnC, RnD. -/
import Derived.Test.YtnamnmipgpcjjaaZk
import Derived.Deep.AppendLies
import Derived.Deep.RegionHeld
import Derived.Test.YtnamnmipgpcjjaaYDefer
set_option linter.unusedSimpArgs false
set_option linter.unusedVariables false
set_option linter.unusedSectionVars false
set_option linter.constructorNameAsVariable false

/- Acts as bytes: the document's numbers. -/
namespace Go.Gou
open Go.RowKit

theorem numGo_more {bs : List Nat} {n m k : Nat} (hn : n < bs.length) (hc : 128 ≤ bs[n]) (hk : k ≤ 4) : numGo bs (5 - k) n m (7 * k) = numGo bs (5 - (k + 1)) (n + 1) (m + bs[n] % 128 * 2 ^ (7 * k)) (7 * (k + 1)) := by
  obtain ⟨f, hf⟩ : ∃ f, 5 - k = f + 1 := ⟨4 - k, by omega⟩
  have hf2 : 5 - (k + 1) = f := by omega
  rw [hf, hf2, numGo, dif_pos hn, if_pos hc]
  split
  · rw [Nat.mul_add]
  · obtain rfl : f = 0 := by omega
    rw [numGo]

theorem numGo_last {bs : List Nat} {n m k : Nat} (hn : n < bs.length) (hc : ¬ 128 ≤ bs[n]) (hk : k ≤ 4) : numGo bs (5 - k) n m (7 * k) = if m + bs[n] % 128 * 2 ^ (7 * k) < 4294967296 ∧ (bs[n] ≠ 0 ∨ k = 0) then some (numVal (m + bs[n] % 128 * 2 ^ (7 * k)), n + 1) else none := by
  obtain ⟨f, hf⟩ : ∃ f, 5 - k = f + 1 := ⟨4 - k, by omega⟩
  rw [hf, numGo, dif_pos hn, if_neg hc]
  have : (7 * k + 7 = 7) = (k = 0) := by rw [eq_iff_iff]; omega
  simp only [this]

theorem numGo_end {bs : List Nat} {n m k s : Nat} (hn : ¬ n < bs.length) : numGo bs k n m s = none := by
  cases k with
  | zero => rw [numGo]
  | succ f => rw [numGo, dif_neg hn]

/-- On the way through a number's bytes: what is reckoned stays small. -/
theorem num_facts {c m k : Nat} (hc : c < 256) (hm : m < 2 ^ (7 * k)) (hk : k ≤ 4) :
    wrap64 (c : Int) = (c : Int) ∧ (c : Int).tmod 128 = ((c % 128 : Nat) : Int) ∧ wrap64 (((c % 128 : Nat) : Int) * ((2 ^ (7 * k) : Nat) : Int)) = ((c % 128 * 2 ^ (7 * k) : Nat) : Int) ∧
    wrap64 ((m : Int) + ((c % 128 * 2 ^ (7 * k) : Nat) : Int)) = ((m + c % 128 * 2 ^ (7 * k) : Nat) : Int) ∧ wrap64 (((2 ^ (7 * k) : Nat) : Int) * 128) = ((2 ^ (7 * (k + 1)) : Nat) : Int) ∧ m + c % 128 * 2 ^ (7 * k) < 2 ^ (7 * (k + 1)) := by
  have hp : (2 : Nat) ^ (7 * (k + 1)) = 128 * 2 ^ (7 * k) := by rw [Nat.mul_add, Nat.pow_add, Nat.mul_comm]
  have hpk : (2 : Nat) ^ (7 * k) ≤ 2 ^ 28 := Nat.pow_le_pow_right (by decide) (by omega)
  have h28 : (2 : Nat) ^ 28 = 268435456 := rfl
  rw [h28] at hpk
  have hd : c % 128 * 2 ^ (7 * k) ≤ 127 * 2 ^ (7 * k) := Nat.mul_le_mul_right _ (by omega)
  have e0 : (((c % 128 : Nat) : Int) * ((2 ^ (7 * k) : Nat) : Int)) = ((c % 128 * 2 ^ (7 * k) : Nat) : Int) := by push_cast; rfl
  have et : (c : Int).tmod 128 = ((c % 128 : Nat) : Int) := rfl
  rw [e0, hp]
  generalize c % 128 * 2 ^ (7 * k) = x at *
  generalize (2 : Nat) ^ (7 * k) = p at *
  refine ⟨IntWalk.wrap64_in _ (by omega), et, IntWalk.wrap64_in _ (by omega), (IntWalk.wrap64_in _ (by omega)).trans (by push_cast; rfl), (IntWalk.wrap64_in _ (by omega)).trans (by push_cast; omega), by omega⟩

end Go.Gou
namespace Go.Proofs.Ytnamnmipgpcjjaa
open Go.RowKit Go.Gou

/-- 'append(numbers, x)'. -/
theorem wpList_append_int {ops : Array Oper} {rest : List Oper} {o : Oper} {a : Act} {w : World} {Q : Exit → Act → World → Prop} (hg : o.guard = none) (s x : Operand) (ho : o.op = .call { callee := .builtin .append, args := #[s, x], argTypes := #[72, 72] })
    (base : Nat) (v : Value) (n : Nat) (cs : List Value) (B : Nat) (d : Int) (hs : a.eval s = v) (hx : a.eval x = .slice (some ⟨B, 0, none⟩) 1 1) (hown : w.ownsRow base 3 1 v n cs)
    (hB : w.heap[B]? = some (.cells #[.int .i64 d] 3 (0, 0))) (hn : n ≤ 100000000) (hbase : base ≤ w.heap.size)
    (h : ∀ g cap w', w'.ownsRow base 3 1 (.slice (some ⟨g, 0, none⟩) (n + 1) cap) (n + 1) (cs ++ [.int .i64 d]) → Gou.Mod (fun k => v.ownBlock = some k) w w' → wpList Try.prog ops Q rest (a.put o.dst (.slice (some ⟨g, 0, none⟩) (n + 1) cap)) w') : wpList Try.prog ops Q (o :: rest) a w := by
  obtain ⟨i0, hi0, hz0, hz1, hz2⟩ := info_parts info_int
  exact wpList_append_lies w hg s x 72 ho base 3 i0 (.int .i64 0) 1 8 Try.underlying72 hi0 hz0 hz1 hz2 rfl (by omega) v n cs hs hown ⟨B, 0, none⟩ 1 1 [.int .i64 d] hx rfl (news_at hB rfl) (fun u hu => by
    simp only [List.mem_cons, List.not_mem_nil, or_false] at hu
    subst hu
    simp [Value.oneCell']) (by omega) (by unfold maxLen; omega) (by omega) hbase _ rfl (fun g cap w' h1 h2 _ _ => h g cap w' h1 (Gou.Mod.of_grown h2))

/-- What the document's reading of numbers comes to. -/
def NumP (w : World) (bs : List Nat) (n k : Nat) (e : Ending) (w' : World) : Prop :=
  Gou.Mod (fun _ => False) w w' ∧ match timesAt (numAt bs) n k with
    | some (xs, q) => ∃ p c, e = .returned (.tuple #[.slice p k c, .int .i64 q, .bool true]) ∧ w'.ownsRow w.heap.size 3 1 (.slice p k c) k (ivs xs) ∧ xs.length = k
    | none => e = .returned (.tuple #[.slice none 0 0, .int .i64 0, .bool false])

set_option linter.constructorNameAsVariable false
set_option maxRecDepth 100000

set_option maxHeartbeats 4000000 in
theorem numbersR_any (w : World) (pb : Option Addr) (cb : Nat) (bs : List Nat) (h : BytesAt (fun _ => True) w (.slice pb bs.length cb) bs) (hby : ∀ x ∈ bs, x < 256) (hl : bs.length ≤ 10000000) (n k : Nat) (hn : n ≤ bs.length) (hk : k ≤ 10000000) :
    Calls Try.prog 40 #[.slice pb bs.length cb, .int .i64 n, .int .i64 k] w (NumP w bs n k) := by
  have H := Lib.hid h
  have Hby := Lib.hid hby
  clear h hby
  go_enter Try.func40, Try.ntmps40
  go_wp2_with fail
  go_loopw [1, 9, 10] (fun va vo vi wr => ∃ (j q : Nat) (xs : List Int), va = .int .i64 q ∧ vi = .int .i64 j ∧ j ≤ k ∧ q ≤ bs.length ∧ timesAt (numAt bs) n j = some (xs, q) ∧ xs.length = j ∧ wr.ownsRow w.heap.size 3 1 vo j (ivs xs) ∧ Gou.Mod (fun _ => False) w wr) (fun _ _ vi _ => k - (intOf vi).toNat)
  case atStart => exact ⟨0, n, [], rfl, rfl, by omega, hn, rfl, rfl, World.ownsRow_nil _ _ _ _, Gou.Mod.refl _ _⟩
  case round =>
    obtain ⟨j, q, xs, rfl, rfl, hj, hq, ht, hxl, hown, hm⟩ := hrel
    obtain ⟨po, co, rfl⟩ := Gou.ownsRow_form hown
    have Ht := Lib.hid ht
    have Hxl := Lib.hid hxl
    have Hown := Lib.hid hown
    have Hm := Lib.hid hm
    clear ht hxl hown hm
    by_cases hjk : j < k
    · have e1 : decide ((j : Int) < (k : Int)) = true := decide_eq_true (by omega)
      have e1' : decide (j < k) = true := decide_eq_true (by omega)
      have Hq := Lib.hid hq
      go_wp2_with fail
      go_loopw [1, 11, 12] (fun va vm vu wq => ∃ (m e : Nat) (ia im iu : Int), va = .int .i64 ia ∧ vm = .int .i64 im ∧ vu = .int .i64 iu ∧ e ≤ 5 ∧ q + e ≤ bs.length ∧ ia = ((q + e : Nat) : Int) ∧ im = (m : Int) ∧ iu = ((2 ^ (7 * e) : Nat) : Int) ∧ m < 2 ^ (7 * e) ∧ numGo bs (5 - e) (q + e) m (7 * e) = numAt bs q ∧ wq = wr) (fun va _ _ _ => q + 5 - (intOf va).toNat)
      case atStart => exact ⟨0, 0, _, _, _, rfl, rfl, rfl, by omega, by omega, rfl, rfl, rfl, by simp, rfl, rfl⟩
      case round =>
        obtain ⟨m, e, ia, im, iu, rfl, rfl, rfl, he, hqe, hia, him, hiu, hmlt, hgo, hww⟩ := hrel
        subst hww
        have Hgo := Lib.hid hgo
        have Hnone : Hid (numAt bs q = none → timesAt (numAt bs) n k = none) := Lib.hid (fun h => timesAt_none (k := j) (by rw [timesAt, Ht.out]; simp only [h]) (by omega))
        clear hgo
        by_cases hql : q + e < bs.length
        case neg =>
          have t1 : decide ((bs.length : Int) ≤ ia) = true := decide_eq_true (by omega)
          have Hn := Lib.hid (Hnone.out (by rw [← Hgo.out]; exact numGo_end hql))
          clear hia him hiu hmlt hql
          go_wp2_with fail
          refine bodyPost_ret (v := .tuple #[.slice none 0 0, .int .i64 0, .bool false]) (by simp [results, Try.results40, go_sem]) rfl ?_
          exact ⟨Hm.out, by rw [Hn.out]⟩
        have t1 : decide ((bs.length : Int) ≤ ia) = false := decide_eq_false (by omega)
        obtain ⟨ve, hve⟩ : ∃ ve : Int, ve = (e : Int) := ⟨_, rfl⟩
        have r5 : wrap64 (ia - (q : Int)) = ve := (IntWalk.wrap64_in _ (by clear hmlt him hiu; omega)).trans (by clear hmlt him hiu; omega)
        by_cases he5 : e = 5
        · subst he5
          have t2 : decide (5 ≤ ve) = true := decide_eq_true (by rw [hve]; exact Int.le_refl _)
          have t2' : decide (5 ≤ ia - (q : Int)) = true := decide_eq_true (by omega)
          have Hn := Lib.hid (Hnone.out (by rw [← Hgo.out, numGo]))
          clear hia him hiu hmlt hql hve
          go_wp2_with fail
          refine bodyPost_ret (v := .tuple #[.slice none 0 0, .int .i64 0, .bool false]) (by simp [results, Try.results40, go_sem]) rfl ?_
          exact ⟨Hm.out, by rw [Hn.out]⟩
        have t2 : decide (5 ≤ ve) = false := decide_eq_false (by omega)
        have t2' : decide (5 ≤ ia - (q : Int)) = false := decide_eq_false (by omega)
        obtain ⟨-, b, o, rfl, hb, -, hc⟩ := H.out.celz (by omega)
        have hcell := hc (q + e) hql
        rw [← Hm.out.cell (p := ⟨b, o + (q + e), none⟩) hb (fun h => h)] at hcell
        have hbc := Hby.out _ (List.getElem_mem hql)
        have Hmore := Lib.hid (fun h => numGo_more (m := m) (k := e) hql h (by omega))
        have Hlast := Lib.hid (fun h => numGo_last (m := m) (k := e) hql h (by omega))
        have hia0 : 0 ≤ ia := by omega
        have hial : ia < (bs.length : Int) := by omega
        have hian : ia.toNat = q + e := by omega
        clear hc
        generalize bs[q + e] = c at *
        obtain ⟨f0, f1, f2, f3, f4, f5⟩ := num_facts (c := c) hbc hmlt (by omega : e ≤ 4)
        obtain ⟨M, hM⟩ : ∃ M, M = m + c % 128 * 2 ^ (7 * e) := ⟨_, rfl⟩
        obtain ⟨vc, hvc⟩ : ∃ vc : Int, vc = (c : Int) := ⟨_, rfl⟩
        obtain ⟨vd, hvd⟩ : ∃ vd : Int, vd = ((c % 128 : Nat) : Int) := ⟨_, rfl⟩
        obtain ⟨vx, hvx⟩ : ∃ vx : Int, vx = ((c % 128 * 2 ^ (7 * e) : Nat) : Int) := ⟨_, rfl⟩
        obtain ⟨V, hV⟩ : ∃ V : Int, V = (M : Int) := ⟨_, rfl⟩
        obtain ⟨u2, hu2⟩ : ∃ u2 : Int, u2 = ((2 ^ (7 * (e + 1)) : Nat) : Int) := ⟨_, rfl⟩
        obtain ⟨a2, ha2⟩ : ∃ a2 : Int, a2 = ((q + (e + 1) : Nat) : Int) := ⟨_, rfl⟩
        obtain ⟨e2, he2⟩ : ∃ e2 : Int, e2 = ((e + 1 : Nat) : Int) := ⟨_, rfl⟩
        have r6 : wrap64 (ia + 1) = a2 := (IntWalk.wrap64_in _ (by clear hmlt him hiu f0 f1 f2 f3 f4 f5 hM hV hu2 hvd hvx; omega)).trans (by clear hmlt him hiu f0 f1 f2 f3 f4 f5 hM hV hu2 hvd hvx; omega)
        have r7 : wrap64 (a2 - (q : Int)) = e2 := (IntWalk.wrap64_in _ (by clear hmlt him hiu f0 f1 f2 f3 f4 f5 hM hV hu2 hvd hvx; omega)).trans (by clear hmlt him hiu f0 f1 f2 f3 f4 f5 hM hV hu2 hvd hvx; omega)
        rw [← hM] at f3 f5
        rw [← hvc] at f0 f1
        rw [← hvd] at f1 f2
        rw [← hvx] at f2 f3
        rw [← hiu] at f2 f4
        rw [← him, ← hV] at f3
        rw [← hu2] at f4
        rw [← hvc, ← hian] at hcell
        have HF5 := Lib.hid f5
        have HV := Lib.hid hV
        have Hu2 := Lib.hid hu2
        have Ha2 := Lib.hid ha2
        have He2 := Lib.hid he2
        have Hvc := Lib.hid hvc
        have HM := Lib.hid hM
        have Hve := Lib.hid hve
        have Hia := Lib.hid hia
        clear f5 hV hu2 ha2 he2 hvc hvd hvx hM hve him hiu hia hmlt hian
        have Hc8 := Lib.hid hbc
        clear hbc
        by_cases hc1 : 128 ≤ c
        · have t3 : decide (vc < 128) = false := decide_eq_false (by have := Hvc.out; omega)
          have Hgo2 : Hid (numGo bs (5 - (e + 1)) (q + (e + 1)) M (7 * (e + 1)) = numAt bs q) := Lib.hid (by rw [← Hgo.out, Hmore.out hc1, HM.out]; rfl)
          clear hc1
          go_wp2_with fail
          go_roundw
          case rel => exact ⟨M, e + 1, ia + 1, V, u2, rfl, congrArg (Value.int IntKind.i64) f3, congrArg (Value.int IntKind.i64) f4, by omega, by omega, by rw [Hia.out]; push_cast; omega, HV.out, Hu2.out, HF5.out, Hgo2.out, trivial⟩
          case measure => have := Hia.out; simp [intOf]; omega
        · have t3 : decide (vc < 128) = true := decide_eq_true (by have := Hvc.out; omega)
          have Hgo2 : Hid (numAt bs q = if M < 4294967296 ∧ (c ≠ 0 ∨ e = 0) then some (numVal M, q + e + 1) else none) := Lib.hid (by rw [← Hgo.out, Hlast.out hc1, HM.out])
          clear hc1
          by_cases hM2 : M < 4294967296
          case neg =>
            have t4 : decide (4294967295 < V) = true := decide_eq_true (by have := HV.out; omega)
            have Hn := Lib.hid (Hnone.out (by rw [Hgo2.out, if_neg (fun h => hM2 h.1)]))
            clear hM2
            by_cases hc0 : c = 0
            · have t5 : (vc == 0) = true := by rw [Hvc.out, hc0]; rfl
              by_cases he0 : e = 0
              · have t6 : decide (1 < e2) = false := decide_eq_false (by have := He2.out; omega)
                have t6' : decide (1 < ia + 1 - (q : Int)) = false := decide_eq_false (by have := Hia.out; omega)
                clear hc0 he0
                go_wp2_with fail
                refine bodyPost_ret (v := .tuple #[.slice none 0 0, .int .i64 0, .bool false]) (by simp [results, Try.results40, go_sem]) rfl ?_
                exact ⟨Hm.out, by rw [Hn.out]⟩
              · have t6 : decide (1 < e2) = true := decide_eq_true (by have := He2.out; omega)
                have t6' : decide (1 < ia + 1 - (q : Int)) = true := decide_eq_true (by have := Hia.out; omega)
                clear hc0 he0
                go_wp2_with fail
                refine bodyPost_ret (v := .tuple #[.slice none 0 0, .int .i64 0, .bool false]) (by simp [results, Try.results40, go_sem]) rfl ?_
                exact ⟨Hm.out, by rw [Hn.out]⟩
            · have t5 : (vc == 0) = false := by simp; have := Hvc.out; omega
              clear hc0
              go_wp2_with fail
              refine bodyPost_ret (v := .tuple #[.slice none 0 0, .int .i64 0, .bool false]) (by simp [results, Try.results40, go_sem]) rfl ?_
              exact ⟨Hm.out, by rw [Hn.out]⟩
          have t4 : decide (4294967295 < V) = false := decide_eq_false (by have := HV.out; omega)
          have HM2 := Lib.hid hM2
          clear hM2
          by_cases hbad : c = 0 ∧ e ≠ 0
          · have Hn := Lib.hid (Hnone.out (by rw [Hgo2.out, if_neg (fun h => h.2.elim (fun h => h hbad.1) hbad.2)]))
            have t5 : (vc == 0) = true := by rw [Hvc.out, hbad.1]; rfl
            have t6 : decide (1 < e2) = true := decide_eq_true (by have := He2.out; omega)
            have t6' : decide (1 < ia + 1 - (q : Int)) = true := decide_eq_true (by have := Hia.out; omega)
            clear hbad
            go_wp2_with fail
            refine bodyPost_ret (v := .tuple #[.slice none 0 0, .int .i64 0, .bool false]) (by simp [results, Try.results40, go_sem]) rfl ?_
            exact ⟨Hm.out, by rw [Hn.out]⟩
          · have Hnum : Hid (numAt bs q = some (numVal M, q + e + 1)) := Lib.hid (by rw [Hgo2.out, if_pos ⟨HM2.out, by omega⟩])
            have Hgood : Hid (((vc == 0) = true ∧ decide (1 < e2) = false ∧ decide (1 < ia + 1 - (q : Int)) = false) ∨ (vc == 0) = false) := Lib.hid (by
              by_cases hc0 : c = 0
              · exact .inl ⟨by rw [Hvc.out, hc0]; rfl, decide_eq_false (by have := He2.out; omega), decide_eq_false (by have := Hia.out; omega)⟩
              · exact .inr (by simp; have := Hvc.out; omega))
            clear hbad
            have Hnx : Hid (timesAt (numAt bs) n (j + 1) = some (xs ++ [numVal M], q + e + 1)) := Lib.hid (by rw [timesAt, Ht.out]; simp only [Hnum.out])
            have Hjl : Hid (j ≤ 100000000) := Lib.hid (by omega)
            have Hbs : Hid (w.heap.size ≤ (wr.alloc (.cells #[.int .i64 (numVal M)] 3)).heap.size) := Lib.hid (by rw [World.size_alloc]; have := Hm.out.size; omega)
            have hgood := Hgood.out
            clear hb
            rcases hgood with ⟨t5, t6, t6'⟩ | t5
            · by_cases hp : M % 2 = 1
              · have r8 : wrap64 ((wrap64 (-wrap64 (V + 1))).tdiv 2) = numVal M := num_odd HV.out HM2.out hp
                have r8' : (V.tmod 2 == 1) = true := by rw [HV.out]; show (((M % 2 : Nat) : Int) == 1) = true; rw [hp]; rfl
                clear hp
                go_wp2_with (first | ((with_reducible refine wpList_append_int ?g1_1a ?s1_1a ?x1_1a ?o1_1a w.heap.size (.slice po j co) j (ivs xs) wr.heap.size (numVal M) ?a1_1a ?b1_1a ?d1_1a ?e1_1a ?f1_1a ?q1_1a ?r1_1a); (case g1_1a | o1_1a | a1_1a | b1_1a => exact rfl); (case d1_1a => exact Hown.out.alloc _); (case e1_1a => exact heap_alloc_new wr _); (case f1_1a => exact Hjl.out); (case q1_1a => exact Hbs.out); (intro gg cap w5 hown5 m5)) | fail)
                have hown6 := hown5
                have Hown6 : Hid (w5.ownsRow w.heap.size 3 1 (.slice (some ⟨gg, 0, none⟩) (j + 1) cap) (j + 1) (ivs (xs ++ [numVal M]))) := Lib.hid (by simpa [ivs] using hown5)
                have M5 : Hid (Gou.Mod (fun _ => False) w w5) := Lib.hid ((Hm.out.trans' (Gou.Mod.alloc _ _ _)).trans m5 (fun k hk e => by have := (Hown.out.lt k e).1; omega))
                clear hown5 m5 hown6
                go_wp2_with fail
                go_roundw
                case rel => exact ⟨j + 1, q + e + 1, xs ++ [numVal M], by rw [show ia + 1 = ((q + e + 1 : Nat) : Int) from by rw [Hia.out]; push_cast; omega], by go_num, by omega, by omega, Hnx.out, by rw [List.length_append, Hxl.out]; rfl, Hown6.out, M5.out⟩
                case measure => simp [intOf]; omega
              · have r8 : wrap64 (V.tdiv 2) = numVal M := num_even HV.out HM2.out hp
                have r8' : (V.tmod 2 == 1) = false := by rw [HV.out]; show (((M % 2 : Nat) : Int) == 1) = false; exact beq_eq_false_iff_ne.2 (by omega)
                clear hp
                go_wp2_with (first | ((with_reducible refine wpList_append_int ?g1_1b ?s1_1b ?x1_1b ?o1_1b w.heap.size (.slice po j co) j (ivs xs) wr.heap.size (numVal M) ?a1_1b ?b1_1b ?d1_1b ?e1_1b ?f1_1b ?q1_1b ?r1_1b); (case g1_1b | o1_1b | a1_1b | b1_1b => exact rfl); (case d1_1b => exact Hown.out.alloc _); (case e1_1b => exact heap_alloc_new wr _); (case f1_1b => exact Hjl.out); (case q1_1b => exact Hbs.out); (intro gg cap w5 hown5 m5)) | fail)
                have hown6 := hown5
                have Hown6 : Hid (w5.ownsRow w.heap.size 3 1 (.slice (some ⟨gg, 0, none⟩) (j + 1) cap) (j + 1) (ivs (xs ++ [numVal M]))) := Lib.hid (by simpa [ivs] using hown5)
                have M5 : Hid (Gou.Mod (fun _ => False) w w5) := Lib.hid ((Hm.out.trans' (Gou.Mod.alloc _ _ _)).trans m5 (fun k hk e => by have := (Hown.out.lt k e).1; omega))
                clear hown5 m5 hown6
                go_wp2_with fail
                go_roundw
                case rel => exact ⟨j + 1, q + e + 1, xs ++ [numVal M], by rw [show ia + 1 = ((q + e + 1 : Nat) : Int) from by rw [Hia.out]; push_cast; omega], by go_num, by omega, by omega, Hnx.out, by rw [List.length_append, Hxl.out]; rfl, Hown6.out, M5.out⟩
                case measure => simp [intOf]; omega
            · by_cases hp : M % 2 = 1
              · have r8 : wrap64 ((wrap64 (-wrap64 (V + 1))).tdiv 2) = numVal M := num_odd HV.out HM2.out hp
                have r8' : (V.tmod 2 == 1) = true := by rw [HV.out]; show (((M % 2 : Nat) : Int) == 1) = true; rw [hp]; rfl
                clear hp
                go_wp2_with (first | ((with_reducible refine wpList_append_int ?g1_2a ?s1_2a ?x1_2a ?o1_2a w.heap.size (.slice po j co) j (ivs xs) wr.heap.size (numVal M) ?a1_2a ?b1_2a ?d1_2a ?e1_2a ?f1_2a ?q1_2a ?r1_2a); (case g1_2a | o1_2a | a1_2a | b1_2a => exact rfl); (case d1_2a => exact Hown.out.alloc _); (case e1_2a => exact heap_alloc_new wr _); (case f1_2a => exact Hjl.out); (case q1_2a => exact Hbs.out); (intro gg cap w5 hown5 m5)) | fail)
                have hown6 := hown5
                have Hown6 : Hid (w5.ownsRow w.heap.size 3 1 (.slice (some ⟨gg, 0, none⟩) (j + 1) cap) (j + 1) (ivs (xs ++ [numVal M]))) := Lib.hid (by simpa [ivs] using hown5)
                have M5 : Hid (Gou.Mod (fun _ => False) w w5) := Lib.hid ((Hm.out.trans' (Gou.Mod.alloc _ _ _)).trans m5 (fun k hk e => by have := (Hown.out.lt k e).1; omega))
                clear hown5 m5 hown6
                go_wp2_with fail
                go_roundw
                case rel => exact ⟨j + 1, q + e + 1, xs ++ [numVal M], by rw [show ia + 1 = ((q + e + 1 : Nat) : Int) from by rw [Hia.out]; push_cast; omega], by go_num, by omega, by omega, Hnx.out, by rw [List.length_append, Hxl.out]; rfl, Hown6.out, M5.out⟩
                case measure => simp [intOf]; omega
              · have r8 : wrap64 (V.tdiv 2) = numVal M := num_even HV.out HM2.out hp
                have r8' : (V.tmod 2 == 1) = false := by rw [HV.out]; show (((M % 2 : Nat) : Int) == 1) = false; exact beq_eq_false_iff_ne.2 (by omega)
                clear hp
                go_wp2_with (first | ((with_reducible refine wpList_append_int ?g1_2b ?s1_2b ?x1_2b ?o1_2b w.heap.size (.slice po j co) j (ivs xs) wr.heap.size (numVal M) ?a1_2b ?b1_2b ?d1_2b ?e1_2b ?f1_2b ?q1_2b ?r1_2b); (case g1_2b | o1_2b | a1_2b | b1_2b => exact rfl); (case d1_2b => exact Hown.out.alloc _); (case e1_2b => exact heap_alloc_new wr _); (case f1_2b => exact Hjl.out); (case q1_2b => exact Hbs.out); (intro gg cap w5 hown5 m5)) | fail)
                have hown6 := hown5
                have Hown6 : Hid (w5.ownsRow w.heap.size 3 1 (.slice (some ⟨gg, 0, none⟩) (j + 1) cap) (j + 1) (ivs (xs ++ [numVal M]))) := Lib.hid (by simpa [ivs] using hown5)
                have M5 : Hid (Gou.Mod (fun _ => False) w w5) := Lib.hid ((Hm.out.trans' (Gou.Mod.alloc _ _ _)).trans m5 (fun k hk e => by have := (Hown.out.lt k e).1; omega))
                clear hown5 m5 hown6
                go_wp2_with fail
                go_roundw
                case rel => exact ⟨j + 1, q + e + 1, xs ++ [numVal M], by rw [show ia + 1 = ((q + e + 1 : Nat) : Int) from by rw [Hia.out]; push_cast; omega], by go_num, by omega, by omega, Hnx.out, by rw [List.length_append, Hxl.out]; rfl, Hown6.out, M5.out⟩
                case measure => simp [intOf]; omega
    · obtain rfl : j = k := by omega
      have e1 : decide ((j : Int) < (j : Int)) = false := by simp
      go_wp2_with fail
      refine bodyPost_ret (v := .tuple #[.slice po j co, .int .i64 q, .bool true]) (by simp [results, Try.results40, go_sem]) rfl ?_
      exact ⟨Hm.out, by rw [Ht.out]; exact ⟨_, _, rfl, Hown.out, Hxl.out⟩⟩

end Go.Proofs.Ytnamnmipgpcjjaa

/- Acts as bytes: the document's lists of numbers, and its count of pixels. -/
namespace Go.Gou
open Go.RowKit

theorem times_one {α : Type} {f : Nat → Option (α × Nat)} {n q : Nat} {xs : List α} (h : timesAt f n 1 = some (xs, q)) : ∃ x, xs = [x] ∧ f n = some (x, q) := by
  rw [timesAt] at h
  simp only [timesAt] at h
  split at h
  · rename_i x q' hx
    simp only [List.nil_append, Option.some.injEq, Prod.mk.injEq] at h
    obtain ⟨rfl, rfl⟩ := h
    exact ⟨x, rfl, hx⟩
  · cases h
theorem times_one_none {α : Type} {f : Nat → Option (α × Nat)} {n : Nat} (h : timesAt f n 1 = none) : f n = none := by
  rw [timesAt] at h
  simp only [timesAt] at h
  split at h
  · cases h
  · assumption

theorem Spec.end_le {α : Type} {bs : List Nat} {P : Nat → Option (α × Nat)} {G : α → List Nat → Prop} (h : Spec bs P G) {n m : Nat} {x : α} (hp : P n = some (x, m)) (hn : n ≤ bs.length) : m ≤ bs.length := by
  obtain ⟨es, _, s, rfl⟩ := (h n x m).1 hp
  have := s.le
  omega

/-- The cells of an own row of numbers. -/
theorem own_ints {w : World} {base : Nat} {e : TypeId} {p : Option Addr} {c n : Nat} {xs : List Int} (h : w.ownsRow base e 1 (.slice p n c) n (ivs xs)) (h0 : 0 < n) : ∃ g, p = some ⟨g, 0, none⟩ ∧ base ≤ g ∧ g < w.heap.size ∧ ∀ i, (hi : i < xs.length) → w.cell? ⟨g, i, none⟩ = some (.int .i64 xs[i]) := by
  have hlt := h.lt
  obtain ⟨hl, h⟩ := h
  rcases h with ⟨_, h1⟩ | ⟨g, cap, cur, e, hg, hh, hn, _, _, ht⟩
  · omega
  · simp only [Value.slice.injEq] at e
    obtain ⟨rfl, _, rfl⟩ := e
    refine ⟨g, rfl, hg, (hlt g rfl).2, fun i hi => ?_⟩
    rw [cell_of_row w g i cur _ (0, 0) hh]
    have hl2 : xs.length = n := by simpa [ivs] using hl
    have : cur.toList[i]? = (ivs xs)[i]? := by rw [← ht, List.getElem?_take, if_pos (by omega)]
    rw [← Array.getElem?_toList, this]
    simp [ivs, hi]

end Go.Gou
namespace Go.Proofs.Ytnamnmipgpcjjaa
open Go.RowKit Go.Gou

/-- What the document's reading of a list comes to. -/
def LstP (w : World) (bs : List Nat) (n : Nat) (e : Ending) (w' : World) : Prop :=
  Gou.Mod (fun _ => False) w w' ∧ match listAt bs n with
    | some (xs, q) => ∃ p c, e = .returned (.tuple #[.slice p xs.length c, .int .i64 q, .bool true]) ∧ w'.ownsRow w.heap.size 3 1 (.slice p xs.length c) xs.length (ivs xs)
    | none => e = .returned (.tuple #[.slice none 0 0, .int .i64 0, .bool false])

set_option linter.constructorNameAsVariable false
set_option maxRecDepth 100000

set_option maxHeartbeats 4000000 in
theorem listR_any (w : World) (pb : Option Addr) (cb : Nat) (bs : List Nat) (h : BytesAt (fun _ => True) w (.slice pb bs.length cb) bs) (hby : ∀ x ∈ bs, x < 256) (hl : bs.length ≤ 10000000) (n : Nat) (hn : n ≤ bs.length) :
    Calls Try.prog 69 #[.slice pb bs.length cb, .int .i64 n] w (LstP w bs n) := by
  have H := Lib.hid h
  have Hby := Lib.hid hby
  clear h hby
  go_enter Try.func69, Try.ntmps69
  go_wp2_with fail
  refine (numbersR_any w pb cb bs H.out Hby.out hl n 1 hn (by omega)).mono ?_
  rintro e w1 ⟨hm1, hp⟩
  rcases ht : timesAt (numAt bs) n 1 with _ | ⟨xs, q⟩
  · rw [ht] at hp
    subst hp
    have Hno : Hid (listAt bs n = none) := Lib.hid (by unfold listAt withinAt; rw [times_one_none ht]; rfl)
    have Hm1 := Lib.hid hm1
    clear ht hm1
    go_wp2_with fail
    refine bodyPost_ret (v := .tuple #[.slice none 0 0, .int .i64 0, .bool false]) (by simp [results, Try.results69, go_sem]) rfl ?_
    exact ⟨Hm1.out, by rw [Hno.out]⟩
  rw [ht] at hp
  obtain ⟨p, c, rfl, hown, hxl⟩ := hp
  obtain ⟨x, rfl, hx⟩ := times_one ht
  obtain ⟨g, rfl, hg0, hg1, hc⟩ := own_ints hown (by omega)
  have c0 : w1.cell? ⟨g, 0, none⟩ = some (.int .i64 x) := hc 0 (by simp)
  have Hx := Lib.hid hx
  have Hm1 := Lib.hid hm1
  have hq := (num_spec Hby.out).end_le hx hn
  have H1 := Lib.hid (H.out.mod hm1 (fun _ _ _ h => h))
  clear hc hown hxl ht hx hm1 hg0
  by_cases hx0 : 0 ≤ x
  case neg =>
    have t1 : decide (x < 0) = true := decide_eq_true (by omega)
    have Hno : Hid (listAt bs n = none) := Lib.hid (by unfold listAt withinAt; rw [Hx.out]; simp only; rw [if_neg (fun h => hx0 h.1)]; rfl)
    clear hx0
    go_wp2_with fail
    refine bodyPost_ret (v := .tuple #[.slice none 0 0, .int .i64 0, .bool false]) (by simp [results, Try.results69, go_sem]) rfl ?_
    exact ⟨Hm1.out, by rw [Hno.out]⟩
  have t1 : decide (x < 0) = false := decide_eq_false (by omega)
  by_cases hx1 : x ≤ 100
  case neg =>
    have t2 : decide (100 < x) = true := decide_eq_true (by omega)
    have Hno : Hid (listAt bs n = none) := Lib.hid (by unfold listAt withinAt; rw [Hx.out]; simp only; rw [if_neg (fun h => hx1 h.2)]; rfl)
    clear hx1
    go_wp2_with fail
    refine bodyPost_ret (v := .tuple #[.slice none 0 0, .int .i64 0, .bool false]) (by simp [results, Try.results69, go_sem]) rfl ?_
    exact ⟨Hm1.out, by rw [Hno.out]⟩
  have t2 : decide (100 < x) = false := decide_eq_false (by omega)
  obtain ⟨K, hK⟩ : ∃ K : Nat, x = (K : Int) := ⟨x.toNat, by omega⟩
  have HK := Lib.hid hK
  have Hres : Hid (listAt bs n = timesAt (numAt bs) q K) := Lib.hid (by
    unfold listAt withinAt
    rw [Hx.out]
    simp only
    rw [if_pos ⟨hx0, hx1⟩]
    show timesAt (numAt bs) q x.toNat = _
    rw [hK]
    rfl)
  have HK1 : Hid (K ≤ 100) := Lib.hid (by omega)
  clear hx0 hx1 hK
  go_wp2_with fail
  rw [HK.out]
  refine (numbersR_any w1 pb cb bs H1.out Hby.out hl q K hq (by have := HK1.out; omega)).mono ?_
  rintro e w2 ⟨hm2, hp⟩
  have Hm2 := Lib.hid (Hm1.out.trans' hm2)
  have hs1 := Hm1.out.size
  rcases ht : timesAt (numAt bs) q K with _ | ⟨ys, q2⟩
  · rw [ht] at hp
    subst hp
    have Hno : Hid (listAt bs n = none) := Lib.hid (Hres.out.trans ht)
    clear ht hm2
    go_wp2_with fail
    refine bodyPost_ret (v := .tuple #[.slice none 0 0, .int .i64 0, .bool false]) (by simp [results, Try.results69, go_sem]) rfl ?_
    exact ⟨Hm2.out, by rw [Hno.out]⟩
  · rw [ht] at hp
    obtain ⟨p2, c2, rfl, hown2, hyl⟩ := hp
    have Hyes : Hid (listAt bs n = some (ys, q2)) := Lib.hid (Hres.out.trans ht)
    have Hown2 := Lib.hid (ownsRow_low (base' := w.heap.size) hown2 hs1)
    have Hyl := Lib.hid hyl
    clear ht hm2 hown2 hyl
    go_wp2_with fail
    refine bodyPost_ret (v := .tuple #[.slice p2 K c2, .int .i64 q2, .bool true]) (by simp [results, Try.results69, go_sem]) rfl ?_
    refine ⟨Hm2.out, by rw [Hyes.out]; exact ⟨p2, c2, by rw [Hyl.out], by rw [Hyl.out]; exact Hown2.out⟩⟩

theorem mul_in {x y : Int} (h1 : 1 ≤ x) (h2 : x ≤ 4096) (h3 : 1 ≤ y) (h4 : y ≤ 4096) : wrap64 (x * y) = x * y := by
  have a : x * y ≤ 4096 * 4096 := Int.mul_le_mul h2 h4 (by omega) (by omega)
  have b : 0 ≤ x * y := Int.mul_nonneg (by omega) (by omega)
  exact IntWalk.wrap64_in _ (by omega)

set_option maxHeartbeats 2000000 in
theorem countR_any (w : World) (x y : Int) :
    Calls Try.prog 68 #[.int .i64 x, .int .i64 y] w fun e w' => e = .returned (.int .i64 (countOf x y)) ∧ w' = w := by
  go_enter Try.func68, Try.ntmps68
  by_cases h1 : 1 ≤ x
  case neg =>
    have t1 : decide (1 ≤ x) = false := decide_eq_false h1
    have Hr : Hid (countOf x y = 0) := Lib.hid (by unfold countOf; rw [if_pos (by omega)])
    clear h1
    go_wp2_with fail
    go_ret
    exact ⟨by rw [Hr.out]; rfl, rfl⟩
  have t1 : decide (1 ≤ x) = true := decide_eq_true h1
  by_cases h2 : 1 ≤ y
  case neg =>
    have t2 : decide (1 ≤ y) = false := decide_eq_false h2
    have Hr : Hid (countOf x y = 0) := Lib.hid (by unfold countOf; rw [if_pos (by omega)])
    clear h2
    go_wp2_with fail
    go_ret
    exact ⟨by rw [Hr.out]; rfl, rfl⟩
  have t2 : decide (1 ≤ y) = true := decide_eq_true h2
  by_cases h3 : x ≤ 4096
  case neg =>
    have t3 : decide (x ≤ 4096) = false := decide_eq_false h3
    have Hr : Hid (countOf x y = 0) := Lib.hid (by unfold countOf; rw [if_pos (by omega)])
    clear h3
    go_wp2_with fail
    go_ret
    exact ⟨by rw [Hr.out]; rfl, rfl⟩
  have t3 : decide (x ≤ 4096) = true := decide_eq_true h3
  by_cases h4 : y ≤ 4096
  case neg =>
    have t4 : decide (y ≤ 4096) = false := decide_eq_false h4
    have Hr : Hid (countOf x y = 0) := Lib.hid (by unfold countOf; rw [if_pos (by omega)])
    clear h4
    go_wp2_with fail
    go_ret
    exact ⟨by rw [Hr.out]; rfl, rfl⟩
  have t4 : decide (y ≤ 4096) = true := decide_eq_true h4
  have hw := mul_in h1 h3 h2 h4
  have Hpos : Hid (0 ≤ x * y) := Lib.hid (Int.mul_nonneg (by omega) (by omega))
  by_cases h5 : x * y ≤ 65536
  case neg =>
    have t5 : decide (x * y ≤ 65536) = false := decide_eq_false h5
    have Hr : Hid (countOf x y = 0) := Lib.hid (by unfold countOf; rw [if_pos (by omega)])
    clear h5 h1 h2 h3 h4
    go_wp2_with fail
    go_ret
    exact ⟨by rw [Hr.out]; rfl, rfl⟩
  have t5 : decide (x * y ≤ 65536) = true := decide_eq_true h5
  have Hr : Hid (((countOf x y : Nat) : Int) = x * y) := Lib.hid (by unfold countOf; rw [if_neg (by omega)]; have := Hpos.out; omega)
  clear h5 h1 h2 h3 h4
  go_wp2_with fail
  go_ret
  exact ⟨by rw [Hr.out]; exact congrArg (fun v => Ending.returned (Value.int IntKind.i64 v)) hw, rfl⟩

end Go.Proofs.Ytnamnmipgpcjjaa

/- Acts as bytes: the document's pixels. -/
namespace Go.Gou
open Go.RowKit

theorem pixelAt_eq {bs : List Nat} {n : Nat} (h : n + 4 ≤ bs.length) : pixelAt bs n = some ([bs[n], bs[n + 1], bs[n + 2], bs[n + 3]], n + 4) := by
  have r : ∀ k, (hk : k < bs.length) → rawAt bs k = some (bs[k], k + 1) := fun k hk => by unfold rawAt; rw [dif_pos hk]
  unfold pixelAt
  simp only [timesAt, r n (by omega), r (n + 1) (by omega), r (n + 2) (by omega), r (n + 3) (by omega)]
  rfl

theorem pxs_snoc (ps : List (List Nat)) (a b c d : Nat) : pxs ((ps ++ [[a, b, c, d]]).map Pxl.of) = pxs (ps.map Pxl.of) ++ [.int .u8 (a : Nat), .int .u8 (b : Nat), .int .u8 (c : Nat), .int .u8 (d : Nat)] := by
  rw [List.map_append, pxs, List.flatMap_append]
  rfl

end Go.Gou
namespace Go.Proofs.Ytnamnmipgpcjjaa
open Go.RowKit Go.Gou

/-- What the document's reading of pixels comes to. -/
def PxlsP (w : World) (bs : List Nat) (n k : Nat) (e : Ending) (w' : World) : Prop :=
  Gou.Mod (fun _ => False) w w' ∧ if 4 * k ≤ bs.length - n then ∃ ps p c, timesAt (pixelAt bs) n k = some (ps, n + 4 * k) ∧ ps.length = k ∧ e = .returned (.tuple #[.slice p k c, .int .i64 (n + 4 * k : Nat), .bool true]) ∧ w'.ownsRow w.heap.size 27 4 (.slice p k c) k (pxs (ps.map Pxl.of))
    else e = .returned (.tuple #[.slice none 0 0, .int .i64 0, .bool false])

theorem info_px' : (Try.prog.info? 27).map (fun i => (i.zero, i.size, i.bytes)) = some (some (.agg #[.int .u8 0, .int .u8 0, .int .u8 0, .int .u8 0]), 4, 4) := by kernel_rfl

set_option linter.constructorNameAsVariable false
set_option maxRecDepth 100000

set_option maxHeartbeats 4000000 in
theorem pixelsR_any (w : World) (pb : Option Addr) (cb : Nat) (bs : List Nat) (h : BytesAt (fun _ => True) w (.slice pb bs.length cb) bs) (hl : bs.length ≤ 10000000) (n k : Nat) (hn : n ≤ bs.length) (hk : k ≤ 100000) :
    Calls Try.prog 67 #[.slice pb bs.length cb, .int .i64 n, .int .i64 k] w (PxlsP w bs n k) := by
  have H := Lib.hid h
  clear h
  go_enter Try.func67, Try.ntmps67
  obtain ⟨d, hd⟩ : ∃ d : Int, d = ((bs.length : Nat) : Int) - (n : Int) := ⟨_, rfl⟩
  obtain ⟨u, hu⟩ : ∃ u : Int, u = 4 * (k : Int) := ⟨_, rfl⟩
  have Hd := Lib.hid hd
  have Hu := Lib.hid hu
  by_cases hlen : 4 * k ≤ bs.length - n
  case neg =>
    have t1 : decide (((bs.length : Nat) : Int) - (n : Int) < 4 * (k : Int)) = true := decide_eq_true (by omega)
    have Hlen := Lib.hid hlen
    clear hlen hd hu
    go_wp2_with fail
    refine bodyPost_ret (v := .tuple #[.slice none 0 0, .int .i64 0, .bool false]) (by simp [results, Try.results67, go_sem]) rfl ?_
    exact ⟨Gou.Mod.refl _ _, by rw [if_neg Hlen.out]⟩
  have t1 : decide (((bs.length : Nat) : Int) - (n : Int) < 4 * (k : Int)) = false := decide_eq_false (by omega)
  have Hlen := Lib.hid hlen
  clear hd hu
  go_wp2_with fail
  go_loopw [1, 9, 10] (fun va vo vi wr => ∃ (j q : Nat) (ps : List (List Nat)), va = .int .i64 q ∧ vi = .int .i64 j ∧ j ≤ k ∧ q = n + 4 * j ∧ timesAt (pixelAt bs) n j = some (ps, q) ∧ ps.length = j ∧ wr.ownsRow w.heap.size 27 4 vo j (pxs (ps.map Pxl.of)) ∧ Gou.Mod (fun _ => False) w wr) (fun _ _ vi _ => k - (intOf vi).toNat)
  case atStart => exact ⟨0, n, [], rfl, rfl, by omega, rfl, rfl, rfl, World.ownsRow_nil _ _ _ _, Gou.Mod.refl _ _⟩
  case round =>
    obtain ⟨j, q, ps, rfl, rfl, hj, hq, ht, hpl, hown, hm⟩ := hrel
    obtain ⟨po, co, rfl⟩ := Gou.ownsRow_form hown
    have Ht := Lib.hid ht
    have Hpl := Lib.hid hpl
    have Hown := Lib.hid hown
    have Hm := Lib.hid hm
    clear ht hpl hown hm
    by_cases hjk : j < k
    · have e1 : decide ((j : Int) < (k : Int)) = true := decide_eq_true (by omega)
      have hq4 : q + 4 ≤ bs.length := by omega
      obtain ⟨-, b, o, rfl, hb, -, hc⟩ := H.out.celz (by omega)
      have Hnx : Hid (timesAt (pixelAt bs) n (j + 1) = some (ps ++ [[bs[q], bs[q + 1], bs[q + 2], bs[q + 3]]], q + 4)) := Lib.hid (by rw [timesAt, Ht.out]; simp only [pixelAt_eq hq4])
      have HS : Hid (∀ w' : World, Gou.Mod (fun _ => False) w w' → w'.cell? ⟨b, o + q, none⟩ = some (.int .u8 (bs[q] : Nat)) ∧ w'.cell? ⟨b, o + (q + 1), none⟩ = some (.int .u8 (bs[q + 1] : Nat)) ∧ w'.cell? ⟨b, o + (q + 2), none⟩ = some (.int .u8 (bs[q + 2] : Nat)) ∧ w'.cell? ⟨b, o + (q + 3), none⟩ = some (.int .u8 (bs[q + 3] : Nat))) := Lib.hid (fun w' hm =>
        ⟨(hm.cell (p := ⟨b, o + q, none⟩) hb (fun h => h)).trans (hc q (by omega)), (hm.cell (p := ⟨b, o + (q + 1), none⟩) hb (fun h => h)).trans (hc (q + 1) (by omega)), (hm.cell (p := ⟨b, o + (q + 2), none⟩) hb (fun h => h)).trans (hc (q + 2) (by omega)), (hm.cell (p := ⟨b, o + (q + 3), none⟩) hb (fun h => h)).trans (hc (q + 3) (by omega))⟩)
      generalize bs[q] = x0 at *
      generalize bs[q + 1] = x1 at *
      generalize bs[q + 2] = x2 at *
      generalize bs[q + 3] = x3 at *
      have hi0 : (q : Int) < (bs.length : Int) := by omega
      have hi1 : (q : Int) + 1 < (bs.length : Int) := by omega
      have hi2 : (q : Int) + 2 < (bs.length : Int) := by omega
      have hi3 : (q : Int) + 3 < (bs.length : Int) := by omega
      have Hq := Lib.hid hq
      clear hc hq
      obtain ⟨iP, hiP, hz0, hz1, hz2⟩ := info_parts info_px'
      have W1 : IntKind.i64.wrap ((q : Int) + 1) = (q : Int) + 1 := IntWalk.i64_in _ (by omega)
      have W2 : IntKind.i64.wrap ((q : Int) + 2) = (q : Int) + 2 := IntWalk.i64_in _ (by omega)
      have W3 : IntKind.i64.wrap ((q : Int) + 3) = (q : Int) + 3 := IntWalk.i64_in _ (by omega)
      have n1 : ¬ ((q : Int) + 1 < 0) := by omega
      have n2 : ¬ ((q : Int) + 2 < 0) := by omega
      have n3 : ¬ ((q : Int) + 3 < 0) := by omega
      have T1 : ((q : Int) + 1).toNat = q + 1 := by omega
      have T2 : ((q : Int) + 2).toNat = q + 2 := by omega
      have T3 : ((q : Int) + 3).toNat = q + 3 := by omega
      go_wp2_with fail
      refine wp_region_held_drew (S := fun w' => Gou.Mod (fun _ => False) w w') (by kernel_rfl) (Hm.out.trans' (Gou.Mod.drew _ _)) (fun hHeld => ?_)
      refine wpAnyH_take (i := 0) (oi := ({ dst := some 23, op := Op.move (Operand.tmp 9), type := 28, pos := "ref.go:64", after := #[], guard := none } : Oper)) (v := .slice po j co) rfl (by kernel_rfl) (by kernel_rfl) (by kernel_rfl) (fun _ _ _ h => h) (Or.inl ⟨by rfl, ?_⟩) hHeld ?_
      · (intro w' hSw; (try dsimp only at hSw); have hs := HS.out w' hSw; obtain ⟨s0, s1, s2, s3⟩ := hs; clear hSw; go_simp; (try with_reducible rfl))
      try simp only [Act.put, uSa, uSb, uSc]
      refine wpAnyH_take (i := 1) (oi := ({ dst := some 24, op := Op.move (Operand.tmp 0), type := 44, pos := "ref.go:64", after := #[], guard := none } : Oper)) (v := .slice (some ⟨b, o, none⟩) bs.length cb) rfl (by kernel_rfl) (by kernel_rfl) (by kernel_rfl) (fun _ _ _ h => h) (Or.inl ⟨by rfl, ?_⟩) hHeld ?_
      · (intro w' hSw; (try dsimp only at hSw); have hs := HS.out w' hSw; obtain ⟨s0, s1, s2, s3⟩ := hs; clear hSw; go_simp; (try with_reducible rfl))
      try simp only [Act.put, uSa, uSb, uSc]
      refine wpAnyH_take (i := 2) (oi := ({ dst := some 25, op := Op.move (Operand.tmp 1), type := 3, pos := "ref.go:64", after := #[], guard := none } : Oper)) (v := .int .i64 (q : Nat)) rfl (by kernel_rfl) (by kernel_rfl) (by kernel_rfl) (fun _ _ _ h => h) (Or.inl ⟨by rfl, ?_⟩) hHeld ?_
      · (intro w' hSw; (try dsimp only at hSw); have hs := HS.out w' hSw; obtain ⟨s0, s1, s2, s3⟩ := hs; clear hSw; go_simp; (try with_reducible rfl))
      try simp only [Act.put, uSa, uSb, uSc]
      refine wpAnyH_take (i := 3) (oi := ({ dst := some 26, op := Op.indexAddr 44 (Operand.tmp 24) (Operand.tmp 25), type := 0, pos := "ref.go:64", after := #[gD 1, gD 2], guard := none } : Oper)) (v := .pointer (some ⟨b, o + q, none⟩)) rfl (by kernel_rfl) (by kernel_rfl) (by kernel_rfl) (fun _ _ _ h => h) (Or.inl ⟨by rfl, ?_⟩) hHeld ?_
      · (intro w' hSw; (try dsimp only at hSw); have hs := HS.out w' hSw; obtain ⟨s0, s1, s2, s3⟩ := hs; clear hSw; go_simp; (try with_reducible rfl))
      try simp only [Act.put, uSa, uSb, uSc]
      refine wpAnyH_take (i := 4) (oi := ({ dst := some 27, op := Op.load 5 (Operand.tmp 26), type := 5, pos := "ref.go:64", after := #[gD 3], guard := none } : Oper)) (v := .int .u8 (x0 : Nat)) rfl (by kernel_rfl) (by kernel_rfl) (by kernel_rfl) (fun _ _ _ h => h) (Or.inl ⟨by rfl, ?_⟩) hHeld ?_
      · (intro w' hSw; (try dsimp only at hSw); have hs := HS.out w' hSw; obtain ⟨s0, s1, s2, s3⟩ := hs; clear hSw; go_simp; (try with_reducible rfl))
      try simp only [Act.put, uSa, uSb, uSc]
      refine wpAnyH_take (i := 5) (oi := ({ dst := some 28, op := Op.move (Operand.tmp 0), type := 44, pos := "ref.go:64", after := #[], guard := none } : Oper)) (v := .slice (some ⟨b, o, none⟩) bs.length cb) rfl (by kernel_rfl) (by kernel_rfl) (by kernel_rfl) (fun _ _ _ h => h) (Or.inl ⟨by rfl, ?_⟩) hHeld ?_
      · (intro w' hSw; (try dsimp only at hSw); have hs := HS.out w' hSw; obtain ⟨s0, s1, s2, s3⟩ := hs; clear hSw; go_simp; (try with_reducible rfl))
      try simp only [Act.put, uSa, uSb, uSc]
      refine wpAnyH_take (i := 6) (oi := ({ dst := some 29, op := Op.move (Operand.tmp 1), type := 3, pos := "ref.go:64", after := #[], guard := none } : Oper)) (v := .int .i64 (q : Nat)) rfl (by kernel_rfl) (by kernel_rfl) (by kernel_rfl) (fun _ _ _ h => h) (Or.inl ⟨by rfl, ?_⟩) hHeld ?_
      · (intro w' hSw; (try dsimp only at hSw); have hs := HS.out w' hSw; obtain ⟨s0, s1, s2, s3⟩ := hs; clear hSw; go_simp; (try with_reducible rfl))
      try simp only [Act.put, uSa, uSb, uSc]
      refine wpAnyH_take (i := 7) (oi := ({ dst := some 30, op := Op.binOp BinOp.add 3 (Operand.tmp 29) (Operand.const (Value.int IntKind.i64 1)) 3, type := 3, pos := "ref.go:64", after := #[gD 6], guard := none } : Oper)) (v := .int .i64 ((q : Int) + 1)) rfl (by kernel_rfl) (by kernel_rfl) (by kernel_rfl) (fun _ _ _ h => h) (Or.inl ⟨by rfl, ?_⟩) hHeld ?_
      · (intro w' hSw; (try dsimp only at hSw); have hs := HS.out w' hSw; obtain ⟨s0, s1, s2, s3⟩ := hs; clear hSw; go_simp; (try with_reducible rfl))
      try simp only [Act.put, uSa, uSb, uSc]
      refine wpAnyH_take (i := 8) (oi := ({ dst := some 31, op := Op.indexAddr 44 (Operand.tmp 28) (Operand.tmp 30), type := 0, pos := "ref.go:64", after := #[gD 5, gD 7], guard := none } : Oper)) (v := .pointer (some ⟨b, o + (q + 1), none⟩)) rfl (by kernel_rfl) (by kernel_rfl) (by kernel_rfl) (fun _ _ _ h => h) (Or.inl ⟨by rfl, ?_⟩) hHeld ?_
      · (intro w' hSw; (try dsimp only at hSw); have hs := HS.out w' hSw; obtain ⟨s0, s1, s2, s3⟩ := hs; clear hSw; go_simp; (try with_reducible rfl))
      try simp only [Act.put, uSa, uSb, uSc]
      refine wpAnyH_take (i := 9) (oi := ({ dst := some 32, op := Op.load 5 (Operand.tmp 31), type := 5, pos := "ref.go:64", after := #[gD 8], guard := none } : Oper)) (v := .int .u8 (x1 : Nat)) rfl (by kernel_rfl) (by kernel_rfl) (by kernel_rfl) (fun _ _ _ h => h) (Or.inl ⟨by rfl, ?_⟩) hHeld ?_
      · (intro w' hSw; (try dsimp only at hSw); have hs := HS.out w' hSw; obtain ⟨s0, s1, s2, s3⟩ := hs; clear hSw; go_simp; (try with_reducible rfl))
      try simp only [Act.put, uSa, uSb, uSc]
      refine wpAnyH_take (i := 10) (oi := ({ dst := some 33, op := Op.move (Operand.tmp 0), type := 44, pos := "ref.go:64", after := #[], guard := none } : Oper)) (v := .slice (some ⟨b, o, none⟩) bs.length cb) rfl (by kernel_rfl) (by kernel_rfl) (by kernel_rfl) (fun _ _ _ h => h) (Or.inl ⟨by rfl, ?_⟩) hHeld ?_
      · (intro w' hSw; (try dsimp only at hSw); have hs := HS.out w' hSw; obtain ⟨s0, s1, s2, s3⟩ := hs; clear hSw; go_simp; (try with_reducible rfl))
      try simp only [Act.put, uSa, uSb, uSc]
      refine wpAnyH_take (i := 11) (oi := ({ dst := some 34, op := Op.move (Operand.tmp 1), type := 3, pos := "ref.go:64", after := #[], guard := none } : Oper)) (v := .int .i64 (q : Nat)) rfl (by kernel_rfl) (by kernel_rfl) (by kernel_rfl) (fun _ _ _ h => h) (Or.inl ⟨by rfl, ?_⟩) hHeld ?_
      · (intro w' hSw; (try dsimp only at hSw); have hs := HS.out w' hSw; obtain ⟨s0, s1, s2, s3⟩ := hs; clear hSw; go_simp; (try with_reducible rfl))
      try simp only [Act.put, uSa, uSb, uSc]
      refine wpAnyH_take (i := 12) (oi := ({ dst := some 35, op := Op.binOp BinOp.add 3 (Operand.tmp 34) (Operand.const (Value.int IntKind.i64 2)) 3, type := 3, pos := "ref.go:64", after := #[gD 11], guard := none } : Oper)) (v := .int .i64 ((q : Int) + 2)) rfl (by kernel_rfl) (by kernel_rfl) (by kernel_rfl) (fun _ _ _ h => h) (Or.inl ⟨by rfl, ?_⟩) hHeld ?_
      · (intro w' hSw; (try dsimp only at hSw); have hs := HS.out w' hSw; obtain ⟨s0, s1, s2, s3⟩ := hs; clear hSw; go_simp; (try with_reducible rfl))
      try simp only [Act.put, uSa, uSb, uSc]
      refine wpAnyH_take (i := 13) (oi := ({ dst := some 36, op := Op.indexAddr 44 (Operand.tmp 33) (Operand.tmp 35), type := 0, pos := "ref.go:64", after := #[gD 10, gD 12], guard := none } : Oper)) (v := .pointer (some ⟨b, o + (q + 2), none⟩)) rfl (by kernel_rfl) (by kernel_rfl) (by kernel_rfl) (fun _ _ _ h => h) (Or.inl ⟨by rfl, ?_⟩) hHeld ?_
      · (intro w' hSw; (try dsimp only at hSw); have hs := HS.out w' hSw; obtain ⟨s0, s1, s2, s3⟩ := hs; clear hSw; go_simp; (try with_reducible rfl))
      try simp only [Act.put, uSa, uSb, uSc]
      refine wpAnyH_take (i := 14) (oi := ({ dst := some 37, op := Op.load 5 (Operand.tmp 36), type := 5, pos := "ref.go:64", after := #[gD 13], guard := none } : Oper)) (v := .int .u8 (x2 : Nat)) rfl (by kernel_rfl) (by kernel_rfl) (by kernel_rfl) (fun _ _ _ h => h) (Or.inl ⟨by rfl, ?_⟩) hHeld ?_
      · (intro w' hSw; (try dsimp only at hSw); have hs := HS.out w' hSw; obtain ⟨s0, s1, s2, s3⟩ := hs; clear hSw; go_simp; (try with_reducible rfl))
      try simp only [Act.put, uSa, uSb, uSc]
      refine wpAnyH_take (i := 15) (oi := ({ dst := some 38, op := Op.move (Operand.tmp 0), type := 44, pos := "ref.go:64", after := #[], guard := none } : Oper)) (v := .slice (some ⟨b, o, none⟩) bs.length cb) rfl (by kernel_rfl) (by kernel_rfl) (by kernel_rfl) (fun _ _ _ h => h) (Or.inl ⟨by rfl, ?_⟩) hHeld ?_
      · (intro w' hSw; (try dsimp only at hSw); have hs := HS.out w' hSw; obtain ⟨s0, s1, s2, s3⟩ := hs; clear hSw; go_simp; (try with_reducible rfl))
      try simp only [Act.put, uSa, uSb, uSc]
      refine wpAnyH_take (i := 16) (oi := ({ dst := some 39, op := Op.move (Operand.tmp 1), type := 3, pos := "ref.go:64", after := #[], guard := none } : Oper)) (v := .int .i64 (q : Nat)) rfl (by kernel_rfl) (by kernel_rfl) (by kernel_rfl) (fun _ _ _ h => h) (Or.inl ⟨by rfl, ?_⟩) hHeld ?_
      · (intro w' hSw; (try dsimp only at hSw); have hs := HS.out w' hSw; obtain ⟨s0, s1, s2, s3⟩ := hs; clear hSw; go_simp; (try with_reducible rfl))
      try simp only [Act.put, uSa, uSb, uSc]
      refine wpAnyH_take (i := 17) (oi := ({ dst := some 40, op := Op.binOp BinOp.add 3 (Operand.tmp 39) (Operand.const (Value.int IntKind.i64 3)) 3, type := 3, pos := "ref.go:64", after := #[gD 16], guard := none } : Oper)) (v := .int .i64 ((q : Int) + 3)) rfl (by kernel_rfl) (by kernel_rfl) (by kernel_rfl) (fun _ _ _ h => h) (Or.inl ⟨by rfl, ?_⟩) hHeld ?_
      · (intro w' hSw; (try dsimp only at hSw); have hs := HS.out w' hSw; obtain ⟨s0, s1, s2, s3⟩ := hs; clear hSw; go_simp; (try with_reducible rfl))
      try simp only [Act.put, uSa, uSb, uSc]
      refine wpAnyH_take (i := 18) (oi := ({ dst := some 41, op := Op.indexAddr 44 (Operand.tmp 38) (Operand.tmp 40), type := 0, pos := "ref.go:64", after := #[gD 15, gD 17], guard := none } : Oper)) (v := .pointer (some ⟨b, o + (q + 3), none⟩)) rfl (by kernel_rfl) (by kernel_rfl) (by kernel_rfl) (fun _ _ _ h => h) (Or.inl ⟨by rfl, ?_⟩) hHeld ?_
      · (intro w' hSw; (try dsimp only at hSw); have hs := HS.out w' hSw; obtain ⟨s0, s1, s2, s3⟩ := hs; clear hSw; go_simp; (try with_reducible rfl))
      try simp only [Act.put, uSa, uSb, uSc]
      refine wpAnyH_take (i := 19) (oi := ({ dst := some 42, op := Op.load 5 (Operand.tmp 41), type := 5, pos := "ref.go:64", after := #[gD 18], guard := none } : Oper)) (v := .int .u8 (x3 : Nat)) rfl (by kernel_rfl) (by kernel_rfl) (by kernel_rfl) (fun _ _ _ h => h) (Or.inl ⟨by rfl, ?_⟩) hHeld ?_
      · (intro w' hSw; (try dsimp only at hSw); have hs := HS.out w' hSw; obtain ⟨s0, s1, s2, s3⟩ := hs; clear hSw; go_simp; (try with_reducible rfl))
      try simp only [Act.put, uSa, uSb, uSc]
      refine wpAnyH_take (i := 20) (oi := ({ dst := some 43, op := Op.build 27 #[(0, Operand.tmp 27), (1, Operand.tmp 32), (2, Operand.tmp 37), (3, Operand.tmp 42)], type := 27, pos := "ref.go:64", after := #[gD 4, gD 9, gD 14, gD 19], guard := none } : Oper)) (v := .agg #[.int .u8 (x0 : Nat), .int .u8 (x1 : Nat), .int .u8 (x2 : Nat), .int .u8 (x3 : Nat)]) rfl (by kernel_rfl) (by kernel_rfl) (by kernel_rfl) (fun _ _ _ h => h) (Or.inl ⟨by rfl, ?_⟩) hHeld ?_
      · (intro w' hSw; (try dsimp only at hSw); have hs := HS.out w' hSw; obtain ⟨s0, s1, s2, s3⟩ := hs; clear hSw; go_simp; (try with_reducible rfl))
      try simp only [Act.put, uSa, uSb, uSc]
      refine wpAnyH_ready (rs := [21]) (by kernel_rfl) (by simp) (AllReadyH.cons (o := ({ dst := some 44, op := Op.buildSlice 28 1 #[(0, Operand.tmp 43)], type := 28, pos := "ref.go:64", after := #[gD 20], guard := none } : Oper)) rfl (fun K hK => ?_) AllReadyH.nil)
      go_simp
      refine hK _ _ (hHeld.trans' (Gou.Mod.alloc _ _ _)) (fun hHeld2 => ?_)
      clear hK K
      try simp only [Act.put, uSa, uSb, uSc]
      refine wpAnyH_ready (rs := [22]) (by kernel_rfl) (by simp) (AllReadyH.cons (o := ({ dst := some 45, op := Op.call { callee := Callee.builtin Builtin.append, args := #[Operand.tmp 23, Operand.tmp 44], argTypes := #[28, 28] }, type := 28, pos := "ref.go:64", after := #[gD 0, gD 21], guard := none } : Oper)) rfl (fun K hK => ?_) AllReadyH.nil)
      refine step_append_lies _ (by rfl) (Operand.tmp 23) (Operand.tmp 44) 28 (by rfl) w.heap.size 27 iP (.agg #[.int .u8 0, .int .u8 0, .int .u8 0, .int .u8 0]) 4 4 Try.underlying28 hiP hz0 hz1 hz2 (by simp [Value.cells]) (by omega) (.slice po j co) j (pxs (ps.map Pxl.of)) (by rfl) (Hown.out.alloc _) ⟨wr.heap.size, 0, none⟩ 1 1 [.int .u8 (x0 : Nat), .int .u8 (x1 : Nat), .int .u8 (x2 : Nat), .int .u8 (x3 : Nat)] (by rfl) (by rfl) (news_at (heap_alloc_new wr _) rfl) (by simp [Value.oneCell']) (by omega) (by unfold maxLen; omega) (by omega) (by have := Hm.out.size; show w.heap.size ≤ (wr.alloc _).heap.size; rw [World.size_alloc]; omega) _ rfl ?_
      intro gg cp w6 hown6 hgrow6 hat6 hlt6
      have Hown6 : Hid (w6.ownsRow w.heap.size 27 4 (.slice (some ⟨gg, 0, none⟩) (j + 1) cp) (j + 1) (pxs ((ps ++ [[x0, x1, x2, x3]]).map Pxl.of))) := Lib.hid (by rw [pxs_snoc]; exact hown6)
      have M6 : Hid (Gou.Mod (fun _ => False) w w6) := Lib.hid ((Hm.out.trans' ((Gou.Mod.alloc _ _ _).trans' (Gou.Mod.drew _ _))).trans (Gou.Mod.of_grown hgrow6) (fun q hq e => by have := (Hown.out.lt q e).1; omega))
      have M7 : Hid (Gou.Mod (fun q => (Value.slice po j co).ownBlock = some q) wr w6) := Lib.hid (((Gou.Mod.alloc _ _ _).trans' (Gou.Mod.drew _ _)).trans' (Gou.Mod.of_grown hgrow6))
      clear hown6 hgrow6 hat6 hlt6 hHeld hHeld2
      refine hK _ _ M6.out (fun hHeld => ?_)
      clear hK K
      try simp only [Act.put, uSa, uSb, uSc]
      refine wpAnyH_take (i := 23) (oi := ({ dst := some 9, op := Op.assign (Operand.tmp 45), type := 28, pos := "ref.go:64", after := #[gD 22, { on := 22, ground := Ground.chain }, gP 0, gP 1, gP 2, gP 3, gP 4, gP 5, gP 6, gP 7, gP 8, gP 9, gP 10, gP 11, gP 12, gP 13, gP 14, gP 15, gP 16, gP 17, gP 18, gP 19, gP 20, gP 21, gP 22], guard := none } : Oper)) (v := .slice (some ⟨gg, 0, none⟩) (j + 1) cp) rfl (by kernel_rfl) (by kernel_rfl) (by kernel_rfl) (fun _ _ _ h => h) (Or.inl ⟨by rfl, ?_⟩) hHeld ?_
      · (intro w' hSw; clear hSw; go_simp; (try with_reducible rfl))
      try simp only [Act.put, uSa, uSb, uSc]
      refine wpAnyH_done (by kernel_rfl) ?_ _
      clear hHeld
      go_wp2_with fail
      go_roundw
      case rel => exact ⟨j + 1, q + 4, ps ++ [[x0, x1, x2, x3]], by go_num, by go_num, by omega, by have := Hq.out; omega, Hnx.out, by rw [List.length_append, Hpl.out]; rfl, Hown6.out, M6.out⟩
      case measure => simp [intOf]; omega
    · obtain rfl : j = k := by omega
      have e1 : decide ((j : Int) < (j : Int)) = false := by simp
      have Hq := Lib.hid hq
      clear hq
      go_wp2_with fail
      refine bodyPost_ret (v := .tuple #[.slice po j co, .int .i64 q, .bool true]) (by simp [results, Try.results67, go_sem]) rfl ?_
      refine ⟨Hm.out, ?_⟩
      rw [if_pos Hlen.out]
      exact ⟨ps, po, co, by rw [Ht.out, Hq.out], Hpl.out, by rw [Hq.out], Hown.out⟩

end Go.Proofs.Ytnamnmipgpcjjaa

/- Acts as bytes: the document's filters. -/
namespace Go.Gou
open Go.RowKit

/-- On the way through a filter's nodes. -/
structure GrAt (TG TN : TypeId) (w : World) (gh : Nat) (out : Int) (K : Nat) (vs : Value) (cs : List Value) (ns : List GNode) (wr : World) : Prop where
  mod : Mod (fun _ => False) w wr
  res : Blk wr w.heap.size TG #[.slice none 0 0, .int .i64 0]
  box : Blk wr (w.heap.size + 1) TG #[vs, .int .i64 out]
  own : wr.ownsRow (w.heap.size + 2) TN 3 vs ns.length cs
  nodes : NodeC (fun b => w.heap.size + 2 ≤ b ∧ vs.ownBlock ≠ some b) wr cs ns
  hd : wr.cell? ⟨gh, 1, none⟩ = some (.int .i64 K)
  hlt : gh < wr.heap.size
  hge : w.heap.size + 2 ≤ gh
  hne : vs.ownBlock ≠ some gh

theorem GrAt.next {TG TN : TypeId} {w : World} {gh : Nat} {out : Int} {K : Nat} {vs : Value} {cs : List Value} {ns : List GNode} {wr w2 : World} (h : GrAt TG TN w gh out K vs cs ns wr) (hm : Mod (fun _ => False) wr w2) : GrAt TG TN w gh out K vs cs ns w2 :=
  ⟨h.mod.trans' hm, h.res.mod hm fun h => h, h.box.mod hm fun h => h, ownsRow_mod h.own hm fun _ _ h => h, h.nodes.mod hm fun _ _ _ h => h, (hm.cell (p := ⟨gh, 1, none⟩) h.hlt fun h => h).trans h.hd, Nat.lt_of_lt_of_le h.hlt hm.size, h.hge, h.hne⟩

theorem GrAt.push {TG TN : TypeId} {w : World} {gh : Nat} {out : Int} {K : Nat} {vs : Value} {cs : List Value} {ns : List GNode} {wr w5 w6 : World} (h : GrAt TG TN w gh out K vs cs ns wr) (m5 : Mod (fun _ => False) wr w5) {nd : GNode} {vi vp : Value}
    (hi : IntsR (fun b => w.heap.size + 2 ≤ b ∧ vs.ownBlock ≠ some b) wr vi nd.ins) (hp : IntsR (fun b => w.heap.size + 2 ≤ b ∧ vs.ownBlock ≠ some b) wr vp nd.ps) {g cap : Nat} (hown : w6.ownsRow (w.heap.size + 2) TN 3 (.slice (some ⟨g, 0, none⟩) (ns.length + 1) cap) (ns.length + 1) (cs ++ [.int .i64 nd.op, vi, vp])) (m6 : Mod (fun k => vs.ownBlock = some k) w5 w6) (hat : vs.ownBlock = some g ∨ w5.heap.size ≤ g) :
    GrAt TG TN w gh out K (.slice (some ⟨g, 0, none⟩) (ns.length + 1) cap) (cs ++ [.int .i64 nd.op, vi, vp]) (ns ++ [nd]) (w6.setCell ⟨w.heap.size + 1, 0, none⟩ (.slice (some ⟨g, 0, none⟩) (ns.length + 1) cap)) := by
  have h5 := h.next m5
  have e5 := fun k hk => (h5.own.lt k hk).1
  have mr6 : Mod (fun k => vs.ownBlock = some k) wr w6 := (m5.imp fun _ _ h => h.elim).trans' m6
  have mL := Mod.setCell w6 ⟨w.heap.size + 1, 0, none⟩ (.slice (some ⟨g, 0, none⟩) (ns.length + 1) cap)
  have mrL : Mod (fun k => vs.ownBlock = some k ∨ k = w.heap.size + 1) wr (w6.setCell ⟨w.heap.size + 1, 0, none⟩ (.slice (some ⟨g, 0, none⟩) (ns.length + 1) cap)) := (mr6.imp fun _ _ h => .inl h).trans' (mL.imp fun _ _ h => .inr h)
  have hs5 := m5.size
  have hG : ∀ b, b < wr.heap.size → (w.heap.size + 2 ≤ b ∧ vs.ownBlock ≠ some b) → (w.heap.size + 2 ≤ b ∧ (Value.slice (some ⟨g, 0, none⟩) (ns.length + 1) cap).ownBlock ≠ some b) := fun b hb hg => ⟨hg.1, fun e => by
    obtain rfl : g = b := by simpa [Value.ownBlock] using e
    rcases hat with q | q
    · exact hg.2 q
    · omega⟩
  have hS : ∀ b, b < wr.heap.size → (w.heap.size + 2 ≤ b ∧ vs.ownBlock ≠ some b) → ¬ (vs.ownBlock = some b ∨ b = w.heap.size + 1) := fun b _ hg e => by
    rcases e with e | e
    · exact hg.2 e
    · omega
  have hn1 : vs.ownBlock ≠ some (w.heap.size + 1) := fun e => by have := e5 _ e; omega
  have hn0 : vs.ownBlock ≠ some w.heap.size := fun e => by have := e5 _ e; omega
  refine ⟨h.mod.trans mrL fun k hk e => ?_, h.res.mod mrL ?_, ?_, ?_, ?_, ?_, Nat.lt_of_lt_of_le h.hlt mrL.size, h.hge, ?_⟩
  · rcases e with e | e
    · have := e5 k e; omega
    · omega
  · rintro (e | e)
    · exact hn0 e
    · omega
  · exact (h5.box.mod m6 hn1).set 0 _
  · rw [List.length_append]
    exact ownsRow_mod hown mL fun k hk e => by have := (hown.lt k hk).1; simp at e; omega
  · have hS' : ∀ b, b < wr.heap.size → (w.heap.size + 2 ≤ b ∧ (Value.slice (some ⟨g, 0, none⟩) (ns.length + 1) cap).ownBlock ≠ some b ∧ vs.ownBlock ≠ some b) → ¬ (vs.ownBlock = some b ∨ b = w.heap.size + 1) := fun b hb hg => hS b hb ⟨hg.1, hg.2.2⟩
    have a1 := (h.nodes.imp fun b hb hg => (⟨hg.1, (hG b hb hg).2, hg.2⟩ : w.heap.size + 2 ≤ b ∧ (Value.slice (some ⟨g, 0, none⟩) (ns.length + 1) cap).ownBlock ≠ some b ∧ vs.ownBlock ≠ some b)).mod mrL hS'
    have a2 := RowG.mod (RowG.imp hi fun b hb hg => (⟨hg.1, (hG b hb hg).2, hg.2⟩ : w.heap.size + 2 ≤ b ∧ (Value.slice (some ⟨g, 0, none⟩) (ns.length + 1) cap).ownBlock ≠ some b ∧ vs.ownBlock ≠ some b)) mrL hS'
    have a3 := RowG.mod (RowG.imp hp fun b hb hg => (⟨hg.1, (hG b hb hg).2, hg.2⟩ : w.heap.size + 2 ≤ b ∧ (Value.slice (some ⟨g, 0, none⟩) (ns.length + 1) cap).ownBlock ≠ some b ∧ vs.ownBlock ≠ some b)) mrL hS'
    exact NodeC.snoc (a1.imp fun b _ hg => ⟨hg.1, hg.2.1⟩) nd vi vp (RowG.imp a2 fun b _ hg => ⟨hg.1, hg.2.1⟩) (RowG.imp a3 fun b _ hg => ⟨hg.1, hg.2.1⟩)
  · rw [mrL.cell (p := ⟨gh, 1, none⟩) h.hlt (by
      rintro (e | e)
      · exact h.hne e
      · have := h.hge; simp at e; omega)]
    exact h.hd
  · intro e
    obtain rfl : g = gh := by simpa [Value.ownBlock] using e
    rcases hat with q | q
    · exact h.hne q
    · have := h.hlt; omega

theorem GrAt.start {TG TN : TypeId} {w : World} {gh : Nat} {out : Int} {K : Nat} {w1 : World} (hm : Mod (fun _ => False) w w1) (hN : Blk w1 w.heap.size TG #[.slice none 0 0, .int .i64 0]) (hL : Blk w1 (w.heap.size + 1) TG #[.slice none 0 0, .int .i64 0]) (hd : w1.cell? ⟨gh, 1, none⟩ = some (.int .i64 K)) (hlt : gh < w1.heap.size) (hge : w.heap.size + 2 ≤ gh) :
    GrAt TG TN w gh out K (.slice none 0 0) [] [] (w1.setCell ⟨w.heap.size + 1, 1, none⟩ (.int .i64 out)) := by
  have mL := Mod.setCell w1 ⟨w.heap.size + 1, 1, none⟩ (.int .i64 out)
  refine ⟨hm.trans mL (fun k hk e => by simp at e; omega), hN.mod mL (by simp), hL.set 1 _, World.ownsRow_nil _ _ _ _, ?_, ?_, Nat.lt_of_lt_of_le hlt mL.size, hge, by simp [Value.ownBlock]⟩
  · exact NodeC.nil _ _
  · exact (mL.cell (p := ⟨gh, 1, none⟩) hlt (by simp; omega)).trans hd

end Go.Gou
namespace Go.Proofs.Ytnamnmipgpcjjaa
open Go.RowKit Go.Gou

/-- What the document's reading of a filter comes to. -/
def GrP (w : World) (bs : List Nat) (n : Nat) (e : Ending) (w' : World) : Prop :=
  Gou.Mod (fun _ => False) w w' ∧ match graphAt bs n with
    | some (g, q) => ∃ p c, e = .returned (.tuple #[.agg #[.slice p g.nodes.length c, .int .i64 g.out], .int .i64 q, .bool true]) ∧ NodesR (fun b => w.heap.size ≤ b) w' (.slice p g.nodes.length c) g.nodes
    | none => ∃ (p : Option Addr) (j c : Nat) (x : Int), e = .returned (.tuple #[.agg #[.slice p j c, .int .i64 x], .int .i64 0, .bool false])

theorem gr_fail {w w1 : World} {bs : List Nat} {n : Nat} (h : graphAt bs n = none) (hm : Gou.Mod (fun _ => False) w w1) (p : Option Addr) (j c : Nat) (x : Int) :
    GrP w bs n (.returned (.tuple #[.agg #[.slice p j c, .int .i64 x], .int .i64 0, .bool false])) ((w1.setCell ⟨w.heap.size, 0, none⟩ (.slice p j c)).setCell ⟨w.heap.size, 1, none⟩ (.int .i64 x)) :=
  ⟨(hm.trans (Gou.Mod.setCell w1 ⟨w.heap.size, 0, none⟩ _) (fun k hk e => by simp at e; omega)).trans (Gou.Mod.setCell _ ⟨w.heap.size, 1, none⟩ _) (fun k hk e => by simp at e; omega), by rw [h]; exact ⟨p, j, c, x, rfl⟩⟩

theorem deferQ_store {o : Oper} {Q : Exit → Act → World → Prop} {a : Act} {w : World} {x y : Operand} {M n c : Nat} {p : Option Addr} {u : Value} (hop : o.op = .store 31 x y) (hd : o.dst = none)
    (hx : a.eval x = .pointer (some ⟨M, 0, none⟩)) (hy : a.eval y = .slice p n c) (hc : w.cell? ⟨M, 0, none⟩ = some u) (hf : w.frozen? ⟨M, 0, none⟩ = false) (h : Q .normal a (w.setCell ⟨M, 0, none⟩ (.slice p n c))) :
    deferQ Try.prog o Q .normal a w := by
  show Oper.wp _ _ _ _ _ _
  have ha : ∀ v, a.put o.dst v = a := fun v => by rw [hd]; rfl
  unfold Oper.wp execOp
  rw [hop]
  generalize a.eval = ρ at *
  go_simp
  (try simp only [ha])
  exact h

theorem info_nodeR : (Try.prog.info? 82).map (fun i => (i.zero, i.size, i.bytes)) = some (some (.agg #[.int .i64 0, .slice none 0 0, .slice none 0 0]), 3, 56) := by kernel_rfl

theorem gr_done {w wr : World} {bs : List Nat} {n q gh : Nat} {x : Int} {K : Nat} {pv : Option Addr} {cv : Nat} {cs : List Value} {ns : List GNode} (h : graphAt bs n = some (⟨ns, x⟩, q)) (hg : Gou.GrAt 33 82 w gh x K (.slice pv ns.length cv) cs ns wr) :
    GrP w bs n (.returned (.tuple #[.agg #[.slice pv ns.length cv, .int .i64 x], .int .i64 q, .bool true])) ((wr.setCell ⟨w.heap.size, 0, none⟩ (.slice pv ns.length cv)).setCell ⟨w.heap.size, 1, none⟩ (.int .i64 x)) := by
  have m1 := Gou.Mod.setCell wr ⟨w.heap.size, 0, none⟩ (.slice pv ns.length cv)
  have m2 := Gou.Mod.setCell (wr.setCell ⟨w.heap.size, 0, none⟩ (.slice pv ns.length cv)) ⟨w.heap.size, 1, none⟩ (.int .i64 x)
  have m3 : Gou.Mod (fun k => k = w.heap.size) wr _ := (m1.imp fun k _ e => by simpa using e).trans' (m2.imp fun k _ e => by simpa using e)
  refine ⟨hg.mod.trans m3 (fun k hk e => by omega), ?_⟩
  rw [h]
  refine ⟨pv, cv, rfl, cs, ?_, ?_⟩
  · exact RowG.imp (RowG.mod (RowG.of_own hg.own) m3 (fun k hk hG e => by omega)) fun b _ hb => by omega
  · exact NodeC.imp (hg.nodes.mod m3 (fun k hk hG e => by have := hG.1; omega)) fun b _ hb => by have := hb.1; omega

theorem results_graph (w : World) (tmps : Array Value) (N : Nat) (v1 v2 : Value) (a b : Value) (h4 : tmps.getD 4 undef = .pointer (some ⟨N, 0, none⟩)) (h5 : tmps.getD 5 undef = a) (h6 : tmps.getD 6 undef = b) (hB : Blk w N 33 #[v1, v2]) :
    (results Try.f56 tmps).run Try.prog w = .ok (.tuple #[.agg #[v1, v2], a, b]) w := by
  have h4' : tmps[4]?.getD undef = .pointer (some ⟨N, 0, none⟩) := by simpa using h4
  have h5' : tmps[5]?.getD undef = a := by simpa using h5
  have h6' : tmps[6]?.getD undef = b := by simpa using h6
  have hl := run_loadVar_row (P := Try.prog) w N 33 33 #[v1, v2] (0, 0) _ hB Try.underlying33 rfl (by kernel_rfl)
  simp [results, Try.results56, h4', h5', h6', asAddr, hl]

theorem graph_two {bs : List Nat} {n q : Nat} {xs : List Int} (h : timesAt (numAt bs) n 2 = some (xs, q)) : ∃ x y m, xs = [x, y] ∧ numAt bs n = some (x, m) ∧ numAt bs m = some (y, q) := by
  rw [timesAt] at h
  split at h
  · rename_i ys m h1
    obtain ⟨x, rfl, hx⟩ := times_one h1
    split at h
    · rename_i y q' hy
      simp only [List.cons_append, List.nil_append, Option.some.injEq, Prod.mk.injEq] at h
      obtain ⟨rfl, rfl⟩ := h
      exact ⟨x, y, m, rfl, hx, hy⟩
    · cases h
  · cases h
theorem graph_none2 {bs : List Nat} {n : Nat} (h : timesAt (numAt bs) n 2 = none) : graphAt bs n = none := by
  unfold graphAt
  rcases hx : numAt bs n with _ | ⟨x, m⟩
  · rfl
  · have h1 : timesAt (numAt bs) n 1 = some ([x], m) := by simp [timesAt, hx]
    rw [timesAt, h1] at h
    simp only at h
    have : numAt bs m = none := by
      split at h
      · cases h
      · assumption
    simp only [Option.bind_some, withinAt, this]
    rfl

set_option linter.constructorNameAsVariable false
set_option maxRecDepth 100000

set_option maxHeartbeats 4000000 in
theorem graphR_any (w : World) (pb : Option Addr) (cb : Nat) (bs : List Nat) (h : BytesAt (fun _ => True) w (.slice pb bs.length cb) bs) (hby : ∀ x ∈ bs, x < 256) (hl : bs.length ≤ 10000000) (n : Nat) (hn : n ≤ bs.length) :
    Calls Try.prog 56 #[.slice pb bs.length cb, .int .i64 n] w (GrP w bs n) := by
  have H := Lib.hid h
  have Hby := Lib.hid hby
  have HM0 : Hid (Gou.Mod (fun _ => False) w ((w.alloc (.cells #[.slice none 0 0, .int .i64 0] 33)).alloc (.cells #[.slice none 0 0, .int .i64 0] 33))) := Lib.hid ((Gou.Mod.alloc _ _ _).trans' (Gou.Mod.alloc _ _ _))
  have HN0 : Hid (Blk ((w.alloc (.cells #[.slice none 0 0, .int .i64 0] 33)).alloc (.cells #[.slice none 0 0, .int .i64 0] 33)) w.heap.size 33 #[.slice none 0 0, .int .i64 0]) := Lib.hid ((show Blk (w.alloc (.cells #[.slice none 0 0, .int .i64 0] 33)) w.heap.size 33 _ from heap_alloc_new w _).mod (Gou.Mod.alloc (fun _ => False) _ _) (fun h => h))
  have HL0 : Hid (Blk ((w.alloc (.cells #[.slice none 0 0, .int .i64 0] 33)).alloc (.cells #[.slice none 0 0, .int .i64 0] 33)) (w.heap.size + 1) 33 #[.slice none 0 0, .int .i64 0]) := Lib.hid (by
    have := heap_alloc_new (w.alloc (.cells #[.slice none 0 0, .int .i64 0] 33)) (.cells #[.slice none 0 0, .int .i64 0] 33)
    rw [World.size_alloc] at this
    exact this)
  have HS0 : Hid ((((w.alloc (.cells #[.slice none 0 0, .int .i64 0] 33)).alloc (.cells #[.slice none 0 0, .int .i64 0] 33))).heap.size = w.heap.size + 2) := Lib.hid (by simp)
  clear h hby
  go_enter Try.func56, Try.ntmps56
  go_wp2_with fail
  generalize hW0 : ((w.alloc (.cells #[.slice none 0 0, .int .i64 0] 33)).alloc (.cells #[.slice none 0 0, .int .i64 0] 33)) = w0 at *
  clear hW0
  refine (numbersR_any w0 pb cb bs (H.out.mod HM0.out (fun _ _ _ h => h)) Hby.out hl n 2 hn (by omega)).mono ?_
  rintro e w1 ⟨hm1, hp⟩
  have HM1 := Lib.hid (HM0.out.trans' hm1)
  have hN1 := HN0.out.mod hm1 (fun h => h)
  have hL1 := HL0.out.mod hm1 (fun h => h)
  rcases ht : timesAt (numAt bs) n 2 with _ | ⟨xs, q⟩
  · rw [ht] at hp
    subst hp
    have Hno : Hid (graphAt bs n = none) := Lib.hid (graph_none2 ht)
    have cl0 := hL1.cell 0 rfl
    have cl1 := hL1.cell 1 rfl
    have cn0 := hN1.cell 0 rfl
    have cn1 := hN1.cell 1 rfl
    have fn0 := hN1.frozen 0
    have fn1 := hN1.frozen 1
    have HN1 := Lib.hid hN1
    clear ht hm1 hN1 hL1
    go_wp2_with fail
    refine bodyPost_ret (v := .tuple #[.agg #[.slice none 0 0, .int .i64 0], .int .i64 0, .bool false]) (results_graph _ _ w.heap.size (.slice none 0 0) (.int .i64 0) _ _ rfl rfl rfl ((HN1.out.set 0 (.slice none 0 0)).set 1 (.int .i64 0))) rfl ?_
    exact gr_fail Hno.out HM1.out _ _ _ _
  rw [ht] at hp
  obtain ⟨p, c, rfl, hown, hxl⟩ := hp
  obtain ⟨x, y, m, rfl, hx, hy⟩ := graph_two ht
  obtain ⟨gh, rfl, hg0, hg1, hc⟩ := own_ints hown (by omega)
  have c0 : w1.cell? ⟨gh, 0, none⟩ = some (.int .i64 x) := hc 0 (by simp)
  have c1 : w1.cell? ⟨gh, 1, none⟩ = some (.int .i64 y) := hc 1 (by simp)
  have Hq := Lib.hid ((num_spec Hby.out).end_le hy ((num_spec Hby.out).end_le hx hn))
  have H1 := Lib.hid (H.out.mod HM1.out (fun _ _ _ h => h))
  have Hx := Lib.hid hx
  have Hy := Lib.hid hy
  have Hg0 : Hid (w.heap.size + 2 ≤ gh) := Lib.hid (by have := HS0.out; omega)
  have Hg1 := Lib.hid hg1
  have Hm1 := Lib.hid hm1
  clear hc hown hxl ht hx hy hm1 hg0 hg1
  have cl0 : w1.cell? ⟨w.heap.size + 1, 0, none⟩ = some (.slice none 0 0) := hL1.cell 0 rfl
  have cl1 : w1.cell? ⟨w.heap.size + 1, 1, none⟩ = some (.int .i64 0) := hL1.cell 1 rfl
  have fl1 : w1.frozen? ⟨w.heap.size + 1, 1, none⟩ = false := hL1.frozen 1
  have cn0 : w1.cell? ⟨w.heap.size, 0, none⟩ = some (.slice none 0 0) := hN1.cell 0 rfl
  have cn1 : w1.cell? ⟨w.heap.size, 1, none⟩ = some (.int .i64 0) := hN1.cell 1 rfl
  have fn0 := hN1.frozen 0
  have fn1 := hN1.frozen 1
  have HN1 := Lib.hid hN1
  have HL1 := Lib.hid hL1
  clear hN1 hL1
  by_cases hy0 : 0 ≤ y
  case neg =>
    have t1 : decide (y < 0) = true := decide_eq_true (by omega)
    have Hno : Hid (graphAt bs n = none) := Lib.hid (by unfold graphAt withinAt; rw [Hx.out, Option.bind_some, Hy.out]; simp only; rw [if_neg (fun h => hy0 h.1)]; rfl)
    clear hy0
    go_wp2_with fail
    refine bodyPost_ret (v := .tuple #[.agg #[.slice none 0 0, .int .i64 0], .int .i64 0, .bool false]) (results_graph _ _ w.heap.size (.slice none 0 0) (.int .i64 0) _ _ rfl rfl rfl ((HN1.out.set 0 (.slice none 0 0)).set 1 (.int .i64 0))) rfl ?_
    exact gr_fail Hno.out HM1.out _ _ _ _
  have t1 : decide (y < 0) = false := decide_eq_false (by omega)
  by_cases hy1 : y ≤ 1000
  case neg =>
    have t2 : decide (1000 < y) = true := decide_eq_true (by omega)
    have Hno : Hid (graphAt bs n = none) := Lib.hid (by unfold graphAt withinAt; rw [Hx.out, Option.bind_some, Hy.out]; simp only; rw [if_neg (fun h => hy1 h.2)]; rfl)
    clear hy1
    go_wp2_with fail
    refine bodyPost_ret (v := .tuple #[.agg #[.slice none 0 0, .int .i64 0], .int .i64 0, .bool false]) (results_graph _ _ w.heap.size (.slice none 0 0) (.int .i64 0) _ _ rfl rfl rfl ((HN1.out.set 0 (.slice none 0 0)).set 1 (.int .i64 0))) rfl ?_
    exact gr_fail Hno.out HM1.out _ _ _ _
  have t2 : decide (1000 < y) = false := decide_eq_false (by omega)
  obtain ⟨K, hK⟩ : ∃ K : Nat, y = (K : Int) := ⟨y.toNat, by omega⟩
  have HK1 : Hid (K ≤ 1000) := Lib.hid (by omega)
  have Hres : Hid (graphAt bs n = (timesAt (nodeAt bs) q K).bind fun r => some (⟨r.1, x⟩, r.2)) := Lib.hid (by
    unfold graphAt withinAt
    rw [Hx.out, Option.bind_some, Hy.out]
    simp only
    rw [if_pos ⟨hy0, hy1⟩, hK]
    rfl)
  clear hy0 hy1
  rw [hK] at c1 t1 t2
  clear hK Hy
  have HGr : Hid (Gou.GrAt 33 82 w gh x K (.slice none 0 0) [] [] (w1.setCell ⟨w.heap.size + 1, 1, none⟩ (.int .i64 x))) := Lib.hid (GrAt.start HM1.out HN1.out HL1.out c1 Hg1.out Hg0.out)
  go_wp2_with fail
  go_loopw [1, 10] (fun va vi wr => ∃ (j qq : Nat) (vs : Value) (cs : List Value) (ns : List GNode), va = .int .i64 qq ∧ vi = .int .i64 j ∧ j ≤ K ∧ ns.length = j ∧ qq ≤ bs.length ∧ timesAt (nodeAt bs) q j = some (ns, qq) ∧ Gou.GrAt 33 82 w gh x K vs cs ns wr) (fun _ vi _ => K - (intOf vi).toNat)
  case atStart => exact ⟨0, q, _, [], [], rfl, rfl, by omega, rfl, Hq.out, rfl, HGr.out⟩
  case round =>
    obtain ⟨j, qq, vs, cs, ns, rfl, rfl, hj, hnl, hqq, ht, hg⟩ := hrel
    obtain ⟨pv, cv, rfl⟩ := Gou.ownsRow_form hg.own
    subst hnl
    obtain ⟨j, hjn⟩ : ∃ j, j = ns.length := ⟨_, rfl⟩
    rw [← hjn] at hj ht ⊢
    have hg' := hg
    rw [← hjn] at hg'
    clear hg
    have Hjn := Lib.hid hjn
    clear hjn
    have c1 := hg'.hd
    have Ht := Lib.hid ht
    have Hg := Lib.hid hg'
    clear ht hg'
    by_cases hjk : j < K
    · have e1 : decide ((j : Int) < (K : Int)) = true := decide_eq_true (by omega)
      go_wp2_with fail
      refine (numbersR_any wr pb cb bs (H.out.mod Hg.out.mod (fun _ _ _ h => h)) Hby.out hl qq 1 hqq (by omega)).mono ?_
      rintro e w2 ⟨hm2, hp⟩
      have Hg2 := Lib.hid (Hg.out.next hm2)
      rcases ht2 : timesAt (numAt bs) qq 1 with _ | ⟨xs, q2⟩
      · rw [ht2] at hp
        subst hp
        have Hno : Hid (graphAt bs n = none) := Lib.hid (by rw [Hres.out, timesAt_none (k := j) (j := K) (by rw [timesAt, Ht.out]; simp only; unfold nodeAt; rw [times_one_none ht2]; rfl) (by omega)]; rfl)
        have cl0 : w2.cell? ⟨w.heap.size + 1, 0, none⟩ = some (.slice pv j cv) := Hg2.out.box.cell 0 rfl
        have cl1 : w2.cell? ⟨w.heap.size + 1, 1, none⟩ = some (.int .i64 x) := Hg2.out.box.cell 1 rfl
        have cn0 : w2.cell? ⟨w.heap.size, 0, none⟩ = some (.slice none 0 0) := Hg2.out.res.cell 0 rfl
        have cn1 : w2.cell? ⟨w.heap.size, 1, none⟩ = some (.int .i64 0) := Hg2.out.res.cell 1 rfl
        have fn0 := Hg2.out.res.frozen 0
        have fn1 := Hg2.out.res.frozen 1
        clear ht2
        go_wp2_with fail
        refine bodyPost_ret (v := .tuple #[.agg #[.slice pv j cv, .int .i64 x], .int .i64 0, .bool false]) (results_graph _ _ w.heap.size (.slice pv j cv) (.int .i64 x) _ _ rfl rfl rfl ((Hg2.out.res.set 0 (.slice pv j cv)).set 1 (.int .i64 x))) rfl ?_
        exact gr_fail Hno.out Hg2.out.mod _ _ _ _
      rw [ht2] at hp
      obtain ⟨p2, c2, rfl, hown2, hxl2⟩ := hp
      obtain ⟨op, rfl, hop⟩ := times_one ht2
      obtain ⟨go, rfl, hgo0, hgo1, hc2⟩ := own_ints hown2 (by omega)
      have Hc2 : Hid (w2.cell? ⟨go, 0, none⟩ = some (.int .i64 op)) := Lib.hid (hc2 0 (by simp))
      have Hgo := Lib.hid hgo1
      have Hgo2 := Lib.hid hgo0
      have hq2 := (num_spec Hby.out).end_le hop hqq
      have Hop := Lib.hid hop
      have Hm2 := Lib.hid hm2
      clear hc2 hown2 hxl2 ht2 hm2 hop hgo0 hgo1
      go_wp2_with fail
      refine (listR_any w2 pb cb bs (H.out.mod Hg2.out.mod (fun _ _ _ h => h)) Hby.out hl q2 hq2).mono ?_
      rintro e w3 ⟨hm3, hp⟩
      have Hg3 := Lib.hid (Hg2.out.next hm3)
      rcases ht3 : listAt bs q2 with _ | ⟨ins, q3⟩
      · rw [ht3] at hp
        subst hp
        have Hno : Hid (graphAt bs n = none) := Lib.hid (by rw [Hres.out, timesAt_none (k := j) (j := K) (by rw [timesAt, Ht.out]; simp only; unfold nodeAt; rw [Hop.out, Option.bind_some, ht3]; rfl) (by omega)]; rfl)
        have cl0 : w3.cell? ⟨w.heap.size + 1, 0, none⟩ = some (.slice pv j cv) := Hg3.out.box.cell 0 rfl
        have cl1 : w3.cell? ⟨w.heap.size + 1, 1, none⟩ = some (.int .i64 x) := Hg3.out.box.cell 1 rfl
        have cn0 : w3.cell? ⟨w.heap.size, 0, none⟩ = some (.slice none 0 0) := Hg3.out.res.cell 0 rfl
        have cn1 : w3.cell? ⟨w.heap.size, 1, none⟩ = some (.int .i64 0) := Hg3.out.res.cell 1 rfl
        have fn0 := Hg3.out.res.frozen 0
        have fn1 := Hg3.out.res.frozen 1
        clear ht3
        go_wp2_with fail
        refine bodyPost_ret (v := .tuple #[.agg #[.slice pv j cv, .int .i64 x], .int .i64 0, .bool false]) (results_graph _ _ w.heap.size (.slice pv j cv) (.int .i64 x) _ _ rfl rfl rfl ((Hg3.out.res.set 0 (.slice pv j cv)).set 1 (.int .i64 x))) rfl ?_
        exact gr_fail Hno.out Hg3.out.mod _ _ _ _
      rw [ht3] at hp
      obtain ⟨p3, c3, rfl, hown3⟩ := hp
      have hq3 := (list_spec Hby.out).end_le ht3 hq2
      have Hown3 := Lib.hid hown3
      have Ht3 := Lib.hid ht3
      have Hm3 := Lib.hid hm3
      clear hown3 ht3 hm3
      generalize hlins : ins.length = lins at *
      have Hlins := Lib.hid hlins
      clear hlins
      go_wp2_with fail
      refine (listR_any w3 pb cb bs (H.out.mod Hg3.out.mod (fun _ _ _ h => h)) Hby.out hl q3 hq3).mono ?_
      rintro e w4 ⟨hm4, hp⟩
      have Hg4 := Lib.hid (Hg3.out.next hm4)
      rcases ht4 : listAt bs q3 with _ | ⟨ps, q4⟩
      · rw [ht4] at hp
        subst hp
        have Hno : Hid (graphAt bs n = none) := Lib.hid (by rw [Hres.out, timesAt_none (k := j) (j := K) (by rw [timesAt, Ht.out]; simp only; unfold nodeAt; rw [Hop.out, Option.bind_some, Ht3.out, Option.bind_some, ht4]; rfl) (by omega)]; rfl)
        have cl0 : w4.cell? ⟨w.heap.size + 1, 0, none⟩ = some (.slice pv j cv) := Hg4.out.box.cell 0 rfl
        have cl1 : w4.cell? ⟨w.heap.size + 1, 1, none⟩ = some (.int .i64 x) := Hg4.out.box.cell 1 rfl
        have cn0 : w4.cell? ⟨w.heap.size, 0, none⟩ = some (.slice none 0 0) := Hg4.out.res.cell 0 rfl
        have cn1 : w4.cell? ⟨w.heap.size, 1, none⟩ = some (.int .i64 0) := Hg4.out.res.cell 1 rfl
        have fn0 := Hg4.out.res.frozen 0
        have fn1 := Hg4.out.res.frozen 1
        clear ht4
        go_wp2_with fail
        refine bodyPost_ret (v := .tuple #[.agg #[.slice pv j cv, .int .i64 x], .int .i64 0, .bool false]) (results_graph _ _ w.heap.size (.slice pv j cv) (.int .i64 x) _ _ rfl rfl rfl ((Hg4.out.res.set 0 (.slice pv j cv)).set 1 (.int .i64 x))) rfl ?_
        exact gr_fail Hno.out Hg4.out.mod _ _ _ _
      rw [ht4] at hp
      obtain ⟨p4, c4, rfl, hown4⟩ := hp
      have hq4 := (list_spec Hby.out).end_le ht4 hq3
      have Hown4 := Lib.hid hown4
      have Ht4 := Lib.hid ht4
      have Hm4 := Lib.hid hm4
      clear hown4 ht4 hm4
      generalize hlps : ps.length = lps at *
      have Hlps := Lib.hid hlps
      clear hlps
      go_wp2_with fail
      obtain ⟨iN, hiN, hz0, hz1, hz2⟩ := info_parts info_nodeR
      have Hown : Hid (w4.ownsRow (w.heap.size + 2) 82 3 (.slice pv j cv) j cs) := Lib.hid (by have := Hg4.out.own; rw [← Hjn.out] at this; exact this)
      have HS : Hid (∀ w' : World, Gou.Mod (fun q => (Value.slice pv j cv).ownBlock = some q) w4 w' → w'.cell? ⟨w.heap.size + 1, 0, none⟩ = some (.slice pv j cv) ∧ w'.cell? ⟨go, 0, none⟩ = some (.int .i64 op)) := Lib.hid (fun w' hm => by
        have hn1 : ¬ (Value.slice pv j cv).ownBlock = some (w.heap.size + 1) := fun e => by have := (Hown.out.lt _ e).1; omega
        have hn2 : ¬ (Value.slice pv j cv).ownBlock = some go := fun e => by have := (Hg.out.own.lt _ e).2; have := Hgo2.out; omega
        refine ⟨(hm.cell (p := ⟨w.heap.size + 1, 0, none⟩) (Hg4.out.box.lt) hn1).trans (Hg4.out.box.cell 0 rfl), ?_⟩
        have m24 := Hm3.out.trans' Hm4.out
        refine (hm.cell (p := ⟨go, 0, none⟩) (Nat.lt_of_lt_of_le Hgo.out m24.size) hn2).trans ?_
        exact (m24.cell (p := ⟨go, 0, none⟩) Hgo.out (fun h => h)).trans Hc2.out)
      have hKb := HK1.out
      have HK2 : Hid (j + 1 ≤ 1000) := Lib.hid (by have := HK1.out; omega)
      clear c0 fl1 cl0 cl1 cn0 cn1 fn0 fn1
      refine wp_region_defer (S := (fun w' => Gou.Mod (fun q => (Value.slice pv j cv).ownBlock = some q) w4 w')) 11 ({ dst := none, op := Op.store 31 (Operand.tmp 94) (Operand.tmp 93), type := 0, pos := "ref.go:100", after := #[gD 10, gD 9, { on := 9, ground := Ground.chain }, gP 0, gP 1, gP 2, gP 3, gP 4, gP 5, gP 6, gP 7, gP 8, gP 9], guard := none } : Oper) rfl (by kernel_rfl) rfl rfl (by kernel_rfl) (by kernel_rfl) (Gou.Mod.drew _ _) (fun hHeld => ?_)
      refine wpAnyH_take (i := 0) (oi := ({ dst := some 84, op := Op.fieldAddr 33 (Operand.tmp 7) 0, type := 0, pos := "ref.go:100", after := #[], guard := none } : Oper)) (v := .pointer (some ⟨w.heap.size + 1, 0, none⟩)) rfl (by kernel_rfl) (by kernel_rfl) (by kernel_rfl) (fun _ _ _ h => h) (Or.inl ⟨by rfl, ?_⟩) hHeld ?_
      · (intro w' hSw; (try dsimp only at hSw); have hs := HS.out w' hSw; obtain ⟨s0, s1⟩ := hs; clear hSw; go_simp; (try with_reducible rfl))
      try simp only [Act.put, uSa, uSb, uSc]
      refine wpAnyH_take (i := 1) (oi := ({ dst := some 85, op := Op.load 31 (Operand.tmp 84), type := 31, pos := "ref.go:100", after := #[gD 0], guard := none } : Oper)) (v := .slice pv j cv) rfl (by kernel_rfl) (by kernel_rfl) (by kernel_rfl) (fun _ _ _ h => h) (Or.inl ⟨by rfl, ?_⟩) hHeld ?_
      · (intro w' hSw; (try dsimp only at hSw); have hs := HS.out w' hSw; obtain ⟨s0, s1⟩ := hs; clear hSw; go_simp; (try with_reducible rfl))
      try simp only [Act.put, uSa, uSb, uSc]
      refine wpAnyH_take (i := 2) (oi := ({ dst := some 86, op := Op.move (Operand.tmp 11), type := 72, pos := "ref.go:100", after := #[], guard := none } : Oper)) (v := .slice (some ⟨go, 0, none⟩) 1 c2) rfl (by kernel_rfl) (by kernel_rfl) (by kernel_rfl) (fun _ _ _ h => h) (Or.inl ⟨by rfl, ?_⟩) hHeld ?_
      · (intro w' hSw; (try dsimp only at hSw); have hs := HS.out w' hSw; obtain ⟨s0, s1⟩ := hs; clear hSw; go_simp; (try with_reducible rfl))
      try simp only [Act.put, uSa, uSb, uSc]
      refine wpAnyH_take (i := 3) (oi := ({ dst := some 87, op := Op.indexAddr 72 (Operand.tmp 86) (Operand.const (Value.int IntKind.i64 0)), type := 0, pos := "ref.go:100", after := #[gD 2], guard := none } : Oper)) (v := .pointer (some ⟨go, 0, none⟩)) rfl (by kernel_rfl) (by kernel_rfl) (by kernel_rfl) (fun _ _ _ h => h) (Or.inl ⟨by rfl, ?_⟩) hHeld ?_
      · (intro w' hSw; (try dsimp only at hSw); have hs := HS.out w' hSw; obtain ⟨s0, s1⟩ := hs; clear hSw; go_simp; (try with_reducible rfl))
      try simp only [Act.put, uSa, uSb, uSc]
      refine wpAnyH_take (i := 4) (oi := ({ dst := some 88, op := Op.load 3 (Operand.tmp 87), type := 3, pos := "ref.go:100", after := #[gD 3], guard := none } : Oper)) (v := .int .i64 op) rfl (by kernel_rfl) (by kernel_rfl) (by kernel_rfl) (fun _ _ _ h => h) (Or.inl ⟨by rfl, ?_⟩) hHeld ?_
      · (intro w' hSw; (try dsimp only at hSw); have hs := HS.out w' hSw; obtain ⟨s0, s1⟩ := hs; clear hSw; go_simp; (try with_reducible rfl))
      try simp only [Act.put, uSa, uSb, uSc]
      refine wpAnyH_take (i := 5) (oi := ({ dst := some 89, op := Op.move (Operand.tmp 14), type := 72, pos := "ref.go:100", after := #[], guard := none } : Oper)) (v := .slice p3 lins c3) rfl (by kernel_rfl) (by kernel_rfl) (by kernel_rfl) (fun _ _ _ h => h) (Or.inl ⟨by rfl, ?_⟩) hHeld ?_
      · (intro w' hSw; (try dsimp only at hSw); have hs := HS.out w' hSw; obtain ⟨s0, s1⟩ := hs; clear hSw; go_simp; (try with_reducible rfl))
      try simp only [Act.put, uSa, uSb, uSc]
      refine wpAnyH_take (i := 6) (oi := ({ dst := some 90, op := Op.move (Operand.tmp 17), type := 72, pos := "ref.go:100", after := #[], guard := none } : Oper)) (v := .slice p4 lps c4) rfl (by kernel_rfl) (by kernel_rfl) (by kernel_rfl) (fun _ _ _ h => h) (Or.inl ⟨by rfl, ?_⟩) hHeld ?_
      · (intro w' hSw; (try dsimp only at hSw); have hs := HS.out w' hSw; obtain ⟨s0, s1⟩ := hs; clear hSw; go_simp; (try with_reducible rfl))
      try simp only [Act.put, uSa, uSb, uSc]
      refine wpAnyH_take (i := 7) (oi := ({ dst := some 91, op := Op.build 82 #[(0, Operand.tmp 88), (1, Operand.tmp 89), (2, Operand.tmp 90)], type := 82, pos := "ref.go:100", after := #[gD 4, gD 5, gD 6], guard := none } : Oper)) (v := .agg #[.int .i64 op, .slice p3 lins c3, .slice p4 lps c4]) rfl (by kernel_rfl) (by kernel_rfl) (by kernel_rfl) (fun _ _ _ h => h) (Or.inl ⟨by rfl, ?_⟩) hHeld ?_
      · (intro w' hSw; (try dsimp only at hSw); have hs := HS.out w' hSw; obtain ⟨s0, s1⟩ := hs; clear hSw; go_simp; (try with_reducible rfl))
      try simp only [Act.put, uSa, uSb, uSc]
      refine wpAnyH_ready (rs := [8]) (by kernel_rfl) (by simp) (AllReadyH.cons (o := ({ dst := some 92, op := Op.buildSlice 31 1 #[(0, Operand.tmp 91)], type := 31, pos := "ref.go:100", after := #[gD 7], guard := none } : Oper)) rfl (fun K9 hK => ?_) AllReadyH.nil)
      go_simp
      refine hK _ _ (hHeld.trans' (Gou.Mod.alloc _ _ _)) (fun hHeld2 => ?_)
      clear hK K9
      try simp only [Act.put, uSa, uSb, uSc]
      refine wpAnyH_ready (rs := [9]) (by kernel_rfl) (by simp) (AllReadyH.cons (o := ({ dst := some 93, op := Op.call { callee := Callee.builtin Builtin.append, args := #[Operand.tmp 85, Operand.tmp 92], argTypes := #[31, 31] }, type := 31, pos := "ref.go:100", after := #[gD 1, gD 8], guard := none } : Oper)) rfl (fun K9 hK => ?_) AllReadyH.nil)
      refine step_append_lies _ (by rfl) (Operand.tmp 85) (Operand.tmp 92) 31 (by rfl) (w.heap.size + 2) 82 iN (.agg #[.int .i64 0, .slice none 0 0, .slice none 0 0]) 3 56 Try.underlying31 hiN hz0 hz1 hz2 (by simp [Value.cells]) (by omega) (.slice pv j cv) j cs (by rfl) (Hown.out.alloc _) ⟨w4.heap.size, 0, none⟩ 1 1 [.int .i64 op, .slice p3 lins c3, .slice p4 lps c4] (by rfl) (by rfl) (news_at (heap_alloc_new w4 _) rfl) (by simp [Value.oneCell']) (by omega) (by unfold maxLen; have := HK2.out; omega) (by omega) (by have := Hg4.out.box.lt; show w.heap.size + 2 ≤ (w4.alloc _).heap.size; rw [World.size_alloc]; omega) _ rfl ?_
      intro gg cp w6 hown6 hgrow6 hat6 hlt6
      have hM5 := (Gou.Mod.alloc (fun _ => False) w4 (.cells #[.int .i64 op, .slice p3 lins c3, .slice p4 lps c4] 82)).trans' (Gou.Mod.drew _ _)
      have M6 : Hid (Gou.Mod (fun q => (Value.slice pv j cv).ownBlock = some q) w4 w6) := Lib.hid ((hM5.imp fun _ _ h => h.elim).trans' (Gou.Mod.of_grown hgrow6))
      have HG6 : Hid (Gou.GrAt 33 82 w gh x K (.slice (some ⟨gg, 0, none⟩) (j + 1) cp) (cs ++ [.int .i64 op, .slice p3 lins c3, .slice p4 lps c4]) (ns ++ [⟨op, ins, ps⟩]) (w6.setCell ⟨w.heap.size + 1, 0, none⟩ (.slice (some ⟨gg, 0, none⟩) (j + 1) cp))) := Lib.hid (by
        have hb : ∀ b, wr.heap.size ≤ b → (Value.slice pv j cv).ownBlock ≠ some b := fun b hb e => by have := (Hg.out.own.lt _ e).2; omega
        have hL := Hg.out.box.lt
        have s2 := Hm2.out.size
        have s3 := Hm3.out.size
        have r3 : IntsR (fun b => w.heap.size + 2 ≤ b ∧ (Value.slice pv j cv).ownBlock ≠ some b) w4 (.slice p3 lins c3) ins := by
          have h1 := RowG.mod (RowG.of_own Hown3.out) Hm4.out (fun _ _ _ h => h)
          rw [← Hlins.out] at h1 ⊢
          exact RowG.imp h1 fun b _ hg => ⟨by omega, hb b (by omega)⟩
        have r4 : IntsR (fun b => w.heap.size + 2 ≤ b ∧ (Value.slice pv j cv).ownBlock ≠ some b) w4 (.slice p4 lps c4) ps := by
          have h1 := RowG.of_own Hown4.out
          rw [← Hlps.out] at h1 ⊢
          exact RowG.imp h1 fun b _ hg => ⟨by omega, hb b (by omega)⟩
        have hg4 := Hg4.out
        clear Hg Hg2 Hg3 Hg4
        have hjn := Hjn.out
        subst hjn
        exact hg4.push (nd := ⟨op, ins, ps⟩) hM5 r3 r4 hown6 (Gou.Mod.of_grown hgrow6) (hat6.imp id (fun h => by omega)))
      have cl6 : w6.cell? ⟨w.heap.size + 1, 0, none⟩ = some (.slice pv j cv) := (HS.out _ M6.out).1
      have fl6 : w6.frozen? ⟨w.heap.size + 1, 0, none⟩ = false := by
        have hn1 : ¬ (Value.slice pv j cv).ownBlock = some (w.heap.size + 1) := fun e => by have := (Hown.out.lt _ e).1; omega
        exact (M6.out.frozen (p := ⟨w.heap.size + 1, 0, none⟩) Hg4.out.box.lt hn1).trans (Hg4.out.box.frozen 0)
      clear hown6 hgrow6 hat6 hlt6 hHeld hHeld2 hM5
      refine hK _ _ M6.out (fun hHeld => ?_)
      clear hK K9
      try simp only [Act.put, uSa, uSb, uSc]
      refine wpAnyH_take (i := 10) (oi := ({ dst := some 94, op := Op.fieldAddr 33 (Operand.tmp 7) 0, type := 0, pos := "ref.go:100", after := #[gP 0, gP 1, gP 2, gP 3, gP 4, gP 5, gP 6, gP 7, gP 8, gP 9], guard := none } : Oper)) (v := .pointer (some ⟨w.heap.size + 1, 0, none⟩)) rfl (by kernel_rfl) (by kernel_rfl) (by kernel_rfl) (fun _ _ _ h => h) (Or.inl ⟨by rfl, ?_⟩) hHeld ?_
      · (intro w' hSw; (try dsimp only at hSw); have hs := HS.out w' hSw; obtain ⟨s0, s1⟩ := hs; clear hSw; go_simp; (try with_reducible rfl))
      try simp only [Act.put, uSa, uSb, uSc]
      refine wpAnyH_take (i := 11) (oi := ({ dst := none, op := Op.assign (Operand.const (Value.bool true)), type := 0, pos := "ref.go:100", after := #[gD 10, gD 9, { on := 9, ground := Ground.chain }, gP 0, gP 1, gP 2, gP 3, gP 4, gP 5, gP 6, gP 7, gP 8, gP 9], guard := none } : Oper)) (v := .bool true) rfl (by kernel_rfl) (by kernel_rfl) (by kernel_rfl) (fun _ _ _ h => h) (Or.inl ⟨by rfl, ?_⟩) hHeld ?_
      · (intro w' hSw; clear hSw; go_simp; (try with_reducible rfl))
      try simp only [Act.put, uSa, uSb, uSc]
      refine wpAnyH_done (by kernel_rfl) ?_ _
      clear hHeld
      refine deferQ_store (x := Operand.tmp 94) (y := Operand.tmp 93) (by rfl) (by rfl) (by rfl) (by rfl) cl6 fl6 ?_
      clear cl6 fl6
      go_wp2_with fail
      go_roundw
      case rel => exact ⟨j + 1, q4, _, _, ns ++ [⟨op, ins, ps⟩], by go_num, by go_num, by omega, by rw [List.length_append, Hjn.out]; rfl, hq4, by rw [timesAt, Ht.out]; simp only [nodeAt, Hop.out, Option.bind_some, Ht3.out, Ht4.out], HG6.out⟩
      case measure => simp [intOf]; omega
    · obtain rfl : j = K := by omega
      have e1 : decide ((j : Int) < (j : Int)) = false := by simp
      have cl0 : wr.cell? ⟨w.heap.size + 1, 0, none⟩ = some (.slice pv j cv) := Hg.out.box.cell 0 rfl
      have cl1 : wr.cell? ⟨w.heap.size + 1, 1, none⟩ = some (.int .i64 x) := Hg.out.box.cell 1 rfl
      have cn0 : wr.cell? ⟨w.heap.size, 0, none⟩ = some (.slice none 0 0) := Hg.out.res.cell 0 rfl
      have cn1 : wr.cell? ⟨w.heap.size, 1, none⟩ = some (.int .i64 0) := Hg.out.res.cell 1 rfl
      have fn0 := Hg.out.res.frozen 0
      have fn1 := Hg.out.res.frozen 1
      go_wp2_with fail
      refine bodyPost_ret (v := .tuple #[.agg #[.slice pv j cv, .int .i64 x], .int .i64 qq, .bool true]) (results_graph _ _ w.heap.size (.slice pv j cv) (.int .i64 x) _ _ rfl rfl rfl ((Hg.out.res.set 0 (.slice pv j cv)).set 1 (.int .i64 x))) rfl ?_
      have hh := Hg.out
      rw [Hjn.out] at hh ⊢
      exact gr_done (by rw [Hres.out, Ht.out]; rfl) hh

end Go.Proofs.Ytnamnmipgpcjjaa

