/- Texts of the scenes' proofs, laid together: FsE, FsF, RmA, RgK, RmB. -/
import Derived.Test.YtlpieeeeolfclaaGreatDoorZap
import Derived.Test.YtlpieeeeolfclaaGreatDoorZak
import Derived.Test.YtlpieeeeolfclaaGreatDoorZae
set_option linter.unusedSimpArgs false
set_option linter.unusedVariables false
set_option linter.unusedSectionVars false
set_option linter.constructorNameAsVariable false

/- ForeKeeps: fore.carried over regions: the walk. -/
namespace Go.Proofs.YtlpieeeeolfclaaGreatDoor
open Go.RowKit Go.Gou Go.Reg Go.Shelf
set_option maxRecDepth 100000
set_option linter.constructorNameAsVariable false

theorem mod_low {VB : Nat} {w w1 w2 : World} (h1 : Gou.Mod (fun _ => False) w w1) (h2 : Gou.Mod (fun k => k = VB) w1 w2) (hV : w.heap.size ≤ VB) : Gou.Mod (fun _ => False) w w2 := h1.trans h2 (fun k hk h => by omega)
theorem ord_cell {w : World} {B : Nat} {g cap : Nat} {out : List Nat} (h : w.ownsRow B 3 1 (.slice (some ⟨g, 0, none⟩) out.length cap) out.length (iv (ci out))) {i : Nat} (hi : i < out.length) : w.cell? ⟨g, i, none⟩ = some (.int .i64 ((out[i] : Nat) : Int)) := by
  rw [h.cellAt i (by omega)]
  simp [iv, ci, hi]
theorem ord_some {w : World} {B : Nat} {p : Option Addr} {cap : Nat} {out : List Nat} (h : w.ownsRow B 3 1 (.slice p out.length cap) out.length (iv (ci out))) (h0 : 0 < out.length) : ∃ g, p = some ⟨g, 0, none⟩ ∧ B ≤ g ∧ g < w.heap.size := by
  obtain ⟨g, rfl⟩ := own_some h h0
  exact ⟨g, rfl, h.lt g rfl⟩
/-- What a node's inputs were stays, when a node that comes later is told. -/
theorem insV_later {g : Gr} {ord : List Nat} (ho : IsOrder (insN g) ord) {a : List Rt} {V : Nat → List Rt} {l : List Rt} {i k : Nat} (hi : i < ord.length) (hk : k < g.nodes.length) (hm : k ∈ ord.take i) (hins : ∀ x ∈ g.nodes[k].ins, -1 ≤ x ∧ x < g.nodes.length) :
    insV a (fun j => if j = ord[i] then l else V j) g.nodes[k].ins = insV a V g.nodes[k].ins := by
  refine insV_congr fun x hx hne => ?_
  obtain ⟨j, hj, hje⟩ := List.mem_take_iff_getElem.1 hm
  have hj2 : j < ord.length := by omega
  have hj1 : j < i := by omega
  have hsplit : ord = ord.take j ++ ord[j] :: ord.drop (j + 1) := by
    rw [List.getElem_cons_drop hj2, List.take_append_drop]
  have h2 := hins x hx
  have hin : x.toNat ∈ (insN g).getD k [] := by
    rw [insN_mem g k hk, insG_get g k hk, (insL_nodup _ _).2]
    have : ((x.toNat : Nat) : Int) = x := by omega
    rw [this]
    exact ⟨hx, by omega, by omega⟩
  have hpre := ho.topo (ord.take j) ord[j] (ord.drop (j + 1)) hsplit x.toNat (by rw [hje]; exact hin)
  rw [if_neg fun e => ?_]
  rw [e] at hpre
  obtain ⟨q, hq, hqe⟩ := List.mem_take_iff_getElem.1 hpre
  have := (List.getElem_inj (i := q) (j := i) ho.nodup).1 hqe
  omega
theorem not_before {G : List (List Nat)} {ord : List Nat} (ho : IsOrder G ord) {i : Nat} (hi : i < ord.length) : ord[i] ∉ ord.take i := fun hm => by
  obtain ⟨q, hq, hqe⟩ := List.mem_take_iff_getElem.1 hm
  have := (List.getElem_inj (i := q) (j := i) ho.nodup).1 hqe
  omega

/-- A round's node, and what becomes of the nodes that are told. -/
theorem round_facts {g : Gr} (ht : Taken g) {ord : List Nat} (ho : IsOrder (insN g) ord) {a : List Rt} {V : Nat → List Rt} {i : Nat} (hi : i < ord.length) (hsp : ∀ k, (h : k < g.nodes.length) → k ∈ ord.take i → SprOk g.nodes[k] (insV a V g.nodes[k].ins) (V k)) :
    ∃ (kk : Nat) (nd : GNode) (hk : kk < g.nodes.length), ord[i] = kk ∧ g.nodes[kk] = nd ∧ oneS nd g.nodes.length = 0 ∧ (∀ x ∈ nd.ins, -1 ≤ x ∧ x < g.nodes.length) ∧ nd.ins.length ≤ 8 ∧
      ∀ l : List Rt, SprOk nd (insV a V nd.ins) l → ∀ k, (h : k < g.nodes.length) → k ∈ ord.take (i + 1) → SprOk g.nodes[k] (insV a (fun j => if j = kk then l else V j) g.nodes[k].ins) (if k = kk then l else V k) := by
  have hkn : ord[i] < g.nodes.length := by
    have := (ho.mem ord[i]).1 (List.getElem_mem hi)
    have h2 := this.lt
    rwa [insN_len] at h2
  have hinb : ∀ k, (h : k < g.nodes.length) → ∀ x ∈ g.nodes[k].ins, -1 ≤ x ∧ x < g.nodes.length := fun k h x hx => by
    have h3 := (oneS_zero (ht.one _ (List.getElem_mem h))).2.2.1
    have h4 := List.all_eq_true.1 h3 x hx
    simp only [withinB, Bool.and_eq_true, decide_eq_true_eq] at h4
    omega
  have hone := ht.one _ (List.getElem_mem hkn)
  have hself : ∀ l : List Rt, insV a (fun j => if j = ord[i] then l else V j) g.nodes[ord[i]].ins = insV a V g.nodes[ord[i]].ins := fun l => by
    refine insV_congr fun x hx hne => ?_
    have h2 := hinb _ hkn x hx
    have hin : x.toNat ∈ (insN g).getD ord[i] [] := by
      rw [insN_mem g _ hkn, insG_get g _ hkn, (insL_nodup _ _).2]
      have : ((x.toNat : Nat) : Int) = x := by omega
      rw [this]
      exact ⟨hx, by omega, by omega⟩
    have hsplit : ord = ord.take i ++ ord[i] :: ord.drop (i + 1) := by rw [List.getElem_cons_drop hi, List.take_append_drop]
    have hpre := ho.topo _ _ _ hsplit _ hin
    rw [if_neg fun e => ?_]
    rw [e] at hpre
    exact not_before ho hi hpre
  refine ⟨ord[i], g.nodes[ord[i]], hkn, rfl, rfl, hone, hinb _ hkn, oneS_ins hone, fun l hs k hk hm => ?_⟩
  by_cases e : k = ord[i]
  · subst e
    rw [if_pos rfl, hself]
    exact hs
  · rw [List.take_succ_eq_append_getElem hi, List.mem_append] at hm
    have hm' : k ∈ ord.take i := hm.resolve_right (fun h => e (List.mem_singleton.1 h))
    rw [if_neg e, insV_later ho hi hk hm' (hinb k hk)]
    exact hsp k hk hm'

/-- What comes back from a filter's carrying. -/
def CarP (w : World) (g : Gr) (a : List Rt) (e : Ending) (w' : World) : Prop :=
  Gou.Mod (fun _ => False) w w' ∧ ∃ (p : Option Addr) (c : Nat) (V : Nat → List Rt) (xs ys : List Int), Grd xs ys 10000 ∧ Rgn xs ys (V g.out.toNat) ∧ e = .returned (.slice p (V g.out.toNat).length c) ∧ RtR (fun _ => True) w' (.slice p (V g.out.toNat).length c) (V g.out.toNat) ∧
    ∀ k, (h : k < g.nodes.length) → SprOk g.nodes[k] (insV a V g.nodes[k].ins) (V k)

set_option maxHeartbeats 8000000 in
theorem carriedR_any (w : World) (v : Value) (g : Gr) (pa : Option Addr) (ca : Nat) (a : List Rt) (xs0 ys0 : List Int) (hg : GrV w v g) (hwf : GrWf g) (ht : Taken g) (h6 : g.nodes.length ≤ 6) (hG : Grd xs0 ys0 12) (ha : RtR (fun _ => True) w (.slice pa a.length ca) a) (hR : Rgn xs0 ys0 a) :
    Calls Tryz.prog 15 #[v, .slice pa a.length ca, .func (.func 16) #[] #[]] w (CarP w g a) := by
  obtain ⟨i0, hi0, hz0, hz1, hz2⟩ := info_parts info_rgn
  have Hg := Lib.hid hg
  have Ht := Lib.hid ht
  have HG := Lib.hid hG
  have Ha := Lib.hid ha
  have HR := Lib.hid hR
  have H6 := Lib.hid h6
  have hok : GrOk g := ⟨by omega, fun n hn => by have := oneS_ins (ht.one n hn); omega, hwf.ins⟩
  have Hok := Lib.hid hok
  obtain ⟨vn, rfl, p, cap, rfl, hcap, hcells⟩ := hg
  rcases hcells with hcells | ⟨nb, no, rfl, hnb, hcells⟩
  · have := ht.pos
    rw [hcells] at this
    simp at this
  have Hnb := Lib.hid hnb
  have Hcells := Lib.hid hcells
  clear ht hG ha hR hok hcap hnb hcells
  go_enter Tryz.func15, Tryz.ntmps15
  go_wp2_with (first
    | (at_make; refine wpList_make_full _ rfl _ _ 50 rfl w.heap.size 26 i0 (.slice none 0 0) 1 Tryz.underlying50 hi0 hz0 hz1 _ _ _ _ g.nodes.length rfl rfl rfl rfl ?b1 ?b2 ?b3 ?_) | fail)
  case b1 => rw [hz2]; omega
  case b2 => unfold maxLen; omega
  case b3 => simp
  intro w1 hown hgrow
  have hm0 : Gou.Mod (fun _ => False) w (w.alloc (.cells #[.slice (some ⟨nb, no, none⟩) g.nodes.length cap, .int .i64 g.out] 24)) := Gou.Mod.alloc0 _ _
  have hB0 := Blk.new w 24 #[.slice (some ⟨nb, no, none⟩) g.nodes.length cap, .int .i64 g.out]
  have hm1 : Gou.Mod (fun _ => False) (w.alloc (.cells #[.slice (some ⟨nb, no, none⟩) g.nodes.length cap, .int .i64 g.out] 24)) w1 := (Gou.Mod.of_grown hgrow).imp (fun k _ h => by cases h)
  have hB1 := hB0.mod0 hm1
  have hw1 := hm0.trans' hm1
  have hzs : w.heap.size + 1 < w1.heap.size := (hown.lt _ rfl).2
  rw [toList_madeCells_one] at hown
  have hC : CarR w1 w.heap.size (w.heap.size + 1) g.nodes.length (List.replicate g.nodes.length (.slice none 0 0)) (fun _ => []) := ⟨by simpa using hown, fun k hk => by
    rw [show (List.replicate g.nodes.length (Value.slice none 0 0)).getD k undef = .slice none 0 0 from by simp [List.getD, hk]]
    exact RowG.nil _ _ _⟩
  have HC := Lib.hid hC
  have HB1 := Lib.hid hB1
  have Hw1 := Lib.hid hw1
  have Hzs := Lib.hid hzs
  have c0 := hB1.cell 0 rfl
  have c1 := hB1.cell 1 rfl
  clear hown hgrow hm0 hB0 hm1 hB1 hw1 hC hzs hi0 hz0 hz1 hz2
  obtain ⟨GB, hGB⟩ : ∃ GB, GB = w.heap.size := ⟨_, rfl⟩
  have HGB := Lib.hid hGB
  rw [← hGB] at c0 c1 HB1 HC Hzs ⊢
  clear hGB
  go_wp2_with fail
  refine (all_ord w1 _ g (Hg.out.up (Gou.Mod.below Hw1.out (Nat.le_refl _) (fun _ _ h => h))) Hok.out).mono ?_
  rintro e w2 ⟨vo, ord, rfl, hown, hord, hb⟩
  have hm2 : Gou.Mod (fun _ => False) w1 w2 := Gou.Mod.of_below hb _
  have Hw2 := Lib.hid (Hw1.out.trans' hm2)
  have HC2 := Lib.hid (HC.out.under hm2)
  have HB2 := Lib.hid (HB1.out.mod0 hm2)
  have Hord := Lib.hid hord
  have Hlen : Hid (ord.length ≤ 6) := Lib.hid (by have h1 := hord.le; rw [insN_len] at h1; have := H6.out; omega)
  obtain ⟨po, co, rfl⟩ := Gou.ownsRow_form hown
  have Hown := Lib.hid hown
  have HV : Hid (w.heap.size ≤ GB + 1) := Lib.hid (by have := HGB.out; omega)
  have HO : Hid (GB + 1 < w1.heap.size) := Hzs
  clear hm2 hown hord hb c0 c1 HC HB1
  go_wp2_with fail
  go_loopw [20] (fun vi wr => ∃ (i : Nat) (xs ys : List Int) (V : Nat → List Rt) (vs : List Value), vi = .int .i64 i ∧ i ≤ ord.length ∧ Grd xs ys (kb i) ∧ Rgn xs ys a ∧ (∀ k, k < g.nodes.length → Rgn xs ys (V k)) ∧ CarR wr GB (GB + 1) g.nodes.length vs V ∧ (∀ k, (h : k < g.nodes.length) → k ∈ ord.take i → SprOk g.nodes[k] (insV a V g.nodes[k].ins) (V k)) ∧ Gou.Mod (fun k => k = GB + 1) w2 wr) (fun vi _ => ord.length - (intOf vi).toNat)
  case atStart =>
    exact ⟨0, xs0, ys0, _, _, rfl, Nat.zero_le _, HG.out, HR.out, fun _ _ => Rgn.nil _ _, HC2.out, fun k _ hm => by simp at hm, Gou.Mod.refl _ _⟩
  case round =>
    rename World => wo
    obtain ⟨i, xs, ys, V, vs, rfl, hi, hgd, hra, hrv, hcr, hsp, hm⟩ := hrel
    have Hgd := Lib.hid hgd
    have Hra := Lib.hid hra
    have Hrv := Lib.hid hrv
    have Hcr := Lib.hid hcr
    have Hsp := Lib.hid hsp
    have Hm := Lib.hid hm
    have Hlow := Lib.hid (mod_low Hw2.out hm HV.out)
    have HBr := HB2.out.mod hm (by omega)
    have c0 := HBr.cell 0 rfl
    have c1 := HBr.cell 1 rfl
    clear hgd hra hrv hcr hsp hm HBr
    have wi : IntKind.i64.wrap ((i : Int) + 1) = (i : Int) + 1 := wrap_id (by omega) (by have := Hlen.out; omega)
    by_cases hil : i < ord.length
    · have e1 : decide ((i : Int) < (ord.length : Int)) = true := decide_eq_true (by omega)
      obtain ⟨OB, rfl, hob, hob2⟩ := ord_some Hown.out (by omega)
      have o0 := ord_cell Hown.out hil
      rw [← Hm.out.cell (p := ⟨OB, i, none⟩) hob2 (by show ¬ (OB = GB + 1); have := HO.out; omega)] at o0
      have hi1 : (i : Int) < (ord.length : Int) := by omega
      have hi0 : (0 : Int) ≤ (i : Int) := by omega
      obtain ⟨kk, nd, hkn, hok', hnd, hone, hix, hi8, hsp1⟩ := round_facts Ht.out Hord.out (a := a) (V := V) hil Hsp.out
      rw [hok'] at o0
      obtain ⟨vi, vp, n0, n1, n2, hii, hpp⟩ := Hcells.out kk hkn
      rw [hnd] at n0 hii hpp
      have Hin := Lib.hid (And.intro hi hil)
      have Hone := Lib.hid hone
      have Hsp2 := Lib.hid hsp1
      have Hrgs := Lib.hid (insV_rgn Hra.out Hrv.out hix)
      have Hi0 := Lib.hid hi8
      have Hix := Lib.hid hix
      have Hkk := Lib.hid hkn
      have hk1 : (kk : Int) < (g.nodes.length : Int) := by omega
      have hk0 : (0 : Int) ≤ (kk : Int) := by omega
      rw [← Hlow.out.cell (p := ⟨nb, no + kk * 3, none⟩) Hnb.out (fun h => h)] at n0
      rw [← Hlow.out.cell (p := ⟨nb, no + kk * 3 + 1, none⟩) Hnb.out (fun h => h)] at n1
      rw [← Hlow.out.cell (p := ⟨nb, no + kk * 3 + 2, none⟩) Hnb.out (fun h => h)] at n2
      clear hone hsp1 hi8 hix hkn hnd hok' Hsp
      obtain ⟨op, ins, ps⟩ := nd
      simp only at n0 n1 n2 hii hpp
      have Hii := Lib.hid hii
      have Hpp := Lib.hid hpp
      obtain ⟨pi_, ci_, rfl⟩ := hii.len
      obtain ⟨pp_, cp_, rfl⟩ := hpp.len
      clear hii hpp
      go_wp2_with fail
      go_loopw [10, 31] (fun lv vj wx => ∃ (j : Nat) (us : List Value), vj = .int .i64 j ∧ j ≤ ins.length ∧ InsR wx wo.heap.size lv j us (insV a V ins) ∧ Gou.Mod (fun _ => False) wo wx) (fun _ vj _ => ins.length - (intOf vj).toNat)
      case atStart => exact ⟨0, [], rfl, Nat.zero_le _, ⟨World.ownsRow_nil _ _ _ _, fun t ht => by omega⟩, Gou.Mod.refl _ _⟩
      case round =>
        obtain ⟨j, us, rfl, hj, hir, hmx⟩ := hrel
        obtain ⟨pl, cl, rfl⟩ := Gou.ownsRow_form hir.own
        have Hir := Lib.hid hir
        have Hmx := Lib.hid hmx
        have wj : IntKind.i64.wrap ((j : Int) + 1) = (j : Int) + 1 := wrap_id (by omega) (by have := Hi0.out; omega)
        rw [← hmx.cell (p := ⟨nb, no + kk * 3, none⟩) (World.block_lt_of_cell? _ _ n0) (fun h => h)] at n0
        rw [← hmx.cell (p := ⟨nb, no + kk * 3 + 1, none⟩) (World.block_lt_of_cell? _ _ n1) (fun h => h)] at n1
        rw [← hmx.cell (p := ⟨nb, no + kk * 3 + 2, none⟩) (World.block_lt_of_cell? _ _ n2) (fun h => h)] at n2
        rw [← hmx.cell (p := ⟨GB, 0, none⟩) (World.block_lt_of_cell? _ _ c0) (fun h => h)] at c0
        rw [← hmx.cell (p := ⟨GB, 1, none⟩) (World.block_lt_of_cell? _ _ c1) (fun h => h)] at c1
        have Hcx := Lib.hid (Hcr.out.under hmx)
        clear hir hmx
        by_cases hjl : j < ins.length
        · have t1 : decide ((j : Int) < (ins.length : Int)) = true := decide_eq_true (by omega)
          have hj1 : (j : Int) < (ins.length : Int) := by omega
          have hj0 : (0 : Int) ≤ (j : Int) := by omega
          obtain ⟨bi, oi, ci', hv, -, hbi, hci⟩ := ints_cells Hii.out (by omega)
          simp only [Value.slice.injEq] at hv
          obtain ⟨rfl, -, rfl⟩ := hv
          have q0 := hci j hjl
          rw [← (Hlow.out.trans' Hmx.out).cell (p := ⟨bi, oi + j, none⟩) hbi (fun h => h)] at q0
          have Hget := Lib.hid (insV_get a V ins j hjl)
          have Hxx := Lib.hid (Hix.out ins[j] (List.getElem_mem hjl))
          rw [show ins.getD j 0 = ins[j] from by simp [List.getD, hjl]] at q0
          have Hjn := Lib.hid (And.intro hj hjl)
          clear hci
          generalize ins[j] = x at *
          by_cases hx : x = -1
          · subst hx
            have Hget2 : Hid ((insV a V ins).getD j [] = a) := Lib.hid (by rw [Hget.out, if_pos rfl])
            clear Hget
            go_wp2_with (first | ((with_reducible show wpList _ _ _ (⟨_, Op.call ⟨.builtin .append, _, _⟩, _, _, _, _⟩ :: _) _ _); refine halt ?_) | fail)
            refine wpList_append_row T_rgs rfl _ _ rfl (wo.heap.size) (.slice pl j cl) j us (fun _ => True) (.slice (some ⟨wr.heap.size, 0, none⟩) 1 1) 1 [.slice pa a.length ca] rfl rfl (by have := Hmx.out.size; simp; omega) (own_up Hir.out.own (Gou.Mod.alloc0 _ _)) (RowG.of_blk (Blk.new _ _ #[.slice pa a.length ca]) 1 1 rfl _ trivial) (fun d hd => by rw [List.mem_singleton.1 hd]; rfl) (by have := Hi0.out; unfold maxLen; omega) (by have := Hi0.out; omega) ?_
            intro v5 w5 G5
            have Hm5 := Lib.hid (G5.mod0 (Hmx.out.trans' (Gou.Mod.alloc0 _ _)) (own_ge Hir.out.own))
            have Hr5 : Hid (InsR w5 wo.heap.size v5 (j + 1) (us ++ [.slice pa a.length ca]) (insV a V ins)) := Lib.hid ((Hir.out.under (Gou.Mod.alloc0 _ _)).grow G5 (by rw [Hget2.out]; exact RowG.under (RowG.imp Ha.out (fun k hk _ => Nat.lt_of_lt_of_le hk Hlow.out.size)) ((Hlow.out.trans' Hmx.out).trans' (Gou.Mod.alloc0 _ _))))
            obtain ⟨p5, c5, rfl⟩ := Gou.ownsRow_form Hr5.out.own
            clear G5
            go_wp2_with fail
            go_roundw
            case rel => exact ⟨j + 1, _, by go_num, by have := Hjn.out; omega, Hr5.out, Hm5.out⟩
            case measure => have := Hjn.out; simp [intOf, wj]; omega
          · have t2 : (x == -1) = false := by simp [hx]
            have t3 : decide (x = -1) = false := by simp [hx]
            have Hget2 : Hid ((insV a V ins).getD j [] = V x.toNat) := Lib.hid (by rw [Hget.out, if_neg hx])
            have hx0 : 0 ≤ x := by have := Hxx.out; omega
            have hx1 : x < (g.nodes.length : Int) := by have := Hxx.out; omega
            obtain ⟨px, cx, d0, hrx⟩ := Hcr.out.cell (k := x.toNat) (by omega)
            rw [← Hmx.out.cell (p := ⟨GB + 1, x.toNat, none⟩) (World.block_lt_of_cell? _ _ d0) (fun h => h)] at d0
            obtain ⟨xn, rfl⟩ : ∃ xn : Nat, x = xn := ⟨x.toNat, by omega⟩
            simp only [Int.toNat_natCast] at d0 hrx Hget2
            have Hrx := Lib.hid hrx
            clear Hget hrx
            generalize V xn = lx at *
            go_wp2_with (first | ((with_reducible show wpList _ _ _ (⟨_, Op.call ⟨.builtin .append, _, _⟩, _, _, _, _⟩ :: _) _ _); refine halt ?_) | fail)
            refine wpList_append_row T_rgs rfl _ _ rfl (wo.heap.size) (.slice pl j cl) j us (fun _ => True) (.slice (some ⟨wr.heap.size, 0, none⟩) 1 1) 1 [.slice px lx.length cx] rfl rfl (by have := Hmx.out.size; simp; omega) (own_up Hir.out.own (Gou.Mod.alloc0 _ _)) (RowG.of_blk (Blk.new _ _ #[.slice px lx.length cx]) 1 1 rfl _ trivial) (fun d hd => by rw [List.mem_singleton.1 hd]; rfl) (by have := Hi0.out; unfold maxLen; omega) (by have := Hi0.out; omega) ?_
            intro v5 w5 G5
            have Hm5 := Lib.hid (G5.mod0 (Hmx.out.trans' (Gou.Mod.alloc0 _ _)) (own_ge Hir.out.own))
            have Hr5 : Hid (InsR w5 wo.heap.size v5 (j + 1) (us ++ [.slice px lx.length cx]) (insV a V ins)) := Lib.hid ((Hir.out.under (Gou.Mod.alloc0 _ _)).grow G5 (by rw [Hget2.out]; exact RowG.under (RowG.imp Hrx.out (fun k hk _ => hk)) (Hmx.out.trans' (Gou.Mod.alloc0 _ _))))
            obtain ⟨p5, c5, rfl⟩ := Gou.ownsRow_form Hr5.out.own
            clear G5
            go_wp2_with fail
            go_roundw
            case rel => exact ⟨j + 1, _, by go_num, by have := Hjn.out; omega, Hr5.out, Hm5.out⟩
            case measure => have := Hjn.out; simp [intOf, wj]; omega
        · have hj' : j = ins.length := by omega
          have t1 : decide ((j : Int) < (ins.length : Int)) = false := decide_eq_false (by omega)
          have Hrg : Hid (RegsR wr (.slice pl j cl) (insV a V ins)) := Lib.hid (by
            have hl := insV_len a V ins
            have h := Hir.out
            rw [show j = (insV a V ins).length from by omega] at h ⊢
            exact h.regs)
          clear hj'
          have Hlx := Lib.hid (Hlow.out.trans' Hmx.out)
          have HVx : Hid (GB + 1 < wr.heap.size) := Lib.hid (Nat.lt_of_lt_of_le HO.out (Nat.le_trans (by have := hob; omega) (Nat.le_trans Hm.out.size Hmx.out.size)))
          go_wp2_with fail
          refine (spread_any wr (.slice pi_ ins.length ci_) (.slice pp_ ps.length cp_) (.slice pl j cl) ⟨op, ins, ps⟩ (insV a V ins) g.nodes.length xs ys (kb i) (Hii.out.up (Gou.Mod.below Hlx.out (Nat.le_refl _) (fun _ _ h => h))) (Hpp.out.up (Gou.Mod.below Hlx.out (Nat.le_refl _) (fun _ _ h => h))) Hone.out Hgd.out (kb_le (by have := Hin.out; have := Hlen.out; omega)) Hrg.out (insV_len _ _ _) Hrgs.out).mono ?_
          rintro e w5 ⟨hm5, v5, out, rfl, hown5, hst, hsp⟩
          obtain ⟨ex, ey, hg', hro⟩ := hst.grd Hgd.out
          have Hg' := Lib.hid hg'
          have Hro := Lib.hid hro
          have Hsp5 := Lib.hid hsp
          have Hc5 := Lib.hid (Hcx.out.under hm5)
          have Hv5 := Lib.hid (RowG.own_of hown5 (G := fun b => b ≠ GB + 1) (fun b _ hb => by have := HVx.out; omega))
          have Hm5 := Lib.hid (Hmx.out.trans' hm5)
          obtain ⟨p5, c5, rfl⟩ := Gou.ownsRow_form hown5
          obtain ⟨_, _, d5, -⟩ := Hc5.out.cell Hkk.out
          have f5 := Hc5.out.top.frozenAt kk
          clear hm5 hown5 hst hsp hg' hro n0 n1 n2 c0 c1
          go_wp2_with fail
          go_roundw
          case rel =>
            refine ⟨i + 1, xs ++ ex, ys ++ ey, _, _, by go_num, by have := Hin.out; omega, Hg'.out, Hra.out.left _ _, fun k hk => ?_, Hc5.out.store Hkk.out Hv5.out, Hsp2.out out Hsp5.out, (Hm.out.trans (Hm5.out) (fun _ _ h => h.elim)).trans (Gou.Mod.setCell w5 ⟨GB + 1, kk, none⟩ _) (fun _ _ h => h)⟩
            by_cases e : k = kk
            · rw [if_pos e]
              exact Hro.out
            · rw [if_neg e]
              exact (Hrv.out k hk).left _ _
          case measure => have := Hin.out; simp [intOf, wi]; omega
    · have hil' : i = ord.length := by omega
      have e1 : decide ((i : Int) < (ord.length : Int)) = false := decide_eq_false (by omega)
      obtain ⟨on, hon⟩ : ∃ on : Nat, g.out = on := ⟨g.out.toNat, by have := Ht.out.out0; omega⟩
      have hon1 : (on : Int) < (g.nodes.length : Int) := by have := Ht.out.out1; omega
      have hon0 : (0 : Int) ≤ (on : Int) := by omega
      have Hfin : Hid (∀ k, (h : k < g.nodes.length) → SprOk g.nodes[k] (insV a V g.nodes[k].ins) (V k)) := Lib.hid (fun k hk => Hsp.out k hk (by rw [hil', List.take_length]; exact (Hord.out.mem k).2 (Ht.out.done k hk)))
      have Hgk := Lib.hid (Hgd.out.mono (kb_le' (by have := Hlen.out; omega)))
      have Hon := Lib.hid hon
      obtain ⟨px, cx, d0, hrx⟩ := Hcr.out.cell (k := on) (by omega)
      have Hend : Hid (CarP w g a (.returned (.slice px (V on).length cx)) wo) := Lib.hid ⟨Hlow.out, px, cx, V, xs, ys, Hgk.out, by rw [Hon.out, Int.toNat_natCast]; exact Hrv.out on (by omega), by rw [Hon.out, Int.toNat_natCast], by rw [Hon.out, Int.toNat_natCast]; exact hrx.imp (fun _ _ _ => trivial), Hfin.out⟩
      clear hrx Hsp Hfin hil'
      generalize V on = lx at *
      rw [hon] at c1
      clear hon
      go_wp2_with fail
      go_ret
      exact Hend.out
end Go.Proofs.YtlpieeeeolfclaaGreatDoor

/- ForeKeeps: fore.SpreadAll. -/
namespace Go.Proofs.YtlpieeeeolfclaaGreatDoor
open Go.RowKit Go.Gou Go.Reg Go.Shelf
set_option maxRecDepth 100000
set_option linter.constructorNameAsVariable false

/-- An empty row of the call's own. -/
theorem own_none (w : World) : (w.alloc (.cells #[] 32)).ownsRow w.heap.size 32 4 (.slice (some ⟨w.heap.size, 0, none⟩) 0 0) 0 [] := by
  have h := World.ownsRow_lit (base := w.heap.size) (e := 32) (size := 4) w #[] 0 (by omega) (by unfold maxLen; omega) (by simp)
  simpa using h

/-- What SpreadAll answers. -/
def SprP (g : Gr) (a out : List Rt) : Prop := ∃ V : Nat → List Rt, out = V g.out.toNat ∧ ∀ k, (h : k < g.nodes.length) → SprOk g.nodes[k] (insV a V g.nodes[k].ins) (V k)

set_option maxHeartbeats 2000000 in
theorem spreadAll_any (w : World) (v : Value) (g : Gr) (pa : Option Addr) (ca : Nat) (a : List Rt) (xs0 ys0 : List Int) (hg : GrV w v g) (hwf : GrWf g) (ht : Taken g) (h6 : g.nodes.length ≤ 6) (hG : Grd xs0 ys0 12) (ha : RtR (fun _ => True) w (.slice pa a.length ca) a) (hR : Rgn xs0 ys0 a) :
    Calls Tryz.prog 7 #[v, .slice pa a.length ca] w (RgnP w fun out => SprP g a out ∧ out.length ≤ 100000000) := by
  have Hg := Lib.hid hg
  have HC := Lib.hid (fun (w1 : World) (hm : Gou.Mod (fun _ => False) w w1) => carriedR_any w1 v g pa ca a xs0 ys0 (hg.up (Gou.Mod.below hm (Nat.le_refl _) (fun _ _ h => h))) hwf ht h6 hG (ha.under hm) hR)
  obtain ⟨p, cap, rfl⟩ := hg.form
  clear hg hwf ht h6 hG ha hR
  have hm0 : Gou.Mod (fun _ => False) w (w.alloc (.cells #[.slice p g.nodes.length cap, .int .i64 g.out] 24)) := Gou.Mod.alloc0 _ _
  have hB0 := Blk.new w 24 #[.slice p g.nodes.length cap, .int .i64 g.out]
  have c0 := hB0.cell 0 rfl
  have c1 := hB0.cell 1 rfl
  have Hm0 := Lib.hid hm0
  go_enter Tryz.func7, Tryz.ntmps7
  go_upto_region 1 with fail
  clear hm0 hB0
  generalize w.alloc (.cells #[.slice p g.nodes.length cap, .int .i64 g.out] 24) = W1 at *
  have HO := Lib.hid (own_none W1)
  have Hm1 := Lib.hid (Hm0.out.trans' (Gou.Mod.alloc0 W1 (.cells #[] 32)))
  have d0 := ((Gou.Mod.alloc0 W1 (.cells #[] 32)).cell (p := ⟨w.heap.size, 0, none⟩) (World.block_lt_of_cell? _ _ c0) (fun h => h)).trans c0
  have d1 := ((Gou.Mod.alloc0 W1 (.cells #[] 32)).cell (p := ⟨w.heap.size, 1, none⟩) (World.block_lt_of_cell? _ _ c1) (fun h => h)).trans c1
  have HZ : Hid (w.heap.size ≤ W1.heap.size) := Lib.hid Hm0.out.size
  clear c0 c1
  go_wp2_with fail
  refine (HC.out _ Hm1.out).mono ?_
  rintro e w2 ⟨hm2, q, c, V, xs, ys, hgd, hrg, rfl, hrow, hV⟩
  have Hm2 := Lib.hid (Hm1.out.trans' hm2)
  have HO2 := Lib.hid (own_up HO.out hm2)
  have Hrow := Lib.hid hrow
  have HS : Hid (SprP g a (V g.out.toNat)) := Lib.hid ⟨V, rfl, hV⟩
  have Hlen : Hid ((V g.out.toNat).length ≤ 100000000) := Lib.hid (by
    have h1 := hrg.few hgd
    exact sq_le h1 (Nat.le_refl _))
  clear hm2 hgd hrg hrow hV d0 d1
  generalize V g.out.toNat = out at *
  go_wp2_with (first | ((with_reducible show wpList _ _ _ (⟨_, Op.call ⟨.builtin .append, _, _⟩, _, _, _, _⟩ :: _) _ _); refine halt ?_) | fail)
  refine wpList_append_row T_reg rfl _ _ rfl w.heap.size (.slice (some ⟨W1.heap.size, 0, none⟩) 0 0) 0 [] (fun _ => True) (.slice q out.length c) out.length (rts out) rfl rfl Hm2.out.size (ownsRow_base HO2.out HZ.out) Hrow.out (rts_one out) (by have := Hlen.out; unfold maxLen; omega) (by have := Hlen.out; omega) ?_
  intro v5 w5 G5
  have Hm5 := Lib.hid (G5.mod0 Hm2.out (own_ge (ownsRow_base HO2.out HZ.out)))
  have Hown5 : Hid (w5.ownsRow w.heap.size 32 4 v5 out.length (rts out)) := Lib.hid (by have h := G5.own; simpa using h)
  clear G5
  have Hend : Hid (RgnP w (fun out => SprP g a out ∧ out.length ≤ 100000000) (.returned v5) w5) := Lib.hid ⟨Hm5.out, v5, out, rfl, Hown5.out, HS.out, Hlen.out⟩
  obtain ⟨p5, c5, rfl⟩ := Gou.ownsRow_form Hown5.out
  go_wp2_with fail
  go_ret
  exact Hend.out
end Go.Proofs.YtlpieeeeolfclaaGreatDoor

/- Regions: the document's parts: is a point in one; a number put where it belongs; is a point wanted. -/
namespace Go.Reg
theorem has_snoc (l : List Rt) (r : Rt) (x y : Int) : Has (l ++ [r]) x y ↔ Has l x y ∨ r.Has x y := by
  rw [Has.app, Has.cons]
  simp [Has.nil]
/-- What is wanted, by its number. -/
def howF (h : Int) : Bool → Bool → Bool := if h = 0 then orF else if h = 1 then andF else cutF
end Go.Reg
namespace Go.Proofs.YtlpieeeeolfclaaGreatDoor
open Go.RowKit Go.Gou Go.Reg Go.Shelf
set_option maxRecDepth 100000

set_option maxHeartbeats 4000000 in
theorem refHasL_any (w : World) (p : Option Addr) (c : Nat) (l : List Rt) (x y : Int) (hl : RtR (fun _ => True) w (.slice p l.length c) l) (hn : l.length ≤ 1000000) :
    Calls Tryz.prog 77 #[.slice p l.length c, .int .i64 x, .int .i64 y] w fun e w' => e = .returned (.bool (decide (Has l x y))) ∧ Gou.Mod (fun _ => False) w w' := by
  have HL := Lib.hid hl
  have Hn := Lib.hid hn
  clear hl hn
  go_enter Tryz.func77, Tryz.ntmps77
  go_wp2_with fail
  go_loopw [7] (fun vi wr => ∃ i : Nat, vi = .int .i64 i ∧ i ≤ l.length ∧ ¬ Has (l.take i) x y ∧ Gou.Mod (fun _ => False) w wr) (fun vi _ => l.length - (intOf vi).toNat)
  case atStart => exact ⟨0, rfl, by omega, by simp [Has.nil], Gou.Mod.refl _ _⟩
  case round =>
    obtain ⟨i, rfl, hi, hno, hm⟩ := hrel
    have Hno := Lib.hid hno
    have Hm := Lib.hid hm
    clear hno hm
    by_cases hil : i < l.length
    · have e1 : decide ((i : Int) < (l.length : Int)) = true := decide_eq_true (by omega)
      obtain ⟨-, bl, off, rfl, hb, -, hc⟩ := HL.out.cells (by omega)
      obtain ⟨k0, k1, k2, k3⟩ := hc i hil
      rw [← Hm.out.cell (p := ⟨bl, off + i * 4, none⟩) hb (fun h => h)] at k0
      rw [← Hm.out.cell (p := ⟨bl, off + i * 4 + 1, none⟩) hb (fun h => h)] at k1
      rw [← Hm.out.cell (p := ⟨bl, off + i * 4 + 2, none⟩) hb (fun h => h)] at k2
      rw [← Hm.out.cell (p := ⟨bl, off + i * 4 + 3, none⟩) hb (fun h => h)] at k3
      have hi1 : (i : Int) < (l.length : Int) := by omega
      have hi0 : (0 : Int) ≤ (i : Int) := by omega
      have wi : IntKind.i64.wrap ((i : Int) + 1) = (i : Int) + 1 := wrap_id (by omega) (by have := Hn.out; omega)
      have Hyes := Lib.hid (fun (h : l[i].Has x y) => (⟨l[i], List.getElem_mem hil, h⟩ : Has l x y))
      have Hst := Lib.hid (fun (h : ¬ l[i].Has x y) => (by rw [List.take_succ_eq_append_getElem hil, has_snoc]; exact fun h2 => h2.elim Hno.out h : ¬ Has (l.take (i + 1)) x y))
      have Hin := Lib.hid (And.intro hi hil)
      have Hh := Lib.hid (fun (w' : World) => refHas_any l[i] x y w')
      clear hc
      generalize l[i] = s at *
      obtain ⟨a, b, c', d⟩ := s
      simp only at k0 k1 k2 k3
      obtain ⟨q, hq⟩ : ∃ q, q = decide ((⟨a, b, c', d⟩ : Rt).Has x y) := ⟨_, rfl⟩
      have Hq := Lib.hid hq
      rw [← hq] at Hh
      clear hq
      go_wp2_with fail
      refine (Hh.out _).mono ?_
      rintro e w2 ⟨rfl, hb2⟩
      have Hm2 := Lib.hid (Hm.out.trans' (Gou.Mod.of_below hb2 (fun _ => False)))
      clear hb2
      cases q with
      | true =>
        have Hy : Hid (Has l x y) := Lib.hid (Hyes.out (of_decide_eq_true Hq.out.symm))
        go_wp2_with fail
        go_ret
        exact ⟨ret_bool (by simp [Hy.out]), Hm2.out⟩
      | false =>
        have Hs2 := Lib.hid (Hst.out (of_decide_eq_false Hq.out.symm))
        go_wp2_with fail
        go_roundw
        case rel => exact ⟨i + 1, by go_num, by have := Hin.out; omega, Hs2.out, Hm2.out⟩
        case measure => have := Hin.out; simp [intOf, wi]; omega
    · obtain rfl : i = l.length := by omega
      have e1 : decide ((l.length : Int) < (l.length : Int)) = false := decide_eq_false (by omega)
      rw [List.take_length] at Hno
      go_wp2_with fail
      go_ret
      exact ⟨ret_bool (by simp [Hno.out]), Hm.out⟩

set_option maxHeartbeats 8000000 in
theorem refPut_any (w : World) (G : Nat → Prop) (p : Option Addr) (c : Nat) (xs : List Int) (n : Int) (hx : IntsR G w (.slice p xs.length c) xs) (hn : xs.length ≤ 1000000) :
    Calls Tryz.prog 64 #[.slice p xs.length c, .int .i64 n] w fun e w' => Gou.Mod (fun _ => False) w w' ∧ ∃ v, e = .returned v ∧ w'.ownsRow w.heap.size 3 1 v (putN xs n).length (ivs (putN xs n)) := by
  have HX := Lib.hid hx
  have Hn := Lib.hid hn
  clear hx hn
  go_enter Tryz.func64, Tryz.ntmps64
  go_wp2_with fail
  go_loopw [5, 6] (fun vo vi wr => ∃ (i : Nat) (o : List Int), vi = .int .i64 i ∧ i ≤ xs.length ∧ o = (xs.take i).filter (fun x => decide (x < n)) ∧ o.length ≤ xs.length + 1 + i ∧ wr.ownsRow w.heap.size 3 1 vo o.length (ivs o) ∧ Gou.Mod (fun _ => False) w wr) (fun _ vi _ => xs.length - (intOf vi).toNat)
  case atStart => exact ⟨0, [], rfl, by omega, by simp, by simp, World.ownsRow_nil _ _ _ _, Gou.Mod.refl _ _⟩
  case round =>
    obtain ⟨i, o, rfl, hi, ho, hol, hown, hm⟩ := hrel
    obtain ⟨po, co, rfl⟩ := Gou.ownsRow_form hown
    have Ho := Lib.hid ho
    have Hol := Lib.hid hol
    have Hown := Lib.hid hown
    have Hm := Lib.hid hm
    clear ho hol hown hm
    by_cases hil : i < xs.length
    · have e1 : decide ((i : Int) < (xs.length : Int)) = true := decide_eq_true (by omega)
      obtain ⟨-, bl, off, rfl, hb, -, hc⟩ := IntsR.cells HX.out (by omega)
      have k0 := hc i hil
      rw [← Hm.out.cell (p := ⟨bl, off + i, none⟩) hb (fun h => h)] at k0
      have hi1 : (i : Int) < (xs.length : Int) := by omega
      have hi0 : (0 : Int) ≤ (i : Int) := by omega
      have wi : IntKind.i64.wrap ((i : Int) + 1) = (i : Int) + 1 := wrap_id (by omega) (by have := Hn.out; omega)
      have Hstep : Hid ((xs.take (i + 1)).filter (fun x => decide (x < n)) = o ++ (if xs[i] < n then [xs[i]] else [])) := Lib.hid (by rw [Ho.out, List.take_succ_eq_append_getElem hil, List.filter_append]; by_cases h : xs[i] < n <;> simp [h])
      have Hin := Lib.hid (And.intro hi hil)
      clear hc
      generalize xs[i] = x at *
      by_cases hq : x < n
      · have t1 : decide (x < n) = true := decide_eq_true hq
        have Hs2 := Lib.hid (Hstep.out.trans (by rw [if_pos hq]))
        clear hq Hstep
        go_wp2_with (first | ((with_reducible show wpList _ _ _ (⟨_, Op.call ⟨.builtin .append, _, _⟩, _, _, _, _⟩ :: _) _ _); refine halt ?_) | fail)
        refine wpList_append_row T_int rfl _ _ rfl (w.heap.size) (.slice po o.length co) (o.length) (ivs o) (fun _ => True) (.slice (some ⟨wr.heap.size, 0, none⟩) 1 1) (1) ([.int .i64 x]) rfl rfl (by have := Hm.out.size; simp; omega) (own_up Hown.out (Gou.Mod.alloc0 _ _)) (RowG.of_blk (Blk.new _ _ #[.int .i64 x]) 1 1 rfl _ trivial) (ivs_one [x]) (by have := Hol.out; have := Hn.out; first | (unfold maxLen; omega) | omega) (by have := Hol.out; have := Hn.out; first | (unfold maxLen; omega) | omega) ?_
        intro v5 w5 G5
        have Hm5 := Lib.hid (G5.mod0 (Hm.out.trans' (Gou.Mod.alloc0 _ _)) (own_ge Hown.out))
        have Hown5 := Lib.hid G5.own
        clear G5
        obtain ⟨p5, c5, rfl⟩ := Gou.ownsRow_form Hown5.out
        go_wp2_with fail
        go_roundw
        case rel =>
          refine ⟨i + 1, o ++ [x], by go_num, by have := Hin.out; omega, Hs2.out.symm, by have := Hol.out; simp; omega, ?_, Hm5.out⟩
          have h := Hown5.out
          simpa [ivs] using h
        case measure => have := Hin.out; simp [intOf, wi]; omega
      · have t1 : decide (x < n) = false := decide_eq_false hq
        have Hs2 := Lib.hid (Hstep.out.trans (by rw [if_neg hq, List.append_nil]))
        clear hq Hstep
        go_wp2_with fail
        go_roundw
        case rel => exact ⟨i + 1, o, by go_num, by have := Hin.out; omega, Hs2.out.symm, by have := Hol.out; omega, Hown.out, Hm.out⟩
        case measure => have := Hin.out; simp [intOf, wi]; omega
    · obtain rfl : i = xs.length := by omega
      have e1 : decide ((xs.length : Int) < (xs.length : Int)) = false := decide_eq_false (by omega)
      rw [List.take_length] at Ho
      go_wp2_with (first | ((with_reducible show wpList _ _ _ (⟨_, Op.call ⟨.builtin .append, _, _⟩, _, _, _, _⟩ :: _) _ _); refine halt ?_) | fail)
      refine wpList_append_row T_int rfl _ _ rfl (w.heap.size) (.slice po o.length co) (o.length) (ivs o) (fun _ => True) (.slice (some ⟨wr.heap.size, 0, none⟩) 1 1) (1) ([.int .i64 n]) rfl rfl (by have := Hm.out.size; simp; omega) (own_up Hown.out (Gou.Mod.alloc0 _ _)) (RowG.of_blk (Blk.new _ _ #[.int .i64 n]) 1 1 rfl _ trivial) (ivs_one [n]) (by have := Hol.out; have := Hn.out; first | (unfold maxLen; omega) | omega) (by have := Hol.out; have := Hn.out; first | (unfold maxLen; omega) | omega) ?_
      intro v5 w5 G5
      have Hm5 := Lib.hid (G5.mod0 (Hm.out.trans' (Gou.Mod.alloc0 _ _)) (own_ge Hown.out))
      have Hown5 := Lib.hid G5.own
      clear G5
      obtain ⟨p5, c5, rfl⟩ := Gou.ownsRow_form Hown5.out
      obtain ⟨o2, ho2⟩ : ∃ o2, o2 = o ++ [n] := ⟨_, rfl⟩
      have Ho2 : Hid (o2 = xs.filter (fun x => decide (x < n)) ++ [n]) := Lib.hid (by rw [ho2, Ho.out])
      have Hol2 : Hid (o2.length ≤ xs.length + 1) := Lib.hid (by rw [Ho2.out]; have := List.length_filter_le (fun x => decide (x < n)) xs; simp; omega)
      have hown2 : w5.ownsRow w.heap.size 3 1 (.slice p5 o2.length c5) o2.length (ivs o2) := by
        have h := Hown5.out
        rw [ho2]
        simpa [ivs] using h
      have hl2 : o.length + 1 = o2.length := by rw [ho2]; simp
      have Hown2 := Lib.hid hown2
      have Hm2 := Lib.hid Hm5.out
      rw [hl2]
      clear ho2 hown2 hl2 Hown5 Hm5
      go_wp2_with fail
      go_loopw [5, 7] (fun vo vi wr => ∃ (i : Nat) (o : List Int), vi = .int .i64 i ∧ i ≤ xs.length ∧ o = xs.filter (fun x => decide (x < n)) ++ [n] ++ (xs.take i).filter (fun x => decide (n < x)) ∧ o.length ≤ xs.length + 1 + i ∧ wr.ownsRow w.heap.size 3 1 vo o.length (ivs o) ∧ Gou.Mod (fun _ => False) w wr) (fun _ vi _ => xs.length - (intOf vi).toNat)
      case atStart => exact ⟨0, o2, rfl, by omega, by rw [Ho2.out]; simp, by have := Hol2.out; omega, Hown2.out, Hm2.out⟩
      case round =>
        obtain ⟨i, o, rfl, hi, ho, hol, hown, hm⟩ := hrel
        obtain ⟨po, co, rfl⟩ := Gou.ownsRow_form hown
        have Ho := Lib.hid ho
        have Hol := Lib.hid hol
        have Hown := Lib.hid hown
        have Hm := Lib.hid hm
        clear ho hol hown hm
        by_cases hil : i < xs.length
        · have e1 : decide ((i : Int) < (xs.length : Int)) = true := decide_eq_true (by omega)
          obtain ⟨-, bl, off, rfl, hb, -, hc⟩ := IntsR.cells HX.out (by omega)
          have k0 := hc i hil
          rw [← Hm.out.cell (p := ⟨bl, off + i, none⟩) hb (fun h => h)] at k0
          have hi1 : (i : Int) < (xs.length : Int) := by omega
          have hi0 : (0 : Int) ≤ (i : Int) := by omega
          have wi : IntKind.i64.wrap ((i : Int) + 1) = (i : Int) + 1 := wrap_id (by omega) (by have := Hn.out; omega)
          have Hstep : Hid (xs.filter (fun x => decide (x < n)) ++ [n] ++ (xs.take (i + 1)).filter (fun x => decide (n < x)) = o ++ (if n < xs[i] then [xs[i]] else [])) := Lib.hid (by rw [Ho.out, List.take_succ_eq_append_getElem hil, List.filter_append]; by_cases h : n < xs[i] <;> simp [h])
          have Hin := Lib.hid (And.intro hi hil)
          clear hc
          generalize xs[i] = x at *
          by_cases hq : n < x
          · have t1 : decide (n < x) = true := decide_eq_true hq
            have Hs2 := Lib.hid (Hstep.out.trans (by rw [if_pos hq]))
            clear hq Hstep
            go_wp2_with (first | ((with_reducible show wpList _ _ _ (⟨_, Op.call ⟨.builtin .append, _, _⟩, _, _, _, _⟩ :: _) _ _); refine halt ?_) | fail)
            refine wpList_append_row T_int rfl _ _ rfl (w.heap.size) (.slice po o.length co) (o.length) (ivs o) (fun _ => True) (.slice (some ⟨wr.heap.size, 0, none⟩) 1 1) (1) ([.int .i64 x]) rfl rfl (by have := Hm.out.size; simp; omega) (own_up Hown.out (Gou.Mod.alloc0 _ _)) (RowG.of_blk (Blk.new _ _ #[.int .i64 x]) 1 1 rfl _ trivial) (ivs_one [x]) (by have := Hol.out; have := Hn.out; first | (unfold maxLen; omega) | omega) (by have := Hol.out; have := Hn.out; first | (unfold maxLen; omega) | omega) ?_
            intro v5 w5 G5
            have Hm5 := Lib.hid (G5.mod0 (Hm.out.trans' (Gou.Mod.alloc0 _ _)) (own_ge Hown.out))
            have Hown5 := Lib.hid G5.own
            clear G5
            obtain ⟨p5, c5, rfl⟩ := Gou.ownsRow_form Hown5.out
            go_wp2_with fail
            go_roundw
            case rel =>
              refine ⟨i + 1, o ++ [x], by go_num, by have := Hin.out; omega, Hs2.out.symm, by have := Hol.out; simp; omega, ?_, Hm5.out⟩
              have h := Hown5.out
              simpa [ivs] using h
            case measure => have := Hin.out; simp [intOf, wi]; omega
          · have t1 : decide (n < x) = false := decide_eq_false hq
            have Hs2 := Lib.hid (Hstep.out.trans (by rw [if_neg hq, List.append_nil]))
            clear hq Hstep
            go_wp2_with fail
            go_roundw
            case rel => exact ⟨i + 1, o, by go_num, by have := Hin.out; omega, Hs2.out.symm, by have := Hol.out; omega, Hown.out, Hm.out⟩
            case measure => have := Hin.out; simp [intOf, wi]; omega
        · obtain rfl : i = xs.length := by omega
          have e1 : decide ((xs.length : Int) < (xs.length : Int)) = false := decide_eq_false (by omega)
          rw [List.take_length] at Ho
          have Hp : Hid (putN xs n = o) := Lib.hid Ho.out.symm
          go_wp2_with fail
          go_ret
          exact ⟨Hm.out, _, rfl, by rw [Hp.out]; exact Hown.out⟩

set_option maxHeartbeats 4000000 in
theorem refWant_any (w : World) (pa pb : Option Addr) (ca cb : Nat) (a b : List Rt) (h x y : Int) (hA : RtR (fun _ => True) w (.slice pa a.length ca) a) (hB : RtR (fun _ => True) w (.slice pb b.length cb) b) (hna : a.length ≤ 1000000) (hnb : b.length ≤ 1000000) :
    Calls Tryz.prog 65 #[.slice pa a.length ca, .slice pb b.length cb, .int .i64 h, .int .i64 x, .int .i64 y] w fun e w' => e = .returned (.bool (decide (Pts a b (howF h) x y))) ∧ Gou.Mod (fun _ => False) w w' := by
  have hP : decide (Pts a b (howF h) x y) = howF h (decide (Has a x y)) (decide (Has b x y)) := by rw [Bool.eq_iff_iff, decide_eq_true_eq]; rfl
  rw [hP]
  have HA := Lib.hid (refHasL_any w pa ca a x y hA hna)
  have HB := Lib.hid (fun (w' : World) (hm : Gou.Mod (fun _ => False) w w') => refHasL_any w' pb cb b x y (hB.under hm) hnb)
  clear hA hB hna hnb hP
  generalize decide (Has a x y) = q1 at *
  generalize decide (Has b x y) = q2 at *
  go_enter Tryz.func65, Tryz.ntmps65
  go_wp2_with fail
  refine HA.out.mono ?_
  rintro e w1 ⟨rfl, hm1⟩
  have Hm1 := Lib.hid hm1
  clear hm1
  go_wp2_with fail
  refine (HB.out w1 Hm1.out).mono ?_
  rintro e w2 ⟨rfl, hm2⟩
  have Hm2 := Lib.hid (Hm1.out.trans' hm2)
  clear hm2 HA HB
  by_cases h0 : h = 0
  · have e0 : (h == 0) = true := by simpa using h0
    have hf : howF h = orF := by simp [howF, h0]
    have Hf := Lib.hid hf
    clear h0 hf
    cases q1 <;> cases q2
    all_goals go_wp2_with fail
    all_goals go_ret
    all_goals exact ⟨by rw [Hf.out]; rfl, Hm2.out⟩
  · have e0 : (h == 0) = false := by simpa using h0
    by_cases h1 : h = 1
    · have e1 : (h == 1) = true := by simpa using h1
      have hf : howF h = andF := by simp [howF, h1]
      have Hf := Lib.hid hf
      clear h0 h1 hf
      cases q1 <;> cases q2
      all_goals go_wp2_with fail
      all_goals go_ret
      all_goals exact ⟨by rw [Hf.out]; rfl, Hm2.out⟩
    · have e1 : (h == 1) = false := by simpa using h1
      have hf : howF h = cutF := by simp [howF, h0, h1]
      have Hf := Lib.hid hf
      clear h0 h1 hf
      cases q1 <;> cases q2
      all_goals go_wp2_with fail
      all_goals go_ret
      all_goals exact ⟨by rw [Hf.out]; rfl, Hm2.out⟩

end Go.Proofs.YtlpieeeeolfclaaGreatDoor

/- Regions: the document's row out of a grid's cells; its test of two rows; in plain numbers. -/
namespace Go.Reg

/-- On the way through a row's cells. -/
def GridB (a b : List Rt) (f : Bool → Bool → Bool) (xs : List Int) (y0 : Int) (i : Nat) (row : List Sp) : Prop :=
  (xs = [] ∧ row = [] ∧ i = 0) ∨ ∃ x, xs[i]? = some x ∧ GInv (fun x => Pts a b f x y0) row x

theorem GridB.start {a b : List Rt} {f : Bool → Bool → Bool} {xs : List Int} {y0 : Int} (hf : f false false = false) (hu : Up xs) (ha : XEdges xs a) (hb : XEdges xs b) : GridB a b f xs y0 0 [] := by
  cases xs with
  | nil => exact .inl ⟨rfl, rfl, rfl⟩
  | cons x r => exact .inr ⟨x, rfl, GInv.start _ _ fun y hy => Pts.out hf (ha.below hu rfl hy) (hb.below hu rfl hy)⟩
theorem GridB.step {a b : List Rt} {f : Bool → Bool → Bool} {xs : List Int} {y0 : Int} {i : Nat} {row : List Sp} (h : GridB a b f xs y0 i row) (hu : Up xs) (ha : XEdges xs a) (hb : XEdges xs b) {x0 x1 : Int} (h0 : xs[i]? = some x0) (h1 : xs[i + 1]? = some x1) :
    GridB a b f xs y0 (i + 1) (gridStep (fun x => Pts a b f x y0) row x0 x1) := by
  rcases h with ⟨rfl, _⟩ | ⟨x, hx, h⟩
  · simp at h0
  · rw [h0, Option.some.injEq] at hx
    subst hx
    exact .inr ⟨x1, h1, h.step (hu.next h0 h1) fun y k1 k2 => Pts.congr (ha.const hu h0 h1 k1 k2) (hb.const hu h0 h1 k1 k2)⟩
theorem GridB.no {a b : List Rt} {f : Bool → Bool → Bool} {xs : List Int} {y0 : Int} {i : Nat} {row : List Sp} (h : GridB a b f xs y0 i row) (hu : Up xs) (ha : XEdges xs a) (hb : XEdges xs b) {x0 x1 : Int} (h0 : xs[i]? = some x0) (h1 : xs[i + 1]? = some x1)
    (hn : ¬ Pts a b f x0 y0) : GridB a b f xs y0 (i + 1) row := by
  have := h.step hu ha hb h0 h1
  rwa [gridStep, if_neg hn] at this
theorem GridB.first {a b : List Rt} {f : Bool → Bool → Bool} {xs : List Int} {y0 : Int} {i : Nat} (h : GridB a b f xs y0 i []) (hu : Up xs) (ha : XEdges xs a) (hb : XEdges xs b) {x0 x1 : Int} (h0 : xs[i]? = some x0) (h1 : xs[i + 1]? = some x1)
    (hy : Pts a b f x0 y0) : GridB a b f xs y0 (i + 1) [⟨x0, x1⟩] := by
  have := h.step hu ha hb h0 h1
  rwa [gridStep, if_pos hy] at this
theorem GridB.join {a b : List Rt} {f : Bool → Bool → Bool} {xs : List Int} {y0 : Int} {i : Nat} {m : List Sp} {t : Sp} (h : GridB a b f xs y0 i (m ++ [t])) (hu : Up xs) (ha : XEdges xs a) (hb : XEdges xs b) {x0 x1 : Int} (h0 : xs[i]? = some x0) (h1 : xs[i + 1]? = some x1)
    (hy : Pts a b f x0 y0) (ht : t.b = x0) : GridB a b f xs y0 (i + 1) (m ++ [⟨t.a, x1⟩]) := by
  have := h.step hu ha hb h0 h1
  rw [gridStep, if_pos hy] at this
  simpa [ht] using this
theorem GridB.new {a b : List Rt} {f : Bool → Bool → Bool} {xs : List Int} {y0 : Int} {i : Nat} {m : List Sp} {t : Sp} (h : GridB a b f xs y0 i (m ++ [t])) (hu : Up xs) (ha : XEdges xs a) (hb : XEdges xs b) {x0 x1 : Int} (h0 : xs[i]? = some x0) (h1 : xs[i + 1]? = some x1)
    (hy : Pts a b f x0 y0) (ht : t.b ≠ x0) : GridB a b f xs y0 (i + 1) (m ++ [t] ++ [⟨x0, x1⟩]) := by
  have := h.step hu ha hb h0 h1
  rw [gridStep, if_pos hy] at this
  simpa [ht] using this
theorem GridB.done {a b : List Rt} {f : Bool → Bool → Bool} {xs : List Int} {y0 : Int} {i : Nat} {row : List Sp} (h : GridB a b f xs y0 i row) (hf : f false false = false) (hu : Up xs) (ha : XEdges xs a) (hb : XEdges xs b) (hi : ¬ i + 1 < xs.length) :
    Canon row ∧ ∀ x, In row x ↔ Pts a b f x y0 := by
  rcases h with ⟨rfl, rfl, _⟩ | ⟨x, hx, h⟩
  · exact ⟨trivial, fun x => ⟨fun h => (In.nil _ h).elim, fun h => (Pts.out hf ha.none hb.none h).elim⟩⟩
  · have hl := (List.getElem?_eq_some_iff.1 hx).1
    have hn : xs.length = i + 1 := by omega
    exact h.done fun y hy => Pts.out hf (ha.above hu hn hx hy) (hb.above hu hn hx hy)

/-- Does the i-th rectangle of the last band stand as the row's? -/
def TestAt (out : List Rt) (fr : Nat) (row : List Sp) (y0 : Int) (i : Nat) : Prop := ∃ r s, out[fr + i]? = some r ∧ row[i]? = some s ∧ r.x0 = s.a ∧ r.x1 = s.b ∧ r.y1 = y0

theorem RunB.tests {a b : List Rt} {f : Bool → Bool → Bool} {ys : List Int} {j : Nat} {out : List Rt} {fr : Nat} {last row : List Sp} {y0 : Int} (h : RunB a b f ys j out fr last) (h0 : ys[j]? = some y0) (hr : row ≠ []) (hl : out.length - fr = row.length) :
    (∀ i, i < row.length → TestAt out fr row y0 i) ↔ row = last := by
  rw [← h.test h0 hr]
  constructor
  · refine fun k => ⟨hl, fun i hi => ?_⟩
    obtain ⟨r, s, k1, k2, k3, k4, k5⟩ := k i hi
    have hs : s = row[i] := by rw [List.getElem?_eq_getElem hi] at k2; simpa using k2.symm
    subst hs
    exact ⟨r, k1, k3, k4, k5⟩
  · rintro ⟨_, k⟩ i hi
    obtain ⟨r, k1, k3, k4, k5⟩ := k i hi
    exact ⟨r, row[i], k1, List.getElem?_eq_getElem hi, k3, k4, k5⟩
theorem RunB.len_of {a b : List Rt} {f : Bool → Bool → Bool} {ys : List Int} {j : Nat} {out : List Rt} {fr : Nat} {last row : List Sp} {y0 : Int} (h : RunB a b f ys j out fr last) (h0 : ys[j]? = some y0) (hr : row ≠ []) (he : row = last) : out.length - fr = row.length := ((h.test h0 hr).2 he).1

theorem XEdges.imp {xs ys : List Int} {l : List Rt} (h : XEdges xs l) (hm : ∀ x ∈ xs, x ∈ ys) : XEdges ys l := fun r hr hs => ⟨hm _ (h r hr hs).1, hm _ (h r hr hs).2⟩
theorem YEdges.imp {xs ys : List Int} {l : List Rt} (h : YEdges xs l) (hm : ∀ x ∈ xs, x ∈ ys) : YEdges ys l := fun r hr hs => ⟨hm _ (h r hr hs).1, hm _ (h r hr hs).2⟩
theorem XEdges.snoc {xs : List Int} {l : List Rt} {r : Rt} (h : XEdges xs l) (hr : r.Some → r.x0 ∈ xs ∧ r.x1 ∈ xs) : XEdges xs (l ++ [r]) := fun t ht hs => by
  rcases List.mem_append.1 ht with ht | ht
  · exact h t ht hs
  · simp only [List.mem_singleton] at ht
    subst ht
    exact hr hs
theorem YEdges.snoc {xs : List Int} {l : List Rt} {r : Rt} (h : YEdges xs l) (hr : r.Some → r.y0 ∈ xs ∧ r.y1 ∈ xs) : YEdges xs (l ++ [r]) := fun t ht hs => by
  rcases List.mem_append.1 ht with ht | ht
  · exact h t ht hs
  · simp only [List.mem_singleton] at ht
    subst ht
    exact hr hs
theorem putN_len (l : List Int) (n : Int) : (putN l n).length ≤ l.length + 1 + l.length := by
  have h1 := List.length_filter_le (fun x => decide (x < n)) l
  have h2 := List.length_filter_le (fun x => decide (n < x)) l
  simp [putN]
  omega
theorem filter_disj (l : List Int) (n : Int) : (l.filter (fun x => decide (x < n))).length + (l.filter (fun x => decide (n < x))).length ≤ l.length := by
  induction l with
  | nil => simp
  | cons x l ih =>
    by_cases h1 : x < n
    · have h2 : ¬ n < x := by omega
      simp [h1, h2]
      omega
    · by_cases h2 : n < x
      · simp [h1, h2]
        omega
      · simp [h1, h2]
        omega
theorem putN_len1 (l : List Int) (n : Int) : (putN l n).length ≤ l.length + 1 := by
  have := filter_disj l n
  simp [putN]
  omega

end Go.Reg

/- Regions: the document's answer: a grid of all edges. -/
namespace Go.Reg
theorem howF_none (h : Int) : howF h false false = false := by
  unfold howF
  split
  · rfl
  · split <;> rfl
end Go.Reg
namespace Go.Gou
open Go.RowKit Go.Reg
theorem rts_join (m : List Sp) (t : Sp) (x1 y0 y1 : Int) : (rts (bandOf (m ++ [t]) y0 y1)).set (m.length * 4 + 2) (.int .i64 x1) = rts (bandOf (m ++ [⟨t.a, x1⟩]) y0 y1) := by
  rw [bandOf_snoc, bandOf_snoc, rts_app, rts_app, List.set_append_right _ _ (by rw [rts_len, bandOf_len]; omega), rts_len, bandOf_len, show m.length * 4 + 2 - m.length * 4 = 2 from by omega]
  rfl
end Go.Gou
namespace Go.Proofs.YtlpieeeeolfclaaGreatDoor
open Go.RowKit Go.Gou Go.Reg Go.Shelf
set_option maxRecDepth 100000

set_option maxHeartbeats 32000000 in
theorem refSets_any (w : World) (pa pb : Option Addr) (ca cb : Nat) (a b : List Rt) (h : Int) (hA : RtR (fun _ => True) w (.slice pa a.length ca) a) (hB : RtR (fun _ => True) w (.slice pb b.length cb) b) (hn : a.length + b.length ≤ 1000) :
    Calls Tryz.prog 47 #[.slice pa a.length ca, .slice pb b.length cb, .int .i64 h] w (CombP w a b (howF h)) := by
  have HA := Lib.hid hA
  have HB := Lib.hid hB
  have Hn := Lib.hid hn
  clear hA hB hn
  go_enter Tryz.func47, Tryz.ntmps47
  go_wp2_with (first | ((with_reducible show wpList _ _ _ (⟨_, Op.call ⟨.builtin .append, _, _⟩, _, _, _, _⟩ :: _) _ _); refine halt ?_) | fail)
  refine wpList_append_row T_rt rfl _ _ rfl (w.heap.size) (.slice none 0 0) (0) ([]) (fun _ => True) (.slice pa a.length ca) (a.length) (rts a) rfl rfl (Nat.le_refl _) (World.ownsRow_nil _ _ _ _) (HA.out) (rts_one a) (by have := Hn.out; first | (unfold maxLen; omega) | omega) (by have := Hn.out; first | (unfold maxLen; omega) | omega) ?_
  intro v5 w5 G5
  have Hm5 : Hid (Gou.Mod (fun _ => False) w w5) := Lib.hid (G5.mod0 (Gou.Mod.refl _ _) (fun b hb => by simp [Value.ownBlock] at hb))
  have Hown5 : Hid (w5.ownsRow w.heap.size 32 4 v5 a.length (rts a)) := Lib.hid (by have h := G5.own; simpa using h)
  clear G5
  obtain ⟨p5, c5, rfl⟩ := Gou.ownsRow_form Hown5.out
  go_wp2_with (first | ((with_reducible show wpList _ _ _ (⟨_, Op.call ⟨.builtin .append, _, _⟩, _, _, _, _⟩ :: _) _ _); refine halt ?_) | fail)
  refine wpList_append_row T_rt rfl _ _ rfl (w.heap.size) (.slice p5 a.length c5) (a.length) (rts a) (fun _ => True) (.slice pb b.length cb) (b.length) (rts b) rfl rfl (Hm5.out.size) (Hown5.out) (HB.out.under Hm5.out) (rts_one b) (by have := Hn.out; first | (unfold maxLen; omega) | omega) (by have := Hn.out; first | (unfold maxLen; omega) | omega) ?_
  intro v5 w5 G5
  have Hm2 : Hid (Gou.Mod (fun _ => False) w w5) := Lib.hid (G5.mod0 Hm5.out (own_ge Hown5.out))
  obtain ⟨pl, cl, rfl⟩ := Gou.ownsRow_form G5.own
  have hL : RtR (fun _ => True) w5 (.slice pl (a ++ b).length cl) (a ++ b) := by
    have h := RowG.own_of G5.own (G := fun _ => True) (fun _ _ _ => trivial)
    show RowG _ w5 4 _ (a ++ b).length (rts (a ++ b))
    rw [rts_app, List.length_append]
    exact h
  have hll : a.length + b.length = (a ++ b).length := by simp
  have HL := Lib.hid hL
  rw [hll]
  clear G5 hL hll Hown5 Hm5
  generalize w5 = w2 at *
  go_wp2_with fail
  go_loopw [7, 8, 10] (fun vx vy vi wr => ∃ (i : Nat) (xs ys : List Int), vi = .int .i64 i ∧ i ≤ (a ++ b).length ∧ IntsR (fun _ => True) wr vx xs ∧ IntsR (fun _ => True) wr vy ys ∧ Up xs ∧ Up ys ∧ XEdges xs ((a ++ b).take i) ∧ YEdges ys ((a ++ b).take i) ∧ xs.length ≤ 2 * i ∧ ys.length ≤ 2 * i ∧ Gou.Mod (fun _ => False) w2 wr) (fun _ _ vi _ => (a ++ b).length - (intOf vi).toNat)
  case atStart => exact ⟨0, [], [], rfl, by omega, RowG.nil _ _ _, RowG.nil _ _ _, List.Pairwise.nil, List.Pairwise.nil, fun r hr => by simp at hr, fun r hr => by simp at hr, by simp, by simp, Gou.Mod.refl _ _⟩
  case round =>
    obtain ⟨i, xs, ys, rfl, hi, hx, hy, hux, huy, hex, hey, hlx, hly, hm⟩ := hrel
    obtain ⟨px, cx, rfl, -⟩ := RowG.form hx
    obtain ⟨py, cy, rfl, -⟩ := RowG.form hy
    have Hx := Lib.hid hx
    have Hy := Lib.hid hy
    have Hu := Lib.hid (And.intro hux huy)
    have He := Lib.hid (And.intro hex hey)
    have Hlx := Lib.hid hlx
    have Hly := Lib.hid hly
    have Hm := Lib.hid hm
    clear hx hy hux huy hex hey hlx hly hm
    by_cases hil : i < (a ++ b).length
    · as_aux_lemma =>
        have t1 : decide ((i : Int) < ((a ++ b).length : Int)) = true := decide_eq_true (by omega)
        have t1' : decide ((i : Int) < (a.length : Int) + (b.length : Int)) = true := decide_eq_true (by simp at hil; omega)
        obtain ⟨-, gl, ol, rfl, hgl, -, hc⟩ := HL.out.cells (by omega)
        obtain ⟨e0, e1, e2, e3⟩ := hc i hil
        have Hcl := Lib.hid (And.intro e0 (And.intro e1 (And.intro e2 e3)))
        rw [← Hm.out.cell (p := ⟨gl, ol + i * 4, none⟩) hgl (fun h => h)] at e0
        rw [← Hm.out.cell (p := ⟨gl, ol + i * 4 + 1, none⟩) hgl (fun h => h)] at e1
        rw [← Hm.out.cell (p := ⟨gl, ol + i * 4 + 2, none⟩) hgl (fun h => h)] at e2
        rw [← Hm.out.cell (p := ⟨gl, ol + i * 4 + 3, none⟩) hgl (fun h => h)] at e3
        have hi1 : (i : Int) < ((a ++ b).length : Int) := by omega
        have hi1' : (i : Int) < (a.length : Int) + (b.length : Int) := by simp at hil; omega
        have hi0 : (0 : Int) ≤ (i : Int) := by omega
        have wi : IntKind.i64.wrap ((i : Int) + 1) = (i : Int) + 1 := wrap_id (by omega) (by have := Hn.out; simp at hi; omega)
        have Htk : Hid ((a ++ b).take (i + 1) = (a ++ b).take i ++ [(a ++ b)[i]]) := Lib.hid (List.take_succ_eq_append_getElem hil)
        have Hin : Hid (i < (a ++ b).length ∧ (a ++ b).length ≤ 1000) := Lib.hid ⟨hil, by have := Hn.out; simp; omega⟩
        have Hgl := Lib.hid hgl
        clear hc
        generalize (a ++ b)[i] = s at *
        obtain ⟨x0, y0, x1, y1⟩ := s
        simp only at e0 e1 e2 e3 Hcl
        have Hem := Lib.hid (fun (w' : World) => refEmpty_any ⟨x0, y0, x1, y1⟩ w')
        obtain ⟨q, hq⟩ : ∃ q, q = decide (Rt.Some ⟨x0, y0, x1, y1⟩) := ⟨_, rfl⟩
        have Hq := Lib.hid hq
        rw [← hq] at Hem
        clear hq hgl
        go_wp2_with fail
        refine (Hem.out _).mono ?_
        rintro e w3 ⟨rfl, hb3⟩
        have M0 : Hid (Gou.Mod (fun _ => False) w2 w3) := Lib.hid (Hm.out.trans' (Gou.Mod.of_below hb3 (fun _ => False)))
        have Hx3 := Lib.hid (RowG.under Hx.out (Gou.Mod.of_below hb3 (fun _ => False)))
        have Hy3 := Lib.hid (RowG.under Hy.out (Gou.Mod.of_below hb3 (fun _ => False)))
        clear hb3 Hx Hy e0 e1 e2 e3
        cases q with
        | true =>
          have Hsome := Lib.hid (of_decide_eq_true Hq.out.symm)
          have e0 := (M0.out.cell (p := ⟨gl, ol + i * 4, none⟩) Hgl.out (fun h => h)).trans Hcl.out.1
          have e1 := (M0.out.cell (p := ⟨gl, ol + i * 4 + 1, none⟩) Hgl.out (fun h => h)).trans Hcl.out.2.1
          have e2 := (M0.out.cell (p := ⟨gl, ol + i * 4 + 2, none⟩) Hgl.out (fun h => h)).trans Hcl.out.2.2.1
          have e3 := (M0.out.cell (p := ⟨gl, ol + i * 4 + 3, none⟩) Hgl.out (fun h => h)).trans Hcl.out.2.2.2
          have Hgl3 : Hid (gl < w3.heap.size) := Lib.hid (Nat.lt_of_lt_of_le Hgl.out M0.out.size)
          have Hx := Hx3
          clear Hq Hem
          go_wp2_with fail
          refine wp_region_held_drew (S := fun w' => Gou.Mod (fun _ => False) w3 w') (by kernel_rfl) (Gou.Mod.drew _ _) (fun hHeld => ?_)
          refine tk 0 (.slice px xs.length cx) hHeld (h := ?_)
          refine tk 1 (.slice (some ⟨gl, ol, none⟩) (a ++ b).length cl) hHeld (h := ?_)
          refine tk 2 (.int .i64 (i : Nat)) hHeld (h := ?_)
          refine tk 3 (.pointer (some ⟨gl, ol + i * 4, none⟩)) hHeld (h := ?_)
          refine tk 4 (.pointer (some ⟨gl, ol + i * 4, none⟩)) hHeld (h := ?_)
          refine tkC 5 e0 ((fun h => h)) hHeld (h := ?_)
          refine tk 7 (.slice (some ⟨gl, ol, none⟩) (a ++ b).length cl) hHeld (h := ?_)
          refine tk 8 (.int .i64 (i : Nat)) hHeld (h := ?_)
          refine tk 9 (.pointer (some ⟨gl, ol + i * 4, none⟩)) hHeld (h := ?_)
          refine tk 10 (.pointer (some ⟨gl, ol + i * 4 + 2, none⟩)) hHeld (h := ?_)
          refine tkC 11 e2 ((fun h => h)) hHeld (h := ?_)
          refine rd 6 (h := fun K hK => ?_)
          go_simp
          refine (refPut_any _ (fun _ => True) px cx xs x0 (RowG.under Hx.out hHeld) (by have := Hlx.out; have := Hly.out; have := Hn.out; have := Hin.out; omega)).mono ?_
          rintro e wp1 ⟨hm, v, rfl, hown⟩
          have M1 := Lib.hid (hHeld.trans' hm)
          obtain ⟨X1, hX1⟩ : ∃ X, X = putN xs x0 := ⟨_, rfl⟩
          rw [← hX1] at hown
          have HX1 := Lib.hid hX1
          have Hl1 : Hid (X1.length ≤ xs.length + 1) := Lib.hid (by rw [hX1]; exact putN_len1 _ _)
          have H1 : Hid (IntsR (fun _ => True) wp1 v X1) := Lib.hid (RowG.own_of hown (fun _ _ _ => trivial))
          obtain ⟨p1, c1, rfl⟩ := Gou.ownsRow_form hown
          clear hm hown hX1 hHeld
          refine hK _ _ M1.out (fun hHeld => ?_)
          clear hK K
          try simp only [Act.put, uSa, uSb, uSc]
          refine rd 12 (h := fun K hK => ?_)
          go_simp
          refine (refPut_any _ (fun _ => True) p1 c1 X1 x1 (H1.out) (by have := Hlx.out; have := Hly.out; have := Hl1.out; have := Hn.out; have := Hin.out; omega)).mono ?_
          rintro e wp2 ⟨hm, v, rfl, hown⟩
          have M2 := Lib.hid (hHeld.trans' hm)
          obtain ⟨X2, hX2⟩ : ∃ X, X = putN X1 x1 := ⟨_, rfl⟩
          rw [← hX2] at hown
          have HX2 := Lib.hid hX2
          have Hl2 : Hid (X2.length ≤ X1.length + 1) := Lib.hid (by rw [hX2]; exact putN_len1 _ _)
          have H2 : Hid (IntsR (fun _ => True) wp2 v X2) := Lib.hid (RowG.own_of hown (fun _ _ _ => trivial))
          obtain ⟨p2, c2, rfl⟩ := Gou.ownsRow_form hown
          clear hm hown hX2 hHeld
          refine hK _ _ M2.out (fun hHeld => ?_)
          clear hK K
          try simp only [Act.put, uSa, uSb, uSc]
          refine tk 13 (.slice p2 X2.length c2) hHeld (h := ?_)
          refine wpAnyH_done (by kernel_rfl) ?_ _
          clear hHeld
          have Hy : Hid (IntsR (fun _ => True) wp2 (.slice py ys.length cy) ys) := Lib.hid (RowG.under Hy3.out M2.out)
          have e1' : wp2.cell? ⟨gl, ol + i * 4 + 1, none⟩ = some (.int .i64 y0) := (M2.out.cell (p := ⟨gl, ol + i * 4 + 1, none⟩) Hgl3.out (fun h => h)).trans e1
          have e3' : wp2.cell? ⟨gl, ol + i * 4 + 3, none⟩ = some (.int .i64 y1) := (M2.out.cell (p := ⟨gl, ol + i * 4 + 3, none⟩) Hgl3.out (fun h => h)).trans e3
          have Hgl4 : Hid (gl < wp2.heap.size) := Lib.hid (Nat.lt_of_lt_of_le Hgl3.out M2.out.size)
          clear e0 e1 e2 e3
          have e1 := e1'
          have e3 := e3'
          clear e1' e3'
          go_wp2_with fail
          refine wp_region_held_drew (S := fun w' => Gou.Mod (fun _ => False) wp2 w') (by kernel_rfl) (Gou.Mod.drew _ _) (fun hHeld => ?_)
          refine tk 0 (.slice py ys.length cy) hHeld (h := ?_)
          refine tk 1 (.slice (some ⟨gl, ol, none⟩) (a ++ b).length cl) hHeld (h := ?_)
          refine tk 2 (.int .i64 (i : Nat)) hHeld (h := ?_)
          refine tk 3 (.pointer (some ⟨gl, ol + i * 4, none⟩)) hHeld (h := ?_)
          refine tk 4 (.pointer (some ⟨gl, ol + i * 4 + 1, none⟩)) hHeld (h := ?_)
          refine tkC 5 e1 ((fun h => h)) hHeld (h := ?_)
          refine tk 7 (.slice (some ⟨gl, ol, none⟩) (a ++ b).length cl) hHeld (h := ?_)
          refine tk 8 (.int .i64 (i : Nat)) hHeld (h := ?_)
          refine tk 9 (.pointer (some ⟨gl, ol + i * 4, none⟩)) hHeld (h := ?_)
          refine tk 10 (.pointer (some ⟨gl, ol + i * 4 + 3, none⟩)) hHeld (h := ?_)
          refine tkC 11 e3 ((fun h => h)) hHeld (h := ?_)
          refine rd 6 (h := fun K hK => ?_)
          go_simp
          refine (refPut_any _ (fun _ => True) py cy ys y0 (RowG.under Hy.out hHeld) (by have := Hlx.out; have := Hly.out; have := Hn.out; have := Hin.out; omega)).mono ?_
          rintro e wp3 ⟨hm, v, rfl, hown⟩
          have M3 := Lib.hid (hHeld.trans' hm)
          obtain ⟨X3, hX3⟩ : ∃ X, X = putN ys y0 := ⟨_, rfl⟩
          rw [← hX3] at hown
          have HX3 := Lib.hid hX3
          have Hl3 : Hid (X3.length ≤ ys.length + 1) := Lib.hid (by rw [hX3]; exact putN_len1 _ _)
          have H3 : Hid (IntsR (fun _ => True) wp3 v X3) := Lib.hid (RowG.own_of hown (fun _ _ _ => trivial))
          obtain ⟨p3, c3, rfl⟩ := Gou.ownsRow_form hown
          clear hm hown hX3 hHeld
          refine hK _ _ M3.out (fun hHeld => ?_)
          clear hK K
          try simp only [Act.put, uSa, uSb, uSc]
          refine rd 12 (h := fun K hK => ?_)
          go_simp
          refine (refPut_any _ (fun _ => True) p3 c3 X3 y1 (H3.out) (by have := Hlx.out; have := Hly.out; have := Hl3.out; have := Hn.out; have := Hin.out; omega)).mono ?_
          rintro e wp4 ⟨hm, v, rfl, hown⟩
          have M4 := Lib.hid (hHeld.trans' hm)
          obtain ⟨X4, hX4⟩ : ∃ X, X = putN X3 y1 := ⟨_, rfl⟩
          rw [← hX4] at hown
          have HX4 := Lib.hid hX4
          have Hl4 : Hid (X4.length ≤ X3.length + 1) := Lib.hid (by rw [hX4]; exact putN_len1 _ _)
          have H4 : Hid (IntsR (fun _ => True) wp4 v X4) := Lib.hid (RowG.own_of hown (fun _ _ _ => trivial))
          obtain ⟨p4, c4, rfl⟩ := Gou.ownsRow_form hown
          clear hm hown hX4 hHeld
          refine hK _ _ M4.out (fun hHeld => ?_)
          clear hK K
          try simp only [Act.put, uSa, uSb, uSc]
          refine tk 13 (.slice p4 X4.length c4) hHeld (h := ?_)
          refine wpAnyH_done (by kernel_rfl) ?_ _
          clear hHeld
          have Hend : Hid (IntsR (fun _ => True) wp4 (.slice p2 X2.length c2) X2 ∧ Gou.Mod (fun _ => False) w2 wp4) := Lib.hid ⟨RowG.under H2.out M4.out, (M0.out.trans' M2.out).trans' M4.out⟩
          go_wp2_with fail
          go_roundw
          case rel =>
            refine ⟨i + 1, X2, X4, by go_num, by have := Hin.out; omega, Hend.out.1, H4.out, ?_, ?_, ?_, ?_, by have h1 := Hl1.out; have h2 := Hl2.out; have h3 := Hlx.out; omega, by have h1 := Hl3.out; have h2 := Hl4.out; have h3 := Hly.out; omega, Hend.out.2⟩
            · rw [HX2.out, HX1.out]; exact putN_up (putN_up Hu.out.1 _) _
            · rw [HX4.out, HX3.out]; exact putN_up (putN_up Hu.out.2 _) _
            · rw [Htk.out]
              refine (He.out.1.imp fun x hx => ?_).snoc fun _ => ?_
              · rw [HX2.out, putN_mem, HX1.out, putN_mem]; exact .inr (.inr hx)
              · rw [HX2.out, putN_mem, putN_mem, HX1.out, putN_mem]; exact ⟨.inr (.inl rfl), .inl rfl⟩
            · rw [Htk.out]
              refine (He.out.2.imp fun x hx => ?_).snoc fun _ => ?_
              · rw [HX4.out, putN_mem, HX3.out, putN_mem]; exact .inr (.inr hx)
              · rw [HX4.out, putN_mem, putN_mem, HX3.out, putN_mem]; exact ⟨.inr (.inl rfl), .inl rfl⟩
          case measure => have := Hin.out; simp [intOf, wi]; omega
        | false =>
          have Hno := Lib.hid (of_decide_eq_false Hq.out.symm)
          clear Hq Hem
          go_wp2_with fail
          go_roundw
          case rel =>
            refine ⟨i + 1, xs, ys, by go_num, by have := Hin.out; omega, Hx3.out, Hy3.out, Hu.out.1, Hu.out.2, ?_, ?_, by have h3 := Hlx.out; omega, by have h3 := Hly.out; omega, M0.out⟩
            · rw [Htk.out]; exact He.out.1.snoc fun h => (Hno.out h).elim
            · rw [Htk.out]; exact He.out.2.snoc fun h => (Hno.out h).elim
          case measure => have := Hin.out; simp [intOf, wi]; omega
    · have hil' : i = (a ++ b).length := by omega
      have t1 : decide ((i : Int) < ((a ++ b).length : Int)) = false := decide_eq_false (by omega)
      have t1' : decide ((i : Int) < (a.length : Int) + (b.length : Int)) = false := decide_eq_false (by simp at hil; omega)
      rw [hil', List.take_length] at He
      have Hxl : Hid (xs.length ≤ 2 * (a.length + b.length)) := Lib.hid (by have := Hlx.out; rw [hil'] at this; simpa using this)
      have Hyl : Hid (ys.length ≤ 2 * (a.length + b.length)) := Lib.hid (by have := Hly.out; rw [hil'] at this; simpa using this)
      have Hxa : Hid (XEdges xs a ∧ XEdges xs b) := Lib.hid ⟨fun r hr => He.out.1 r (by simp [hr]), fun r hr => He.out.1 r (by simp [hr])⟩
      have Hya : Hid (YEdges ys a ∧ YEdges ys b) := Lib.hid ⟨fun r hr => He.out.2 r (by simp [hr]), fun r hr => He.out.2 r (by simp [hr])⟩
      have Hm1 : Hid (Gou.Mod (fun _ => False) w wr) := Lib.hid (Hm2.out.trans' Hm.out)
      have HA1 := Lib.hid (RowG.under HA.out Hm1.out)
      have HB1 := Lib.hid (RowG.under HB.out Hm1.out)
      clear He Hlx Hly hil' hil hi
      go_wp2_with fail
      generalize wr = w1 at *
      obtain ⟨f, hf⟩ : ∃ f, f = howF h := ⟨_, rfl⟩
      have Hf := Lib.hid hf
      have Hff : Hid (f false false = false) := Lib.hid (by rw [hf]; exact howF_none h)
      clear hf
      have Hbig : Hid (∀ i, i < ys.length → i * (2 * (a.length + b.length)) ≤ 4000000) := Lib.hid (fun i hi => by
        have h1 := Hn.out
        have h2 := Hyl.out
        have h3 : i * (2 * (a.length + b.length)) ≤ 2000 * 2000 := Nat.mul_le_mul (by omega) (by omega)
        omega)
      go_loopw [11, 12, 13] (fun vo vf vj wr => ∃ (j fr : Nat) (out : List Rt) (last : List Sp), vf = .int .i64 fr ∧ vj = .int .i64 j ∧ (0 < ys.length → RunB a b f ys j out fr last) ∧ (ys = [] → out = []) ∧ wr.ownsRow w1.heap.size 32 4 vo out.length (rts out) ∧ Gou.Mod (fun _ => False) w1 wr ∧ out.length ≤ j * (2 * (a.length + b.length)) ∧ (j < ys.length ∨ ys = [] ∧ j = 0)) (fun _ _ vj _ => ys.length - (intOf vj).toNat)
      case atStart =>
        refine ⟨0, 0, [], [], rfl, rfl, fun k => RunB.start Hff.out Hu.out.2 Hya.out.1 Hya.out.2 k, fun _ => rfl, World.ownsRow_nil _ _ _ _, Gou.Mod.refl _ _, by simp, ?_⟩
        cases ys with
        | nil => exact .inr ⟨rfl, rfl⟩
        | cons _ _ => exact .inl (by simp)
      case round =>
        obtain ⟨j, fr, out, last, rfl, rfl, hrun, hnil, hown, hmj, hlen, hat⟩ := hrel
        obtain ⟨pq, cq, rfl⟩ := Gou.ownsRow_form hown
        have Hnil := Lib.hid hnil
        have Howno := Lib.hid hown
        have Hmj := Lib.hid hmj
        have Hlen := Lib.hid hlen
        have Hat := Lib.hid hat
        have Hrun := Lib.hid hrun
        clear hrun hnil hown hmj hlen hat
        generalize wr = wj at *
        have wj' : IntKind.i64.wrap ((j : Int) + 1) = (j : Int) + 1 := wrap_id (by omega) (by have := Hyl.out; have := Hn.out; rcases Hat.out with h | h <;> omega)
        by_cases hj1 : j + 1 < ys.length
        · have t1 : decide ((j : Int) + 1 < (ys.length : Int)) = true := decide_eq_true (by omega)
          obtain ⟨-, gy, oy, rfl, hgy, -, hcy⟩ := IntsR.cells Hy.out (by omega)
          have ey0 := hcy j (by omega)
          have ey1 := hcy (j + 1) hj1
          have Hy0 : Hid (ys[j]? = some ys[j] ∧ ys[j + 1]? = some ys[j + 1]) := Lib.hid ⟨List.getElem?_eq_getElem (by omega), List.getElem?_eq_getElem hj1⟩
          have HR := Lib.hid (Hrun.out (by omega))
          have Hj1 := Lib.hid hj1
          have j0 : (0 : Int) ≤ (j : Int) := by omega
          have j1 : (j : Int) < (ys.length : Int) := by omega
          have j2 : (0 : Int) ≤ (j : Int) + 1 := by omega
          have j3 : (j : Int) + 1 < (ys.length : Int) := by omega
          have j4 : ((j : Int) + 1).toNat = j + 1 := by omega
          have Hgy := Lib.hid hgy
          clear hcy
          generalize ys[j] = y0 at *
          generalize ys[j + 1] = y1 at *
          clear hj1
          have Hey := Lib.hid (And.intro ey0 ey1)
          clear ey0 ey1 hgy
          go_wp2_with fail
          go_loopw [14, 15] (fun vr vi wr => ∃ (i : Nat) (row : List Sp), vi = .int .i64 i ∧ row.length ≤ i ∧ (i < xs.length ∨ xs = [] ∧ i = 0) ∧ GridB a b f xs y0 i row ∧ wr.ownsRow wj.heap.size 32 4 vr (bandOf row y0 y1).length (rts (bandOf row y0 y1)) ∧ Gou.Mod (fun _ => False) wj wr) (fun _ vi _ => xs.length - (intOf vi).toNat)
          case atStart =>
            refine ⟨0, [], rfl, by simp, ?_, GridB.start Hff.out Hu.out.1 Hxa.out.1 Hxa.out.2, World.ownsRow_nil _ _ _ _, Gou.Mod.refl _ _⟩
            cases xs with
            | nil => exact .inr ⟨rfl, rfl⟩
            | cons _ _ => exact .inl (by simp)
          case round =>
            obtain ⟨i, row, rfl, hrl, hati, hG, hown, hm⟩ := hrel
            rw [bandOf_len] at hown
            obtain ⟨po, co, rfl⟩ := Gou.ownsRow_form hown
            have Hrl := Lib.hid hrl
            have Hati := Lib.hid hati
            have HG := Lib.hid hG
            have Hown := Lib.hid hown
            have Hm := Lib.hid hm
            clear hrl hati hG hown hm
            have Hmw : Hid (Gou.Mod (fun _ => False) w1 wr) := Lib.hid (Hmj.out.trans' Hm.out)
            have wi : IntKind.i64.wrap ((i : Int) + 1) = (i : Int) + 1 := wrap_id (by omega) (by have := Hxl.out; have := Hn.out; rcases Hati.out with h | h <;> omega)
            have Hgyr : Hid (gy < wr.heap.size) := Lib.hid (Nat.lt_of_lt_of_le Hgy.out Hmw.out.size)
            have ey0 := (Hmw.out.cell (p := ⟨gy, oy + j, none⟩) Hgy.out (fun h => h)).trans Hey.out.1
            have ey1 := (Hmw.out.cell (p := ⟨gy, oy + (j + 1), none⟩) Hgy.out (fun h => h)).trans Hey.out.2
            by_cases hi1 : i + 1 < xs.length
            · as_aux_lemma =>
                have t2 : decide ((i : Int) + 1 < (xs.length : Int)) = true := decide_eq_true (by omega)
                obtain ⟨-, gx, ox, rfl, hgx, -, hcx⟩ := IntsR.cells Hx.out (by omega)
                have ex0 := (Hmw.out.cell (p := ⟨gx, ox + i, none⟩) hgx (fun h => h)).trans (hcx i (by omega))
                have ex1 := (Hmw.out.cell (p := ⟨gx, ox + (i + 1), none⟩) hgx (fun h => h)).trans (hcx (i + 1) hi1)
                have Hx0 : Hid (xs[i]? = some xs[i] ∧ xs[i + 1]? = some xs[i + 1]) := Lib.hid ⟨List.getElem?_eq_getElem (by omega), List.getElem?_eq_getElem hi1⟩
                have i0 : (0 : Int) ≤ (i : Int) := by omega
                have i1 : (i : Int) < (xs.length : Int) := by omega
                have i2 : (0 : Int) ≤ (i : Int) + 1 := by omega
                have i3 : (i : Int) + 1 < (xs.length : Int) := by omega
                have i4 : ((i : Int) + 1).toNat = i + 1 := by omega
                have Hil := Lib.hid hi1
                have Hgx := Lib.hid hgx
                have Hgxr : Hid (gx < wr.heap.size) := Lib.hid (Nat.lt_of_lt_of_le hgx Hmw.out.size)
                clear hcx hgx
                generalize xs[i] = x0 at *
                generalize xs[i + 1] = x1 at *
                clear hi1
                have HAr := Lib.hid (RowG.under HA1.out Hmw.out)
                have HBr := Lib.hid (RowG.under HB1.out Hmw.out)
                obtain ⟨q, hq⟩ : ∃ q, q = decide (Pts a b (howF h) x0 y0) := ⟨_, rfl⟩
                have Hq := Lib.hid hq
                have Hqf : Hid (q = decide (Pts a b f x0 y0)) := Lib.hid (by rw [Hf.out]; exact hq)
                clear hq
                go_wp2_with fail
                refine wp_region_held_drew (S := fun w' => Gou.Mod (fun _ => False) wr w') (by kernel_rfl) (Gou.Mod.drew _ _) (fun hHeld => ?_)
                refine tk 0 (.slice pa a.length ca) hHeld (h := ?_)
                refine tk 1 (.slice pb b.length cb) hHeld (h := ?_)
                refine tk 2 (.int .i64 h) hHeld (h := ?_)
                refine tk 3 (.slice (some ⟨gx, ox, none⟩) xs.length cx) hHeld (h := ?_)
                refine tk 4 (.int .i64 (i : Nat)) hHeld (h := ?_)
                refine tk 5 (.pointer (some ⟨gx, ox + i, none⟩)) hHeld (h := ?_)
                refine tkC 6 ex0 ((fun h => h)) hHeld (h := ?_)
                refine tk 7 (.slice (some ⟨gy, oy, none⟩) ys.length cy) hHeld (h := ?_)
                refine tk 8 (.int .i64 (j : Nat)) hHeld (h := ?_)
                refine tk 9 (.pointer (some ⟨gy, oy + j, none⟩)) hHeld (h := ?_)
                refine tkC 10 ey0 ((fun h => h)) hHeld (h := ?_)
                refine rd 11 (h := fun K hK => ?_)
                go_simp
                refine (refWant_any _ pa pb ca cb a b h x0 y0 (RowG.under HAr.out hHeld) (RowG.under HBr.out hHeld) (by have := Hn.out; omega) (by have := Hn.out; omega)).mono ?_
                rintro e ww ⟨rfl, hm⟩
                have Mw := Lib.hid (hHeld.trans' hm)
                rw [← Hq.out]
                clear hm hHeld
                refine hK _ _ Mw.out (fun hHeld => ?_)
                clear hK K
                try simp only [Act.put, uSa, uSb, uSc]
                refine tk 12 (.bool (!q)) hHeld (h := ?_)
                refine wpAnyH_done (by kernel_rfl) ?_ _
                clear hHeld
                cases q with
                | false =>
                  have Hno := Lib.hid (of_decide_eq_false Hqf.out.symm)
                  have Hend : Hid (ww.ownsRow wj.heap.size 32 4 (.slice po row.length co) (bandOf row y0 y1).length (rts (bandOf row y0 y1)) ∧ Gou.Mod (fun _ => False) wj ww) := Lib.hid ⟨by rw [bandOf_len]; exact own_up Hown.out Mw.out, Hm.out.trans' Mw.out⟩
                  clear Hq Hqf
                  go_wp2_with fail
                  go_roundw
                  case rel => exact ⟨i + 1, row, by go_num, by have := Hrl.out; omega, .inl Hil.out, HG.out.no Hu.out.1 Hxa.out.1 Hxa.out.2 Hx0.out.1 Hx0.out.2 Hno.out, Hend.out.1, Hend.out.2⟩
                  case measure => have := Hil.out; simp [intOf, wi]; omega
                | true =>
                  have Hyes := Lib.hid (of_decide_eq_true Hqf.out.symm)
                  have Hown2 := Lib.hid (own_up Hown.out Mw.out)
                  have Hm2' := Lib.hid (Hm.out.trans' Mw.out)
                  have ey0' := (Mw.out.cell (p := ⟨gy, oy + j, none⟩) Hgyr.out (fun h => h)).trans ey0
                  have ey1' := (Mw.out.cell (p := ⟨gy, oy + (j + 1), none⟩) Hgyr.out (fun h => h)).trans ey1
                  have ex0' := (Mw.out.cell (p := ⟨gx, ox + i, none⟩) Hgxr.out (fun h => h)).trans ex0
                  have ex1' := (Mw.out.cell (p := ⟨gx, ox + (i + 1), none⟩) Hgxr.out (fun h => h)).trans ex1
                  have Hgyw : Hid (gy < ww.heap.size) := Lib.hid (Nat.lt_of_lt_of_le Hgyr.out Mw.out.size)
                  have Hgxw : Hid (gx < ww.heap.size) := Lib.hid (Nat.lt_of_lt_of_le Hgxr.out Mw.out.size)
                  have Hjlt : Hid (gy < wj.heap.size ∧ gx < wj.heap.size) := Lib.hid ⟨Nat.lt_of_lt_of_le Hgy.out Hmj.out.size, Nat.lt_of_lt_of_le Hgx.out Hmj.out.size⟩
                  clear Hq Hqf ey0 ey1 ex0 ex1 Hown Hm Hmw HAr HBr Mw Hgyr Hgxr
                  have HF : Hid (row.length + 1 ≤ maxLen ∧ (row.length + 1) * 32 ≤ 140737488355328) := Lib.hid (by
                    have h1 := Hrl.out
                    have h2 := Hil.out
                    have h3 := Hxl.out
                    have h4 := Hn.out
                    unfold maxLen
                    omega)
                  have Hne : Hid ((Value.slice po row.length co).ownBlock ≠ some gx ∧ (Value.slice po row.length co).ownBlock ≠ some gy) := Lib.hid ⟨fun k => by have := own_ge Hown2.out gx k; have := Hjlt.out; omega, fun k => by have := own_ge Hown2.out gy k; have := Hjlt.out; omega⟩
                  rcases last_cases row with rfl | ⟨m, t, rfl⟩
                  · as_aux_lemma =>
                      simp only [List.length_nil] at Hown2 HF Hne ⊢
                      have n1 : decide ((0 : Int) ≤ -1) = false := rfl
                      go_wp2_with fail
                      go_quiet (fail)
                      have Hown3 := Lib.hid (own_up Hown2.out (Gou.Mod.drewN _ ww nq))
                      have Hm3 := Lib.hid (Hm2'.out.trans' (Gou.Mod.drewN _ ww nq))
                      have ex0 : (ww.drewN nq).cell? ⟨gx, ox + i, none⟩ = some (.int .i64 x0) := by rw [World.cell?_drewN]; exact ex0'
                      have ex1 : (ww.drewN nq).cell? ⟨gx, ox + (i + 1), none⟩ = some (.int .i64 x1) := by rw [World.cell?_drewN]; exact ex1'
                      have ey0 : (ww.drewN nq).cell? ⟨gy, oy + j, none⟩ = some (.int .i64 y0) := by rw [World.cell?_drewN]; exact ey0'
                      have ey1 : (ww.drewN nq).cell? ⟨gy, oy + (j + 1), none⟩ = some (.int .i64 y1) := by rw [World.cell?_drewN]; exact ey1'
                      have Hgyr : Hid (gy < (ww.drewN nq).heap.size) := Lib.hid Hgyw.out
                      have Hgxr : Hid (gx < (ww.drewN nq).heap.size) := Lib.hid Hgxw.out
                      clear Hown2 Hm2' ex0' ex1' ey0' ey1' Hgyw Hgxw
                      generalize ww.drewN nq = W3 at *
                      go_wp2_with fail
                      refine wp_region_held_drew (S := fun w' => Gou.Mod (fun b => (Value.slice po 0 co).ownBlock = some b) W3 w') (by kernel_rfl) (Gou.Mod.drew _ _) (fun hHeld => ?_)
                      refine tk 0 (.slice po 0 co) hHeld (h := ?_)
                      refine tk 1 (.slice (some ⟨gx, ox, none⟩) xs.length cx) hHeld (h := ?_)
                      refine tk 2 (.int .i64 (i : Nat)) hHeld (h := ?_)
                      refine tk 3 (.pointer (some ⟨gx, ox + i, none⟩)) hHeld (h := ?_)
                      refine tkC 4 ex0 (by show ¬ (_ = some gx); exact Hne.out.1) hHeld (h := ?_)
                      refine tk 5 (.slice (some ⟨gy, oy, none⟩) ys.length cy) hHeld (h := ?_)
                      refine tk 6 (.int .i64 (j : Nat)) hHeld (h := ?_)
                      refine tk 7 (.pointer (some ⟨gy, oy + j, none⟩)) hHeld (h := ?_)
                      refine tkC 8 ey0 (by show ¬ (_ = some gy); exact Hne.out.2) hHeld (h := ?_)
                      refine tk 9 (.slice (some ⟨gx, ox, none⟩) xs.length cx) hHeld (h := ?_)
                      refine tk 10 (.int .i64 (i : Nat)) hHeld (h := ?_)
                      refine tk 11 (.int .i64 ((i : Int) + 1)) hHeld (h := ?_)
                      refine tk 12 (.pointer (some ⟨gx, ox + (i + 1), none⟩)) hHeld (h := ?_)
                      refine tkC 13 ex1 (by show ¬ (_ = some gx); exact Hne.out.1) hHeld (h := ?_)
                      refine tk 14 (.slice (some ⟨gy, oy, none⟩) ys.length cy) hHeld (h := ?_)
                      refine tk 15 (.int .i64 (j : Nat)) hHeld (h := ?_)
                      refine tk 16 (.int .i64 ((j : Int) + 1)) hHeld (h := ?_)
                      refine tk 17 (.pointer (some ⟨gy, oy + (j + 1), none⟩)) hHeld (h := ?_)
                      refine tkC 18 ey1 (by show ¬ (_ = some gy); exact Hne.out.2) hHeld (h := ?_)
                      refine tk 19 (.agg #[.int .i64 x0, .int .i64 y0, .int .i64 x1, .int .i64 y1]) hHeld (h := ?_)
                      refine rd 20 (h := fun K hK => ?_)
                      go_simp
                      refine hK _ _ (hHeld.trans' (Gou.Mod.alloc _ _ _)) (fun hHeld => ?_)
                      clear hK K
                      try simp only [Act.put, uSa, uSb, uSc]
                      refine rd 21 (h := fun K hK => ?_)
                      refine wp_append_row T_reg _ _ rfl wj.heap.size (.slice po 0 co) (0) ([]) (fun _ => True) (.slice (some ⟨W3.heap.size, 0, none⟩) 1 1) 1 [.int .i64 x0, .int .i64 y0, .int .i64 x1, .int .i64 y1] rfl rfl (by have := Hm3.out.size; simp; omega)
                        (own_up (own_up Hown3.out (Gou.Mod.drew _ _)) (Gou.Mod.alloc0 _ _)) (RowG.of_blk (Blk.new W3.drew 32 #[.int .i64 x0, .int .i64 y0, .int .i64 x1, .int .i64 y1]) 4 1 rfl _ trivial) (rtC_one ⟨x0, y0, x1, y1⟩) HF.out.1 HF.out.2 ?_
                      intro v5 w5 G5
                      have Hm5 := Lib.hid (G5.mod0 ((Hm3.out.trans' (Gou.Mod.drew _ _)).trans' (Gou.Mod.alloc0 _ _)) (own_ge Hown3.out))
                      have Hown5 := Lib.hid G5.own
                      have hS5 := hHeld.trans' G5.mod
                      obtain ⟨p5, c5, rfl⟩ := Gou.ownsRow_form Hown5.out
                      clear G5
                      refine hK _ _ hS5 (fun hHeld => ?_)
                      clear hK K
                      try simp only [Act.put, uSa, uSb, uSc]
                      refine tk 22 (.slice p5 (0 + 1) c5) hHeld (h := ?_)
                      refine wpAnyH_done (by kernel_rfl) ?_ _
                      clear hHeld
                      go_wp2_with fail
                      go_roundw
                      case rel =>
                        refine ⟨i + 1, [⟨x0, x1⟩], by go_num, by have := Hrl.out; first | omega | (simp at this ⊢; omega) | simp, .inl Hil.out, HG.out.first Hu.out.1 Hxa.out.1 Hxa.out.2 Hx0.out.1 Hx0.out.2 Hyes.out, ?_, Hm5.out⟩
                        have h := Hown5.out
                        simpa [rts, rtC, bandOf] using h
                      case measure => have := Hil.out; simp [intOf, wi]; omega
                  · have hnl : (m ++ [t]).length = m.length + 1 := by simp
                    rw [hnl] at Hown2 HF Hne ⊢
                    obtain ⟨gr, rfl⟩ := own_some Hown2.out (by omega)
                    have hml : m.length < (bandOf (m ++ [t]) y0 y1).length := by rw [bandOf_len]; omega
                    have d0 := Hown2.out.cellAt (m.length * 4 + 2) (by omega)
                    rw [(rts_get _ m.length hml).2.2.1] at d0
                    have hbt : ((bandOf (m ++ [t]) y0 y1)[m.length]).x1 = t.b := by simp [bandOf]
                    rw [hbt] at d0
                    have f0 := Hown2.out.frozenAt (m.length * 4 + 2)
                    clear hml hbt
                    obtain ⟨KL, hK⟩ : ∃ KL, KL = m.length := ⟨_, rfl⟩
                    have HKm := Lib.hid hK
                    have Hrl2 : Hid (KL + 1 ≤ i) := Lib.hid (by have := Hrl.out; rw [hnl, ← hK] at this; exact this)
                    rw [← hK] at Hown2 HF Hne d0 f0 ⊢
                    have k1 : IntKind.i64.wrap (KL : Int) = KL := wrap_id (by omega) (by have := Hrl2.out; have := Hil.out; have := Hxl.out; have := Hn.out; omega)
                    have k0 : (0 : Int) ≤ (KL : Int) := by omega
                    have k2 : (KL : Int) < (KL : Int) + 1 := by omega
                    have k3 : decide ((0 : Int) ≤ (KL : Int)) = true := decide_eq_true k0
                    clear hnl hK
                    by_cases ht : t.b = x0
                    · as_aux_lemma =>
                        have e1 : (t.b == x0) = true := by simpa using ht
                        have Hnew := Lib.hid (HG.out.join Hu.out.1 Hxa.out.1 Hxa.out.2 Hx0.out.1 Hx0.out.2 Hyes.out ht)
                        clear ht
                        go_wp2_with fail
                        go_quiet (fail)
                        have Hown3 := Lib.hid (own_up Hown2.out (Gou.Mod.drewN _ ww nq))
                        have Hm3 := Lib.hid (Hm2'.out.trans' (Gou.Mod.drewN _ ww nq))
                        have ex1 : (ww.drewN nq).cell? ⟨gx, ox + (i + 1), none⟩ = some (.int .i64 x1) := by rw [World.cell?_drewN]; exact ex1'
                        have d3 : (ww.drewN nq).cell? ⟨gr, KL * 4 + 2, none⟩ = some (.int .i64 t.b) := by rw [World.cell?_drewN]; exact d0
                        have f3 := Hown3.out.frozenAt (KL * 4 + 2)
                        clear Hown2 Hm2' ex0' ex1' ey0' ey1' d0 f0 Hgyw Hgxw
                        generalize ww.drewN nq = W3 at *
                        have Hset : Hid ((rts (bandOf (m ++ [t]) y0 y1)).set (KL * 4 + 2) (.int .i64 x1) = rts (bandOf (m ++ [⟨t.a, x1⟩]) y0 y1)) := Lib.hid (by rw [HKm.out]; exact rts_join m t x1 y0 y1)
                        go_wp2_with fail
                        go_roundw
                        case rel =>
                          refine ⟨i + 1, m ++ [⟨t.a, x1⟩], by go_num, by have := Hrl.out; first | omega | (simp at this ⊢; omega) | simp, .inl Hil.out, Hnew.out, ?_, ?_⟩
                          · have h := own_set Hown3.out (KL * 4 + 2) (.int .i64 x1)
                            rw [Hset.out] at h
                            obtain rfl := HKm.out
                            simpa [bandOf_len] using h
                          · exact Hm3.out.trans (Gou.Mod.setCell _ ⟨gr, KL * 4 + 2, none⟩ _) (fun b hb hs => absurd (own_ge Hown3.out gr rfl) (by simp only at hs; omega))
                        case measure => have := Hil.out; simp [intOf, wi]; omega
                    · as_aux_lemma =>
                        have e1 : (t.b == x0) = false := by simpa using ht
                        have Ht := Lib.hid ht
                        clear ht
                        go_wp2_with fail
                        go_quiet (fail)
                        have Hown3 := Lib.hid (own_up Hown2.out (Gou.Mod.drewN _ ww nq))
                        have Hm3 := Lib.hid (Hm2'.out.trans' (Gou.Mod.drewN _ ww nq))
                        have ex0 : (ww.drewN nq).cell? ⟨gx, ox + i, none⟩ = some (.int .i64 x0) := by rw [World.cell?_drewN]; exact ex0'
                        have ex1 : (ww.drewN nq).cell? ⟨gx, ox + (i + 1), none⟩ = some (.int .i64 x1) := by rw [World.cell?_drewN]; exact ex1'
                        have ey0 : (ww.drewN nq).cell? ⟨gy, oy + j, none⟩ = some (.int .i64 y0) := by rw [World.cell?_drewN]; exact ey0'
                        have ey1 : (ww.drewN nq).cell? ⟨gy, oy + (j + 1), none⟩ = some (.int .i64 y1) := by rw [World.cell?_drewN]; exact ey1'
                        have Hgyr : Hid (gy < (ww.drewN nq).heap.size) := Lib.hid Hgyw.out
                        have Hgxr : Hid (gx < (ww.drewN nq).heap.size) := Lib.hid Hgxw.out
                        clear Hown2 Hm2' ex0' ex1' ey0' ey1' d0 f0 Hgyw Hgxw
                        generalize ww.drewN nq = W3 at *
                        go_wp2_with fail
                        refine wp_region_held_drew (S := fun w' => Gou.Mod (fun b => (Value.slice (some ⟨gr, 0, none⟩) (KL + 1) co).ownBlock = some b) W3 w') (by kernel_rfl) (Gou.Mod.drew _ _) (fun hHeld => ?_)
                        refine tk 0 (.slice (some ⟨gr, 0, none⟩) (KL + 1) co) hHeld (h := ?_)
                        refine tk 1 (.slice (some ⟨gx, ox, none⟩) xs.length cx) hHeld (h := ?_)
                        refine tk 2 (.int .i64 (i : Nat)) hHeld (h := ?_)
                        refine tk 3 (.pointer (some ⟨gx, ox + i, none⟩)) hHeld (h := ?_)
                        refine tkC 4 ex0 (by show ¬ (_ = some gx); exact Hne.out.1) hHeld (h := ?_)
                        refine tk 5 (.slice (some ⟨gy, oy, none⟩) ys.length cy) hHeld (h := ?_)
                        refine tk 6 (.int .i64 (j : Nat)) hHeld (h := ?_)
                        refine tk 7 (.pointer (some ⟨gy, oy + j, none⟩)) hHeld (h := ?_)
                        refine tkC 8 ey0 (by show ¬ (_ = some gy); exact Hne.out.2) hHeld (h := ?_)
                        refine tk 9 (.slice (some ⟨gx, ox, none⟩) xs.length cx) hHeld (h := ?_)
                        refine tk 10 (.int .i64 (i : Nat)) hHeld (h := ?_)
                        refine tk 11 (.int .i64 ((i : Int) + 1)) hHeld (h := ?_)
                        refine tk 12 (.pointer (some ⟨gx, ox + (i + 1), none⟩)) hHeld (h := ?_)
                        refine tkC 13 ex1 (by show ¬ (_ = some gx); exact Hne.out.1) hHeld (h := ?_)
                        refine tk 14 (.slice (some ⟨gy, oy, none⟩) ys.length cy) hHeld (h := ?_)
                        refine tk 15 (.int .i64 (j : Nat)) hHeld (h := ?_)
                        refine tk 16 (.int .i64 ((j : Int) + 1)) hHeld (h := ?_)
                        refine tk 17 (.pointer (some ⟨gy, oy + (j + 1), none⟩)) hHeld (h := ?_)
                        refine tkC 18 ey1 (by show ¬ (_ = some gy); exact Hne.out.2) hHeld (h := ?_)
                        refine tk 19 (.agg #[.int .i64 x0, .int .i64 y0, .int .i64 x1, .int .i64 y1]) hHeld (h := ?_)
                        refine rd 20 (h := fun K hK => ?_)
                        go_simp
                        refine hK _ _ (hHeld.trans' (Gou.Mod.alloc _ _ _)) (fun hHeld => ?_)
                        clear hK K
                        try simp only [Act.put, uSa, uSb, uSc]
                        refine rd 21 (h := fun K hK => ?_)
                        refine wp_append_row T_reg _ _ rfl wj.heap.size (.slice (some ⟨gr, 0, none⟩) (KL + 1) co) ((KL + 1)) (rts (bandOf (m ++ [t]) y0 y1)) (fun _ => True) (.slice (some ⟨W3.heap.size, 0, none⟩) 1 1) 1 [.int .i64 x0, .int .i64 y0, .int .i64 x1, .int .i64 y1] rfl rfl (by have := Hm3.out.size; simp; omega)
                          (own_up (own_up Hown3.out (Gou.Mod.drew _ _)) (Gou.Mod.alloc0 _ _)) (RowG.of_blk (Blk.new W3.drew 32 #[.int .i64 x0, .int .i64 y0, .int .i64 x1, .int .i64 y1]) 4 1 rfl _ trivial) (rtC_one ⟨x0, y0, x1, y1⟩) HF.out.1 HF.out.2 ?_
                        intro v5 w5 G5
                        have Hm5 := Lib.hid (G5.mod0 ((Hm3.out.trans' (Gou.Mod.drew _ _)).trans' (Gou.Mod.alloc0 _ _)) (own_ge Hown3.out))
                        have Hown5 := Lib.hid G5.own
                        have hS5 := hHeld.trans' G5.mod
                        obtain ⟨p5, c5, rfl⟩ := Gou.ownsRow_form Hown5.out
                        clear G5
                        refine hK _ _ hS5 (fun hHeld => ?_)
                        clear hK K
                        try simp only [Act.put, uSa, uSb, uSc]
                        refine tk 22 (.slice p5 ((KL + 1) + 1) c5) hHeld (h := ?_)
                        refine wpAnyH_done (by kernel_rfl) ?_ _
                        clear hHeld
                        obtain rfl := HKm.out
                        go_wp2_with fail
                        go_roundw
                        case rel =>
                          refine ⟨i + 1, m ++ [t] ++ [⟨x0, x1⟩], by go_num, by have := Hrl.out; first | omega | (simp at this ⊢; omega) | simp, .inl Hil.out, HG.out.new Hu.out.1 Hxa.out.1 Hxa.out.2 Hx0.out.1 Hx0.out.2 Hyes.out Ht.out, ?_, Hm5.out⟩
                          have h := Hown5.out
                          simpa [rts, rtC, bandOf] using h
                        case measure => have := Hil.out; simp [intOf, wi]; omega
            · as_aux_lemma =>
                have t2 : decide ((i : Int) + 1 < (xs.length : Int)) = false := decide_eq_false (by omega)
                have Hrow : Hid (Canon row ∧ (∀ x, In row x ↔ Pts a b f x y0)) := Lib.hid (HG.out.done Hff.out Hu.out.1 Hxa.out.1 Hxa.out.2 hi1)
                have Hrll : Hid (row.length ≤ 2 * (a.length + b.length)) := Lib.hid (by have h1 := Hrl.out; have h2 := Hxl.out; rcases Hati.out with h | h <;> omega)
                clear hi1 HG Hrl Hati
                have Hown0 := Lib.hid Hown.out
                have Hrdj : Hid ((Value.slice pq out.length cq).ownBlock ≠ (Value.slice po row.length co).ownBlock ∨ True) := Lib.hid (.inr trivial)
                have Hout1 : Hid (wr.ownsRow w1.heap.size 32 4 (.slice pq out.length cq) out.length (rts out)) := Lib.hid (own_up Howno.out Hm.out)
                have Hfr := Lib.hid HR.out.fr_le
                have w3 : IntKind.i64.wrap ((out.length : Int) - (fr : Int)) = (out.length : Int) - (fr : Int) := wrap_id (by have := Hfr.out; omega) (by have h1 := Hlen.out; have h2 := Hbig.out j (by have := Hj1.out; omega); omega)
                go_upto_region 26 with fail
                go_cut [17] from 139 to 150 (fun vs wx => vs = .bool (decide (row ≠ [] ∧ out.length - fr = row.length)) ∧ wx = wr)
                case first =>
                  by_cases hr0 : row = []
                  · have Hq : Hid (decide (row ≠ [] ∧ out.length - fr = row.length) = false) := Lib.hid (by simp [hr0])
                    subst hr0
                    simp only [List.length_nil]
                    go_wp2_with fail
                    go_meet
                    case rel => exact ⟨by rw [Hq.out], rfl⟩
                  · have hl0 : 0 < row.length := by cases row with | nil => exact absurd rfl hr0 | cons _ _ => simp
                    have e1 : decide ((0 : Int) < (row.length : Int)) = true := decide_eq_true (by omega)
                    have e1' : decide (0 < row.length) = true := decide_eq_true hl0
                    by_cases hl : out.length - fr = row.length
                    · have Hq : Hid (decide (row ≠ [] ∧ out.length - fr = row.length) = true) := Lib.hid (by simp [hr0, hl])
                      have e2 : ((out.length : Int) - (fr : Int) == (row.length : Int)) = true := by have := Hfr.out; simp; omega
                      clear hl
                      go_wp2_with fail
                      go_meet
                      case rel => exact ⟨by rw [Hq.out], rfl⟩
                    · have Hq : Hid (decide (row ≠ [] ∧ out.length - fr = row.length) = false) := Lib.hid (by simp [hl])
                      have e2 : ((out.length : Int) - (fr : Int) == (row.length : Int)) = false := by have := Hfr.out; simp; omega
                      clear hl
                      go_wp2_with fail
                      go_meet
                      case rel => exact ⟨by rw [Hq.out], rfl⟩
                case rest =>
                  obtain ⟨rfl, hww⟩ := hcut
                  have hww := hww.symm
                  subst hww
                  go_upto_block 6 with fail
                  go_cut [17, 18] from 151 to 201 (fun vs vk wx => vs = .bool (decide (row ≠ [] ∧ row = last)) ∧ Gou.Mod (fun _ => False) wr wx)
                  case first =>
                    obtain ⟨s0, hs0⟩ : ∃ s, s = decide (row ≠ [] ∧ out.length - fr = row.length) := ⟨_, rfl⟩
                    have Hs0 := Lib.hid hs0
                    rw [← hs0]
                    clear hs0
                    go_wp2_with fail
                    go_loopw [17, 18] (fun vs vk wx => ∃ (s : Bool) (k : Nat), vs = .bool s ∧ vk = .int .i64 k ∧ k ≤ row.length ∧ (s = true → row ≠ [] ∧ out.length - fr = row.length ∧ ∀ i, i < k → TestAt out fr row y0 i) ∧ (s = false → ¬ (row ≠ [] ∧ row = last)) ∧ Gou.Mod (fun _ => False) wr wx) (fun _ vk _ => row.length - (intOf vk).toNat)
                    case atStart =>
                      refine ⟨s0, 0, rfl, rfl, by omega, fun k => ?_, fun k => ?_, Gou.Mod.refl _ _⟩
                      · have h1 := of_decide_eq_true (Hs0.out.symm.trans k)
                        exact ⟨h1.1, h1.2, fun i hi => by omega⟩
                      · have h1 := of_decide_eq_false (Hs0.out.symm.trans k)
                        exact fun h2 => h1 ⟨h2.1, HR.out.len_of Hy0.out.1 h2.1 h2.2⟩
                    case round =>
                      obtain ⟨s, k, rfl, rfl, hk, hst, hsf, hm⟩ := hrel
                      have Hst := Lib.hid hst
                      have Hsf := Lib.hid hsf
                      have Hmk := Lib.hid hm
                      clear hst hsf hm
                      have wk : IntKind.i64.wrap ((k : Int) + 1) = (k : Int) + 1 := wrap_id (by omega) (by have := Hrll.out; have := Hn.out; omega)
                      cases s with
                      | false =>
                        have Hq : Hid (decide (row ≠ [] ∧ row = last) = false) := Lib.hid (decide_eq_false (Hsf.out rfl))
                        go_wp2_with fail
                        all_goals go_meet
                        all_goals (case rel => exact ⟨by rw [Hq.out], Hmk.out⟩)
                      | true =>
                        have Hs := Lib.hid (Hst.out rfl)
                        clear Hst Hsf
                        by_cases hkl : k < row.length
                        · have e1 : decide ((k : Int) < (row.length : Int)) = true := decide_eq_true (by omega)
                          have e1' : decide (k < row.length) = true := decide_eq_true hkl
                          have hfk : fr + k < out.length := by have := Hs.out.2.1; omega
                          obtain ⟨go_, hgo⟩ := own_some Hout1.out (by omega)
                          obtain ⟨gr, hgr⟩ := own_some Hown0.out (by omega)
                          subst hgo hgr
                          have hbl : k < (bandOf row y0 y1).length := by rw [bandOf_len]; exact hkl
                          have d0 := Hout1.out.cellAt ((fr + k) * 4) (by omega)
                          have d1 := Hout1.out.cellAt ((fr + k) * 4 + 2) (by omega)
                          have d2 := Hout1.out.cellAt ((fr + k) * 4 + 3) (by omega)
                          rw [(rts_get _ _ hfk).1] at d0
                          rw [(rts_get _ _ hfk).2.2.1] at d1
                          rw [(rts_get _ _ hfk).2.2.2] at d2
                          have b0 := Hown0.out.cellAt (k * 4) (by omega)
                          have b1 := Hown0.out.cellAt (k * 4 + 2) (by omega)
                          rw [(rts_get _ _ hbl).1] at b0
                          rw [(rts_get _ _ hbl).2.2.1] at b1
                          have hb0 : ((bandOf row y0 y1)[k]).x0 = row[k].a := by simp [bandOf]
                          have hb1 : ((bandOf row y0 y1)[k]).x1 = row[k].b := by simp [bandOf]
                          rw [hb0] at b0
                          rw [hb1] at b1
                          have lo := (Hout1.out.lt go_ rfl).2
                          have lr := (Hown0.out.lt gr rfl).2
                          rw [← Hmk.out.cell (p := ⟨go_, (fr + k) * 4, none⟩) lo (fun h => h)] at d0
                          rw [← Hmk.out.cell (p := ⟨go_, (fr + k) * 4 + 2, none⟩) lo (fun h => h)] at d1
                          rw [← Hmk.out.cell (p := ⟨go_, (fr + k) * 4 + 3, none⟩) lo (fun h => h)] at d2
                          rw [← Hmk.out.cell (p := ⟨gr, k * 4, none⟩) lr (fun h => h)] at b0
                          rw [← Hmk.out.cell (p := ⟨gr, k * 4 + 2, none⟩) lr (fun h => h)] at b1
                          have ey := (Hmk.out.cell (p := ⟨gy, oy + j, none⟩) Hgyr.out (fun h => h)).trans ey0
                          have HT : Hid ((out[fr + k].x0 = row[k].a ∧ out[fr + k].x1 = row[k].b ∧ out[fr + k].y1 = y0) ↔ TestAt out fr row y0 k) := Lib.hid ⟨fun h => ⟨_, _, List.getElem?_eq_getElem hfk, List.getElem?_eq_getElem hkl, h.1, h.2.1, h.2.2⟩, fun ⟨r, s, h1, h2, h3⟩ => by
                            rw [List.getElem?_eq_getElem hfk, Option.some.injEq] at h1
                            rw [List.getElem?_eq_getElem hkl, Option.some.injEq] at h2
                            subst h1 h2
                            exact h3⟩
                          have q0 : (0 : Int) ≤ (k : Int) := by omega
                          have q1 : (k : Int) < (row.length : Int) := by omega
                          have q2 : IntKind.i64.wrap ((fr : Int) + (k : Int)) = ((fr + k : Nat) : Int) := by rw [wrap_id (by omega) (by have h1 := Hlen.out; have h2 := Hbig.out j (by have := Hj1.out; omega); omega)]; simp
                          have q3 : (0 : Int) ≤ ((fr + k : Nat) : Int) := by omega
                          have q4 : ((fr + k : Nat) : Int) < (out.length : Int) := by omega
                          have q5 : (((fr + k : Nat) : Int)).toNat = fr + k := by omega
                          have Hkl := Lib.hid hkl
                          have Hfk := Lib.hid hfk
                          generalize out[fr + k].x0 = r0 at *
                          generalize out[fr + k].x1 = r1 at *
                          generalize out[fr + k].y1 = r2 at *
                          generalize row[k].a = s0' at *
                          generalize row[k].b = s1' at *
                          clear hkl hfk hbl hb0 hb1 lo lr Hs0
                          obtain ⟨FK, hFK⟩ : ∃ FK, FK = fr + k := ⟨_, rfl⟩
                          have HFK := Lib.hid hFK
                          rw [← hFK] at d0 d1 d2 q2 q3 q4 q5
                          clear hFK
                          go_wp2_with fail
                          by_cases c1 : r0 = s0'
                          · as_aux_lemma =>
                              have t1 : (r0 == s0') = true := by simpa using c1
                              by_cases c2 : r1 = s1'
                              · have t2 : (r1 == s1') = true := by simpa using c2
                                by_cases c3 : r2 = y0
                                · have t3 : (r2 == y0) = true := by simpa using c3
                                  have Hyes := Lib.hid (HT.out.1 ⟨c1, c2, c3⟩)
                                  clear c1 c2 c3
                                  go_quiet (fail)
                                  go_wp2_with fail
                                  go_roundw
                                  case rel =>
                                    refine ⟨true, k + 1, rfl, by go_num, by have := Hkl.out; omega, fun _ => ⟨Hs.out.1, Hs.out.2.1, fun i hi => ?_⟩, fun h => (by cases h), Hmk.out.trans' (Gou.Mod.drewN _ _ _)⟩
                                    rcases Nat.lt_or_ge i k with h | h
                                    · exact Hs.out.2.2 i h
                                    · obtain rfl : i = k := by omega
                                      exact Hyes.out
                                  case measure => have := Hkl.out; simp [intOf, wk]; omega
                                · have t3 : (r2 == y0) = false := by simpa using c3
                                  have Hno := Lib.hid (fun h => c3 (HT.out.2 h).2.2)
                                  clear c1 c2 c3
                                  go_quiet (fail)
                                  go_wp2_with fail
                                  go_roundw
                                  case rel =>
                                    refine ⟨false, k + 1, rfl, by go_num, by have := Hkl.out; omega, fun h => (by cases h), fun _ => fun h2 => Hno.out ((HR.out.tests Hy0.out.1 Hs.out.1 Hs.out.2.1).2 h2.2 k Hkl.out), Hmk.out.trans' (Gou.Mod.drewN _ _ _)⟩
                                  case measure => have := Hkl.out; simp [intOf, wk]; omega
                              · have t2 : (r1 == s1') = false := by simpa using c2
                                have Hno := Lib.hid (fun h => c2 (HT.out.2 h).2.1)
                                clear c1 c2
                                go_quiet (fail)
                                go_wp2_with fail
                                go_roundw
                                case rel =>
                                  refine ⟨false, k + 1, rfl, by go_num, by have := Hkl.out; omega, fun h => (by cases h), fun _ => fun h2 => Hno.out ((HR.out.tests Hy0.out.1 Hs.out.1 Hs.out.2.1).2 h2.2 k Hkl.out), Hmk.out.trans' (Gou.Mod.drewN _ _ _)⟩
                                case measure => have := Hkl.out; simp [intOf, wk]; omega
                          · have t1 : (r0 == s0') = false := by simpa using c1
                            have Hno := Lib.hid (fun h => c1 (HT.out.2 h).1)
                            clear c1
                            go_quiet (fail)
                            go_wp2_with fail
                            go_roundw
                            case rel =>
                              refine ⟨false, k + 1, rfl, by go_num, by have := Hkl.out; omega, fun h => (by cases h), fun _ => fun h2 => Hno.out ((HR.out.tests Hy0.out.1 Hs.out.1 Hs.out.2.1).2 h2.2 k Hkl.out), Hmk.out.trans' (Gou.Mod.drewN _ _ _)⟩
                            case measure => have := Hkl.out; simp [intOf, wk]; omega
                        · have hk' : k = row.length := by omega
                          have e1 : decide ((k : Int) < (row.length : Int)) = false := decide_eq_false (by omega)
                          have e1' : decide (k < row.length) = false := decide_eq_false hkl
                          have Hq : Hid (decide (row ≠ [] ∧ row = last) = true) := Lib.hid (decide_eq_true ⟨Hs.out.1, (HR.out.tests Hy0.out.1 Hs.out.1 Hs.out.2.1).1 (fun i hi => Hs.out.2.2 i (by omega))⟩)
                          clear hkl hk'
                          go_wp2_with fail
                          go_meet
                          case rel => exact ⟨by rw [Hq.out], Hmk.out⟩
                  case rest =>
                    obtain ⟨rfl, hmd⟩ := hcut
                    have Hout2 : Hid (wc.ownsRow w1.heap.size 32 4 (.slice pq out.length cq) out.length (rts out)) := Lib.hid (own_up Hout1.out hmd)
                    have Hrow2 := Lib.hid (own_up Hown0.out hmd)
                    have Hmd : Hid (Gou.Mod (fun _ => False) w1 wc) := Lib.hid ((Hmj.out.trans' Hm.out).trans' hmd)
                    have ey7 := (hmd.cell (p := ⟨gy, oy + (j + 1), none⟩) Hgyr.out (fun h => h)).trans ey1
                    have Hgyne : Hid ((Value.slice pq out.length cq).ownBlock ≠ some gy) := Lib.hid (fun h => by have := own_ge Howno.out gy h; have := Hgy.out; omega)
                    clear hmd ey0 ey1
                    by_cases hsame : row ≠ [] ∧ row = last
                    · as_aux_lemma =>
                        have Hq : Hid (decide (row ≠ [] ∧ row = last) = true) := Lib.hid (decide_eq_true hsame)
                        rw [Hq.out]
                        have Hrun2 := Lib.hid (HR.out.same Hu.out.2 Hya.out.1 Hya.out.2 Hy0.out.1 Hy0.out.2 Hrow.out.1 Hrow.out.2 hsame.1 hsame.2)
                        clear hsame
                        go_wp2_with fail
                        go_loopw [19] (fun vk wx => ∃ k : Nat, vk = .int .i64 k ∧ fr ≤ k ∧ k ≤ out.length ∧ wx.ownsRow w1.heap.size 32 4 (.slice pq out.length cq) out.length (rts (partY out fr y1 k)) ∧ Gou.Mod (fun _ => False) w1 wx ∧ wx.cell? ⟨gy, oy + (j + 1), none⟩ = some (.int .i64 y1) ∧ gy < wx.heap.size) (fun vk _ => out.length - (intOf vk).toNat)
                        case atStart => exact ⟨fr, rfl, Nat.le_refl _, Hfr.out, by rw [partY_start]; exact Hout2.out, Hmd.out, ey7, Nat.lt_of_lt_of_le Hgy.out Hmd.out.size⟩
                        case round =>
                          obtain ⟨k, rfl, hk0, hk1, hown, hm, hcy, hgy⟩ := hrel
                          have Hownk := Lib.hid hown
                          have Hmk := Lib.hid hm
                          have Hk := Lib.hid (And.intro hk0 hk1)
                          clear hm hown
                          have wk : IntKind.i64.wrap ((k : Int) + 1) = (k : Int) + 1 := wrap_id (by omega) (by have h1 := Hlen.out; have h2 := Hbig.out j (by have := Hj1.out; omega); omega)
                          by_cases hkl : k < out.length
                          · have e1 : decide ((k : Int) < (out.length : Int)) = true := decide_eq_true (by omega)
                            obtain ⟨gb, rfl⟩ := own_some Hownk.out (by omega)
                            have hpl : k < (partY out fr y1 k).length := by rw [partY_len]; exact hkl
                            have hc := Hownk.out.cellAt (k * 4 + 3) (by omega)
                            rw [(rts_get _ k hpl).2.2.2] at hc
                            have hf := Hownk.out.frozenAt (k * 4 + 3)
                            have k0 : (0 : Int) ≤ (k : Int) := by omega
                            have k1 : (k : Int) < (out.length : Int) := by omega
                            have Hset : Hid ((rts (partY out fr y1 k)).set (k * 4 + 3) (.int .i64 y1) = rts (partY out fr y1 (k + 1))) := Lib.hid (by rw [rts_set _ _ hpl, partY_get _ _ _ _ hkl, partY_set _ _ _ _ hk0 hkl])
                            have Hne : Hid (gy ≠ gb) := Lib.hid (fun h => Hgyne.out (by rw [h]; rfl))
                            have Hkl := Lib.hid hkl
                            generalize ((partY out fr y1 k)[k]).y1 = oldy at *
                            clear hpl hkl
                            go_wp2_with fail
                            go_roundw
                            case rel =>
                              refine ⟨k + 1, by go_num, by have := Hk.out; omega, by have := Hkl.out; omega, ?_, ?_, ?_, ?_⟩
                              · have h := own_set Hownk.out (k * 4 + 3) (.int .i64 y1)
                                rw [Hset.out] at h
                                exact h
                              · exact Hmk.out.trans (Gou.Mod.setCell _ ⟨gb, k * 4 + 3, none⟩ _) (fun b hb hs => absurd (own_ge Hownk.out gb rfl) (by simp only at hs; omega))
                              · exact ((Gou.Mod.setCell _ ⟨gb, k * 4 + 3, none⟩ (.int .i64 y1)).cell (p := ⟨gy, oy + (j + 1), none⟩) hgy Hne.out).trans hcy
                              · exact Nat.lt_of_lt_of_le hgy (Gou.Mod.setCell _ ⟨gb, k * 4 + 3, none⟩ (.int .i64 y1)).size
                            case measure => have := Hkl.out; simp [intOf, wk]; omega
                          · obtain rfl : k = out.length := by have := Hk.out; omega
                            have e1 : decide ((out.length : Int) < (out.length : Int)) = false := decide_eq_false (by omega)
                            have Hend : Hid (partY out fr y1 out.length = out.take fr ++ (out.drop fr).map (setY1 y1)) := Lib.hid (partY_end _ _ _ Hfr.out)
                            have Hle2 : Hid ((out.take fr ++ (out.drop fr).map (setY1 y1)).length = out.length) := Lib.hid (by rw [← partY_end _ _ _ Hfr.out, partY_len])
                            go_wp2_with fail
                            go_roundw
                            case rel =>
                              refine ⟨j + 1, fr, out.take fr ++ (out.drop fr).map (setY1 y1), last, rfl, by go_num, fun _ => Hrun2.out, fun h => by have := Hj1.out; rw [h] at this; simp at this, ?_, Hmk.out, ?_, .inl (by have := Hj1.out; omega)⟩
                              · rw [Hle2.out, ← Hend.out]; exact Hownk.out
                              · rw [Hle2.out]; have := Hlen.out; rw [Nat.add_mul]; omega
                            case measure => have := Hj1.out; simp [intOf, wj']; omega
                    · as_aux_lemma =>
                        have Hq : Hid (decide (row ≠ [] ∧ row = last) = false) := Lib.hid (decide_eq_false hsame)
                        rw [Hq.out]
                        have Hrun2 := Lib.hid (HR.out.other Hu.out.2 Hya.out.1 Hya.out.2 Hy0.out.1 Hy0.out.2 Hrow.out.1 Hrow.out.2 (by
                          by_cases h1 : row = []
                          · exact .inl h1
                          · exact .inr fun h2 => hsame ⟨h1, h2⟩))
                        clear hsame
                        have HF : Hid (out.length + row.length ≤ maxLen ∧ (out.length + row.length) * 32 ≤ 140737488355328) := Lib.hid (by
                          have h1 := Hlen.out
                          have h2 := Hbig.out j (by have := Hj1.out; omega)
                          have h3 := Hrll.out
                          have h4 := Hn.out
                          unfold maxLen
                          omega)
                        have HrG : Hid (RowG (fun _ => True) wc 4 (.slice po row.length co) row.length (rts (bandOf row y0 y1))) := Lib.hid (RowG.own_of Hrow2.out (fun _ _ _ => trivial))
                        go_wp2_with (first | ((with_reducible show wpList _ _ _ (⟨_, Op.call ⟨.builtin .append, _, _⟩, _, _, _, _⟩ :: _) _ _); refine halt ?_) | fail)
                        refine wpList_append_row T_reg rfl _ _ rfl (w1.heap.size) (.slice pq out.length cq) (out.length) (rts out) (fun _ => True) (.slice po row.length co) (row.length) (rts (bandOf row y0 y1)) rfl rfl (Hmd.out.size) (Hout2.out) (HrG.out) (rts_one _) (by first | exact HF.out.1 | exact HF.out.2) (by first | exact HF.out.1 | exact HF.out.2) ?_
                        intro v5 w5 G5
                        have Hm6 := Lib.hid (G5.mod0 Hmd.out (own_ge Hout2.out))
                        have Hown6 := Lib.hid G5.own
                        clear G5
                        obtain ⟨p6, c6, rfl⟩ := Gou.ownsRow_form Hown6.out
                        go_wp2_with fail
                        go_roundw
                        case rel =>
                          refine ⟨j + 1, out.length, out ++ bandOf row y0 y1, row, rfl, by go_num, fun _ => Hrun2.out, fun h => by have := Hj1.out; rw [h] at this; simp at this, ?_, Hm6.out, ?_, .inl (by have := Hj1.out; omega)⟩
                          · rw [rts_app, List.length_append, bandOf_len]; exact Hown6.out
                          · rw [List.length_append, bandOf_len, Nat.add_mul]
                            have := Hlen.out
                            have := Hrll.out
                            omega
                        case measure => have := Hj1.out; simp [intOf, wj']; omega
        · have t1 : decide ((j : Int) + 1 < (ys.length : Int)) = false := decide_eq_false (by omega)
          have Hend : Hid (CombP w a b f (.returned (.slice pq out.length cq)) wj) := Lib.hid (by
            refine ⟨Hm1.out.trans' Hmj.out, _, out, rfl, ownsRow_base Howno.out Hm1.out.size, ?_, ?_⟩
            · rcases Hat.out with k | ⟨k, _⟩
              · exact (Hrun.out (by omega)).done Hff.out Hu.out.2 Hya.out.1 Hya.out.2 (by omega)
              · rw [Hnil.out k]
                exact reg_empty Hff.out (by have := Hya.out.1; rwa [k] at this) (by have := Hya.out.2; rwa [k] at this)
            · have h0 := Hlen.out
              rcases Hat.out with k | ⟨_, k⟩
              · have := Hbig.out j k
                omega
              · rw [k, Nat.zero_mul] at h0
                omega)
          rw [Hf.out] at Hend
          go_wp2_with fail
          go_ret
          exact Hend.out
end Go.Proofs.YtlpieeeeolfclaaGreatDoor

