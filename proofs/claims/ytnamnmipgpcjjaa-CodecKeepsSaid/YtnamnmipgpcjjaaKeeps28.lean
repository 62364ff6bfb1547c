/- Acts as bytes: what is handed in stays: the law's walk. -/
import Derived.Test.YtnamnmipgpcjjaaLawC
namespace Go.Gou
open Go.RowKit

/-- On the way through the acts that were read: which blocks have turned. -/
structure KeepIn (w2 : World) (TA : TypeId) (g n cv : Nat) (cs : List Value) (xs : List Ac) (lo hi : Nat → Nat) (w3 : World) : Prop where
  own : w3.ownsRow w2.heap.size TA 42 (.slice (some ⟨g, 0, none⟩) n cv) n cs
  acts : ActsIn w3 w2.heap.size cs xs lo hi
  apart : ∀ i, i < xs.length → ¬ (lo i ≤ g ∧ g < hi i)
  len : n = xs.length

theorem Touched.mono {lo hi : Nat → Nat} {i j h k : Nat} (t : Touched lo hi i h k) (hij : i ≤ j) : Touched lo hi j h k := t.imp (fun ⟨q, h1, h2⟩ => ⟨q, by omega, h2⟩) id

theorem KeepIn.row {w2 w3 wr : World} {TA : TypeId} {g n cv : Nat} {cs : List Value} {xs : List Ac} {lo hi : Nat → Nat} (h : KeepIn w2 TA g n cv cs xs lo hi w3) {i : Nat} (hi' : i ≤ xs.length) (hm : Mod (Touched lo hi i w3.heap.size) w3 wr) :
    wr.ownsRow w2.heap.size TA 42 (.slice (some ⟨g, 0, none⟩) n cv) n cs :=
  ownsRow_mod h.own hm fun k hk t => by
    have hlt := (h.own.lt k hk).2
    have : k = g := by simpa [Value.ownBlock] using hk.symm
    subst this
    rcases t with ⟨j, h1, h2, h3⟩ | t
    · exact h.apart j (by omega) ⟨h2, h3⟩
    · omega

theorem KeepIn.act {w2 w3 wr : World} {TA : TypeId} {g n cv : Nat} {cs : List Value} {xs : List Ac} {lo hi : Nat → Nat} (h : KeepIn w2 TA g n cv cs xs lo hi w3) {i : Nat} (hi' : i < xs.length) (hm : Mod (Touched lo hi i w3.heap.size) w3 wr) :
    ∃ vp vf vb, (∀ j u, (actC xs[i] vp vf vb)[j]? = some u → wr.cell? ⟨g, i * 42 + j, none⟩ = some u) ∧ LookR (fun b => lo i ≤ b ∧ b < hi i) wr xs[i].op.look vp vf vb ∧
    ∀ b, vp.ownBlock = some b → (lo i ≤ b ∧ b < hi i ∧ b < w3.heap.size ∧ b ≠ g) ∧ ∃ cur T, wr.heap[b]? = some (.cells cur T (0, 0)) := by
  obtain ⟨vp, vf, vb, h1, h2, h3⟩ := h.acts.at_ i hi'
  have hrow := h.row (by omega) hm
  have far : ∀ k, k < w3.heap.size → lo i ≤ k ∧ k < hi i → ¬ Touched lo hi i w3.heap.size k := fun k hk hb t => by
    rcases t with ⟨j, g1, g2, g3⟩ | t
    · have := h.acts.ord j i g1 hi'; omega
    · omega
  refine ⟨vp, vf, vb, fun j u hu => ?_, h2.mod hm far, fun b hb => ?_⟩
  · have hj : j < 42 := by
      have := (Array.getElem?_eq_some_iff.1 hu).1
      simpa [actC] using this
    have hc := h1 j hj
    rw [hu] at hc
    have hlen := h.len
    rcases hrow.2 with ⟨e, _⟩ | ⟨g', cap, cur, e, _, hh, hn, _, hcs, ht⟩
    · cases e
    · simp only [Value.slice.injEq, Option.some.injEq, Addr.mk.injEq] at e
      obtain ⟨⟨rfl, _⟩, _, rfl⟩ := e
      rw [cell_of_row wr g _ cur _ (0, 0) hh, ← Array.getElem?_toList, ← hc, ← ht, List.getElem?_take, if_pos (by
        have : (i + 1) * 42 ≤ n * 42 := Nat.mul_le_mul_right _ (by omega)
        omega)]
  · obtain ⟨hb2, cur, T, hh⟩ := h3 b hb
    have hlt : b < w3.heap.size := (Array.getElem?_eq_some_iff.1 hh).1
    refine ⟨⟨hb2.1, hb2.2, hlt, fun e => ?_⟩, cur, T, ?_⟩
    · subst e; exact h.apart i hi' hb2
    · rw [hm.block b hlt (far b hlt hb2)]; exact hh

theorem Reads.all {bs : List Nat} (hb : ∀ b ∈ bs, b < 256) {xs : List Ac} {n m : Nat} (h : Reads bs xs n m) : ∀ x ∈ xs, LookBorne x.op.look ∧ PxSmall x.op.look.content ∧ (x.op.look.content.pix = [] ∨ (x.op.look.filt.nodes = [] ∧ x.op.look.back.nodes = [])) := by
  induction xs generalizing n with
  | nil => intro x hx; cases hx
  | cons a r ih =>
    obtain ⟨q, hq, h⟩ := h
    intro x hx
    rcases List.mem_cons.1 hx with rfl | hx
    · obtain ⟨es, ge, _⟩ := (act_spec hb n x q).1 hq
      exact ⟨(actG_enc ge).2.1, (actG_enc ge).2.2, actG_alone ge⟩
    · exact ih h x hx

theorem Reads.le {bs : List Nat} {xs : List Ac} {n m : Nat} (h : Reads bs xs n m) : n + xs.length ≤ m := by
  induction xs generalizing n with
  | nil => obtain rfl : n = m := h; simp
  | cons a r ih =>
    obtain ⟨q, hq, h⟩ := h
    have := actAt_go hq
    have := ih h
    simp only [List.length_cons]
    omega

theorem Reads.count {bs : List Nat} {xs : List Ac} {m : Nat} (h : Reads bs xs 0 m) (hm : m ≤ bs.length) (hl : bs.length ≤ 3000) : xs.length ≤ 3000 := by
  have := h.le
  omega

theorem KeepIn.far {w2 w3 : World} {TA : TypeId} {g n cv : Nat} {cs : List Value} {xs : List Ac} {lo hi : Nat → Nat} (h : KeepIn w2 TA g n cv cs xs lo hi w3) {i : Nat} (hi' : i ≤ xs.length) : g < w3.heap.size ∧ ¬ Touched lo hi i w3.heap.size g := by
  have hlt := (h.own.lt g rfl).2
  refine ⟨hlt, fun t => ?_⟩
  rcases t with ⟨j, h1, h2, h3⟩ | t
  · exact h.apart j (by omega) ⟨h2, h3⟩
  · omega

theorem NodesR.empty {G : Nat → Prop} {w w' : World} {v : Value} (h : NodesR G w v []) : NodesR G w' v [] := by
  obtain ⟨cs, ⟨hl, p, cap, e, hcap, _⟩, hn⟩ := h
  simp only [List.length_nil, Nat.zero_mul, List.length_eq_zero_iff] at hl
  subst hl
  exact ⟨[], ⟨rfl, p, cap, e, hcap, .inl rfl⟩, NodeC.nil _ _⟩

/-- An act with other pixels. -/
def Ac.withPix (x : Ac) (P : List Pxl) : Ac := { x with op := { x.op with look := { x.op.look with content := { x.op.look.content with pix := P } } } }
theorem actC_withPix (x : Ac) (P : List Pxl) (a b c : Value) : actC (x.withPix P) a b c = actC x a b c := rfl

/-- On the way through an act's pixels. -/
structure PixIn (w3 : World) (lo hi : Nat → Nat) (i : Nat) (x : Ac) (v1 v2 v3 : Value) (P : List Pxl) (wq : World) : Prop where
  len : P.length = x.op.look.content.pix.length
  small : ∀ p ∈ P, Pxl.Small p
  mod : Mod (Touched lo hi (i + 1) w3.heap.size) w3 wq
  look : LookR (fun b => lo i ≤ b ∧ b < hi i) wq (x.withPix P).op.look v1 v2 v3
  soft : ∀ b, v1.ownBlock = some b → ∃ cur T, wq.heap[b]? = some (.cells cur T (0, 0))

theorem PixIn.put {w3 : World} {lo hi : Nat → Nat} {i : Nat} {x : Ac} {b o n k1 : Nat} {v2 v3 : Value} {P : List Pxl} {wq : World} (h : PixIn w3 lo hi i x (.slice (some ⟨b, o, none⟩) n k1) v2 v3 P wq) (hg : lo i ≤ b ∧ b < hi i) (hal : x.op.look.content.pix = [] ∨ (x.op.look.filt.nodes = [] ∧ x.op.look.back.nodes = [])) {k : Nat} (hk : k < x.op.look.content.pix.length) (p : Pxl) (hp : p.Small) :
    PixIn w3 lo hi i x (.slice (some ⟨b, o, none⟩) n k1) v2 v3 (P.set k p) (wq.setCells b (o + k * 4) p.cells) := by
  obtain ⟨cur, T, hb⟩ := h.soft b rfl
  have hn : x.op.look.filt.nodes = [] ∧ x.op.look.back.nodes = [] := hal.resolve_left (fun e => by rw [e] at hk; simp at hk)
  refine ⟨by rw [List.length_set]; exact h.len, fun q hq => ?_, h.mod.trans (Blk.setMod _ _ _ _) (fun q _ e => by subst e; exact .inl ⟨i, by omega, hg⟩), ⟨?_, ?_, ?_⟩, fun b' hb' => ?_⟩
  · rcases List.mem_or_eq_of_mem_set hq with hq | rfl
    · exact h.small q hq
    · exact hp
  · exact (PixR.put h.look.pix hb (by show k < P.length; rw [h.len]; exact hk) p).2
  · have := h.look.filt
    have e : ((x.withPix P).op.look.filt.nodes) = [] := hn.1
    have e2 : ((x.withPix (P.set k p)).op.look.filt.nodes) = [] := hn.1
    rw [e] at this
    rw [e2]
    exact this.empty
  · have := h.look.back
    have e : ((x.withPix P).op.look.back.nodes) = [] := hn.2
    have e2 : ((x.withPix (P.set k p)).op.look.back.nodes) = [] := hn.2
    rw [e] at this
    rw [e2]
    exact this.empty
  · obtain rfl : b = b' := by simpa [Value.ownBlock] using hb'
    exact ⟨_, T, Blk.sets hb _ _⟩

/-- A new row, on the way. -/
theorem blk_put {w : World} {b : Nat} {cur : Array Value} {T : TypeId} (hb : w.heap[b]? = some (.cells cur T (0, 0))) {n k : Nat} (hn : n ≤ cur.size) (hk : k < n) (u : Value) :
    (∃ v, w.cell? ⟨b, k, none⟩ = some v) ∧ w.frozen? ⟨b, k, none⟩ = false ∧ ∃ cur' T', (w.setCell ⟨b, k, none⟩ u).heap[b]? = some (.cells cur' T' (0, 0)) ∧ n ≤ cur'.size :=
  ⟨⟨cur[k]'(by omega), by rw [cell_of_row w b k cur T (0, 0) hb]; simp⟩, frozen_of_row w b k cur T hb, _, T, Blk.set hb k u, by simpa using hn⟩

end Go.Gou
namespace Go.Proofs.Ytnamnmipgpcjjaa
open Go.RowKit Go.Gou

set_option linter.constructorNameAsVariable false

set_option maxRecDepth 100000 in
set_option maxHeartbeats 4000000 in
theorem codecKeeps_law (w : World) (vb : Value) (bs : List Nat) (h : BytesAt (fun _ => True) w vb bs) (hby : ∀ x ∈ bs, x < 256) (hlen : bs.length ≤ maxLen) :
    Calls Try.prog 8 #[vb] w fun e w' => e = .returned (.bool true) ∧ Gou.Mod (fun _ => False) w w' := by
  obtain ⟨pb, cb, rfl⟩ := h.len
  have H := Lib.hid h
  have Hby := Lib.hid hby
  clear h hby
  go_enter Try.func8, Try.ntmps8
  go_wp2_with fail
  refine (awake_any w).mono ?_
  rintro e w1 ⟨rfl, hm1⟩
  have Hm1 := Lib.hid hm1
  clear hm1
  by_cases hl : bs.length ≤ 3000
  case neg =>
    have e1 : decide ((3000 : Int) < (bs.length : Int)) = true := by simp; omega
    clear hl
    go_wp2_with fail
    refine (awake_any w1).mono ?_
    rintro e w2 ⟨rfl, hm2⟩
    go_wp2_with fail
    go_ret
    exact ⟨rfl, Hm1.out.trans' hm2⟩
  have e1 : decide ((3000 : Int) < (bs.length : Int)) = false := by simp; omega
  have H1 := Lib.hid (H.out.mod Hm1.out (fun _ _ _ h => h))
  go_wp2_with (first | ((with_reducible refine wpList_append_bytes ?g1 ?s1 ?x1 ?o1 w1.heap.size (.slice (some ⟨w1.heap.size, 0, none⟩) 0 0) [] bs (fun _ => True) (.slice pb bs.length cb) ?a1 ?b1 ?c1 ?d1 ?e1 ?f1 ?r1); (case g1 => exact rfl); (case o1 => exact rfl); (case a1 => exact rfl); (case b1 => exact rfl); (case c1 => simp); (case d1 => exact own_at (cs := #[]) (heap_alloc_new w1 _) (Nat.le_refl _) (by unfold maxLen; omega) rfl); (case e1 => exact H1.out.mod (Gou.Mod.alloc (fun _ => False) _ _) (fun _ _ _ h => h)); (case f1 => simp; omega); (intro vw w2 hwas hm2 hwf)) | fail)
  rw [List.nil_append] at hwas
  obtain ⟨pw, cw, rfl⟩ := Gou.ownsRow_form hwas
  have Hm2 : Hid (Gou.Mod (fun _ => False) w1 w2) := Lib.hid ((Gou.Mod.alloc (fun _ => False) w1 _).trans hm2 (fun i hi h => by simp [Value.ownBlock] at h; omega))
  have Hwas := Lib.hid hwas
  have H2 := Lib.hid (H1.out.mod Hm2.out (fun _ _ _ h => h))
  clear hm2 hwf hwas H1
  refine (get_any w2 _ bs H2.out Hby.out (by omega)).mono ?_
  rintro e w3 ⟨xs, m, v, hr, hm, hend, rfl, ⟨cs, lo, hi, hown, hin, hap⟩, hm3⟩
  obtain ⟨pv, cv, rfl⟩ := Gou.ownsRow_form hown
  have Hown := Lib.hid hown
  have Hin := Lib.hid hin
  have Hap := Lib.hid hap
  have Hm3 := Lib.hid hm3
  have Hbyl := Lib.hid (Reads.all (Hby.out) hr)
  have Hxl := Lib.hid (Reads.count hr hm hl)
  clear hown hin hap hm3 hr hm hend
  generalize (if m < bs.length then (2 : Int) else 0) = code at *
  go_wp2_with fail
  go_loopw [7] (fun c wr => ∃ i : Nat, c = .int .i64 i ∧ i ≤ xs.length ∧ Gou.Mod (Touched lo hi i w3.heap.size) w3 wr) (fun c _ => xs.length - (intOf c).toNat)
  case atStart => exact ⟨0, rfl, by omega, Gou.Mod.refl _ _⟩
  case round =>
    obtain ⟨i, rfl, hi', hm⟩ := hrel
    have Hm := Lib.hid hm
    clear hm
    by_cases hil : i < xs.length
    · have e2 : decide ((i : Int) < (xs.length : Int)) = true := by simp; omega
      obtain ⟨g, cv', hpv, hg0, hg3⟩ := Hown.out.form (by omega)
      simp only [Value.slice.injEq] at hpv
      obtain ⟨rfl, _, rfl⟩ := hpv
      have HK : Hid (KeepIn w2 41 g xs.length cv cs xs lo hi w3) := Lib.hid ⟨Hown.out, Hin.out, fun i hi => Hap.out g i rfl hi, rfl⟩
      obtain ⟨vp, vf, vb, hcell, hlook, hsoft⟩ := HK.out.act hil Hm.out
      have hal := Hbyl.out xs[i] (List.getElem_mem hil)
      have htop := Hin.out.top i hil
      have hord : ∀ b, lo i ≤ b → b < hi i → b < w3.heap.size → b ≠ g := fun b h1 h2 _ e => by subst e; exact Hap.out b i rfl hil ⟨h1, h2⟩
      generalize hx : xs[i] = x at *
      clear hx
      obtain ⟨p1, k1, rfl, _⟩ := RowG.form hlook.pix
      obtain ⟨p2, k2, rfl⟩ := hlook.filt.form
      obtain ⟨p3, k3, rfl⟩ := hlook.back.form
      have Hcell := Lib.hid hcell
      have Hlook := Lib.hid hlook
      have Hsoft := Lib.hid hsoft
      have Hal := Lib.hid hal
      clear hcell hlook hsoft hal
      have hiI : (i : Int) < (xs.length : Int) := by omega
      have hi0I : (0 : Int) ≤ (i : Int) := by omega
      go_wp2_with fail
      go_loopw [8] (fun c wq => ∃ (k : Nat) (P : List Pxl), c = .int .i64 k ∧ k ≤ x.op.look.content.pix.length ∧ PixIn w3 lo hi i x (.slice p1 x.op.look.content.pix.length k1) (.slice p2 x.op.look.filt.nodes.length k2) (.slice p3 x.op.look.back.nodes.length k3) P wq) (fun c _ => x.op.look.content.pix.length - (intOf c).toNat)
      case atStart => exact ⟨0, x.op.look.content.pix, rfl, by omega, rfl, Hal.out.2.1.pix, Hm.out.imp (fun _ _ t => t.mono (by omega)), Hlook.out, fun b hb => (Hsoft.out b hb).2⟩
      case round =>
        obtain ⟨k, P, rfl, hk, hP⟩ := hrel
        have HP := Lib.hid hP
        clear hP
        have hfar := HK.out.far (i := i + 1) (by omega)
        have hfar2 := HK.out.far (i := i) (by omega)
        have hrow : ∀ j u, (actC x (.slice p1 x.op.look.content.pix.length k1) (.slice p2 x.op.look.filt.nodes.length k2) (.slice p3 x.op.look.back.nodes.length k3))[j]? = some u → wr.cell? ⟨g, i * 42 + j, none⟩ = some u := fun j u hu => by
          rw [HP.out.mod.cell (p := ⟨g, i * 42 + j, none⟩) hfar.1 hfar.2, ← Hm.out.cell (p := ⟨g, i * 42 + j, none⟩) hfar2.1 hfar2.2]
          exact Hcell.out j u hu
        have kc : wr.cell? ⟨g, i * 42 + 28, none⟩ = some (.slice p1 x.op.look.content.pix.length k1) := hrow 28 _ rfl
        have Hrow := Lib.hid hrow
        clear hrow hfar hfar2
        by_cases hkl : k < x.op.look.content.pix.length
        · have e3 : decide ((k : Int) < (x.op.look.content.pix.length : Int)) = true := by simp; omega
          have hkI : (k : Int) < (x.op.look.content.pix.length : Int) := by omega
          have hk0I : (0 : Int) ≤ (k : Int) := by omega
          have hpl := Hal.out.1.pix
          obtain ⟨b, o, rfl⟩ : ∃ b o, p1 = some ⟨b, o, none⟩ := by
            obtain ⟨_, p', c', e, _, h⟩ := HP.out.look.pix
            simp only [Value.slice.injEq] at e
            obtain ⟨rfl, _, _⟩ := e
            rcases h with h | ⟨b, o, rfl, _⟩
            · have h2 : P.length = 0 := h
              rw [HP.out.len] at h2; omega
            · exact ⟨b, o, rfl⟩
          have hbl := (Hsoft.out b rfl).1
          obtain ⟨cur, T, hb⟩ := HP.out.soft b rfl
          have hsz := (PixR.put HP.out.look.pix hb (k := k) (by show k < P.length; rw [HP.out.len]; exact hkl) ⟨9, 9, 9, 9⟩).1
          have Hth : Hid (wr.there b (o + k * 4) 4) := Lib.hid (Blk.there hb _ _ (by omega))
          have HP2 := Lib.hid (HP.out.put ⟨hbl.1, hbl.2.1⟩ Hal.out.2.2 hkl ⟨9, 9, 9, 9⟩ ⟨by decide, by decide, by decide, by decide⟩)
          clear hb hsz
          go_wp2_with (first | ((with_reducible refine wpList_store_mid ?g1_1 27 ?x1_1 ?y1_1 ?o1_1 b (o + k * 4) #[.int .u8 9, .int .u8 9, .int .u8 9, .int .u8 9] ?h1_1 ?j1_1 ?t1_1 ?i1_1 ?s1_1 ?r1_1); (case g1_1 => exact rfl); (case o1_1 => exact rfl); (case h1_1 => exact rfl); (case j1_1 => exact rfl); (case t1_1 => exact Hth.out); (case i1_1 => kernel_rfl); (case s1_1 => simp [Value.oneCell'])) | fail)
          go_roundw
          case rel => exact ⟨k + 1, P.set k ⟨9, 9, 9, 9⟩, by go_num, by omega, HP2.out⟩
          case measure => simp [intOf]; omega
        · obtain rfl : k = x.op.look.content.pix.length := by omega
          have e3 : decide ((x.op.look.content.pix.length : Int) < (x.op.look.content.pix.length : Int)) = false := by simp
          have Hrg : Hid (wr.rangeAt g (i * 42) (actC x (.slice p1 x.op.look.content.pix.length k1) (.slice p2 x.op.look.filt.nodes.length k2) (.slice p3 x.op.look.back.nodes.length k3)).toList) := Lib.hid (fun j v hv => Hrow.out j v (by rw [← Array.getElem?_toList]; exact hv))
          have HiA : Hid ((Try.prog.info? 41).map (·.size) = some (actC x (.slice p1 x.op.look.content.pix.length k1) (.slice p2 x.op.look.filt.nodes.length k2) (.slice p3 x.op.look.back.nodes.length k3)).toList.length) := Lib.hid (size_act.trans (by simp [actC]))
          go_wp2_with (first | ((with_reducible refine wpList_load_mid ?g1_2 41 ?x1_2 ?o1_2 g (i * 42) ?h1_2 (actC x (.slice p1 x.op.look.content.pix.length k1) (.slice p2 x.op.look.filt.nodes.length k2) (.slice p3 x.op.look.back.nodes.length k3)).toList ?d1_2 ?c1_2 ?u1_2 ?s1_2 ?i1_2 ?r1_2); (case g1_2 => exact rfl); (case o1_2 => exact rfl); (case h1_2 => exact rfl); (case c1_2 => exact Hrg.out); (case u1_2 => exact Try.underlying41); (case s1_2 => exact rfl); (case i1_2 => exact HiA.out)) | fail)
          have hput := put_row wr p1 p2 p3 _ _ _ k1 k2 k3 (x.withPix P) HP.out.len.symm rfl rfl (HP.out.look.imp fun _ _ _ => trivial) ⟨by show P.length ≤ _; rw [HP.out.len]; exact Hal.out.1.pix, Hal.out.1.filt, Hal.out.1.back⟩ ⟨Hal.out.2.1.px, HP.out.small⟩
          rw [actC_withPix] at hput
          refine hput.mono ?_
          clear hput
          rintro e w5 ⟨pc, nc, cc, cs5, q, hnc, rfl, hown5, hm5⟩
          have Hown5 := Lib.hid hown5
          have Hm5 : Hid (Gou.Mod (Touched lo hi (i + 1) w3.heap.size) w3 w5) := Lib.hid (HP.out.mod.trans hm5 (fun _ _ h => h.elim))
          have Hw35 : Hid (w3.heap.size ≤ wr.heap.size) := Lib.hid HP.out.mod.size
          clear hown5 hm5
          go_wp2_with fail
          go_loopw [11] (fun c wz => ∃ k : Nat, c = .int .i64 k ∧ k ≤ nc ∧ Gou.Mod (Touched lo hi (i + 1) w3.heap.size) w3 wz ∧ ∀ b, (Value.slice pc nc cc).ownBlock = some b → w3.heap.size ≤ b ∧ ∃ cur T, wz.heap[b]? = some (.cells cur T (0, 0)) ∧ nc ≤ cur.size) (fun c _ => nc - (intOf c).toNat)
          case atStart =>
            refine ⟨0, rfl, by omega, Hm5.out, fun b hb => ?_⟩
            have hlt := Hown5.out.lt b hb
            refine ⟨by have := Hw35.out; omega, ?_⟩
            rcases Hown5.out.2 with ⟨e, _⟩ | ⟨g', cap, cur, e, _, hh, hn, _, hcs, _⟩
            · rw [e] at hb; cases hb
            · rw [e] at hb
              obtain rfl : g' = b := by simpa [Value.ownBlock] using hb
              exact ⟨cur, _, hh, by rw [hcs]; simp only [Value.slice.injEq] at e; omega⟩
          case round =>
            obtain ⟨k, rfl, hk2, hm6, hb6⟩ := hrel
            have Hm6 := Lib.hid hm6
            have Hb6 := Lib.hid hb6
            clear hm6 hb6
            by_cases hkl2 : k < nc
            · have e4 : decide ((k : Int) < (nc : Int)) = true := by simp; omega
              have hkI : (k : Int) < (nc : Int) := by omega
              have hk0I : (0 : Int) ≤ (k : Int) := by omega
              obtain ⟨gc, cc', hpc, _, _⟩ := Hown5.out.form (by omega)
              simp only [Value.slice.injEq] at hpc
              obtain ⟨rfl, _, rfl⟩ := hpc
              obtain ⟨hgc, cur, T, hh, hn⟩ := Hb6.out gc rfl
              obtain ⟨⟨v0, c0⟩, f0, cur', T', hh', hn'⟩ := blk_put hh hn hkl2 (.int .u8 99)
              have Hnx : Hid (Gou.Mod (Touched lo hi (i + 1) w3.heap.size) w3 (wr.setCell ⟨gc, k, none⟩ (.int .u8 99)) ∧ ∀ b, (Value.slice (some ⟨gc, 0, none⟩) nc cc).ownBlock = some b → w3.heap.size ≤ b ∧ ∃ cur T, (wr.setCell ⟨gc, k, none⟩ (.int .u8 99)).heap[b]? = some (.cells cur T (0, 0)) ∧ nc ≤ cur.size) := Lib.hid ⟨Hm6.out.trans (Gou.Mod.setCell _ _ _) (fun q _ e => by simp at e; subst e; exact .inr hgc), fun b hb => by
                obtain rfl : gc = b := by simpa [Value.ownBlock] using hb
                exact ⟨hgc, cur', T', hh', hn'⟩⟩
              clear hh hh'
              go_wp2_with fail
              go_roundw
              case rel => exact ⟨k + 1, by go_num, by omega, Hnx.out⟩
              case measure => simp [intOf]; omega
            · obtain rfl : k = nc := by omega
              have hxl := Hxl.out
              have e4 : decide ((k : Int) < (k : Int)) = false := by simp
              go_wp2_with fail
              go_roundw
              case rel => exact ⟨i + 1, by go_num, by omega, Hm6.out⟩
              case measure => simp [intOf]; omega
    · obtain rfl : i = xs.length := by omega
      have e2 : decide ((xs.length : Int) < (xs.length : Int)) = false := by simp
      have hs12 := Hm2.out.size
      have hs23 := Hm3.out.size
      have hs01 := Hm1.out.size
      have Hfar : Hid (∀ q, q < w2.heap.size → ¬ Touched lo hi xs.length w3.heap.size q) := Lib.hid (fun q hq t => by
        rcases t with ⟨j, h1, h2, _⟩ | t
        · have := (Hin.out.top j h1).1; omega
        · omega)
      have Hb4 := Lib.hid (((H2.out.imp (G' := fun q => q < w2.heap.size) fun q hq _ => hq).mod Hm3.out (fun _ _ _ h => h)).mod Hm.out (fun q _ hq => Hfar.out q hq))
      have Hw4 := Lib.hid ((((BytesAt.of_own Hwas.out).imp (G' := fun q => q < w2.heap.size) fun q hq _ => hq).mod Hm3.out (fun _ _ _ h => h)).mod Hm.out (fun q _ hq => Hfar.out q hq))
      have Hend : Hid (Gou.Mod (fun _ => False) w wr) := Lib.hid ((Hm1.out.trans' Hm2.out).trans' Hm3.out |>.trans Hm.out (fun q hq t => Hfar.out q (by omega) t))
      go_wp2_with fail
      refine (sameB_any _ _ _ pb pw cb cw bs bs Hb4.out Hw4.out (by omega) (by omega)).mono ?_
      rintro e w9 ⟨rfl, hm9⟩
      rw [show decide (bs = bs) = true from decide_eq_true rfl]
      go_wp2_with fail
      go_ret
      exact ⟨rfl, Hend.out.trans' hm9⟩

end Go.Proofs.Ytnamnmipgpcjjaa
