/- Acts as bytes: pixels are written. -/
import Derived.Test.YtnamnmipgpcjjaaWrC
namespace Go.Gou
open Go.RowKit

def pxBytes (ps : List Pxl) : List Nat := ps.flatMap fun p => [p.p0, p.p1, p.p2, p.p3]

theorem pxBytes_len (ps : List Pxl) : (pxBytes ps).length = 4 * ps.length := by
  induction ps with
  | nil => rfl
  | cons p r ih => simp only [pxBytes, List.flatMap_cons, List.length_append] at ih ⊢; rw [ih]; simp; omega

/-- Bytes are appended. -/
theorem WrAt.pushes {w w1 w2 : World} {W : Nat} {TW TB : TypeId} {bs ys : List Nat} {vs : Value} {gg cp t : Nat} (h : WrAt w W TW TB bs vs) (ht : t = bs.length + ys.length) (hm : Mod (fun _ => False) w w1)
    (hown : w2.ownsRow (W + 1) TB 1 (.slice (some ⟨gg, 0, none⟩) t cp) t (u8s bs ++ u8s ys)) (hgrow : w1.grownBy w2 vs.ownBlock) (hat : vs.ownBlock = some gg ∨ gg = w1.heap.size) :
    WrAt (w2.setCell ⟨W, 0, none⟩ (.slice (some ⟨gg, 0, none⟩) t cp)) W TW TB (bs ++ ys) (.slice (some ⟨gg, 0, none⟩) t cp) ∧ WTo W w vs (w2.setCell ⟨W, 0, none⟩ (.slice (some ⟨gg, 0, none⟩) t cp)) (.slice (some ⟨gg, 0, none⟩) t cp) := by
  subst ht
  have hlt : ∀ k, vs.ownBlock = some k → W + 1 ≤ k ∧ k < w.heap.size := fun k hk => h.own.lt k hk
  have hW := Blk.lt h.box
  have hs := hm.size
  have hm2 := Mod.of_grown hgrow
  have hb2 : Blk w2 W TW #[vs] := (h.box.mod hm (fun h => h)).mod hm2 (fun e => by have := hlt _ e; omega)
  have hggW : gg ≠ W := by
    rcases hat with hat | hat
    · have := hlt _ hat; omega
    · omega
  refine ⟨⟨hb2.set 0 _, ?_⟩, ⟨?_, ?_⟩⟩
  · have e : u8s (bs ++ ys) = u8s bs ++ u8s ys := by simp [u8s]
    rw [e]
    have h1 := ownsRow_mod (S := fun k => k = W) hown (Mod.setCell w2 ⟨W, 0, none⟩ (.slice (some ⟨gg, 0, none⟩) (bs.length + ys.length) cp)) (fun k hk => by simp only [Value.ownBlock, Option.some.injEq] at hk; subst hk; exact hggW)
    simpa using h1
  · exact (((hm.imp fun _ _ h => h.elim).trans' (hm2.imp fun _ _ h => .inr h)).trans' ((Mod.setCell w2 ⟨W, 0, none⟩ _).imp fun _ _ h => .inl h))
  · intro g hg
    simp only [Value.ownBlock, Option.some.injEq] at hg
    subst hg
    rcases hat with hat | hat
    · exact .inl hat
    · exact .inr (by omega)

theorem WrAt.mids {w w1 w2 : World} {W : Nat} {TW TB : TypeId} {bs : List Nat} {vs : Value} (h : WrAt w W TW TB bs vs) (hm : Mod (fun _ => False) w w1) (hgrow : w1.grownBy w2 vs.ownBlock) : w2.cell? ⟨W, 0, none⟩ = some vs ∧ w2.frozen? ⟨W, 0, none⟩ = false := by
  have hb2 : Blk w2 W TW #[vs] := (h.box.mod hm (fun h => h)).mod (Mod.of_grown hgrow) (fun e => by have := (h.own.lt _ e).1; omega)
  exact ⟨hb2.cell 0 rfl, hb2.frozen 0⟩

theorem pxs_get (ps : List Pxl) (i : Nat) (h : i < ps.length) : (pxs ps)[i * 4]? = some (.int .u8 (ps[i].p0 : Nat)) ∧ (pxs ps)[i * 4 + 1]? = some (.int .u8 (ps[i].p1 : Nat)) ∧ (pxs ps)[i * 4 + 2]? = some (.int .u8 (ps[i].p2 : Nat)) ∧ (pxs ps)[i * 4 + 3]? = some (.int .u8 (ps[i].p3 : Nat)) := by
  induction ps generalizing i with
  | nil => simp at h
  | cons p r ih =>
    have e : pxs (p :: r) = p.cells ++ pxs r := by simp [pxs]
    rw [e]
    have hl : p.cells.length = 4 := rfl
    cases i with
    | zero =>
      refine ⟨?_, ?_, ?_, ?_⟩ <;> (rw [List.getElem?_append_left (by omega)]; rfl)
    | succ i =>
      have := ih i (by simpa using h)
      obtain ⟨h0, h1, h2, h3⟩ := this
      have hk : ∀ j, (p.cells ++ pxs r)[(i + 1) * 4 + j]? = (pxs r)[i * 4 + j]? := fun j => by
        rw [List.getElem?_append_right (by omega), hl]
        congr 1
        omega
      refine ⟨?_, ?_, ?_, ?_⟩
      · rw [show (i + 1) * 4 = (i + 1) * 4 + 0 from rfl, hk]; exact h0
      · rw [hk]; exact h1
      · rw [hk]; exact h2
      · rw [hk]; exact h3

theorem PixR.cells {G : Nat → Prop} {w : World} {p : Option Addr} {c n : Nat} {ps : List Pxl} (h : PixR G w (.slice p n c) ps) (h0 : 0 < ps.length) :
    n = ps.length ∧ ∃ b o, p = some ⟨b, o, none⟩ ∧ b < w.heap.size ∧ G b ∧ ∀ i, (hi : i < ps.length) → w.cell? ⟨b, o + i * 4, none⟩ = some (.int .u8 (ps[i].p0 : Nat)) ∧ w.cell? ⟨b, o + i * 4 + 1, none⟩ = some (.int .u8 (ps[i].p1 : Nat)) ∧
      w.cell? ⟨b, o + i * 4 + 2, none⟩ = some (.int .u8 (ps[i].p2 : Nat)) ∧ w.cell? ⟨b, o + i * 4 + 3, none⟩ = some (.int .u8 (ps[i].p3 : Nat)) := by
  obtain ⟨hl, p', c', e, hcap, h⟩ := h
  simp only [Value.slice.injEq] at e
  obtain ⟨rfl, rfl, rfl⟩ := e
  rcases h with h | ⟨b, o, rfl, hb, hG, hc⟩
  · omega
  · refine ⟨rfl, b, o, rfl, hb, hG, fun i hi => ?_⟩
    obtain ⟨h0, h1, h2, h3⟩ := pxs_get ps i hi
    refine ⟨hc _ _ h0, ?_, ?_, ?_⟩
    · have := hc _ _ h1; rwa [← Nat.add_assoc] at this
    · have := hc _ _ h2; rwa [← Nat.add_assoc] at this
    · have := hc _ _ h3; rwa [← Nat.add_assoc] at this

end Go.Gou
namespace Go.Proofs.Ytnamnmipgpcjjaa
open Go.RowKit Go.Gou

set_option maxRecDepth 100000 in
set_option maxHeartbeats 2000000 in
theorem wpixels_any (w : World) (W : Nat) (bs : List Nat) (vs v : Value) (ps : List Pxl) (h : Wr w W bs vs) (hx : PixR (fun b => b ≠ W ∧ vs.ownBlock ≠ some b) w v ps) (hl : bs.length + 4 * ps.length ≤ 1000000000) :
    Calls Try.prog 58 #[.pointer (some ⟨W, 0, none⟩), v] w (WrP w W bs vs (some (pxBytes ps))) := by
  have H := Lib.hid h
  obtain ⟨i0, hi0, hz0, hz1, hz2⟩ := info_parts info_u8
  obtain ⟨p, c, rfl, hpc⟩ := RowG.form hx
  have Hx := Lib.hid hx
  have Hl := Lib.hid hl
  have hxl : ps.length ≤ 250000000 := by omega
  clear h hx hl hpc
  go_enter Try.func58, Try.ntmps58
  go_wp2_with fail
  go_loopw [8] (fun c wr => ∃ (i : Nat) (v1 : Value), c = .int .i64 i ∧ i ≤ ps.length ∧ Wr wr W (bs ++ pxBytes (ps.take i)) v1 ∧ WTo W w vs wr v1) (fun c _ => ps.length - (intOf c).toNat)
  case atStart => exact ⟨0, vs, rfl, by omega, by simpa [pxBytes] using H.out, WTo.refl _ _ _⟩
  case round =>
    obtain ⟨i, v1, rfl, hi, hw1, ht1⟩ := hrel
    obtain ⟨BS, hBS⟩ : ∃ BS, BS = bs ++ pxBytes (ps.take i) := ⟨_, rfl⟩
    rw [← hBS] at hw1
    have Hbl : Hid (BS.length + 4 ≤ 2000000000) := Lib.hid (by have := Hl.out; rw [hBS]; simp only [List.length_append, pxBytes_len, List.length_take]; omega)
    have HBS := Lib.hid hBS
    obtain ⟨pv, cv, rfl⟩ := ownsRow_form hw1.own
    have Hw1 := Lib.hid hw1
    have Ht1 := Lib.hid ht1
    have cW := hw1.box.cell 0 rfl
    have fW := hw1.box.frozen 0
    have hWlt := Blk.lt hw1.box
    clear hw1 ht1 hBS
    by_cases hil : i < ps.length
    · have e1 : decide ((i : Int) < (ps.length : Int)) = true := by simp; omega
      obtain ⟨-, b, o, rfl, hb, hG, hc⟩ := Hx.out.cells (by omega)
      obtain ⟨k0, k1, k2, k3⟩ := hc i hil
      have hmc : ∀ j, wr.cell? ⟨b, j, none⟩ = w.cell? ⟨b, j, none⟩ := fun j => Ht1.out.mod.cell (p := ⟨b, j, none⟩) hb (by rintro (e | e); exact hG.1 e; exact hG.2 e)
      rw [← hmc] at k0 k1 k2 k3
      have hiI : (i : Int) < (ps.length : Int) := by omega
      have hi0I : (0 : Int) ≤ (i : Int) := by omega
      have hpt : Hid (pxBytes (ps.take (i + 1)) = pxBytes (ps.take i) ++ [ps[i].p0, ps[i].p1, ps[i].p2, ps[i].p3]) := Lib.hid (by simp only [pxBytes, List.take_add_one, List.getElem?_eq_getElem hil, Option.toList_some, List.flatMap_append, List.flatMap_cons, List.flatMap_nil, List.append_nil])
      clear hc hG hmc
      generalize ps[i] = px at *
      obtain ⟨p0, p1, p2, p3⟩ := px
      simp only at k0 k1 k2 k3
      have Hown : Hid (((wr.alloc (.cells #[.int .u8 (p0 : Nat), .int .u8 (p1 : Nat), .int .u8 (p2 : Nat), .int .u8 (p3 : Nat)] 27)).drew).ownsRow (W + 1) 5 1 (.slice pv BS.length cv) BS.length (u8s BS)) :=
        Lib.hid (ownsRow_mod Hw1.out.own ((Gou.Mod.alloc (fun _ => False) _ _).trans' (Gou.Mod.drew _ _)) (fun _ _ h => h))
      have HM : Hid (Gou.Mod (fun _ => False) wr ((wr.alloc (.cells #[.int .u8 (p0 : Nat), .int .u8 (p1 : Nat), .int .u8 (p2 : Nat), .int .u8 (p3 : Nat)] 27)).drew)) := Lib.hid ((Gou.Mod.alloc (fun _ => False) _ _).trans' (Gou.Mod.drew _ _))
      go_wp2_with fail
      go_region_law (first | (refine step_append_lies _ (by rfl) _ _ _ (by rfl) (W + 1) 5 i0 (.int .u8 0) 1 1 Try.underlying44 hi0 hz0 hz1 hz2 rfl (by omega) (.slice pv BS.length cv) BS.length (u8s BS) (by rfl) Hown.out ⟨_, 0, none⟩ 4 _ [.int .u8 (p0 : Nat), .int .u8 (p1 : Nat), .int .u8 (p2 : Nat), .int .u8 (p3 : Nat)] (by rfl) (by rfl) (news_at (cs := #[.int .u8 (p0 : Nat), .int .u8 (p1 : Nat), .int .u8 (p2 : Nat), .int .u8 (p3 : Nat)]) (t := 27) (fr := (0, 0)) (by rw [heap_drew]; exact heap_at rfl) rfl) (by simp [Value.oneCell']) (by omega) (by have := Hbl.out; unfold maxLen; omega) (by have := Hbl.out; omega) (by simp; omega) _ rfl ?_; intro gg cp w4 hown4 hgrow4 hat4 hlt4; have hcf4 := Hw1.out.mids HM.out hgrow4; obtain ⟨c4, f4⟩ := hcf4) | fail)
      all_goals
        have hP := Hw1.out.pushes (ys := [p0, p1, p2, p3]) rfl HM.out hown4 hgrow4 hat4
        have HP := Lib.hid hP
        clear hP hown4 hgrow4 hat4 hlt4
        go_wp2_with fail
        go_roundw
        case rel => exact ⟨i + 1, _, by go_num, by omega, by
            rw [hpt.out, ← List.append_assoc, ← HBS.out]
            exact HP.out.1, Ht1.out.trans HP.out.2⟩
        case measure => simp [intOf]; omega
    · obtain rfl : i = ps.length := by omega
      have e1 : decide ((ps.length : Int) < (ps.length : Int)) = false := by simp
      go_wp2_with fail
      go_end0
      exact ⟨_, Ht1.out, rfl, by
        have := Hw1.out
        rw [HBS.out, List.take_length] at this
        rw [HBS.out, List.take_length]
        exact this⟩

end Go.Proofs.Ytnamnmipgpcjjaa
