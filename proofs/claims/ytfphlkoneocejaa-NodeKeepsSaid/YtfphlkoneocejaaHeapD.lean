/- The heap of places: Push and Pop, whole. -/
import Derived.Test.YtfphlkoneocejaaHeapC
namespace Go.Proofs.Ytfphlkoneocejaa
open Go.RowKit Go.Gou

def HPushPost (w : World) (N base : Nat) (v : Value) (x : Int) (xs : List Int) (e : Ending) (w' : World) : Prop :=
  ∃ v' ys, e = .returned (.tuple #[]) ∧ ys.Perm (x :: xs) ∧ PlAt w' N base v' ys ∧ Mod (Own2 N v) w w' ∧ Lies w v v'

set_option maxHeartbeats 1000000 in
theorem heap_push (w : World) (N base : Nat) (v : Value) (xs : List Int) (x : Int) (h : PlAt w N base v xs) (hn : xs.length ≤ 90000) (hbase : base ≤ w.heap.size) :
    Calls Try.prog 25 #[.iface 50 (.pointer (some ⟨N, 0, none⟩)), .iface 3 (.int .i64 x)] w (HPushPost w N base v x xs) := by
  have hnp := nil_push
  have hmp := meth_push
  have hnl := nil_len
  go_enter Try.func25, Try.ntmps25
  go_wp2_with fail
  refine (push_any w N base v xs x h (by omega) hbase).mono ?_
  rintro e w1 ⟨v1, rfl, hpl, hmod, hlies⟩
  have hc1 := hpl.cell.cell
  have hml := fun (F : Nat) => meth_len hc1 F
  obtain ⟨g, cap, rfl, _, _⟩ := hpl.own.form (by simp)
  have hln : (xs ++ [x]).length = xs.length + 1 := by simp
  have hmax : (xs ++ [x]).length ≤ maxLen := by unfold maxLen; simp; omega
  rw [hln] at hml hc1
  have Hpl := Lib.hid hpl
  clear hpl
  clear hln
  go_wp2_with fail
  refine (len_any (some ⟨g, 0, none⟩) (xs.length + 1) cap w1 (by simpa using hmax)).mono ?_
  rintro e w2 ⟨rfl, rfl⟩
  go_wp2_with fail
  have hu := up_any w1 N base _ (xs ++ [x]) xs.length Hpl.out (by simp) (by simp; omega)
  refine hu.mono ?_
  rintro e w2 ⟨rfl, ys, hp, hpl2, hm2⟩
  have hpp : ys.Perm (x :: xs) := hp.trans (List.perm_append_singleton _ _)
  have hfin : HPushPost w N base v x xs (.returned (.tuple #[])) w2 := by
    refine ⟨_, ys, rfl, hpp, hpl2, hmod.trans hm2 ?_, hlies⟩
    intro k hk hown
    rcases hlies with hl | ⟨g', hl, hge⟩
    · exact .inr (hl ▸ hown)
    · rw [hl] at hown
      obtain rfl := Option.some.inj hown
      omega
  have Hfin := Lib.hid hfin
  clear hfin
  go_wp2_with fail
  go_end0
  exact Hfin.out

def PopPost (w : World) (N base : Nat) (v : Value) (x : Int) (ys : List Int) (e : Ending) (w' : World) : Prop :=
  ∃ v', e = .returned (.iface 3 (.int .i64 x)) ∧ PlAt w' N base v' ys ∧ Mod (fun k => k = N) w w' ∧ v'.ownBlock = v.ownBlock

set_option maxHeartbeats 1000000 in
theorem pop_any (w : World) (N base : Nat) (v : Value) (ys : List Int) (x : Int) (h : PlAt w N base v (ys ++ [x])) (hn : ys.length ≤ 90000) :
    Calls Try.prog 50 #[.pointer (some ⟨N, 0, none⟩)] w (PopPost w N base v x ys) := by
  obtain ⟨g, cap, rfl, hbg, hgw⟩ := h.own.form (by simp)
  have hc := h.cell.cell
  have hf := h.cell.frozen
  have hlen : (ys ++ [x]).length = ys.length + 1 := by simp
  have hcap : ys.length ≤ cap := by have := ownsRow_cap h.own; omega
  have hcx := h.own.cellAt ys.length (by simp)
  have hex : (iv (ys ++ [x]))[ys.length]? = some (.int .i64 x) := by simp [iv]
  rw [hex] at hcx
  clear hex
  have Hh := Lib.hid h
  clear h
  have Hlen := Lib.hid hlen
  rw [hlen] at hc
  clear hlen
  go_enter Try.func50, Try.ntmps50
  go_wp2_with fail
  go_ret
  rw [Hlen.out]
  have hpl := Hh.out
  rw [Hlen.out] at hpl
  refine ⟨_, rfl, ⟨hpl.cell.set _, ?_, ?_⟩, Mod.setCell w ⟨N, 0, none⟩ _, rfl⟩
  · have hg : g ≠ N := fun e => hpl.apart (by rw [e]; rfl)
    have hown := ownsRow_pop (n := ys.length) (size := 1) (xs := iv ys) (last := [.int .i64 x]) (by simp [iv]) (by simpa [iv] using hpl.own)
    exact ownsRow_mod hown (Mod.setCell w ⟨N, 0, none⟩ _) (fun k hk => by
      simp [Value.ownBlock] at hk
      subst hk
      exact hg)
  · exact hpl.apart

def HPopPost (w : World) (N base : Nat) (v : Value) (xs : List Int) (e : Ending) (w' : World) : Prop :=
  ∃ v' x ys, e = .returned (.iface 3 (.int .i64 x)) ∧ xs.Perm (x :: ys) ∧ PlAt w' N base v' ys ∧ Mod (Own2 N v) w w' ∧ v'.ownBlock = v.ownBlock

set_option maxHeartbeats 1000000 in
theorem heap_pop (w : World) (N base : Nat) (v : Value) (xs : List Int) (h : PlAt w N base v xs) (hn : xs.length ≤ 90000) (h0 : 0 < xs.length) :
    Calls Try.prog 28 #[.iface 50 (.pointer (some ⟨N, 0, none⟩))] w (HPopPost w N base v xs) := by
  obtain ⟨g, cap, rfl, hbg, hgw⟩ := h.own.form h0
  have hc := h.cell.cell
  have hnl := nil_len
  have hns := nil_swap
  have hnp := nil_pop
  have hmp := meth_pop
  have hml := fun (F : Nat) => meth_len (w := w) (N := N) (v := .slice (some ⟨g, 0, none⟩) xs.length cap) hc F
  have hms := fun (F : Nat) => meth_swap (w := w) (N := N) (v := .slice (some ⟨g, 0, none⟩) xs.length cap) hc F
  have c0 := h.own.cellAt 0 (by omega)
  have c1 := h.own.cellAt (xs.length - 1) (by omega)
  have e0 : (iv xs)[0]? = some (.int .i64 (xs.getD 0 0)) := by simp [iv, List.getD, h0]
  have e1 : (iv xs)[xs.length - 1]? = some (.int .i64 (xs.getD (xs.length - 1) 0)) := by simp [iv, List.getD, show xs.length - 1 < xs.length by omega]
  rw [e0] at c0
  rw [e1] at c1
  clear e0 e1
  obtain ⟨m, hm, hmn⟩ : ∃ m : Nat, ((xs.length : Int) - 1) = m ∧ m = xs.length - 1 := ⟨xs.length - 1, by omega, rfl⟩
  rw [← hmn] at c1
  have Hmn := Lib.hid hmn
  clear hmn
  have hmax : xs.length ≤ maxLen := by unfold maxLen; omega
  have hfr : ∀ k, w.frozen? ⟨g, k, none⟩ = false := fun k => h.own.frozenAt k
  have Hh := Lib.hid h
  clear h
  have hmlt : m < xs.length := by have := Hmn.out; omega
  go_enter Try.func28, Try.ntmps28
  go_wp2_with fail
  refine (len_any (some ⟨g, 0, none⟩) xs.length cap w hmax).mono ?_
  rintro e w1 ⟨rfl, rfl⟩
  go_wp2_with fail
  refine (swap_any g 0 xs.length cap 0 m (xs.getD 0 0) (xs.getD m 0) w hmax h0 hmlt (by simpa using c0) (by simpa using c1) hfr).mono ?_
  rintro e w2 ⟨rfl, ha, ht⟩
  simp only [Nat.zero_add] at ha
  obtain ⟨ys, hp, hpl, hmod⟩ := pl_swap (w := w) (w' := w2) Hh.out 0 m h0 hmlt ha ht
  clear ha ht
  have hlen := hp.length_eq
  go_wp2_with fail
  refine (down_any w2 N base _ ys m hpl (by omega) (by omega) (by omega)).mono ?_
  rintro e w3 ⟨b, rfl, zs, hp3, hpl3, hmod3⟩
  have hlz : zs.length = xs.length := hp3.length_eq.trans hlen
  obtain ⟨us, x, rfl⟩ : ∃ us x, zs = us ++ [x] := by
    rcases List.eq_nil_or_concat zs with rfl | ⟨l, b, rfl⟩
    · simp at hlz; omega
    · exact ⟨l, b, by simp⟩
  go_wp2_with fail
  refine (pop_any w3 N base _ us x hpl3 (by simp at hlz; omega)).mono ?_
  rintro e w4 ⟨v4, rfl, hpl4, hmod4, hob⟩
  have hfin : HPopPost w N base (.slice (some ⟨g, 0, none⟩) xs.length cap) xs (.returned (.iface 3 (.int .i64 x))) w4 := by
    refine ⟨v4, x, us, rfl, ?_, hpl4, ?_, hob⟩
    · exact (hp.symm.trans hp3.symm).trans (List.perm_append_singleton _ _)
    · refine ((hmod.imp (fun k _ hk => .inr hk)).trans hmod3 (fun k _ hk => .inr hk)).trans hmod4 (fun k _ hk => .inl hk)
  have Hfin := Lib.hid hfin
  clear hfin
  go_wp2_with fail
  go_ret
  exact Hfin.out

end Go.Proofs.Ytfphlkoneocejaa
