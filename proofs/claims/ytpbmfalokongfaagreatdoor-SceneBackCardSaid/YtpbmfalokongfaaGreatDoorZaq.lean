/- Texts of the scenes' proofs, laid together: SeV, SeW, SeX, Bck23. -/
import Derived.Test.YtpbmfalokongfaaGreatDoorZan
import Derived.Test.YtpbmfalokongfaaGreatDoorZap
import Derived.Test.YtpbmfalokongfaaGreatDoorZaj
import Derived.Test.YtpbmfalokongfaaGreatDoorZae
import Derived.Test.YtpbmfalokongfaaGreatDoorZab
import Derived.Deep.Cut
import Derived.Deep.CutBlock
import Derived.Deep.CutRange
set_option maxHeartbeats 64000000
set_option linter.unusedSimpArgs false
set_option linter.unusedVariables false
set_option linter.unusedSectionVars false
set_option linter.constructorNameAsVariable false
namespace Go.Gou
open Go.RowKit
theorem newB2 {P : Program} {k : Code} {Q : Exit → Act → World → Prop} {a : Act} {w : World} {T U : TypeId} {z y c d : Array Value} (hs : z.size = c.size) (ht : y.size = d.size) (h : ∀ W', Blk W' w.heap.size T c → Blk W' (w.heap.size + 1) U d → Gou.Mod (fun _ => False) w W' → Code.wp P k Q a W') :
 Code.wp P k Q a ((((w.alloc (.cells z T)).alloc (.cells y U)).setCells w.heap.size 0 c.toList).setCells (w.heap.size + 1) 0 d.toList) := by
 obtain ⟨b0, b1, bm⟩ := uaw w T U z y
 have h1 := Blk.setMod ((w.alloc (.cells z T)).alloc (.cells y U)) w.heap.size 0 c.toList
 have h2 := Blk.setMod (((w.alloc (.cells z T)).alloc (.cells y U)).setCells w.heap.size 0 c.toList) (w.heap.size + 1) 0 d.toList
 exact h _ ((b0.setAll c hs).mod h2 (by omega)) ((b1.mod h1 (by omega)).setAll d ht) ((bm.trans h1 (fun k hk e => by omega)).trans h2 (fun k hk e => by omega))
theorem OpsR.one {w : World} {N : Nat} {T : TypeId} {q : Opr} {vp vf vb : Value} (hb : Blk w N T (oprC q vp vf vb)) (hl : LookR (fun _ => True) w q.look vp vf vb) : OpsR w (.slice (some ⟨N, 0, none⟩) 1 1) [q] :=
 ⟨some ⟨N, 0, none⟩, 1, rfl, Nat.le_refl _, .inr ⟨N, 0, rfl, hb.lt, fun i hi => by
  obtain rfl : i = 0 := by simpa using hi
  exact ⟨vp, vf, vb, fun j u hu => by simpa using hb.cell j hu, hl⟩⟩⟩
end Go.Gou
namespace Go.Proofs.YtpbmfalokongfaaGreatDoor
open Go.RowKit Go.Gou
set_option maxRecDepth 100000
end Go.Proofs.YtpbmfalokongfaaGreatDoor
namespace Go.Gou
namespace Ly
theorem put_put : ∀ {π : List Nat} {T s a b : Ly}, T.get? π = some s → (T.put π a).put π b = T.put π b
 | [], T, s, a, b, _ => by simp [put]
 | i :: π, T, s, a, b, h => by
  rw [get?] at h
  cases hk : T.kids[i]? with
  | none => rw [hk] at h; cases h
  | some k =>
   rw [hk] at h
   have hi := (lgS.1 hk).1
   have e1 : T.put (i :: π) a = .mk T.id T.look (T.kids.set i (k.put π a)) := by rw [put, hk]
   have e2 : T.put (i :: π) b = .mk T.id T.look (T.kids.set i (k.put π b)) := by rw [put, hk]
   rw [e1, e2, put]
   simp only [kids_mk, List.getElem?_set_self hi, id_mk, look_mk, List.set_set, put_put h]
theorem put_self : ∀ {π : List Nat} {T s : Ly}, T.get? π = some s → T.put π s = T
 | [], T, s, h => by rw [get?] at h; cases h; rfl
 | i :: π, T, s, h => by
  rw [get?] at h
  cases hk : T.kids[i]? with
  | none => rw [hk] at h; cases h
  | some k =>
   rw [hk] at h
   obtain ⟨hi, hki⟩ := lgS.1 hk
   rw [put, hk]
   simp only
   rw [put_self h]
   have : T.kids.set i k = T.kids := by rw [← hki]; exact List.set_getElem_self hi
   rw [this, eta]
theorem insAt_get {n : Nat} {k : Ly} {L : List Ly} (h : n ≤ L.length) : (insAt n k L)[n]? = some k := by
 rw [insAt_nat rfl k L h, lgR (by rw [List.length_take]; omega)]
 simp [Nat.min_eq_left h]
theorem insAt_erase {n : Nat} {k : Ly} {L : List Ly} (h : n ≤ L.length) : (insAt n k L).eraseIdx n = L := by
 rw [insAt_nat rfl k L h, List.eraseIdx_append_of_length_le (by rw [List.length_take]; omega)]
 simp [Nat.min_eq_left h]
theorem insAt_len {n : Nat} {k : Ly} {L : List Ly} (h : n ≤ L.length) : (insAt n k L).length = L.length + 1 := by
 rw [insAt_nat rfl k L h]
 simp
 omega
theorem insAt_back {i : Nat} {k : Ly} {L : List Ly} (h : L[i]? = some k) : insAt i k (L.eraseIdx i) = L := by
 obtain ⟨hi, rfl⟩ := lgS.1 h
 have hl : (L.eraseIdx i).length = L.length - 1 := by rw [List.length_eraseIdx, if_pos hi]
 rw [insAt_nat rfl _ _ (by omega)]
 rw [List.eraseIdx_eq_take_drop_succ, List.take_append_of_le_length (by simp; omega), List.take_take, Nat.min_self, List.drop_append_of_le_length (by simp; omega)]
 have : (L.take i).drop i = [] := by simp
 rw [this, List.nil_append]
 rw [List.getElem_cons_drop, List.take_append_drop]
end Ly
def reoO (x : Idt) (n : Int) : Opr := ⟨4, x, (0, 0), n, Lk.zero⟩
def insO (x : Idt) (n : Int) : Opr := ⟨1, (0, 0), x, n, Lk.zero⟩
def remO (x : Idt) : Opr := ⟨2, x, (0, 0), 0, Lk.zero⟩
theorem par_at {n : Nat} {s : Sn} (hI : Inv n s) {x : Idt} {p : Ly} (hp : s.root.parent x = some p) : s.arena.has x = true ∧ x ≠ (0, 0) := by
 rw [Ly.parent_eq] at hp
 cases hq : s.root.parPath x with
 | none => rw [hq] at hp; cases hp
 | some r =>
  have hm : x ∈ Ly.idsL s.root.kids := Classical.byContradiction fun h => by rw [(Ly.parPath_none _).2 h] at hq; cases hq
  have hnd := hI.nd
  have hr := hI.root
  cases hs : s.root with
  | mk i lk ks =>
   rw [hs] at hm hnd hr
   rw [Ly.ids_mk, List.nodup_cons] at hnd
   rw [Ly.kids_mk] at hm
   rw [Ly.id_mk] at hr
   subst hr
   refine ⟨(hI.iff x).1 (by rw [hs, Ly.ids_mk]; exact List.mem_cons_of_mem _ hm), fun e => hnd.1 (e ▸ hm)⟩
theorem stale_reo {a : Ar} {x : Idt} {n : Int} (h : a.has x = true) : ubo a (reoO x n) = false := by
 unfold ubo reoO; simp [h]
theorem stale_insO {a : Ar} {x : Idt} {n : Int} (h : a.has x = true) : ubo a (insO x n) = false := by
 unfold ubo insO; simp [h]
theorem stale_remO {a : Ar} {x : Idt} (h : a.has x = true) : ubo a (remO x) = false := by
 unfold ubo remO; simp [h]
theorem outAt_reo {n : Nat} {s : Sn} (hI : Inv n s) {x : Idt} {p : Ly} (hp : s.root.parent x = some p) (m : Int) : ∃ π i k T2, OutAt s (reoO x m) π i p k T2 := by
 obtain ⟨h1, h2⟩ := par_at hI hp
 obtain ⟨π, i, q, k, T2, hO⟩ := outAt hI (reoO x m) (by show (4 : Int) ≠ 1; decide) (stale_reo h1) h2
 have : s.root.parent x = some q := by rw [Ly.parent_eq, show s.root.parPath x = some (π, i) from hO.par]; exact hO.get
 rw [hp] at this
 cases this
 exact ⟨π, i, k, T2, hO⟩
theorem outAt_at {n : Nat} {s : Sn} (hI : Inv n s) {o : Opr} {π π' : List Nat} {i j : Nat} {q p k k' T2 : Ly} (hO : OutAt s o π' j q k' T2) (hg : s.root.get? π = some p) (hk : p.kids[i]? = some k) (hid : k.id = o.id) : π' = π ∧ j = i ∧ q = p ∧ k' = k ∧ T2 = s.root.put π (.mk p.id p.look (p.kids.eraseIdx i)) := by
 have h1 := Ly.get_path hI.nd (Ly.get_snoc hg hk) hid
 rw [hO.path] at h1
 simp only [Option.some.injEq] at h1
 obtain ⟨e1, e2⟩ := List.append_inj' h1 rfl
 subst e1
 simp only [List.cons.injEq, and_true] at e2
 subst e2
 have h2 := hO.get
 rw [hg] at h2
 cases h2
 have h3 := hO.kid
 rw [hk] at h3
 cases h3
 exact ⟨rfl, rfl, rfl, rfl, hO.out.symm⟩
theorem back_reo {n : Nat} {s : Sn} (hI : Inv n s) (check : Gr → Int) {x : Idt} {p : Ly} (hp : s.root.parent x = some p) (m : Int) {i : Nat} {k : Ly} (hk : p.kids[i]? = some k) (hid : k.id = x) :
 ((doP check s (reoO x m)).2.2 = 0 ↔ 0 ≤ m ∧ m < p.kids.length) ∧ doP check (doP check s (reoO x m)).1 (reoO x i) = (s, (0, 0), 0) := by
 obtain ⟨h1, h2⟩ := par_at hI hp
 obtain ⟨π, j, k0, T2, hO⟩ := outAt_reo hI hp m
 have hO2 : OutAt s (reoO x i) π j p k0 T2 := ⟨hO.par, hO.get, hO.kid, hO.id, hO.path, hO.geti, hO.out, hO.rest, hO.perm, hO.nd, hO.deep, hO.kdeep, hO.found⟩
 obtain ⟨-, rfl, -, rfl, -⟩ := outAt_at hI hO hO.get hk hid
 have hi := (lgS.1 hk).1
 have d1 := ue4 hI check (reoO x m) hO rfl (stale_reo h1) h2
 have hlen : (p.kids.eraseIdx j).length = p.kids.length - 1 := by rw [List.length_eraseIdx, if_pos hi]
 have hback : T2.put π (.mk p.id p.look (Ly.insAt (j : Nat) k0 (p.kids.eraseIdx j))) = s.root := by
  rw [Ly.insAt_back hk, Ly.eta, ← hO.out, Ly.put_put hO.get, Ly.put_self hO.get]
 by_cases hb : m < 0 ∨ (p.kids.length : Int) ≤ m
 ·rw [show (reoO x m).at_ = m from rfl, if_pos hb] at d1
  rw [d1]
  refine ⟨⟨fun h => absurd h (by simp), fun h => by omega⟩, ?_⟩
  have d2 := ue4 hI check (reoO x j) hO2 rfl (stale_reo h1) h2
  rw [show (reoO x j).at_ = (j : Int) from rfl, if_neg (by omega), hback] at d2
  exact d2
 ·rw [show (reoO x m).at_ = m from rfl, if_neg hb] at d1
  obtain ⟨a, rfl⟩ : ∃ a : Nat, m = a := ⟨m.toNat, by omega⟩
  have ha : a ≤ (p.kids.eraseIdx j).length := by omega
  have hI2 := hI.do_ check (reoO x a)
  rw [d1] at hI2 ⊢
  refine ⟨⟨fun _ => by omega, fun _ => rfl⟩, ?_⟩
  have hg2 : T2.get? π = some (.mk p.id p.look (p.kids.eraseIdx j)) := by rw [← hO.out]; exact Ly.get_put hO.get
  have hgt : (T2.put π (.mk p.id p.look (Ly.insAt a k0 (p.kids.eraseIdx j)))).get? π = some (.mk p.id p.look (Ly.insAt a k0 (p.kids.eraseIdx j))) := Ly.get_put hg2
  obtain ⟨π', j', q', k', T', hO'⟩ := outAt hI2 (reoO x j) (by show (4 : Int) ≠ 1; decide) (stale_reo h1) h2
  obtain ⟨rfl, rfl, rfl, rfl, hT⟩ := outAt_at hI2 hO' hgt (by rw [Ly.kids_mk]; exact Ly.insAt_get ha) hid
  have d2 := ue4 hI2 check (reoO x j) hO' rfl (stale_reo h1) h2
  rw [d2, show (reoO x j).at_ = (j : Int) from rfl]
  simp only [Ly.kids_mk, Ly.id_mk, Ly.look_mk] at hT ⊢
  rw [Ly.insAt_erase ha, Ly.put_put hg2, Ly.put_self hg2] at hT
  refine (if_neg (fun h => ?_)).trans ?_
  ·have hl := Ly.insAt_len (k := k') ha
   omega
  ·rw [Ly.insAt_erase ha, hT, hback]
theorem back_ins {n : Nat} {s : Sn} (hI : Inv n s) (hn : n ≤ 100) (check : Gr → Int) {x : Idt} {p : Ly} (hp : s.root.parent x = some p) {i : Nat} (hi : i < p.kids.length) :
 (doP check s (insO p.id i)).2.2 = 0 ∧ (doP check (doP check s (insO p.id i)).1 (remO (doP check s (insO p.id i)).2.1)).2.2 = 0 ∧ (doP check (doP check s (insO p.id i)).1 (remO (doP check s (insO p.id i)).2.1)).1.root = s.root := by
 obtain ⟨π, j, k0, T2, hO⟩ := outAt_reo hI hp 0
 have hpi : s.arena.has p.id = true := (hI.iff _).1 (Classical.byContradiction fun h => by have g := Ly.get_path (x := p.id) hI.nd hO.get rfl; rw [(Ly.pathOf_none _).2 h] at g; cases g)
 obtain ⟨π0, x0, p1, p2, d1⟩ := ufr hI check (insO p.id i) rfl (stale_insO hpi)
 have hpp := Ly.get_path (x := p.id) hI.nd hO.get rfl
 replace p1 : s.root.pathOf p.id = some π0 := p1
 rw [p1] at hpp
 cases hpp
 rw [hO.get] at p2
 cases p2
 have hdeep := hO.kdeep
 rw [show (insO p.id i).at_ = (i : Int) from rfl, if_neg (by omega)] at d1
 have htk : s.arena.take ≠ none := by
  unfold Ar.take
  cases s.arena.live.findIdx? (fun q => !q) with
  | some _ => simp
  | none =>
   have := hI.small
   have := hI.ok.len
   simp only
   rw [if_neg (by omega)]
   simp
 cases ht : s.arena.take with
 | none => exact absurd ht htk
 | some ay =>
  obtain ⟨a, y⟩ := ay
  rw [ht] at d1
  simp only at d1
  obtain ⟨g1, g2, g3, g4, g5⟩ := Ar.take_ok hI.ok ht
  have hy0 : y ≠ (0, 0) := fun e => by rw [e, Ar.has_zero hI.ok] at g4; cases g4
  have hI2 := hI.do_ check (insO p.id i)
  rw [d1] at hI2 ⊢
  refine ⟨rfl, ?_⟩
  have hya : a.has y = true := (g5 y).2 (.inr rfl)
  have hgt : (s.root.put π (.mk p.id p.look (Ly.insAt i (.mk y Lk.plain []) p.kids))).get? π = some (.mk p.id p.look (Ly.insAt i (.mk y Lk.plain []) p.kids)) := Ly.get_put hO.get
  obtain ⟨π', j', q', k', T', hO'⟩ := outAt hI2 (remO y) (by show (2 : Int) ≠ 1; decide) (stale_remO hya) hy0
  obtain ⟨rfl, rfl, rfl, rfl, hT⟩ := outAt_at hI2 hO' hgt (by rw [Ly.kids_mk]; exact Ly.insAt_get (by omega)) rfl
  have d2 := ucl check (remO y) hO' rfl (stale_remO hya) hy0
  show (doP check _ (remO y)).2.2 = 0 ∧ (doP check _ (remO y)).1.root = s.root
  rw [d2]
  refine ⟨rfl, ?_⟩
  simp only [Ly.kids_mk, Ly.id_mk, Ly.look_mk] at hT ⊢
  rw [hT, Ly.insAt_erase (by omega), Ly.put_put hO.get, Ly.eta, Ly.put_self hO.get]
end Go.Gou
namespace Go.Proofs.YtpbmfalokongfaaGreatDoor
open Go.RowKit Go.Gou
set_option maxRecDepth 100000
theorem lkz_fit : LkFit Lk.zero := ⟨by simp [Lk.zero, Ct.zero], by simp [Lk.zero, Gr.zero], by simp [Lk.zero, Gr.zero]⟩
theorem grz_wf : GrWf Gr.zero := by constructor <;> first | (simp [Gr.zero]; done) | decide | rfl
theorem lkz_r (G : Nat → Prop) (w : World) : LookR G w Lk.zero nlS nlS nlS := ⟨PixR.nil _ _, NodesR.nil _ _, NodesR.nil _ _⟩
theorem doZ (w : World) (v : Value) (s : Sn) (o : Opr) (ho : o.look = Lk.zero) (h : SnR (fun _ => True) w v s) (hf : ugk s) (n : Nat) (hI : Inv n s) (hn : n ≤ 100) :
 Calls Tryz.prog 12 #[v, .agg (oprC o nlS nlS nlS)] w fun e w' => ∃ c, e = .returned (.tuple #[.agg c, .agg #[.int .i64 (doP checkS s o).2.1.1, .int .i64 (doP checkS s o).2.1.2], .int .i64 (doP checkS s o).2.2]) ∧ SnR (fun k => w.heap.size ≤ k) w' (.agg c) (doP checkS s o).1 ∧ c.size = 33 ∧ c.all (·.oneCell') = true ∧ Gou.Mod (fun _ => False) w w' := by
 refine (ue3 w v s o _ _ _ h hf (by rw [ho]; exact lkz_r _ _) n hI hn (by rw [ho]; exact lkz_fit) (by rw [ho]; exact grz_wf) (by rw [ho]; exact grz_wf)).mono ?_
 rintro e w' ⟨v', rfl, hs, hm⟩
 have hr := hs.reads
 obtain ⟨vg, vl, vp, vf, vb, vk, F, rfl, ha, hl⟩ := hs
 exact ⟨_, rfl, hr, rfl, ueg ha hl, hm⟩
theorem doP_fit {n : Nat} {s : Sn} (hI : Inv n s) (hn : n < 100) (hl : uij s) {o : Opr} (ho : o.look = Lk.zero) : ugk (doP checkS s o).1 ∧ uij (doP checkS s o).1 :=
 have h := doP_lks hI checkS o hl (by rw [ho]; exact lkz_fit)
 ⟨(hI.do_ checkS o).fit hn h, h⟩
theorem sceneBack_law (w : World) (v : Value) (xs : List Opr) (h : OpsR w v xs) (hwf : (∀ a ∈ xs, LkWf a.look) ∧ xs.length ≤ maxLen) (u : Value) (x : Idt) (hu : u = .agg #[.int .i64 x.1, .int .i64 x.2]) (m : Int) (hm : (Lit.int .i64 m).wf = true) (ht : Tabs w) :
 Calls Tryz.prog 5 #[v, u, .int .i64 m] w fun e w' => e = .returned (.bool true) ∧ Gou.Mod (fun _ => False) w w' := by
 subst hu
 obtain ⟨p, cap, rfl, _, _⟩ := id h
 have Hwf := hd' hwf.1
 have Hl := hd' hwf.2
 have Ht := hd' ht
 have HI := hd' (Blk.new w 30 #[Value.int .i64 x.1, Value.int .i64 x.2])
 have HM := hd' (Gou.Mod.alloc0 w (.cells #[Value.int .i64 x.1, Value.int .i64 x.2] 30))
 have Hh := hd' (h.up HM.o)
 clear h hwf ht hm
 go_enter Tryz.func5, Tryz.ntmps5
 go_upto_region 1 with fail
 show Code.wp _ _ _ _ (w.alloc (.cells #[Value.int .i64 x.1, Value.int .i64 x.2] 30))
 generalize w.alloc (.cells #[Value.int .i64 x.1, Value.int .i64 x.2] 30) = W1 at *
 go_wp2_with fail
 refine (ue9 _).mono ?_
 rintro e w1 ⟨rfl, hm⟩
 replace HM := hd' (HM.o.trans' hm)
 replace Hh := hd' (Hh.o.up hm)
 replace HI := hd' (HI.o.up hm)
 clear hm
 go_wp2_with fail
 refine (ug9 _ _ xs Hh.o Hwf.o Hl.o).mono ?_
 rintro e w2 ⟨rfl, hm⟩
 replace HM := hd' (HM.o.trans' hm)
 replace Hh := hd' (Hh.o.up hm)
 replace HI := hd' (HI.o.up hm)
 clear hm
 cases hfew : fewO xs
 ·clear hfew
  go_wp2_with fail
  refine (ue9 _).mono ?_
  rintro e w3 ⟨rfl, hm⟩
  replace HM := hd' (HM.o.trans' hm)
  clear hm
  go_wp2_with fail
  go_ret
  exact ⟨rfl, HM.o⟩
 have Hfew := hd' hfew
 clear hfew
 go_upto_region 3 with fail
 go_wp2_with fail
 refine (uhy _ _ xs Hh.o Hwf.o Hfew.o (Ht.o.below (HM.o.below (Nat.le_refl _) (fun _ _ h => h)))).mono ?_
 rintro e w3 ⟨v3, rfl, hsn, hm⟩
 have Hpl := hd' (uf3 checkS (fun o ho => ((ue2 Hfew.o).2 o ho).1) xs.length (Nat.le_refl _))
 rw [List.take_length] at Hpl
 have Hn : Hid (xs.length ≤ 100) := hd' (by have := (ue2 Hfew.o).1; omega)
 obtain ⟨S, hS⟩ : ∃ S, S = udz checkS xs := ⟨_, rfl⟩
 have HSe := hd' hS
 rw [← hS] at hsn Hpl
 have HI0 := hd' Hpl.o.2
 have HF := hd' (Hpl.o.2.fit Hn.o Hpl.o.1)
 have HLA := hd' Hpl.o.1
 clear hS Hpl
 replace HM := hd' (HM.o.trans' hm)
 replace HI := hd' (HI.o.up hm)
 clear hm
 obtain ⟨vg, vl, vp, vf, vb, vk, rfl, ha, hly⟩ := hsn
 obtain ⟨⟨pg, cg, rfl⟩, ⟨pl, cl, rfl⟩⟩ := ha.reads.forms
 have Ha := hd' ha
 have Hly := hd' hly
 clear ha hly
 go_upto_region 4 with (first | ((with_reducible refine sT 47 ?_); refine stA (scA (.slice pg S.arena.gens.length cg) (.slice pl S.arena.live.length cl) S.root.id S.root.look vp vf vb vk) ((Blk.new w3 47 scZ).there 0 33 (by simp [scA, lyA, uai])) uah (ubf rfl rfl (LyR.one Hly.o)) (h := ?_)) | fail)
 refine newB rfl (fun W4 hb hm => ?_)
 have HS := hd' hb
 replace HM := hd' (HM.o.trans' hm)
 replace HI := hd' (HI.o.up hm)
 replace Ha := hd' (Ha.o.mod hm (fun _ _ _ h => h))
 replace Hly := hd' (Hly.o.up hm)
 clear hb hm
 generalize w3.heap.size = B at *
 have Hn60 := hd' (ue2 Hfew.o).1
 clear Hh Hwf Hl Ht Hfew HSe
 have HSl := hd' (Blk.range (k := 2) (mid := (lyA S.root.id S.root.look vp vf vb vk).toList) (pre := [.slice pg S.arena.gens.length cg, .slice pl S.arena.live.length cl]) (post := []) HS.o (by rw [List.append_nil]; rfl) rfl)
 have x0 : W4.cell? ⟨w.heap.size, 0, none⟩ = some (.int .i64 x.1) := HI.o.cell 0 rfl
 have x1 : W4.cell? ⟨w.heap.size, 1, none⟩ = some (.int .i64 x.2) := HI.o.cell 1 rfl
 go_wp2_with (first | ((with_reducible refine lT 45 ?_); refine ldA HSl.o Tryz.underlying45 uaa (h := ?_)) | fail)
 refine (ufz x S.root (fun k => k < W4.heap.size) _ _ _ _ _ (fun _ h => h) (Hly.o.imp (fun _ h _ => h)) HF.o.root).mono ?_
 rintro e w5 ⟨hm, hno, hyes⟩
 clear x0 x1 HSl
 replace HM := hd' (HM.o.trans' hm)
 replace HI := hd' (HI.o.up hm)
 replace HS := hd' (HS.o.up hm)
 replace Ha := hd' (Ha.o.mod hm (fun _ _ _ h => h))
 replace Hly := hd' (Hly.o.up hm)
 clear hm
 cases hp : S.root.parent x with
 | none =>
  obtain rfl := hno hp
  clear hno hyes hp
  go_upto_region 5 with (first | ((with_reducible refine sT 45 ?_); refine stA lyZ ((Blk.new w5 45 lyZ).there 0 31 (by simp [scA, lyA, uai])) uaa (by simp [lyZ, nlS, lyA, Lk.zero, Ct.zero, Rc.zero, Pxl.zero, Gr.zero, Value.oneCell']) (h := ?_)) | fail)
  refine newB rfl (fun W6 hb hm => ?_)
  replace HM := hd' (HM.o.trans' hm)
  clear hb hm
  go_wp2_with fail
  go_ret
  exact ⟨rfl, HM.o⟩
 | some P =>
  obtain ⟨yp, yf, yb, yk, rfl, hyr⟩ := hyes P hp
  have Hy := hd' hyr
  have Hp := hd' hp
  obtain ⟨-, css, hrow, -, -⟩ := hyr.parts
  obtain ⟨pk, ck, rfl⟩ := RowG.slice hrow
  clear hno hyes hp hyr hrow css
  go_upto_region 5 with (first | ((with_reducible refine sT 45 ?_); refine stA (lyA P.id P.look yp yf yb (.slice pk P.kids.length ck)) ((Blk.new w5 45 lyZ).there 0 31 (by simp [scA, lyA, uai])) uaa (uat (LyR.one Hy.o)) (h := ?_)) | fail)
  refine newB rfl (fun W6 hb hm => ?_)
  have HP := hd' hb
  replace HM := hd' (HM.o.trans' hm)
  replace HI := hd' (HI.o.up hm)
  replace HS := hd' (HS.o.up hm)
  replace Ha := hd' (Ha.o.mod hm (fun _ _ _ h => h))
  replace Hly := hd' (Hly.o.up hm)
  replace Hy := hd' (Hy.o.up hm)
  clear hb hm
  generalize w5.heap.size = Q at *
  obtain ⟨π, i, k, T2, hO⟩ := outAt_reo HI0.o Hp.o 0
  have Hk := hd' hO.kid
  have Hkid : Hid (k.id = x) := hd' hO.id
  have Huq : Hid (∀ (j : Nat) (k' : Ly), P.kids[j]? = some k' → k'.id = x → j = i) := hd' (fun j k' h1 h2 => (outAt_at HI0.o hO hO.get h1 h2).2.1.symm)
  have Hil : Hid (i < P.kids.length) := hd' (lgS.1 hO.kid).1
  have Hlen : Hid (P.kids.length ≤ 1000000) := hd' (TFit.len (HF.o.root.get hO.get))
  clear hO
  go_wp2_with fail
  go_loopw [10, 11] (fun vw vi wr => ∃ j : Nat, vi = .int .i64 j ∧ j ≤ P.kids.length ∧ vw = .int .i64 (if i < j then (i : Int) else 0) ∧ Gou.Mod (fun _ => False) W6 wr) (fun _ vi _ => P.kids.length - (intOf vi).toNat)
  case atStart => exact ⟨0, rfl, Nat.zero_le _, by rw [if_neg (by omega)], Gou.Mod.refl _ _⟩
  case round =>
   obtain ⟨j, rfl, hj, rfl, hm⟩ := hrel
   replace HM := hd' (HM.o.trans' hm)
   replace HI := hd' (HI.o.up hm)
   replace HS := hd' (HS.o.up hm)
   replace Ha := hd' (Ha.o.mod hm (fun _ _ _ h => h))
   replace Hly := hd' (Hly.o.up hm)
   replace HP := hd' (HP.o.up hm)
   replace Hy := hd' (Hy.o.up hm)
   have HW6 : Hid (Gou.Mod (fun _ => False) W6 wr) := hd' hm
   clear hm
   have k30 : wr.cell? ⟨Q, 30, none⟩ = some (.slice pk P.kids.length ck) := HP.o.cell 30 rfl
   by_cases hil : j < P.kids.length
   ·have e0 : decide ((j : Int) < (P.kids.length : Int)) = true := dqt (by omega)
    obtain ⟨-, css, hrow, hcl, hkk⟩ := Hy.o.parts
    obtain ⟨b, o, kp, kf, kb, kk, rfl, hbl, _, hrg, hkr⟩ := LyR.kidR hrow hcl rfl hkk hil
    have k0 : wr.cell? ⟨b, o + j * 31, none⟩ = some (.int .i64 P.kids[j].id.1) := hrg 0 _ rfl
    have k1 : wr.cell? ⟨b, o + j * 31 + 1, none⟩ = some (.int .i64 P.kids[j].id.2) := hrg 1 _ rfl
    have x0 : wr.cell? ⟨w.heap.size, 0, none⟩ = some (.int .i64 x.1) := HI.o.cell 0 rfl
    have x1 : wr.cell? ⟨w.heap.size, 1, none⟩ = some (.int .i64 x.2) := HI.o.cell 1 rfl
    have hid := fun (w' : World) => udm P.kids[j].id x w'
    have Hj : Hid (∀ h : P.kids[j].id = x, j = i) := hd' (fun h => Huq.o j _ (lgE hil) h)
    have Hj2 : Hid (j = i → P.kids[j].id = x) := hd' (fun h => by subst h; have := Hk.o; rw [lgE hil] at this; rw [Option.some.inj this]; exact Hkid.o)
    have hwi : wrap64 ((j : Int) + 1) = ((j + 1 : Nat) : Int) := by have := Hlen.o; unfold wrap64; omega
    have Hjl := hd' hil
    clear hrow hcl hkk hrg hkr hbl
    generalize P.kids[j].id = kid at *
    clear hil
    go_upto_region 11 with fail
    by_cases hx : kid = x
    ·have ez : decide (kid = x) = true := dqt hx
     rw [ez] at hid
     obtain rfl := Hj.o hx
     clear hx ez
     go_quiet (fail)
     go_wp2_with fail
     go_roundw
     case rel => exact ⟨j + 1, by rw [← hwi], by have := Hjl.o; omega, by rw [if_pos (by omega)], (by assumption : Hid (Gou.Mod (fun _ => False) W6 wr)).out.trans' (Gou.Mod.drewN _ wr nq)⟩
     case measure => rw [hwi]; have := Hjl.o; simp only [intOf]; omega
    ·have ez : decide (kid = x) = false := dqf hx
     rw [ez] at hid
     have hji : j ≠ i := fun h => hx (Hj2.o h)
     clear hx ez
     go_quiet (fail)
     go_wp2_with fail
     go_roundw
     case rel => exact ⟨j + 1, by rw [← hwi], by have := Hjl.o; omega, by congr 1; by_cases h : i < j; (rw [if_pos h, if_pos (by omega)]); (rw [if_neg h, if_neg (by omega)]), (by assumption : Hid (Gou.Mod (fun _ => False) W6 wr)).out.trans' (Gou.Mod.drewN _ wr nq)⟩
     case measure => rw [hwi]; have := Hjl.o; simp only [intOf]; omega
   ·have e0 : decide ((j : Int) < (P.kids.length : Int)) = false := dqf (by omega)
    obtain rfl : j = P.kids.length := by omega
    rw [if_pos Hil.o]
    clear hil hj HW6
    go_upto_region 13 with fail
    clear e0 k30
    have x0 : wr.cell? ⟨w.heap.size, 0, none⟩ = some (.int .i64 x.1) := HI.o.cell 0 rfl
    have x1 : wr.cell? ⟨w.heap.size, 1, none⟩ = some (.int .i64 x.2) := HI.o.cell 1 rfl
    go_wp2_with (first | ((with_reducible refine lT 47 ?_); refine ldA HS.o.whole Tryz.underlying47 uah (h := ?_)) | ((with_reducible show wpList _ _ _ (⟨some 63, Op.build _ _, _, _, _, _⟩ :: _) _ _); refine halt ?_) | fail)
    show wpList _ _ _ _ _ _
    refine uav rfl (.agg (oprC (reoO x m) nlS nlS nlS)) (by kernel_rfl) ?_
    simp only [Act.put, uSa, uSb, uSc]
    go_wp2_with fail
    refine (doZ _ _ S (reoO x m) rfl ⟨_, _, _, _, _, _, rfl, Ha.o, Hly.o⟩ HF.o _ HI0.o (by have := Hn60.o; omega)).mono ?_
    rintro e U1 ⟨c1, rfl, hs, hc, ho, hm⟩
    replace HM := hd' (HM.o.trans' hm)
    replace HI := hd' (HI.o.up hm)
    replace HS := hd' (HS.o.up hm)
    replace Ha := hd' (Ha.o.mod hm (fun _ _ _ h => h))
    replace Hly := hd' (Hly.o.up hm)
    replace HP := hd' (HP.o.up hm)
    obtain ⟨r, hr⟩ : ∃ r, r = doP checkS S (reoO x m) := ⟨_, rfl⟩
    rw [← hr] at hs ⊢
    have HR1 := hd' hr
    obtain ⟨T1, y1, e1⟩ := r
    dsimp only at hs ⊢
    have HQ1 := hd' (SnR.imp (G' := fun _ => True) hs (fun _ _ _ => trivial))
    have HC1 := hd' hc
    have Ho1 := hd' ho
    clear hr hm hs hc ho
    go_upto_region 14 with (first | ((with_reducible refine sT 47 ?_); refine stA c1 ((uaw U1 47 30 scZ iiZ).1.there 0 33 (by simp [scA])) uah Ho1.o (hn := HC1.o) (h := ?_)) | ((with_reducible refine sT 30 ?_); refine stA #[Value.int .i64 y1.1, Value.int .i64 y1.2] (((uaw U1 47 30 scZ iiZ).2.1.mod (Blk.setMod _ U1.heap.size 0 c1.toList) (by omega)).there 0 2 (by simp)) uaf (by simp [Value.oneCell']) (h := ?_)) | fail)
    refine newB2 HC1.o.symm rfl (fun V1 h1 h2 hm => ?_)
    have HT1 := hd' h1
    have HX1 := hd' h2
    replace HM := hd' (HM.o.trans' hm)
    replace HI := hd' (HI.o.up hm)
    replace HS := hd' (HS.o.up hm)
    replace Ha := hd' (Ha.o.mod hm (fun _ _ _ h => h))
    replace Hly := hd' (Hly.o.up hm)
    replace HP := hd' (HP.o.up hm)
    replace HQ1 := hd' (HQ1.o.mod hm (fun _ _ _ h => h))
    clear h1 h2 hm Ho1
    generalize U1.heap.size = N1 at *
    generalize N1 + 1 = M1 at *
    have HI1 : Hid (Inv (xs.length + 1) T1) := hd' (by have h := HI0.o.do_ checkS (reoO x m); rw [← HR1.o] at h; exact h)
    have HF1 : Hid (ugk T1) := hd' (by have h := (doP_fit (o := reoO x m) HI0.o (by have := Hn60.o; omega) HLA.o rfl).1; rw [← HR1.o] at h; exact h)
    have x0 : V1.cell? ⟨w.heap.size, 0, none⟩ = some (.int .i64 x.1) := HI.o.cell 0 rfl
    have x1 : V1.cell? ⟨w.heap.size, 1, none⟩ = some (.int .i64 x.2) := HI.o.cell 1 rfl
    go_wp2_with (first | ((with_reducible refine lT 47 ?_); refine ldA HT1.o.whole Tryz.underlying47 uah (hn := by rw [Array.length_toList]; exact HC1.o) (h := ?_)) | ((with_reducible show wpList _ _ _ (⟨some 72, Op.build _ _, _, _, _, _⟩ :: _) _ _); refine halt ?_) | fail)
    show wpList _ _ _ _ _ _
    refine uav rfl (.agg (oprC (reoO x (i : Int)) nlS nlS nlS)) (by kernel_rfl) ?_
    simp only [Act.put, uSa, uSb, uSc]
    go_wp2_with fail
    refine (doZ _ _ T1 (reoO x (i : Int)) rfl HQ1.o HF1.o _ HI1.o (by have := Hn60.o; omega)).mono ?_
    rintro e U2 ⟨c2, rfl, hs, hc, ho, hm⟩
    replace HM := hd' (HM.o.trans' hm)
    replace HI := hd' (HI.o.up hm)
    replace HS := hd' (HS.o.up hm)
    replace Ha := hd' (Ha.o.mod hm (fun _ _ _ h => h))
    replace Hly := hd' (Hly.o.up hm)
    replace HP := hd' (HP.o.up hm)
    obtain ⟨r, hr⟩ : ∃ r, r = doP checkS T1 (reoO x (i : Int)) := ⟨_, rfl⟩
    rw [← hr] at hs ⊢
    have HR2 := hd' hr
    obtain ⟨T2, y2, e2⟩ := r
    dsimp only at hs ⊢
    have HQ2 := hd' (SnR.imp (G' := fun _ => True) hs (fun _ _ _ => trivial))
    have HC2 := hd' hc
    have Ho2 := hd' ho
    clear hr hm hs hc ho
    go_upto_region 15 with (first | ((with_reducible refine sT 47 ?_); refine stA c2 ((uaw U2 47 30 scZ iiZ).1.there 0 33 (by simp [scA])) uah Ho2.o (hn := HC2.o) (h := ?_)) | ((with_reducible refine sT 30 ?_); refine stA #[Value.int .i64 y2.1, Value.int .i64 y2.2] (((uaw U2 47 30 scZ iiZ).2.1.mod (Blk.setMod _ U2.heap.size 0 c2.toList) (by omega)).there 0 2 (by simp)) uaf (by simp [Value.oneCell']) (h := ?_)) | fail)
    refine newB2 HC2.o.symm rfl (fun V2 h1 h2 hm => ?_)
    have HT2 := hd' h1
    have HX2 := hd' h2
    replace HM := hd' (HM.o.trans' hm)
    replace HI := hd' (HI.o.up hm)
    replace HS := hd' (HS.o.up hm)
    replace Ha := hd' (Ha.o.mod hm (fun _ _ _ h => h))
    replace Hly := hd' (Hly.o.up hm)
    replace HP := hd' (HP.o.up hm)
    replace HQ2 := hd' (HQ2.o.mod hm (fun _ _ _ h => h))
    clear h1 h2 hm Ho2
    generalize U2.heap.size = N2 at *
    generalize N2 + 1 = M2 at *
    have Hbk := hd' (back_reo HI0.o checkS Hp.o m Hk.o Hkid.o)
    obtain ⟨rfl, rfl, rfl⟩ : S = T2 ∧ y2 = (0, 0) ∧ e2 = 0 := by
     have h := Hbk.o.2
     rw [← HR1.o] at h
     have h2 := HR2.o.trans h
     exact ⟨(congrArg (·.1) h2).symm, congrArg (·.2.1) h2, congrArg (·.2.2) h2⟩
    have He1 : Hid (e1 = 0 ↔ 0 ≤ m ∧ m < P.kids.length) := hd' (by have h := Hbk.o.1; rw [← HR1.o] at h; exact h)
    clear Hbk HR1 HR2 HQ1 HT1 HC1 HX1 HX2 HI1 HF1
    go_cut [98] from 77 to 97 (fun t wx => t = .bool false ∧ Gou.Mod (fun _ => False) V2 wx)
    case first =>
     go_wp2_with (first | ((with_reducible refine lT 47 ?_); refine ldG HT2.o.whole Tryz.underlying47 uah (hn := by rw [Array.length_toList]; exact HC2.o) (h := ?_)) | ((with_reducible refine lT 47 ?_); refine ldG HS.o.whole Tryz.underlying47 uah (h := ?_)) | fail)
     refine (uhx _ _ _ _ _ S S HQ2.o ⟨_, _, _, _, _, _, rfl, Ha.o, Hly.o⟩ HF.o.root HF.o.root HF.o.g HF.o.l).mono ?_
     rintro e V3 ⟨rfl, hm⟩
     rw [(Sn.sameB_iff S S).2 rfl]
     have k30 : V3.cell? ⟨Q, 30, none⟩ = some (.slice pk P.kids.length ck) := (HP.o.up hm).cell 30 rfl
     by_cases h1 : 0 ≤ m
     ·have d1 : decide (0 ≤ m) = true := dqt h1
      by_cases h2 : m < P.kids.length
      ·have d2 : decide (m < (P.kids.length : Int)) = true := dqt h2
       obtain rfl := He1.o.2 ⟨h1, h2⟩
       clear h1 h2
       go_wp2_with fail
       go_meet
       case rel => exact ⟨rfl, hm⟩
      ·have d2 : decide (m < (P.kids.length : Int)) = false := dqf h2
       have d3 : (e1 == 0) = false := bqf.2 (fun h => h2 (He1.o.1 h).2)
       clear h1 h2
       go_wp2_with fail
       go_meet
       case rel => exact ⟨rfl, hm⟩
     ·have d1 : decide (0 ≤ m) = false := dqf h1
      have d3 : (e1 == 0) = false := bqf.2 (fun h => h1 (He1.o.1 h).1)
      clear h1
      go_wp2_with fail
      go_meet
      case rel => exact ⟨rfl, hm⟩
    case rest =>
     obtain ⟨rfl, hm⟩ := hcut
     replace HM := hd' (HM.o.trans' hm)
     replace HI := hd' (HI.o.up hm)
     replace HS := hd' (HS.o.up hm)
     replace Ha := hd' (Ha.o.mod hm (fun _ _ _ h => h))
     replace Hly := hd' (Hly.o.up hm)
     replace HP := hd' (HP.o.up hm)
     clear hm HT2 HC2 HQ2 He1
     go_upto_region 17 with fail
     have p0 : wc.cell? ⟨Q, 0, none⟩ = some (.int .i64 P.id.1) := HP.o.cell 0 rfl
     have p1 : wc.cell? ⟨Q, 1, none⟩ = some (.int .i64 P.id.2) := HP.o.cell 1 rfl
     go_wp2_with (first | ((with_reducible refine lT 47 ?_); refine ldA HS.o.whole Tryz.underlying47 uah (h := ?_)) | ((with_reducible show wpList _ _ _ (⟨some 104, Op.build _ _, _, _, _, _⟩ :: _) _ _); refine halt ?_) | fail)
     show wpList _ _ _ _ _ _
     refine uav rfl (.agg (oprC (insO P.id (i : Int)) nlS nlS nlS)) (by kernel_rfl) ?_
     simp only [Act.put, uSa, uSb, uSc]
     go_wp2_with fail
     refine (doZ _ _ S (insO P.id (i : Int)) rfl ⟨_, _, _, _, _, _, rfl, Ha.o, Hly.o⟩ HF.o _ HI0.o (by have := Hn60.o; omega)).mono ?_
     rintro e U3 ⟨c3, rfl, hs, hc, ho, hm⟩
     replace HM := hd' (HM.o.trans' hm)
     replace HI := hd' (HI.o.up hm)
     replace HS := hd' (HS.o.up hm)
     replace Ha := hd' (Ha.o.mod hm (fun _ _ _ h => h))
     replace Hly := hd' (Hly.o.up hm)
     replace HP := hd' (HP.o.up hm)
     obtain ⟨r, hr⟩ : ∃ r, r = doP checkS S (insO P.id (i : Int)) := ⟨_, rfl⟩
     rw [← hr] at hs ⊢
     have HR3 := hd' hr
     obtain ⟨T3, y3, e3⟩ := r
     dsimp only at hs ⊢
     have HQ3 := hd' (SnR.imp (G' := fun _ => True) hs (fun _ _ _ => trivial))
     have HC3 := hd' hc
     have Ho3 := hd' ho
     clear hr hm hs hc ho
     go_upto_region 18 with (first | ((with_reducible refine sT 47 ?_); refine stA c3 ((uaw U3 47 30 scZ iiZ).1.there 0 33 (by simp [scA])) uah Ho3.o (hn := HC3.o) (h := ?_)) | ((with_reducible refine sT 30 ?_); refine stA #[Value.int .i64 y3.1, Value.int .i64 y3.2] (((uaw U3 47 30 scZ iiZ).2.1.mod (Blk.setMod _ U3.heap.size 0 c3.toList) (by omega)).there 0 2 (by simp)) uaf (by simp [Value.oneCell']) (h := ?_)) | fail)
     refine newB2 HC3.o.symm rfl (fun V3 h1 h2 hm => ?_)
     have HT3 := hd' h1
     have HX3 := hd' h2
     replace HM := hd' (HM.o.trans' hm)
     replace HI := hd' (HI.o.up hm)
     replace HS := hd' (HS.o.up hm)
     replace Ha := hd' (Ha.o.mod hm (fun _ _ _ h => h))
     replace Hly := hd' (Hly.o.up hm)
     replace HP := hd' (HP.o.up hm)
     replace HQ3 := hd' (HQ3.o.mod hm (fun _ _ _ h => h))
     clear h1 h2 hm Ho3
     generalize U3.heap.size = N3 at *
     generalize N3 + 1 = M3 at *
     have HI3 : Hid (Inv (xs.length + 1) T3) := hd' (by have h := HI0.o.do_ checkS (insO P.id (i : Int)); rw [← HR3.o] at h; exact h)
     have HF3 : Hid (ugk T3 ∧ uij T3) := hd' (by have h := doP_fit (o := insO P.id (i : Int)) HI0.o (by have := Hn60.o; omega) HLA.o rfl; rw [← HR3.o] at h; exact h)
     have q0 : V3.cell? ⟨M3, 0, none⟩ = some (.int .i64 y3.1) := HX3.o.cell 0 rfl
     have q1 : V3.cell? ⟨M3, 1, none⟩ = some (.int .i64 y3.2) := HX3.o.cell 1 rfl
     go_wp2_with (first | ((with_reducible refine lT 47 ?_); refine ldA HT3.o.whole Tryz.underlying47 uah (hn := by rw [Array.length_toList]; exact HC3.o) (h := ?_)) | ((with_reducible show wpList _ _ _ (⟨some 112, Op.build _ _, _, _, _, _⟩ :: _) _ _); refine halt ?_) | fail)
     show wpList _ _ _ _ _ _
     refine uav rfl (.agg (oprC (remO y3) nlS nlS nlS)) (by kernel_rfl) ?_
     simp only [Act.put, uSa, uSb, uSc]
     go_wp2_with fail
     refine (doZ _ _ T3 (remO y3) rfl HQ3.o HF3.o.1 _ HI3.o (by have := Hn60.o; omega)).mono ?_
     rintro e U4 ⟨c4, rfl, hs, hc, ho, hm⟩
     replace HM := hd' (HM.o.trans' hm)
     replace HI := hd' (HI.o.up hm)
     replace HS := hd' (HS.o.up hm)
     replace Ha := hd' (Ha.o.mod hm (fun _ _ _ h => h))
     replace Hly := hd' (Hly.o.up hm)
     replace HP := hd' (HP.o.up hm)
     obtain ⟨r, hr⟩ : ∃ r, r = doP checkS T3 (remO y3) := ⟨_, rfl⟩
     rw [← hr] at hs ⊢
     have HR4 := hd' hr
     obtain ⟨T4, y4, e4⟩ := r
     dsimp only at hs ⊢
     have HQ4 := hd' (SnR.imp (G' := fun _ => True) hs (fun _ _ _ => trivial))
     have HC4 := hd' hc
     have Ho4 := hd' ho
     clear hr hm hs hc ho
     go_upto_region 19 with (first | ((with_reducible refine sT 47 ?_); refine stA c4 ((uaw U4 47 30 scZ iiZ).1.there 0 33 (by simp [scA])) uah Ho4.o (hn := HC4.o) (h := ?_)) | ((with_reducible refine sT 30 ?_); refine stA #[Value.int .i64 y4.1, Value.int .i64 y4.2] (((uaw U4 47 30 scZ iiZ).2.1.mod (Blk.setMod _ U4.heap.size 0 c4.toList) (by omega)).there 0 2 (by simp)) uaf (by simp [Value.oneCell']) (h := ?_)) | fail)
     refine newB2 HC4.o.symm rfl (fun V4 h1 h2 hm => ?_)
     have HT4 := hd' h1
     have HX4 := hd' h2
     replace HM := hd' (HM.o.trans' hm)
     replace HI := hd' (HI.o.up hm)
     replace HS := hd' (HS.o.up hm)
     replace Ha := hd' (Ha.o.mod hm (fun _ _ _ h => h))
     replace Hly := hd' (Hly.o.up hm)
     replace HP := hd' (HP.o.up hm)
     replace HQ4 := hd' (HQ4.o.mod hm (fun _ _ _ h => h))
     clear h1 h2 hm Ho4
     generalize U4.heap.size = N4 at *
     generalize N4 + 1 = M4 at *
     have Hbk := hd' (back_ins HI0.o (by have := Hn60.o; omega) checkS Hp.o Hil.o)
     obtain ⟨rfl, rfl, hrt⟩ : e3 = 0 ∧ e4 = 0 ∧ T4.root = S.root := by
      have h := Hbk.o
      rw [← HR3.o] at h
      simp only at h
      rw [← HR4.o] at h
      exact h
     have HF4 : Hid (TFit T4.root) := hd' (by rw [hrt]; exact HF.o.root)
     have Hsame : Hid (T4.root.same S.root = true) := hd' ((Ly.same_iff _ _).2 hrt)
     clear Hbk HR3 HR4 HQ3 HT3 HC3 HX3 HX4 HI3 HF3 hrt
     obtain ⟨zg, zl, zp, zf, zb, zk, hz, hza, hzl⟩ := HQ4.o
     obtain rfl := Value.agg.inj hz
     have Hzl := hd' hzl
     clear hz hza hzl
     have HL4 := hd' (Blk.range (k := 2) (mid := (lyA T4.root.id T4.root.look zp zf zb zk).toList) (pre := [zg, zl]) (post := []) HT4.o (by rw [List.append_nil]; rfl) rfl)
     have HSl := hd' (Blk.range (k := 2) (mid := (lyA S.root.id S.root.look vp vf vb vk).toList) (pre := [.slice pg S.arena.gens.length cg, .slice pl S.arena.live.length cl]) (post := []) HS.o (by rw [List.append_nil]; rfl) rfl)
     go_wp2_with (first | ((with_reducible refine lT 45 ?_); refine ldG HL4.o Tryz.underlying45 uaa (h := ?_)) | ((with_reducible refine lT 45 ?_); refine ldG HSl.o Tryz.underlying45 uaa (h := ?_)) | fail)
     refine (udy T4.root S.root _ _ _ _ _ _ _ _ _ _ _ Hzl.o Hly.o HF4.o HF.o.root).mono ?_
     rintro e V5 ⟨rfl, hm⟩
     rw [Hsame.o]
     replace HM := hd' (HM.o.trans' hm)
     clear hm
     go_wp2_with fail
     go_ret
     exact ⟨rfl, HM.o⟩
end Go.Proofs.YtpbmfalokongfaaGreatDoor
