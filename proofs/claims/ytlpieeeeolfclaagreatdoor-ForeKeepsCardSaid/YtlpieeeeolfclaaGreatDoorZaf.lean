/- Texts of the scenes' proofs, laid together: RwB, RkA. -/
import Derived.Test.YtlpieeeeolfclaaGreatDoorZac
import Derived.Test.YtlpieeeeolfclaaGreatDoorRows
import Derived.Test.YtlpieeeeolfclaaGreatDoorProg
import Derived.Maps.AppendAt
import Derived.Deep.RegionHeld
import Derived.Great.BuildSlice
import Derived.Laws.Rows
import Derived.Test.YtlpieeeeolfclaaGreatDoorZae
import Derived.Deep.MidRow
set_option linter.unusedSimpArgs false
set_option linter.unusedVariables false
set_option linter.unusedSectionVars false
set_option linter.constructorNameAsVariable false

/- Rows that grow: 'append' of a row of elements of k cells, whichever. -/
namespace Go.Gou
open Go.RowKit Go.Reg

/-- The walk stands still here. -/
theorem halt {p : Prop} (h : Shut p) : p := h

/-- What is to be known of a slice's type. -/
structure RowT (P : Program) (t e : TypeId) (k bytes : Nat) (z : Value) : Prop where
  und : P.underlying t = some (.slice e)
  info : (P.info? e).map (fun i => (i.zero, i.size, i.bytes)) = some (some z, k, bytes)
  zc : z.cells.size = k
  pos : 0 < k

theorem run_append_none {P : Program} (t ty e : TypeId) (i : TypeInfo) (ht : P.underlying t = some (.slice e)) (hi : P.info? e = some i) (w : World) (p : Option Addr) (n cap c : Nat) (hnc : n ≤ cap) :
    (Builtin.append_ #[t, t] ty #[.slice p n cap, .slice none 0 c]).run P w = .ok (.slice p n cap) w := by
  cases p <;> simp [Builtin.append_, run_underlying ht, sizeOf, typeInfo, hi, Builtin.lenOf, Builtin.firstCells, hnc, storeCells]

/-- What a row that has grown is. -/
structure Grown (w : World) (B : Nat) (e : TypeId) (k : Nat) (v : Value) (n : Nat) (cs : List Value) (v' : Value) (w' : World) : Prop where
  own : w'.ownsRow B e k v' n cs
  mod : Mod (fun b => v.ownBlock = some b) w w'
  blk : ∀ g, v'.ownBlock = some g → v.ownBlock = some g ∨ w.heap.size ≤ g

theorem run_append_row {P : Program} {t e : TypeId} {k bytes : Nat} {z : Value} (T : RowT P t e k bytes z) (ty : TypeId) (w : World) (B : Nat) (v : Value) (n : Nat) (cs : List Value) (G : Nat → Prop) (u : Value) (m : Nat) (ds : List Value) (hB : B ≤ w.heap.size) (hown : w.ownsRow B e k v n cs)
    (hy : RowG G w k u m ds) (h1 : ∀ d ∈ ds, d.oneCell' = true) (hn : n + m ≤ maxLen) (hby : (n + m) * bytes ≤ 140737488355328) :
    ∃ v' w', (Builtin.append_ #[t, t] ty #[v, u]).run P w = .ok v' w' ∧ Grown w B e k v (n + m) (cs ++ ds) v' w' := by
  obtain ⟨i0, hi0, hz0, hz1, hz2⟩ := info_parts T.info
  obtain ⟨hyl, p, cap, rfl, hcap, hc⟩ := hy
  cases p with
  | none =>
    have h0 : m = 0 := by
      rcases hc with hc | ⟨b, o, h, _⟩
      · exact hc
      · cases h
    subst h0
    have hds : ds = [] := List.length_eq_zero_iff.1 (by simpa using hyl)
    subst hds
    have hv : ∃ p n c, v = .slice p n c ∧ n ≤ c := by
      rcases hown.2 with ⟨h, _⟩ | ⟨g, c, cur, h, _, _, hn, _⟩
      · exact ⟨none, 0, 0, h, Nat.le_refl _⟩
      · exact ⟨_, _, c, h, hn⟩
    obtain ⟨p, n', c, rfl, hnc⟩ := hv
    exact ⟨_, w, run_append_none _ _ _ i0 T.und hi0 w p n' c cap hnc, by simpa using hown, Mod.refl _ _, fun g hg => .inl hg⟩
  | some ad =>
    obtain ⟨v', w', hr, h2, h3, h4, h5⟩ := run_append_own_at (P := P) w B t ty e i0 z k bytes T.und hi0 hz0 hz1 hz2 T.zc T.pos v n cs hown ad m cap ds hyl
      (fun j u hu => by
        have hj := (List.getElem?_eq_some_iff.1 hu).1
        rcases hc with h0 | ⟨b, o2, e, hb, _, hc⟩
        · subst h0
          omega
        · simp only [Option.some.injEq] at e
          subst e
          have hadd : (⟨b, o2, none⟩ : Addr).add j = ⟨b, o2 + j, none⟩ := by unfold Addr.add; split <;> simp_all
          rw [hadd, hc j u hu]) h1 hn hby hB
    refine ⟨v', w', hr, h2, Mod.of_grown h3, fun g hg => ?_⟩
    rcases h5 with h5 | h5
    · left; rw [← h5]; exact hg
    · right
      rw [h5] at hg
      simp only [Option.some.injEq] at hg
      omega

/-- 'append(xs, ys...)', in a plain region. -/
theorem wpList_append_row {P : Program} {t e : TypeId} {k bytes : Nat} {z : Value} (T : RowT P t e k bytes z) {ops : Array Oper} {rest : List Oper} {o : Oper} {a : Act} {w : World} {Q : Exit → Act → World → Prop} (hgd : o.guard = none) (s x : Operand) (hop : o.op = .call { callee := .builtin .append, args := #[s, x], argTypes := #[t, t] })
    (B : Nat) (v : Value) (n : Nat) (cs : List Value) (G : Nat → Prop) (u : Value) (m : Nat) (ds : List Value) (hs : a.eval s = v) (hx : a.eval x = u) (hB : B ≤ w.heap.size) (hown : w.ownsRow B e k v n cs) (hy : RowG G w k u m ds) (h1 : ∀ d ∈ ds, d.oneCell' = true)
    (hn : n + m ≤ maxLen) (hby : (n + m) * bytes ≤ 140737488355328) (h : ∀ v' w1, Grown w B e k v (n + m) (cs ++ ds) v' w1 → wpList P ops Q rest (a.put o.dst v') w1) : wpList P ops Q (o :: rest) a w := by
  obtain ⟨v', w1, hr, h2⟩ := run_append_row T o.type w B v n cs G u m ds hB hown hy h1 hn hby
  refine wpList_plain hgd fun K hK => ?_
  unfold Oper.wp execOp
  simp only [hop, resolve, invoke, builtin, Sem.run_bind, Sem.run_pure, Result.andThen_ok, List.map_toArray, List.map_cons, List.map_nil, hs, hx, hr]
  exact hK _ _ (h v' w1 h2)

/-- 'append(xs, ys...)', at one operation. -/
theorem wp_append_row {P : Program} {t e : TypeId} {k bytes : Nat} {z : Value} (T : RowT P t e k bytes z) {o : Oper} {a : Act} {w : World} {K : Act → World → Prop} {Q : Exit → Act → World → Prop} (s x : Operand) (hop : o.op = .call { callee := .builtin .append, args := #[s, x], argTypes := #[t, t] })
    (B : Nat) (v : Value) (n : Nat) (cs : List Value) (G : Nat → Prop) (u : Value) (m : Nat) (ds : List Value) (hs : a.eval s = v) (hx : a.eval x = u) (hB : B ≤ w.heap.size) (hown : w.ownsRow B e k v n cs) (hy : RowG G w k u m ds) (h1 : ∀ d ∈ ds, d.oneCell' = true)
    (hn : n + m ≤ maxLen) (hby : (n + m) * bytes ≤ 140737488355328) (h : ∀ v' w1, Grown w B e k v (n + m) (cs ++ ds) v' w1 → K (a.put o.dst v') w1) : o.wp P a w K Q := by
  obtain ⟨v', w1, hr, h2⟩ := run_append_row T o.type w B v n cs G u m ds hB hown hy h1 hn hby
  unfold Oper.wp execOp
  simp only [hop, resolve, invoke, builtin, Sem.run_bind, Sem.run_pure, Result.andThen_ok, List.map_toArray, List.map_cons, List.map_nil, hs, hx, hr]
  exact h v' w1 h2

theorem wpList_buildOne {P : Program} {ops : Array Oper} {rest : List Oper} {o : Oper} {a : Act} {w : World} {Q : Exit → Act → World → Prop} (hg : o.guard = none) (t e : TypeId) (x : Operand) (ho : o.op = .buildSlice t 1 #[(0, x)])
    (cs : Array Value) (hx : a.eval x = .agg cs) (ie : TypeInfo) (z : Value) (hu : P.underlying t = some (.slice e)) (hie : P.info? e = some ie) (hz : ie.zero = some z) (hs : ie.size = cs.size) (hzs : z.cells.size = cs.size) (h0 : 0 < cs.size) (hsm : cs.size ≤ 2 ^ 24)
    (h : wpList P ops Q rest (a.put o.dst (.slice (some ⟨w.heap.size, 0, none⟩) 1 1)) (w.alloc (.cells cs e))) : wpList P ops Q (o :: rest) a w := by
  refine wpList_buildSlice hg t e 1 _ ho cs ie z hu hie hz (by omega) (by omega) ?_ h
  have := Great.fill_whole (s := cs.size) h0 [.agg cs] ((Array.range (1 * cs.size)).map (z.cells[· % z.cells.size]!)) (fun v hv => by
    simp only [List.mem_cons, List.not_mem_nil, or_false] at hv
    subst hv
    rfl) (by simp)
  rw [hs]
  simpa [hx, Value.cells] using this

/-- A row that lies in a block whole. -/
theorem RowG.of_blk {w : World} {b : Nat} {T : TypeId} {cs : Array Value} (h : Blk w b T cs) (k n : Nat) (hn : cs.size = n * k) (G : Nat → Prop) (hG : G b) : RowG G w k (.slice (some ⟨b, 0, none⟩) n n) n cs.toList :=
  ⟨by simpa using hn, _, n, rfl, Nat.le_refl _, .inr ⟨b, 0, rfl, h.lt, hG, fun j u hu => by
    rw [Nat.zero_add]
    exact h.cell j (by rw [← hu, Array.getElem?_toList])⟩⟩

theorem spC_one (s : Sp) : ∀ d ∈ spC s, d.oneCell' = true := by
  intro d hd
  simp [spC] at hd
  rcases hd with rfl | rfl <;> simp [Value.oneCell']
theorem rtC_one (r : Rt) : ∀ d ∈ rtC r, d.oneCell' = true := by
  intro d hd
  simp [rtC] at hd
  rcases hd with rfl | rfl | rfl | rfl <;> simp [Value.oneCell']
theorem ivs_one (xs : List Int) : ∀ d ∈ ivs xs, d.oneCell' = true := by
  intro d hd
  simp [ivs] at hd
  obtain ⟨x, _, rfl⟩ := hd
  simp [Value.oneCell']
theorem rts_one (l : List Rt) : ∀ d ∈ rts l, d.oneCell' = true := by
  intro d hd
  simp only [rts, List.mem_flatMap] at hd
  obtain ⟨r, _, h⟩ := hd
  exact rtC_one r d h
theorem sps_one (l : List Sp) : ∀ d ∈ sps l, d.oneCell' = true := by
  intro d hd
  simp only [sps, List.mem_flatMap] at hd
  obtain ⟨r, _, h⟩ := hd
  exact spC_one r d h

end Go.Gou
namespace Go.Proofs.YtlpieeeeolfclaaGreatDoor
open Go.RowKit Go.Gou Go.Reg

theorem T_int : RowT Tryz.prog 35 3 1 8 (.int .i64 0) := ⟨Tryz.underlying35, by kernel_rfl, rfl, by omega⟩
theorem T_sp : RowT Tryz.prog 102 108 2 16 (.agg #[.int .i64 0, .int .i64 0]) := ⟨Tryz.underlying102, by kernel_rfl, rfl, by omega⟩
theorem T_rt : RowT Tryz.prog 25 32 4 32 (.agg #[.int .i64 0, .int .i64 0, .int .i64 0, .int .i64 0]) := ⟨Tryz.underlying25, by kernel_rfl, rfl, by omega⟩
theorem T_reg : RowT Tryz.prog 26 32 4 32 (.agg #[.int .i64 0, .int .i64 0, .int .i64 0, .int .i64 0]) := ⟨Tryz.underlying26, by kernel_rfl, rfl, by omega⟩

end Go.Proofs.YtlpieeeeolfclaaGreatDoor

/- Regions: spans that touch, or cross, are made one. -/
namespace Go.Gou
open Go.RowKit Go.Reg

theorem joinStep_len (o : List Sp) (s : Sp) : (joinStep o s).length ≤ o.length + 1 := by
  rcases last_cases o with rfl | ⟨m, t, rfl⟩
  · simp [joinStep]
  · rw [joinStep_snoc]
    split <;> simp
theorem joinStep_nil (s : Sp) : joinStep [] s = [s] := rfl

theorem Grown.mod0 {w : World} {B : Nat} {e : TypeId} {k : Nat} {v v' : Value} {n : Nat} {cs : List Value} {w0 w' : World} (h : Grown w B e k v n cs v' w') (h0 : Mod (fun _ => False) w0 w) (hv : ∀ b, v.ownBlock = some b → w0.heap.size ≤ b) : Mod (fun _ => False) w0 w' :=
  h0.trans h.mod fun i hi hs => absurd (hv i hs) (by omega)
theorem own_ge {w : World} {B : Nat} {e : TypeId} {k : Nat} {v : Value} {n : Nat} {cs : List Value} (h : w.ownsRow B e k v n cs) : ∀ b, v.ownBlock = some b → B ≤ b := fun b hb => (h.lt b hb).1
/-- One cell of a row of the call's own is written. -/
theorem own_set {w : World} {B : Nat} {e : TypeId} {k g n cap : Nat} {cs : List Value} (h : w.ownsRow B e k (.slice (some ⟨g, 0, none⟩) n cap) n cs) (j : Nat) (u : Value) : (w.setCell ⟨g, j, none⟩ u).ownsRow B e k (.slice (some ⟨g, 0, none⟩) n cap) n (cs.set j u) := (h.stored j u).1
theorem own_up {w w' : World} {B : Nat} {e : TypeId} {k : Nat} {v : Value} {n : Nat} {cs : List Value} (h : w.ownsRow B e k v n cs) (hm : Mod (fun _ => False) w w') : w'.ownsRow B e k v n cs := ownsRow_mod h hm (fun _ _ h => h)
theorem sps_set (l : List Sp) (t : Sp) (x : Int) : (sps (l ++ [t])).set (l.length * 2 + 1) (.int .i64 x) = sps (l ++ [⟨t.a, x⟩]) := by
  rw [sps_app, sps_app, List.set_append_right _ _ (by rw [sps_len]; omega), sps_len]
  have : l.length * 2 + 1 - l.length * 2 = 1 := by omega
  rw [this]
  rfl

end Go.Gou
namespace Go.Proofs.YtlpieeeeolfclaaGreatDoor
open Go.RowKit Go.Gou Go.Reg
set_option maxRecDepth 100000

set_option maxHeartbeats 8000000 in
theorem joined_any (w : World) (G : Nat → Prop) (p : Option Addr) (c : Nat) (l : List Sp) (hl : SpR G w (.slice p l.length c) l) (hn : l.length ≤ 4000000000) :
    Calls Tryz.prog 83 #[.slice p l.length c] w fun e w' => Gou.Mod (fun _ => False) w w' ∧ ∃ v, e = .returned v ∧ w'.ownsRow w.heap.size 108 2 v (joinP l).length (sps (joinP l)) := by
  have HL := Lib.hid hl
  have Hn := Lib.hid hn
  clear hl hn
  go_enter Tryz.func83, Tryz.ntmps83
  go_wp2_with fail
  go_loopw [3, 9] (fun vo vi wr => ∃ (i : Nat) (o : List Sp), vi = .int .i64 i ∧ i ≤ l.length ∧ o = (l.take i).foldl joinStep [] ∧ o.length ≤ i ∧ wr.ownsRow w.heap.size 108 2 vo o.length (sps o) ∧ Gou.Mod (fun _ => False) w wr) (fun _ vi _ => l.length - (intOf vi).toNat)
  case atStart => exact ⟨0, [], rfl, by omega, rfl, by simp, World.ownsRow_nil _ _ _ _, Gou.Mod.refl _ _⟩
  case round =>
    obtain ⟨i, o, rfl, hi, ho, hol, hown, hm⟩ := hrel
    obtain ⟨po, co, rfl⟩ := Gou.ownsRow_form hown
    have Ho := Lib.hid ho
    have Hol := Lib.hid hol
    have Hown := Lib.hid hown
    have Hm := Lib.hid hm
    clear ho hol hown hm
    by_cases hil : i < l.length
    · have e1 : decide ((i : Int) < (l.length : Int)) = true := decide_eq_true (by omega)
      obtain ⟨-, b, off, rfl, hb, -, hc⟩ := HL.out.cells (by omega)
      obtain ⟨k0, k1⟩ := hc i hil
      rw [← Hm.out.cell (p := ⟨b, off + i * 2, none⟩) hb (fun h => h)] at k0
      rw [← Hm.out.cell (p := ⟨b, off + i * 2 + 1, none⟩) hb (fun h => h)] at k1
      have hi1 : (i : Int) < (l.length : Int) := by omega
      have hi0 : (0 : Int) ≤ (i : Int) := by omega
      have wi : IntKind.i64.wrap ((i : Int) + 1) = (i : Int) + 1 := wrap_id (by omega) (by have := Hn.out; omega)
      have Hstep : Hid (joinStep o l[i] = (l.take (i + 1)).foldl joinStep []) := Lib.hid (by rw [Ho.out, List.take_succ_eq_append_getElem hil, List.foldl_append]; rfl)
      have Hin := Lib.hid (And.intro hi hil)
      clear hc
      generalize l[i] = s at *
      obtain ⟨a, b'⟩ := s
      simp only at k0 k1
      go_wp2_with fail
      have HB : Hid (Blk (wr.alloc (.cells #[.int .i64 a, .int .i64 b'] 108)) wr.heap.size 108 #[.int .i64 a, .int .i64 b']) := Lib.hid (Blk.new _ _ _)
      have Hown2 := Lib.hid (own_up Hown.out (Gou.Mod.alloc0 wr (.cells #[.int .i64 a, .int .i64 b'] 108)))
      have Hm2 : Hid (Gou.Mod (fun _ => False) w (wr.alloc (.cells #[.int .i64 a, .int .i64 b'] 108))) := Lib.hid (Hm.out.trans' (Gou.Mod.alloc0 _ _))
      clear k0 k1 Hown Hm
      generalize wr.alloc (.cells #[.int .i64 a, .int .i64 b'] 108) = W2 at *
      generalize wr.heap.size = N at *
      have c0 := HB.out.cell 0 rfl
      have c1 := HB.out.cell 1 rfl
      rcases last_cases o with rfl | ⟨m, t, rfl⟩
      · simp only [List.length_nil] at Hown2 ⊢
        go_quiet (fail)
        have Hown3 := Lib.hid (own_up Hown2.out (Gou.Mod.drewN _ W2 nq))
        have HB3 := Lib.hid (HB.out.mod0 (Gou.Mod.drewN _ W2 nq))
        have Hm3 := Lib.hid (Hm2.out.trans' (Gou.Mod.drewN _ W2 nq))
        clear c0 c1 Hown2 HB Hm2
        generalize W2.drewN nq = W3 at *
        have c0 := HB3.out.cell 0 rfl
        have c1 := HB3.out.cell 1 rfl
        go_wp2_with (first | ((with_reducible show wpList _ _ _ (⟨_, Op.call ⟨.builtin .append, _, _⟩, _, _, _, _⟩ :: _) _ _); refine halt ?_) | fail)
        refine wpList_append_row T_sp rfl _ _ rfl (w.heap.size) (.slice po 0 co) (0) ([]) (fun _ => True) (.slice (some ⟨W3.heap.size, 0, none⟩) 1 1) (1) ([.int .i64 a, .int .i64 b']) rfl rfl (by have := Hm3.out.size; simp; omega) (own_up Hown3.out (Gou.Mod.alloc0 _ _)) (RowG.of_blk (Blk.new W3 _ #[.int .i64 a, .int .i64 b']) 2 1 rfl _ trivial) (spC_one ⟨a, b'⟩) (by first | (unfold maxLen; omega) | omega) (by first | (unfold maxLen; omega) | omega) ?_
        intro v5 w5 G5
        have Hm5 := Lib.hid (G5.mod0 (Hm3.out.trans' (Gou.Mod.alloc0 _ _)) (own_ge Hown3.out))
        have Hown5 := Lib.hid G5.own
        clear G5
        obtain ⟨p5, c5, rfl⟩ := Gou.ownsRow_form Hown5.out
        go_wp2_with fail
        have hN := Hn.out
        go_roundw
        case rel =>
          exact ⟨i + 1, [⟨a, b'⟩], by go_num, by have := Hin.out; omega, Hstep.out, by simp, Hown5.out, Hm5.out⟩
        case measure => have := Hin.out; simp [intOf]; omega
      · have hnl : (m ++ [t]).length = m.length + 1 := by simp
        have HK : Hid (m.length + 1 ≤ i) := Lib.hid (by have := Hol.out; omega)
        obtain ⟨g, rfl, hg⟩ : ∃ g, po = some ⟨g, 0, none⟩ ∧ True := by
          rcases Hown2.out.2 with ⟨h, _⟩ | ⟨g, cap, cur, h, _⟩
          · simp at h
          · simp only [Value.slice.injEq] at h
            exact ⟨g, h.1, trivial⟩
        have d0 := Hown2.out.cellAt (m.length * 2 + 1) (by rw [hnl]; omega)
        have hz : (sps (m ++ [t]))[m.length * 2 + 1]? = some (.int .i64 t.b) := by
          have := (sps_get (m ++ [t]) m.length (by simp)).2
          simpa using this
        rw [hz] at d0
        rw [hnl] at Hown2 ⊢
        have Hmk : Hid (∃ K, K = m.length) := Lib.hid ⟨_, rfl⟩
        obtain ⟨K, hK⟩ := Hmk.out
        rw [← hK] at Hown2 d0 HK ⊢
        have HKm := Lib.hid hK
        have w1 : IntKind.i64.wrap (K : Int) = K := wrap_id (by omega) (by have := HK.out; have := Hn.out; omega)
        have b0 : (0 : Int) ≤ K := by omega
        have b1 : (K : Int) < (K : Int) + 1 := by omega
        clear hK hz hnl Hmk
        by_cases hab : a ≤ t.b
        · have e2 : decide (a ≤ t.b) = true := decide_eq_true hab
          have Hj : Hid (joinStep (m ++ [t]) ⟨a, b'⟩ = m ++ [⟨t.a, max t.b b'⟩]) := Lib.hid (by rw [joinStep_snoc, if_pos hab])
          go_quiet (fail)
          have Hown3 := Lib.hid (own_up Hown2.out (Gou.Mod.drewN _ W2 nq))
          have HB3 := Lib.hid (HB.out.mod0 (Gou.Mod.drewN _ W2 nq))
          have Hm3 := Lib.hid (Hm2.out.trans' (Gou.Mod.drewN _ W2 nq))
          have d3 : (W2.drewN nq).cell? ⟨g, K * 2 + 1, none⟩ = some (.int .i64 t.b) := by rw [World.cell?_drewN]; exact d0
          clear c0 c1 d0 Hown2 HB Hm2
          generalize W2.drewN nq = W3 at *
          have c1 := HB3.out.cell 1 rfl
          have f3 := Hown3.out.frozenAt (K * 2 + 1)
          obtain ⟨M, hM⟩ : ∃ M, M = max t.b b' := ⟨_, rfl⟩
          have eM : (if t.b < b' then b' else t.b) = M := by rw [hM, max_ite]
          rw [← hM] at Hj
          generalize t.b = tb at *
          clear hM e2 hab
          go_wp2_with fail
          have Hown5 := Lib.hid (own_up (own_set Hown3.out (K * 2 + 1) (.int .i64 M)) (Gou.Mod.drew _ _))
          have Hm5 : Hid (Gou.Mod (fun _ => False) w (W3.setCell ⟨g, K * 2 + 1, none⟩ (.int .i64 M)).drew) := Lib.hid ((Hm3.out.trans (Gou.Mod.setCell W3 ⟨g, K * 2 + 1, none⟩ (.int .i64 M)) (fun i hi hs => absurd (own_ge Hown3.out g rfl) (by simp only at hs; omega))).trans' (Gou.Mod.drew _ _))
          clear Hown3 Hm3
          go_region
          all_goals go_wp2_with fail
          all_goals have hN := Hn.out
          all_goals go_roundw
          all_goals first
            | (refine ⟨i + 1, joinStep (m ++ [t]) ⟨a, b'⟩, by go_num, by have := Hin.out; omega, Hstep.out, ?_, ?_, Hm5.out⟩
               · rw [Hj.out]; have := HK.out; have := HKm.out; simp; omega
               · obtain rfl := HKm.out; rw [Hj.out]; have h := Hown5.out; rw [sps_set] at h; simpa using h)
            | (have := Hin.out; simp [intOf, wi]; omega)
        · have e2 : decide (a ≤ t.b) = false := decide_eq_false hab
          have Hj : Hid (joinStep (m ++ [t]) ⟨a, b'⟩ = (m ++ [t]) ++ [⟨a, b'⟩]) := Lib.hid (by rw [joinStep_snoc, if_neg hab])
          go_quiet (fail)
          have Hown3 := Lib.hid (own_up Hown2.out (Gou.Mod.drewN _ W2 nq))
          have HB3 := Lib.hid (HB.out.mod0 (Gou.Mod.drewN _ W2 nq))
          have Hm3 := Lib.hid (Hm2.out.trans' (Gou.Mod.drewN _ W2 nq))
          clear c0 c1 d0 Hown2 HB Hm2 e2 hab
          generalize W2.drewN nq = W3 at *
          have c0 := HB3.out.cell 0 rfl
          have c1 := HB3.out.cell 1 rfl
          go_wp2_with (first | ((with_reducible show wpList _ _ _ (⟨_, Op.call ⟨.builtin .append, _, _⟩, _, _, _, _⟩ :: _) _ _); refine halt ?_) | fail)
          refine wpList_append_row T_sp rfl _ _ rfl (w.heap.size) (.slice (some ⟨g, 0, none⟩) (K + 1) co) ((K + 1)) (sps (m ++ [t])) (fun _ => True) (.slice (some ⟨W3.heap.size, 0, none⟩) 1 1) (1) ([.int .i64 a, .int .i64 b']) rfl rfl (by have := Hm3.out.size; simp; omega) (own_up Hown3.out (Gou.Mod.alloc0 _ _)) (RowG.of_blk (Blk.new W3 _ #[.int .i64 a, .int .i64 b']) 2 1 rfl _ trivial) (spC_one ⟨a, b'⟩) (by have := HK.out; have := Hn.out; have := Hin.out; first | (unfold maxLen; omega) | omega) (by have := HK.out; have := Hn.out; have := Hin.out; first | (unfold maxLen; omega) | omega) ?_
          intro v5 w5 G5
          have Hm5 := Lib.hid (G5.mod0 (Hm3.out.trans' (Gou.Mod.alloc0 _ _)) (own_ge Hown3.out))
          have Hown5 := Lib.hid G5.own
          clear G5
          obtain ⟨p5, c5, rfl⟩ := Gou.ownsRow_form Hown5.out
          go_wp2_with fail
          have hN := Hn.out
          go_roundw
          case rel =>
            refine ⟨i + 1, joinStep (m ++ [t]) ⟨a, b'⟩, by go_num, by have := Hin.out; omega, Hstep.out, ?_, ?_, Hm5.out⟩
            · rw [Hj.out]; have := HK.out; have := HKm.out; simp; omega
            · obtain rfl := HKm.out; rw [Hj.out, sps_app]; have h := Hown5.out; simpa [sps, spC] using h
          case measure => have := Hin.out; simp [intOf]; omega
    · obtain rfl : i = l.length := by omega
      have e1 : decide ((l.length : Int) < (l.length : Int)) = false := decide_eq_false (by omega)
      have Hj : Hid (joinP l = o) := Lib.hid (by rw [Ho.out, List.take_length]; rfl)
      go_wp2_with fail
      go_ret
      exact ⟨Hm.out, _, rfl, by rw [Hj.out]; exact Hown.out⟩

end Go.Proofs.YtlpieeeeolfclaaGreatDoor

