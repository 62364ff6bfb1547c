/- Texts of the scenes' proofs, laid together: RjL, RkB, RkC, RgI. -/
import Derived.Shelf.SlSortCmp.WholeK
import Derived.Shelf.SlSortCmp.NoneTotal
import Derived.Shelf.SortG.Plain
import Derived.Shelf.SortG.SortNone
import Derived.Shelf.SlicesG.CompactI
import Derived.Shelf.SlicesQ.Equal
import Derived.Test.YtlpieeeeolfclaaGreatDoorProg
import Derived.Test.YtlpieeeeolfclaaGreatDoorZaf
import Derived.Test.YtlpieeeeolfclaaGreatDoorZac
set_option linter.unusedSimpArgs false
set_option linter.unusedVariables false
set_option linter.unusedSectionVars false
set_option linter.constructorNameAsVariable false

/- The library's functions at this program: where the shelf's contracts lie (printed by mklay.py out of the shelf's own command). -/
namespace Go.Proofs.YtlpieeeeolfclaaGreatDoor
open Go.Shelf
def sortSp_ren : Go.Shelf.Ren := ⟨fun | 6 => 81 | 15 => 89 | 14 => 90 | 28 => 100 | 29 => 101 | 20 => 102 | 21 => 103 | 22 => 104 | 23 => 105 | 24 => 106 | 25 => 107 | 26 => 108 | 27 => 109 | 46 => 116 | 47 => 111 | 48 => 112 | 49 => 117 | 50 => 118 | 57 => 120 | n => n, fun | 22 => 102 | 24 => 108 | 25 => 121 | 3 => 3 | 39 => 126 | 0 => 0 | 53 => 131 | 55 => 142 | 4 => 4 | 46 => 134 | 45 => 133 | 50 => 138 | 5 => 5 | 9 => 9 | 66 => 148 | 70 => 110 | 76 => 155 | 77 => 156 | n => n, fun | n => n⟩
theorem sortSp : Go.Proofs.SlLaysF0.n6 Tryz.prog sortSp_ren := {
  mixed := by kernel_rfl
  f6 := ⟨Tryz.f81.name, by decide, Tryz.func81.trans (congrArg some (by kernel_rfl))⟩
  f14 := ⟨Tryz.f90.name, by decide, Tryz.func90.trans (congrArg some (by kernel_rfl))⟩
  f15 := Tryz.func89.trans (congrArg some (by kernel_rfl))
  f20 := ⟨Tryz.f102.name, by decide, Tryz.func102.trans (congrArg some (by kernel_rfl))⟩
  f21 := ⟨Tryz.f103.name, by decide, Tryz.func103.trans (congrArg some (by kernel_rfl))⟩
  f22 := ⟨Tryz.f104.name, by decide, Tryz.func104.trans (congrArg some (by kernel_rfl))⟩
  f23 := ⟨Tryz.f105.name, by decide, Tryz.func105.trans (congrArg some (by kernel_rfl))⟩
  f24 := ⟨Tryz.f106.name, by decide, Tryz.func106.trans (congrArg some (by kernel_rfl))⟩
  f25 := ⟨Tryz.f107.name, by decide, Tryz.func107.trans (congrArg some (by kernel_rfl))⟩
  f26 := ⟨Tryz.f108.name, by decide, Tryz.func108.trans (congrArg some (by kernel_rfl))⟩
  f27 := ⟨Tryz.f109.name, by decide, Tryz.func109.trans (congrArg some (by kernel_rfl))⟩
  f28 := Tryz.func100.trans (congrArg some (by kernel_rfl))
  f29 := Tryz.func101.trans (congrArg some (by kernel_rfl))
  f46 := ⟨Tryz.f116.name, by decide, Tryz.func116.trans (congrArg some (by kernel_rfl))⟩
  f47 := Tryz.func111.trans (congrArg some (by kernel_rfl))
  f48 := Tryz.func112.trans (congrArg some (by kernel_rfl))
  f49 := ⟨Tryz.f117.name, by decide, Tryz.func117.trans (congrArg some (by kernel_rfl))⟩
  f50 := ⟨Tryz.f118.name, by decide, Tryz.func118.trans (congrArg some (by kernel_rfl))⟩
  f57 := ⟨Tryz.f120.name, by decide, Tryz.func120.trans (congrArg some (by kernel_rfl))⟩
  t0 := Tryz.underlying0
  a0 := Tryz.isAgg0
  z0 := Tryz.sizeOf0
  v0 := Tryz.zeroValue0
  t3 := Tryz.underlying3
  a3 := Tryz.isAgg3
  z3 := Tryz.sizeOf3
  v3 := Tryz.zeroValue3
  t4 := Tryz.underlying4
  a4 := Tryz.isAgg4
  z4 := Tryz.sizeOf4
  v4 := Tryz.zeroValue4
  t5 := Tryz.underlying5
  a5 := Tryz.isAgg5
  z5 := Tryz.sizeOf5
  v5 := Tryz.zeroValue5
  t9 := Tryz.underlying9
  a9 := Tryz.isAgg9
  z9 := Tryz.sizeOf9
  v9 := Tryz.zeroValue9
  t22 := Tryz.underlying102
  a22 := Tryz.isAgg102
  z22 := Tryz.sizeOf102
  v22 := Tryz.zeroValue102
  t25 := Tryz.underlying121
  a25 := Tryz.isAgg121
  z25 := Tryz.sizeOf121
  v25 := Tryz.zeroValue121
  t39 := Tryz.underlying126
  a39 := Tryz.isAgg126
  z39 := Tryz.sizeOf126
  v39 := Tryz.zeroValue126
  t45 := Tryz.underlying133
  a45 := Tryz.isAgg133
  z45 := Tryz.sizeOf133
  v45 := Tryz.zeroValue133
  t46 := Tryz.underlying134
  a46 := Tryz.isAgg134
  z46 := Tryz.sizeOf134
  v46 := Tryz.zeroValue134
  t50 := Tryz.underlying138
  a50 := Tryz.isAgg138
  z50 := Tryz.sizeOf138
  v50 := Tryz.zeroValue138
  t53 := Tryz.underlying131
  a53 := Tryz.isAgg131
  z53 := Tryz.sizeOf131
  v53 := Tryz.zeroValue131
  t55 := Tryz.underlying142
  a55 := Tryz.isAgg142
  z55 := Tryz.sizeOf142
  v55 := Tryz.zeroValue142
  t66 := Tryz.underlying148
  a66 := Tryz.isAgg148
  z66 := Tryz.sizeOf148
  v66 := Tryz.zeroValue148
  t70 := Tryz.underlying110
  a70 := Tryz.isAgg110
  z70 := Tryz.sizeOf110
  v70 := Tryz.zeroValue110
  t76 := Tryz.underlying155
  a76 := Tryz.isAgg155
  z76 := Tryz.sizeOf155
  v76 := Tryz.zeroValue155
  t77 := Tryz.underlying156
  a77 := Tryz.isAgg156
  z77 := Tryz.sizeOf156
  v77 := Tryz.zeroValue156 }
def sortInt_ren : Go.Shelf.Ren := ⟨fun | 53 => 78 | 64 => 89 | 63 => 88 | 78 => 100 | 79 => 101 | 70 => 91 | 71 => 92 | 72 => 93 | 73 => 94 | 74 => 95 | 75 => 96 | 59 => 97 | 76 => 98 | 77 => 99 | 88 => 110 | 89 => 111 | 90 => 112 | 91 => 113 | 92 => 114 | 68 => 115 | 96 => 119 | n => n, fun | 22 => 35 | 23 => 3 | 3 => 3 | 51 => 126 | 0 => 0 | 67 => 131 | 69 => 142 | 4 => 4 | 61 => 134 | 60 => 133 | 44 => 138 | 5 => 5 | 9 => 9 | 75 => 148 | 79 => 110 | 83 => 155 | 84 => 156 | n => n, fun | n => n⟩
theorem sortInt : Go.Proofs.SlLaysN.n53 Tryz.prog sortInt_ren := {
  mixed := by kernel_rfl
  f53 := ⟨Tryz.f78.name, by decide, Tryz.func78.trans (congrArg some (by kernel_rfl))⟩
  f59 := ⟨Tryz.f97.name, by decide, Tryz.func97.trans (congrArg some (by kernel_rfl))⟩
  f63 := ⟨Tryz.f88.name, by decide, Tryz.func88.trans (congrArg some (by kernel_rfl))⟩
  f64 := Tryz.func89.trans (congrArg some (by kernel_rfl))
  f68 := ⟨Tryz.f115.name, by decide, Tryz.func115.trans (congrArg some (by kernel_rfl))⟩
  f70 := ⟨Tryz.f91.name, by decide, Tryz.func91.trans (congrArg some (by kernel_rfl))⟩
  f71 := ⟨Tryz.f92.name, by decide, Tryz.func92.trans (congrArg some (by kernel_rfl))⟩
  f72 := ⟨Tryz.f93.name, by decide, Tryz.func93.trans (congrArg some (by kernel_rfl))⟩
  f73 := ⟨Tryz.f94.name, by decide, Tryz.func94.trans (congrArg some (by kernel_rfl))⟩
  f74 := ⟨Tryz.f95.name, by decide, Tryz.func95.trans (congrArg some (by kernel_rfl))⟩
  f75 := ⟨Tryz.f96.name, by decide, Tryz.func96.trans (congrArg some (by kernel_rfl))⟩
  f76 := ⟨Tryz.f98.name, by decide, Tryz.func98.trans (congrArg some (by kernel_rfl))⟩
  f77 := ⟨Tryz.f99.name, by decide, Tryz.func99.trans (congrArg some (by kernel_rfl))⟩
  f78 := Tryz.func100.trans (congrArg some (by kernel_rfl))
  f79 := Tryz.func101.trans (congrArg some (by kernel_rfl))
  f88 := ⟨Tryz.f110.name, by decide, Tryz.func110.trans (congrArg some (by kernel_rfl))⟩
  f89 := Tryz.func111.trans (congrArg some (by kernel_rfl))
  f90 := Tryz.func112.trans (congrArg some (by kernel_rfl))
  f91 := ⟨Tryz.f113.name, by decide, Tryz.func113.trans (congrArg some (by kernel_rfl))⟩
  f92 := ⟨Tryz.f114.name, by decide, Tryz.func114.trans (congrArg some (by kernel_rfl))⟩
  f96 := ⟨Tryz.f119.name, by decide, Tryz.func119.trans (congrArg some (by kernel_rfl))⟩
  t0 := Tryz.underlying0
  a0 := Tryz.isAgg0
  z0 := Tryz.sizeOf0
  v0 := Tryz.zeroValue0
  t3 := Tryz.underlying3
  a3 := Tryz.isAgg3
  z3 := Tryz.sizeOf3
  v3 := Tryz.zeroValue3
  t4 := Tryz.underlying4
  a4 := Tryz.isAgg4
  z4 := Tryz.sizeOf4
  v4 := Tryz.zeroValue4
  t5 := Tryz.underlying5
  a5 := Tryz.isAgg5
  z5 := Tryz.sizeOf5
  v5 := Tryz.zeroValue5
  t9 := Tryz.underlying9
  a9 := Tryz.isAgg9
  z9 := Tryz.sizeOf9
  v9 := Tryz.zeroValue9
  t22 := Tryz.underlying35
  a22 := Tryz.isAgg35
  z22 := Tryz.sizeOf35
  v22 := Tryz.zeroValue35
  t23 := Tryz.underlying3
  a23 := Tryz.isAgg3
  z23 := Tryz.sizeOf3
  v23 := Tryz.zeroValue3
  t44 := Tryz.underlying138
  a44 := Tryz.isAgg138
  z44 := Tryz.sizeOf138
  v44 := Tryz.zeroValue138
  t51 := Tryz.underlying126
  a51 := Tryz.isAgg126
  z51 := Tryz.sizeOf126
  v51 := Tryz.zeroValue126
  t60 := Tryz.underlying133
  a60 := Tryz.isAgg133
  z60 := Tryz.sizeOf133
  v60 := Tryz.zeroValue133
  t61 := Tryz.underlying134
  a61 := Tryz.isAgg134
  z61 := Tryz.sizeOf134
  v61 := Tryz.zeroValue134
  t67 := Tryz.underlying131
  a67 := Tryz.isAgg131
  z67 := Tryz.sizeOf131
  v67 := Tryz.zeroValue131
  t69 := Tryz.underlying142
  a69 := Tryz.isAgg142
  z69 := Tryz.sizeOf142
  v69 := Tryz.zeroValue142
  t75 := Tryz.underlying148
  a75 := Tryz.isAgg148
  z75 := Tryz.sizeOf148
  v75 := Tryz.zeroValue148
  t79 := Tryz.underlying110
  a79 := Tryz.isAgg110
  z79 := Tryz.sizeOf110
  v79 := Tryz.zeroValue110
  t83 := Tryz.underlying155
  a83 := Tryz.isAgg155
  z83 := Tryz.sizeOf155
  v83 := Tryz.zeroValue155
  t84 := Tryz.underlying156
  a84 := Tryz.isAgg156
  z84 := Tryz.sizeOf156
  v84 := Tryz.zeroValue156 }
def compInt_ren : Go.Shelf.Ren := ⟨fun | 43 => 79 | n => n, fun | 22 => 35 | 23 => 3 | 3 => 3 | 4 => 4 | 0 => 0 | n => n, fun | n => n⟩
theorem compInt : Go.Proofs.SlLaysN.n43 Tryz.prog compInt_ren := {
  mixed := by kernel_rfl
  f43 := ⟨Tryz.f79.name, by decide, Tryz.func79.trans (congrArg some (by kernel_rfl))⟩
  t0 := Tryz.underlying0
  a0 := Tryz.isAgg0
  z0 := Tryz.sizeOf0
  v0 := Tryz.zeroValue0
  t3 := Tryz.underlying3
  a3 := Tryz.isAgg3
  z3 := Tryz.sizeOf3
  v3 := Tryz.zeroValue3
  t4 := Tryz.underlying4
  a4 := Tryz.isAgg4
  z4 := Tryz.sizeOf4
  v4 := Tryz.zeroValue4
  t22 := Tryz.underlying35
  a22 := Tryz.isAgg35
  z22 := Tryz.sizeOf35
  v22 := Tryz.zeroValue35
  t23 := Tryz.underlying3
  a23 := Tryz.isAgg3
  z23 := Tryz.sizeOf3
  v23 := Tryz.zeroValue3
  i23 := by kernel_rfl }
def eqSp_ren : Go.Shelf.Ren := ⟨fun | 8 => 71 | n => n, fun | 22 => 102 | 24 => 108 | 4 => 4 | 3 => 3 | 0 => 0 | n => n, fun | n => n⟩
theorem eqSp : Go.Proofs.SlLaysQ.n8 Tryz.prog eqSp_ren := {
  mixed := by kernel_rfl
  f8 := ⟨Tryz.f71.name, by decide, Tryz.func71.trans (congrArg some (by kernel_rfl))⟩
  t0 := Tryz.underlying0
  a0 := Tryz.isAgg0
  z0 := Tryz.sizeOf0
  v0 := Tryz.zeroValue0
  t3 := Tryz.underlying3
  a3 := Tryz.isAgg3
  z3 := Tryz.sizeOf3
  v3 := Tryz.zeroValue3
  t4 := Tryz.underlying4
  a4 := Tryz.isAgg4
  z4 := Tryz.sizeOf4
  v4 := Tryz.zeroValue4
  t22 := Tryz.underlying102
  a22 := Tryz.isAgg102
  z22 := Tryz.sizeOf102
  v22 := Tryz.zeroValue102 }
end Go.Proofs.YtlpieeeeolfclaaGreatDoor

/- Regions: a row of spans is sorted; a row of numbers is sorted. -/
namespace Go.Gou
open Go.RowKit Go.Reg

instance : Inhabited Sp := ⟨⟨0, 0⟩⟩

theorem mod_putRow {α : Type} [Inhabited α] (enc : α → Value) (w : World) (n blk off : Nat) (d : Array α) (os : Array Obj) : Mod (fun k => k = blk) w (Sort.grow (Sort.putRow enc (Sort.ahead w n) blk off d) os) := by
  refine ⟨rfl, rfl, rfl, ?_, fun k hk hs => ?_⟩
  · show w.heap.size ≤ ((Sort.putRow enc (Sort.ahead w n) blk off d).heap ++ os).size
    rw [Array.size_append, Sort.size_putRow]
    show w.heap.size ≤ w.heap.size + _
    omega
  · show ((Sort.putRow enc (Sort.ahead w n) blk off d).heap ++ os)[k]? = _
    rw [Array.getElem?_append_left (by rw [Sort.size_putRow]; exact hk)]
    show (w.heap.modify blk _)[k]? = _
    rw [Array.getElem?_modify, if_neg (fun e => hs e.symm)]

/-- A span's cells, its beginning cut to the plane. -/
def encN (s : Sp) : List Value := [.int .i64 (cutN s.a), .int .i64 s.b]
def cfN (x y : Sp) : Int := cutN x.a - cutN y.a

theorem ltN (x y : Sp) : Go.Proofs.ltOf cfN x y = decide (cutN x.a < cutN y.a) := by
  unfold Go.Proofs.ltOf cfN
  rw [decide_eq_decide]
  omega
theorem swoN : Sort.SWO (Go.Proofs.ltOf cfN) where
  irrefl x := by rw [ltN]; simp
  trans x y z h1 h2 := by rw [ltN] at *; simp at *; omega
  ntrans x y z h1 h2 := by rw [ltN] at *; simp at *; omega

theorem encN_near {s : Sp} (h : Near s.a) : encN s = spC s := by
  unfold Near far at h
  have : cutN s.a = s.a := by unfold cutN far; omega
  simp [encN, spC, this]

theorem holds_sps {w : World} {B g cap n : Nat} {e : TypeId} {l : List Sp} (hn : n = l.length) (h : w.ownsRow B e 2 (.slice (some ⟨g, 0, none⟩) n cap) n (sps l)) (hN : ∀ s ∈ l, Near s.a) : Sort.HoldsK encN 2 w g 0 l.toArray := by
  subst hn
  intro j hj
  rw [Sort.size_flatK] at hj
  rw [Sort.get_flatK _ _ _ _ hj, Nat.zero_add]
  have hj' : j < l.length * 2 := by simpa using hj
  refine ⟨?_, h.frozenAt j⟩
  rw [h.cellAt j hj']
  clear hj h
  obtain ⟨q, r, hr, rfl⟩ : ∃ q r, r < 2 ∧ j = q * 2 + r := ⟨j / 2, j % 2, by omega, by omega⟩
  have hi : q < l.length := by omega
  have hq : (q * 2 + r) / 2 = q := by omega
  have hm : (q * 2 + r) % 2 = r := by omega
  have hb : l.toArray[q]! = l[q] := by simp [hi]
  obtain ⟨g0, g1⟩ := sps_get l q hi
  rw [hq, hm, hb, encN_near (hN _ (List.getElem_mem hi))]
  rcases (by omega : r = 0 ∨ r = 1) with rfl | rfl
  · rw [Nat.add_zero, g0]; rfl
  · rw [g1]; rfl

theorem spR_of_holds {w : World} {g cap n : Nat} {l : List Sp} (hn : n = l.length) (hcap : n ≤ cap) (hg : g < w.heap.size) (h : Sort.HoldsK encN 2 w g 0 l.toArray) (hN : ∀ s ∈ l, Near s.a) (G : Nat → Prop) (hG : G g) : SpR G w (.slice (some ⟨g, 0, none⟩) n cap) l := by
  subst hn
  refine ⟨by rw [sps_len], _, cap, rfl, hcap, .inr ⟨g, 0, rfl, hg, hG, fun j u hu => ?_⟩⟩
  have hj : j < l.length * 2 := by
    have := (List.getElem?_eq_some_iff.1 hu).1
    rwa [sps_len] at this
  obtain ⟨q, r, hr, rfl⟩ : ∃ q r, r < 2 ∧ j = q * 2 + r := ⟨j / 2, j % 2, by omega, by omega⟩
  have hi : q < l.length := by omega
  have hc := (Sort.HoldsK.cell h (i := q) (c := r) (by simpa using hi) (by omega)).1
  have hb : l.toArray[q]! = l[q] := by simp [hi]
  rw [hb, encN_near (hN _ (List.getElem_mem hi))] at hc
  obtain ⟨g0, g1⟩ := sps_get l q hi
  rw [← Nat.add_assoc, hc, ← hu]
  rcases (by omega : r = 0 ∨ r = 1) with rfl | rfl
  · rw [Nat.add_zero, g0]; rfl
  · rw [g1]; rfl

/-- What the sort has left: the same spans, rising. -/
theorem sorted_rise {l : List Sp} {d' : Array Sp} (hp : Sort.PermIn 0 l.toArray.size l.toArray d') (hs : Sort.SortedIn (Go.Proofs.ltOf cfN) 0 l.toArray.size d') (hN : ∀ s ∈ l, Near s.a) : d'.size = l.length ∧ d'.toList.Perm l ∧ Rise d'.toList := by
  obtain ⟨h1, _, h3⟩ := hp
  have hz : d'.size = l.length := by simpa using h1
  have hperm : d'.toList.Perm l := by
    have e1 : d'.extract 0 l.toArray.size = d' := by rw [← h1]; simp
    have e2 : l.toArray.extract 0 l.toArray.size = l.toArray := by simp
    rw [e1, e2] at h3
    simpa using h3
  refine ⟨hz, hperm, ?_⟩
  rw [Rise, List.pairwise_iff_getElem]
  intro i j hi hj hij
  have hj' : j < d'.size := by simpa using hj
  have hi' : i < d'.size := by simpa using hi
  have := hs i j (by omega) hij (by rw [← h1]; exact hj')
  rw [ltN] at this
  have n1 := hN _ (hperm.mem_iff.1 (List.getElem_mem hi))
  have n2 := hN _ (hperm.mem_iff.1 (List.getElem_mem hj))
  have e1 : d'[i]! = d'.toList[i] := by simp [hi']
  have e2 : d'[j]! = d'.toList[j] := by simp [hj']
  rw [e1, e2] at this
  simp only [decide_eq_false_iff_not] at this
  unfold Near cutN far at *
  omega

end Go.Gou
namespace Go.Proofs.YtlpieeeeolfclaaGreatDoor
open Go.RowKit Go.Gou Go.Reg Go.Shelf
set_option maxRecDepth 100000

set_option maxHeartbeats 1000000 in
theorem closure_any (a0 a1 b0 b1 : Int) (W : World) (hw : IntKind.i64.wrap (a0 - b0) = a0 - b0) :
    Calls Tryz.prog 82 #[.agg #[.int .i64 a0, .int .i64 a1], .agg #[.int .i64 b0, .int .i64 b1]] W fun e w' => e = .returned (.int .i64 (a0 - b0)) ∧ ∃ q os', w' = Sort.grow (W.drewN q) os' := by
  go_enter Tryz.func82, Tryz.ntmps82
  go_wp2
  go_ret
  exact ⟨rfl, 0, _, by rw [Sort.alloc_eq_grow, Sort.alloc_eq_grow, Sort.grow_grow]; rfl⟩

theorem sortSp_any (w : World) (B : Nat) (v : Value) (l : List Sp) (hown : w.ownsRow B 108 2 v l.length (sps l)) (hN : ∀ s ∈ l, Near s.a) (hl : l.length ≤ 4000000000) :
    Calls Tryz.prog 81 #[v, .func (.func 82) #[] #[]] w fun e w' => e = .returned (.tuple #[]) ∧ Gou.Mod (fun k => v.ownBlock = some k) w w' ∧ ∃ l' : List Sp, l'.Perm l ∧ Rise l' ∧ SpR (fun _ => True) w' v l' := by
  have hlt := hown.lt
  rcases hown.2 with ⟨rfl, h0⟩ | ⟨g, cap, cur, rfl, hg, hh, hn, _⟩
  · have hl0 : l = [] := List.length_eq_zero_iff.1 h0
    subst hl0
    refine (AnyF.slices_SortFunc_none sortSp none 0 _ w).mono ?_
    rintro e w' ⟨rfl, rfl⟩
    exact ⟨rfl, Gou.Mod.refl _ _, [], List.Perm.refl _, List.Pairwise.nil, RowG.nil _ _ _⟩
  · have eg : ∀ args w, (callFunc 82 args).run Tryz.prog w = .ok (.enter 82 args) w := enters_of Tryz.func82 (by kernel_rfl) rfl
    have hH := holds_sps rfl hown hN
    have hc : CmpLays Tryz.prog 82 #[] encN 2 cfN g 0 l.toArray.size w := fun _ _ _ _ x y => closure_any _ _ _ _ _ (wrap_id (by unfold cutN far; omega) (by unfold cutN far; omega))
    have hcon := AnyQ.slices_SortFunc sortSp 2 Tryz.isAgg108 Tryz.sizeOf108 encN (fun _ => rfl) (fun x v hv => by simp [encN] at hv; rcases hv with rfl | rfl <;> rfl) cfN swoN 82 #[] g 0 cap l.toArray w eg hc hH (hlt g rfl).2 (by simp; omega)
    have hsz : l.toArray.size = l.length := by simp
    rw [hsz] at hcon
    refine hcon.mono ?_
    rintro e w' ⟨rfl, d', n, os, hp, hs, rfl⟩
    obtain ⟨hz, hperm, hrise⟩ := sorted_rise (by rw [hsz]; exact hp) (by rw [hsz]; exact hs) hN
    refine ⟨rfl, (mod_putRow _ w n g 0 _ os).imp (fun k _ h => by rw [h]; rfl), d'.toList, hperm, hrise, ?_⟩
    have hH' := holdsK_sortWorldK_c encN 2 w g 0 l.toArray d' n os hH (hlt g rfl).2 (by rw [hsz]; exact hz)
    refine spR_of_holds (by rw [Array.length_toList]; exact hz.symm) hn ?_ (by simpa using hH') (fun s hs => hN s (hperm.mem_iff.1 hs)) _ trivial
    exact Nat.lt_of_lt_of_le (hlt g rfl).2 (size_sortWorldK_c encN 2 w g 0 n d' os)

end Go.Proofs.YtlpieeeeolfclaaGreatDoor

/- Regions: a row's spans. -/
namespace Go.Gou
open Go.RowKit Go.Reg

theorem joinP_run_len : ∀ (l o : List Sp), (l.foldl joinStep o).length ≤ o.length + l.length
  | [], o => by simp
  | s :: l, o => by
    have h1 := joinStep_len o s
    have h2 := joinP_run_len l (joinStep o s)
    simp only [List.foldl_cons, List.length_cons]
    omega
theorem joinP_len (l : List Sp) : (joinP l).length ≤ l.length := by
  have := joinP_run_len l []
  simpa [joinP] using this
theorem rowOf_snoc (l : List Rt) (r : Rt) (y : Int) : rowOf (l ++ [r]) y = rowOf l y ++ (if r.y0 ≤ y ∧ y < r.y1 ∧ r.x0 < r.x1 then [⟨r.x0, r.x1⟩] else []) := by
  unfold rowOf
  rw [List.filter_append, List.map_append]
  congr 1
  by_cases h : r.y0 ≤ y ∧ y < r.y1 ∧ r.x0 < r.x1 <;> simp [h]
theorem rowOf_len (l : List Rt) (y : Int) : (rowOf l y).length ≤ l.length := by
  unfold rowOf
  rw [List.length_map]
  exact List.length_filter_le _ _
theorem rowOf_near {l : List Rt} {y : Int} (h : ∀ r ∈ l, Near r.x0) : ∀ s ∈ rowOf l y, Near s.a := by
  intro s hs
  unfold rowOf at hs
  rw [List.mem_map] at hs
  obtain ⟨r, hr, rfl⟩ := hs
  exact h r (List.mem_filter.1 hr).1
/-- Sorted and joined, a row's spans are what they are to be. -/
theorem spans_law {l : List Rt} {y : Int} {l' : List Sp} (hp : l'.Perm (rowOf l y)) (hr : Rise l') : Canon (joinP l') ∧ (∀ x, In (joinP l') x ↔ Has l x y) ∧ (joinP l').length ≤ l.length := by
  have hs : ∀ s ∈ l', s.a < s.b := fun s h => rowOf_some l y s (hp.mem_iff.1 h)
  obtain ⟨h1, h2⟩ := joinP_canon hs hr
  refine ⟨h1, fun x => ?_, Nat.le_trans (joinP_len l') (by rw [hp.length_eq]; exact rowOf_len l y)⟩
  rw [h2, ← rowOf_in]
  constructor
  · rintro ⟨s, h, k⟩
    exact ⟨s, hp.mem_iff.1 h, k⟩
  · rintro ⟨s, h, k⟩
    exact ⟨s, hp.mem_iff.2 h, k⟩
theorem Mod.own {w wr w2 : World} {e : TypeId} {k n : Nat} {v : Value} {cs : List Value} (h : Mod (fun _ => False) w wr) (hv : wr.ownsRow w.heap.size e k v n cs) (hm : Mod (fun b => v.ownBlock = some b) wr w2) : Mod (fun _ => False) w w2 :=
  h.trans hm fun i hi hs => absurd (own_ge hv i hs) (by omega)

end Go.Gou
namespace Go.Proofs.YtlpieeeeolfclaaGreatDoor
open Go.RowKit Go.Gou Go.Reg
set_option maxRecDepth 100000

/-- What a row's spans come to. -/
def SpansP (w : World) (l : List Rt) (y : Int) (e : Ending) (w' : World) : Prop :=
  Gou.Mod (fun _ => False) w w' ∧ ∃ v s, e = .returned v ∧ w'.ownsRow w.heap.size 108 2 v s.length (sps s) ∧ Canon s ∧ (∀ x, In s x ↔ Has l x y) ∧ s.length ≤ l.length

set_option maxHeartbeats 8000000 in
theorem spans_any (w : World) (G : Nat → Prop) (p : Option Addr) (c : Nat) (l : List Rt) (y : Int) (hl : RtR G w (.slice p l.length c) l) (hn : l.length ≤ 4000000000) (hN : ∀ r ∈ l, Near r.x0) :
    Calls Tryz.prog 70 #[.slice p l.length c, .int .i64 y] w (SpansP w l y) := by
  have HL := Lib.hid hl
  have Hn := Lib.hid hn
  have HN := Lib.hid hN
  clear hl hn hN
  go_enter Tryz.func70, Tryz.ntmps70
  go_wp2_with fail
  go_loopw [5, 10] (fun vo vi wr => ∃ (i : Nat) (o : List Sp), vi = .int .i64 i ∧ i ≤ l.length ∧ o = rowOf (l.take i) y ∧ o.length ≤ i ∧ wr.ownsRow w.heap.size 108 2 vo o.length (sps o) ∧ Gou.Mod (fun _ => False) w wr) (fun _ vi _ => l.length - (intOf vi).toNat)
  case atStart => exact ⟨0, [], rfl, by omega, rfl, by simp, World.ownsRow_nil _ _ _ _, Gou.Mod.refl _ _⟩
  case round =>
    obtain ⟨i, o, rfl, hi, ho, hol, hown, hm⟩ := hrel
    obtain ⟨po, co, rfl⟩ := Gou.ownsRow_form hown
    have Ho := Lib.hid ho
    have Hol := Lib.hid hol
    have Hown := Lib.hid hown
    have Hm := Lib.hid hm
    clear ho hol hown hm
    by_cases hil : i < l.length
    · have e1 : decide ((i : Int) < (l.length : Int)) = true := decide_eq_true (by omega)
      obtain ⟨-, bl, off, rfl, hb, -, hc⟩ := HL.out.cells (by omega)
      obtain ⟨k0, k1, k2, k3⟩ := hc i hil
      rw [← Hm.out.cell (p := ⟨bl, off + i * 4, none⟩) hb (fun h => h)] at k0
      rw [← Hm.out.cell (p := ⟨bl, off + i * 4 + 1, none⟩) hb (fun h => h)] at k1
      rw [← Hm.out.cell (p := ⟨bl, off + i * 4 + 2, none⟩) hb (fun h => h)] at k2
      rw [← Hm.out.cell (p := ⟨bl, off + i * 4 + 3, none⟩) hb (fun h => h)] at k3
      have hi1 : (i : Int) < (l.length : Int) := by omega
      have hi0 : (0 : Int) ≤ (i : Int) := by omega
      have wi : IntKind.i64.wrap ((i : Int) + 1) = (i : Int) + 1 := wrap_id (by omega) (by have := Hn.out; omega)
      have Hstep : Hid (rowOf (l.take (i + 1)) y = o ++ (if l[i].y0 ≤ y ∧ y < l[i].y1 ∧ l[i].x0 < l[i].x1 then [⟨l[i].x0, l[i].x1⟩] else [])) := Lib.hid (by rw [Ho.out, List.take_succ_eq_append_getElem hil, rowOf_snoc])
      have Hin := Lib.hid (And.intro hi hil)
      clear hc
      generalize l[i] = s at *
      obtain ⟨a, b, c', d⟩ := s
      simp only at k0 k1 k2 k3
      by_cases hq : b ≤ y ∧ y < d ∧ a < c'
      · obtain ⟨q1, q2, q3⟩ := hq
        have t1 : decide (b ≤ y) = true := decide_eq_true q1
        have t2 : decide (y < d) = true := decide_eq_true q2
        have t3 : decide (a < c') = true := decide_eq_true q3
        have Hs2 : Hid (rowOf (l.take (i + 1)) y = o ++ [⟨a, c'⟩]) := Lib.hid (by rw [Hstep.out, if_pos ⟨q1, q2, q3⟩])
        have Hown2 := Lib.hid (own_up Hown.out (Gou.Mod.alloc0 wr (.cells #[.int .i64 a, .int .i64 b, .int .i64 c', .int .i64 d] 32)))
        have Hm2 : Hid (Gou.Mod (fun _ => False) w (wr.alloc (.cells #[.int .i64 a, .int .i64 b, .int .i64 c', .int .i64 d] 32))) := Lib.hid (Hm.out.trans' (Gou.Mod.alloc0 _ _))
        clear q1 q2 q3 Hstep
        go_wp2_with (first | ((with_reducible show wpList _ _ _ (⟨_, Op.call ⟨.builtin .append, _, _⟩, _, _, _, _⟩ :: _) _ _); refine halt ?_) | fail)
        refine wpList_append_row T_sp rfl _ _ rfl (w.heap.size) (.slice po o.length co) (o.length) (sps o) (fun _ => True) (.slice (some ⟨wr.heap.size + 1, 0, none⟩) 1 1) (1) ([.int .i64 a, .int .i64 c']) rfl rfl (by have := Hm2.out.size; simp at this ⊢; omega) (own_up Hown2.out (Gou.Mod.alloc0 _ _)) (RowG.of_blk (two_new wr _ _ #[.int .i64 a, .int .i64 b, .int .i64 c', .int .i64 d] #[.int .i64 a, .int .i64 c']).2 2 1 rfl _ trivial) (spC_one ⟨a, c'⟩) (by have := Hol.out; have := Hn.out; have := Hin.out; first | (unfold maxLen; omega) | omega) (by have := Hol.out; have := Hn.out; have := Hin.out; first | (unfold maxLen; omega) | omega) ?_
        intro v5 w5 G5
        have Hm5 := Lib.hid (G5.mod0 (Hm2.out.trans' (Gou.Mod.alloc0 _ _)) (own_ge Hown2.out))
        have Hown5 := Lib.hid G5.own
        clear G5
        obtain ⟨p5, c5, rfl⟩ := Gou.ownsRow_form Hown5.out
        go_wp2_with fail
        go_roundw
        case rel =>
          refine ⟨i + 1, rowOf (l.take (i + 1)) y, by go_num, by have := Hin.out; omega, rfl, ?_, ?_, Hm5.out⟩
          · rw [Hs2.out]; have := Hol.out; simp; omega
          · rw [Hs2.out, sps_app]; have h := Hown5.out; simpa [sps, spC] using h
        case measure => have := Hin.out; simp [intOf, wi]; omega
      · have Hs2 : Hid (rowOf (l.take (i + 1)) y = o) := Lib.hid (by rw [Hstep.out, if_neg hq, List.append_nil])
        have Hm2 : Hid (Gou.Mod (fun _ => False) w (wr.alloc (.cells #[.int .i64 a, .int .i64 b, .int .i64 c', .int .i64 d] 32))) := Lib.hid (Hm.out.trans' (Gou.Mod.alloc0 _ _))
        have Hown2 := Lib.hid (own_up Hown.out (Gou.Mod.alloc0 wr (.cells #[.int .i64 a, .int .i64 b, .int .i64 c', .int .i64 d] 32)))
        have hcase : decide (b ≤ y) = false ∨ (decide (b ≤ y) = true ∧ decide (y < d) = false) ∨ (decide (b ≤ y) = true ∧ decide (y < d) = true ∧ decide (a < c') = false) := by
          by_cases q1 : b ≤ y
          · by_cases q2 : y < d
            · have q3 : ¬ a < c' := fun h => hq ⟨q1, q2, h⟩
              exact .inr (.inr ⟨decide_eq_true q1, decide_eq_true q2, decide_eq_false q3⟩)
            · exact .inr (.inl ⟨decide_eq_true q1, decide_eq_false q2⟩)
          · exact .inl (decide_eq_false q1)
        clear hq Hstep
        rcases hcase with t1 | ⟨t1, t2⟩ | ⟨t1, t2, t3⟩
        all_goals
          go_wp2_with fail
          go_roundw
          case rel =>
            refine ⟨i + 1, rowOf (l.take (i + 1)) y, by go_num, by have := Hin.out; omega, rfl, ?_, ?_, Hm2.out⟩
            · rw [Hs2.out]; have := Hol.out; omega
            · rw [Hs2.out]; exact Hown2.out
          case measure => have := Hin.out; simp [intOf, wi]; omega
    · obtain rfl : i = l.length := by omega
      have e1 : decide ((l.length : Int) < (l.length : Int)) = false := decide_eq_false (by omega)
      rw [List.take_length] at Ho
      go_wp2_with fail
      refine (sortSp_any wr w.heap.size (.slice po o.length co) o Hown.out (by rw [Ho.out]; exact rowOf_near HN.out) (by have := Hol.out; have := Hn.out; omega)).mono ?_
      rintro e w2 ⟨rfl, hm2, l', hp, hr, hs2⟩
      obtain ⟨p2, c2, hv2⟩ := hs2.form
      have hll : l'.length = o.length := hp.length_eq
      rw [Ho.out] at hp
      have Hlaw := Lib.hid (spans_law hp hr)
      have Hm2 := Lib.hid (Gou.Mod.own Hm.out Hown.out hm2)
      have Hll := Lib.hid hll
      have Hs2 := Lib.hid hs2
      clear hm2 hp hr hs2
      clear hv2 hll
      go_wp2_with fail
      have hj := joined_any w2 (fun _ => True) po co l' (by rw [Hll.out]; exact Hs2.out) (by have := Hol.out; have := Hn.out; have := Hll.out; omega)
      rw [Hll.out] at hj
      refine hj.mono ?_
      clear hj
      rintro e w3 ⟨hm3, v, rfl, hown3⟩
      have Hend : Hid (SpansP w l y (.returned v) w3) := Lib.hid ⟨Hm2.out.trans' hm3, v, joinP l', rfl, ownsRow_base hown3 Hm2.out.size, Hlaw.out.1, Hlaw.out.2.1, Hlaw.out.2.2⟩
      obtain ⟨p3, c3, rfl⟩ := Gou.ownsRow_form hown3
      clear hm3 hown3
      go_wp2_with fail
      go_ret
      exact Hend.out

end Go.Proofs.YtlpieeeeolfclaaGreatDoor

/- Regions: merge's loops, in plain numbers. -/
namespace Go.Reg

/-- A row's edges from a place on: those that are x are gone over. -/
theorem Next.of_loop {l : List Sp} (hc : Canon l) {i j : Nat} {x c : Int} (hu : Upto (edgesOf l) i c) (hcx : c < x) (hge : ∀ u, (edgesOf l)[i]? = some u → x ≤ u) (hij : i ≤ j) (hj : j ≤ (edgesOf l).length)
    (heq : ∀ m u, i ≤ m → m < j → (edgesOf l)[m]? = some u → u = x) (hend : ∀ u, (edgesOf l)[j]? = some u → u ≠ x) : Next (edgesOf l) i j x := by
  refine ⟨hge, hj, fun m u hm he => ?_, fun m u hm he => ?_⟩
  · rcases Nat.lt_or_ge m i with h | h
    · have := hu.lo m u h he
      omega
    · have := heq m u h hm he
      omega
  · have hml := (List.getElem?_eq_some_iff.1 he).1
    have hjl : j < (edgesOf l).length := by omega
    have hji := List.getElem?_eq_getElem hjl
    have h1 := hend _ hji
    have h2 : x < (edgesOf l)[j] := by
      rcases Nat.lt_or_ge i j with h | h
      · have h3 := hge _ (List.getElem?_eq_getElem (by omega : i < (edgesOf l).length))
        have h4 := edges_rise hc h (List.getElem?_eq_getElem (by omega : i < (edgesOf l).length)) hji
        omega
      · obtain rfl : i = j := by omega
        have := hge _ hji
        omega
    rcases Nat.lt_or_ge j m with h | h
    · have := edges_rise hc h hji he
      omega
    · obtain rfl : j = m := by omega
      rw [hji] at he
      simp only [Option.some.injEq] at he
      omega

/-- Where the next edge is one's own, it is gone over. -/
theorem Next.moves {e : List Int} {i j : Nat} {x : Int} (h : Next e i j x) (hx : e[i]? = some x) : i < j := by
  rcases Nat.lt_or_ge i j with h1 | h1
  · exact h1
  · have := h.up.hi i x h1 hx
    omega

theorem edges_at (l : List Sp) (i : Nat) (h : i < 2 * l.length) : ∃ u, (edgesOf l)[i]? = some u := by
  have : i < (edgesOf l).length := by rw [edgesOf_len]; exact h
  exact ⟨_, List.getElem?_eq_getElem this⟩
theorem edges_end (l : List Sp) (i : Nat) (h : ¬ i < 2 * l.length) : (edgesOf l)[i]? = none := by
  rw [List.getElem?_eq_none_iff, edgesOf_len]
  omega

end Go.Reg

