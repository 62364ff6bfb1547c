/- Texts of the codec's proofs, laid together: RpD. -/
import Derived.Test.YtnamnmipgpcjjaaZo
import Derived.Deep.Cut
import Derived.Deep.CutBlock
set_option linter.unusedSimpArgs false
set_option linter.unusedVariables false
set_option linter.unusedSectionVars false
set_option linter.constructorNameAsVariable false

/- Acts as bytes: the document's bytes of an act. -/
namespace Go.Gou
open Go.RowKit

theorem refPut_out {a : Ac} (h : ¬ (1 ≤ a.kind ∧ a.kind ≤ 14)) : refPut a = none := by
  unfold refPut refEnc
  rw [if_neg h]
  rfl
theorem LookR.lens {G : Nat → Prop} {w : World} {l : Lk} {p1 p2 p3 : Option Addr} {n1 n2 n3 k1 k2 k3 : Nat} (h : LookR G w l (.slice p1 n1 k1) (.slice p2 n2 k2) (.slice p3 n3 k3)) : n1 = l.content.pix.length ∧ n2 = l.filt.nodes.length ∧ n3 = l.back.nodes.length := by
  obtain ⟨p, c, e1, _⟩ := RowG.form h.pix
  obtain ⟨_, _, e2⟩ := NodesR.form h.filt
  obtain ⟨_, _, e3⟩ := NodesR.form h.back
  simp only [Value.slice.injEq] at e1 e2 e3
  exact ⟨e1.2.1, e2.2.1, e3.2.1⟩
/-- A flag's number. -/
def bit (b : Bool) (n : Int) : Int := if b then n else 0
theorem bit_bd (b : Bool) (n : Int) (h : 0 ≤ n) : 0 ≤ bit b n ∧ bit b n ≤ n := by unfold bit; split <;> omega
theorem flags_bits (c : Cf) : flagsOf c = bit c.fuse 1 + bit c.alias 2 + bit c.roi 4 + bit c.damage 8 := by
  rcases c with ⟨f1, f2, f3, f4, rm⟩
  cases f1 <;> cases f2 <;> cases f3 <;> cases f4 <;> rfl
theorem pxOf_not {a : Ac} (h : a.kind ≠ 9) : pxOf a = [] := by rw [pxOf, if_neg h]

end Go.Gou
namespace Go.Proofs.Ytnamnmipgpcjjaa
open Go.RowKit Go.Gou

/-- Behind the first statements: the act's box, and its look's. -/
structure RPut (w : World) (L : Nat) (ca cl : Array Value) (w1 : World) : Prop where
  mod : Gou.Mod (fun _ => False) w w1
  act : Blk w1 w.heap.size 41 ca
  look : Blk w1 L 35 cl
  isL : L = w.heap.size + 1

theorem RPut.start (w wA : World) (ca cl : Array Value) (hA : Blk wA w.heap.size 41 ca) (hm : Gou.Mod (fun _ => False) w wA) (hz : wA.heap.size = w.heap.size + 1) (hs : (LkZ).size = cl.size) : RPut w wA.heap.size ca cl ((wA.alloc (.cells LkZ 35)).setCells wA.heap.size 0 cl.toList) ∧ (wA.alloc (.cells LkZ 35)).there wA.heap.size 0 cl.size := by
  have h := box_put wA 35 LkZ cl hs
  exact ⟨⟨hm.trans' h.1, hA.mod h.1 (fun h => h), h.2.1, hz⟩, h.2.2⟩
theorem RPut.next {w : World} {L : Nat} {ca cl : Array Value} {w1 w2 : World} (h : RPut w L ca cl w1) (hm : Gou.Mod (fun _ => False) w1 w2) : RPut w L ca cl w2 :=
  ⟨h.mod.trans' hm, h.act.mod hm (fun h => h), h.look.mod hm (fun h => h), h.isL⟩
theorem RPut.grow {w : World} {L : Nat} {ca cl : Array Value} {w1 w2 : World} {S : Nat → Prop} (h : RPut w L ca cl w1) (hm : Gou.Mod S w1 w2) (hS : ∀ g, S g → w.heap.size + 2 ≤ g) : RPut w L ca cl w2 :=
  ⟨h.mod.trans hm (fun i hi e => by have := hS i e; omega), h.act.mod hm (fun e => by have := hS _ e; omega), h.look.mod hm (fun e => by have := hS _ e; have := h.isL; omega), h.isL⟩

/-- Numbers on the way. -/
structure RPIn (w : World) (L : Nat) (ca cl : Array Value) (v : Value) (xs : List Int) (W : World) : Prop where
  put : RPut w L ca cl W
  own : W.ownsRow (w.heap.size + 2) 3 1 v xs.length (ivs xs)
theorem RPIn.next {w : World} {L : Nat} {ca cl : Array Value} {v : Value} {xs : List Int} {W W2 : World} (h : RPIn w L ca cl v xs W) (hm : Gou.Mod (fun _ => False) W W2) : RPIn w L ca cl v xs W2 :=
  ⟨h.put.next hm, Gou.ownsRow_mod h.own hm (fun _ _ h => h)⟩
theorem RPIn.step {w : World} {L : Nat} {ca cl : Array Value} {v v' : Value} {xs ys : List Int} {W W2 w5 : World} (h : RPIn w L ca cl v xs W) (hm : Gou.Mod (fun _ => False) W W2) (hown : w5.ownsRow (w.heap.size + 2) 3 1 v' (xs ++ ys).length (ivs (xs ++ ys))) (m5 : Gou.Mod (fun k => v.ownBlock = some k) W2 w5) : RPIn w L ca cl v' (xs ++ ys) w5 :=
  ⟨(h.put.next hm).grow m5 (fun g e => (h.own.lt g e).1), hown⟩
theorem RPIn.start {w : World} {L : Nat} {ca cl : Array Value} {w1 : World} (h : RPut w L ca cl w1) (x : Int × Int) : RPIn w L ca cl (.slice (some ⟨w1.heap.size, 0, none⟩) 2 2) [x.1, x.2] (w1.alloc (.cells #[.int .i64 x.1, .int .i64 x.2] 3)) :=
  ⟨h.next (Gou.Mod.alloc _ _ _), World.ownsRow_lit (base := w.heap.size + 2) (size := 1) (e := 3) w1 #[.int .i64 x.1, .int .i64 x.2] 2 (by have := h.look.lt; have := h.isL; omega) (by unfold maxLen; omega) rfl⟩

/-- Behind the switch. -/
def RPCut (w : World) (a : Ac) (L : Nat) (ca cl : Array Value) (vp vl : Value) (wx : World) : Prop :=
  RPut w L ca cl wx ∧ (∃ p c, vl = .slice p (numsOf a).length c ∧ IntsR (fun _ => True) wx vl (numsOf a)) ∧ (∃ p c, vp = .slice p (pxOf a).length c ∧ PixR (fun _ => True) wx vp (pxOf a))
theorem RPCut.of_in {w : World} {L : Nat} {a : Ac} {ca cl : Array Value} {v : Value} {xs : List Int} {W : World} (h : RPIn w L ca cl v xs W) (hn : numsOf a = xs) (hp : pxOf a = []) : RPCut w a L ca cl (.slice none 0 0) v W := by
  obtain ⟨p, c, rfl⟩ := Gou.ownsRow_form h.own
  refine ⟨h.put, ?_, ?_⟩
  · rw [hn]
    exact ⟨p, c, rfl, RowG.imp (IntsR.of_own h.own) (fun _ _ _ => trivial)⟩
  · rw [hp]
    exact ⟨_, _, rfl, PixR.nil _ _⟩
theorem RPCut.of_lit {w : World} {L : Nat} {a : Ac} {ca cl : Array Value} {v : Value} {xs : List Int} {W : World} (h : RPIn w L ca cl v xs W) (ys : List Int) (n : Nat) (hy : ys.length = n) (hl : n ≤ 10) (hn : numsOf a = ys) (hp : pxOf a = []) : RPCut w a L ca cl (.slice none 0 0) (.slice (some ⟨W.heap.size, 0, none⟩) n n) (W.alloc (.cells (ivs ys).toArray 3)) := by
  refine ⟨h.put.next (Gou.Mod.alloc _ _ _), ?_, ?_⟩
  · rw [hn, hy]
    exact ⟨_, _, rfl, lit_ints W ys n hy hl⟩
  · rw [hp]
    exact ⟨_, _, rfl, PixR.nil _ _⟩
theorem RPCut.of_nil {w : World} {L : Nat} {a : Ac} {ca cl : Array Value} {v : Value} {xs : List Int} {W : World} (h : RPIn w L ca cl v xs W) (hn : numsOf a = []) (hp : pxOf a = []) : RPCut w a L ca cl (.slice none 0 0) (.slice none 0 0) W := by
  refine ⟨h.put, ?_, ?_⟩
  · rw [hn]
    exact ⟨_, _, rfl, RowG.nil _ _ _⟩
  · rw [hp]
    exact ⟨_, _, rfl, PixR.nil _ _⟩

theorem lit_px (w : World) (p : Pxl) : PixR (fun _ => True) (w.alloc (.cells p.cells.toArray 27)) (.slice (some ⟨w.heap.size, 0, none⟩) 1 1) [p] := by
  have := World.ownsRow_lit (base := 0) (size := 4) (e := 27) w p.cells.toArray 1 (by omega) (by unfold maxLen; omega) (by simp [Pxl.cells])
  exact RowG.own_of (by simpa [pxs] using this) fun _ _ _ => trivial
theorem RPCut.of_px {w : World} {L : Nat} {a : Ac} {ca cl : Array Value} {v : Value} {xs : List Int} {W : World} (h : RPIn w L ca cl v xs W) (hn : numsOf a = xs) (p : Pxl) (hp : pxOf a = [p]) : RPCut w a L ca cl (.slice (some ⟨W.heap.size, 0, none⟩) 1 1) v (W.alloc (.cells #[.int .u8 (p.p0 : Nat), .int .u8 (p.p1 : Nat), .int .u8 (p.p2 : Nat), .int .u8 (p.p3 : Nat)] 27)) := by
  have h2 := h.next (Gou.Mod.alloc (fun _ => False) W (.cells #[.int .u8 (p.p0 : Nat), .int .u8 (p.p1 : Nat), .int .u8 (p.p2 : Nat), .int .u8 (p.p3 : Nat)] 27))
  obtain ⟨q, c, rfl⟩ := Gou.ownsRow_form h.own
  refine ⟨h2.put, ?_, ?_⟩
  · rw [hn]
    exact ⟨q, c, rfl, RowG.imp (IntsR.of_own h2.own) (fun _ _ _ => trivial)⟩
  · rw [hp]
    exact ⟨_, _, rfl, lit_px W p⟩
theorem RPCut.of_pix {w : World} {L : Nat} {a : Ac} {ca cl : Array Value} {v : Value} {xs : List Int} {W : World} (h : RPIn w L ca cl v xs W) (hn : numsOf a = xs) {ps : List Pxl} (hp : pxOf a = ps) {q : Option Addr} {c : Nat} (hr : PixR (fun _ => True) W (.slice q ps.length c) ps) : RPCut w a L ca cl (.slice q ps.length c) v W := by
  obtain ⟨q2, c2, rfl⟩ := Gou.ownsRow_form h.own
  refine ⟨h.put, ?_, ?_⟩
  · rw [hn]
    exact ⟨q2, c2, rfl, RowG.imp (IntsR.of_own h.own) (fun _ _ _ => trivial)⟩
  · rw [hp]
    exact ⟨_, _, rfl, hr⟩

/-- Numbers on the way, and a content's box. -/
structure RPCt (w : World) (L : Nat) (ca cl : Array Value) (b : Nat) (cc : Array Value) (v : Value) (xs : List Int) (W : World) : Prop where
  inn : RPIn w L ca cl v xs W
  box : Blk W b 30 cc
  apart : v.ownBlock ≠ some b
theorem RPCt.start {w : World} {L : Nat} {ca cl : Array Value} {i0 : Nat} {xs : List Int} {W0 : World} (h : RPIn w L ca cl (.slice (some ⟨i0, 0, none⟩) 2 2) xs W0) (hi : i0 < W0.heap.size) (z cc : Array Value) (hz : z.size = cc.size) : RPCt w L ca cl W0.heap.size cc (.slice (some ⟨i0, 0, none⟩) 2 2) xs ((W0.alloc (.cells z 30)).setCells W0.heap.size 0 cc.toList) := by
  have hb := box_put W0 30 z cc hz
  exact ⟨h.next hb.1, hb.2.1, fun e => by simp [Value.ownBlock] at e; omega⟩
theorem RPCt.step {w : World} {L : Nat} {ca cl : Array Value} {b : Nat} {cc : Array Value} {v v' : Value} {xs ys : List Int} {W W2 w5 : World} (h : RPCt w L ca cl b cc v xs W) (hm : Gou.Mod (fun _ => False) W W2) (hown : w5.ownsRow (w.heap.size + 2) 3 1 v' (xs ++ ys).length (ivs (xs ++ ys))) (m5 : Gou.Mod (fun k => v.ownBlock = some k) W2 w5) (f5 : ∀ g, v'.ownBlock = some g → v.ownBlock = some g ∨ W2.heap.size ≤ g) : RPCt w L ca cl b cc v' (xs ++ ys) w5 :=
  ⟨h.inn.step hm hown m5, (h.box.mod hm (fun h => h)).mod m5 h.apart, fun e => (f5 _ e).elim h.apart fun h2 => by have := h.box.lt; have := hm.size; omega⟩

set_option linter.constructorNameAsVariable false
set_option maxRecDepth 100000

/-- What stands behind the first block. -/
def afterBlock : Code → Option (Option Code)
  | .block _ _ => some none
  | .seq a b => match afterBlock a with
    | some none => some (some b)
    | some (some r) => some (some (.seq r b))
    | none => afterBlock b
  | .scope c => afterBlock c
  | _ => none

set_option maxHeartbeats 16000000 in
theorem putR_tail (w wc : World) (a : Ac) (p1 p2 p3 : Option Addr) (k1 k2 k3 : Nat) (L i0 : Nat) (u6 u7 : Value) (hx : LookR (fun _ => True) w a.op.look (.slice p1 a.op.look.content.pix.length k1) (.slice p2 a.op.look.filt.nodes.length k2) (.slice p3 a.op.look.back.nodes.length k3)) (hf : FewOk a) (hs : PxSmall a.op.look.content) (hk : 1 ≤ a.kind ∧ a.kind ≤ 14) (hcut : RPCut w a L (AcA a p1 p2 p3 k1 k2 k3) (LkA a.op.look p1 p2 p3 k1 k2 k3) u6 u7 wc) {u8 u9 u10 u11 u12 u13 u14 u15 u16 u17 u18 u19 u20 u21 u22 u23 u24 u25 u26 u27 u28 u29 u30 u31 u32 u33 u34 u35 u36 u37 u38 u39 u40 u41 u42 u43 u44 u45 u46 u47 u48 u49 u50 u51 u52 u53 u54 u55 u56 u57 u58 u59 u60 u61 u62 u63 u64 u65 u66 u67 u68 u69 u70 u71 u72 u73 u74 u75 u76 u77 u78 u79 u80 u81 u82 u83 u84 u85 u86 u87 u88 u89 u90 u91 u92 u93 u94 u95 u96 u97 u98 u99 u100 u101 u102 u103 u104 u105 u106 u107 u108 u109 u110 u111 u112 u113 u114 u115 u116 u117 u118 u119 u120 u121 u122 u123 u124 u125 u126 u127 u128 u129 u130 u131 u132 u133 u134 u135 u136 u137 u138 u139 u140 u141 u142 u143 u144 u145 u146 u147 u148 u149 u150 u151 u152 u153 u154 u155 u156 u157 u158 u159 u160 u161 u162 u163 u164 u165 u166 u167 u168 u169 u170 u171 u172 u173 u174 u175 u176 u177 u178 u179 u180 u181 u182 u183 u184 u185 u186 u187 u188 u189 u190 u191 u192 u193 u194 u195 u196 u197 u198 u199 u200 u201 u202 u203 u204 u205 u206 u207 u208 u209 u210 u211 u212 u213 u214 u215 u216 u217 u218 u219 u220 u221 u222 u223 u224 u225 u226 u227 u228 u229 u230 u231 u232 u233 u234 u235 u236 u237 u238 u239 u240 u241 u242 u243 u244 u245 u246 u247 u248 u249 u250 u251 u252 u253 u254 u255 u256 u257 u258 u259 u260 u261 u262 u263 u264 u265 u266 u267 u268 u269 u270 u271 u272 u273 u274 u275 u276 u277 u278 u279 u280 u281 u282 u283 u284 u285 u286 u287 u288 u289 u290 u291 u292 : Value} :
    Code.wp Try.prog (((Try.f12.body.bind afterBlock).bind id).getD .skip) (bodyPost Try.prog Try.f12 (PutP w (refPut a))) ⟨List.toArray (Value.agg (AcA a p1 p2 p3 k1 k2 k3) :: Value.pointer (some ⟨w.heap.size, 0, none⟩) :: Value.slice none 0 0 :: Value.int .i64 0 :: Value.pointer (some ⟨L, 0, none⟩) :: Value.slice (some ⟨i0, 0, none⟩) 2 2 :: u6 :: u7 :: u8 :: u9 :: u10 :: u11 :: u12 :: u13 :: u14 :: u15 :: u16 :: u17 :: u18 :: u19 :: u20 :: u21 :: u22 :: u23 :: u24 :: u25 :: u26 :: u27 :: u28 :: u29 :: u30 :: u31 :: u32 :: u33 :: u34 :: u35 :: u36 :: u37 :: u38 :: u39 :: u40 :: u41 :: u42 :: u43 :: u44 :: u45 :: u46 :: u47 :: u48 :: u49 :: u50 :: u51 :: u52 :: u53 :: u54 :: u55 :: u56 :: u57 :: u58 :: u59 :: u60 :: u61 :: u62 :: u63 :: u64 :: u65 :: u66 :: u67 :: u68 :: u69 :: u70 :: u71 :: u72 :: u73 :: u74 :: u75 :: u76 :: u77 :: u78 :: u79 :: u80 :: u81 :: u82 :: u83 :: u84 :: u85 :: u86 :: u87 :: u88 :: u89 :: u90 :: u91 :: u92 :: u93 :: u94 :: u95 :: u96 :: u97 :: u98 :: u99 :: u100 :: u101 :: u102 :: u103 :: u104 :: u105 :: u106 :: u107 :: u108 :: u109 :: u110 :: u111 :: u112 :: u113 :: u114 :: u115 :: u116 :: u117 :: u118 :: u119 :: u120 :: u121 :: u122 :: u123 :: u124 :: u125 :: u126 :: u127 :: u128 :: u129 :: u130 :: u131 :: u132 :: u133 :: u134 :: u135 :: u136 :: u137 :: u138 :: u139 :: u140 :: u141 :: u142 :: u143 :: u144 :: u145 :: u146 :: u147 :: u148 :: u149 :: u150 :: u151 :: u152 :: u153 :: u154 :: u155 :: u156 :: u157 :: u158 :: u159 :: u160 :: u161 :: u162 :: u163 :: u164 :: u165 :: u166 :: u167 :: u168 :: u169 :: u170 :: u171 :: u172 :: u173 :: u174 :: u175 :: u176 :: u177 :: u178 :: u179 :: u180 :: u181 :: u182 :: u183 :: u184 :: u185 :: u186 :: u187 :: u188 :: u189 :: u190 :: u191 :: u192 :: u193 :: u194 :: u195 :: u196 :: u197 :: u198 :: u199 :: u200 :: u201 :: u202 :: u203 :: u204 :: u205 :: u206 :: u207 :: u208 :: u209 :: u210 :: u211 :: u212 :: u213 :: u214 :: u215 :: u216 :: u217 :: u218 :: u219 :: u220 :: u221 :: u222 :: u223 :: u224 :: u225 :: u226 :: u227 :: u228 :: u229 :: u230 :: u231 :: u232 :: u233 :: u234 :: u235 :: u236 :: u237 :: u238 :: u239 :: u240 :: u241 :: u242 :: u243 :: u244 :: u245 :: u246 :: u247 :: u248 :: u249 :: u250 :: u251 :: u252 :: u253 :: u254 :: u255 :: u256 :: u257 :: u258 :: u259 :: u260 :: u261 :: u262 :: u263 :: u264 :: u265 :: u266 :: u267 :: u268 :: u269 :: u270 :: u271 :: u272 :: u273 :: u274 :: u275 :: u276 :: u277 :: u278 :: u279 :: u280 :: u281 :: u282 :: u283 :: u284 :: u285 :: u286 :: u287 :: u288 :: u289 :: u290 :: u291 :: u292 :: []), []⟩ wc := by
  have Hx := Lib.hid hx
  have Hf0 := Lib.hid hf
  have Hs := Lib.hid hs
  have Hk := Lib.hid hk
  clear hx hf hs hk
  conv => arg 2; whnf
  obtain ⟨hp, ⟨pl, cl, rfl, hl⟩, ⟨pp, cp, rfl, hpx⟩⟩ := hcut
  have HP := Lib.hid hp
  have ca0 : wc.cell? ⟨w.heap.size, 0, none⟩ = some (.int .i64 a.kind) := hp.act.cell 0 rfl
  have hnl := numsOf_len Hf0.out
  have hpl := pxOf_len Hf0.out
  have hpsm := pxOf_small Hs.out
  obtain ⟨ns, hns⟩ : ∃ ns, ns = numsOf a := ⟨_, rfl⟩
  obtain ⟨ps, hps⟩ : ∃ ps, ps = pxOf a := ⟨_, rfl⟩
  rw [← hns] at hl hnl ⊢
  rw [← hps] at hpx hpl hpsm ⊢
  have Hns := Lib.hid hns
  have Hps := Lib.hid hps
  have HL := Lib.hid hl
  have HPX := Lib.hid hpx
  have Hsm := Lib.hid hpsm
  obtain ⟨kk, hkk⟩ : ∃ kk : Nat, a.kind = kk := ⟨a.kind.toNat, by have := Hk.out; omega⟩
  have hkb : 1 ≤ kk ∧ kk ≤ 14 := by have := Hk.out; omega
  have Hkk := Lib.hid hkk
  rw [hkk] at ca0
  have U : IntKind.u8.wrap (kk : Int) = (kk : Int) := IntWalk.u8_in _ (by omega)
  have Ho : Hid ((wc.alloc (.cells #[.int .u8 (kk : Nat)] 5)).ownsRow wc.heap.size 5 1 (.slice (some ⟨wc.heap.size, 0, none⟩) 1 1) [kk].length (u8s [kk])) := Lib.hid (World.ownsRow_lit (base := wc.heap.size) (size := 1) (e := 5) wc #[.int .u8 (kk : Nat)] 1 (by omega) (by unfold maxLen; omega) rfl)
  have Hxs : Hid (IntsR (fun k => (Value.slice (some ⟨wc.heap.size, 0, none⟩) 1 1).ownBlock ≠ some k) (wc.alloc (.cells #[.int .u8 (kk : Nat)] 5)) (.slice pl ns.length cl) ns) := Lib.hid (RowG.mod (RowG.imp hl (G' := fun k => (Value.slice (some ⟨wc.heap.size, 0, none⟩) 1 1).ownBlock ≠ some k) (fun k hk _ e => by simp [Value.ownBlock] at e; omega)) (Gou.Mod.alloc (fun _ => False) _ _) (fun _ _ _ h => h))
  have Hlen : Hid ([kk].length + 5 * ns.length ≤ 1000000000) := Lib.hid (by simp only [List.length_cons, List.length_nil]; omega)
  clear hkk hns hps hl hpx hpsm hp
  go_wp2_with fail
  refine (allR_any _ wc.heap.size _ 1 1 [kk] pl cl ns (by rw [World.size_alloc]; omega) Ho.out Hxs.out Hlen.out).mono ?_
  rintro e w2 ⟨m2, h2⟩
  have M2 : Hid (Gou.Mod (fun _ => False) wc w2) := Lib.hid ((Gou.Mod.alloc (fun _ => False) _ _).trans m2 (fun i hi e => by simp [Value.ownBlock] at e; omega))
  clear Ho Hxs Hlen m2
  cases hen : encNums ns with
  | none =>
    rw [hen] at h2
    obtain ⟨p2, n2, c2, rfl⟩ := h2
    have Hno := Lib.hid (refPut_noenc (a := a) (by rw [← Hns.out]; exact hen))
    clear hen
    go_wp2_with fail
    go_ret2
    exact ⟨HP.out.mod.trans' M2.out, by rw [Hno.out]; rfl⟩
  | some es =>
    rw [hen] at h2
    obtain ⟨v2, rfl, hown2, hf2⟩ := h2
    have hel := encNums_len hen
    have Hre : Hid (refEnc a = some ([kk] ++ es ++ pxBytes ps)) := Lib.hid (by rw [refEnc_eq Hk.out (by rw [← Hns.out]; exact hen), Hkk.out, Hps.out]; simp)
    obtain ⟨F0, hF0⟩ : ∃ F0, F0 = [kk] ++ es := ⟨_, rfl⟩
    have hF0l : F0.length ≤ 3000000 := by rw [hF0]; simp only [List.length_append, List.length_cons, List.length_nil]; omega
    rw [← hF0] at Hre hown2
    obtain ⟨q2, d2, rfl⟩ := Gou.ownsRow_form hown2
    have Hown2 := Lib.hid hown2
    clear hen hel hF0 hown2 hf2
    go_wp2_with fail
    go_loopw [10, 12] (fun vo vi wr => ∃ i : Nat, vi = .int .i64 i ∧ i ≤ ps.length ∧ wr.ownsRow wc.heap.size 5 1 vo (F0 ++ pxBytes (ps.take i)).length (u8s (F0 ++ pxBytes (ps.take i))) ∧ Gou.Mod (fun _ => False) wc wr) (fun _ vi _ => ps.length - (intOf vi).toNat)
    case atStart => exact ⟨0, rfl, by omega, by simpa [pxBytes] using Hown2.out, M2.out⟩
    case round =>
      obtain ⟨i, rfl, hi, hown, hm⟩ := hrel
      have hpb : (pxBytes (ps.take i)).length ≤ 4 * ps.length := by rw [pxBytes_len, List.length_take]; omega
      obtain ⟨F, hF⟩ : ∃ F, F = F0 ++ pxBytes (ps.take i) := ⟨_, rfl⟩
      have hFl : F.length ≤ 4000000 := by rw [hF, List.length_append]; omega
      rw [← hF] at hown
      obtain ⟨q, d, rfl⟩ := Gou.ownsRow_form hown
      have Hown := Lib.hid hown
      have Hm := Lib.hid hm
      clear hown hm hpb
      by_cases hil : i < ps.length
      · have e1 : decide ((i : Int) < (ps.length : Int)) = true := by simp; omega
        obtain ⟨-, x1, o1, rfl, hx1, -, hc1⟩ := PixR.cells HPX.out (by omega)
        have Hnx : Hid (F0 ++ pxBytes (ps.take (i + 1)) = F ++ [ps[i].p0, ps[i].p1, ps[i].p2, ps[i].p3]) := Lib.hid (by
          rw [hF, List.take_succ_eq_append_getElem hil, pxBytes, List.flatMap_append, ← List.append_assoc]
          simp [pxBytes])
        have hcs := hc1 i hil
        have Hcs := Lib.hid hcs
        generalize ps[i] = px at *
        have HF := Lib.hid hF
        obtain ⟨iP, hiP, hz0, hz1, hz2⟩ := info_parts info_u8
        have HS : Hid (∀ w' : World, Gou.Mod (fun _ => False) wc w' → w'.cell? ⟨x1, o1 + i * 4, none⟩ = some (.int .u8 (px.p0 : Nat)) ∧ w'.cell? ⟨x1, o1 + i * 4 + 1, none⟩ = some (.int .u8 (px.p1 : Nat)) ∧ w'.cell? ⟨x1, o1 + i * 4 + 2, none⟩ = some (.int .u8 (px.p2 : Nat)) ∧ w'.cell? ⟨x1, o1 + i * 4 + 3, none⟩ = some (.int .u8 (px.p3 : Nat))) := Lib.hid (fun w' hw => by
          obtain ⟨c0, c1, c2, c3⟩ := Hcs.out
          exact ⟨by rw [hw.cell (p := ⟨x1, o1 + i * 4, none⟩) hx1 (fun h => h)]; exact c0, by rw [hw.cell (p := ⟨x1, o1 + i * 4 + 1, none⟩) hx1 (fun h => h)]; exact c1, by rw [hw.cell (p := ⟨x1, o1 + i * 4 + 2, none⟩) hx1 (fun h => h)]; exact c2, by rw [hw.cell (p := ⟨x1, o1 + i * 4 + 3, none⟩) hx1 (fun h => h)]; exact c3⟩)
        have hiI : (i : Int) < (ps.length : Int) := by omega
        clear hc1 hcs hF
        go_wp2_with fail
        refine wp_region_held_drew (S := fun w' => Gou.Mod (fun _ => False) wc w') (by kernel_rfl) (Hm.out.trans' (Gou.Mod.drew _ _)) (fun hHeld => ?_)
        refine wpAnyH_take (i := 0) (oi := ({ dst := some 249, op := Op.move (Operand.tmp 10), type := 44, pos := "ref.go:375", after := #[], guard := none } : Oper)) (v := .slice q F.length d) rfl (by kernel_rfl) (by kernel_rfl) (by kernel_rfl) (fun _ _ _ h => h) (Or.inl ⟨by rfl, ?_⟩) hHeld ?_
        · (intro w' hSw; (try dsimp only at hSw); have hs := HS.out w' hSw; obtain ⟨s0, s1, s2, s3⟩ := hs; clear hSw; go_simp; (try with_reducible rfl))
        try simp only [Act.put, uSa, uSb, uSc]
        refine wpAnyH_take (i := 1) (oi := ({ dst := some 250, op := Op.move (Operand.tmp 6), type := 28, pos := "ref.go:375", after := #[], guard := none } : Oper)) (v := .slice (some ⟨x1, o1, none⟩) ps.length cp) rfl (by kernel_rfl) (by kernel_rfl) (by kernel_rfl) (fun _ _ _ h => h) (Or.inl ⟨by rfl, ?_⟩) hHeld ?_
        · (intro w' hSw; (try dsimp only at hSw); have hs := HS.out w' hSw; obtain ⟨s0, s1, s2, s3⟩ := hs; clear hSw; go_simp; (try with_reducible rfl))
        try simp only [Act.put, uSa, uSb, uSc]
        refine wpAnyH_take (i := 2) (oi := ({ dst := some 251, op := Op.move (Operand.tmp 12), type := 3, pos := "ref.go:375", after := #[], guard := none } : Oper)) (v := .int .i64 (i : Nat)) rfl (by kernel_rfl) (by kernel_rfl) (by kernel_rfl) (fun _ _ _ h => h) (Or.inl ⟨by rfl, ?_⟩) hHeld ?_
        · (intro w' hSw; (try dsimp only at hSw); have hs := HS.out w' hSw; obtain ⟨s0, s1, s2, s3⟩ := hs; clear hSw; go_simp; (try with_reducible rfl))
        try simp only [Act.put, uSa, uSb, uSc]
        refine wpAnyH_take (i := 3) (oi := ({ dst := some 252, op := Op.indexAddr 28 (Operand.tmp 250) (Operand.tmp 251), type := 0, pos := "ref.go:375", after := #[gD 1, gD 2], guard := none } : Oper)) (v := .pointer (some ⟨x1, o1 + i * 4, none⟩)) rfl (by kernel_rfl) (by kernel_rfl) (by kernel_rfl) (fun _ _ _ h => h) (Or.inl ⟨by rfl, ?_⟩) hHeld ?_
        · (intro w' hSw; (try dsimp only at hSw); have hs := HS.out w' hSw; obtain ⟨s0, s1, s2, s3⟩ := hs; clear hSw; go_simp; (try with_reducible rfl))
        try simp only [Act.put, uSa, uSb, uSc]
        refine wpAnyH_take (i := 4) (oi := ({ dst := some 253, op := Op.indexAddr 27 (Operand.tmp 252) (Operand.const (Value.int IntKind.i64 0)), type := 0, pos := "ref.go:375", after := #[gD 3], guard := none } : Oper)) (v := .pointer (some ⟨x1, o1 + i * 4, none⟩)) rfl (by kernel_rfl) (by kernel_rfl) (by kernel_rfl) (fun _ _ _ h => h) (Or.inl ⟨by rfl, ?_⟩) hHeld ?_
        · (intro w' hSw; (try dsimp only at hSw); have hs := HS.out w' hSw; obtain ⟨s0, s1, s2, s3⟩ := hs; clear hSw; go_simp; (try with_reducible rfl))
        try simp only [Act.put, uSa, uSb, uSc]
        refine wpAnyH_take (i := 5) (oi := ({ dst := some 254, op := Op.load 5 (Operand.tmp 253), type := 5, pos := "ref.go:375", after := #[gD 4], guard := none } : Oper)) (v := .int .u8 (px.p0 : Nat)) rfl (by kernel_rfl) (by kernel_rfl) (by kernel_rfl) (fun _ _ _ h => h) (Or.inl ⟨by rfl, ?_⟩) hHeld ?_
        · (intro w' hSw; (try dsimp only at hSw); have hs := HS.out w' hSw; obtain ⟨s0, s1, s2, s3⟩ := hs; clear hSw; go_simp; (try with_reducible rfl))
        try simp only [Act.put, uSa, uSb, uSc]
        refine wpAnyH_take (i := 6) (oi := ({ dst := some 255, op := Op.move (Operand.tmp 6), type := 28, pos := "ref.go:375", after := #[], guard := none } : Oper)) (v := .slice (some ⟨x1, o1, none⟩) ps.length cp) rfl (by kernel_rfl) (by kernel_rfl) (by kernel_rfl) (fun _ _ _ h => h) (Or.inl ⟨by rfl, ?_⟩) hHeld ?_
        · (intro w' hSw; (try dsimp only at hSw); have hs := HS.out w' hSw; obtain ⟨s0, s1, s2, s3⟩ := hs; clear hSw; go_simp; (try with_reducible rfl))
        try simp only [Act.put, uSa, uSb, uSc]
        refine wpAnyH_take (i := 7) (oi := ({ dst := some 256, op := Op.move (Operand.tmp 12), type := 3, pos := "ref.go:375", after := #[], guard := none } : Oper)) (v := .int .i64 (i : Nat)) rfl (by kernel_rfl) (by kernel_rfl) (by kernel_rfl) (fun _ _ _ h => h) (Or.inl ⟨by rfl, ?_⟩) hHeld ?_
        · (intro w' hSw; (try dsimp only at hSw); have hs := HS.out w' hSw; obtain ⟨s0, s1, s2, s3⟩ := hs; clear hSw; go_simp; (try with_reducible rfl))
        try simp only [Act.put, uSa, uSb, uSc]
        refine wpAnyH_take (i := 8) (oi := ({ dst := some 257, op := Op.indexAddr 28 (Operand.tmp 255) (Operand.tmp 256), type := 0, pos := "ref.go:375", after := #[gD 6, gD 7], guard := none } : Oper)) (v := .pointer (some ⟨x1, o1 + i * 4, none⟩)) rfl (by kernel_rfl) (by kernel_rfl) (by kernel_rfl) (fun _ _ _ h => h) (Or.inl ⟨by rfl, ?_⟩) hHeld ?_
        · (intro w' hSw; (try dsimp only at hSw); have hs := HS.out w' hSw; obtain ⟨s0, s1, s2, s3⟩ := hs; clear hSw; go_simp; (try with_reducible rfl))
        try simp only [Act.put, uSa, uSb, uSc]
        refine wpAnyH_take (i := 9) (oi := ({ dst := some 258, op := Op.indexAddr 27 (Operand.tmp 257) (Operand.const (Value.int IntKind.i64 1)), type := 0, pos := "ref.go:375", after := #[gD 8], guard := none } : Oper)) (v := .pointer (some ⟨x1, o1 + i * 4 + 1, none⟩)) rfl (by kernel_rfl) (by kernel_rfl) (by kernel_rfl) (fun _ _ _ h => h) (Or.inl ⟨by rfl, ?_⟩) hHeld ?_
        · (intro w' hSw; (try dsimp only at hSw); have hs := HS.out w' hSw; obtain ⟨s0, s1, s2, s3⟩ := hs; clear hSw; go_simp; (try with_reducible rfl))
        try simp only [Act.put, uSa, uSb, uSc]
        refine wpAnyH_take (i := 10) (oi := ({ dst := some 259, op := Op.load 5 (Operand.tmp 258), type := 5, pos := "ref.go:375", after := #[gD 9], guard := none } : Oper)) (v := .int .u8 (px.p1 : Nat)) rfl (by kernel_rfl) (by kernel_rfl) (by kernel_rfl) (fun _ _ _ h => h) (Or.inl ⟨by rfl, ?_⟩) hHeld ?_
        · (intro w' hSw; (try dsimp only at hSw); have hs := HS.out w' hSw; obtain ⟨s0, s1, s2, s3⟩ := hs; clear hSw; go_simp; (try with_reducible rfl))
        try simp only [Act.put, uSa, uSb, uSc]
        refine wpAnyH_take (i := 11) (oi := ({ dst := some 260, op := Op.move (Operand.tmp 6), type := 28, pos := "ref.go:375", after := #[], guard := none } : Oper)) (v := .slice (some ⟨x1, o1, none⟩) ps.length cp) rfl (by kernel_rfl) (by kernel_rfl) (by kernel_rfl) (fun _ _ _ h => h) (Or.inl ⟨by rfl, ?_⟩) hHeld ?_
        · (intro w' hSw; (try dsimp only at hSw); have hs := HS.out w' hSw; obtain ⟨s0, s1, s2, s3⟩ := hs; clear hSw; go_simp; (try with_reducible rfl))
        try simp only [Act.put, uSa, uSb, uSc]
        refine wpAnyH_take (i := 12) (oi := ({ dst := some 261, op := Op.move (Operand.tmp 12), type := 3, pos := "ref.go:375", after := #[], guard := none } : Oper)) (v := .int .i64 (i : Nat)) rfl (by kernel_rfl) (by kernel_rfl) (by kernel_rfl) (fun _ _ _ h => h) (Or.inl ⟨by rfl, ?_⟩) hHeld ?_
        · (intro w' hSw; (try dsimp only at hSw); have hs := HS.out w' hSw; obtain ⟨s0, s1, s2, s3⟩ := hs; clear hSw; go_simp; (try with_reducible rfl))
        try simp only [Act.put, uSa, uSb, uSc]
        refine wpAnyH_take (i := 13) (oi := ({ dst := some 262, op := Op.indexAddr 28 (Operand.tmp 260) (Operand.tmp 261), type := 0, pos := "ref.go:375", after := #[gD 11, gD 12], guard := none } : Oper)) (v := .pointer (some ⟨x1, o1 + i * 4, none⟩)) rfl (by kernel_rfl) (by kernel_rfl) (by kernel_rfl) (fun _ _ _ h => h) (Or.inl ⟨by rfl, ?_⟩) hHeld ?_
        · (intro w' hSw; (try dsimp only at hSw); have hs := HS.out w' hSw; obtain ⟨s0, s1, s2, s3⟩ := hs; clear hSw; go_simp; (try with_reducible rfl))
        try simp only [Act.put, uSa, uSb, uSc]
        refine wpAnyH_take (i := 14) (oi := ({ dst := some 263, op := Op.indexAddr 27 (Operand.tmp 262) (Operand.const (Value.int IntKind.i64 2)), type := 0, pos := "ref.go:375", after := #[gD 13], guard := none } : Oper)) (v := .pointer (some ⟨x1, o1 + i * 4 + 2, none⟩)) rfl (by kernel_rfl) (by kernel_rfl) (by kernel_rfl) (fun _ _ _ h => h) (Or.inl ⟨by rfl, ?_⟩) hHeld ?_
        · (intro w' hSw; (try dsimp only at hSw); have hs := HS.out w' hSw; obtain ⟨s0, s1, s2, s3⟩ := hs; clear hSw; go_simp; (try with_reducible rfl))
        try simp only [Act.put, uSa, uSb, uSc]
        refine wpAnyH_take (i := 15) (oi := ({ dst := some 264, op := Op.load 5 (Operand.tmp 263), type := 5, pos := "ref.go:375", after := #[gD 14], guard := none } : Oper)) (v := .int .u8 (px.p2 : Nat)) rfl (by kernel_rfl) (by kernel_rfl) (by kernel_rfl) (fun _ _ _ h => h) (Or.inl ⟨by rfl, ?_⟩) hHeld ?_
        · (intro w' hSw; (try dsimp only at hSw); have hs := HS.out w' hSw; obtain ⟨s0, s1, s2, s3⟩ := hs; clear hSw; go_simp; (try with_reducible rfl))
        try simp only [Act.put, uSa, uSb, uSc]
        refine wpAnyH_take (i := 16) (oi := ({ dst := some 265, op := Op.move (Operand.tmp 6), type := 28, pos := "ref.go:375", after := #[], guard := none } : Oper)) (v := .slice (some ⟨x1, o1, none⟩) ps.length cp) rfl (by kernel_rfl) (by kernel_rfl) (by kernel_rfl) (fun _ _ _ h => h) (Or.inl ⟨by rfl, ?_⟩) hHeld ?_
        · (intro w' hSw; (try dsimp only at hSw); have hs := HS.out w' hSw; obtain ⟨s0, s1, s2, s3⟩ := hs; clear hSw; go_simp; (try with_reducible rfl))
        try simp only [Act.put, uSa, uSb, uSc]
        refine wpAnyH_take (i := 17) (oi := ({ dst := some 266, op := Op.move (Operand.tmp 12), type := 3, pos := "ref.go:375", after := #[], guard := none } : Oper)) (v := .int .i64 (i : Nat)) rfl (by kernel_rfl) (by kernel_rfl) (by kernel_rfl) (fun _ _ _ h => h) (Or.inl ⟨by rfl, ?_⟩) hHeld ?_
        · (intro w' hSw; (try dsimp only at hSw); have hs := HS.out w' hSw; obtain ⟨s0, s1, s2, s3⟩ := hs; clear hSw; go_simp; (try with_reducible rfl))
        try simp only [Act.put, uSa, uSb, uSc]
        refine wpAnyH_take (i := 18) (oi := ({ dst := some 267, op := Op.indexAddr 28 (Operand.tmp 265) (Operand.tmp 266), type := 0, pos := "ref.go:375", after := #[gD 16, gD 17], guard := none } : Oper)) (v := .pointer (some ⟨x1, o1 + i * 4, none⟩)) rfl (by kernel_rfl) (by kernel_rfl) (by kernel_rfl) (fun _ _ _ h => h) (Or.inl ⟨by rfl, ?_⟩) hHeld ?_
        · (intro w' hSw; (try dsimp only at hSw); have hs := HS.out w' hSw; obtain ⟨s0, s1, s2, s3⟩ := hs; clear hSw; go_simp; (try with_reducible rfl))
        try simp only [Act.put, uSa, uSb, uSc]
        refine wpAnyH_take (i := 19) (oi := ({ dst := some 268, op := Op.indexAddr 27 (Operand.tmp 267) (Operand.const (Value.int IntKind.i64 3)), type := 0, pos := "ref.go:375", after := #[gD 18], guard := none } : Oper)) (v := .pointer (some ⟨x1, o1 + i * 4 + 3, none⟩)) rfl (by kernel_rfl) (by kernel_rfl) (by kernel_rfl) (fun _ _ _ h => h) (Or.inl ⟨by rfl, ?_⟩) hHeld ?_
        · (intro w' hSw; (try dsimp only at hSw); have hs := HS.out w' hSw; obtain ⟨s0, s1, s2, s3⟩ := hs; clear hSw; go_simp; (try with_reducible rfl))
        try simp only [Act.put, uSa, uSb, uSc]
        refine wpAnyH_take (i := 20) (oi := ({ dst := some 269, op := Op.load 5 (Operand.tmp 268), type := 5, pos := "ref.go:375", after := #[gD 19], guard := none } : Oper)) (v := .int .u8 (px.p3 : Nat)) rfl (by kernel_rfl) (by kernel_rfl) (by kernel_rfl) (fun _ _ _ h => h) (Or.inl ⟨by rfl, ?_⟩) hHeld ?_
        · (intro w' hSw; (try dsimp only at hSw); have hs := HS.out w' hSw; obtain ⟨s0, s1, s2, s3⟩ := hs; clear hSw; go_simp; (try with_reducible rfl))
        try simp only [Act.put, uSa, uSb, uSc]
        refine wpAnyH_ready (rs := [21]) (by kernel_rfl) (by simp) (AllReadyH.cons (o := ({ dst := some 270, op := Op.buildSlice 44 4 #[(0, Operand.tmp 254), (1, Operand.tmp 259), (2, Operand.tmp 264), (3, Operand.tmp 269)], type := 44, pos := "ref.go:375", after := #[gD 5, gD 10, gD 15, gD 20], guard := none } : Oper)) rfl (fun K hK => ?_) AllReadyH.nil)
        go_simp
        refine hK _ _ (hHeld.trans' (Gou.Mod.alloc _ _ _)) (fun hHeld2 => ?_)
        clear hK K
        try simp only [Act.put, uSa, uSb, uSc]
        refine wpAnyH_ready (rs := [22]) (by kernel_rfl) (by simp) (AllReadyH.cons (o := ({ dst := some 271, op := Op.call { callee := Callee.builtin Builtin.append, args := #[Operand.tmp 249, Operand.tmp 270], argTypes := #[44, 44] }, type := 44, pos := "ref.go:375", after := #[gD 0, gD 21], guard := none } : Oper)) rfl (fun K hK => ?_) AllReadyH.nil)
        refine step_append_lies _ (by rfl) (Operand.tmp 249) (Operand.tmp 270) 44 (by rfl) wc.heap.size 5 iP (.int .u8 0) 1 1 Try.underlying44 hiP hz0 hz1 hz2 rfl (by omega) (.slice q F.length d) F.length (u8s F) (by rfl) (Hown.out.alloc _) ⟨wr.heap.size, 0, none⟩ 4 4 [.int .u8 (px.p0 : Nat), .int .u8 (px.p1 : Nat), .int .u8 (px.p2 : Nat), .int .u8 (px.p3 : Nat)] (by rfl) (by rfl) (news_at (heap_alloc_new wr _) rfl) (by simp [Value.oneCell']) (by omega) (by unfold maxLen; omega) (by omega) (by have := Hm.out.size; show wc.heap.size ≤ (wr.alloc _).heap.size; rw [World.size_alloc]; omega) _ rfl ?_
        intro gg cp' w6 hown6 hgrow6 hat6 hlt6
        have Hown6 : Hid (w6.ownsRow wc.heap.size 5 1 (.slice (some ⟨gg, 0, none⟩) (F.length + 4) cp') (F ++ [px.p0, px.p1, px.p2, px.p3]).length (u8s (F ++ [px.p0, px.p1, px.p2, px.p3]))) := Lib.hid (by simpa [u8s] using hown6)
        have M6 : Hid (Gou.Mod (fun _ => False) wc w6) := Lib.hid ((Hm.out.trans' ((Gou.Mod.alloc _ _ _).trans' (Gou.Mod.drew _ _))).trans (Gou.Mod.of_grown hgrow6) (fun q hq e => by have := (Hown.out.lt q e).1; omega))
        clear hown6 hgrow6 hat6 hlt6 hHeld hHeld2
        refine hK _ _ M6.out (fun hHeld => ?_)
        clear hK K
        try simp only [Act.put, uSa, uSb, uSc]
        refine wpAnyH_take (i := 23) (oi := ({ dst := some 10, op := Op.assign (Operand.tmp 271), type := 44, pos := "ref.go:375", after := #[gD 22, { on := 22, ground := Ground.chain }, gP 0, gP 1, gP 2, gP 3, gP 4, gP 5, gP 6, gP 7, gP 8, gP 9, gP 10, gP 11, gP 12, gP 13, gP 14, gP 15, gP 16, gP 17, gP 18, gP 19, gP 20, gP 21, gP 22], guard := none } : Oper)) (v := .slice (some ⟨gg, 0, none⟩) (F.length + 4) cp') rfl (by kernel_rfl) (by kernel_rfl) (by kernel_rfl) (fun _ _ _ h => h) (Or.inl ⟨by rfl, ?_⟩) hHeld ?_
        · (intro w' hSw; (try dsimp only at hSw); clear hSw; go_simp; (try with_reducible rfl))
        try simp only [Act.put, uSa, uSb, uSc]
        refine wpAnyH_done (by kernel_rfl) ?_ _
        clear hHeld
        go_wp2_with fail
        go_roundw
        case rel => exact ⟨i + 1, by go_num, by omega, by rw [Hnx.out]; exact Hown6.out, M6.out⟩
        case measure => simp [intOf]; omega
      · obtain rfl : i = ps.length := by omega
        have e1 : decide ((ps.length : Int) < (ps.length : Int)) = false := by simp
        rw [List.take_length] at hF
        have Hre2 : Hid (refEnc a = some F) := Lib.hid (by rw [hF]; exact Hre.out)
        have hby := refEnc_small Hs.out Hre2.out
        have Hrp := Lib.hid (refPut_of Hre2.out)
        have HB := Lib.hid (BytesAt.of_own Hown.out)
        have Hby := Lib.hid hby
        have HPr := Lib.hid (HP.out.next Hm.out)
        clear hF hby Hre Hre2
        go_wp2_with fail
        refine (oneR_any wr q d F HB.out Hby.out (by omega) 0 (by omega)).mono ?_
        rintro e w5 ⟨m5, h5⟩
        have M5 := Lib.hid (Hm.out.trans' m5)
        cases hat : actAt F 0 with
        | none =>
          rw [hat] at h5
          obtain ⟨x, q1, n1, j1, q2, n2, j2, q3, n3, j3, rfl⟩ := h5
          have Hno : Hid (refPut a = none) := Lib.hid (by rw [Hrp.out, hat])
          have Hbx := Lib.hid (box_put w5 41 AcZ (actC x (.slice q1 n1 j1) (.slice q2 n2 j2) (.slice q3 n3 j3)) rfl)
          clear hat m5
          go_wp2_with (first | ((with_reducible show wpList _ _ _ (⟨none, Op.store 41 _ _, _, _, _, _⟩ :: _) _ _); (with_reducible refine wpList_store_mid ?g5_3 41 ?x5_3 ?y_3 ?o5_3 w5.heap.size 0 (actC x (.slice q1 n1 j1) (.slice q2 n2 j2) (.slice q3 n3 j3)) ?h_3 ?j_3 ?t_3 ?i_3 ?s5_3 ?r5_3); (case g5_3 | o5_3 | h_3 | j_3 => exact rfl); (case t_3 => exact Hbx.out.2.2); (case i_3 => exact size_act); (case s5_3 => exact actC_one _ _ _ _ _ _ _ _ _ _)) | fail)
          go_ret2
          exact ⟨(HP.out.mod.trans' M5.out).trans' Hbx.out.1, by rw [Hno.out]; rfl⟩
        | some r =>
          obtain ⟨x, m⟩ := r
          rw [hat] at h5
          obtain ⟨q1, n1, j1, q2, n2, j2, q3, n3, j3, rfl, hr⟩ := h5
          obtain ⟨rfl, rfl, rfl⟩ := LookR.lens hr
          have Hrp2 : Hid (refPut a = if m = F.length ∧ x = a then some F else none) := Lib.hid (by rw [Hrp.out, hat])
          have Hbx := Lib.hid (box_put w5 41 AcZ (actC x (.slice q1 x.op.look.content.pix.length j1) (.slice q2 x.op.look.filt.nodes.length j2) (.slice q3 x.op.look.back.nodes.length j3)) rfl)
          obtain ⟨-, -, -, -, hbo, hps2⟩ := putOf_of_act Hby.out hat
          have Hbo := Lib.hid hbo
          have Hr := Lib.hid hr
          have HP5 := Lib.hid (HPr.out.next m5)
          have M5a := Lib.hid m5
          clear hat m5 hr hbo hps2
          by_cases hmF : m = F.length
          case neg =>
            have e2 : ((m : Int) != (F.length : Int)) = true := by rw [bne_iff_ne]; omega
            have Hne := Lib.hid hmF
            clear hmF
            go_wp2_with (first | ((with_reducible show wpList _ _ _ (⟨none, Op.store 41 _ _, _, _, _, _⟩ :: _) _ _); (with_reducible refine wpList_store_mid ?g5_4 41 ?x5_4 ?y_4 ?o5_4 w5.heap.size 0 (actC x (.slice q1 x.op.look.content.pix.length j1) (.slice q2 x.op.look.filt.nodes.length j2) (.slice q3 x.op.look.back.nodes.length j3)) ?h_4 ?j_4 ?t_4 ?i_4 ?s5_4 ?r5_4); (case g5_4 | o5_4 | h_4 | j_4 => exact rfl); (case t_4 => exact Hbx.out.2.2); (case i_4 => exact size_act); (case s5_4 => exact actC_one _ _ _ _ _ _ _ _ _ _)) | fail)
            go_ret2
            exact ⟨(HP.out.mod.trans' M5.out).trans' Hbx.out.1, by rw [Hrp2.out, if_neg (fun h => Hne.out h.1)]; rfl⟩
          have e2 : ((m : Int) != (F.length : Int)) = false := by rw [hmF]; simp
          have HmF := Lib.hid hmF
          clear hmF
          have HB1 : Hid (World.rangeAt ((w5.alloc (.cells AcZ 41)).setCells w5.heap.size 0 (actC x (.slice q1 x.op.look.content.pix.length j1) (.slice q2 x.op.look.filt.nodes.length j2) (.slice q3 x.op.look.back.nodes.length j3)).toList) w5.heap.size 0 (actC x (.slice q1 x.op.look.content.pix.length j1) (.slice q2 x.op.look.filt.nodes.length j2) (.slice q3 x.op.look.back.nodes.length j3)).toList) := Lib.hid (Blk.range (pre := []) (post := []) Hbx.out.2.1 (by simp) rfl)
          have HB2 : Hid (World.rangeAt ((w5.alloc (.cells AcZ 41)).setCells w5.heap.size 0 (actC x (.slice q1 x.op.look.content.pix.length j1) (.slice q2 x.op.look.filt.nodes.length j2) (.slice q3 x.op.look.back.nodes.length j3)).toList) w.heap.size 0 (AcA a p1 p2 p3 k1 k2 k3).toList) := Lib.hid (Blk.range (pre := []) (post := []) (HP5.out.act.mod Hbx.out.1 (fun h => h)) (by simp) rfl)
          have HLx : Hid (LookR (fun _ => True) ((w5.alloc (.cells AcZ 41)).setCells w5.heap.size 0 (actC x (.slice q1 x.op.look.content.pix.length j1) (.slice q2 x.op.look.filt.nodes.length j2) (.slice q3 x.op.look.back.nodes.length j3)).toList) x.op.look (.slice q1 x.op.look.content.pix.length j1) (.slice q2 x.op.look.filt.nodes.length j2) (.slice q3 x.op.look.back.nodes.length j3)) := Lib.hid ((Hr.out.imp (fun _ _ _ => trivial)).mod Hbx.out.1 (fun _ _ _ h => h))
          have HLa : Hid (LookR (fun _ => True) ((w5.alloc (.cells AcZ 41)).setCells w5.heap.size 0 (actC x (.slice q1 x.op.look.content.pix.length j1) (.slice q2 x.op.look.filt.nodes.length j2) (.slice q3 x.op.look.back.nodes.length j3)).toList) a.op.look (.slice p1 a.op.look.content.pix.length k1) (.slice p2 a.op.look.filt.nodes.length k2) (.slice p3 a.op.look.back.nodes.length k3)) := Lib.hid (Hx.out.mod (HP5.out.mod.trans' Hbx.out.1) (fun _ _ _ h => h))
          go_wp2_with (first | ((with_reducible show wpList _ _ _ (⟨none, Op.store 41 _ _, _, _, _, _⟩ :: _) _ _); (with_reducible refine wpList_store_mid ?g5_5 41 ?x5_5 ?y_5 ?o5_5 w5.heap.size 0 (actC x (.slice q1 x.op.look.content.pix.length j1) (.slice q2 x.op.look.filt.nodes.length j2) (.slice q3 x.op.look.back.nodes.length j3)) ?h_5 ?j_5 ?t_5 ?i_5 ?s5_5 ?r5_5); (case g5_5 | o5_5 | h_5 | j_5 => exact rfl); (case t_5 => exact Hbx.out.2.2); (case i_5 => exact size_act); (case s5_5 => exact actC_one _ _ _ _ _ _ _ _ _ _)) | ((with_reducible show wpList _ _ _ (⟨some 287, _, _, _, _, _⟩ :: _) _ _); (with_reducible refine wpList_load_midG ?g5_6 41 ?x5_6 ?o5_6 w5.heap.size 0 ?h_6 (actC x (.slice q1 x.op.look.content.pix.length j1) (.slice q2 x.op.look.filt.nodes.length j2) (.slice q3 x.op.look.back.nodes.length j3)).toList ?d5_6 ?c5_6 ?u_6 ?s5_6 ?i_6 ?r5_6); (case g5_6 | o5_6 | h_6 => exact rfl); (case c5_6 => exact HB1.out); (case u_6 => exact Try.underlying41); (case s5_6 => exact rfl); (case i_6 => exact size_act)) | ((with_reducible show wpList _ _ _ (⟨some 288, _, _, _, _, _⟩ :: _) _ _); (with_reducible refine wpList_load_midG ?g5_8 41 ?x5_8 ?o5_8 w.heap.size 0 ?h_8 (AcA a p1 p2 p3 k1 k2 k3).toList ?d5_8 ?c5_8 ?u_8 ?s5_8 ?i_8 ?r5_8); (case g5_8 | o5_8 | h_8 => exact rfl); (case c5_8 => exact HB2.out); (case u_8 => exact Try.underlying41); (case s5_8 => exact rfl); (case i_8 => exact size_act)) | fail)
          refine (actR_any _ _ _ q1 q2 q3 p1 p2 p3 j1 j2 j3 k1 k2 k3 x a HLx.out HLa.out Hbo.out Hf0.out.borne).mono ?_
          rintro e w6 ⟨rfl, m6⟩
          have M6 := Lib.hid (Hbx.out.1.trans' m6)
          have hz := HP.out.mod.size
          have Hz := Lib.hid hz
          clear m6 hz HB1 HB2
          by_cases hxa : x = a
          · have e3 : decide (x = a) = true := decide_eq_true hxa
            rw [e3]
            have Hxa := Lib.hid hxa
            clear hxa e3
            go_wp2_with fail
            go_ret2
            exact ⟨(HP.out.mod.trans' M5.out).trans' M6.out, by rw [Hrp2.out, if_pos ⟨HmF.out, Hxa.out⟩]; exact ⟨_, rfl, ownsRow_low (Gou.ownsRow_mod (Gou.ownsRow_mod Hown.out M5a.out (fun _ _ h => h)) M6.out (fun _ _ h => h)) Hz.out⟩⟩
          · have e3 : decide (x = a) = false := decide_eq_false hxa
            rw [e3]
            have Hxa := Lib.hid hxa
            clear hxa e3
            go_wp2_with fail
            go_ret2
            exact ⟨(HP.out.mod.trans' M5.out).trans' M6.out, by rw [Hrp2.out, if_neg (fun h => Hxa.out h.2)]; rfl⟩

set_option maxHeartbeats 16000000 in
theorem putR_outside (w : World) (a : Ac) (p1 p2 p3 : Option Addr) (k1 k2 k3 : Nat) (hk : ¬ (1 ≤ a.kind ∧ a.kind ≤ 14)) :
    Calls Try.prog 12 #[.agg (AcA a p1 p2 p3 k1 k2 k3)] w (PutP w (refPut a)) := by
  go_enter Try.func12, Try.ntmps12
  have k0 : (w.alloc (.cells (AcA a p1 p2 p3 k1 k2 k3) 41)).cell? ⟨w.heap.size, 0, none⟩ = some (.int .i64 a.kind) := (show Blk (w.alloc (.cells (AcA a p1 p2 p3 k1 k2 k3) 41)) w.heap.size 41 (AcA a p1 p2 p3 k1 k2 k3) from heap_alloc_new w _).cell 0 rfl
  have Hno := Lib.hid (refPut_out hk)
  by_cases hk1 : a.kind < 1
  · have t1 : decide (a.kind < 1) = true := decide_eq_true hk1
    clear hk1 hk
    go_wp2_with fail
    refine bodyPost_ret (v := .tuple #[.slice none 0 0, .int .i64 1]) (by simp [results, Try.results12, go_sem]) rfl ?_
    exact ⟨(Gou.Mod.alloc _ _ _), by rw [Hno.out]⟩
  · have t1 : decide (a.kind < 1) = false := decide_eq_false hk1
    have t2 : decide (14 < a.kind) = true := decide_eq_true (by omega)
    clear hk1 hk
    go_wp2_with fail
    refine bodyPost_ret (v := .tuple #[.slice none 0 0, .int .i64 1]) (by simp [results, Try.results12, go_sem]) rfl ?_
    exact ⟨(Gou.Mod.alloc _ _ _), by rw [Hno.out]⟩

set_option maxHeartbeats 16000000 in
theorem putR_g1 (w : World) (a : Ac) (p1 p2 p3 : Option Addr) (k1 k2 k3 : Nat) (hx : LookR (fun _ => True) w a.op.look (.slice p1 a.op.look.content.pix.length k1) (.slice p2 a.op.look.filt.nodes.length k2) (.slice p3 a.op.look.back.nodes.length k3)) (hf : FewOk a) (hs : PxSmall a.op.look.content) (kk : Nat) (hkk : a.kind = kk) (hcs : kk = 1 ∨ kk = 2 ∨ kk = 3 ∨ kk = 4 ∨ kk = 5 ∨ kk = 7 ∨ kk = 8) :
    Calls Try.prog 12 #[.agg (AcA a p1 p2 p3 k1 k2 k3)] w (PutP w (refPut a)) := by
  have hk : 1 ≤ a.kind ∧ a.kind ≤ 14 := by omega
  have Hx := Lib.hid hx
  have Hf0 := Lib.hid hf
  have Hs := Lib.hid hs
  have Hkk := Lib.hid hkk
  clear hx hf hs hkk
  go_enter Try.func12, Try.ntmps12
  have k0 : (w.alloc (.cells (AcA a p1 p2 p3 k1 k2 k3) 41)).cell? ⟨w.heap.size, 0, none⟩ = some (.int .i64 a.kind) := (show Blk (w.alloc (.cells (AcA a p1 p2 p3 k1 k2 k3) 41)) w.heap.size 41 (AcA a p1 p2 p3 k1 k2 k3) from heap_alloc_new w _).cell 0 rfl
  have t1 : decide (a.kind < 1) = false := decide_eq_false (by omega)
  have t2 : decide (14 < a.kind) = false := decide_eq_false (by omega)
  have Hk := Lib.hid hk
  have Hcs := Lib.hid hcs
  clear hk hcs
  go_upto_region 3 with fail
  have HA : Hid (Blk (w.alloc (.cells (AcA a p1 p2 p3 k1 k2 k3) 41)) w.heap.size 41 (AcA a p1 p2 p3 k1 k2 k3)) := Lib.hid (heap_alloc_new w _)
  have HAm : Hid (Gou.Mod (fun _ => False) w (w.alloc (.cells (AcA a p1 p2 p3 k1 k2 k3) 41))) := Lib.hid (Gou.Mod.alloc _ _ _)
  have HAz : Hid ((w.alloc (.cells (AcA a p1 p2 p3 k1 k2 k3) 41)).heap.size = w.heap.size + 1) := Lib.hid (World.size_alloc _ _)
  generalize (w.alloc (.cells (AcA a p1 p2 p3 k1 k2 k3) 41)) = wA at *
  have Hst := Lib.hid (RPut.start w wA (AcA a p1 p2 p3 k1 k2 k3) (LkA a.op.look p1 p2 p3 k1 k2 k3) HA.out HAm.out HAz.out rfl)
  have Hrg : Hid (World.rangeAt wA w.heap.size 7 (LkA a.op.look p1 p2 p3 k1 k2 k3).toList) := Lib.hid (Blk.range HA.out (act_look a _ _ _) rfl)
  clear t1 t2 k0
  go_upto_block 0 with (first | ((with_reducible show wpList _ _ _ (⟨_, Op.load 35 _, _, _, _, _⟩ :: _) _ _); (with_reducible refine wpList_load_mid ?g_1 35 ?x_1 ?o_1 w.heap.size 7 ?h_1 (LkA a.op.look p1 p2 p3 k1 k2 k3).toList ?d_1 ?c_1 ?u_1 ?s_1 ?i_1 ?r_1); (case g_1 | o_1 | h_1 => exact rfl); (case c_1 => exact Hrg.out); (case u_1 => exact Try.underlying35); (case s_1 => exact rfl); (case i_1 => exact size_look.trans (by simp [LkA, lookC]))) | ((with_reducible show wpList _ _ _ (⟨none, Op.store 35 _ _, _, _, _, _⟩ :: _) _ _); (with_reducible refine wpList_store_mid ?g_2 35 ?x_2 ?y_2 ?o_2 wA.heap.size 0 (LkA a.op.look p1 p2 p3 k1 k2 k3) ?h_2 ?j_2 ?t_2 ?i_2 ?s_2 ?r_2); (case g_2 | o_2 | h_2 | j_2 => exact rfl); (case t_2 => exact Hst.out.2); (case i_2 => exact size_look); (case s_2 => exact lookC_one _ _ _ _ _ _ _ _ _ _); (have H1 := Lib.hid Hst.out.1); (have ca2 : ((wA.alloc (.cells LkZ 35)).setCells wA.heap.size 0 (LkA a.op.look p1 p2 p3 k1 k2 k3).toList).cell? ⟨w.heap.size, 2, none⟩ = some (.int .i64 a.op.id.1) := H1.out.act.cell 2 rfl); (have ca3 : ((wA.alloc (.cells LkZ 35)).setCells wA.heap.size 0 (LkA a.op.look p1 p2 p3 k1 k2 k3).toList).cell? ⟨w.heap.size, 3, none⟩ = some (.int .i64 a.op.id.2) := H1.out.act.cell 3 rfl); (have ca0 : ((wA.alloc (.cells LkZ 35)).setCells wA.heap.size 0 (LkA a.op.look p1 p2 p3 k1 k2 k3).toList).cell? ⟨w.heap.size, 0, none⟩ = some (.int .i64 a.kind) := H1.out.act.cell 0 rfl); (generalize ((wA.alloc (.cells LkZ 35)).setCells wA.heap.size 0 (LkA a.op.look p1 p2 p3 k1 k2 k3).toList) = w1 at *); (obtain ⟨L, hL⟩ : ∃ L, L = wA.heap.size := ⟨_, rfl⟩); (rw [← hL] at H1 ⊢); (clear hL); (have hlt1 : w.heap.size < w1.heap.size := H1.out.act.lt)) | fail)
  have K0 : Hid (RPIn w L (AcA a p1 p2 p3 k1 k2 k3) (LkA a.op.look p1 p2 p3 k1 k2 k3) (.slice (some ⟨w1.heap.size, 0, none⟩) 2 2) [a.op.id.1, a.op.id.2] (w1.alloc (.cells #[.int .i64 a.op.id.1, .int .i64 a.op.id.2] 3))) := Lib.hid (RPIn.start H1.out _)
  clear ca2 ca3 ca0 hlt1
  obtain ⟨i0, hi0⟩ : ∃ i, i = w1.heap.size := ⟨_, rfl⟩
  have Hi0 : Hid (i0 < (w1.alloc (.cells #[.int .i64 a.op.id.1, .int .i64 a.op.id.2] 3)).heap.size ∧ w.heap.size + 2 ≤ i0) := Lib.hid ⟨by rw [World.size_alloc]; omega, by have := H1.out.look.lt; have := H1.out.isL; omega⟩
  rw [← hi0] at K0 ⊢
  clear hi0
  generalize w1.alloc (.cells #[.int .i64 a.op.id.1, .int .i64 a.op.id.2] 3) = W0 at *
  clear H1 Hst Hrg HA HAm HAz
  have HX0 := Lib.hid (Hx.out.mod K0.out.put.mod (fun _ _ _ h => h))
  go_cut [6, 7] from 8 (fun vp vl wx => RPCut w a L (AcA a p1 p2 p3 k1 k2 k3) (LkA a.op.look p1 p2 p3 k1 k2 k3) vp vl wx)
  case first =>
    have hkk := Hkk.out
    have hcs := Hcs.out
    clear Hkk Hcs
    rcases hcs with rfl | rfl | rfl | rfl | rfl | rfl | rfl
    · have Hk1 : Hid (a.kind = 1) := Lib.hid hkk
      rw [hkk]
      clear hkk
      have ca4 : W0.cell? ⟨w.heap.size, 4, none⟩ = some (.int .i64 a.op.to.1) := K0.out.put.act.cell 4 rfl
      have ca5 : W0.cell? ⟨w.heap.size, 5, none⟩ = some (.int .i64 a.op.to.2) := K0.out.put.act.cell 5 rfl
      have ca6 : W0.cell? ⟨w.heap.size, 6, none⟩ = some (.int .i64 a.op.at_) := K0.out.put.act.cell 6 rfl
      go_wp2_with fail
      go_meet
      case rel => exact RPCut.of_lit K0.out [a.op.to.1, a.op.to.2, a.op.at_] 3 rfl (by omega) (by simp [numsOf, Hk1.out]) (pxOf_not (by rw [Hk1.out]; decide))
    · have Hk1 : Hid (a.kind = 2) := Lib.hid hkk
      rw [hkk]
      clear hkk
      go_wp2_with fail
      go_meet
      case rel => exact RPCut.of_in K0.out (by simp [numsOf, lookNums, Hk1.out]) (pxOf_not (by rw [Hk1.out]; decide))
    · have Hk1 : Hid (a.kind = 3) := Lib.hid hkk
      rw [hkk]
      clear hkk
      have ca4 : W0.cell? ⟨w.heap.size, 4, none⟩ = some (.int .i64 a.op.to.1) := K0.out.put.act.cell 4 rfl
      have ca5 : W0.cell? ⟨w.heap.size, 5, none⟩ = some (.int .i64 a.op.to.2) := K0.out.put.act.cell 5 rfl
      have ca6 : W0.cell? ⟨w.heap.size, 6, none⟩ = some (.int .i64 a.op.at_) := K0.out.put.act.cell 6 rfl
      have HL1 : Hid (IntsR (fun _ => True) (W0.alloc (.cells #[.int .i64 (a.op.to.1), .int .i64 (a.op.to.2), .int .i64 (a.op.at_)] 3)) (.slice (some ⟨W0.heap.size, 0, none⟩) 3 3) [a.op.to.1, a.op.to.2, a.op.at_]) := Lib.hid (lit_ints W0 [a.op.to.1, a.op.to.2, a.op.at_] 3 rfl (by omega))
      have HB1 : Hid (w.heap.size + 2 ≤ (W0.alloc (.cells #[.int .i64 (a.op.to.1), .int .i64 (a.op.to.2), .int .i64 (a.op.at_)] 3)).heap.size) := Lib.hid (by rw [World.size_alloc]; have := K0.out.put.look.lt; have := K0.out.put.isL; omega)
      have Hn1 : Hid (([a.op.id.1, a.op.id.2] : List Int).length + ([a.op.to.1, a.op.to.2, a.op.at_] : List Int).length ≤ 100000000) := Lib.hid (by simp)
      go_wp2_with (first | ((with_reducible refine wpList_append_ints ?g_3 ?s_3 ?x_3 ?o_3 (w.heap.size + 2) (.slice (some ⟨i0, 0, none⟩) 2 2) [a.op.id.1, a.op.id.2] [a.op.to.1, a.op.to.2, a.op.at_] ?G_3 (.slice (some ⟨W0.heap.size, 0, none⟩) 3 3) ?a_3 ?b_3 ?c_3 ?d_3 ?e_3 ?f_3 ?r_3); (case g_3 | o_3 | a_3 | b_3 => exact rfl); (case e_3 => exact HL1.out); (case c_3 => exact HB1.out); (case d_3 => exact K0.out.own.alloc _); (case f_3 => exact Hn1.out); (intro v5 w5 hown5 m5 f5); (have K5 := Lib.hid (K0.out.step (Gou.Mod.alloc _ _ _) hown5 m5)); (obtain ⟨p5, c5, rfl⟩ := Gou.ownsRow_form hown5); (clear hown5 m5 f5)) | fail)
      go_meet
      case rel => exact RPCut.of_in K5.out (by simp [numsOf, lookNums, Hk1.out]) (pxOf_not (by rw [Hk1.out]; decide))
    · have Hk1 : Hid (a.kind = 4) := Lib.hid hkk
      rw [hkk]
      clear hkk
      have ca6 : W0.cell? ⟨w.heap.size, 6, none⟩ = some (.int .i64 a.op.at_) := K0.out.put.act.cell 6 rfl
      have HL1 : Hid (IntsR (fun _ => True) (W0.alloc (.cells #[.int .i64 (a.op.at_)] 3)) (.slice (some ⟨W0.heap.size, 0, none⟩) 1 1) [a.op.at_]) := Lib.hid (lit_ints W0 [a.op.at_] 1 rfl (by omega))
      have HB1 : Hid (w.heap.size + 2 ≤ (W0.alloc (.cells #[.int .i64 (a.op.at_)] 3)).heap.size) := Lib.hid (by rw [World.size_alloc]; have := K0.out.put.look.lt; have := K0.out.put.isL; omega)
      have Hn1 : Hid (([a.op.id.1, a.op.id.2] : List Int).length + ([a.op.at_] : List Int).length ≤ 100000000) := Lib.hid (by simp)
      go_wp2_with (first | ((with_reducible refine wpList_append_ints ?g_4 ?s_4 ?x_4 ?o_4 (w.heap.size + 2) (.slice (some ⟨i0, 0, none⟩) 2 2) [a.op.id.1, a.op.id.2] [a.op.at_] ?G_4 (.slice (some ⟨W0.heap.size, 0, none⟩) 1 1) ?a_4 ?b_4 ?c_4 ?d_4 ?e_4 ?f_4 ?r_4); (case g_4 | o_4 | a_4 | b_4 => exact rfl); (case e_4 => exact HL1.out); (case c_4 => exact HB1.out); (case d_4 => exact K0.out.own.alloc _); (case f_4 => exact Hn1.out); (intro v5 w5 hown5 m5 f5); (have K5 := Lib.hid (K0.out.step (Gou.Mod.alloc _ _ _) hown5 m5)); (obtain ⟨p5, c5, rfl⟩ := Gou.ownsRow_form hown5); (clear hown5 m5 f5)) | fail)
      go_meet
      case rel => exact RPCut.of_in K5.out (by simp [numsOf, lookNums, Hk1.out]) (pxOf_not (by rw [Hk1.out]; decide))
    · have Hk1 : Hid (a.kind = 5) := Lib.hid hkk
      rw [hkk]
      clear hkk
      have cl0 : W0.cell? ⟨L, 0, none⟩ = some (.int .i64 a.op.look.dx) := K0.out.put.look.cell 0 rfl
      have cl1 : W0.cell? ⟨L, 1, none⟩ = some (.int .i64 a.op.look.dy) := K0.out.put.look.cell 1 rfl
      have HL1 : Hid (IntsR (fun _ => True) (W0.alloc (.cells #[.int .i64 (a.op.look.dx), .int .i64 (a.op.look.dy)] 3)) (.slice (some ⟨W0.heap.size, 0, none⟩) 2 2) [a.op.look.dx, a.op.look.dy]) := Lib.hid (lit_ints W0 [a.op.look.dx, a.op.look.dy] 2 rfl (by omega))
      have HB1 : Hid (w.heap.size + 2 ≤ (W0.alloc (.cells #[.int .i64 (a.op.look.dx), .int .i64 (a.op.look.dy)] 3)).heap.size) := Lib.hid (by rw [World.size_alloc]; have := K0.out.put.look.lt; have := K0.out.put.isL; omega)
      have Hn1 : Hid (([a.op.id.1, a.op.id.2] : List Int).length + ([a.op.look.dx, a.op.look.dy] : List Int).length ≤ 100000000) := Lib.hid (by simp)
      go_wp2_with (first | ((with_reducible refine wpList_append_ints ?g_5 ?s_5 ?x_5 ?o_5 (w.heap.size + 2) (.slice (some ⟨i0, 0, none⟩) 2 2) [a.op.id.1, a.op.id.2] [a.op.look.dx, a.op.look.dy] ?G_5 (.slice (some ⟨W0.heap.size, 0, none⟩) 2 2) ?a_5 ?b_5 ?c_5 ?d_5 ?e_5 ?f_5 ?r_5); (case g_5 | o_5 | a_5 | b_5 => exact rfl); (case e_5 => exact HL1.out); (case c_5 => exact HB1.out); (case d_5 => exact K0.out.own.alloc _); (case f_5 => exact Hn1.out); (intro v5 w5 hown5 m5 f5); (have K5 := Lib.hid (K0.out.step (Gou.Mod.alloc _ _ _) hown5 m5)); (obtain ⟨p5, c5, rfl⟩ := Gou.ownsRow_form hown5); (clear hown5 m5 f5)) | fail)
      go_meet
      case rel => exact RPCut.of_in K5.out (by simp [numsOf, lookNums, Hk1.out]) (pxOf_not (by rw [Hk1.out]; decide))
    · have Hk1 : Hid (a.kind = 7) := Lib.hid hkk
      rw [hkk]
      clear hkk
      have cl7 : W0.cell? ⟨L, 7, none⟩ = some (.int .i64 a.op.look.opacity) := K0.out.put.look.cell 7 rfl
      have HL1 : Hid (IntsR (fun _ => True) (W0.alloc (.cells #[.int .i64 (a.op.look.opacity)] 3)) (.slice (some ⟨W0.heap.size, 0, none⟩) 1 1) [a.op.look.opacity]) := Lib.hid (lit_ints W0 [a.op.look.opacity] 1 rfl (by omega))
      have HB1 : Hid (w.heap.size + 2 ≤ (W0.alloc (.cells #[.int .i64 (a.op.look.opacity)] 3)).heap.size) := Lib.hid (by rw [World.size_alloc]; have := K0.out.put.look.lt; have := K0.out.put.isL; omega)
      have Hn1 : Hid (([a.op.id.1, a.op.id.2] : List Int).length + ([a.op.look.opacity] : List Int).length ≤ 100000000) := Lib.hid (by simp)
      go_wp2_with (first | ((with_reducible refine wpList_append_ints ?g_6 ?s_6 ?x_6 ?o_6 (w.heap.size + 2) (.slice (some ⟨i0, 0, none⟩) 2 2) [a.op.id.1, a.op.id.2] [a.op.look.opacity] ?G_6 (.slice (some ⟨W0.heap.size, 0, none⟩) 1 1) ?a_6 ?b_6 ?c_6 ?d_6 ?e_6 ?f_6 ?r_6); (case g_6 | o_6 | a_6 | b_6 => exact rfl); (case e_6 => exact HL1.out); (case c_6 => exact HB1.out); (case d_6 => exact K0.out.own.alloc _); (case f_6 => exact Hn1.out); (intro v5 w5 hown5 m5 f5); (have K5 := Lib.hid (K0.out.step (Gou.Mod.alloc _ _ _) hown5 m5)); (obtain ⟨p5, c5, rfl⟩ := Gou.ownsRow_form hown5); (clear hown5 m5 f5)) | fail)
      go_meet
      case rel => exact RPCut.of_in K5.out (by simp [numsOf, lookNums, Hk1.out]) (pxOf_not (by rw [Hk1.out]; decide))
    · have Hk1 : Hid (a.kind = 8) := Lib.hid hkk
      rw [hkk]
      clear hkk
      have cl8 : W0.cell? ⟨L, 8, none⟩ = some (.int .i64 a.op.look.mode) := K0.out.put.look.cell 8 rfl
      have HL1 : Hid (IntsR (fun _ => True) (W0.alloc (.cells #[.int .i64 (a.op.look.mode)] 3)) (.slice (some ⟨W0.heap.size, 0, none⟩) 1 1) [a.op.look.mode]) := Lib.hid (lit_ints W0 [a.op.look.mode] 1 rfl (by omega))
      have HB1 : Hid (w.heap.size + 2 ≤ (W0.alloc (.cells #[.int .i64 (a.op.look.mode)] 3)).heap.size) := Lib.hid (by rw [World.size_alloc]; have := K0.out.put.look.lt; have := K0.out.put.isL; omega)
      have Hn1 : Hid (([a.op.id.1, a.op.id.2] : List Int).length + ([a.op.look.mode] : List Int).length ≤ 100000000) := Lib.hid (by simp)
      go_wp2_with (first | ((with_reducible refine wpList_append_ints ?g_7 ?s_7 ?x_7 ?o_7 (w.heap.size + 2) (.slice (some ⟨i0, 0, none⟩) 2 2) [a.op.id.1, a.op.id.2] [a.op.look.mode] ?G_7 (.slice (some ⟨W0.heap.size, 0, none⟩) 1 1) ?a_7 ?b_7 ?c_7 ?d_7 ?e_7 ?f_7 ?r_7); (case g_7 | o_7 | a_7 | b_7 => exact rfl); (case e_7 => exact HL1.out); (case c_7 => exact HB1.out); (case d_7 => exact K0.out.own.alloc _); (case f_7 => exact Hn1.out); (intro v5 w5 hown5 m5 f5); (have K5 := Lib.hid (K0.out.step (Gou.Mod.alloc _ _ _) hown5 m5)); (obtain ⟨p5, c5, rfl⟩ := Gou.ownsRow_form hown5); (clear hown5 m5 f5)) | fail)
      go_meet
      case rel => exact RPCut.of_in K5.out (by simp [numsOf, lookNums, Hk1.out]) (pxOf_not (by rw [Hk1.out]; decide))
  case rest =>
    go_step
    exact putR_tail w wc a p1 p2 p3 k1 k2 k3 L i0 _ _ Hx.out Hf0.out Hs.out Hk.out hcut

set_option maxHeartbeats 16000000 in
theorem putR_g2 (w : World) (a : Ac) (p1 p2 p3 : Option Addr) (k1 k2 k3 : Nat) (hx : LookR (fun _ => True) w a.op.look (.slice p1 a.op.look.content.pix.length k1) (.slice p2 a.op.look.filt.nodes.length k2) (.slice p3 a.op.look.back.nodes.length k3)) (hf : FewOk a) (hs : PxSmall a.op.look.content) (kk : Nat) (hkk : a.kind = kk) (hcs : kk = 6 ∨ kk = 9 ∨ kk = 14) :
    Calls Try.prog 12 #[.agg (AcA a p1 p2 p3 k1 k2 k3)] w (PutP w (refPut a)) := by
  have hk : 1 ≤ a.kind ∧ a.kind ≤ 14 := by omega
  have Hx := Lib.hid hx
  have Hf0 := Lib.hid hf
  have Hs := Lib.hid hs
  have Hkk := Lib.hid hkk
  clear hx hf hs hkk
  go_enter Try.func12, Try.ntmps12
  have k0 : (w.alloc (.cells (AcA a p1 p2 p3 k1 k2 k3) 41)).cell? ⟨w.heap.size, 0, none⟩ = some (.int .i64 a.kind) := (show Blk (w.alloc (.cells (AcA a p1 p2 p3 k1 k2 k3) 41)) w.heap.size 41 (AcA a p1 p2 p3 k1 k2 k3) from heap_alloc_new w _).cell 0 rfl
  have t1 : decide (a.kind < 1) = false := decide_eq_false (by omega)
  have t2 : decide (14 < a.kind) = false := decide_eq_false (by omega)
  have Hk := Lib.hid hk
  have Hcs := Lib.hid hcs
  clear hk hcs
  go_upto_region 3 with fail
  have HA : Hid (Blk (w.alloc (.cells (AcA a p1 p2 p3 k1 k2 k3) 41)) w.heap.size 41 (AcA a p1 p2 p3 k1 k2 k3)) := Lib.hid (heap_alloc_new w _)
  have HAm : Hid (Gou.Mod (fun _ => False) w (w.alloc (.cells (AcA a p1 p2 p3 k1 k2 k3) 41))) := Lib.hid (Gou.Mod.alloc _ _ _)
  have HAz : Hid ((w.alloc (.cells (AcA a p1 p2 p3 k1 k2 k3) 41)).heap.size = w.heap.size + 1) := Lib.hid (World.size_alloc _ _)
  generalize (w.alloc (.cells (AcA a p1 p2 p3 k1 k2 k3) 41)) = wA at *
  have Hst := Lib.hid (RPut.start w wA (AcA a p1 p2 p3 k1 k2 k3) (LkA a.op.look p1 p2 p3 k1 k2 k3) HA.out HAm.out HAz.out rfl)
  have Hrg : Hid (World.rangeAt wA w.heap.size 7 (LkA a.op.look p1 p2 p3 k1 k2 k3).toList) := Lib.hid (Blk.range HA.out (act_look a _ _ _) rfl)
  clear t1 t2 k0
  go_upto_block 0 with (first | ((with_reducible show wpList _ _ _ (⟨_, Op.load 35 _, _, _, _, _⟩ :: _) _ _); (with_reducible refine wpList_load_mid ?g_1 35 ?x_1 ?o_1 w.heap.size 7 ?h_1 (LkA a.op.look p1 p2 p3 k1 k2 k3).toList ?d_1 ?c_1 ?u_1 ?s_1 ?i_1 ?r_1); (case g_1 | o_1 | h_1 => exact rfl); (case c_1 => exact Hrg.out); (case u_1 => exact Try.underlying35); (case s_1 => exact rfl); (case i_1 => exact size_look.trans (by simp [LkA, lookC]))) | ((with_reducible show wpList _ _ _ (⟨none, Op.store 35 _ _, _, _, _, _⟩ :: _) _ _); (with_reducible refine wpList_store_mid ?g_2 35 ?x_2 ?y_2 ?o_2 wA.heap.size 0 (LkA a.op.look p1 p2 p3 k1 k2 k3) ?h_2 ?j_2 ?t_2 ?i_2 ?s_2 ?r_2); (case g_2 | o_2 | h_2 | j_2 => exact rfl); (case t_2 => exact Hst.out.2); (case i_2 => exact size_look); (case s_2 => exact lookC_one _ _ _ _ _ _ _ _ _ _); (have H1 := Lib.hid Hst.out.1); (have ca2 : ((wA.alloc (.cells LkZ 35)).setCells wA.heap.size 0 (LkA a.op.look p1 p2 p3 k1 k2 k3).toList).cell? ⟨w.heap.size, 2, none⟩ = some (.int .i64 a.op.id.1) := H1.out.act.cell 2 rfl); (have ca3 : ((wA.alloc (.cells LkZ 35)).setCells wA.heap.size 0 (LkA a.op.look p1 p2 p3 k1 k2 k3).toList).cell? ⟨w.heap.size, 3, none⟩ = some (.int .i64 a.op.id.2) := H1.out.act.cell 3 rfl); (have ca0 : ((wA.alloc (.cells LkZ 35)).setCells wA.heap.size 0 (LkA a.op.look p1 p2 p3 k1 k2 k3).toList).cell? ⟨w.heap.size, 0, none⟩ = some (.int .i64 a.kind) := H1.out.act.cell 0 rfl); (generalize ((wA.alloc (.cells LkZ 35)).setCells wA.heap.size 0 (LkA a.op.look p1 p2 p3 k1 k2 k3).toList) = w1 at *); (obtain ⟨L, hL⟩ : ∃ L, L = wA.heap.size := ⟨_, rfl⟩); (rw [← hL] at H1 ⊢); (clear hL); (have hlt1 : w.heap.size < w1.heap.size := H1.out.act.lt)) | fail)
  have K0 : Hid (RPIn w L (AcA a p1 p2 p3 k1 k2 k3) (LkA a.op.look p1 p2 p3 k1 k2 k3) (.slice (some ⟨w1.heap.size, 0, none⟩) 2 2) [a.op.id.1, a.op.id.2] (w1.alloc (.cells #[.int .i64 a.op.id.1, .int .i64 a.op.id.2] 3))) := Lib.hid (RPIn.start H1.out _)
  clear ca2 ca3 ca0 hlt1
  obtain ⟨i0, hi0⟩ : ∃ i, i = w1.heap.size := ⟨_, rfl⟩
  have Hi0 : Hid (i0 < (w1.alloc (.cells #[.int .i64 a.op.id.1, .int .i64 a.op.id.2] 3)).heap.size ∧ w.heap.size + 2 ≤ i0) := Lib.hid ⟨by rw [World.size_alloc]; omega, by have := H1.out.look.lt; have := H1.out.isL; omega⟩
  rw [← hi0] at K0 ⊢
  clear hi0
  generalize w1.alloc (.cells #[.int .i64 a.op.id.1, .int .i64 a.op.id.2] 3) = W0 at *
  clear H1 Hst Hrg HA HAm HAz
  have HX0 := Lib.hid (Hx.out.mod K0.out.put.mod (fun _ _ _ h => h))
  go_cut [6, 7] from 8 (fun vp vl wx => RPCut w a L (AcA a p1 p2 p3 k1 k2 k3) (LkA a.op.look p1 p2 p3 k1 k2 k3) vp vl wx)
  case first =>
    have hkk := Hkk.out
    have hcs := Hcs.out
    clear Hkk Hcs
    rcases hcs with rfl | rfl | rfl
    · have Hk1 : Hid (a.kind = 6) := Lib.hid hkk
      rw [hkk]
      clear hkk
      by_cases hf : a.op.look.hasClip = true
      · have Hf := Lib.hid hf
        have cl2 : W0.cell? ⟨L, 2, none⟩ = some (.bool a.op.look.hasClip) := K0.out.put.look.cell 2 rfl
        rw [hf] at cl2
        clear hf
        have cl3 : W0.cell? ⟨L, 3, none⟩ = some (.int .i64 a.op.look.clip.x0) := K0.out.put.look.cell 3 rfl
        have cl4 : W0.cell? ⟨L, 4, none⟩ = some (.int .i64 a.op.look.clip.y0) := K0.out.put.look.cell 4 rfl
        have cl5 : W0.cell? ⟨L, 5, none⟩ = some (.int .i64 a.op.look.clip.x1) := K0.out.put.look.cell 5 rfl
        have cl6 : W0.cell? ⟨L, 6, none⟩ = some (.int .i64 a.op.look.clip.y1) := K0.out.put.look.cell 6 rfl
        have HL1 : Hid (IntsR (fun _ => True) (W0.alloc (.cells #[.int .i64 (1), .int .i64 (a.op.look.clip.x0), .int .i64 (a.op.look.clip.y0), .int .i64 (a.op.look.clip.x1), .int .i64 (a.op.look.clip.y1)] 3)) (.slice (some ⟨W0.heap.size, 0, none⟩) 5 5) [1, a.op.look.clip.x0, a.op.look.clip.y0, a.op.look.clip.x1, a.op.look.clip.y1]) := Lib.hid (lit_ints W0 [1, a.op.look.clip.x0, a.op.look.clip.y0, a.op.look.clip.x1, a.op.look.clip.y1] 5 rfl (by omega))
        have HB1 : Hid (w.heap.size + 2 ≤ (W0.alloc (.cells #[.int .i64 (1), .int .i64 (a.op.look.clip.x0), .int .i64 (a.op.look.clip.y0), .int .i64 (a.op.look.clip.x1), .int .i64 (a.op.look.clip.y1)] 3)).heap.size) := Lib.hid (by rw [World.size_alloc]; have := K0.out.put.look.lt; have := K0.out.put.isL; omega)
        have Hn1 : Hid (([a.op.id.1, a.op.id.2] : List Int).length + ([1, a.op.look.clip.x0, a.op.look.clip.y0, a.op.look.clip.x1, a.op.look.clip.y1] : List Int).length ≤ 100000000) := Lib.hid (by simp)
        go_wp2_with (first | ((with_reducible refine wpList_append_ints ?g_8 ?s_8 ?x_8 ?o_8 (w.heap.size + 2) (.slice (some ⟨i0, 0, none⟩) 2 2) [a.op.id.1, a.op.id.2] [1, a.op.look.clip.x0, a.op.look.clip.y0, a.op.look.clip.x1, a.op.look.clip.y1] ?G_8 (.slice (some ⟨W0.heap.size, 0, none⟩) 5 5) ?a_8 ?b_8 ?c_8 ?d_8 ?e_8 ?f_8 ?r_8); (case g_8 | o_8 | a_8 | b_8 => exact rfl); (case e_8 => exact HL1.out); (case c_8 => exact HB1.out); (case d_8 => exact K0.out.own.alloc _); (case f_8 => exact Hn1.out); (intro v5 w5 hown5 m5 f5); (have K5 := Lib.hid (K0.out.step (Gou.Mod.alloc _ _ _) hown5 m5)); (obtain ⟨p5, c5, rfl⟩ := Gou.ownsRow_form hown5); (clear hown5 m5 f5)) | fail)
        go_meet
        case rel => exact RPCut.of_in K5.out (by simp [numsOf, lookNums, Hk1.out, Hf.out]) (pxOf_not (by rw [Hk1.out]; decide))
      · have hf' : a.op.look.hasClip = false := by simpa using hf
        have Hf := Lib.hid hf'
        have cl2 : W0.cell? ⟨L, 2, none⟩ = some (.bool a.op.look.hasClip) := K0.out.put.look.cell 2 rfl
        rw [hf'] at cl2
        clear hf hf'
        have HL1 : Hid (IntsR (fun _ => True) (W0.alloc (.cells #[.int .i64 (0)] 3)) (.slice (some ⟨W0.heap.size, 0, none⟩) 1 1) [0]) := Lib.hid (lit_ints W0 [0] 1 rfl (by omega))
        have HB1 : Hid (w.heap.size + 2 ≤ (W0.alloc (.cells #[.int .i64 (0)] 3)).heap.size) := Lib.hid (by rw [World.size_alloc]; have := K0.out.put.look.lt; have := K0.out.put.isL; omega)
        have Hn1 : Hid (([a.op.id.1, a.op.id.2] : List Int).length + ([0] : List Int).length ≤ 100000000) := Lib.hid (by simp)
        go_wp2_with (first | ((with_reducible refine wpList_append_ints ?g_9 ?s_9 ?x_9 ?o_9 (w.heap.size + 2) (.slice (some ⟨i0, 0, none⟩) 2 2) [a.op.id.1, a.op.id.2] [0] ?G_9 (.slice (some ⟨W0.heap.size, 0, none⟩) 1 1) ?a_9 ?b_9 ?c_9 ?d_9 ?e_9 ?f_9 ?r_9); (case g_9 | o_9 | a_9 | b_9 => exact rfl); (case e_9 => exact HL1.out); (case c_9 => exact HB1.out); (case d_9 => exact K0.out.own.alloc _); (case f_9 => exact Hn1.out); (intro v5 w5 hown5 m5 f5); (have K5 := Lib.hid (K0.out.step (Gou.Mod.alloc _ _ _) hown5 m5)); (obtain ⟨p5, c5, rfl⟩ := Gou.ownsRow_form hown5); (clear hown5 m5 f5)) | fail)
        go_meet
        case rel => exact RPCut.of_in K5.out (by simp [numsOf, lookNums, Hk1.out, Hf.out]) (pxOf_not (by rw [Hk1.out]; decide))
    · have Hk1 : Hid (a.kind = 9) := Lib.hid hkk
      rw [hkk]
      clear hkk
      have Hrc : Hid (World.rangeAt W0 L 9 (contC a.op.look.content (.slice p1 a.op.look.content.pix.length k1)).toList) := Lib.hid (Blk.range K0.out.put.look (look_cont a.op.look _ _ _) rfl)
      have Hcs := Lib.hid (box_put W0 30 CtZ (contC a.op.look.content (.slice p1 a.op.look.content.pix.length k1)) rfl)
      go_upto_if 133 with (first | ((with_reducible show wpList _ _ _ (⟨_, Op.load 30 _, _, _, _, _⟩ :: _) _ _); (with_reducible refine wpList_load_mid ?g_e 30 ?x_e ?o_e L 9 ?h_e (contC a.op.look.content (.slice p1 a.op.look.content.pix.length k1)).toList ?d_e ?c_e ?u_e ?s_e ?i_e ?r_e); (case g_e | o_e | h_e => exact rfl); (case c_e => exact Hrc.out); (case u_e => exact Try.underlying30); (case s_e => exact rfl); (case i_e => exact size_content.trans (by simp [contC]))) | ((with_reducible show wpList _ _ _ (⟨none, Op.store 30 _ _, _, _, _, _⟩ :: _) _ _); (with_reducible refine wpList_store_mid ?g_f 30 ?x_f ?y_f ?o_f W0.heap.size 0 (contC a.op.look.content (.slice p1 a.op.look.content.pix.length k1)) ?h_f ?j_f ?t_f ?i_f ?s_f ?r_f); (case g_f | o_f | h_f | j_f => exact rfl); (case t_f => exact Hcs.out.2.2); (case i_f => exact size_content); (case s_f => exact contC_one _ _ _ _); (have Q1 := Lib.hid (RPCt.start K0.out Hi0.out.1 CtZ (contC a.op.look.content (.slice p1 a.op.look.content.pix.length k1)) rfl)); (clear Hrc Hcs); (generalize ((W0.alloc (.cells CtZ 30)).setCells W0.heap.size 0 (contC a.op.look.content (.slice p1 a.op.look.content.pix.length k1)).toList) = W1 at *); (obtain ⟨b0, hb0⟩ : ∃ b, b = W0.heap.size := ⟨_, rfl⟩); (rw [← hb0] at Q1 ⊢); (clear hb0); (have cc0 : W1.cell? ⟨b0, 0, none⟩ = some (.int .i64 a.op.look.content.kind) := Q1.out.box.cell 0 rfl)) | ((with_reducible refine wpList_append_ints ?g_g ?s_g ?x_g ?o_g (w.heap.size + 2) (.slice (some ⟨i0, 0, none⟩) 2 2) [a.op.id.1, a.op.id.2] [a.op.look.content.kind] ?G_g (.slice (some ⟨W1.heap.size, 0, none⟩) 1 1) ?a_g ?b_g ?c_g ?d_g ?e_g ?f_g ?r_g); (case g_g | o_g | a_g | b_g => exact rfl); (case e_g => exact (lit_ints W1 [a.op.look.content.kind] 1 rfl (by omega))); (case c_g => exact (by rw [World.size_alloc]; have := Q1.out.inn.put.look.lt; have := Q1.out.inn.put.isL; omega)); (case d_g => exact (Q1.out.inn.own.alloc _)); (case f_g => exact (by simp)); (intro v5 w5 hown5 m5 f5); (have Q5 := Lib.hid (Q1.out.step (Gou.Mod.alloc _ _ _) hown5 m5 f5)); (obtain ⟨p5, c5, rfl⟩ := Gou.ownsRow_form hown5); (clear hown5 m5 f5); (have cc0 : w5.cell? ⟨b0, 0, none⟩ = some (.int .i64 a.op.look.content.kind) := Q5.out.box.cell 0 rfl)) | fail)
      by_cases hkc : a.op.look.content.kind = 1
      · have cc1 : w5.cell? ⟨b0, 1, none⟩ = some (.int .i64 a.op.look.content.box.x0) := Q5.out.box.cell 1 rfl
        have cc2 : w5.cell? ⟨b0, 2, none⟩ = some (.int .i64 a.op.look.content.box.y0) := Q5.out.box.cell 2 rfl
        have cc3 : w5.cell? ⟨b0, 3, none⟩ = some (.int .i64 a.op.look.content.box.x1) := Q5.out.box.cell 3 rfl
        have cc4 : w5.cell? ⟨b0, 4, none⟩ = some (.int .i64 a.op.look.content.box.y1) := Q5.out.box.cell 4 rfl
        have Hkc := Lib.hid hkc
        rw [hkc] at cc0
        rw [hkc]
        clear hkc
        go_wp2_with (first | ((with_reducible refine wpList_append_ints ?g_h ?s_h ?x_h ?o_h (w.heap.size + 2) (.slice p5 ([a.op.id.1, a.op.id.2] ++ [a.op.look.content.kind]).length c5) ([a.op.id.1, a.op.id.2] ++ [a.op.look.content.kind]) [a.op.look.content.box.x0, a.op.look.content.box.y0, a.op.look.content.box.x1, a.op.look.content.box.y1] ?G_h (.slice (some ⟨w5.heap.size, 0, none⟩) 4 4) ?a_h ?b_h ?c_h ?d_h ?e_h ?f_h ?r_h); (case g_h | o_h | a_h | b_h => exact rfl); (case e_h => exact (lit_ints w5 [a.op.look.content.box.x0, a.op.look.content.box.y0, a.op.look.content.box.x1, a.op.look.content.box.y1] 4 rfl (by omega))); (case c_h => exact (by rw [World.size_alloc]; have := Q5.out.inn.put.look.lt; have := Q5.out.inn.put.isL; omega)); (case d_h => exact (Q5.out.inn.own.alloc _)); (case f_h => exact (by simp)); (intro v6 w6 hown6 m6 f6); (have Q6 := Lib.hid (Q5.out.step (Gou.Mod.alloc _ _ _) hown6 m6 f6)); (obtain ⟨p6, c6, rfl⟩ := Gou.ownsRow_form hown6); (clear hown6 m6 f6); (have cc5 : w6.cell? ⟨b0, 5, none⟩ = some (.int .u8 (a.op.look.content.px.p0 : Nat)) := Q6.out.box.cell 5 rfl); (have cc6 : w6.cell? ⟨b0, 6, none⟩ = some (.int .u8 (a.op.look.content.px.p1 : Nat)) := Q6.out.box.cell 6 rfl); (have cc7 : w6.cell? ⟨b0, 7, none⟩ = some (.int .u8 (a.op.look.content.px.p2 : Nat)) := Q6.out.box.cell 7 rfl); (have cc8 : w6.cell? ⟨b0, 8, none⟩ = some (.int .u8 (a.op.look.content.px.p3 : Nat)) := Q6.out.box.cell 8 rfl); (have cc0 : w6.cell? ⟨b0, 0, none⟩ = some (.int .i64 a.op.look.content.kind) := Q6.out.box.cell 0 rfl); (rw [Hkc.out] at cc0); (have hb6 : b0 < w6.heap.size := Q6.out.box.lt)) | fail)
        go_meet
        case rel => exact RPCut.of_px Q6.out.inn (by simp [numsOf, lookNums, contNums, Hk1.out, Hkc.out]) a.op.look.content.px (by simp [pxOf, Hk1.out, Hkc.out])
      by_cases hkc2 : a.op.look.content.kind = 2
      · clear hkc
        have hkc := hkc2
        clear hkc2
        have cc1 : w5.cell? ⟨b0, 1, none⟩ = some (.int .i64 a.op.look.content.box.x0) := Q5.out.box.cell 1 rfl
        have cc2 : w5.cell? ⟨b0, 2, none⟩ = some (.int .i64 a.op.look.content.box.y0) := Q5.out.box.cell 2 rfl
        have cc9 : w5.cell? ⟨b0, 9, none⟩ = some (.int .i64 a.op.look.content.w) := Q5.out.box.cell 9 rfl
        have cc10 : w5.cell? ⟨b0, 10, none⟩ = some (.int .i64 a.op.look.content.h) := Q5.out.box.cell 10 rfl
        have cc11 : w5.cell? ⟨b0, 11, none⟩ = some (.int .i64 a.op.look.content.turn) := Q5.out.box.cell 11 rfl
        have Hkc := Lib.hid hkc
        rw [hkc] at cc0
        rw [hkc]
        clear hkc
        go_wp2_with (first | ((with_reducible refine wpList_append_ints ?g_i ?s_i ?x_i ?o_i (w.heap.size + 2) (.slice p5 ([a.op.id.1, a.op.id.2] ++ [a.op.look.content.kind]).length c5) ([a.op.id.1, a.op.id.2] ++ [a.op.look.content.kind]) [a.op.look.content.box.x0, a.op.look.content.box.y0, a.op.look.content.w, a.op.look.content.h, a.op.look.content.turn] ?G_i (.slice (some ⟨w5.heap.size, 0, none⟩) 5 5) ?a_i ?b_i ?c_i ?d_i ?e_i ?f_i ?r_i); (case g_i | o_i | a_i | b_i => exact rfl); (case e_i => exact (lit_ints w5 [a.op.look.content.box.x0, a.op.look.content.box.y0, a.op.look.content.w, a.op.look.content.h, a.op.look.content.turn] 5 rfl (by omega))); (case c_i => exact (by rw [World.size_alloc]; have := Q5.out.inn.put.look.lt; have := Q5.out.inn.put.isL; omega)); (case d_i => exact (Q5.out.inn.own.alloc _)); (case f_i => exact (by simp)); (intro v6 w6 hown6 m6 f6); (have Q6 := Lib.hid (Q5.out.step (Gou.Mod.alloc _ _ _) hown6 m6 f6)); (obtain ⟨p6, c6, rfl⟩ := Gou.ownsRow_form hown6); (clear hown6 m6 f6); (have cc12 : w6.cell? ⟨b0, 12, none⟩ = some (.slice p1 a.op.look.content.pix.length k1) := Q6.out.box.cell 12 rfl)) | fail)
        go_meet
        case rel => exact RPCut.of_pix Q6.out.inn (by simp [numsOf, lookNums, contNums, Hk1.out, Hkc.out]) (by simp [pxOf, Hk1.out, Hkc.out]) (RowG.mod Hx.out.pix Q6.out.inn.put.mod (fun _ _ _ h => h))
      have e1 : (a.op.look.content.kind == 1) = false := beq_eq_false_iff_ne.2 hkc
      have e2 : (a.op.look.content.kind == 2) = false := beq_eq_false_iff_ne.2 hkc2
      have Hkc := Lib.hid (And.intro hkc hkc2)
      clear hkc hkc2
      go_wp2_with fail
      go_meet
      case rel => exact RPCut.of_in Q5.out.inn (by simp [numsOf, lookNums, contNums, Hk1.out, Hkc.out.1, Hkc.out.2]) (by simp [pxOf, Hk1.out, Hkc.out.1, Hkc.out.2])
    · have Hk1 : Hid (a.kind = 14) := Lib.hid hkk
      rw [hkk]
      clear hkk
      go_wp2_with fail
      go_meet
      case rel => exact RPCut.of_nil K0.out (by simp [numsOf, Hk1.out]) (pxOf_not (by rw [Hk1.out]; decide))
  case rest =>
    go_step
    exact putR_tail w wc a p1 p2 p3 k1 k2 k3 L i0 _ _ Hx.out Hf0.out Hs.out Hk.out hcut

set_option maxHeartbeats 16000000 in
theorem putR_g3 (w : World) (a : Ac) (p1 p2 p3 : Option Addr) (k1 k2 k3 : Nat) (hx : LookR (fun _ => True) w a.op.look (.slice p1 a.op.look.content.pix.length k1) (.slice p2 a.op.look.filt.nodes.length k2) (.slice p3 a.op.look.back.nodes.length k3)) (hf : FewOk a) (hs : PxSmall a.op.look.content) (kk : Nat) (hkk : a.kind = kk) (hcs : kk = 10 ∨ kk = 11 ∨ kk = 12 ∨ kk = 13) :
    Calls Try.prog 12 #[.agg (AcA a p1 p2 p3 k1 k2 k3)] w (PutP w (refPut a)) := by
  have hk : 1 ≤ a.kind ∧ a.kind ≤ 14 := by omega
  have Hx := Lib.hid hx
  have Hf0 := Lib.hid hf
  have Hs := Lib.hid hs
  have Hkk := Lib.hid hkk
  clear hx hf hs hkk
  go_enter Try.func12, Try.ntmps12
  have k0 : (w.alloc (.cells (AcA a p1 p2 p3 k1 k2 k3) 41)).cell? ⟨w.heap.size, 0, none⟩ = some (.int .i64 a.kind) := (show Blk (w.alloc (.cells (AcA a p1 p2 p3 k1 k2 k3) 41)) w.heap.size 41 (AcA a p1 p2 p3 k1 k2 k3) from heap_alloc_new w _).cell 0 rfl
  have t1 : decide (a.kind < 1) = false := decide_eq_false (by omega)
  have t2 : decide (14 < a.kind) = false := decide_eq_false (by omega)
  have Hk := Lib.hid hk
  have Hcs := Lib.hid hcs
  clear hk hcs
  go_upto_region 3 with fail
  have HA : Hid (Blk (w.alloc (.cells (AcA a p1 p2 p3 k1 k2 k3) 41)) w.heap.size 41 (AcA a p1 p2 p3 k1 k2 k3)) := Lib.hid (heap_alloc_new w _)
  have HAm : Hid (Gou.Mod (fun _ => False) w (w.alloc (.cells (AcA a p1 p2 p3 k1 k2 k3) 41))) := Lib.hid (Gou.Mod.alloc _ _ _)
  have HAz : Hid ((w.alloc (.cells (AcA a p1 p2 p3 k1 k2 k3) 41)).heap.size = w.heap.size + 1) := Lib.hid (World.size_alloc _ _)
  generalize (w.alloc (.cells (AcA a p1 p2 p3 k1 k2 k3) 41)) = wA at *
  have Hst := Lib.hid (RPut.start w wA (AcA a p1 p2 p3 k1 k2 k3) (LkA a.op.look p1 p2 p3 k1 k2 k3) HA.out HAm.out HAz.out rfl)
  have Hrg : Hid (World.rangeAt wA w.heap.size 7 (LkA a.op.look p1 p2 p3 k1 k2 k3).toList) := Lib.hid (Blk.range HA.out (act_look a _ _ _) rfl)
  clear t1 t2 k0
  go_upto_block 0 with (first | ((with_reducible show wpList _ _ _ (⟨_, Op.load 35 _, _, _, _, _⟩ :: _) _ _); (with_reducible refine wpList_load_mid ?g_1 35 ?x_1 ?o_1 w.heap.size 7 ?h_1 (LkA a.op.look p1 p2 p3 k1 k2 k3).toList ?d_1 ?c_1 ?u_1 ?s_1 ?i_1 ?r_1); (case g_1 | o_1 | h_1 => exact rfl); (case c_1 => exact Hrg.out); (case u_1 => exact Try.underlying35); (case s_1 => exact rfl); (case i_1 => exact size_look.trans (by simp [LkA, lookC]))) | ((with_reducible show wpList _ _ _ (⟨none, Op.store 35 _ _, _, _, _, _⟩ :: _) _ _); (with_reducible refine wpList_store_mid ?g_2 35 ?x_2 ?y_2 ?o_2 wA.heap.size 0 (LkA a.op.look p1 p2 p3 k1 k2 k3) ?h_2 ?j_2 ?t_2 ?i_2 ?s_2 ?r_2); (case g_2 | o_2 | h_2 | j_2 => exact rfl); (case t_2 => exact Hst.out.2); (case i_2 => exact size_look); (case s_2 => exact lookC_one _ _ _ _ _ _ _ _ _ _); (have H1 := Lib.hid Hst.out.1); (have ca2 : ((wA.alloc (.cells LkZ 35)).setCells wA.heap.size 0 (LkA a.op.look p1 p2 p3 k1 k2 k3).toList).cell? ⟨w.heap.size, 2, none⟩ = some (.int .i64 a.op.id.1) := H1.out.act.cell 2 rfl); (have ca3 : ((wA.alloc (.cells LkZ 35)).setCells wA.heap.size 0 (LkA a.op.look p1 p2 p3 k1 k2 k3).toList).cell? ⟨w.heap.size, 3, none⟩ = some (.int .i64 a.op.id.2) := H1.out.act.cell 3 rfl); (have ca0 : ((wA.alloc (.cells LkZ 35)).setCells wA.heap.size 0 (LkA a.op.look p1 p2 p3 k1 k2 k3).toList).cell? ⟨w.heap.size, 0, none⟩ = some (.int .i64 a.kind) := H1.out.act.cell 0 rfl); (generalize ((wA.alloc (.cells LkZ 35)).setCells wA.heap.size 0 (LkA a.op.look p1 p2 p3 k1 k2 k3).toList) = w1 at *); (obtain ⟨L, hL⟩ : ∃ L, L = wA.heap.size := ⟨_, rfl⟩); (rw [← hL] at H1 ⊢); (clear hL); (have hlt1 : w.heap.size < w1.heap.size := H1.out.act.lt)) | fail)
  have K0 : Hid (RPIn w L (AcA a p1 p2 p3 k1 k2 k3) (LkA a.op.look p1 p2 p3 k1 k2 k3) (.slice (some ⟨w1.heap.size, 0, none⟩) 2 2) [a.op.id.1, a.op.id.2] (w1.alloc (.cells #[.int .i64 a.op.id.1, .int .i64 a.op.id.2] 3))) := Lib.hid (RPIn.start H1.out _)
  clear ca2 ca3 ca0 hlt1
  obtain ⟨i0, hi0⟩ : ∃ i, i = w1.heap.size := ⟨_, rfl⟩
  have Hi0 : Hid (i0 < (w1.alloc (.cells #[.int .i64 a.op.id.1, .int .i64 a.op.id.2] 3)).heap.size ∧ w.heap.size + 2 ≤ i0) := Lib.hid ⟨by rw [World.size_alloc]; omega, by have := H1.out.look.lt; have := H1.out.isL; omega⟩
  rw [← hi0] at K0 ⊢
  clear hi0
  generalize w1.alloc (.cells #[.int .i64 a.op.id.1, .int .i64 a.op.id.2] 3) = W0 at *
  clear H1 Hst Hrg HA HAm HAz
  have HX0 := Lib.hid (Hx.out.mod K0.out.put.mod (fun _ _ _ h => h))
  go_cut [6, 7] from 8 (fun vp vl wx => RPCut w a L (AcA a p1 p2 p3 k1 k2 k3) (LkA a.op.look p1 p2 p3 k1 k2 k3) vp vl wx)
  case first =>
    have hkk := Hkk.out
    have hcs := Hcs.out
    clear Hkk Hcs
    rcases hcs with rfl | rfl | rfl | rfl
    · have Hk1 : Hid (a.kind = 10) := Lib.hid hkk
      rw [hkk]
      clear hkk
      by_cases hf : a.op.look.hasFilt = true
      · have Hf := Lib.hid hf
        have cl22 : W0.cell? ⟨L, 22, none⟩ = some (.bool a.op.look.hasFilt) := K0.out.put.look.cell 22 rfl
        rw [hf] at cl22
        clear hf
        have cl23 : W0.cell? ⟨L, 23, none⟩ = some (.slice p2 a.op.look.filt.nodes.length k2) := K0.out.put.look.cell 23 rfl
        have cl24 : W0.cell? ⟨L, 24, none⟩ = some (.int .i64 a.op.look.filt.out) := K0.out.put.look.cell 24 rfl
        go_wp2_with fail
        refine (putsR_any W0 (fun _ => True) p2 k2 a.op.look.filt (HX0.out.filt) Hf0.out.filts Hf0.out.filt).mono ?_
        rintro e w3 ⟨m3, v3, rfl, hown3⟩
        obtain ⟨p3', c3', rfl⟩ := Gou.ownsRow_form hown3
        have K3 := Lib.hid (K0.out.next m3)
        have HL3 := Lib.hid (RowG.imp (G' := fun _ => True) (IntsR.of_own hown3) (fun _ _ _ => trivial))
        have HB3 : Hid (w.heap.size + 2 ≤ w3.heap.size) := Lib.hid (by have := K3.out.put.look.lt; have := K3.out.put.isL; omega)
        have Hn3 : Hid (([a.op.id.1, a.op.id.2] : List Int).length + (graphNums a.op.look.filt).length ≤ 100000000) := Lib.hid (by have := graphNums_lenB Hf0.out.filts Hf0.out.filt; simp only [List.length_cons, List.length_nil]; omega)
        clear m3 hown3
        go_wp2_with (first | ((with_reducible refine wpList_append_ints ?g_a ?s_a ?x_a ?o_a (w.heap.size + 2) (.slice (some ⟨i0, 0, none⟩) 2 2) [a.op.id.1, a.op.id.2] (graphNums a.op.look.filt) ?G_a (.slice p3' (graphNums a.op.look.filt).length c3') ?a_a ?b_a ?c_a ?d_a ?e_a ?f_a ?r_a); (case g_a | o_a | a_a | b_a => exact rfl); (case e_a => exact HL3.out); (case c_a => exact HB3.out); (case d_a => exact K3.out.own); (case f_a => exact Hn3.out); (intro v5 w5 hown5 m5 f5); (have K5 := Lib.hid (K3.out.step (Gou.Mod.refl _ _) hown5 m5)); (obtain ⟨p5, c5, rfl⟩ := Gou.ownsRow_form hown5); (clear hown5 m5 f5)) | fail)
        go_meet
        case rel => exact RPCut.of_in K5.out (by simp [numsOf, lookNums, Hk1.out, Hf.out]) (pxOf_not (by rw [Hk1.out]; decide))
      · have hf' : a.op.look.hasFilt = false := by simpa using hf
        have Hf := Lib.hid hf'
        have cl22 : W0.cell? ⟨L, 22, none⟩ = some (.bool a.op.look.hasFilt) := K0.out.put.look.cell 22 rfl
        rw [hf'] at cl22
        clear hf hf'
        have HL1 : Hid (IntsR (fun _ => True) (W0.alloc (.cells #[.int .i64 (0)] 3)) (.slice (some ⟨W0.heap.size, 0, none⟩) 1 1) [0]) := Lib.hid (lit_ints W0 [0] 1 rfl (by omega))
        have HB1 : Hid (w.heap.size + 2 ≤ (W0.alloc (.cells #[.int .i64 (0)] 3)).heap.size) := Lib.hid (by rw [World.size_alloc]; have := K0.out.put.look.lt; have := K0.out.put.isL; omega)
        have Hn1 : Hid (([a.op.id.1, a.op.id.2] : List Int).length + ([0] : List Int).length ≤ 100000000) := Lib.hid (by simp)
        go_wp2_with (first | ((with_reducible refine wpList_append_ints ?g_b ?s_b ?x_b ?o_b (w.heap.size + 2) (.slice (some ⟨i0, 0, none⟩) 2 2) [a.op.id.1, a.op.id.2] [0] ?G_b (.slice (some ⟨W0.heap.size, 0, none⟩) 1 1) ?a_b ?b_b ?c_b ?d_b ?e_b ?f_b ?r_b); (case g_b | o_b | a_b | b_b => exact rfl); (case e_b => exact HL1.out); (case c_b => exact HB1.out); (case d_b => exact K0.out.own.alloc _); (case f_b => exact Hn1.out); (intro v5 w5 hown5 m5 f5); (have K5 := Lib.hid (K0.out.step (Gou.Mod.alloc _ _ _) hown5 m5)); (obtain ⟨p5, c5, rfl⟩ := Gou.ownsRow_form hown5); (clear hown5 m5 f5)) | fail)
        go_meet
        case rel => exact RPCut.of_in K5.out (by simp [numsOf, lookNums, Hk1.out, Hf.out]) (pxOf_not (by rw [Hk1.out]; decide))
    · have Hk1 : Hid (a.kind = 11) := Lib.hid hkk
      rw [hkk]
      clear hkk
      by_cases hf : a.op.look.hasBack = true
      · have Hf := Lib.hid hf
        have cl25 : W0.cell? ⟨L, 25, none⟩ = some (.bool a.op.look.hasBack) := K0.out.put.look.cell 25 rfl
        rw [hf] at cl25
        clear hf
        have cl26 : W0.cell? ⟨L, 26, none⟩ = some (.slice p3 a.op.look.back.nodes.length k3) := K0.out.put.look.cell 26 rfl
        have cl27 : W0.cell? ⟨L, 27, none⟩ = some (.int .i64 a.op.look.back.out) := K0.out.put.look.cell 27 rfl
        go_wp2_with fail
        refine (putsR_any W0 (fun _ => True) p3 k3 a.op.look.back (HX0.out.back) Hf0.out.backs Hf0.out.back).mono ?_
        rintro e w3 ⟨m3, v3, rfl, hown3⟩
        obtain ⟨p3', c3', rfl⟩ := Gou.ownsRow_form hown3
        have K3 := Lib.hid (K0.out.next m3)
        have HL3 := Lib.hid (RowG.imp (G' := fun _ => True) (IntsR.of_own hown3) (fun _ _ _ => trivial))
        have HB3 : Hid (w.heap.size + 2 ≤ w3.heap.size) := Lib.hid (by have := K3.out.put.look.lt; have := K3.out.put.isL; omega)
        have Hn3 : Hid (([a.op.id.1, a.op.id.2] : List Int).length + (graphNums a.op.look.back).length ≤ 100000000) := Lib.hid (by have := graphNums_lenB Hf0.out.backs Hf0.out.back; simp only [List.length_cons, List.length_nil]; omega)
        clear m3 hown3
        go_wp2_with (first | ((with_reducible refine wpList_append_ints ?g_c ?s_c ?x_c ?o_c (w.heap.size + 2) (.slice (some ⟨i0, 0, none⟩) 2 2) [a.op.id.1, a.op.id.2] (graphNums a.op.look.back) ?G_c (.slice p3' (graphNums a.op.look.back).length c3') ?a_c ?b_c ?c_c ?d_c ?e_c ?f_c ?r_c); (case g_c | o_c | a_c | b_c => exact rfl); (case e_c => exact HL3.out); (case c_c => exact HB3.out); (case d_c => exact K3.out.own); (case f_c => exact Hn3.out); (intro v5 w5 hown5 m5 f5); (have K5 := Lib.hid (K3.out.step (Gou.Mod.refl _ _) hown5 m5)); (obtain ⟨p5, c5, rfl⟩ := Gou.ownsRow_form hown5); (clear hown5 m5 f5)) | fail)
        go_meet
        case rel => exact RPCut.of_in K5.out (by simp [numsOf, lookNums, Hk1.out, Hf.out]) (pxOf_not (by rw [Hk1.out]; decide))
      · have hf' : a.op.look.hasBack = false := by simpa using hf
        have Hf := Lib.hid hf'
        have cl25 : W0.cell? ⟨L, 25, none⟩ = some (.bool a.op.look.hasBack) := K0.out.put.look.cell 25 rfl
        rw [hf'] at cl25
        clear hf hf'
        have HL1 : Hid (IntsR (fun _ => True) (W0.alloc (.cells #[.int .i64 (0)] 3)) (.slice (some ⟨W0.heap.size, 0, none⟩) 1 1) [0]) := Lib.hid (lit_ints W0 [0] 1 rfl (by omega))
        have HB1 : Hid (w.heap.size + 2 ≤ (W0.alloc (.cells #[.int .i64 (0)] 3)).heap.size) := Lib.hid (by rw [World.size_alloc]; have := K0.out.put.look.lt; have := K0.out.put.isL; omega)
        have Hn1 : Hid (([a.op.id.1, a.op.id.2] : List Int).length + ([0] : List Int).length ≤ 100000000) := Lib.hid (by simp)
        go_wp2_with (first | ((with_reducible refine wpList_append_ints ?g_d ?s_d ?x_d ?o_d (w.heap.size + 2) (.slice (some ⟨i0, 0, none⟩) 2 2) [a.op.id.1, a.op.id.2] [0] ?G_d (.slice (some ⟨W0.heap.size, 0, none⟩) 1 1) ?a_d ?b_d ?c_d ?d_d ?e_d ?f_d ?r_d); (case g_d | o_d | a_d | b_d => exact rfl); (case e_d => exact HL1.out); (case c_d => exact HB1.out); (case d_d => exact K0.out.own.alloc _); (case f_d => exact Hn1.out); (intro v5 w5 hown5 m5 f5); (have K5 := Lib.hid (K0.out.step (Gou.Mod.alloc _ _ _) hown5 m5)); (obtain ⟨p5, c5, rfl⟩ := Gou.ownsRow_form hown5); (clear hown5 m5 f5)) | fail)
        go_meet
        case rel => exact RPCut.of_in K5.out (by simp [numsOf, lookNums, Hk1.out, Hf.out]) (pxOf_not (by rw [Hk1.out]; decide))
    · have Hk1 : Hid (a.kind = 12) := Lib.hid hkk
      rw [hkk]
      clear hkk
      have ca35 : W0.cell? ⟨w.heap.size, 35, none⟩ = some (.int .i64 a.w) := K0.out.put.act.cell 35 rfl
      have ca36 : W0.cell? ⟨w.heap.size, 36, none⟩ = some (.int .i64 a.h) := K0.out.put.act.cell 36 rfl
      go_wp2_with fail
      go_meet
      case rel => exact RPCut.of_lit K0.out [a.w, a.h] 2 rfl (by omega) (by simp [numsOf, Hk1.out]) (pxOf_not (by rw [Hk1.out]; decide))
    · have Hk1 : Hid (a.kind = 13) := Lib.hid hkk
      rw [hkk]
      clear hkk
      have ca37 : W0.cell? ⟨w.heap.size, 37, none⟩ = some (.bool a.conf.fuse) := K0.out.put.act.cell 37 rfl
      have ca38 : W0.cell? ⟨w.heap.size, 38, none⟩ = some (.bool a.conf.alias) := K0.out.put.act.cell 38 rfl
      have ca39 : W0.cell? ⟨w.heap.size, 39, none⟩ = some (.bool a.conf.roi) := K0.out.put.act.cell 39 rfl
      have ca40 : W0.cell? ⟨w.heap.size, 40, none⟩ = some (.bool a.conf.damage) := K0.out.put.act.cell 40 rfl
      have ca41 : W0.cell? ⟨w.heap.size, 41, none⟩ = some (.int .i64 a.conf.room) := K0.out.put.act.cell 41 rfl
      have Hfl : Hid (numsOf a = [flagsOf a.conf, a.conf.room]) := Lib.hid (by simp [numsOf, Hk1.out])
      rcases hcf : a.conf with ⟨f1, f2, f3, f4, rm⟩
      rw [hcf] at ca37 ca38 ca39 ca40 ca41
      have Hcf := Lib.hid hcf
      clear hcf
      dsimp only at ca37 ca38 ca39 ca40 ca41
      go_upto_if 207 with fail
      go_cut [9] from 205 to 229 (fun n wx => n = .int .i64 (bit f1 1) ∧ wx = W0)
      case first =>
        cases f1
        all_goals
          go_wp2_with fail
          go_meet
          case rel => exact ⟨by simp [bit], rfl⟩
      case rest =>
        obtain ⟨rfl, hw⟩ := hcut
        rw [hw]
        clear hw
        obtain ⟨m1, hm1⟩ : ∃ m, m = bit f1 1 := ⟨_, rfl⟩
        have hb1 : 0 ≤ m1 ∧ m1 ≤ 1 := by have := bit_bd f1 1 (by omega); omega
        rw [← hm1]
        have Hm1 := Lib.hid hm1
        obtain ⟨hl1, hh1⟩ := hb1
        clear hm1
        go_upto_if 212 with fail
        go_cut [9] from 205 to 229 (fun n wx => n = .int .i64 (m1 + bit f2 2) ∧ wx = W0)
        case first =>
          cases f2
          all_goals
            go_wp2_with fail
            go_meet
            case rel => exact ⟨by simp [bit], rfl⟩
        case rest =>
          obtain ⟨rfl, hw⟩ := hcut
          rw [hw]
          clear hw
          obtain ⟨m2, hm2⟩ : ∃ m, m = m1 + bit f2 2 := ⟨_, rfl⟩
          have hb2 : 0 ≤ m2 ∧ m2 ≤ 3 := by have := bit_bd f2 2 (by omega); omega
          rw [← hm2]
          have Hm2 := Lib.hid hm2
          obtain ⟨hl2, hh2⟩ := hb2
          clear hm2
          go_upto_if 217 with fail
          go_cut [9] from 205 to 229 (fun n wx => n = .int .i64 (m2 + bit f3 4) ∧ wx = W0)
          case first =>
            cases f3
            all_goals
              go_wp2_with fail
              go_meet
              case rel => exact ⟨by simp [bit], rfl⟩
          case rest =>
            obtain ⟨rfl, hw⟩ := hcut
            rw [hw]
            clear hw
            obtain ⟨m3, hm3⟩ : ∃ m, m = m2 + bit f3 4 := ⟨_, rfl⟩
            have hb3 : 0 ≤ m3 ∧ m3 ≤ 7 := by have := bit_bd f3 4 (by omega); omega
            rw [← hm3]
            have Hm3 := Lib.hid hm3
            obtain ⟨hl3, hh3⟩ := hb3
            clear hm3
            go_upto_if 222 with fail
            go_cut [9] from 205 to 229 (fun n wx => n = .int .i64 (m3 + bit f4 8) ∧ wx = W0)
            case first =>
              cases f4
              all_goals
                go_wp2_with fail
                go_meet
                case rel => exact ⟨by simp [bit], rfl⟩
            case rest =>
              obtain ⟨rfl, hw⟩ := hcut
              rw [hw]
              clear hw
              obtain ⟨m4, hm4⟩ : ∃ m, m = m3 + bit f4 8 := ⟨_, rfl⟩
              have hb4 : 0 ≤ m4 ∧ m4 ≤ 15 := by have := bit_bd f4 8 (by omega); omega
              rw [← hm4]
              have Hm4 := Lib.hid hm4
              obtain ⟨hl4, hh4⟩ := hb4
              clear hm4
              go_wp2_with fail
              go_meet
              case rel => exact RPCut.of_lit K0.out [m4, rm] 2 rfl (by omega) (by rw [Hfl.out, Hcf.out, flags_bits, Hm4.out, Hm3.out, Hm2.out, Hm1.out]) (pxOf_not (by rw [Hk1.out]; decide))
  case rest =>
    go_step
    exact putR_tail w wc a p1 p2 p3 k1 k2 k3 L i0 _ _ Hx.out Hf0.out Hs.out Hk.out hcut

theorem putR_any (w : World) (a : Ac) (p1 p2 p3 : Option Addr) (k1 k2 k3 : Nat) (hx : LookR (fun _ => True) w a.op.look (.slice p1 a.op.look.content.pix.length k1) (.slice p2 a.op.look.filt.nodes.length k2) (.slice p3 a.op.look.back.nodes.length k3)) (hf : FewOk a) (hs : PxSmall a.op.look.content) :
    Calls Try.prog 12 #[.agg (AcA a p1 p2 p3 k1 k2 k3)] w (PutP w (refPut a)) := by
  by_cases hk : 1 ≤ a.kind ∧ a.kind ≤ 14
  case neg => exact putR_outside w a p1 p2 p3 k1 k2 k3 hk
  obtain ⟨kk, hkk⟩ : ∃ kk : Nat, a.kind = kk := ⟨a.kind.toNat, by omega⟩
  have : (kk = 1 ∨ kk = 2 ∨ kk = 3 ∨ kk = 4 ∨ kk = 5 ∨ kk = 7 ∨ kk = 8) ∨ (kk = 6 ∨ kk = 9 ∨ kk = 14) ∨ (kk = 10 ∨ kk = 11 ∨ kk = 12 ∨ kk = 13) := by omega
  rcases this with h | h | h
  · exact putR_g1 w a p1 p2 p3 k1 k2 k3 hx hf hs kk hkk h
  · exact putR_g2 w a p1 p2 p3 k1 k2 k3 hx hf hs kk hkk h
  · exact putR_g3 w a p1 p2 p3 k1 k2 k3 hx hf hs kk hkk h

end Go.Proofs.Ytnamnmipgpcjjaa

