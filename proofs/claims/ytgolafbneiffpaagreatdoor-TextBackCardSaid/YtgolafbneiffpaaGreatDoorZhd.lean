/- Words of all texts behind. -/
import Derived.WalkKit
import Derived.Carry
import Derived.WalkSpells
import Derived.WalkLawsBesides
import Derived.BigQuiet
import Derived.Deep.QuietTactic
import Derived.Deep.DeepMust
import Derived.Lib.Hide
import Derived.Outline
namespace Go
theorem wbc : type_of% @World.block_lt_of_cell? := @World.block_lt_of_cell?
theorem lgE : type_of% @List.getElem?_eq_getElem := @List.getElem?_eq_getElem
theorem lgS : type_of% @List.getElem?_eq_some_iff := @List.getElem?_eq_some_iff
theorem lmG : type_of% @List.mem_of_getElem? := @List.mem_of_getElem?
theorem ltS : type_of% @List.take_succ_eq_append_getElem := @List.take_succ_eq_append_getElem
theorem lgR : type_of% @List.getElem?_append_right := @List.getElem?_append_right
theorem lgL : type_of% @List.getElem?_append_left := @List.getElem?_append_left
theorem bqf : type_of% @beq_eq_false_iff_ne := @beq_eq_false_iff_ne
theorem bpr : type_of% @bodyPost_ret := @bodyPost_ret
theorem dqf : type_of% @decide_eq_false := @decide_eq_false
theorem dqt : type_of% @decide_eq_true := @decide_eq_true
theorem lgM : type_of% @List.getElem_mem := @List.getElem_mem
theorem agT : type_of% @Array.getElem?_toList := @Array.getElem?_toList
end Go
namespace Go.RowKit
theorem Hid.o {p : Prop} (h : Hid p) : p := h.out
end Go.RowKit
namespace Go.Gou
@[reducible] def iV (n : Int) : Go.Value := .int .i64 n
theorem hd' {p : Prop} (h : p) : RowKit.Hid p := h
@[reducible] def lz42 : Array Value := List.toArray (Value.int .i64 0 :: Value.int .i64 0 :: Value.int .i64 0 :: Value.int .i64 0 :: Value.int .i64 0 :: Value.int .i64 0 :: Value.int .i64 0 :: Value.int .i64 0 :: Value.int .i64 0 :: Value.bool false :: Value.int .i64 0 :: Value.int .i64 0 :: Value.int .i64 0 :: Value.int .i64 0 :: Value.int .i64 0 :: Value.int .i64 0 :: Value.int .i64 0 :: Value.int .i64 0 :: Value.int .i64 0 :: Value.int .i64 0 :: Value.int .i64 0 :: Value.int .u8 0 :: Value.int .u8 0 :: Value.int .u8 0 :: Value.int .u8 0 :: Value.int .i64 0 :: Value.int .i64 0 :: Value.int .i64 0 :: Value.slice none 0 0 :: Value.bool false :: Value.slice none 0 0 :: Value.int .i64 0 :: Value.bool false :: Value.slice none 0 0 :: Value.int .i64 0 :: Value.int .i64 0 :: Value.int .i64 0 :: Value.bool false :: Value.bool false :: Value.bool false :: Value.bool false :: Value.int .i64 0 :: [])
@[reducible] def lz28 : Array Value := List.toArray (Value.int .i64 0 :: Value.int .i64 0 :: Value.bool false :: Value.int .i64 0 :: Value.int .i64 0 :: Value.int .i64 0 :: Value.int .i64 0 :: Value.int .i64 0 :: Value.int .i64 0 :: Value.int .i64 0 :: Value.int .i64 0 :: Value.int .i64 0 :: Value.int .i64 0 :: Value.int .i64 0 :: Value.int .u8 0 :: Value.int .u8 0 :: Value.int .u8 0 :: Value.int .u8 0 :: Value.int .i64 0 :: Value.int .i64 0 :: Value.int .i64 0 :: Value.slice none 0 0 :: Value.bool false :: Value.slice none 0 0 :: Value.int .i64 0 :: Value.bool false :: Value.slice none 0 0 :: Value.int .i64 0 :: [])
@[reducible] def nlS : Value := .slice none 0 0
@[reducible] def iiZ : Array Value := #[.int .i64 0, .int .i64 0]
@[reducible] def lz34 : Array Value := List.toArray (Value.int .i64 0 :: Value.int .i64 0 :: Value.int .i64 0 :: Value.int .i64 0 :: Value.int .i64 0 :: Value.int .i64 0 :: Value.int .i64 0 :: Value.int .i64 0 :: Value.bool false :: Value.int .i64 0 :: Value.int .i64 0 :: Value.int .i64 0 :: Value.int .i64 0 :: Value.int .i64 0 :: Value.int .i64 0 :: Value.int .i64 0 :: Value.int .i64 0 :: Value.int .i64 0 :: Value.int .i64 0 :: Value.int .i64 0 :: Value.int .u8 0 :: Value.int .u8 0 :: Value.int .u8 0 :: Value.int .u8 0 :: Value.int .i64 0 :: Value.int .i64 0 :: Value.int .i64 0 :: Value.slice none 0 0 :: Value.bool false :: Value.slice none 0 0 :: Value.int .i64 0 :: Value.bool false :: Value.slice none 0 0 :: Value.int .i64 0 :: [])
end Go.Gou
