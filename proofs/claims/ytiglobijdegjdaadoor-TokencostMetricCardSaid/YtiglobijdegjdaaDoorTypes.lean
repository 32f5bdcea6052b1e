/- The table of the types, for the engine. Written by a program of mine off the translation. -/
import Derived.Test.YtiglobijdegjdaaDoorProg
import Derived.Test.YtiglobijdegjdaaDoorEngA
namespace Go.Proofs.YtiglobijdegjdaaDoor
open Go.Proofs
set_option maxRecDepth 100000
theorem tyOk1 : TyOk Tryd.prog 1 ⟨.func, 1, 8, .nilFunc⟩ := ⟨⟨_, _, _, Tryd.underlying1⟩, by kernel_rfl⟩
theorem tyOk2 : TyOk Tryd.prog 2 ⟨.int .i64, 1, 8, .int .i64 0⟩ := ⟨Tryd.underlying2, by kernel_rfl⟩
theorem tyOk3 : TyOk Tryd.prog 3 ⟨.int .i64, 1, 8, .int .i64 0⟩ := ⟨Tryd.underlying3, by kernel_rfl⟩
theorem tyOk4 : TyOk Tryd.prog 4 ⟨.bool, 1, 1, .bool false⟩ := ⟨Tryd.underlying4, by kernel_rfl⟩
theorem tyOk5 : TyOk Tryd.prog 5 ⟨.int .u8, 1, 1, .int .u8 0⟩ := ⟨Tryd.underlying5, by kernel_rfl⟩
theorem tyOk6 : TyOk Tryd.prog 6 ⟨.int .u8, 1, 1, .int .u8 0⟩ := ⟨Tryd.underlying6, by kernel_rfl⟩
theorem tyOk7 : TyOk Tryd.prog 7 ⟨.struct [(2, 0), (3, 1), (4, 2), (6, 3)], 4, 24, .agg #[.int .i64 0, .int .i64 0, .bool false, .int .u8 0]⟩ := ⟨⟨_, Tryd.underlying7, by kernel_rfl⟩, by kernel_rfl⟩
theorem tyOk8 : TyOk Tryd.prog 8 ⟨.struct [(2, 0), (3, 1), (4, 2), (6, 3)], 4, 24, .agg #[.int .i64 0, .int .i64 0, .bool false, .int .u8 0]⟩ := ⟨⟨_, Tryd.underlying8, by kernel_rfl⟩, by kernel_rfl⟩
theorem tyOk9 : TyOk Tryd.prog 9 ⟨.str, 1, 16, .string .empty⟩ := ⟨Tryd.underlying9, by kernel_rfl⟩
theorem tyOk10 : TyOk Tryd.prog 10 ⟨.str, 1, 16, .string .empty⟩ := ⟨Tryd.underlying10, by kernel_rfl⟩
theorem tyOk11 : TyOk Tryd.prog 11 ⟨.str, 1, 16, .string .empty⟩ := ⟨Tryd.underlying11, by kernel_rfl⟩
theorem tyOk12 : TyOk Tryd.prog 12 ⟨.int .u64, 1, 8, .int .u64 0⟩ := ⟨Tryd.underlying12, by kernel_rfl⟩
theorem tyOk13 : TyOk Tryd.prog 13 ⟨.struct [(9, 0), (12, 1)], 2, 24, .agg #[.string .empty, .int .u64 0]⟩ := ⟨⟨_, Tryd.underlying13, by kernel_rfl⟩, by kernel_rfl⟩
theorem tyOk14 : TyOk Tryd.prog 14 ⟨.struct [(9, 0), (12, 1)], 2, 24, .agg #[.string .empty, .int .u64 0]⟩ := ⟨⟨_, Tryd.underlying14, by kernel_rfl⟩, by kernel_rfl⟩
theorem tyOk15 : TyOk Tryd.prog 15 ⟨.ptr 140, 1, 8, .pointer none⟩ := ⟨Tryd.underlying15, by kernel_rfl⟩
theorem tyOk16 : TyOk Tryd.prog 16 ⟨.ptr 143, 1, 8, .pointer none⟩ := ⟨Tryd.underlying16, by kernel_rfl⟩
theorem tyOk17 : TyOk Tryd.prog 17 ⟨.ptr 151, 1, 8, .pointer none⟩ := ⟨Tryd.underlying17, by kernel_rfl⟩
theorem tyOk18 : TyOk Tryd.prog 18 ⟨.struct [(17, 0)], 1, 8, .agg #[.pointer none]⟩ := ⟨⟨_, Tryd.underlying18, by kernel_rfl⟩, by kernel_rfl⟩
theorem tyOk19 : TyOk Tryd.prog 19 ⟨.struct [(17, 0)], 1, 8, .agg #[.pointer none]⟩ := ⟨⟨_, Tryd.underlying19, by kernel_rfl⟩, by kernel_rfl⟩
theorem tyOk20 : TyOk Tryd.prog 20 ⟨.iface, 1, 16, .nilIface⟩ := ⟨⟨_, Tryd.underlying20⟩, by kernel_rfl⟩
theorem tyOk21 : TyOk Tryd.prog 21 ⟨.int .i32, 1, 4, .int .i32 0⟩ := ⟨Tryd.underlying21, by kernel_rfl⟩
theorem tyOk22 : TyOk Tryd.prog 22 ⟨.struct [(3, 0), (3, 1), (3, 2), (3, 3)], 4, 32, .agg #[.int .i64 0, .int .i64 0, .int .i64 0, .int .i64 0]⟩ := ⟨⟨_, Tryd.underlying22, by kernel_rfl⟩, by kernel_rfl⟩
theorem tyOk23 : TyOk Tryd.prog 23 ⟨.struct [(3, 0), (3, 1), (3, 2), (3, 3)], 4, 32, .agg #[.int .i64 0, .int .i64 0, .int .i64 0, .int .i64 0]⟩ := ⟨⟨_, Tryd.underlying23, by kernel_rfl⟩, by kernel_rfl⟩
theorem tyOk24 : TyOk Tryd.prog 24 ⟨.struct [(9, 0), (3, 1)], 2, 24, .agg #[.string .empty, .int .i64 0]⟩ := ⟨⟨_, Tryd.underlying24, by kernel_rfl⟩, by kernel_rfl⟩
theorem tyOk25 : TyOk Tryd.prog 25 ⟨.struct [(9, 0), (3, 1)], 2, 24, .agg #[.string .empty, .int .i64 0]⟩ := ⟨⟨_, Tryd.underlying25, by kernel_rfl⟩, by kernel_rfl⟩
theorem tyOk26 : TyOk Tryd.prog 26 ⟨.struct [(9, 0), (9, 1), (25, 2), (3, 4), (9, 5)], 6, 80, .agg #[.string .empty, .string .empty, .string .empty, .int .i64 0, .int .i64 0, .string .empty]⟩ := ⟨⟨_, Tryd.underlying26, by kernel_rfl⟩, by kernel_rfl⟩
theorem tyOk27 : TyOk Tryd.prog 27 ⟨.struct [(9, 0), (9, 1), (25, 2), (3, 4), (9, 5)], 6, 80, .agg #[.string .empty, .string .empty, .string .empty, .int .i64 0, .int .i64 0, .string .empty]⟩ := ⟨⟨_, Tryd.underlying27, by kernel_rfl⟩, by kernel_rfl⟩
theorem tyOk28 : TyOk Tryd.prog 28 ⟨.func, 1, 8, .nilFunc⟩ := ⟨⟨_, _, _, Tryd.underlying28⟩, by kernel_rfl⟩
theorem tyOk29 : TyOk Tryd.prog 29 ⟨.slice 27, 1, 24, .slice none 0 0⟩ := ⟨Tryd.underlying29, by kernel_rfl⟩
theorem tyOk30 : TyOk Tryd.prog 30 ⟨.func, 1, 8, .nilFunc⟩ := ⟨⟨_, _, _, Tryd.underlying30⟩, by kernel_rfl⟩
theorem tyOk31 : TyOk Tryd.prog 31 ⟨.int .i64, 1, 8, .int .i64 0⟩ := ⟨Tryd.underlying31, by kernel_rfl⟩
theorem tyOk33 : TyOk Tryd.prog 33 ⟨.func, 1, 8, .nilFunc⟩ := ⟨⟨_, _, _, Tryd.underlying33⟩, by kernel_rfl⟩
theorem tyOk34 : TyOk Tryd.prog 34 ⟨.func, 1, 8, .nilFunc⟩ := ⟨⟨_, _, _, Tryd.underlying34⟩, by kernel_rfl⟩
theorem tyOk35 : TyOk Tryd.prog 35 ⟨.func, 1, 8, .nilFunc⟩ := ⟨⟨_, _, _, Tryd.underlying35⟩, by kernel_rfl⟩
theorem tyOk36 : TyOk Tryd.prog 36 ⟨.func, 1, 8, .nilFunc⟩ := ⟨⟨_, _, _, Tryd.underlying36⟩, by kernel_rfl⟩
theorem tyOk37 : TyOk Tryd.prog 37 ⟨.func, 1, 8, .nilFunc⟩ := ⟨⟨_, _, _, Tryd.underlying37⟩, by kernel_rfl⟩
theorem tyOk38 : TyOk Tryd.prog 38 ⟨.func, 1, 8, .nilFunc⟩ := ⟨⟨_, _, _, Tryd.underlying38⟩, by kernel_rfl⟩
theorem tyOk39 : TyOk Tryd.prog 39 ⟨.slice 42, 1, 24, .slice none 0 0⟩ := ⟨Tryd.underlying39, by kernel_rfl⟩
theorem tyOk41 : TyOk Tryd.prog 41 ⟨.func, 1, 8, .nilFunc⟩ := ⟨⟨_, _, _, Tryd.underlying41⟩, by kernel_rfl⟩
theorem tyOk42 : TyOk Tryd.prog 42 ⟨.slice 3, 1, 24, .slice none 0 0⟩ := ⟨Tryd.underlying42, by kernel_rfl⟩
theorem tyOk43 : TyOk Tryd.prog 43 ⟨.func, 1, 8, .nilFunc⟩ := ⟨⟨_, _, _, Tryd.underlying43⟩, by kernel_rfl⟩
theorem tyOk44 : TyOk Tryd.prog 44 ⟨.slice 4, 1, 24, .slice none 0 0⟩ := ⟨Tryd.underlying44, by kernel_rfl⟩
theorem tyOk45 : TyOk Tryd.prog 45 ⟨.func, 1, 8, .nilFunc⟩ := ⟨⟨_, _, _, Tryd.underlying45⟩, by kernel_rfl⟩
theorem tyOk46 : TyOk Tryd.prog 46 ⟨.func, 1, 8, .nilFunc⟩ := ⟨⟨_, _, _, Tryd.underlying46⟩, by kernel_rfl⟩
theorem tyOk47 : TyOk Tryd.prog 47 ⟨.func, 1, 8, .nilFunc⟩ := ⟨⟨_, _, _, Tryd.underlying47⟩, by kernel_rfl⟩
theorem tyOk48 : TyOk Tryd.prog 48 ⟨.func, 1, 8, .nilFunc⟩ := ⟨⟨_, _, _, Tryd.underlying48⟩, by kernel_rfl⟩
theorem tyOk50 : TyOk Tryd.prog 50 ⟨.func, 1, 8, .nilFunc⟩ := ⟨⟨_, _, _, Tryd.underlying50⟩, by kernel_rfl⟩
theorem tyOk51 : TyOk Tryd.prog 51 ⟨.ptr 27, 1, 8, .pointer none⟩ := ⟨Tryd.underlying51, by kernel_rfl⟩
theorem tyOk52 : TyOk Tryd.prog 52 ⟨.func, 1, 8, .nilFunc⟩ := ⟨⟨_, _, _, Tryd.underlying52⟩, by kernel_rfl⟩
theorem tyOk53 : TyOk Tryd.prog 53 ⟨.slice 51, 1, 24, .slice none 0 0⟩ := ⟨Tryd.underlying53, by kernel_rfl⟩
theorem tyOk54 : TyOk Tryd.prog 54 ⟨.func, 1, 8, .nilFunc⟩ := ⟨⟨_, _, _, Tryd.underlying54⟩, by kernel_rfl⟩
theorem tyOk55 : TyOk Tryd.prog 55 ⟨.func, 1, 8, .nilFunc⟩ := ⟨⟨_, _, _, Tryd.underlying55⟩, by kernel_rfl⟩
theorem tyOk56 : TyOk Tryd.prog 56 ⟨.func, 1, 8, .nilFunc⟩ := ⟨⟨_, _, _, Tryd.underlying56⟩, by kernel_rfl⟩
theorem tyOk57 : TyOk Tryd.prog 57 ⟨.func, 1, 8, .nilFunc⟩ := ⟨⟨_, _, _, Tryd.underlying57⟩, by kernel_rfl⟩
theorem tyOk58 : TyOk Tryd.prog 58 ⟨.func, 1, 8, .nilFunc⟩ := ⟨⟨_, _, _, Tryd.underlying58⟩, by kernel_rfl⟩
theorem tyOk59 : TyOk Tryd.prog 59 ⟨.func, 1, 8, .nilFunc⟩ := ⟨⟨_, _, _, Tryd.underlying59⟩, by kernel_rfl⟩
theorem tyOk61 : TyOk Tryd.prog 61 ⟨.func, 1, 8, .nilFunc⟩ := ⟨⟨_, _, _, Tryd.underlying61⟩, by kernel_rfl⟩
theorem tyOk67 : TyOk Tryd.prog 67 ⟨.slice 70, 1, 24, .slice none 0 0⟩ := ⟨Tryd.underlying67, by kernel_rfl⟩
theorem tyOk70 : TyOk Tryd.prog 70 ⟨.func, 1, 8, .nilFunc⟩ := ⟨⟨_, _, _, Tryd.underlying70⟩, by kernel_rfl⟩
theorem tyOk75 : TyOk Tryd.prog 75 ⟨.func, 1, 8, .nilFunc⟩ := ⟨⟨_, _, _, Tryd.underlying75⟩, by kernel_rfl⟩
theorem tyOk78 : TyOk Tryd.prog 78 ⟨.func, 1, 8, .nilFunc⟩ := ⟨⟨_, _, _, Tryd.underlying78⟩, by kernel_rfl⟩
theorem tyOk82 : TyOk Tryd.prog 82 ⟨.slice 9, 1, 24, .slice none 0 0⟩ := ⟨Tryd.underlying82, by kernel_rfl⟩
theorem tyOk85 : TyOk Tryd.prog 85 ⟨.slice 5, 1, 24, .slice none 0 0⟩ := ⟨Tryd.underlying85, by kernel_rfl⟩
theorem tyOk87 : TyOk Tryd.prog 87 ⟨.iface, 1, 16, .nilIface⟩ := ⟨⟨_, Tryd.underlying87⟩, by kernel_rfl⟩
theorem tyOk92 : TyOk Tryd.prog 92 ⟨.func, 1, 8, .nilFunc⟩ := ⟨⟨_, _, _, Tryd.underlying92⟩, by kernel_rfl⟩
theorem tyOk100 : TyOk Tryd.prog 100 ⟨.func, 1, 8, .nilFunc⟩ := ⟨⟨_, _, _, Tryd.underlying100⟩, by kernel_rfl⟩
theorem tyOk105 : TyOk Tryd.prog 105 ⟨.int .i64, 1, 8, .int .i64 0⟩ := ⟨Tryd.underlying105, by kernel_rfl⟩
theorem tyOk108 : TyOk Tryd.prog 108 ⟨.ptr 122, 1, 8, .pointer none⟩ := ⟨Tryd.underlying108, by kernel_rfl⟩
theorem tyOk111 : TyOk Tryd.prog 111 ⟨.arr 24 5, 24, 24, .agg #[.int .u8 0, .int .u8 0, .int .u8 0, .int .u8 0, .int .u8 0, .int .u8 0, .int .u8 0, .int .u8 0, .int .u8 0, .int .u8 0, .int .u8 0, .int .u8 0, .int .u8 0, .int .u8 0, .int .u8 0, .int .u8 0, .int .u8 0, .int .u8 0, .int .u8 0, .int .u8 0, .int .u8 0, .int .u8 0, .int .u8 0, .int .u8 0]⟩ := ⟨Tryd.underlying111, by kernel_rfl⟩
theorem tyOk112 : TyOk Tryd.prog 112 ⟨.int .u64, 1, 8, .int .u64 0⟩ := ⟨Tryd.underlying112, by kernel_rfl⟩
theorem tyOk119 : TyOk Tryd.prog 119 ⟨.int .u64, 1, 8, .int .u64 0⟩ := ⟨Tryd.underlying119, by kernel_rfl⟩
theorem tyOk122 : TyOk Tryd.prog 122 ⟨.struct [(9, 0), (9, 1), (87, 2)], 3, 48, .agg #[.string .empty, .string .empty, .nilIface]⟩ := ⟨⟨_, Tryd.underlying122, by kernel_rfl⟩, by kernel_rfl⟩
theorem tyOk126 : TyOk Tryd.prog 126 ⟨.arr 20 112, 20, 160, .agg #[.int .u64 0, .int .u64 0, .int .u64 0, .int .u64 0, .int .u64 0, .int .u64 0, .int .u64 0, .int .u64 0, .int .u64 0, .int .u64 0, .int .u64 0, .int .u64 0, .int .u64 0, .int .u64 0, .int .u64 0, .int .u64 0, .int .u64 0, .int .u64 0, .int .u64 0, .int .u64 0]⟩ := ⟨Tryd.underlying126, by kernel_rfl⟩
theorem tyOk127 : TyOk Tryd.prog 127 ⟨.int .u32, 1, 4, .int .u32 0⟩ := ⟨Tryd.underlying127, by kernel_rfl⟩
theorem tyOk131 : TyOk Tryd.prog 131 ⟨.ptr 5, 1, 8, .pointer none⟩ := ⟨Tryd.underlying131, by kernel_rfl⟩
theorem tyOk132 : TyOk Tryd.prog 132 ⟨.ptr 134, 1, 8, .pointer none⟩ := ⟨Tryd.underlying132, by kernel_rfl⟩
theorem tyOk134 : TyOk Tryd.prog 134 ⟨.struct [(9, 0)], 1, 16, .agg #[.string .empty]⟩ := ⟨⟨_, Tryd.underlying134, by kernel_rfl⟩, by kernel_rfl⟩
theorem tyOk136 : TyOk Tryd.prog 136 ⟨.arr 32 5, 32, 32, .agg #[.int .u8 0, .int .u8 0, .int .u8 0, .int .u8 0, .int .u8 0, .int .u8 0, .int .u8 0, .int .u8 0, .int .u8 0, .int .u8 0, .int .u8 0, .int .u8 0, .int .u8 0, .int .u8 0, .int .u8 0, .int .u8 0, .int .u8 0, .int .u8 0, .int .u8 0, .int .u8 0, .int .u8 0, .int .u8 0, .int .u8 0, .int .u8 0, .int .u8 0, .int .u8 0, .int .u8 0, .int .u8 0, .int .u8 0, .int .u8 0, .int .u8 0, .int .u8 0]⟩ := ⟨Tryd.underlying136, by kernel_rfl⟩
def tyTab : List (Nat × TyI) := [
  (3, ⟨.int .i64, 1, 8, .int .i64 0⟩),
  (9, ⟨.str, 1, 16, .string .empty⟩),
  (5, ⟨.int .u8, 1, 1, .int .u8 0⟩),
  (27, ⟨.struct [(9, 0), (9, 1), (25, 2), (3, 4), (9, 5)], 6, 80, .agg #[.string .empty, .string .empty, .string .empty, .int .i64 0, .int .i64 0, .string .empty]⟩),
  (23, ⟨.struct [(3, 0), (3, 1), (3, 2), (3, 3)], 4, 32, .agg #[.int .i64 0, .int .i64 0, .int .i64 0, .int .i64 0]⟩),
  (2, ⟨.int .i64, 1, 8, .int .i64 0⟩),
  (29, ⟨.slice 27, 1, 24, .slice none 0 0⟩),
  (4, ⟨.bool, 1, 1, .bool false⟩),
  (31, ⟨.int .i64, 1, 8, .int .i64 0⟩),
  (1, ⟨.func, 1, 8, .nilFunc⟩),
  (112, ⟨.int .u64, 1, 8, .int .u64 0⟩),
  (127, ⟨.int .u32, 1, 4, .int .u32 0⟩),
  (42, ⟨.slice 3, 1, 24, .slice none 0 0⟩),
  (85, ⟨.slice 5, 1, 24, .slice none 0 0⟩),
  (39, ⟨.slice 42, 1, 24, .slice none 0 0⟩),
  (7, ⟨.struct [(2, 0), (3, 1), (4, 2), (6, 3)], 4, 24, .agg #[.int .i64 0, .int .i64 0, .bool false, .int .u8 0]⟩),
  (44, ⟨.slice 4, 1, 24, .slice none 0 0⟩),
  (10, ⟨.str, 1, 16, .string .empty⟩),
  (6, ⟨.int .u8, 1, 1, .int .u8 0⟩),
  (8, ⟨.struct [(2, 0), (3, 1), (4, 2), (6, 3)], 4, 24, .agg #[.int .i64 0, .int .i64 0, .bool false, .int .u8 0]⟩),
  (87, ⟨.iface, 1, 16, .nilIface⟩),
  (119, ⟨.int .u64, 1, 8, .int .u64 0⟩),
  (105, ⟨.int .i64, 1, 8, .int .i64 0⟩),
  (17, ⟨.ptr 151, 1, 8, .pointer none⟩),
  (51, ⟨.ptr 27, 1, 8, .pointer none⟩),
  (82, ⟨.slice 9, 1, 24, .slice none 0 0⟩),
  (15, ⟨.ptr 140, 1, 8, .pointer none⟩),
  (25, ⟨.struct [(9, 0), (3, 1)], 2, 24, .agg #[.string .empty, .int .i64 0]⟩),
  (21, ⟨.int .i32, 1, 4, .int .i32 0⟩),
  (13, ⟨.struct [(9, 0), (12, 1)], 2, 24, .agg #[.string .empty, .int .u64 0]⟩),
  (19, ⟨.struct [(17, 0)], 1, 8, .agg #[.pointer none]⟩),
  (26, ⟨.struct [(9, 0), (9, 1), (25, 2), (3, 4), (9, 5)], 6, 80, .agg #[.string .empty, .string .empty, .string .empty, .int .i64 0, .int .i64 0, .string .empty]⟩),
  (53, ⟨.slice 51, 1, 24, .slice none 0 0⟩),
  (11, ⟨.str, 1, 16, .string .empty⟩),
  (20, ⟨.iface, 1, 16, .nilIface⟩),
  (16, ⟨.ptr 143, 1, 8, .pointer none⟩),
  (30, ⟨.func, 1, 8, .nilFunc⟩),
  (38, ⟨.func, 1, 8, .nilFunc⟩),
  (122, ⟨.struct [(9, 0), (9, 1), (87, 2)], 3, 48, .agg #[.string .empty, .string .empty, .nilIface]⟩),
  (12, ⟨.int .u64, 1, 8, .int .u64 0⟩),
  (18, ⟨.struct [(17, 0)], 1, 8, .agg #[.pointer none]⟩),
  (14, ⟨.struct [(9, 0), (12, 1)], 2, 24, .agg #[.string .empty, .int .u64 0]⟩),
  (111, ⟨.arr 24 5, 24, 24, .agg #[.int .u8 0, .int .u8 0, .int .u8 0, .int .u8 0, .int .u8 0, .int .u8 0, .int .u8 0, .int .u8 0, .int .u8 0, .int .u8 0, .int .u8 0, .int .u8 0, .int .u8 0, .int .u8 0, .int .u8 0, .int .u8 0, .int .u8 0, .int .u8 0, .int .u8 0, .int .u8 0, .int .u8 0, .int .u8 0, .int .u8 0, .int .u8 0]⟩),
  (35, ⟨.func, 1, 8, .nilFunc⟩),
  (55, ⟨.func, 1, 8, .nilFunc⟩),
  (108, ⟨.ptr 122, 1, 8, .pointer none⟩),
  (22, ⟨.struct [(3, 0), (3, 1), (3, 2), (3, 3)], 4, 32, .agg #[.int .i64 0, .int .i64 0, .int .i64 0, .int .i64 0]⟩),
  (67, ⟨.slice 70, 1, 24, .slice none 0 0⟩),
  (126, ⟨.arr 20 112, 20, 160, .agg #[.int .u64 0, .int .u64 0, .int .u64 0, .int .u64 0, .int .u64 0, .int .u64 0, .int .u64 0, .int .u64 0, .int .u64 0, .int .u64 0, .int .u64 0, .int .u64 0, .int .u64 0, .int .u64 0, .int .u64 0, .int .u64 0, .int .u64 0, .int .u64 0, .int .u64 0, .int .u64 0]⟩),
  (136, ⟨.arr 32 5, 32, 32, .agg #[.int .u8 0, .int .u8 0, .int .u8 0, .int .u8 0, .int .u8 0, .int .u8 0, .int .u8 0, .int .u8 0, .int .u8 0, .int .u8 0, .int .u8 0, .int .u8 0, .int .u8 0, .int .u8 0, .int .u8 0, .int .u8 0, .int .u8 0, .int .u8 0, .int .u8 0, .int .u8 0, .int .u8 0, .int .u8 0, .int .u8 0, .int .u8 0, .int .u8 0, .int .u8 0, .int .u8 0, .int .u8 0, .int .u8 0, .int .u8 0, .int .u8 0, .int .u8 0]⟩),
  (61, ⟨.func, 1, 8, .nilFunc⟩),
  (75, ⟨.func, 1, 8, .nilFunc⟩),
  (134, ⟨.struct [(9, 0)], 1, 16, .agg #[.string .empty]⟩),
  (59, ⟨.func, 1, 8, .nilFunc⟩),
  (70, ⟨.func, 1, 8, .nilFunc⟩),
  (78, ⟨.func, 1, 8, .nilFunc⟩),
  (92, ⟨.func, 1, 8, .nilFunc⟩),
  (100, ⟨.func, 1, 8, .nilFunc⟩),
  (131, ⟨.ptr 5, 1, 8, .pointer none⟩),
  (132, ⟨.ptr 134, 1, 8, .pointer none⟩),
  (24, ⟨.struct [(9, 0), (3, 1)], 2, 24, .agg #[.string .empty, .int .i64 0]⟩),
  (28, ⟨.func, 1, 8, .nilFunc⟩),
  (33, ⟨.func, 1, 8, .nilFunc⟩),
  (34, ⟨.func, 1, 8, .nilFunc⟩),
  (36, ⟨.func, 1, 8, .nilFunc⟩),
  (37, ⟨.func, 1, 8, .nilFunc⟩),
  (41, ⟨.func, 1, 8, .nilFunc⟩),
  (43, ⟨.func, 1, 8, .nilFunc⟩),
  (45, ⟨.func, 1, 8, .nilFunc⟩),
  (46, ⟨.func, 1, 8, .nilFunc⟩),
  (47, ⟨.func, 1, 8, .nilFunc⟩),
  (48, ⟨.func, 1, 8, .nilFunc⟩),
  (50, ⟨.func, 1, 8, .nilFunc⟩),
  (52, ⟨.func, 1, 8, .nilFunc⟩),
  (54, ⟨.func, 1, 8, .nilFunc⟩),
  (56, ⟨.func, 1, 8, .nilFunc⟩),
  (57, ⟨.func, 1, 8, .nilFunc⟩),
  (58, ⟨.func, 1, 8, .nilFunc⟩)
]
theorem tyTab_ok : ∀ e ∈ tyTab, TyOk Tryd.prog e.1 e.2 := by
  unfold tyTab
  refine List.forall_mem_cons.2 ⟨tyOk3, ?_⟩
  refine List.forall_mem_cons.2 ⟨tyOk9, ?_⟩
  refine List.forall_mem_cons.2 ⟨tyOk5, ?_⟩
  refine List.forall_mem_cons.2 ⟨tyOk27, ?_⟩
  refine List.forall_mem_cons.2 ⟨tyOk23, ?_⟩
  refine List.forall_mem_cons.2 ⟨tyOk2, ?_⟩
  refine List.forall_mem_cons.2 ⟨tyOk29, ?_⟩
  refine List.forall_mem_cons.2 ⟨tyOk4, ?_⟩
  refine List.forall_mem_cons.2 ⟨tyOk31, ?_⟩
  refine List.forall_mem_cons.2 ⟨tyOk1, ?_⟩
  refine List.forall_mem_cons.2 ⟨tyOk112, ?_⟩
  refine List.forall_mem_cons.2 ⟨tyOk127, ?_⟩
  refine List.forall_mem_cons.2 ⟨tyOk42, ?_⟩
  refine List.forall_mem_cons.2 ⟨tyOk85, ?_⟩
  refine List.forall_mem_cons.2 ⟨tyOk39, ?_⟩
  refine List.forall_mem_cons.2 ⟨tyOk7, ?_⟩
  refine List.forall_mem_cons.2 ⟨tyOk44, ?_⟩
  refine List.forall_mem_cons.2 ⟨tyOk10, ?_⟩
  refine List.forall_mem_cons.2 ⟨tyOk6, ?_⟩
  refine List.forall_mem_cons.2 ⟨tyOk8, ?_⟩
  refine List.forall_mem_cons.2 ⟨tyOk87, ?_⟩
  refine List.forall_mem_cons.2 ⟨tyOk119, ?_⟩
  refine List.forall_mem_cons.2 ⟨tyOk105, ?_⟩
  refine List.forall_mem_cons.2 ⟨tyOk17, ?_⟩
  refine List.forall_mem_cons.2 ⟨tyOk51, ?_⟩
  refine List.forall_mem_cons.2 ⟨tyOk82, ?_⟩
  refine List.forall_mem_cons.2 ⟨tyOk15, ?_⟩
  refine List.forall_mem_cons.2 ⟨tyOk25, ?_⟩
  refine List.forall_mem_cons.2 ⟨tyOk21, ?_⟩
  refine List.forall_mem_cons.2 ⟨tyOk13, ?_⟩
  refine List.forall_mem_cons.2 ⟨tyOk19, ?_⟩
  refine List.forall_mem_cons.2 ⟨tyOk26, ?_⟩
  refine List.forall_mem_cons.2 ⟨tyOk53, ?_⟩
  refine List.forall_mem_cons.2 ⟨tyOk11, ?_⟩
  refine List.forall_mem_cons.2 ⟨tyOk20, ?_⟩
  refine List.forall_mem_cons.2 ⟨tyOk16, ?_⟩
  refine List.forall_mem_cons.2 ⟨tyOk30, ?_⟩
  refine List.forall_mem_cons.2 ⟨tyOk38, ?_⟩
  refine List.forall_mem_cons.2 ⟨tyOk122, ?_⟩
  refine List.forall_mem_cons.2 ⟨tyOk12, ?_⟩
  refine List.forall_mem_cons.2 ⟨tyOk18, ?_⟩
  refine List.forall_mem_cons.2 ⟨tyOk14, ?_⟩
  refine List.forall_mem_cons.2 ⟨tyOk111, ?_⟩
  refine List.forall_mem_cons.2 ⟨tyOk35, ?_⟩
  refine List.forall_mem_cons.2 ⟨tyOk55, ?_⟩
  refine List.forall_mem_cons.2 ⟨tyOk108, ?_⟩
  refine List.forall_mem_cons.2 ⟨tyOk22, ?_⟩
  refine List.forall_mem_cons.2 ⟨tyOk67, ?_⟩
  refine List.forall_mem_cons.2 ⟨tyOk126, ?_⟩
  refine List.forall_mem_cons.2 ⟨tyOk136, ?_⟩
  refine List.forall_mem_cons.2 ⟨tyOk61, ?_⟩
  refine List.forall_mem_cons.2 ⟨tyOk75, ?_⟩
  refine List.forall_mem_cons.2 ⟨tyOk134, ?_⟩
  refine List.forall_mem_cons.2 ⟨tyOk59, ?_⟩
  refine List.forall_mem_cons.2 ⟨tyOk70, ?_⟩
  refine List.forall_mem_cons.2 ⟨tyOk78, ?_⟩
  refine List.forall_mem_cons.2 ⟨tyOk92, ?_⟩
  refine List.forall_mem_cons.2 ⟨tyOk100, ?_⟩
  refine List.forall_mem_cons.2 ⟨tyOk131, ?_⟩
  refine List.forall_mem_cons.2 ⟨tyOk132, ?_⟩
  refine List.forall_mem_cons.2 ⟨tyOk24, ?_⟩
  refine List.forall_mem_cons.2 ⟨tyOk28, ?_⟩
  refine List.forall_mem_cons.2 ⟨tyOk33, ?_⟩
  refine List.forall_mem_cons.2 ⟨tyOk34, ?_⟩
  refine List.forall_mem_cons.2 ⟨tyOk36, ?_⟩
  refine List.forall_mem_cons.2 ⟨tyOk37, ?_⟩
  refine List.forall_mem_cons.2 ⟨tyOk41, ?_⟩
  refine List.forall_mem_cons.2 ⟨tyOk43, ?_⟩
  refine List.forall_mem_cons.2 ⟨tyOk45, ?_⟩
  refine List.forall_mem_cons.2 ⟨tyOk46, ?_⟩
  refine List.forall_mem_cons.2 ⟨tyOk47, ?_⟩
  refine List.forall_mem_cons.2 ⟨tyOk48, ?_⟩
  refine List.forall_mem_cons.2 ⟨tyOk50, ?_⟩
  refine List.forall_mem_cons.2 ⟨tyOk52, ?_⟩
  refine List.forall_mem_cons.2 ⟨tyOk54, ?_⟩
  refine List.forall_mem_cons.2 ⟨tyOk56, ?_⟩
  refine List.forall_mem_cons.2 ⟨tyOk57, ?_⟩
  refine List.forall_mem_cons.2 ⟨tyOk58, ?_⟩
  intro _ h; cases h
noncomputable def sg : Sig := ⟨Tryd.prog, tyTab, tyTab_ok, by kernel_rfl⟩
end Go.Proofs.YtiglobijdegjdaaDoor
