/- The table of the types, for the engine. Written by a program of mine off the translation. -/
import Derived.Test.YtiglobijdegjdaaGreatDoorProg
import Derived.Test.YtiglobijdegjdaaGreatDoorEngA
namespace Go.Proofs.YtiglobijdegjdaaGreatDoor
open Go.Proofs
set_option maxRecDepth 100000
theorem tyOk1 : TyOk Tryz.prog 1 ⟨.func, 1, 8, .nilFunc⟩ := ⟨⟨_, _, _, Tryz.underlying1⟩, by kernel_rfl⟩
theorem tyOk2 : TyOk Tryz.prog 2 ⟨.int .i64, 1, 8, .int .i64 0⟩ := ⟨Tryz.underlying2, by kernel_rfl⟩
theorem tyOk3 : TyOk Tryz.prog 3 ⟨.int .i64, 1, 8, .int .i64 0⟩ := ⟨Tryz.underlying3, by kernel_rfl⟩
theorem tyOk4 : TyOk Tryz.prog 4 ⟨.bool, 1, 1, .bool false⟩ := ⟨Tryz.underlying4, by kernel_rfl⟩
theorem tyOk5 : TyOk Tryz.prog 5 ⟨.int .u8, 1, 1, .int .u8 0⟩ := ⟨Tryz.underlying5, by kernel_rfl⟩
theorem tyOk6 : TyOk Tryz.prog 6 ⟨.int .u8, 1, 1, .int .u8 0⟩ := ⟨Tryz.underlying6, by kernel_rfl⟩
theorem tyOk7 : TyOk Tryz.prog 7 ⟨.struct [(2, 0), (3, 1), (4, 2), (6, 3)], 4, 24, .agg #[.int .i64 0, .int .i64 0, .bool false, .int .u8 0]⟩ := ⟨⟨_, Tryz.underlying7, by kernel_rfl⟩, by kernel_rfl⟩
theorem tyOk8 : TyOk Tryz.prog 8 ⟨.struct [(2, 0), (3, 1), (4, 2), (6, 3)], 4, 24, .agg #[.int .i64 0, .int .i64 0, .bool false, .int .u8 0]⟩ := ⟨⟨_, Tryz.underlying8, by kernel_rfl⟩, by kernel_rfl⟩
theorem tyOk9 : TyOk Tryz.prog 9 ⟨.str, 1, 16, .string .empty⟩ := ⟨Tryz.underlying9, by kernel_rfl⟩
theorem tyOk10 : TyOk Tryz.prog 10 ⟨.str, 1, 16, .string .empty⟩ := ⟨Tryz.underlying10, by kernel_rfl⟩
theorem tyOk11 : TyOk Tryz.prog 11 ⟨.str, 1, 16, .string .empty⟩ := ⟨Tryz.underlying11, by kernel_rfl⟩
theorem tyOk12 : TyOk Tryz.prog 12 ⟨.int .u64, 1, 8, .int .u64 0⟩ := ⟨Tryz.underlying12, by kernel_rfl⟩
theorem tyOk13 : TyOk Tryz.prog 13 ⟨.struct [(9, 0), (12, 1)], 2, 24, .agg #[.string .empty, .int .u64 0]⟩ := ⟨⟨_, Tryz.underlying13, by kernel_rfl⟩, by kernel_rfl⟩
theorem tyOk14 : TyOk Tryz.prog 14 ⟨.struct [(9, 0), (12, 1)], 2, 24, .agg #[.string .empty, .int .u64 0]⟩ := ⟨⟨_, Tryz.underlying14, by kernel_rfl⟩, by kernel_rfl⟩
theorem tyOk15 : TyOk Tryz.prog 15 ⟨.ptr 193, 1, 8, .pointer none⟩ := ⟨Tryz.underlying15, by kernel_rfl⟩
theorem tyOk16 : TyOk Tryz.prog 16 ⟨.ptr 196, 1, 8, .pointer none⟩ := ⟨Tryz.underlying16, by kernel_rfl⟩
theorem tyOk17 : TyOk Tryz.prog 17 ⟨.ptr 204, 1, 8, .pointer none⟩ := ⟨Tryz.underlying17, by kernel_rfl⟩
theorem tyOk18 : TyOk Tryz.prog 18 ⟨.struct [(17, 0)], 1, 8, .agg #[.pointer none]⟩ := ⟨⟨_, Tryz.underlying18, by kernel_rfl⟩, by kernel_rfl⟩
theorem tyOk19 : TyOk Tryz.prog 19 ⟨.struct [(17, 0)], 1, 8, .agg #[.pointer none]⟩ := ⟨⟨_, Tryz.underlying19, by kernel_rfl⟩, by kernel_rfl⟩
theorem tyOk20 : TyOk Tryz.prog 20 ⟨.iface, 1, 16, .nilIface⟩ := ⟨⟨_, Tryz.underlying20⟩, by kernel_rfl⟩
theorem tyOk21 : TyOk Tryz.prog 21 ⟨.int .i32, 1, 4, .int .i32 0⟩ := ⟨Tryz.underlying21, by kernel_rfl⟩
theorem tyOk22 : TyOk Tryz.prog 22 ⟨.struct [(3, 0), (3, 1), (3, 2), (3, 3)], 4, 32, .agg #[.int .i64 0, .int .i64 0, .int .i64 0, .int .i64 0]⟩ := ⟨⟨_, Tryz.underlying22, by kernel_rfl⟩, by kernel_rfl⟩
theorem tyOk23 : TyOk Tryz.prog 23 ⟨.struct [(3, 0), (3, 1), (3, 2), (3, 3)], 4, 32, .agg #[.int .i64 0, .int .i64 0, .int .i64 0, .int .i64 0]⟩ := ⟨⟨_, Tryz.underlying23, by kernel_rfl⟩, by kernel_rfl⟩
theorem tyOk24 : TyOk Tryz.prog 24 ⟨.slice 55, 1, 24, .slice none 0 0⟩ := ⟨Tryz.underlying24, by kernel_rfl⟩
theorem tyOk25 : TyOk Tryz.prog 25 ⟨.slice 4, 1, 24, .slice none 0 0⟩ := ⟨Tryz.underlying25, by kernel_rfl⟩
theorem tyOk26 : TyOk Tryz.prog 26 ⟨.func, 1, 8, .nilFunc⟩ := ⟨⟨_, _, _, Tryz.underlying26⟩, by kernel_rfl⟩
theorem tyOk27 : TyOk Tryz.prog 27 ⟨.func, 1, 8, .nilFunc⟩ := ⟨⟨_, _, _, Tryz.underlying27⟩, by kernel_rfl⟩
theorem tyOk28 : TyOk Tryz.prog 28 ⟨.int .i64, 1, 8, .int .i64 0⟩ := ⟨Tryz.underlying28, by kernel_rfl⟩
theorem tyOk30 : TyOk Tryz.prog 30 ⟨.func, 1, 8, .nilFunc⟩ := ⟨⟨_, _, _, Tryz.underlying30⟩, by kernel_rfl⟩
theorem tyOk32 : TyOk Tryz.prog 32 ⟨.func, 1, 8, .nilFunc⟩ := ⟨⟨_, _, _, Tryz.underlying32⟩, by kernel_rfl⟩
theorem tyOk33 : TyOk Tryz.prog 33 ⟨.slice 41, 1, 24, .slice none 0 0⟩ := ⟨Tryz.underlying33, by kernel_rfl⟩
theorem tyOk35 : TyOk Tryz.prog 35 ⟨.func, 1, 8, .nilFunc⟩ := ⟨⟨_, _, _, Tryz.underlying35⟩, by kernel_rfl⟩
theorem tyOk36 : TyOk Tryz.prog 36 ⟨.func, 1, 8, .nilFunc⟩ := ⟨⟨_, _, _, Tryz.underlying36⟩, by kernel_rfl⟩
theorem tyOk37 : TyOk Tryz.prog 37 ⟨.func, 1, 8, .nilFunc⟩ := ⟨⟨_, _, _, Tryz.underlying37⟩, by kernel_rfl⟩
theorem tyOk38 : TyOk Tryz.prog 38 ⟨.func, 1, 8, .nilFunc⟩ := ⟨⟨_, _, _, Tryz.underlying38⟩, by kernel_rfl⟩
theorem tyOk39 : TyOk Tryz.prog 39 ⟨.func, 1, 8, .nilFunc⟩ := ⟨⟨_, _, _, Tryz.underlying39⟩, by kernel_rfl⟩
theorem tyOk40 : TyOk Tryz.prog 40 ⟨.func, 1, 8, .nilFunc⟩ := ⟨⟨_, _, _, Tryz.underlying40⟩, by kernel_rfl⟩
theorem tyOk41 : TyOk Tryz.prog 41 ⟨.slice 3, 1, 24, .slice none 0 0⟩ := ⟨Tryz.underlying41, by kernel_rfl⟩
theorem tyOk42 : TyOk Tryz.prog 42 ⟨.func, 1, 8, .nilFunc⟩ := ⟨⟨_, _, _, Tryz.underlying42⟩, by kernel_rfl⟩
theorem tyOk43 : TyOk Tryz.prog 43 ⟨.func, 1, 8, .nilFunc⟩ := ⟨⟨_, _, _, Tryz.underlying43⟩, by kernel_rfl⟩
theorem tyOk45 : TyOk Tryz.prog 45 ⟨.func, 1, 8, .nilFunc⟩ := ⟨⟨_, _, _, Tryz.underlying45⟩, by kernel_rfl⟩
theorem tyOk46 : TyOk Tryz.prog 46 ⟨.func, 1, 8, .nilFunc⟩ := ⟨⟨_, _, _, Tryz.underlying46⟩, by kernel_rfl⟩
theorem tyOk47 : TyOk Tryz.prog 47 ⟨.slice 5, 1, 24, .slice none 0 0⟩ := ⟨Tryz.underlying47, by kernel_rfl⟩
theorem tyOk48 : TyOk Tryz.prog 48 ⟨.func, 1, 8, .nilFunc⟩ := ⟨⟨_, _, _, Tryz.underlying48⟩, by kernel_rfl⟩
theorem tyOk49 : TyOk Tryz.prog 49 ⟨.func, 1, 8, .nilFunc⟩ := ⟨⟨_, _, _, Tryz.underlying49⟩, by kernel_rfl⟩
theorem tyOk50 : TyOk Tryz.prog 50 ⟨.func, 1, 8, .nilFunc⟩ := ⟨⟨_, _, _, Tryz.underlying50⟩, by kernel_rfl⟩
theorem tyOk51 : TyOk Tryz.prog 51 ⟨.func, 1, 8, .nilFunc⟩ := ⟨⟨_, _, _, Tryz.underlying51⟩, by kernel_rfl⟩
theorem tyOk52 : TyOk Tryz.prog 52 ⟨.struct [(9, 0), (3, 1)], 2, 24, .agg #[.string .empty, .int .i64 0]⟩ := ⟨⟨_, Tryz.underlying52, by kernel_rfl⟩, by kernel_rfl⟩
theorem tyOk53 : TyOk Tryz.prog 53 ⟨.struct [(9, 0), (3, 1)], 2, 24, .agg #[.string .empty, .int .i64 0]⟩ := ⟨⟨_, Tryz.underlying53, by kernel_rfl⟩, by kernel_rfl⟩
theorem tyOk54 : TyOk Tryz.prog 54 ⟨.struct [(9, 0), (9, 1), (53, 2), (3, 4), (9, 5)], 6, 80, .agg #[.string .empty, .string .empty, .string .empty, .int .i64 0, .int .i64 0, .string .empty]⟩ := ⟨⟨_, Tryz.underlying54, by kernel_rfl⟩, by kernel_rfl⟩
theorem tyOk55 : TyOk Tryz.prog 55 ⟨.struct [(9, 0), (9, 1), (53, 2), (3, 4), (9, 5)], 6, 80, .agg #[.string .empty, .string .empty, .string .empty, .int .i64 0, .int .i64 0, .string .empty]⟩ := ⟨⟨_, Tryz.underlying55, by kernel_rfl⟩, by kernel_rfl⟩
theorem tyOk56 : TyOk Tryz.prog 56 ⟨.func, 1, 8, .nilFunc⟩ := ⟨⟨_, _, _, Tryz.underlying56⟩, by kernel_rfl⟩
theorem tyOk57 : TyOk Tryz.prog 57 ⟨.arr 2 24, 2, 48, .agg #[.slice none 0 0, .slice none 0 0]⟩ := ⟨Tryz.underlying57, by kernel_rfl⟩
theorem tyOk58 : TyOk Tryz.prog 58 ⟨.slice 57, 1, 24, .slice none 0 0⟩ := ⟨Tryz.underlying58, by kernel_rfl⟩
theorem tyOk59 : TyOk Tryz.prog 59 ⟨.func, 1, 8, .nilFunc⟩ := ⟨⟨_, _, _, Tryz.underlying59⟩, by kernel_rfl⟩
theorem tyOk61 : TyOk Tryz.prog 61 ⟨.func, 1, 8, .nilFunc⟩ := ⟨⟨_, _, _, Tryz.underlying61⟩, by kernel_rfl⟩
theorem tyOk63 : TyOk Tryz.prog 63 ⟨.struct [(23, 0), (24, 4), (24, 5), (33, 6), (33, 7)], 8, 128, .agg #[.int .i64 0, .int .i64 0, .int .i64 0, .int .i64 0, .slice none 0 0, .slice none 0 0, .slice none 0 0, .slice none 0 0]⟩ := ⟨⟨_, Tryz.underlying63, by kernel_rfl⟩, by kernel_rfl⟩
theorem tyOk65 : TyOk Tryz.prog 65 ⟨.func, 1, 8, .nilFunc⟩ := ⟨⟨_, _, _, Tryz.underlying65⟩, by kernel_rfl⟩
theorem tyOk69 : TyOk Tryz.prog 69 ⟨.slice 63, 1, 24, .slice none 0 0⟩ := ⟨Tryz.underlying69, by kernel_rfl⟩
theorem tyOk70 : TyOk Tryz.prog 70 ⟨.func, 1, 8, .nilFunc⟩ := ⟨⟨_, _, _, Tryz.underlying70⟩, by kernel_rfl⟩
theorem tyOk84 : TyOk Tryz.prog 84 ⟨.func, 1, 8, .nilFunc⟩ := ⟨⟨_, _, _, Tryz.underlying84⟩, by kernel_rfl⟩
theorem tyOk87 : TyOk Tryz.prog 87 ⟨.slice 24, 1, 24, .slice none 0 0⟩ := ⟨Tryz.underlying87, by kernel_rfl⟩
theorem tyOk90 : TyOk Tryz.prog 90 ⟨.arr 2 41, 2, 48, .agg #[.slice none 0 0, .slice none 0 0]⟩ := ⟨Tryz.underlying90, by kernel_rfl⟩
theorem tyOk92 : TyOk Tryz.prog 92 ⟨.struct [(23, 0), (24, 4), (24, 5), (90, 6)], 8, 128, .agg #[.int .i64 0, .int .i64 0, .int .i64 0, .int .i64 0, .slice none 0 0, .slice none 0 0, .slice none 0 0, .slice none 0 0]⟩ := ⟨⟨_, Tryz.underlying92, by kernel_rfl⟩, by kernel_rfl⟩
theorem tyOk95 : TyOk Tryz.prog 95 ⟨.slice 41, 1, 24, .slice none 0 0⟩ := ⟨Tryz.underlying95, by kernel_rfl⟩
theorem tyOk97 : TyOk Tryz.prog 97 ⟨.func, 1, 8, .nilFunc⟩ := ⟨⟨_, _, _, Tryz.underlying97⟩, by kernel_rfl⟩
theorem tyOk98 : TyOk Tryz.prog 98 ⟨.func, 1, 8, .nilFunc⟩ := ⟨⟨_, _, _, Tryz.underlying98⟩, by kernel_rfl⟩
theorem tyOk99 : TyOk Tryz.prog 99 ⟨.slice 102, 1, 24, .slice none 0 0⟩ := ⟨Tryz.underlying99, by kernel_rfl⟩
theorem tyOk102 : TyOk Tryz.prog 102 ⟨.struct [(3, 0), (3, 1), (3, 2)], 3, 24, .agg #[.int .i64 0, .int .i64 0, .int .i64 0]⟩ := ⟨⟨_, Tryz.underlying102, by kernel_rfl⟩, by kernel_rfl⟩
theorem tyOk113 : TyOk Tryz.prog 113 ⟨.func, 1, 8, .nilFunc⟩ := ⟨⟨_, _, _, Tryz.underlying113⟩, by kernel_rfl⟩
theorem tyOk116 : TyOk Tryz.prog 116 ⟨.func, 1, 8, .nilFunc⟩ := ⟨⟨_, _, _, Tryz.underlying116⟩, by kernel_rfl⟩
theorem tyOk121 : TyOk Tryz.prog 121 ⟨.func, 1, 8, .nilFunc⟩ := ⟨⟨_, _, _, Tryz.underlying121⟩, by kernel_rfl⟩
theorem tyOk122 : TyOk Tryz.prog 122 ⟨.slice 125, 1, 24, .slice none 0 0⟩ := ⟨Tryz.underlying122, by kernel_rfl⟩
theorem tyOk125 : TyOk Tryz.prog 125 ⟨.func, 1, 8, .nilFunc⟩ := ⟨⟨_, _, _, Tryz.underlying125⟩, by kernel_rfl⟩
theorem tyOk128 : TyOk Tryz.prog 128 ⟨.func, 1, 8, .nilFunc⟩ := ⟨⟨_, _, _, Tryz.underlying128⟩, by kernel_rfl⟩
theorem tyOk136 : TyOk Tryz.prog 136 ⟨.iface, 1, 16, .nilIface⟩ := ⟨⟨_, Tryz.underlying136⟩, by kernel_rfl⟩
theorem tyOk141 : TyOk Tryz.prog 141 ⟨.slice 9, 1, 24, .slice none 0 0⟩ := ⟨Tryz.underlying141, by kernel_rfl⟩
theorem tyOk146 : TyOk Tryz.prog 146 ⟨.func, 1, 8, .nilFunc⟩ := ⟨⟨_, _, _, Tryz.underlying146⟩, by kernel_rfl⟩
theorem tyOk155 : TyOk Tryz.prog 155 ⟨.int .i64, 1, 8, .int .i64 0⟩ := ⟨Tryz.underlying155, by kernel_rfl⟩
theorem tyOk158 : TyOk Tryz.prog 158 ⟨.ptr 170, 1, 8, .pointer none⟩ := ⟨Tryz.underlying158, by kernel_rfl⟩
theorem tyOk164 : TyOk Tryz.prog 164 ⟨.int .u64, 1, 8, .int .u64 0⟩ := ⟨Tryz.underlying164, by kernel_rfl⟩
theorem tyOk167 : TyOk Tryz.prog 167 ⟨.int .u64, 1, 8, .int .u64 0⟩ := ⟨Tryz.underlying167, by kernel_rfl⟩
theorem tyOk170 : TyOk Tryz.prog 170 ⟨.struct [(9, 0), (9, 1), (136, 2)], 3, 48, .agg #[.string .empty, .string .empty, .nilIface]⟩ := ⟨⟨_, Tryz.underlying170, by kernel_rfl⟩, by kernel_rfl⟩
theorem tyOk172 : TyOk Tryz.prog 172 ⟨.arr 24 5, 24, 24, .agg #[.int .u8 0, .int .u8 0, .int .u8 0, .int .u8 0, .int .u8 0, .int .u8 0, .int .u8 0, .int .u8 0, .int .u8 0, .int .u8 0, .int .u8 0, .int .u8 0, .int .u8 0, .int .u8 0, .int .u8 0, .int .u8 0, .int .u8 0, .int .u8 0, .int .u8 0, .int .u8 0, .int .u8 0, .int .u8 0, .int .u8 0, .int .u8 0]⟩ := ⟨Tryz.underlying172, by kernel_rfl⟩
theorem tyOk178 : TyOk Tryz.prog 178 ⟨.ptr 5, 1, 8, .pointer none⟩ := ⟨Tryz.underlying178, by kernel_rfl⟩
theorem tyOk179 : TyOk Tryz.prog 179 ⟨.ptr 181, 1, 8, .pointer none⟩ := ⟨Tryz.underlying179, by kernel_rfl⟩
theorem tyOk181 : TyOk Tryz.prog 181 ⟨.struct [(9, 0)], 1, 16, .agg #[.string .empty]⟩ := ⟨⟨_, Tryz.underlying181, by kernel_rfl⟩, by kernel_rfl⟩
theorem tyOk184 : TyOk Tryz.prog 184 ⟨.arr 20 164, 20, 160, .agg #[.int .u64 0, .int .u64 0, .int .u64 0, .int .u64 0, .int .u64 0, .int .u64 0, .int .u64 0, .int .u64 0, .int .u64 0, .int .u64 0, .int .u64 0, .int .u64 0, .int .u64 0, .int .u64 0, .int .u64 0, .int .u64 0, .int .u64 0, .int .u64 0, .int .u64 0, .int .u64 0]⟩ := ⟨Tryz.underlying184, by kernel_rfl⟩
theorem tyOk185 : TyOk Tryz.prog 185 ⟨.int .u32, 1, 4, .int .u32 0⟩ := ⟨Tryz.underlying185, by kernel_rfl⟩
theorem tyOk189 : TyOk Tryz.prog 189 ⟨.arr 32 5, 32, 32, .agg #[.int .u8 0, .int .u8 0, .int .u8 0, .int .u8 0, .int .u8 0, .int .u8 0, .int .u8 0, .int .u8 0, .int .u8 0, .int .u8 0, .int .u8 0, .int .u8 0, .int .u8 0, .int .u8 0, .int .u8 0, .int .u8 0, .int .u8 0, .int .u8 0, .int .u8 0, .int .u8 0, .int .u8 0, .int .u8 0, .int .u8 0, .int .u8 0, .int .u8 0, .int .u8 0, .int .u8 0, .int .u8 0, .int .u8 0, .int .u8 0, .int .u8 0, .int .u8 0]⟩ := ⟨Tryz.underlying189, by kernel_rfl⟩
def tyTab : List (Nat × TyI) := [
  (3, ⟨.int .i64, 1, 8, .int .i64 0⟩),
  (24, ⟨.slice 55, 1, 24, .slice none 0 0⟩),
  (23, ⟨.struct [(3, 0), (3, 1), (3, 2), (3, 3)], 4, 32, .agg #[.int .i64 0, .int .i64 0, .int .i64 0, .int .i64 0]⟩),
  (9, ⟨.str, 1, 16, .string .empty⟩),
  (5, ⟨.int .u8, 1, 1, .int .u8 0⟩),
  (55, ⟨.struct [(9, 0), (9, 1), (53, 2), (3, 4), (9, 5)], 6, 80, .agg #[.string .empty, .string .empty, .string .empty, .int .i64 0, .int .i64 0, .string .empty]⟩),
  (41, ⟨.slice 3, 1, 24, .slice none 0 0⟩),
  (33, ⟨.slice 41, 1, 24, .slice none 0 0⟩),
  (28, ⟨.int .i64, 1, 8, .int .i64 0⟩),
  (2, ⟨.int .i64, 1, 8, .int .i64 0⟩),
  (1, ⟨.func, 1, 8, .nilFunc⟩),
  (4, ⟨.bool, 1, 1, .bool false⟩),
  (92, ⟨.struct [(23, 0), (24, 4), (24, 5), (90, 6)], 8, 128, .agg #[.int .i64 0, .int .i64 0, .int .i64 0, .int .i64 0, .slice none 0 0, .slice none 0 0, .slice none 0 0, .slice none 0 0]⟩),
  (164, ⟨.int .u64, 1, 8, .int .u64 0⟩),
  (10, ⟨.str, 1, 16, .string .empty⟩),
  (6, ⟨.int .u8, 1, 1, .int .u8 0⟩),
  (8, ⟨.struct [(2, 0), (3, 1), (4, 2), (6, 3)], 4, 24, .agg #[.int .i64 0, .int .i64 0, .bool false, .int .u8 0]⟩),
  (63, ⟨.struct [(23, 0), (24, 4), (24, 5), (33, 6), (33, 7)], 8, 128, .agg #[.int .i64 0, .int .i64 0, .int .i64 0, .int .i64 0, .slice none 0 0, .slice none 0 0, .slice none 0 0, .slice none 0 0]⟩),
  (185, ⟨.int .u32, 1, 4, .int .u32 0⟩),
  (7, ⟨.struct [(2, 0), (3, 1), (4, 2), (6, 3)], 4, 24, .agg #[.int .i64 0, .int .i64 0, .bool false, .int .u8 0]⟩),
  (47, ⟨.slice 5, 1, 24, .slice none 0 0⟩),
  (18, ⟨.struct [(17, 0)], 1, 8, .agg #[.pointer none]⟩),
  (25, ⟨.slice 4, 1, 24, .slice none 0 0⟩),
  (13, ⟨.struct [(9, 0), (12, 1)], 2, 24, .agg #[.string .empty, .int .u64 0]⟩),
  (87, ⟨.slice 24, 1, 24, .slice none 0 0⟩),
  (102, ⟨.struct [(3, 0), (3, 1), (3, 2)], 3, 24, .agg #[.int .i64 0, .int .i64 0, .int .i64 0]⟩),
  (95, ⟨.slice 41, 1, 24, .slice none 0 0⟩),
  (26, ⟨.func, 1, 8, .nilFunc⟩),
  (16, ⟨.ptr 196, 1, 8, .pointer none⟩),
  (21, ⟨.int .i32, 1, 4, .int .i32 0⟩),
  (15, ⟨.ptr 193, 1, 8, .pointer none⟩),
  (136, ⟨.iface, 1, 16, .nilIface⟩),
  (167, ⟨.int .u64, 1, 8, .int .u64 0⟩),
  (155, ⟨.int .i64, 1, 8, .int .i64 0⟩),
  (141, ⟨.slice 9, 1, 24, .slice none 0 0⟩),
  (20, ⟨.iface, 1, 16, .nilIface⟩),
  (99, ⟨.slice 102, 1, 24, .slice none 0 0⟩),
  (11, ⟨.str, 1, 16, .string .empty⟩),
  (57, ⟨.arr 2 24, 2, 48, .agg #[.slice none 0 0, .slice none 0 0]⟩),
  (12, ⟨.int .u64, 1, 8, .int .u64 0⟩),
  (19, ⟨.struct [(17, 0)], 1, 8, .agg #[.pointer none]⟩),
  (38, ⟨.func, 1, 8, .nilFunc⟩),
  (32, ⟨.func, 1, 8, .nilFunc⟩),
  (35, ⟨.func, 1, 8, .nilFunc⟩),
  (98, ⟨.func, 1, 8, .nilFunc⟩),
  (17, ⟨.ptr 204, 1, 8, .pointer none⟩),
  (170, ⟨.struct [(9, 0), (9, 1), (136, 2)], 3, 48, .agg #[.string .empty, .string .empty, .nilIface]⟩),
  (40, ⟨.func, 1, 8, .nilFunc⟩),
  (53, ⟨.struct [(9, 0), (3, 1)], 2, 24, .agg #[.string .empty, .int .i64 0]⟩),
  (61, ⟨.func, 1, 8, .nilFunc⟩),
  (90, ⟨.arr 2 41, 2, 48, .agg #[.slice none 0 0, .slice none 0 0]⟩),
  (46, ⟨.func, 1, 8, .nilFunc⟩),
  (172, ⟨.arr 24 5, 24, 24, .agg #[.int .u8 0, .int .u8 0, .int .u8 0, .int .u8 0, .int .u8 0, .int .u8 0, .int .u8 0, .int .u8 0, .int .u8 0, .int .u8 0, .int .u8 0, .int .u8 0, .int .u8 0, .int .u8 0, .int .u8 0, .int .u8 0, .int .u8 0, .int .u8 0, .int .u8 0, .int .u8 0, .int .u8 0, .int .u8 0, .int .u8 0, .int .u8 0]⟩),
  (14, ⟨.struct [(9, 0), (12, 1)], 2, 24, .agg #[.string .empty, .int .u64 0]⟩),
  (158, ⟨.ptr 170, 1, 8, .pointer none⟩),
  (43, ⟨.func, 1, 8, .nilFunc⟩),
  (58, ⟨.slice 57, 1, 24, .slice none 0 0⟩),
  (65, ⟨.func, 1, 8, .nilFunc⟩),
  (69, ⟨.slice 63, 1, 24, .slice none 0 0⟩),
  (70, ⟨.func, 1, 8, .nilFunc⟩),
  (116, ⟨.func, 1, 8, .nilFunc⟩),
  (122, ⟨.slice 125, 1, 24, .slice none 0 0⟩),
  (184, ⟨.arr 20 164, 20, 160, .agg #[.int .u64 0, .int .u64 0, .int .u64 0, .int .u64 0, .int .u64 0, .int .u64 0, .int .u64 0, .int .u64 0, .int .u64 0, .int .u64 0, .int .u64 0, .int .u64 0, .int .u64 0, .int .u64 0, .int .u64 0, .int .u64 0, .int .u64 0, .int .u64 0, .int .u64 0, .int .u64 0]⟩),
  (189, ⟨.arr 32 5, 32, 32, .agg #[.int .u8 0, .int .u8 0, .int .u8 0, .int .u8 0, .int .u8 0, .int .u8 0, .int .u8 0, .int .u8 0, .int .u8 0, .int .u8 0, .int .u8 0, .int .u8 0, .int .u8 0, .int .u8 0, .int .u8 0, .int .u8 0, .int .u8 0, .int .u8 0, .int .u8 0, .int .u8 0, .int .u8 0, .int .u8 0, .int .u8 0, .int .u8 0, .int .u8 0, .int .u8 0, .int .u8 0, .int .u8 0, .int .u8 0, .int .u8 0, .int .u8 0, .int .u8 0]⟩),
  (22, ⟨.struct [(3, 0), (3, 1), (3, 2), (3, 3)], 4, 32, .agg #[.int .i64 0, .int .i64 0, .int .i64 0, .int .i64 0]⟩),
  (30, ⟨.func, 1, 8, .nilFunc⟩),
  (128, ⟨.func, 1, 8, .nilFunc⟩),
  (181, ⟨.struct [(9, 0)], 1, 16, .agg #[.string .empty]⟩),
  (84, ⟨.func, 1, 8, .nilFunc⟩),
  (97, ⟨.func, 1, 8, .nilFunc⟩),
  (113, ⟨.func, 1, 8, .nilFunc⟩),
  (121, ⟨.func, 1, 8, .nilFunc⟩),
  (125, ⟨.func, 1, 8, .nilFunc⟩),
  (146, ⟨.func, 1, 8, .nilFunc⟩),
  (178, ⟨.ptr 5, 1, 8, .pointer none⟩),
  (179, ⟨.ptr 181, 1, 8, .pointer none⟩),
  (27, ⟨.func, 1, 8, .nilFunc⟩),
  (36, ⟨.func, 1, 8, .nilFunc⟩),
  (37, ⟨.func, 1, 8, .nilFunc⟩),
  (39, ⟨.func, 1, 8, .nilFunc⟩),
  (42, ⟨.func, 1, 8, .nilFunc⟩),
  (45, ⟨.func, 1, 8, .nilFunc⟩),
  (48, ⟨.func, 1, 8, .nilFunc⟩),
  (49, ⟨.func, 1, 8, .nilFunc⟩),
  (50, ⟨.func, 1, 8, .nilFunc⟩),
  (51, ⟨.func, 1, 8, .nilFunc⟩),
  (52, ⟨.struct [(9, 0), (3, 1)], 2, 24, .agg #[.string .empty, .int .i64 0]⟩),
  (54, ⟨.struct [(9, 0), (9, 1), (53, 2), (3, 4), (9, 5)], 6, 80, .agg #[.string .empty, .string .empty, .string .empty, .int .i64 0, .int .i64 0, .string .empty]⟩),
  (56, ⟨.func, 1, 8, .nilFunc⟩),
  (59, ⟨.func, 1, 8, .nilFunc⟩)
]
theorem tyTab_ok : ∀ e ∈ tyTab, TyOk Tryz.prog e.1 e.2 := by
  unfold tyTab
  refine List.forall_mem_cons.2 ⟨tyOk3, ?_⟩
  refine List.forall_mem_cons.2 ⟨tyOk24, ?_⟩
  refine List.forall_mem_cons.2 ⟨tyOk23, ?_⟩
  refine List.forall_mem_cons.2 ⟨tyOk9, ?_⟩
  refine List.forall_mem_cons.2 ⟨tyOk5, ?_⟩
  refine List.forall_mem_cons.2 ⟨tyOk55, ?_⟩
  refine List.forall_mem_cons.2 ⟨tyOk41, ?_⟩
  refine List.forall_mem_cons.2 ⟨tyOk33, ?_⟩
  refine List.forall_mem_cons.2 ⟨tyOk28, ?_⟩
  refine List.forall_mem_cons.2 ⟨tyOk2, ?_⟩
  refine List.forall_mem_cons.2 ⟨tyOk1, ?_⟩
  refine List.forall_mem_cons.2 ⟨tyOk4, ?_⟩
  refine List.forall_mem_cons.2 ⟨tyOk92, ?_⟩
  refine List.forall_mem_cons.2 ⟨tyOk164, ?_⟩
  refine List.forall_mem_cons.2 ⟨tyOk10, ?_⟩
  refine List.forall_mem_cons.2 ⟨tyOk6, ?_⟩
  refine List.forall_mem_cons.2 ⟨tyOk8, ?_⟩
  refine List.forall_mem_cons.2 ⟨tyOk63, ?_⟩
  refine List.forall_mem_cons.2 ⟨tyOk185, ?_⟩
  refine List.forall_mem_cons.2 ⟨tyOk7, ?_⟩
  refine List.forall_mem_cons.2 ⟨tyOk47, ?_⟩
  refine List.forall_mem_cons.2 ⟨tyOk18, ?_⟩
  refine List.forall_mem_cons.2 ⟨tyOk25, ?_⟩
  refine List.forall_mem_cons.2 ⟨tyOk13, ?_⟩
  refine List.forall_mem_cons.2 ⟨tyOk87, ?_⟩
  refine List.forall_mem_cons.2 ⟨tyOk102, ?_⟩
  refine List.forall_mem_cons.2 ⟨tyOk95, ?_⟩
  refine List.forall_mem_cons.2 ⟨tyOk26, ?_⟩
  refine List.forall_mem_cons.2 ⟨tyOk16, ?_⟩
  refine List.forall_mem_cons.2 ⟨tyOk21, ?_⟩
  refine List.forall_mem_cons.2 ⟨tyOk15, ?_⟩
  refine List.forall_mem_cons.2 ⟨tyOk136, ?_⟩
  refine List.forall_mem_cons.2 ⟨tyOk167, ?_⟩
  refine List.forall_mem_cons.2 ⟨tyOk155, ?_⟩
  refine List.forall_mem_cons.2 ⟨tyOk141, ?_⟩
  refine List.forall_mem_cons.2 ⟨tyOk20, ?_⟩
  refine List.forall_mem_cons.2 ⟨tyOk99, ?_⟩
  refine List.forall_mem_cons.2 ⟨tyOk11, ?_⟩
  refine List.forall_mem_cons.2 ⟨tyOk57, ?_⟩
  refine List.forall_mem_cons.2 ⟨tyOk12, ?_⟩
  refine List.forall_mem_cons.2 ⟨tyOk19, ?_⟩
  refine List.forall_mem_cons.2 ⟨tyOk38, ?_⟩
  refine List.forall_mem_cons.2 ⟨tyOk32, ?_⟩
  refine List.forall_mem_cons.2 ⟨tyOk35, ?_⟩
  refine List.forall_mem_cons.2 ⟨tyOk98, ?_⟩
  refine List.forall_mem_cons.2 ⟨tyOk17, ?_⟩
  refine List.forall_mem_cons.2 ⟨tyOk170, ?_⟩
  refine List.forall_mem_cons.2 ⟨tyOk40, ?_⟩
  refine List.forall_mem_cons.2 ⟨tyOk53, ?_⟩
  refine List.forall_mem_cons.2 ⟨tyOk61, ?_⟩
  refine List.forall_mem_cons.2 ⟨tyOk90, ?_⟩
  refine List.forall_mem_cons.2 ⟨tyOk46, ?_⟩
  refine List.forall_mem_cons.2 ⟨tyOk172, ?_⟩
  refine List.forall_mem_cons.2 ⟨tyOk14, ?_⟩
  refine List.forall_mem_cons.2 ⟨tyOk158, ?_⟩
  refine List.forall_mem_cons.2 ⟨tyOk43, ?_⟩
  refine List.forall_mem_cons.2 ⟨tyOk58, ?_⟩
  refine List.forall_mem_cons.2 ⟨tyOk65, ?_⟩
  refine List.forall_mem_cons.2 ⟨tyOk69, ?_⟩
  refine List.forall_mem_cons.2 ⟨tyOk70, ?_⟩
  refine List.forall_mem_cons.2 ⟨tyOk116, ?_⟩
  refine List.forall_mem_cons.2 ⟨tyOk122, ?_⟩
  refine List.forall_mem_cons.2 ⟨tyOk184, ?_⟩
  refine List.forall_mem_cons.2 ⟨tyOk189, ?_⟩
  refine List.forall_mem_cons.2 ⟨tyOk22, ?_⟩
  refine List.forall_mem_cons.2 ⟨tyOk30, ?_⟩
  refine List.forall_mem_cons.2 ⟨tyOk128, ?_⟩
  refine List.forall_mem_cons.2 ⟨tyOk181, ?_⟩
  refine List.forall_mem_cons.2 ⟨tyOk84, ?_⟩
  refine List.forall_mem_cons.2 ⟨tyOk97, ?_⟩
  refine List.forall_mem_cons.2 ⟨tyOk113, ?_⟩
  refine List.forall_mem_cons.2 ⟨tyOk121, ?_⟩
  refine List.forall_mem_cons.2 ⟨tyOk125, ?_⟩
  refine List.forall_mem_cons.2 ⟨tyOk146, ?_⟩
  refine List.forall_mem_cons.2 ⟨tyOk178, ?_⟩
  refine List.forall_mem_cons.2 ⟨tyOk179, ?_⟩
  refine List.forall_mem_cons.2 ⟨tyOk27, ?_⟩
  refine List.forall_mem_cons.2 ⟨tyOk36, ?_⟩
  refine List.forall_mem_cons.2 ⟨tyOk37, ?_⟩
  refine List.forall_mem_cons.2 ⟨tyOk39, ?_⟩
  refine List.forall_mem_cons.2 ⟨tyOk42, ?_⟩
  refine List.forall_mem_cons.2 ⟨tyOk45, ?_⟩
  refine List.forall_mem_cons.2 ⟨tyOk48, ?_⟩
  refine List.forall_mem_cons.2 ⟨tyOk49, ?_⟩
  refine List.forall_mem_cons.2 ⟨tyOk50, ?_⟩
  refine List.forall_mem_cons.2 ⟨tyOk51, ?_⟩
  refine List.forall_mem_cons.2 ⟨tyOk52, ?_⟩
  refine List.forall_mem_cons.2 ⟨tyOk54, ?_⟩
  refine List.forall_mem_cons.2 ⟨tyOk56, ?_⟩
  refine List.forall_mem_cons.2 ⟨tyOk59, ?_⟩
  intro _ h; cases h
noncomputable def sg : Sig := ⟨Tryz.prog, tyTab, tyTab_ok, by kernel_rfl⟩
end Go.Proofs.YtiglobijdegjdaaGreatDoor
