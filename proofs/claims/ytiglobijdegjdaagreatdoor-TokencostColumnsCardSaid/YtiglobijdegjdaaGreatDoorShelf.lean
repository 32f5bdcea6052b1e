/-
  DERIVED: THE SHELF's CONTRACTS AT THIS DUMP, IN PLAIN WORDS (tools/lay-plain.mjs out of 'TryzShelf.lean', which tools/lay-shelf.mjs wrote): THE SAME DECLARATIONS UNDER THE SAME NAMES: 'import', 'namespace', 'open', 'def', 'theorem' AND NOTHING ELSE: no command of the shelf's: FOR A HAND-IN. Each laying: the table of numbers ('.._ren') and one theorem, a field a fact of the dump's own or the kernel's comparison; each contract: ONE APPLICATION.
-/
import Derived.Shelf.Small.Strs
import Derived.Shelf.Strconv.Atoi
import Derived.Shelf.Strconv.Itoa0
import Derived.Shelf.Strconv.Itoa1
import Derived.Shelf.LaysM
import Derived.Shelf.Strconv.Itoa2
import Derived.Shelf.Strconv.Itoa3
import Derived.Shelf.Strconv.AtoiErrFast
import Derived.Shelf.Strconv.ParseIntEmpty
import Derived.Shelf.Strconv.AtoiFail
import Derived.Shelf.Strconv.Clone
import Derived.Shelf.Strconv.SyntaxError
import Derived.Shelf.LaysC
import Derived.Shelf.Strconv.ToError
import Derived.Shelf.Strconv.AtoiErr
import Derived.Shelf.Strconv.ErrVar
import Derived.Shelf.Strconv.Lower
import Derived.Shelf.Strconv.ParseUint10
import Derived.Shelf.Strconv.ParseUint10Empty
import Derived.Shelf.Strconv.ParseUint10Any
import Derived.Shelf.Strconv.ParseInt10
import Derived.Shelf.Strconv.AtoiLong
import Derived.Shelf.Strconv.AtoiInnerAll
import Derived.Shelf.Strconv.RangeError
import Derived.Shelf.Strconv.ToErrorRange
import Derived.Shelf.Strconv.AtoiAll
import Derived.Shelf.Strconv.ErrVarAll
import Derived.Shelf.Strings.Search1
import Derived.Test.YtiglobijdegjdaaGreatDoorProg
namespace Go.Proofs
open Go.Shelf
def Tryz.lays137_ren : Go.Shelf.Ren := ⟨fun | 137 => 134 | 217 => 148 | 266 => 157 | n => n, fun | 9 => 9 | 5 => 5 | 3 => 3 | n => n, fun | n => n⟩
theorem Tryz.lays137 : Go.Proofs.Lays.n137 Tryz.prog Tryz.lays137_ren := {
  mixed := by kernel_rfl
  f137 := Tryz.func134.trans (congrArg some (by kernel_rfl))
  f217 := Tryz.func148.trans (congrArg some (by kernel_rfl))
  f266 := Tryz.func157.trans (congrArg some (by kernel_rfl))
  t3 := Tryz.underlying3
  a3 := Tryz.isAgg3
  z3 := Tryz.sizeOf3
  v3 := Tryz.zeroValue3
  t5 := Tryz.underlying5
  a5 := Tryz.isAgg5
  z5 := Tryz.sizeOf5
  v5 := Tryz.zeroValue5
  t9 := Tryz.underlying9
  a9 := Tryz.isAgg9
  z9 := Tryz.sizeOf9
  v9 := Tryz.zeroValue9 }
open Go.RowKit in
theorem Tryz.strings_IndexByte (s : ByteArray) (c : Int) (w : World) :
    Calls Tryz.prog 134 #[.string s, .int .u8 c] w fun e w' => e = .returned (.int .i64 (Lib.indexByte s.data.toList c.toNat.toUInt8)) ∧ w' = w := Any.strings_IndexByte Tryz.lays137 s c w
def Tryz.lays171_ren : Go.Shelf.Ren := ⟨fun | 171 => 120 | 243 => 138 | 246 => 154 | 283 => 161 | 284 => 162 | 285 => 163 | 286 => 164 | 129 => 169 | 317 => 168 | 318 => 170 | 319 => 171 | 320 => 172 | 337 => 173 | 338 => 174 | n => n, fun | 3 => 3 | 9 => 9 | 2 => 2 | 4 => 4 | 171 => 172 | 0 => 0 | 53 => 164 | 37 => 47 | 5 => 5 | 173 => 175 | 212 => 184 | 51 => 185 | 20 => 20 | 213 => 186 | 46 => 167 | 232 => 189 | 233 => 190 | n => n, fun | 17 => 3 | 18 => 4 | 19 => 5 | n => n⟩
theorem Tryz.lays171 : Go.Proofs.Lays.n171 Tryz.prog Tryz.lays171_ren := {
  mixed := by kernel_rfl
  f129 := Tryz.func169.trans (congrArg some (by kernel_rfl))
  f171 := Tryz.func120.trans (congrArg some (by kernel_rfl))
  f243 := Tryz.func138.trans (congrArg some (by kernel_rfl))
  f246 := Tryz.func154.trans (congrArg some (by kernel_rfl))
  f283 := Tryz.func161.trans (congrArg some (by kernel_rfl))
  f284 := Tryz.func162.trans (congrArg some (by kernel_rfl))
  f285 := Tryz.func163.trans (congrArg some (by kernel_rfl))
  f286 := Tryz.func164.trans (congrArg some (by kernel_rfl))
  f317 := Tryz.func168.trans (congrArg some (by kernel_rfl))
  f318 := Tryz.func170.trans (congrArg some (by kernel_rfl))
  f319 := Tryz.func171.trans (congrArg some (by kernel_rfl))
  f320 := Tryz.func172.trans (congrArg some (by kernel_rfl))
  f337 := Tryz.func173.trans (congrArg some (by kernel_rfl))
  f338 := Tryz.func174.trans (congrArg some (by kernel_rfl))
  t0 := Tryz.underlying0
  a0 := Tryz.isAgg0
  z0 := Tryz.sizeOf0
  v0 := Tryz.zeroValue0
  t2 := Tryz.underlying2
  a2 := Tryz.isAgg2
  z2 := Tryz.sizeOf2
  v2 := Tryz.zeroValue2
  t3 := Tryz.underlying3
  a3 := Tryz.isAgg3
  z3 := Tryz.sizeOf3
  v3 := Tryz.zeroValue3
  t4 := Tryz.underlying4
  a4 := Tryz.isAgg4
  z4 := Tryz.sizeOf4
  v4 := Tryz.zeroValue4
  t5 := Tryz.underlying5
  a5 := Tryz.isAgg5
  z5 := Tryz.sizeOf5
  v5 := Tryz.zeroValue5
  t9 := Tryz.underlying9
  a9 := Tryz.isAgg9
  z9 := Tryz.sizeOf9
  v9 := Tryz.zeroValue9
  t20 := Tryz.underlying20
  a20 := Tryz.isAgg20
  z20 := Tryz.sizeOf20
  v20 := Tryz.zeroValue20
  t37 := Tryz.underlying47
  a37 := Tryz.isAgg47
  z37 := Tryz.sizeOf47
  v37 := Tryz.zeroValue47
  t46 := Tryz.underlying167
  a46 := Tryz.isAgg167
  z46 := Tryz.sizeOf167
  v46 := Tryz.zeroValue167
  t51 := Tryz.underlying185
  a51 := Tryz.isAgg185
  z51 := Tryz.sizeOf185
  v51 := Tryz.zeroValue185
  t53 := Tryz.underlying164
  a53 := Tryz.isAgg164
  z53 := Tryz.sizeOf164
  v53 := Tryz.zeroValue164
  t171 := Tryz.underlying172
  a171 := Tryz.isAgg172
  z171 := Tryz.sizeOf172
  v171 := Tryz.zeroValue172
  t173 := Tryz.underlying175
  a173 := Tryz.isAgg175
  z173 := Tryz.sizeOf175
  v173 := Tryz.zeroValue175
  t212 := Tryz.underlying184
  a212 := Tryz.isAgg184
  z212 := Tryz.sizeOf184
  v212 := Tryz.zeroValue184
  t213 := Tryz.underlying186
  a213 := Tryz.isAgg186
  z213 := Tryz.sizeOf186
  t232 := Tryz.underlying189
  a232 := Tryz.isAgg189
  z232 := Tryz.sizeOf189
  v232 := Tryz.zeroValue189
  t233 := Tryz.underlying190
  a233 := Tryz.isAgg190
  z233 := Tryz.sizeOf190
  v233 := Tryz.zeroValue190
  g17 := by kernel_rfl
  g18 := by kernel_rfl
  g19 := by kernel_rfl }
open Go.RowKit Go.Sort Go.Lib in
theorem Tryz.strconv_Itoa_small (i : Nat) (hi : i < 100) (w : World) :
    Calls Tryz.prog 120 #[.int .i64 i] w fun e w' => e = .returned (.string ⟨(Lib.decDigits i).toArray⟩) ∧ w' = w := Any.strconv_Itoa_small Tryz.lays171 i hi w
def Tryz.laysC172_ren : Go.Shelf.Ren := ⟨fun | 172 => 119 | 244 => 136 | 245 => 137 | 247 => 149 | 279 => 150 | 280 => 151 | 281 => 152 | 282 => 153 | 287 => 158 | 316 => 159 | 171 => 120 | 205 => 160 | 321 => 166 | 322 => 167 | 243 => 138 | 246 => 154 | 283 => 161 | 284 => 162 | 285 => 163 | 286 => 164 | 129 => 169 | 317 => 168 | 318 => 170 | 319 => 171 | 320 => 172 | 337 => 173 | 338 => 174 | n => n, fun | 9 => 9 | 3 => 3 | 75 => 136 | 76 => 137 | 4 => 4 | 5 => 5 | 167 => 155 | 37 => 47 | 0 => 0 | 85 => 156 | 2 => 2 | 168 => 158 | 53 => 164 | 175 => 165 | 46 => 167 | 210 => 170 | 127 => 178 | 145 => 181 | 143 => 179 | 21 => 21 | 171 => 172 | 173 => 175 | 212 => 184 | 51 => 185 | 20 => 20 | 213 => 186 | 232 => 189 | 233 => 190 | 80 => 191 | n => n, fun | 15 => 0 | 16 => 1 | 17 => 3 | 18 => 4 | 19 => 5 | n => n⟩
theorem Tryz.laysC172 : Go.Proofs.LaysC.n172 Tryz.prog Tryz.laysC172_ren := {
  mixed := by kernel_rfl
  f129 := Tryz.func169.trans (congrArg some (by kernel_rfl))
  f171 := Tryz.func120.trans (congrArg some (by kernel_rfl))
  f172 := Tryz.func119.trans (congrArg some (by kernel_rfl))
  f205 := Tryz.func160.trans (congrArg some (by kernel_rfl))
  f243 := Tryz.func138.trans (congrArg some (by kernel_rfl))
  f244 := Tryz.func136.trans (congrArg some (by kernel_rfl))
  f245 := Tryz.func137.trans (congrArg some (by kernel_rfl))
  f246 := Tryz.func154.trans (congrArg some (by kernel_rfl))
  f247 := Tryz.func149.trans (congrArg some (by kernel_rfl))
  f279 := Tryz.func150.trans (congrArg some (by kernel_rfl))
  f280 := Tryz.func151.trans (congrArg some (by kernel_rfl))
  f281 := Tryz.func152.trans (congrArg some (by kernel_rfl))
  f282 := Tryz.func153.trans (congrArg some (by kernel_rfl))
  f283 := Tryz.func161.trans (congrArg some (by kernel_rfl))
  f284 := Tryz.func162.trans (congrArg some (by kernel_rfl))
  f285 := Tryz.func163.trans (congrArg some (by kernel_rfl))
  f286 := Tryz.func164.trans (congrArg some (by kernel_rfl))
  f287 := Tryz.func158.trans (congrArg some (by kernel_rfl))
  f316 := Tryz.func159.trans (congrArg some (by kernel_rfl))
  f317 := Tryz.func168.trans (congrArg some (by kernel_rfl))
  f318 := Tryz.func170.trans (congrArg some (by kernel_rfl))
  f319 := Tryz.func171.trans (congrArg some (by kernel_rfl))
  f320 := Tryz.func172.trans (congrArg some (by kernel_rfl))
  f321 := Tryz.func166.trans (congrArg some (by kernel_rfl))
  f322 := Tryz.func167.trans (congrArg some (by kernel_rfl))
  f337 := Tryz.func173.trans (congrArg some (by kernel_rfl))
  f338 := Tryz.func174.trans (congrArg some (by kernel_rfl))
  t0 := Tryz.underlying0
  a0 := Tryz.isAgg0
  z0 := Tryz.sizeOf0
  v0 := Tryz.zeroValue0
  t2 := Tryz.underlying2
  a2 := Tryz.isAgg2
  z2 := Tryz.sizeOf2
  v2 := Tryz.zeroValue2
  t3 := Tryz.underlying3
  a3 := Tryz.isAgg3
  z3 := Tryz.sizeOf3
  v3 := Tryz.zeroValue3
  t4 := Tryz.underlying4
  a4 := Tryz.isAgg4
  z4 := Tryz.sizeOf4
  v4 := Tryz.zeroValue4
  t5 := Tryz.underlying5
  a5 := Tryz.isAgg5
  z5 := Tryz.sizeOf5
  v5 := Tryz.zeroValue5
  t9 := Tryz.underlying9
  a9 := Tryz.isAgg9
  z9 := Tryz.sizeOf9
  v9 := Tryz.zeroValue9
  t20 := Tryz.underlying20
  a20 := Tryz.isAgg20
  z20 := Tryz.sizeOf20
  v20 := Tryz.zeroValue20
  t21 := Tryz.underlying21
  a21 := Tryz.isAgg21
  z21 := Tryz.sizeOf21
  v21 := Tryz.zeroValue21
  t37 := Tryz.underlying47
  a37 := Tryz.isAgg47
  z37 := Tryz.sizeOf47
  v37 := Tryz.zeroValue47
  t46 := Tryz.underlying167
  a46 := Tryz.isAgg167
  z46 := Tryz.sizeOf167
  v46 := Tryz.zeroValue167
  t51 := Tryz.underlying185
  a51 := Tryz.isAgg185
  z51 := Tryz.sizeOf185
  v51 := Tryz.zeroValue185
  t53 := Tryz.underlying164
  a53 := Tryz.isAgg164
  z53 := Tryz.sizeOf164
  v53 := Tryz.zeroValue164
  t75 := Tryz.underlying136
  a75 := Tryz.isAgg136
  z75 := Tryz.sizeOf136
  v75 := Tryz.zeroValue136
  t76 := Tryz.underlying137
  a76 := Tryz.isAgg137
  z76 := Tryz.sizeOf137
  v76 := Tryz.zeroValue137
  t85 := Tryz.underlying156
  a85 := Tryz.isAgg156
  z85 := Tryz.sizeOf156
  v85 := Tryz.zeroValue156
  t127 := Tryz.underlying178
  a127 := Tryz.isAgg178
  z127 := Tryz.sizeOf178
  v127 := Tryz.zeroValue178
  t143 := Tryz.underlying179
  a143 := Tryz.isAgg179
  z143 := Tryz.sizeOf179
  v143 := Tryz.zeroValue179
  t145 := Tryz.underlying181
  a145 := Tryz.isAgg181
  z145 := Tryz.sizeOf181
  v145 := Tryz.zeroValue181
  t167 := Tryz.underlying155
  a167 := Tryz.isAgg155
  z167 := Tryz.sizeOf155
  v167 := Tryz.zeroValue155
  t168 := Tryz.underlying158
  a168 := Tryz.isAgg158
  z168 := Tryz.sizeOf158
  v168 := Tryz.zeroValue158
  t171 := Tryz.underlying172
  a171 := Tryz.isAgg172
  z171 := Tryz.sizeOf172
  v171 := Tryz.zeroValue172
  t173 := Tryz.underlying175
  a173 := Tryz.isAgg175
  z173 := Tryz.sizeOf175
  v173 := Tryz.zeroValue175
  t175 := Tryz.underlying165
  a175 := Tryz.isAgg165
  z175 := Tryz.sizeOf165
  v175 := Tryz.zeroValue165
  t210 := Tryz.underlying170
  a210 := Tryz.isAgg170
  z210 := Tryz.sizeOf170
  v210 := Tryz.zeroValue170
  t212 := Tryz.underlying184
  a212 := Tryz.isAgg184
  z212 := Tryz.sizeOf184
  v212 := Tryz.zeroValue184
  t213 := Tryz.underlying186
  a213 := Tryz.isAgg186
  z213 := Tryz.sizeOf186
  t232 := Tryz.underlying189
  a232 := Tryz.isAgg189
  z232 := Tryz.sizeOf189
  v232 := Tryz.zeroValue189
  t233 := Tryz.underlying190
  a233 := Tryz.isAgg190
  z233 := Tryz.sizeOf190
  v233 := Tryz.zeroValue190
  g15 := by kernel_rfl
  g16 := by kernel_rfl
  g17 := by kernel_rfl
  g18 := by kernel_rfl
  g19 := by kernel_rfl
  t80 := Tryz.underlying191
  a80 := Tryz.isAgg191
  z80 := Tryz.sizeOf191
  v80 := Tryz.zeroValue191
  i0 := by kernel_rfl
  i2 := by kernel_rfl
  i3 := by kernel_rfl
  i4 := by kernel_rfl
  i5 := by kernel_rfl
  i9 := by kernel_rfl
  i20 := by kernel_rfl
  i21 := by kernel_rfl
  i37 := by kernel_rfl
  i46 := by kernel_rfl
  i51 := by kernel_rfl
  i53 := by kernel_rfl
  i75 := by kernel_rfl
  i76 := by kernel_rfl
  i80 := by kernel_rfl
  i85 := by kernel_rfl
  i127 := by kernel_rfl
  i143 := by kernel_rfl
  i145 := by kernel_rfl
  i167 := by kernel_rfl
  i168 := by kernel_rfl
  i171 := by kernel_rfl
  i173 := by kernel_rfl
  i175 := by kernel_rfl
  i210 := by kernel_rfl
  i212 := by kernel_rfl
  i232 := by kernel_rfl
  i233 := by kernel_rfl
  m15 := by kernel_rfl
  m16 := by kernel_rfl
  m17 := by kernel_rfl
  m18 := by kernel_rfl
  m19 := by kernel_rfl
  c0 := by kernel_rfl
  c2 := by kernel_rfl
  c3 := by kernel_rfl
  c4 := by kernel_rfl
  c5 := by kernel_rfl
  c9 := by kernel_rfl
  c20 := by kernel_rfl
  c21 := by kernel_rfl
  c37 := by kernel_rfl
  c46 := by kernel_rfl
  c51 := by kernel_rfl
  c53 := by kernel_rfl
  c75 := by kernel_rfl
  c76 := by kernel_rfl
  c80 := by kernel_rfl
  c85 := by kernel_rfl
  c127 := by kernel_rfl
  c143 := by kernel_rfl
  c145 := by kernel_rfl
  c167 := by kernel_rfl
  c168 := by kernel_rfl
  c171 := by kernel_rfl
  c173 := by kernel_rfl
  c175 := by kernel_rfl
  c210 := by kernel_rfl
  c212 := by kernel_rfl
  c213 := by kernel_rfl
  c232 := by kernel_rfl
  c233 := by kernel_rfl }
open Go.RowKit in
theorem Tryz.strconv_Atoi_ok (s : ByteArray) (hmax : s.size ≤ 9223372036854775806) (v : Int) (h : Lib.atoiAll s.data.toList = .ok v) (w : World) :
    Calls Tryz.prog 119 #[.string s] w fun e w' => e = .returned (.tuple #[.int .i64 v, .nilIface]) ∧ (w' = w ∨ ∃ t, w' = Lib.bytesWorld w 5 t) := Any.strconv_Atoi_ok Tryz.laysC172 s hmax v h w
open Go.RowKit in
theorem Tryz.strconv_Atoi_syntax_var (s : ByteArray) (hlim : s.size ≤ 281474976710656) (h : Lib.atoiAll s.data.toList = Lib.atoiAll []) (tp : TypeId) (p : Value) (w : World) (hvar : w.var? Tryz.prog "strconv.ErrSyntax" = some #[.iface tp p]) :
    Calls Tryz.prog 119 #[.string s] w fun e w' => ∃ N, e = .returned (.tuple #[.int .i64 0, .iface 158 (.pointer (some ⟨N, 0, none⟩))]) ∧ w.heap.size ≤ N ∧ w'.heap[N]? = some (.cells #[.string ⟨#[65, 116, 111, 105]⟩, .string s, .iface tp p] 170 (0, 0)) ∧ Below w.heap.size w w' := Any.strconv_Atoi_syntax_var Tryz.laysC172 s hlim h tp p w hvar
open Go.RowKit in
theorem Tryz.strconv_Atoi_range_var (s : ByteArray) (hlim : s.size ≤ 281474976710656) (h : Lib.atoiAll s.data.toList = .range) (tp : TypeId) (p : Value) (w : World) (hvar : w.var? Tryz.prog "strconv.ErrRange" = some #[.iface tp p]) :
    Calls Tryz.prog 119 #[.string s] w fun e w' => ∃ N, e = .returned (.tuple #[.int .i64 (Lib.atoiSat s.data.toList), .iface 158 (.pointer (some ⟨N, 0, none⟩))]) ∧ w.heap.size ≤ N ∧ w'.heap[N]? = some (.cells #[.string ⟨#[65, 116, 111, 105]⟩, .string s, .iface tp p] 170 (0, 0)) ∧ Below w.heap.size w w' := Any.strconv_Atoi_range_var Tryz.laysC172 s hlim h tp p w hvar
end Go.Proofs
