/-
  Texts joined: DvShelf.
-/
import Derived.Shelf.SlIter.Nil
import Derived.Ground.GgzProg
import Derived.Shelf.Strings.Builder1
import Derived.Shelf.Strings.Builder2
import Derived.Shelf.Small.Bits
import Derived.Shelf.Small.Wraps
import Derived.Shelf.Strings.BuilderF
import Derived.Shelf.Strings.BuilderK
import Derived.Shelf.Strings.Builder2Cap
import Derived.Shelf.Strconv.Atoi
import Derived.Shelf.Strconv.Itoa0
import Derived.Shelf.Strconv.Itoa1
import Derived.Shelf.LaysM
import Derived.Shelf.Strconv.Itoa2
import Derived.Shelf.Strconv.Itoa3
import Derived.Shelf.Strconv.AtoiErrFast
import Derived.Shelf.Strconv.ParseIntEmpty
import Derived.Shelf.Strconv.AtoiFail
import Derived.Shelf.Strconv.Clone
import Derived.Shelf.Strconv.SyntaxError
import Derived.Shelf.LaysC
import Derived.Shelf.Strconv.ToError
import Derived.Shelf.Strconv.AtoiErr
import Derived.Shelf.Strconv.ErrVar
import Derived.Shelf.Strconv.Lower
import Derived.Shelf.Strconv.ParseUint10
import Derived.Shelf.Strconv.ParseUint10Empty
import Derived.Shelf.Strconv.ParseUint10Any
import Derived.Shelf.Strconv.ParseInt10
import Derived.Shelf.Strconv.AtoiLong
import Derived.Shelf.Strconv.AtoiInnerAll
import Derived.Shelf.Strconv.RangeError
import Derived.Shelf.Strconv.ToErrorRange
import Derived.Shelf.Strconv.AtoiAll
import Derived.Shelf.Strconv.ErrVarAll
import Derived.Shelf.Strconv.ParseUintEmpty
import Derived.Shelf.Strconv.ParseUint10b64
import Derived.Shelf.Strconv.ParseUint10b32
import Derived.Shelf.Strconv.ParseUint10b16
import Derived.Shelf.Strconv.ParseUint10b8
import Derived.Shelf.Strconv.ParseUint10At
import Derived.Shelf.Strconv.ParseInt10At64
import Derived.Shelf.Strconv.ParseInt10At32
import Derived.Shelf.Strconv.ParseInt10At16
import Derived.Shelf.Strconv.ParseInt10At8
import Derived.Shelf.Strconv.ParseInt10All
import Derived.Shelf.Sort.Plain
import Derived.Shelf.Strings.Prefix
import Derived.Shelf.Bits.Mul64
import Derived.Shelf.Strings.Repeat
import Derived.Shelf.Strings.BuilderCap
import Derived.Shelf.Slices.In.SortNone
import Derived.Test.YtceanciekadkeaaGreatDoorProg
/- library contracts laid at this program (written by the kit's own command, in its plain mode; shortened by shelf.py) -/
namespace Go.Proofs
open Go.Shelf
def Tryz.lays103_ren : Go.Shelf.Ren := ⟨fun | 103 => 71 | 210 => 87 | 206 => 93 | n => n, fun | 9 => 9 | 4 => 4 | 24 => 118 | 3 => 3 | n => n, fun | n => n⟩
theorem Tryz.lays103 : Go.Proofs.Lays.n103 Tryz.prog Tryz.lays103_ren := {
  mixed := by kernel_rfl
  f103 := Tryz.func71.trans (congrArg some (by kernel_rfl))
  f206 := Tryz.func93.trans (congrArg some (by kernel_rfl))
  f210 := Tryz.func87.trans (congrArg some (by kernel_rfl))
  t3 := Tryz.underlying3
  a3 := Tryz.isAgg3
  z3 := Tryz.sizeOf3
  v3 := Tryz.zeroValue3
  t4 := Tryz.underlying4
  a4 := Tryz.isAgg4
  z4 := Tryz.sizeOf4
  v4 := Tryz.zeroValue4
  t9 := Tryz.underlying9
  a9 := Tryz.isAgg9
  z9 := Tryz.sizeOf9
  v9 := Tryz.zeroValue9
  t24 := Tryz.underlying118
  a24 := Tryz.isAgg118
  z24 := Tryz.sizeOf118
  v24 := Tryz.zeroValue118 }
open Go.RowKit in
theorem Tryz.strings_CutPrefix (s p : ByteArray) (w : World) :
    Calls Tryz.prog 71 #[.string s, .string p] w fun e w' => e = .returned (.tuple #[.string ⟨(Lib.trimPrefix s.data.toList p.data.toList).toArray⟩, .bool (Lib.hasPrefix s.data.toList p.data.toList)]) ∧ w' = w := Any.strings_CutPrefix Tryz.lays103 s p w
def Tryz.laysM171_ren : Go.Shelf.Ren := ⟨fun | 171 => 57 | 243 => 73 | 246 => 90 | 283 => 106 | 284 => 107 | 285 => 108 | 286 => 109 | 129 => 96 | 317 => 125 | 318 => 126 | 319 => 127 | 320 => 128 | 337 => 137 | 338 => 138 | n => n, fun | 3 => 3 | 9 => 9 | 2 => 2 | 4 => 4 | 171 => 155 | 0 => 0 | 53 => 109 | 37 => 30 | 5 => 5 | 173 => 157 | 212 => 179 | 51 => 106 | 20 => 20 | 213 => 180 | 46 => 37 | 232 => 195 | 233 => 196 | n => n, fun | 17 => 2 | 18 => 4 | 19 => 5 | n => n⟩
theorem Tryz.laysM171 : Go.Proofs.LaysM.n171 Tryz.prog Tryz.laysM171_ren := {
  mixed := by kernel_rfl
  f129 := Tryz.func96.trans (congrArg some (by kernel_rfl))
  f171 := Tryz.func57.trans (congrArg some (by kernel_rfl))
  f243 := Tryz.func73.trans (congrArg some (by kernel_rfl))
  f246 := Tryz.func90.trans (congrArg some (by kernel_rfl))
  f283 := Tryz.func106.trans (congrArg some (by kernel_rfl))
  f284 := Tryz.func107.trans (congrArg some (by kernel_rfl))
  f285 := Tryz.func108.trans (congrArg some (by kernel_rfl))
  f286 := Tryz.func109.trans (congrArg some (by kernel_rfl))
  f317 := Tryz.func125.trans (congrArg some (by kernel_rfl))
  f318 := Tryz.func126.trans (congrArg some (by kernel_rfl))
  f319 := Tryz.func127.trans (congrArg some (by kernel_rfl))
  f320 := Tryz.func128.trans (congrArg some (by kernel_rfl))
  f337 := Tryz.func137.trans (congrArg some (by kernel_rfl))
  f338 := Tryz.func138.trans (congrArg some (by kernel_rfl))
  t0 := Tryz.underlying0
  a0 := Tryz.isAgg0
  z0 := Tryz.sizeOf0
  v0 := Tryz.zeroValue0
  t2 := Tryz.underlying2
  a2 := Tryz.isAgg2
  z2 := Tryz.sizeOf2
  v2 := Tryz.zeroValue2
  t3 := Tryz.underlying3
  a3 := Tryz.isAgg3
  z3 := Tryz.sizeOf3
  v3 := Tryz.zeroValue3
  t4 := Tryz.underlying4
  a4 := Tryz.isAgg4
  z4 := Tryz.sizeOf4
  v4 := Tryz.zeroValue4
  t5 := Tryz.underlying5
  a5 := Tryz.isAgg5
  z5 := Tryz.sizeOf5
  v5 := Tryz.zeroValue5
  t9 := Tryz.underlying9
  a9 := Tryz.isAgg9
  z9 := Tryz.sizeOf9
  v9 := Tryz.zeroValue9
  t20 := Tryz.underlying20
  a20 := Tryz.isAgg20
  z20 := Tryz.sizeOf20
  v20 := Tryz.zeroValue20
  t37 := Tryz.underlying30
  a37 := Tryz.isAgg30
  z37 := Tryz.sizeOf30
  v37 := Tryz.zeroValue30
  t46 := Tryz.underlying37
  a46 := Tryz.isAgg37
  z46 := Tryz.sizeOf37
  v46 := Tryz.zeroValue37
  t51 := Tryz.underlying106
  a51 := Tryz.isAgg106
  z51 := Tryz.sizeOf106
  v51 := Tryz.zeroValue106
  t53 := Tryz.underlying109
  a53 := Tryz.isAgg109
  z53 := Tryz.sizeOf109
  v53 := Tryz.zeroValue109
  t171 := Tryz.underlying155
  a171 := Tryz.isAgg155
  z171 := Tryz.sizeOf155
  v171 := Tryz.zeroValue155
  t173 := Tryz.underlying157
  a173 := Tryz.isAgg157
  z173 := Tryz.sizeOf157
  v173 := Tryz.zeroValue157
  t212 := Tryz.underlying179
  a212 := Tryz.isAgg179
  z212 := Tryz.sizeOf179
  v212 := Tryz.zeroValue179
  t213 := Tryz.underlying180
  a213 := Tryz.isAgg180
  z213 := Tryz.sizeOf180
  t232 := Tryz.underlying195
  a232 := Tryz.isAgg195
  z232 := Tryz.sizeOf195
  v232 := Tryz.zeroValue195
  t233 := Tryz.underlying196
  a233 := Tryz.isAgg196
  z233 := Tryz.sizeOf196
  v233 := Tryz.zeroValue196
  g17 := by kernel_rfl
  g18 := by kernel_rfl
  g19 := by kernel_rfl
  i0 := by kernel_rfl
  i2 := by kernel_rfl
  i3 := by kernel_rfl
  i4 := by kernel_rfl
  i5 := by kernel_rfl
  i9 := by kernel_rfl
  i20 := by kernel_rfl
  i37 := by kernel_rfl
  i46 := by kernel_rfl
  i51 := by kernel_rfl
  i53 := by kernel_rfl
  i171 := by kernel_rfl
  i173 := by kernel_rfl
  i212 := by kernel_rfl
  i232 := by kernel_rfl
  i233 := by kernel_rfl
  m17 := by kernel_rfl
  m18 := by kernel_rfl
  m19 := by kernel_rfl }
open Go.RowKit Go.Sort Go.Lib in
theorem Tryz.strconv_Itoa (n : Int) (h0 : -9223372036854775808 ≤ n) (h1 : n ≤ 9223372036854775807) (w : World) (htab : Lib.TabIs Tryz.prog w "internal/strconv.uint64pow10" .u64 Lib.pow10Tab) :
    Calls Tryz.prog 57 #[.int .i64 n] w fun e w' => e = .returned (.string ⟨(Lib.itoa n).toArray⟩) ∧ ∃ k os, w' = grow (w.drewN k) os := Any.strconv_Itoa Tryz.laysM171 n h0 h1 w htab
def Tryz.laysC172_ren : Go.Shelf.Ren := ⟨fun | 172 => 72 | 244 => 88 | 245 => 89 | 247 => 101 | 279 => 102 | 280 => 103 | 281 => 104 | 282 => 105 | 287 => 122 | 316 => 123 | 171 => 57 | 205 => 124 | 321 => 135 | 322 => 136 | 243 => 73 | 246 => 90 | 283 => 106 | 284 => 107 | 285 => 108 | 286 => 109 | 129 => 96 | 317 => 125 | 318 => 126 | 319 => 127 | 320 => 128 | 337 => 137 | 338 => 138 | n => n, fun | 9 => 9 | 3 => 3 | 75 => 121 | 76 => 122 | 4 => 4 | 5 => 5 | 167 => 149 | 37 => 30 | 0 => 0 | 85 => 150 | 2 => 2 | 168 => 152 | 53 => 109 | 175 => 171 | 46 => 37 | 210 => 175 | 127 => 144 | 145 => 191 | 143 => 189 | 21 => 21 | 171 => 155 | 173 => 157 | 212 => 179 | 51 => 106 | 20 => 20 | 213 => 180 | 232 => 195 | 233 => 196 | 80 => 131 | n => n, fun | 15 => 0 | 16 => 1 | 17 => 2 | 18 => 4 | 19 => 5 | n => n⟩
theorem Tryz.laysC172 : Go.Proofs.LaysC.n172 Tryz.prog Tryz.laysC172_ren := {
  mixed := by kernel_rfl
  f129 := Tryz.func96.trans (congrArg some (by kernel_rfl))
  f171 := Tryz.func57.trans (congrArg some (by kernel_rfl))
  f172 := Tryz.func72.trans (congrArg some (by kernel_rfl))
  f205 := Tryz.func124.trans (congrArg some (by kernel_rfl))
  f243 := Tryz.func73.trans (congrArg some (by kernel_rfl))
  f244 := Tryz.func88.trans (congrArg some (by kernel_rfl))
  f245 := Tryz.func89.trans (congrArg some (by kernel_rfl))
  f246 := Tryz.func90.trans (congrArg some (by kernel_rfl))
  f247 := Tryz.func101.trans (congrArg some (by kernel_rfl))
  f279 := Tryz.func102.trans (congrArg some (by kernel_rfl))
  f280 := Tryz.func103.trans (congrArg some (by kernel_rfl))
  f281 := Tryz.func104.trans (congrArg some (by kernel_rfl))
  f282 := Tryz.func105.trans (congrArg some (by kernel_rfl))
  f283 := Tryz.func106.trans (congrArg some (by kernel_rfl))
  f284 := Tryz.func107.trans (congrArg some (by kernel_rfl))
  f285 := Tryz.func108.trans (congrArg some (by kernel_rfl))
  f286 := Tryz.func109.trans (congrArg some (by kernel_rfl))
  f287 := Tryz.func122.trans (congrArg some (by kernel_rfl))
  f316 := Tryz.func123.trans (congrArg some (by kernel_rfl))
  f317 := Tryz.func125.trans (congrArg some (by kernel_rfl))
  f318 := Tryz.func126.trans (congrArg some (by kernel_rfl))
  f319 := Tryz.func127.trans (congrArg some (by kernel_rfl))
  f320 := Tryz.func128.trans (congrArg some (by kernel_rfl))
  f321 := Tryz.func135.trans (congrArg some (by kernel_rfl))
  f322 := Tryz.func136.trans (congrArg some (by kernel_rfl))
  f337 := Tryz.func137.trans (congrArg some (by kernel_rfl))
  f338 := Tryz.func138.trans (congrArg some (by kernel_rfl))
  t0 := Tryz.underlying0
  a0 := Tryz.isAgg0
  z0 := Tryz.sizeOf0
  v0 := Tryz.zeroValue0
  t2 := Tryz.underlying2
  a2 := Tryz.isAgg2
  z2 := Tryz.sizeOf2
  v2 := Tryz.zeroValue2
  t3 := Tryz.underlying3
  a3 := Tryz.isAgg3
  z3 := Tryz.sizeOf3
  v3 := Tryz.zeroValue3
  t4 := Tryz.underlying4
  a4 := Tryz.isAgg4
  z4 := Tryz.sizeOf4
  v4 := Tryz.zeroValue4
  t5 := Tryz.underlying5
  a5 := Tryz.isAgg5
  z5 := Tryz.sizeOf5
  v5 := Tryz.zeroValue5
  t9 := Tryz.underlying9
  a9 := Tryz.isAgg9
  z9 := Tryz.sizeOf9
  v9 := Tryz.zeroValue9
  t20 := Tryz.underlying20
  a20 := Tryz.isAgg20
  z20 := Tryz.sizeOf20
  v20 := Tryz.zeroValue20
  t21 := Tryz.underlying21
  a21 := Tryz.isAgg21
  z21 := Tryz.sizeOf21
  v21 := Tryz.zeroValue21
  t37 := Tryz.underlying30
  a37 := Tryz.isAgg30
  z37 := Tryz.sizeOf30
  v37 := Tryz.zeroValue30
  t46 := Tryz.underlying37
  a46 := Tryz.isAgg37
  z46 := Tryz.sizeOf37
  v46 := Tryz.zeroValue37
  t51 := Tryz.underlying106
  a51 := Tryz.isAgg106
  z51 := Tryz.sizeOf106
  v51 := Tryz.zeroValue106
  t53 := Tryz.underlying109
  a53 := Tryz.isAgg109
  z53 := Tryz.sizeOf109
  v53 := Tryz.zeroValue109
  t75 := Tryz.underlying121
  a75 := Tryz.isAgg121
  z75 := Tryz.sizeOf121
  v75 := Tryz.zeroValue121
  t76 := Tryz.underlying122
  a76 := Tryz.isAgg122
  z76 := Tryz.sizeOf122
  v76 := Tryz.zeroValue122
  t85 := Tryz.underlying150
  a85 := Tryz.isAgg150
  z85 := Tryz.sizeOf150
  v85 := Tryz.zeroValue150
  t127 := Tryz.underlying144
  a127 := Tryz.isAgg144
  z127 := Tryz.sizeOf144
  v127 := Tryz.zeroValue144
  t143 := Tryz.underlying189
  a143 := Tryz.isAgg189
  z143 := Tryz.sizeOf189
  v143 := Tryz.zeroValue189
  t145 := Tryz.underlying191
  a145 := Tryz.isAgg191
  z145 := Tryz.sizeOf191
  v145 := Tryz.zeroValue191
  t167 := Tryz.underlying149
  a167 := Tryz.isAgg149
  z167 := Tryz.sizeOf149
  v167 := Tryz.zeroValue149
  t168 := Tryz.underlying152
  a168 := Tryz.isAgg152
  z168 := Tryz.sizeOf152
  v168 := Tryz.zeroValue152
  t171 := Tryz.underlying155
  a171 := Tryz.isAgg155
  z171 := Tryz.sizeOf155
  v171 := Tryz.zeroValue155
  t173 := Tryz.underlying157
  a173 := Tryz.isAgg157
  z173 := Tryz.sizeOf157
  v173 := Tryz.zeroValue157
  t175 := Tryz.underlying171
  a175 := Tryz.isAgg171
  z175 := Tryz.sizeOf171
  v175 := Tryz.zeroValue171
  t210 := Tryz.underlying175
  a210 := Tryz.isAgg175
  z210 := Tryz.sizeOf175
  v210 := Tryz.zeroValue175
  t212 := Tryz.underlying179
  a212 := Tryz.isAgg179
  z212 := Tryz.sizeOf179
  v212 := Tryz.zeroValue179
  t213 := Tryz.underlying180
  a213 := Tryz.isAgg180
  z213 := Tryz.sizeOf180
  t232 := Tryz.underlying195
  a232 := Tryz.isAgg195
  z232 := Tryz.sizeOf195
  v232 := Tryz.zeroValue195
  t233 := Tryz.underlying196
  a233 := Tryz.isAgg196
  z233 := Tryz.sizeOf196
  v233 := Tryz.zeroValue196
  g15 := by kernel_rfl
  g16 := by kernel_rfl
  g17 := by kernel_rfl
  g18 := by kernel_rfl
  g19 := by kernel_rfl
  t80 := Tryz.underlying131
  a80 := Tryz.isAgg131
  z80 := Tryz.sizeOf131
  v80 := Tryz.zeroValue131
  i0 := by kernel_rfl
  i2 := by kernel_rfl
  i3 := by kernel_rfl
  i4 := by kernel_rfl
  i5 := by kernel_rfl
  i9 := by kernel_rfl
  i20 := by kernel_rfl
  i21 := by kernel_rfl
  i37 := by kernel_rfl
  i46 := by kernel_rfl
  i51 := by kernel_rfl
  i53 := by kernel_rfl
  i75 := by kernel_rfl
  i76 := by kernel_rfl
  i80 := by kernel_rfl
  i85 := by kernel_rfl
  i127 := by kernel_rfl
  i143 := by kernel_rfl
  i145 := by kernel_rfl
  i167 := by kernel_rfl
  i168 := by kernel_rfl
  i171 := by kernel_rfl
  i173 := by kernel_rfl
  i175 := by kernel_rfl
  i210 := by kernel_rfl
  i212 := by kernel_rfl
  i232 := by kernel_rfl
  i233 := by kernel_rfl
  m15 := by kernel_rfl
  m16 := by kernel_rfl
  m17 := by kernel_rfl
  m18 := by kernel_rfl
  m19 := by kernel_rfl
  c0 := by kernel_rfl
  c2 := by kernel_rfl
  c3 := by kernel_rfl
  c4 := by kernel_rfl
  c5 := by kernel_rfl
  c9 := by kernel_rfl
  c20 := by kernel_rfl
  c21 := by kernel_rfl
  c37 := by kernel_rfl
  c46 := by kernel_rfl
  c51 := by kernel_rfl
  c53 := by kernel_rfl
  c75 := by kernel_rfl
  c76 := by kernel_rfl
  c80 := by kernel_rfl
  c85 := by kernel_rfl
  c127 := by kernel_rfl
  c143 := by kernel_rfl
  c145 := by kernel_rfl
  c167 := by kernel_rfl
  c168 := by kernel_rfl
  c171 := by kernel_rfl
  c173 := by kernel_rfl
  c175 := by kernel_rfl
  c210 := by kernel_rfl
  c212 := by kernel_rfl
  c213 := by kernel_rfl
  c232 := by kernel_rfl
  c233 := by kernel_rfl }
open Go.RowKit in
theorem Tryz.strconv_Atoi_ok (s : ByteArray) (hmax : s.size ≤ 9223372036854775806) (v : Int) (h : Lib.atoiAll s.data.toList = .ok v) (w : World) :
    Calls Tryz.prog 72 #[.string s] w fun e w' => e = .returned (.tuple #[.int .i64 v, .nilIface]) ∧ (w' = w ∨ ∃ t, w' = Lib.bytesWorld w 5 t) := Any.strconv_Atoi_ok Tryz.laysC172 s hmax v h w
open Go.RowKit in
theorem Tryz.strconv_Atoi_syntax_var (s : ByteArray) (hlim : s.size ≤ 281474976710656) (hn : ∀ v, Lib.atoiAll s.data.toList ≠ .ok v) (hr : Lib.atoiAll s.data.toList ≠ .range) (tp : TypeId) (p : Value) (w : World) (hvar : w.var? Tryz.prog "strconv.ErrSyntax" = some #[.iface tp p]) :
    Calls Tryz.prog 72 #[.string s] w fun e w' => ∃ N, e = .returned (.tuple #[.int .i64 0, .iface 152 (.pointer (some ⟨N, 0, none⟩))]) ∧ w.heap.size ≤ N ∧ w'.heap[N]? = some (.cells #[.string ⟨#[65, 116, 111, 105]⟩, .string s, .iface tp p] 175 (0, 0)) ∧ Below w.heap.size w w' := by
  cases h : Lib.atoiAll s.data.toList with
  | ok v => exact absurd h (hn v)
  | range => exact absurd h hr
  | _ => exact Any.strconv_Atoi_syntax_var Tryz.laysC172 s hlim h tp p w hvar
open Go.RowKit in
theorem Tryz.strconv_Atoi_range_var (s : ByteArray) (hlim : s.size ≤ 281474976710656) (h : Lib.atoiAll s.data.toList = .range) (tp : TypeId) (p : Value) (w : World) (hvar : w.var? Tryz.prog "strconv.ErrRange" = some #[.iface tp p]) :
    Calls Tryz.prog 72 #[.string s] w fun e w' => ∃ N, e = .returned (.tuple #[.int .i64 (Lib.atoiSat s.data.toList), .iface 152 (.pointer (some ⟨N, 0, none⟩))]) ∧ w.heap.size ≤ N ∧ w'.heap[N]? = some (.cells #[.string ⟨#[65, 116, 111, 105]⟩, .string s, .iface tp p] 175 (0, 0)) ∧ Below w.heap.size w w' := Any.strconv_Atoi_range_var Tryz.laysC172 s hlim h tp p w hvar
def Tryz.lays190_ren : Go.Shelf.Ren := ⟨fun | 190 => 84 | 125 => 99 | 258 => 98 | 128 => 121 | 129 => 96 | 302 => 112 | 303 => 113 | 304 => 114 | 305 => 115 | 306 => 116 | 307 => 117 | 308 => 118 | 309 => 119 | 310 => 120 | 333 => 129 | 329 => 130 | 330 => 131 | 334 => 132 | 335 => 133 | 336 => 134 | 344 => 139 | n => n, fun | 31 => 36 | 9 => 9 | 3 => 3 | 46 => 37 | 0 => 0 | 51 => 106 | 53 => 109 | 4 => 4 | 183 => 164 | 182 => 163 | 131 => 168 | 5 => 5 | 218 => 182 | 222 => 186 | 228 => 192 | 229 => 193 | n => n, fun | n => n⟩
theorem Tryz.lays190 : Go.Proofs.Lays.n190 Tryz.prog Tryz.lays190_ren := {
  mixed := by kernel_rfl
  f125 := Tryz.func99.trans (congrArg some (by kernel_rfl))
  f128 := Tryz.func121.trans (congrArg some (by kernel_rfl))
  f129 := Tryz.func96.trans (congrArg some (by kernel_rfl))
  f190 := Tryz.func84.trans (congrArg some (by kernel_rfl))
  f258 := Tryz.func98.trans (congrArg some (by kernel_rfl))
  f302 := Tryz.func112.trans (congrArg some (by kernel_rfl))
  f303 := Tryz.func113.trans (congrArg some (by kernel_rfl))
  f304 := Tryz.func114.trans (congrArg some (by kernel_rfl))
  f305 := Tryz.func115.trans (congrArg some (by kernel_rfl))
  f306 := Tryz.func116.trans (congrArg some (by kernel_rfl))
  f307 := Tryz.func117.trans (congrArg some (by kernel_rfl))
  f308 := Tryz.func118.trans (congrArg some (by kernel_rfl))
  f309 := Tryz.func119.trans (congrArg some (by kernel_rfl))
  f310 := Tryz.func120.trans (congrArg some (by kernel_rfl))
  f329 := Tryz.func130.trans (congrArg some (by kernel_rfl))
  f330 := Tryz.func131.trans (congrArg some (by kernel_rfl))
  f333 := Tryz.func129.trans (congrArg some (by kernel_rfl))
  f334 := Tryz.func132.trans (congrArg some (by kernel_rfl))
  f335 := Tryz.func133.trans (congrArg some (by kernel_rfl))
  f336 := Tryz.func134.trans (congrArg some (by kernel_rfl))
  f344 := Tryz.func139.trans (congrArg some (by kernel_rfl))
  t0 := Tryz.underlying0
  a0 := Tryz.isAgg0
  z0 := Tryz.sizeOf0
  v0 := Tryz.zeroValue0
  t3 := Tryz.underlying3
  a3 := Tryz.isAgg3
  z3 := Tryz.sizeOf3
  v3 := Tryz.zeroValue3
  t4 := Tryz.underlying4
  a4 := Tryz.isAgg4
  z4 := Tryz.sizeOf4
  v4 := Tryz.zeroValue4
  t5 := Tryz.underlying5
  a5 := Tryz.isAgg5
  z5 := Tryz.sizeOf5
  v5 := Tryz.zeroValue5
  t9 := Tryz.underlying9
  a9 := Tryz.isAgg9
  z9 := Tryz.sizeOf9
  v9 := Tryz.zeroValue9
  t31 := Tryz.underlying36
  a31 := Tryz.isAgg36
  z31 := Tryz.sizeOf36
  v31 := Tryz.zeroValue36
  t46 := Tryz.underlying37
  a46 := Tryz.isAgg37
  z46 := Tryz.sizeOf37
  v46 := Tryz.zeroValue37
  t51 := Tryz.underlying106
  a51 := Tryz.isAgg106
  z51 := Tryz.sizeOf106
  v51 := Tryz.zeroValue106
  t53 := Tryz.underlying109
  a53 := Tryz.isAgg109
  z53 := Tryz.sizeOf109
  v53 := Tryz.zeroValue109
  t131 := Tryz.underlying168
  a131 := Tryz.isAgg168
  z131 := Tryz.sizeOf168
  v131 := Tryz.zeroValue168
  t182 := Tryz.underlying163
  a182 := Tryz.isAgg163
  z182 := Tryz.sizeOf163
  v182 := Tryz.zeroValue163
  t183 := Tryz.underlying164
  a183 := Tryz.isAgg164
  z183 := Tryz.sizeOf164
  v183 := Tryz.zeroValue164
  t218 := Tryz.underlying182
  a218 := Tryz.isAgg182
  z218 := Tryz.sizeOf182
  v218 := Tryz.zeroValue182
  t222 := Tryz.underlying186
  a222 := Tryz.isAgg186
  z222 := Tryz.sizeOf186
  v222 := Tryz.zeroValue186
  t228 := Tryz.underlying192
  a228 := Tryz.isAgg192
  z228 := Tryz.sizeOf192
  v228 := Tryz.zeroValue192
  t229 := Tryz.underlying193
  a229 := Tryz.isAgg193
  z229 := Tryz.sizeOf193
  v229 := Tryz.zeroValue193 }
open Go.Sort Go.RowKit in
theorem Tryz.slices_Sort_string (blk off cap : Nat) (ss : List (List UInt8)) (w : World) (hH : Holds encStr w blk off ss.toArray) (hblk : blk < w.heap.size) (hsz : ss.length < 4611686018427387904) :
    Calls Tryz.prog 84 #[.slice (some ⟨blk, off, none⟩) ss.length cap] w fun e w' =>
      e = .returned (.tuple #[]) ∧ ∃ n os, w' = grow (putRow encStr (Sort.ahead w n) blk off (ss.mergeSort fun x y => decide (x ≤ y)).toArray) os := Any.slices_Sort_string Tryz.lays190 blk off cap ss w hH hblk hsz
def Tryz.lays105_ren : Go.Shelf.Ren := ⟨fun | 105 => 58 | 212 => 74 | 99 => 75 | 165 => 76 | 166 => 77 | 170 => 78 | 169 => 79 | 263 => 91 | 264 => 92 | 206 => 93 | 240 => 94 | 241 => 95 | 276 => 110 | 277 => 111 | n => n, fun | 9 => 9 | 3 => 3 | 4 => 4 | 20 => 20 | 0 => 0 | 46 => 37 | 109 => 124 | 5 => 5 | 72 => 129 | 76 => 122 | 51 => 106 | 146 => 140 | 53 => 109 | 148 => 142 | 70 => 127 | 37 => 30 | 75 => 121 | 127 => 144 | 164 => 159 | 80 => 131 | n => n, fun | n => n⟩
theorem Tryz.lays105 : Go.Proofs.Lays.n105 Tryz.prog Tryz.lays105_ren := {
  mixed := by kernel_rfl
  f99 := Tryz.func75.trans (congrArg some (by kernel_rfl))
  f105 := Tryz.func58.trans (congrArg some (by kernel_rfl))
  f165 := Tryz.func76.trans (congrArg some (by kernel_rfl))
  f166 := Tryz.func77.trans (congrArg some (by kernel_rfl))
  f169 := Tryz.func79.trans (congrArg some (by kernel_rfl))
  f170 := Tryz.func78.trans (congrArg some (by kernel_rfl))
  f206 := Tryz.func93.trans (congrArg some (by kernel_rfl))
  f212 := Tryz.func74.trans (congrArg some (by kernel_rfl))
  f240 := Tryz.func94.trans (congrArg some (by kernel_rfl))
  f241 := Tryz.func95.trans (congrArg some (by kernel_rfl))
  f263 := Tryz.func91.trans (congrArg some (by kernel_rfl))
  f264 := Tryz.func92.trans (congrArg some (by kernel_rfl))
  f276 := Tryz.func110.trans (congrArg some (by kernel_rfl))
  f277 := Tryz.func111.trans (congrArg some (by kernel_rfl))
  t0 := Tryz.underlying0
  a0 := Tryz.isAgg0
  z0 := Tryz.sizeOf0
  v0 := Tryz.zeroValue0
  t3 := Tryz.underlying3
  a3 := Tryz.isAgg3
  z3 := Tryz.sizeOf3
  v3 := Tryz.zeroValue3
  t4 := Tryz.underlying4
  a4 := Tryz.isAgg4
  z4 := Tryz.sizeOf4
  v4 := Tryz.zeroValue4
  t5 := Tryz.underlying5
  a5 := Tryz.isAgg5
  z5 := Tryz.sizeOf5
  v5 := Tryz.zeroValue5
  t9 := Tryz.underlying9
  a9 := Tryz.isAgg9
  z9 := Tryz.sizeOf9
  v9 := Tryz.zeroValue9
  t20 := Tryz.underlying20
  a20 := Tryz.isAgg20
  z20 := Tryz.sizeOf20
  v20 := Tryz.zeroValue20
  t37 := Tryz.underlying30
  a37 := Tryz.isAgg30
  z37 := Tryz.sizeOf30
  v37 := Tryz.zeroValue30
  t46 := Tryz.underlying37
  a46 := Tryz.isAgg37
  z46 := Tryz.sizeOf37
  v46 := Tryz.zeroValue37
  t51 := Tryz.underlying106
  a51 := Tryz.isAgg106
  z51 := Tryz.sizeOf106
  v51 := Tryz.zeroValue106
  t53 := Tryz.underlying109
  a53 := Tryz.isAgg109
  z53 := Tryz.sizeOf109
  v53 := Tryz.zeroValue109
  t70 := Tryz.underlying127
  a70 := Tryz.isAgg127
  z70 := Tryz.sizeOf127
  v70 := Tryz.zeroValue127
  t72 := Tryz.underlying129
  a72 := Tryz.isAgg129
  z72 := Tryz.sizeOf129
  v72 := Tryz.zeroValue129
  t75 := Tryz.underlying121
  a75 := Tryz.isAgg121
  z75 := Tryz.sizeOf121
  v75 := Tryz.zeroValue121
  t76 := Tryz.underlying122
  a76 := Tryz.isAgg122
  z76 := Tryz.sizeOf122
  v76 := Tryz.zeroValue122
  t109 := Tryz.underlying124
  a109 := Tryz.isAgg124
  z109 := Tryz.sizeOf124
  v109 := Tryz.zeroValue124
  t127 := Tryz.underlying144
  a127 := Tryz.isAgg144
  z127 := Tryz.sizeOf144
  v127 := Tryz.zeroValue144
  t146 := Tryz.underlying140
  a146 := Tryz.isAgg140
  z146 := Tryz.sizeOf140
  v146 := Tryz.zeroValue140
  t148 := Tryz.underlying142
  a148 := Tryz.isAgg142
  z148 := Tryz.sizeOf142
  v148 := Tryz.zeroValue142
  t164 := Tryz.underlying159
  a164 := Tryz.isAgg159
  z164 := Tryz.sizeOf159
  v164 := Tryz.zeroValue159 }
theorem Tryz.Builder_Extra_105 : Builder.Extra Tryz.prog Tryz.lays105_ren := {
  sizeBuilder := by kernel_rfl
  liesBuilder := by kernel_rfl
  t5 := Tryz.underlying5
  a5 := Tryz.isAgg5
  z5 := Tryz.sizeOf5
  v5 := Tryz.zeroValue5
  infoByte := by kernel_rfl
  cellsByte := by kernel_rfl
  sizeByte := by kernel_rfl
  neB5 := by decide }
open Go.RowKit Go.Lib in
theorem Tryz.strings_Repeat (s : ByteArray) (c : Nat) (w : World) (hc : c ≤ 9223372036854775807) (hlen : s.size * c ≤ 140737488355328) :
    Calls Tryz.prog 58 #[.string s, .int .i64 c] w fun e w' => e = .returned (.string ⟨(Lib.repeatL s.data.toList c).toArray⟩) ∧ Below w.heap.size w w' := Any.strings_Repeat Tryz.lays105 Tryz.Builder_Extra_105 s c w hc hlen
open Go.RowKit Go.Sort in
theorem Tryz.slices_Sort_string_none (p : Option Addr) (cap : Nat) (w : World) :
    Calls Tryz.prog 84 #[.slice p 0 cap] w fun e w' => e = .returned (.tuple #[]) ∧ w' = w := Any.slices_Sort_string_none Tryz.lays190 p cap w
def Tryz.keys65_ren : Go.Shelf.Ren := ⟨fun | 7 => 65 | 10 => 85 | n => n, fun | 23 => 65 | 26 => 9 | 3 => 82 | 28 => 114 | 0 => 0 | 27 => 113 | 33 => 81 | 4 => 4 | n => n, fun | n => n⟩
theorem Tryz.keys65 : Go.Proofs.SlLaysZ.n7 Tryz.prog Tryz.keys65_ren := {
  mixed := by kernel_rfl
  f7 := ⟨Tryz.f65.name, by decide, Tryz.func65.trans (congrArg some (by kernel_rfl))⟩
  f10 := ⟨Tryz.f85.name, by decide, Tryz.func85.trans (congrArg some (by kernel_rfl))⟩
  t0 := Tryz.underlying0
  a0 := Tryz.isAgg0
  z0 := Tryz.sizeOf0
  v0 := Tryz.zeroValue0
  t4 := Tryz.underlying4
  a4 := Tryz.isAgg4
  z4 := Tryz.sizeOf4
  v4 := Tryz.zeroValue4
  t23 := Tryz.underlying65
  a23 := Tryz.isAgg65
  z23 := Tryz.sizeOf65
  v23 := Tryz.zeroValue65
  t26 := Tryz.underlying9
  a26 := Tryz.isAgg9
  z26 := Tryz.sizeOf9
  v26 := Tryz.zeroValue9
  t27 := Tryz.underlying113
  a27 := Tryz.isAgg113
  z27 := Tryz.sizeOf113
  v27 := Tryz.zeroValue113
  t28 := Tryz.underlying114
  a28 := Tryz.isAgg114
  z28 := Tryz.sizeOf114
  v28 := Tryz.zeroValue114
  t33 := Tryz.underlying81
  a33 := Tryz.isAgg81
  z33 := Tryz.sizeOf81
  v33 := Tryz.zeroValue81 }
def Tryz.sorted64_ren : Go.Shelf.Ren := ⟨fun | 6 => 64 | 8 => 83 | 9 => 84 | 11 => 97 | 13 => 99 | 12 => 98 | 23 => 121 | 24 => 96 | 14 => 112 | 15 => 113 | 16 => 114 | 17 => 115 | 18 => 116 | 19 => 117 | 20 => 118 | 21 => 119 | 22 => 120 | 25 => 129 | 26 => 130 | 27 => 131 | 28 => 132 | 29 => 133 | 30 => 134 | 31 => 139 | n => n, fun | 26 => 9 | 28 => 114 | 24 => 36 | 0 => 0 | 3 => 3 | 37 => 37 | 48 => 106 | 50 => 109 | 4 => 4 | 40 => 164 | 39 => 163 | 45 => 168 | 5 => 5 | 9 => 9 | 51 => 182 | 55 => 186 | 57 => 192 | 58 => 193 | 33 => 81 | n => n, fun | n => n⟩
theorem Tryz.sorted64 : Go.Proofs.SlLaysZ.n6 Tryz.prog Tryz.sorted64_ren := {
  mixed := by kernel_rfl
  f6 := ⟨Tryz.f64.name, by decide, Tryz.func64.trans (congrArg some (by kernel_rfl))⟩
  f8 := ⟨Tryz.f83.name, by decide, Tryz.func83.trans (congrArg some (by kernel_rfl))⟩
  f11 := ⟨Tryz.f97.name, by decide, Tryz.func97.trans (congrArg some (by kernel_rfl))⟩
  t0 := Tryz.underlying0
  a0 := Tryz.isAgg0
  z0 := Tryz.sizeOf0
  v0 := Tryz.zeroValue0
  t24 := Tryz.underlying36
  a24 := Tryz.isAgg36
  z24 := Tryz.sizeOf36
  v24 := Tryz.zeroValue36
  t26 := Tryz.underlying9
  a26 := Tryz.isAgg9
  z26 := Tryz.sizeOf9
  v26 := Tryz.zeroValue9
  t28 := Tryz.underlying114
  a28 := Tryz.isAgg114
  z28 := Tryz.sizeOf114
  v28 := Tryz.zeroValue114
  i26 := by kernel_rfl }
open Go.RowKit Go.Maps Go.Sort Go.Shelf in
theorem Tryz.sorts64 (m : Nat) : AnyZ.SortsIn Tryz.prog Tryz.sorted64_ren Fence.wide m :=
  ⟨fun blk off cap ss W hH hblk hsz => callsIn_wide.2 (Tryz.slices_Sort_string blk off cap ss W hH hblk hsz),
   fun p cap W => callsIn_wide.2 (Tryz.slices_Sort_string_none p cap W)⟩

open Go.RowKit Go.Maps Go.Sort Go.Shelf in
theorem Tryz.maps_Keys_65 (mb : Option Nat) (W : World) : CallsIn Fence.wide 5 Tryz.prog 65 #[.map mb] W fun e w' => e = .returned (.func (.func 85) #[] #[.pointer (some ⟨W.heap.size, 0, none⟩)]) ∧ w' = W.alloc (.cells #[.map mb] 65) :=
  AnyZ.keys_in Tryz.keys65 Fence.wide 5 trivial rfl mb W

open Go.RowKit Go.Maps Go.Sort Go.Shelf in
set_option maxHeartbeats 1000000 in
theorem Tryz.slices_Sorted_keys {H : Type} (g b nn : Nat) (D0 : DataW H) (R : Value → Option (DataW H × List MemPlace)) (w : World) (hg : g < w.heap.size) (hm : w.cell? ⟨g, 0, none⟩ = some (.map (some b))) (hown : w.ownsMap Tryz.prog 9 R b nn D0) (hmax : Maps.size D0 ≤ maxLen) (hbytes : Maps.size D0 * 16 ≤ 140737488355328) :
    Calls Tryz.prog 64 #[.func (.func 85) #[] #[.pointer (some ⟨g, 0, none⟩)]] w fun e w' => ∃ (v : Value) (ss : List (List UInt8)), e = .returned v ∧ ss.Perm (strKeys D0) ∧
      w'.ownsRow w.heap.size 9 1 v ss.length ((ss.mergeSort (fun x y => decide (x ≤ y))).map encStr) ∧ (v = .slice none 0 0 ↔ ss = []) ∧ Below w.heap.size w w' := by
  have hseq : SeqGives Fence.wide 2 Tryz.prog 85 #[.pointer (some ⟨g, 0, none⟩)] encStr (fun ss => ss.Perm (strKeys D0)) (Maps.size D0) w :=
    AnyZ.keys_gives (ρ := Tryz.keys65_ren) { Tryz.keys65 with } Fence.wide _ trivial rfl (by omega) g b nn D0 _ hg hm hown
  exact callsIn_wide.1 (AnyZ.sorted_in Tryz.sorted64 Fence.wide 5 trivial trivial trivial trivial rfl (by omega) (Tryz.sorts64 _) (enters_of Tryz.func84 (by kernel_rfl) rfl) 85 #[.pointer (some ⟨g, 0, none⟩)] trivial (enters_of Tryz.func85 (by kernel_rfl) rfl) _ _ hmax hbytes _ hseq)
theorem Tryz.maps_Keys (mb : Option Nat) (W : World) : Calls Tryz.prog 65 #[.map mb] W fun e w' => e = .returned (.func (.func 85) #[] #[.pointer (some ⟨W.heap.size, 0, none⟩)]) ∧ w' = W.alloc (.cells #[.map mb] 65) := callsIn_wide.1 (Tryz.maps_Keys_65 mb W)
end Go.Proofs
