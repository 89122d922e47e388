/-
  Texts joined: DvShelf.
-/
import Derived.Shelf.SlGeneric
import Derived.Shelf.SlIter.Nil
import Derived.Ground.GgzProg
import Derived.Shelf.Strings.Builder1
import Derived.Shelf.Strings.Builder2
import Derived.Shelf.Small.Bits
import Derived.Shelf.Small.Wraps
import Derived.Shelf.Strings.BuilderF
import Derived.Shelf.Strings.BuilderK
import Derived.Shelf.Strings.Builder2Cap
import Derived.Shelf.Strconv.Atoi
import Derived.Shelf.Strconv.Itoa0
import Derived.Shelf.Strconv.Itoa1
import Derived.Shelf.LaysM
import Derived.Shelf.Strconv.Itoa2
import Derived.Shelf.Strconv.Itoa3
import Derived.Shelf.Strconv.AtoiErrFast
import Derived.Shelf.Strconv.ParseIntEmpty
import Derived.Shelf.Strconv.AtoiFail
import Derived.Shelf.Strconv.Clone
import Derived.Shelf.Strconv.SyntaxError
import Derived.Shelf.LaysC
import Derived.Shelf.Strconv.ToError
import Derived.Shelf.Strconv.AtoiErr
import Derived.Shelf.Strconv.ErrVar
import Derived.Shelf.Strconv.Lower
import Derived.Shelf.Strconv.ParseUint10
import Derived.Shelf.Strconv.ParseUint10Empty
import Derived.Shelf.Strconv.ParseUint10Any
import Derived.Shelf.Strconv.ParseInt10
import Derived.Shelf.Strconv.AtoiLong
import Derived.Shelf.Strconv.AtoiInnerAll
import Derived.Shelf.Strconv.RangeError
import Derived.Shelf.Strconv.ToErrorRange
import Derived.Shelf.Strconv.AtoiAll
import Derived.Shelf.Strconv.ErrVarAll
import Derived.Shelf.Strconv.ParseUintEmpty
import Derived.Shelf.Strconv.ParseUint10b64
import Derived.Shelf.Strconv.ParseUint10b32
import Derived.Shelf.Strconv.ParseUint10b16
import Derived.Shelf.Strconv.ParseUint10b8
import Derived.Shelf.Strconv.ParseUint10At
import Derived.Shelf.Strconv.ParseInt10At64
import Derived.Shelf.Strconv.ParseInt10At32
import Derived.Shelf.Strconv.ParseInt10At16
import Derived.Shelf.Strconv.ParseInt10At8
import Derived.Shelf.Strconv.ParseInt10All
import Derived.Shelf.Sort.Plain
import Derived.Shelf.Strings.Prefix
import Derived.Shelf.Bits.Mul64
import Derived.Shelf.Strings.Repeat
import Derived.Shelf.Strings.BuilderCap
import Derived.Shelf.Slices.In.SortNone
import Derived.Test.YtacbkganjkipdaaGreatDoorProg
namespace Go.Proofs
open Go.Shelf
def Tryz.lays103_ren : Go.Shelf.Ren := ⟨fun | 103 => 84 | 210 => 125 | 206 => 146 | n => n, fun | 9 => 9 | 4 => 4 | 24 => 135 | 3 => 3 | n => n, fun | n => n⟩
theorem Tryz.lays103 : Go.Proofs.Lays.n103 Tryz.prog Tryz.lays103_ren := {
 mixed := by kernel_rfl
 f103 := Tryz.func84.trans (congrArg some (by kernel_rfl))
 f206 := Tryz.func146.trans (congrArg some (by kernel_rfl))
 f210 := Tryz.func125.trans (congrArg some (by kernel_rfl))
 t3 := Tryz.underlying3
 a3 := Tryz.isAgg3
 z3 := Tryz.sizeOf3
 v3 := Tryz.zeroValue3
 t4 := Tryz.underlying4
 a4 := Tryz.isAgg4
 z4 := Tryz.sizeOf4
 v4 := Tryz.zeroValue4
 t9 := Tryz.underlying9
 a9 := Tryz.isAgg9
 z9 := Tryz.sizeOf9
 v9 := Tryz.zeroValue9
 t24 := Tryz.underlying135
 a24 := Tryz.isAgg135
 z24 := Tryz.sizeOf135
 v24 := Tryz.zeroValue135 }
open Go.RowKit in
theorem Tryz.strings_CutPrefix (s p : ByteArray) (w : World) :
 Calls Tryz.prog 84 #[.string s, .string p] w fun e w' => e = .returned (.tuple #[.string ⟨(Lib.trimPrefix s.data.toList p.data.toList).toArray⟩, .bool (Lib.hasPrefix s.data.toList p.data.toList)]) ∧ w' = w := Any.strings_CutPrefix Tryz.lays103 s p w
def Tryz.laysM171_ren : Go.Shelf.Ren := ⟨fun | 171 => 95 | 243 => 132 | 246 => 153 | 283 => 172 | 284 => 173 | 285 => 174 | 286 => 175 | 129 => 152 | 317 => 186 | 318 => 187 | 319 => 188 | 320 => 189 | 337 => 191 | 338 => 192 | n => n, fun | 3 => 3 | 9 => 9 | 2 => 2 | 4 => 4 | 171 => 216 | 0 => 0 | 53 => 150 | 37 => 47 | 5 => 5 | 173 => 218 | 212 => 234 | 51 => 154 | 20 => 20 | 213 => 235 | 46 => 156 | 232 => 239 | 233 => 240 | n => n, fun | 17 => 2 | 18 => 4 | 19 => 5 | n => n⟩
theorem Tryz.laysM171 : Go.Proofs.LaysM.n171 Tryz.prog Tryz.laysM171_ren := {
 mixed := by kernel_rfl
 f129 := Tryz.func152.trans (congrArg some (by kernel_rfl))
 f171 := Tryz.func95.trans (congrArg some (by kernel_rfl))
 f243 := Tryz.func132.trans (congrArg some (by kernel_rfl))
 f246 := Tryz.func153.trans (congrArg some (by kernel_rfl))
 f283 := Tryz.func172.trans (congrArg some (by kernel_rfl))
 f284 := Tryz.func173.trans (congrArg some (by kernel_rfl))
 f285 := Tryz.func174.trans (congrArg some (by kernel_rfl))
 f286 := Tryz.func175.trans (congrArg some (by kernel_rfl))
 f317 := Tryz.func186.trans (congrArg some (by kernel_rfl))
 f318 := Tryz.func187.trans (congrArg some (by kernel_rfl))
 f319 := Tryz.func188.trans (congrArg some (by kernel_rfl))
 f320 := Tryz.func189.trans (congrArg some (by kernel_rfl))
 f337 := Tryz.func191.trans (congrArg some (by kernel_rfl))
 f338 := Tryz.func192.trans (congrArg some (by kernel_rfl))
 t0 := Tryz.underlying0
 a0 := Tryz.isAgg0
 z0 := Tryz.sizeOf0
 v0 := Tryz.zeroValue0
 t2 := Tryz.underlying2
 a2 := Tryz.isAgg2
 z2 := Tryz.sizeOf2
 v2 := Tryz.zeroValue2
 t3 := Tryz.underlying3
 a3 := Tryz.isAgg3
 z3 := Tryz.sizeOf3
 v3 := Tryz.zeroValue3
 t4 := Tryz.underlying4
 a4 := Tryz.isAgg4
 z4 := Tryz.sizeOf4
 v4 := Tryz.zeroValue4
 t5 := Tryz.underlying5
 a5 := Tryz.isAgg5
 z5 := Tryz.sizeOf5
 v5 := Tryz.zeroValue5
 t9 := Tryz.underlying9
 a9 := Tryz.isAgg9
 z9 := Tryz.sizeOf9
 v9 := Tryz.zeroValue9
 t20 := Tryz.underlying20
 a20 := Tryz.isAgg20
 z20 := Tryz.sizeOf20
 v20 := Tryz.zeroValue20
 t37 := Tryz.underlying47
 a37 := Tryz.isAgg47
 z37 := Tryz.sizeOf47
 v37 := Tryz.zeroValue47
 t46 := Tryz.underlying156
 a46 := Tryz.isAgg156
 z46 := Tryz.sizeOf156
 v46 := Tryz.zeroValue156
 t51 := Tryz.underlying154
 a51 := Tryz.isAgg154
 z51 := Tryz.sizeOf154
 v51 := Tryz.zeroValue154
 t53 := Tryz.underlying150
 a53 := Tryz.isAgg150
 z53 := Tryz.sizeOf150
 v53 := Tryz.zeroValue150
 t171 := Tryz.underlying216
 a171 := Tryz.isAgg216
 z171 := Tryz.sizeOf216
 v171 := Tryz.zeroValue216
 t173 := Tryz.underlying218
 a173 := Tryz.isAgg218
 z173 := Tryz.sizeOf218
 v173 := Tryz.zeroValue218
 t212 := Tryz.underlying234
 a212 := Tryz.isAgg234
 z212 := Tryz.sizeOf234
 v212 := Tryz.zeroValue234
 t213 := Tryz.underlying235
 a213 := Tryz.isAgg235
 z213 := Tryz.sizeOf235
 t232 := Tryz.underlying239
 a232 := Tryz.isAgg239
 z232 := Tryz.sizeOf239
 v232 := Tryz.zeroValue239
 t233 := Tryz.underlying240
 a233 := Tryz.isAgg240
 z233 := Tryz.sizeOf240
 v233 := Tryz.zeroValue240
 g17 := by kernel_rfl
 g18 := by kernel_rfl
 g19 := by kernel_rfl
 i0 := by kernel_rfl
 i2 := by kernel_rfl
 i3 := by kernel_rfl
 i4 := by kernel_rfl
 i5 := by kernel_rfl
 i9 := by kernel_rfl
 i20 := by kernel_rfl
 i37 := by kernel_rfl
 i46 := by kernel_rfl
 i51 := by kernel_rfl
 i53 := by kernel_rfl
 i171 := by kernel_rfl
 i173 := by kernel_rfl
 i212 := by kernel_rfl
 i232 := by kernel_rfl
 i233 := by kernel_rfl
 m17 := by kernel_rfl
 m18 := by kernel_rfl
 m19 := by kernel_rfl }
open Go.RowKit Go.Sort Go.Lib in
theorem Tryz.strconv_Itoa (n : Int) (h0 : -9223372036854775808 ≤ n) (h1 : n ≤ 9223372036854775807) (w : World) (htab : Lib.TabIs Tryz.prog w "internal/strconv.uint64pow10" .u64 Lib.pow10Tab) :
 Calls Tryz.prog 95 #[.int .i64 n] w fun e w' => e = .returned (.string ⟨(Lib.itoa n).toArray⟩) ∧ ∃ k os, w' = grow (w.drewN k) os := Any.strconv_Itoa Tryz.laysM171 n h0 h1 w htab
def Tryz.laysC172_ren : Go.Shelf.Ren := ⟨fun | 172 => 85 | 244 => 126 | 245 => 127 | 247 => 147 | 279 => 148 | 280 => 149 | 281 => 150 | 282 => 151 | 287 => 169 | 316 => 170 | 171 => 95 | 205 => 171 | 321 => 184 | 322 => 185 | 243 => 132 | 246 => 153 | 283 => 172 | 284 => 173 | 285 => 174 | 286 => 175 | 129 => 152 | 317 => 186 | 318 => 187 | 319 => 188 | 320 => 189 | 337 => 191 | 338 => 192 | n => n, fun | 9 => 9 | 3 => 3 | 75 => 138 | 76 => 139 | 4 => 4 | 5 => 5 | 167 => 188 | 37 => 47 | 0 => 0 | 85 => 189 | 2 => 2 | 168 => 191 | 53 => 150 | 175 => 210 | 46 => 156 | 210 => 214 | 127 => 200 | 145 => 231 | 143 => 229 | 21 => 21 | 171 => 216 | 173 => 218 | 212 => 234 | 51 => 154 | 20 => 20 | 213 => 235 | 232 => 239 | 233 => 240 | 80 => 94 | n => n, fun | 15 => 0 | 16 => 1 | 17 => 2 | 18 => 4 | 19 => 5 | n => n⟩
theorem Tryz.laysC172 : Go.Proofs.LaysC.n172 Tryz.prog Tryz.laysC172_ren := {
 mixed := by kernel_rfl
 f129 := Tryz.func152.trans (congrArg some (by kernel_rfl))
 f171 := Tryz.func95.trans (congrArg some (by kernel_rfl))
 f172 := Tryz.func85.trans (congrArg some (by kernel_rfl))
 f205 := Tryz.func171.trans (congrArg some (by kernel_rfl))
 f243 := Tryz.func132.trans (congrArg some (by kernel_rfl))
 f244 := Tryz.func126.trans (congrArg some (by kernel_rfl))
 f245 := Tryz.func127.trans (congrArg some (by kernel_rfl))
 f246 := Tryz.func153.trans (congrArg some (by kernel_rfl))
 f247 := Tryz.func147.trans (congrArg some (by kernel_rfl))
 f279 := Tryz.func148.trans (congrArg some (by kernel_rfl))
 f280 := Tryz.func149.trans (congrArg some (by kernel_rfl))
 f281 := Tryz.func150.trans (congrArg some (by kernel_rfl))
 f282 := Tryz.func151.trans (congrArg some (by kernel_rfl))
 f283 := Tryz.func172.trans (congrArg some (by kernel_rfl))
 f284 := Tryz.func173.trans (congrArg some (by kernel_rfl))
 f285 := Tryz.func174.trans (congrArg some (by kernel_rfl))
 f286 := Tryz.func175.trans (congrArg some (by kernel_rfl))
 f287 := Tryz.func169.trans (congrArg some (by kernel_rfl))
 f316 := Tryz.func170.trans (congrArg some (by kernel_rfl))
 f317 := Tryz.func186.trans (congrArg some (by kernel_rfl))
 f318 := Tryz.func187.trans (congrArg some (by kernel_rfl))
 f319 := Tryz.func188.trans (congrArg some (by kernel_rfl))
 f320 := Tryz.func189.trans (congrArg some (by kernel_rfl))
 f321 := Tryz.func184.trans (congrArg some (by kernel_rfl))
 f322 := Tryz.func185.trans (congrArg some (by kernel_rfl))
 f337 := Tryz.func191.trans (congrArg some (by kernel_rfl))
 f338 := Tryz.func192.trans (congrArg some (by kernel_rfl))
 t0 := Tryz.underlying0
 a0 := Tryz.isAgg0
 z0 := Tryz.sizeOf0
 v0 := Tryz.zeroValue0
 t2 := Tryz.underlying2
 a2 := Tryz.isAgg2
 z2 := Tryz.sizeOf2
 v2 := Tryz.zeroValue2
 t3 := Tryz.underlying3
 a3 := Tryz.isAgg3
 z3 := Tryz.sizeOf3
 v3 := Tryz.zeroValue3
 t4 := Tryz.underlying4
 a4 := Tryz.isAgg4
 z4 := Tryz.sizeOf4
 v4 := Tryz.zeroValue4
 t5 := Tryz.underlying5
 a5 := Tryz.isAgg5
 z5 := Tryz.sizeOf5
 v5 := Tryz.zeroValue5
 t9 := Tryz.underlying9
 a9 := Tryz.isAgg9
 z9 := Tryz.sizeOf9
 v9 := Tryz.zeroValue9
 t20 := Tryz.underlying20
 a20 := Tryz.isAgg20
 z20 := Tryz.sizeOf20
 v20 := Tryz.zeroValue20
 t21 := Tryz.underlying21
 a21 := Tryz.isAgg21
 z21 := Tryz.sizeOf21
 v21 := Tryz.zeroValue21
 t37 := Tryz.underlying47
 a37 := Tryz.isAgg47
 z37 := Tryz.sizeOf47
 v37 := Tryz.zeroValue47
 t46 := Tryz.underlying156
 a46 := Tryz.isAgg156
 z46 := Tryz.sizeOf156
 v46 := Tryz.zeroValue156
 t51 := Tryz.underlying154
 a51 := Tryz.isAgg154
 z51 := Tryz.sizeOf154
 v51 := Tryz.zeroValue154
 t53 := Tryz.underlying150
 a53 := Tryz.isAgg150
 z53 := Tryz.sizeOf150
 v53 := Tryz.zeroValue150
 t75 := Tryz.underlying138
 a75 := Tryz.isAgg138
 z75 := Tryz.sizeOf138
 v75 := Tryz.zeroValue138
 t76 := Tryz.underlying139
 a76 := Tryz.isAgg139
 z76 := Tryz.sizeOf139
 v76 := Tryz.zeroValue139
 t85 := Tryz.underlying189
 a85 := Tryz.isAgg189
 z85 := Tryz.sizeOf189
 v85 := Tryz.zeroValue189
 t127 := Tryz.underlying200
 a127 := Tryz.isAgg200
 z127 := Tryz.sizeOf200
 v127 := Tryz.zeroValue200
 t143 := Tryz.underlying229
 a143 := Tryz.isAgg229
 z143 := Tryz.sizeOf229
 v143 := Tryz.zeroValue229
 t145 := Tryz.underlying231
 a145 := Tryz.isAgg231
 z145 := Tryz.sizeOf231
 v145 := Tryz.zeroValue231
 t167 := Tryz.underlying188
 a167 := Tryz.isAgg188
 z167 := Tryz.sizeOf188
 v167 := Tryz.zeroValue188
 t168 := Tryz.underlying191
 a168 := Tryz.isAgg191
 z168 := Tryz.sizeOf191
 v168 := Tryz.zeroValue191
 t171 := Tryz.underlying216
 a171 := Tryz.isAgg216
 z171 := Tryz.sizeOf216
 v171 := Tryz.zeroValue216
 t173 := Tryz.underlying218
 a173 := Tryz.isAgg218
 z173 := Tryz.sizeOf218
 v173 := Tryz.zeroValue218
 t175 := Tryz.underlying210
 a175 := Tryz.isAgg210
 z175 := Tryz.sizeOf210
 v175 := Tryz.zeroValue210
 t210 := Tryz.underlying214
 a210 := Tryz.isAgg214
 z210 := Tryz.sizeOf214
 v210 := Tryz.zeroValue214
 t212 := Tryz.underlying234
 a212 := Tryz.isAgg234
 z212 := Tryz.sizeOf234
 v212 := Tryz.zeroValue234
 t213 := Tryz.underlying235
 a213 := Tryz.isAgg235
 z213 := Tryz.sizeOf235
 t232 := Tryz.underlying239
 a232 := Tryz.isAgg239
 z232 := Tryz.sizeOf239
 v232 := Tryz.zeroValue239
 t233 := Tryz.underlying240
 a233 := Tryz.isAgg240
 z233 := Tryz.sizeOf240
 v233 := Tryz.zeroValue240
 g15 := by kernel_rfl
 g16 := by kernel_rfl
 g17 := by kernel_rfl
 g18 := by kernel_rfl
 g19 := by kernel_rfl
 t80 := Tryz.underlying94
 a80 := Tryz.isAgg94
 z80 := Tryz.sizeOf94
 v80 := Tryz.zeroValue94
 i0 := by kernel_rfl
 i2 := by kernel_rfl
 i3 := by kernel_rfl
 i4 := by kernel_rfl
 i5 := by kernel_rfl
 i9 := by kernel_rfl
 i20 := by kernel_rfl
 i21 := by kernel_rfl
 i37 := by kernel_rfl
 i46 := by kernel_rfl
 i51 := by kernel_rfl
 i53 := by kernel_rfl
 i75 := by kernel_rfl
 i76 := by kernel_rfl
 i80 := by kernel_rfl
 i85 := by kernel_rfl
 i127 := by kernel_rfl
 i143 := by kernel_rfl
 i145 := by kernel_rfl
 i167 := by kernel_rfl
 i168 := by kernel_rfl
 i171 := by kernel_rfl
 i173 := by kernel_rfl
 i175 := by kernel_rfl
 i210 := by kernel_rfl
 i212 := by kernel_rfl
 i232 := by kernel_rfl
 i233 := by kernel_rfl
 m15 := by kernel_rfl
 m16 := by kernel_rfl
 m17 := by kernel_rfl
 m18 := by kernel_rfl
 m19 := by kernel_rfl
 c0 := by kernel_rfl
 c2 := by kernel_rfl
 c3 := by kernel_rfl
 c4 := by kernel_rfl
 c5 := by kernel_rfl
 c9 := by kernel_rfl
 c20 := by kernel_rfl
 c21 := by kernel_rfl
 c37 := by kernel_rfl
 c46 := by kernel_rfl
 c51 := by kernel_rfl
 c53 := by kernel_rfl
 c75 := by kernel_rfl
 c76 := by kernel_rfl
 c80 := by kernel_rfl
 c85 := by kernel_rfl
 c127 := by kernel_rfl
 c143 := by kernel_rfl
 c145 := by kernel_rfl
 c167 := by kernel_rfl
 c168 := by kernel_rfl
 c171 := by kernel_rfl
 c173 := by kernel_rfl
 c175 := by kernel_rfl
 c210 := by kernel_rfl
 c212 := by kernel_rfl
 c213 := by kernel_rfl
 c232 := by kernel_rfl
 c233 := by kernel_rfl }
open Go.RowKit in
theorem Tryz.strconv_Atoi_ok (s : ByteArray) (hmax : s.size ≤ 9223372036854775806) (v : Int) (h : Lib.atoiAll s.data.toList = .ok v) (w : World) :
 Calls Tryz.prog 85 #[.string s] w fun e w' => e = .returned (.tuple #[.int .i64 v, .nilIface]) ∧ (w' = w ∨ ∃ t, w' = Lib.bytesWorld w 5 t) := Any.strconv_Atoi_ok Tryz.laysC172 s hmax v h w
open Go.RowKit in
theorem Tryz.strconv_Atoi_syntax_var (s : ByteArray) (hlim : s.size ≤ 281474976710656) (hn : ∀ v, Lib.atoiAll s.data.toList ≠ .ok v) (hr : Lib.atoiAll s.data.toList ≠ .range) (tp : TypeId) (p : Value) (w : World) (hvar : w.var? Tryz.prog "strconv.ErrSyntax" = some #[.iface tp p]) :
 Calls Tryz.prog 85 #[.string s] w fun e w' => ∃ N, e = .returned (.tuple #[.int .i64 0, .iface 191 (.pointer (some ⟨N, 0, none⟩))]) ∧ w.heap.size ≤ N ∧ w'.heap[N]? = some (.cells #[.string ⟨#[65, 116, 111, 105]⟩, .string s, .iface tp p] 214 (0, 0)) ∧ Below w.heap.size w w' := by
 cases h : Lib.atoiAll s.data.toList with
 | ok v => exact absurd h (hn v)
 | range => exact absurd h hr
 | _ => exact Any.strconv_Atoi_syntax_var Tryz.laysC172 s hlim h tp p w hvar
open Go.RowKit in
theorem Tryz.strconv_Atoi_range_var (s : ByteArray) (hlim : s.size ≤ 281474976710656) (h : Lib.atoiAll s.data.toList = .range) (tp : TypeId) (p : Value) (w : World) (hvar : w.var? Tryz.prog "strconv.ErrRange" = some #[.iface tp p]) :
 Calls Tryz.prog 85 #[.string s] w fun e w' => ∃ N, e = .returned (.tuple #[.int .i64 (Lib.atoiSat s.data.toList), .iface 191 (.pointer (some ⟨N, 0, none⟩))]) ∧ w.heap.size ≤ N ∧ w'.heap[N]? = some (.cells #[.string ⟨#[65, 116, 111, 105]⟩, .string s, .iface tp p] 214 (0, 0)) ∧ Below w.heap.size w w' := Any.strconv_Atoi_range_var Tryz.laysC172 s hlim h tp p w hvar
def Tryz.lays190_ren : Go.Shelf.Ren := ⟨fun | 190 => 123 | 125 => 145 | 258 => 144 | 128 => 168 | 129 => 152 | 302 => 159 | 303 => 160 | 304 => 161 | 305 => 162 | 306 => 163 | 307 => 164 | 308 => 165 | 309 => 166 | 310 => 167 | 333 => 178 | 329 => 179 | 330 => 180 | 334 => 181 | 335 => 182 | 336 => 183 | 344 => 190 | n => n, fun | 31 => 49 | 9 => 9 | 3 => 3 | 46 => 156 | 0 => 0 | 51 => 154 | 53 => 150 | 4 => 4 | 183 => 203 | 182 => 202 | 131 => 207 | 5 => 5 | 218 => 222 | 222 => 226 | 228 => 236 | 229 => 237 | n => n, fun | n => n⟩
theorem Tryz.lays190 : Go.Proofs.Lays.n190 Tryz.prog Tryz.lays190_ren := {
 mixed := by kernel_rfl
 f125 := Tryz.func145.trans (congrArg some (by kernel_rfl))
 f128 := Tryz.func168.trans (congrArg some (by kernel_rfl))
 f129 := Tryz.func152.trans (congrArg some (by kernel_rfl))
 f190 := Tryz.func123.trans (congrArg some (by kernel_rfl))
 f258 := Tryz.func144.trans (congrArg some (by kernel_rfl))
 f302 := Tryz.func159.trans (congrArg some (by kernel_rfl))
 f303 := Tryz.func160.trans (congrArg some (by kernel_rfl))
 f304 := Tryz.func161.trans (congrArg some (by kernel_rfl))
 f305 := Tryz.func162.trans (congrArg some (by kernel_rfl))
 f306 := Tryz.func163.trans (congrArg some (by kernel_rfl))
 f307 := Tryz.func164.trans (congrArg some (by kernel_rfl))
 f308 := Tryz.func165.trans (congrArg some (by kernel_rfl))
 f309 := Tryz.func166.trans (congrArg some (by kernel_rfl))
 f310 := Tryz.func167.trans (congrArg some (by kernel_rfl))
 f329 := Tryz.func179.trans (congrArg some (by kernel_rfl))
 f330 := Tryz.func180.trans (congrArg some (by kernel_rfl))
 f333 := Tryz.func178.trans (congrArg some (by kernel_rfl))
 f334 := Tryz.func181.trans (congrArg some (by kernel_rfl))
 f335 := Tryz.func182.trans (congrArg some (by kernel_rfl))
 f336 := Tryz.func183.trans (congrArg some (by kernel_rfl))
 f344 := Tryz.func190.trans (congrArg some (by kernel_rfl))
 t0 := Tryz.underlying0
 a0 := Tryz.isAgg0
 z0 := Tryz.sizeOf0
 v0 := Tryz.zeroValue0
 t3 := Tryz.underlying3
 a3 := Tryz.isAgg3
 z3 := Tryz.sizeOf3
 v3 := Tryz.zeroValue3
 t4 := Tryz.underlying4
 a4 := Tryz.isAgg4
 z4 := Tryz.sizeOf4
 v4 := Tryz.zeroValue4
 t5 := Tryz.underlying5
 a5 := Tryz.isAgg5
 z5 := Tryz.sizeOf5
 v5 := Tryz.zeroValue5
 t9 := Tryz.underlying9
 a9 := Tryz.isAgg9
 z9 := Tryz.sizeOf9
 v9 := Tryz.zeroValue9
 t31 := Tryz.underlying49
 a31 := Tryz.isAgg49
 z31 := Tryz.sizeOf49
 v31 := Tryz.zeroValue49
 t46 := Tryz.underlying156
 a46 := Tryz.isAgg156
 z46 := Tryz.sizeOf156
 v46 := Tryz.zeroValue156
 t51 := Tryz.underlying154
 a51 := Tryz.isAgg154
 z51 := Tryz.sizeOf154
 v51 := Tryz.zeroValue154
 t53 := Tryz.underlying150
 a53 := Tryz.isAgg150
 z53 := Tryz.sizeOf150
 v53 := Tryz.zeroValue150
 t131 := Tryz.underlying207
 a131 := Tryz.isAgg207
 z131 := Tryz.sizeOf207
 v131 := Tryz.zeroValue207
 t182 := Tryz.underlying202
 a182 := Tryz.isAgg202
 z182 := Tryz.sizeOf202
 v182 := Tryz.zeroValue202
 t183 := Tryz.underlying203
 a183 := Tryz.isAgg203
 z183 := Tryz.sizeOf203
 v183 := Tryz.zeroValue203
 t218 := Tryz.underlying222
 a218 := Tryz.isAgg222
 z218 := Tryz.sizeOf222
 v218 := Tryz.zeroValue222
 t222 := Tryz.underlying226
 a222 := Tryz.isAgg226
 z222 := Tryz.sizeOf226
 v222 := Tryz.zeroValue226
 t228 := Tryz.underlying236
 a228 := Tryz.isAgg236
 z228 := Tryz.sizeOf236
 v228 := Tryz.zeroValue236
 t229 := Tryz.underlying237
 a229 := Tryz.isAgg237
 z229 := Tryz.sizeOf237
 v229 := Tryz.zeroValue237 }
open Go.Sort Go.RowKit in
theorem Tryz.slices_Sort_string (blk off cap : Nat) (ss : List (List UInt8)) (w : World) (hH : Holds encStr w blk off ss.toArray) (hblk : blk < w.heap.size) (hsz : ss.length < 4611686018427387904) :
 Calls Tryz.prog 123 #[.slice (some ⟨blk, off, none⟩) ss.length cap] w fun e w' =>
  e = .returned (.tuple #[]) ∧ ∃ n os, w' = grow (putRow encStr (Sort.ahead w n) blk off (ss.mergeSort fun x y => decide (x ≤ y)).toArray) os := Any.slices_Sort_string Tryz.lays190 blk off cap ss w hH hblk hsz
def Tryz.lays105_ren : Go.Shelf.Ren := ⟨fun | 105 => 96 | 212 => 133 | 99 => 134 | 165 => 135 | 166 => 136 | 170 => 137 | 169 => 138 | 263 => 154 | 264 => 155 | 206 => 146 | 240 => 156 | 241 => 157 | 276 => 176 | 277 => 177 | n => n, fun | 9 => 9 | 3 => 3 | 4 => 4 | 20 => 20 | 0 => 0 | 46 => 156 | 109 => 175 | 5 => 5 | 72 => 180 | 76 => 139 | 51 => 154 | 146 => 196 | 53 => 150 | 148 => 198 | 70 => 178 | 37 => 47 | 75 => 138 | 127 => 200 | 164 => 220 | 80 => 94 | n => n, fun | n => n⟩
theorem Tryz.lays105 : Go.Proofs.Lays.n105 Tryz.prog Tryz.lays105_ren := {
 mixed := by kernel_rfl
 f99 := Tryz.func134.trans (congrArg some (by kernel_rfl))
 f105 := Tryz.func96.trans (congrArg some (by kernel_rfl))
 f165 := Tryz.func135.trans (congrArg some (by kernel_rfl))
 f166 := Tryz.func136.trans (congrArg some (by kernel_rfl))
 f169 := Tryz.func138.trans (congrArg some (by kernel_rfl))
 f170 := Tryz.func137.trans (congrArg some (by kernel_rfl))
 f206 := Tryz.func146.trans (congrArg some (by kernel_rfl))
 f212 := Tryz.func133.trans (congrArg some (by kernel_rfl))
 f240 := Tryz.func156.trans (congrArg some (by kernel_rfl))
 f241 := Tryz.func157.trans (congrArg some (by kernel_rfl))
 f263 := Tryz.func154.trans (congrArg some (by kernel_rfl))
 f264 := Tryz.func155.trans (congrArg some (by kernel_rfl))
 f276 := Tryz.func176.trans (congrArg some (by kernel_rfl))
 f277 := Tryz.func177.trans (congrArg some (by kernel_rfl))
 t0 := Tryz.underlying0
 a0 := Tryz.isAgg0
 z0 := Tryz.sizeOf0
 v0 := Tryz.zeroValue0
 t3 := Tryz.underlying3
 a3 := Tryz.isAgg3
 z3 := Tryz.sizeOf3
 v3 := Tryz.zeroValue3
 t4 := Tryz.underlying4
 a4 := Tryz.isAgg4
 z4 := Tryz.sizeOf4
 v4 := Tryz.zeroValue4
 t5 := Tryz.underlying5
 a5 := Tryz.isAgg5
 z5 := Tryz.sizeOf5
 v5 := Tryz.zeroValue5
 t9 := Tryz.underlying9
 a9 := Tryz.isAgg9
 z9 := Tryz.sizeOf9
 v9 := Tryz.zeroValue9
 t20 := Tryz.underlying20
 a20 := Tryz.isAgg20
 z20 := Tryz.sizeOf20
 v20 := Tryz.zeroValue20
 t37 := Tryz.underlying47
 a37 := Tryz.isAgg47
 z37 := Tryz.sizeOf47
 v37 := Tryz.zeroValue47
 t46 := Tryz.underlying156
 a46 := Tryz.isAgg156
 z46 := Tryz.sizeOf156
 v46 := Tryz.zeroValue156
 t51 := Tryz.underlying154
 a51 := Tryz.isAgg154
 z51 := Tryz.sizeOf154
 v51 := Tryz.zeroValue154
 t53 := Tryz.underlying150
 a53 := Tryz.isAgg150
 z53 := Tryz.sizeOf150
 v53 := Tryz.zeroValue150
 t70 := Tryz.underlying178
 a70 := Tryz.isAgg178
 z70 := Tryz.sizeOf178
 v70 := Tryz.zeroValue178
 t72 := Tryz.underlying180
 a72 := Tryz.isAgg180
 z72 := Tryz.sizeOf180
 v72 := Tryz.zeroValue180
 t75 := Tryz.underlying138
 a75 := Tryz.isAgg138
 z75 := Tryz.sizeOf138
 v75 := Tryz.zeroValue138
 t76 := Tryz.underlying139
 a76 := Tryz.isAgg139
 z76 := Tryz.sizeOf139
 v76 := Tryz.zeroValue139
 t109 := Tryz.underlying175
 a109 := Tryz.isAgg175
 z109 := Tryz.sizeOf175
 v109 := Tryz.zeroValue175
 t127 := Tryz.underlying200
 a127 := Tryz.isAgg200
 z127 := Tryz.sizeOf200
 v127 := Tryz.zeroValue200
 t146 := Tryz.underlying196
 a146 := Tryz.isAgg196
 z146 := Tryz.sizeOf196
 v146 := Tryz.zeroValue196
 t148 := Tryz.underlying198
 a148 := Tryz.isAgg198
 z148 := Tryz.sizeOf198
 v148 := Tryz.zeroValue198
 t164 := Tryz.underlying220
 a164 := Tryz.isAgg220
 z164 := Tryz.sizeOf220
 v164 := Tryz.zeroValue220 }
theorem Tryz.Builder_Extra_105 : Builder.Extra Tryz.prog Tryz.lays105_ren := {
 sizeBuilder := by kernel_rfl
 liesBuilder := by kernel_rfl
 t5 := Tryz.underlying5
 a5 := Tryz.isAgg5
 z5 := Tryz.sizeOf5
 v5 := Tryz.zeroValue5
 infoByte := by kernel_rfl
 cellsByte := by kernel_rfl
 sizeByte := by kernel_rfl
 neB5 := by decide }
open Go.RowKit Go.Lib in
theorem Tryz.strings_Repeat (s : ByteArray) (c : Nat) (w : World) (hc : c ≤ 9223372036854775807) (hlen : s.size * c ≤ 140737488355328) :
 Calls Tryz.prog 96 #[.string s, .int .i64 c] w fun e w' => e = .returned (.string ⟨(Lib.repeatL s.data.toList c).toArray⟩) ∧ Below w.heap.size w w' := Any.strings_Repeat Tryz.lays105 Tryz.Builder_Extra_105 s c w hc hlen
open Go.RowKit Go.Sort in
theorem Tryz.slices_Sort_string_none (p : Option Addr) (cap : Nat) (w : World) :
 Calls Tryz.prog 123 #[.slice p 0 cap] w fun e w' => e = .returned (.tuple #[]) ∧ w' = w := Any.slices_Sort_string_none Tryz.lays190 p cap w
def Tryz.keys65_ren : Go.Shelf.Ren := ⟨fun | 7 => 83 | 10 => 124 | n => n, fun | 23 => 86 | 26 => 9 | 3 => 109 | 28 => 133 | 0 => 0 | 27 => 132 | 33 => 108 | 4 => 4 | n => n, fun | n => n⟩
theorem Tryz.keys65 : Go.Proofs.SlLaysZ.n7 Tryz.prog Tryz.keys65_ren := {
 mixed := by kernel_rfl
 f7 := ⟨Tryz.f83.name, by decide, Tryz.func83.trans (congrArg some (by kernel_rfl))⟩
 f10 := ⟨Tryz.f124.name, by decide, Tryz.func124.trans (congrArg some (by kernel_rfl))⟩
 t0 := Tryz.underlying0
 a0 := Tryz.isAgg0
 z0 := Tryz.sizeOf0
 v0 := Tryz.zeroValue0
 t4 := Tryz.underlying4
 a4 := Tryz.isAgg4
 z4 := Tryz.sizeOf4
 v4 := Tryz.zeroValue4
 t23 := Tryz.underlying86
 a23 := Tryz.isAgg86
 z23 := Tryz.sizeOf86
 v23 := Tryz.zeroValue86
 t26 := Tryz.underlying9
 a26 := Tryz.isAgg9
 z26 := Tryz.sizeOf9
 v26 := Tryz.zeroValue9
 t27 := Tryz.underlying132
 a27 := Tryz.isAgg132
 z27 := Tryz.sizeOf132
 v27 := Tryz.zeroValue132
 t28 := Tryz.underlying133
 a28 := Tryz.isAgg133
 z28 := Tryz.sizeOf133
 v28 := Tryz.zeroValue133
 t33 := Tryz.underlying108
 a33 := Tryz.isAgg108
 z33 := Tryz.sizeOf108
 v33 := Tryz.zeroValue108 }
def Tryz.sorted64_ren : Go.Shelf.Ren := ⟨fun | 6 => 82 | 8 => 122 | 9 => 123 | 11 => 143 | 13 => 145 | 12 => 144 | 23 => 168 | 24 => 152 | 14 => 159 | 15 => 160 | 16 => 161 | 17 => 162 | 18 => 163 | 19 => 164 | 20 => 165 | 21 => 166 | 22 => 167 | 25 => 178 | 26 => 179 | 27 => 180 | 28 => 181 | 29 => 182 | 30 => 183 | 31 => 190 | n => n, fun | 26 => 9 | 28 => 133 | 24 => 49 | 0 => 0 | 3 => 3 | 37 => 156 | 48 => 154 | 50 => 150 | 4 => 4 | 40 => 203 | 39 => 202 | 45 => 207 | 5 => 5 | 9 => 9 | 51 => 222 | 55 => 226 | 57 => 236 | 58 => 237 | 33 => 108 | n => n, fun | n => n⟩
theorem Tryz.sorted64 : Go.Proofs.SlLaysZ.n6 Tryz.prog Tryz.sorted64_ren := {
 mixed := by kernel_rfl
 f6 := ⟨Tryz.f82.name, by decide, Tryz.func82.trans (congrArg some (by kernel_rfl))⟩
 f8 := ⟨Tryz.f122.name, by decide, Tryz.func122.trans (congrArg some (by kernel_rfl))⟩
 f11 := ⟨Tryz.f143.name, by decide, Tryz.func143.trans (congrArg some (by kernel_rfl))⟩
 t0 := Tryz.underlying0
 a0 := Tryz.isAgg0
 z0 := Tryz.sizeOf0
 v0 := Tryz.zeroValue0
 t24 := Tryz.underlying49
 a24 := Tryz.isAgg49
 z24 := Tryz.sizeOf49
 v24 := Tryz.zeroValue49
 t26 := Tryz.underlying9
 a26 := Tryz.isAgg9
 z26 := Tryz.sizeOf9
 v26 := Tryz.zeroValue9
 t28 := Tryz.underlying133
 a28 := Tryz.isAgg133
 z28 := Tryz.sizeOf133
 v28 := Tryz.zeroValue133
 i26 := by kernel_rfl }
open Go.RowKit Go.Maps Go.Sort Go.Shelf in
theorem Tryz.sorts64 (m : Nat) : AnyZ.SortsIn Tryz.prog Tryz.sorted64_ren Fence.wide m :=
 ⟨fun blk off cap ss W hH hblk hsz => callsIn_wide.2 (Tryz.slices_Sort_string blk off cap ss W hH hblk hsz),
  fun p cap W => callsIn_wide.2 (Tryz.slices_Sort_string_none p cap W)⟩
open Go.RowKit Go.Maps Go.Sort Go.Shelf in
theorem Tryz.maps_Keys_65 (mb : Option Nat) (W : World) : CallsIn Fence.wide 5 Tryz.prog 83 #[.map mb] W fun e w' => e = .returned (.func (.func 124) #[] #[.pointer (some ⟨W.heap.size, 0, none⟩)]) ∧ w' = W.alloc (.cells #[.map mb] 86) :=
 AnyZ.keys_in Tryz.keys65 Fence.wide 5 trivial rfl mb W
open Go.RowKit Go.Maps Go.Sort Go.Shelf in
set_option maxHeartbeats 1000000 in
theorem Tryz.slices_Sorted_keys {H : Type} (g b nn : Nat) (D0 : DataW H) (R : Value → Option (DataW H × List MemPlace)) (w : World) (hg : g < w.heap.size) (hm : w.cell? ⟨g, 0, none⟩ = some (.map (some b))) (hown : w.ownsMap Tryz.prog 9 R b nn D0) (hmax : Maps.size D0 ≤ maxLen) (hbytes : Maps.size D0 * 16 ≤ 140737488355328) :
 Calls Tryz.prog 82 #[.func (.func 124) #[] #[.pointer (some ⟨g, 0, none⟩)]] w fun e w' => ∃ (v : Value) (ss : List (List UInt8)), e = .returned v ∧ ss.Perm (strKeys D0) ∧
  w'.ownsRow w.heap.size 9 1 v ss.length ((ss.mergeSort (fun x y => decide (x ≤ y))).map encStr) ∧ (v = .slice none 0 0 ↔ ss = []) ∧ Below w.heap.size w w' := by
 have hseq : SeqGives Fence.wide 2 Tryz.prog 124 #[.pointer (some ⟨g, 0, none⟩)] encStr (fun ss => ss.Perm (strKeys D0)) (Maps.size D0) w :=
  AnyZ.keys_gives (ρ := Tryz.keys65_ren) { Tryz.keys65 with } Fence.wide _ trivial rfl (by omega) g b nn D0 _ hg hm hown
 exact callsIn_wide.1 (AnyZ.sorted_in Tryz.sorted64 Fence.wide 5 trivial trivial trivial trivial rfl (by omega) (Tryz.sorts64 _) (enters_of Tryz.func123 (by kernel_rfl) rfl) 124 #[.pointer (some ⟨g, 0, none⟩)] trivial (enters_of Tryz.func124 (by kernel_rfl) rfl) _ _ hmax hbytes _ hseq)
theorem Tryz.maps_Keys (mb : Option Nat) (W : World) : Calls Tryz.prog 83 #[.map mb] W fun e w' => e = .returned (.func (.func 124) #[] #[.pointer (some ⟨W.heap.size, 0, none⟩)]) ∧ w' = W.alloc (.cells #[.map mb] 86) := callsIn_wide.1 (Tryz.maps_Keys_65 mb W)
end Go.Proofs
