/-
  Texts joined: ScShelf.
-/
import Derived.Shelf.Strings.Builder1
import Derived.Shelf.Strings.Builder2
import Derived.Shelf.Strings.OnBuilder
import Derived.Shelf.Utf8.RuneCount
import Derived.Shelf.Strconv.Atoi
import Derived.Shelf.Strconv.Itoa0
import Derived.Shelf.Strconv.Itoa1
import Derived.Shelf.LaysM
import Derived.Shelf.Strconv.Itoa2
import Derived.Shelf.Strconv.Itoa3
import Derived.Shelf.Strconv.AtoiErrFast
import Derived.Shelf.Strconv.ParseIntEmpty
import Derived.Shelf.Strconv.AtoiFail
import Derived.Shelf.Strconv.Clone
import Derived.Shelf.Strconv.SyntaxError
import Derived.Shelf.LaysC
import Derived.Shelf.Strconv.ToError
import Derived.Shelf.Strconv.Lower
import Derived.Shelf.Strconv.ParseUint10
import Derived.Shelf.Strconv.ParseUint10Empty
import Derived.Shelf.Strconv.ParseUint10Any
import Derived.Shelf.Strconv.ParseInt10
import Derived.Shelf.Strconv.AtoiLong
import Derived.Shelf.Strconv.AtoiInnerAll
import Derived.Shelf.Strconv.RangeError
import Derived.Shelf.Strconv.ToErrorRange
import Derived.Shelf.Strconv.AtoiAll
import Derived.Shelf.Strconv.ErrVarAll
import Derived.Shelf.Strings.Search1
import Derived.Shelf.Strings.Search2
import Derived.Shelf.Strings.Search3
import Derived.Shelf.Strings.Count
import Derived.Shelf.Strings.Shaped
import Derived.Shelf.Strings.Split
import Derived.Shelf.Strings.SplitShaped
import Derived.Shelf.Unicode.Decode
import Derived.Shelf.Strings.RuneCount
import Derived.Shelf.Strings.Explode
import Derived.Shelf.Unicode.DecodeSlow
import Derived.Shelf.Unicode.DecodeAny
import Derived.Shelf.Slices.Equal
import Derived.Shelf.Slices.Empties2
import Derived.Ground.SlgnProg
import Derived.Shelf.SlicesE.Equal
import Derived.Ground.SlgfProg
import Derived.Shelf.SlicesE.IndexFunc
import Derived.Shelf.SlicesE.DeleteFunc
import Derived.Test.YtemcigoelcblbaaDoorProg
/- library contracts laid at this program (written by the kit's own command, in its plain mode; shortened by shelf.py) -/
namespace Go.Proofs
open Go.Shelf
def Tryd.lays156_ren : Go.Shelf.Ren := ⟨fun | 156 => 23 | 165 => 45 | 166 => 46 | 169 => 47 | 240 => 59 | 241 => 60 | 276 => 67 | 277 => 68 | n => n, fun | 31 => 51 | 9 => 9 | 3 => 3 | 4 => 4 | 0 => 0 | 20 => 20 | 72 => 91 | 76 => 95 | 70 => 88 | 37 => 89 | 75 => 94 | 127 => 102 | 164 => 106 | 5 => 5 | 80 => 97 | n => n, fun | n => n⟩
theorem Tryd.lays156 : Go.Proofs.Lays.n156 Tryd.prog Tryd.lays156_ren := {
  mixed := by kernel_rfl
  f156 := Tryd.func23.trans (congrArg some (by kernel_rfl))
  f165 := Tryd.func45.trans (congrArg some (by kernel_rfl))
  f166 := Tryd.func46.trans (congrArg some (by kernel_rfl))
  f169 := Tryd.func47.trans (congrArg some (by kernel_rfl))
  f240 := Tryd.func59.trans (congrArg some (by kernel_rfl))
  f241 := Tryd.func60.trans (congrArg some (by kernel_rfl))
  f276 := Tryd.func67.trans (congrArg some (by kernel_rfl))
  f277 := Tryd.func68.trans (congrArg some (by kernel_rfl))
  t0 := Tryd.underlying0
  a0 := Tryd.isAgg0
  z0 := Tryd.sizeOf0
  v0 := Tryd.zeroValue0
  t3 := Tryd.underlying3
  a3 := Tryd.isAgg3
  z3 := Tryd.sizeOf3
  v3 := Tryd.zeroValue3
  t4 := Tryd.underlying4
  a4 := Tryd.isAgg4
  z4 := Tryd.sizeOf4
  v4 := Tryd.zeroValue4
  t9 := Tryd.underlying9
  a9 := Tryd.isAgg9
  z9 := Tryd.sizeOf9
  v9 := Tryd.zeroValue9
  t20 := Tryd.underlying20
  a20 := Tryd.isAgg20
  z20 := Tryd.sizeOf20
  v20 := Tryd.zeroValue20
  t31 := Tryd.underlying51
  a31 := Tryd.isAgg51
  z31 := Tryd.sizeOf51
  v31 := Tryd.zeroValue51
  t37 := Tryd.underlying89
  a37 := Tryd.isAgg89
  z37 := Tryd.sizeOf89
  v37 := Tryd.zeroValue89
  t70 := Tryd.underlying88
  a70 := Tryd.isAgg88
  z70 := Tryd.sizeOf88
  v70 := Tryd.zeroValue88
  t72 := Tryd.underlying91
  a72 := Tryd.isAgg91
  z72 := Tryd.sizeOf91
  v72 := Tryd.zeroValue91
  t75 := Tryd.underlying94
  a75 := Tryd.isAgg94
  z75 := Tryd.sizeOf94
  v75 := Tryd.zeroValue94
  t76 := Tryd.underlying95
  a76 := Tryd.isAgg95
  z76 := Tryd.sizeOf95
  v76 := Tryd.zeroValue95
  t127 := Tryd.underlying102
  a127 := Tryd.isAgg102
  z127 := Tryd.sizeOf102
  v127 := Tryd.zeroValue102
  t164 := Tryd.underlying106
  a164 := Tryd.isAgg106
  z164 := Tryd.sizeOf106
  v164 := Tryd.zeroValue106 }
theorem Tryd.Builder_Extra_156 : Builder.Extra Tryd.prog Tryd.lays156_ren := {
  sizeBuilder := by kernel_rfl
  liesBuilder := by kernel_rfl
  t5 := Tryd.underlying5
  a5 := Tryd.isAgg5
  z5 := Tryd.sizeOf5
  v5 := Tryd.zeroValue5
  infoByte := by kernel_rfl
  cellsByte := by kernel_rfl
  sizeByte := by kernel_rfl
  neB5 := by decide }
open Go.RowKit in
theorem Tryd.strings_Join_none (a : Option Addr) (c : Nat) (sep : ByteArray) (w : World) :
    Calls Tryd.prog 23 #[.slice a 0 c, .string sep] w fun e w' => e = .returned (.string ⟨#[]⟩) ∧ w' = w := Any.strings_Join_none Tryd.lays156 Tryd.Builder_Extra_156 a c sep w
open Go.RowKit in
theorem Tryd.strings_Join (bk o c : Nat) (xs : List ByteArray) (sep : ByteArray) (w : World) (hcells : ∀ (j : Nat) x, xs[j]? = some x → w.cell? ⟨bk, o + j, none⟩ = some (.string x)) (hbk : bk < w.heap.size) (hN : xs.length ≤ 140737488355328) (hcap : xs.length ≤ c) (hlen : (Lib.join (xs.map (·.data.toList)) sep.data.toList).length ≤ 140737488355328) :
    Calls Tryd.prog 23 #[.slice (some ⟨bk, o, none⟩) xs.length c, .string sep] w fun e w' => e = .returned (.string ⟨(Lib.join (xs.map (·.data.toList)) sep.data.toList).toArray⟩) ∧ Below w.heap.size w w' := Any.strings_Join Tryd.lays156 Tryd.Builder_Extra_156 bk o c xs sep w hcells hbk hN hcap hlen
def Tryd.laysM171_ren : Go.Shelf.Ren := ⟨fun | 171 => 55 | 243 => 66 | 246 => 78 | 283 => 87 | 284 => 88 | 285 => 89 | 286 => 90 | 129 => 96 | 317 => 95 | 318 => 97 | 319 => 98 | 320 => 99 | 337 => 100 | 338 => 101 | n => n, fun | 3 => 3 | 9 => 9 | 2 => 2 | 4 => 4 | 171 => 128 | 0 => 0 | 53 => 122 | 37 => 89 | 5 => 5 | 173 => 131 | 212 => 145 | 51 => 137 | 20 => 20 | 213 => 146 | 46 => 121 | 232 => 150 | 233 => 151 | n => n, fun | 17 => 5 | 18 => 6 | 19 => 7 | n => n⟩
theorem Tryd.laysM171 : Go.Proofs.LaysM.n171 Tryd.prog Tryd.laysM171_ren := {
  mixed := by kernel_rfl
  f129 := Tryd.func96.trans (congrArg some (by kernel_rfl))
  f171 := Tryd.func55.trans (congrArg some (by kernel_rfl))
  f243 := Tryd.func66.trans (congrArg some (by kernel_rfl))
  f246 := Tryd.func78.trans (congrArg some (by kernel_rfl))
  f283 := Tryd.func87.trans (congrArg some (by kernel_rfl))
  f284 := Tryd.func88.trans (congrArg some (by kernel_rfl))
  f285 := Tryd.func89.trans (congrArg some (by kernel_rfl))
  f286 := Tryd.func90.trans (congrArg some (by kernel_rfl))
  f317 := Tryd.func95.trans (congrArg some (by kernel_rfl))
  f318 := Tryd.func97.trans (congrArg some (by kernel_rfl))
  f319 := Tryd.func98.trans (congrArg some (by kernel_rfl))
  f320 := Tryd.func99.trans (congrArg some (by kernel_rfl))
  f337 := Tryd.func100.trans (congrArg some (by kernel_rfl))
  f338 := Tryd.func101.trans (congrArg some (by kernel_rfl))
  t0 := Tryd.underlying0
  a0 := Tryd.isAgg0
  z0 := Tryd.sizeOf0
  v0 := Tryd.zeroValue0
  t2 := Tryd.underlying2
  a2 := Tryd.isAgg2
  z2 := Tryd.sizeOf2
  v2 := Tryd.zeroValue2
  t3 := Tryd.underlying3
  a3 := Tryd.isAgg3
  z3 := Tryd.sizeOf3
  v3 := Tryd.zeroValue3
  t4 := Tryd.underlying4
  a4 := Tryd.isAgg4
  z4 := Tryd.sizeOf4
  v4 := Tryd.zeroValue4
  t5 := Tryd.underlying5
  a5 := Tryd.isAgg5
  z5 := Tryd.sizeOf5
  v5 := Tryd.zeroValue5
  t9 := Tryd.underlying9
  a9 := Tryd.isAgg9
  z9 := Tryd.sizeOf9
  v9 := Tryd.zeroValue9
  t20 := Tryd.underlying20
  a20 := Tryd.isAgg20
  z20 := Tryd.sizeOf20
  v20 := Tryd.zeroValue20
  t37 := Tryd.underlying89
  a37 := Tryd.isAgg89
  z37 := Tryd.sizeOf89
  v37 := Tryd.zeroValue89
  t46 := Tryd.underlying121
  a46 := Tryd.isAgg121
  z46 := Tryd.sizeOf121
  v46 := Tryd.zeroValue121
  t51 := Tryd.underlying137
  a51 := Tryd.isAgg137
  z51 := Tryd.sizeOf137
  v51 := Tryd.zeroValue137
  t53 := Tryd.underlying122
  a53 := Tryd.isAgg122
  z53 := Tryd.sizeOf122
  v53 := Tryd.zeroValue122
  t171 := Tryd.underlying128
  a171 := Tryd.isAgg128
  z171 := Tryd.sizeOf128
  v171 := Tryd.zeroValue128
  t173 := Tryd.underlying131
  a173 := Tryd.isAgg131
  z173 := Tryd.sizeOf131
  v173 := Tryd.zeroValue131
  t212 := Tryd.underlying145
  a212 := Tryd.isAgg145
  z212 := Tryd.sizeOf145
  v212 := Tryd.zeroValue145
  t213 := Tryd.underlying146
  a213 := Tryd.isAgg146
  z213 := Tryd.sizeOf146
  t232 := Tryd.underlying150
  a232 := Tryd.isAgg150
  z232 := Tryd.sizeOf150
  v232 := Tryd.zeroValue150
  t233 := Tryd.underlying151
  a233 := Tryd.isAgg151
  z233 := Tryd.sizeOf151
  v233 := Tryd.zeroValue151
  g17 := by kernel_rfl
  g18 := by kernel_rfl
  g19 := by kernel_rfl
  i0 := by kernel_rfl
  i2 := by kernel_rfl
  i3 := by kernel_rfl
  i4 := by kernel_rfl
  i5 := by kernel_rfl
  i9 := by kernel_rfl
  i20 := by kernel_rfl
  i37 := by kernel_rfl
  i46 := by kernel_rfl
  i51 := by kernel_rfl
  i53 := by kernel_rfl
  i171 := by kernel_rfl
  i173 := by kernel_rfl
  i212 := by kernel_rfl
  i232 := by kernel_rfl
  i233 := by kernel_rfl
  m17 := by kernel_rfl
  m18 := by kernel_rfl
  m19 := by kernel_rfl }
open Go.RowKit Go.Sort Go.Lib in
theorem Tryd.strconv_Itoa (n : Int) (h0 : -9223372036854775808 ≤ n) (h1 : n ≤ 9223372036854775807) (w : World) (htab : Lib.TabIs Tryd.prog w "internal/strconv.uint64pow10" .u64 Lib.pow10Tab) :
    Calls Tryd.prog 55 #[.int .i64 n] w fun e w' => e = .returned (.string ⟨(Lib.itoa n).toArray⟩) ∧ ∃ k os, w' = grow (w.drewN k) os := Any.strconv_Itoa Tryd.laysM171 n h0 h1 w htab
def Tryd.laysC172_ren : Go.Shelf.Ren := ⟨fun | 172 => 54 | 244 => 64 | 245 => 65 | 247 => 73 | 279 => 74 | 280 => 75 | 281 => 76 | 282 => 77 | 287 => 84 | 316 => 85 | 171 => 55 | 205 => 86 | 321 => 93 | 322 => 94 | 243 => 66 | 246 => 78 | 283 => 87 | 284 => 88 | 285 => 89 | 286 => 90 | 129 => 96 | 317 => 95 | 318 => 97 | 319 => 98 | 320 => 99 | 337 => 100 | 338 => 101 | n => n, fun | 9 => 9 | 3 => 3 | 75 => 94 | 76 => 95 | 4 => 4 | 5 => 5 | 167 => 113 | 37 => 89 | 0 => 0 | 85 => 114 | 2 => 2 | 168 => 116 | 53 => 122 | 175 => 123 | 46 => 121 | 210 => 126 | 127 => 102 | 145 => 143 | 143 => 141 | 21 => 21 | 171 => 128 | 173 => 131 | 212 => 145 | 51 => 137 | 20 => 20 | 213 => 146 | 232 => 150 | 233 => 151 | 80 => 97 | n => n, fun | 15 => 1 | 16 => 2 | 17 => 5 | 18 => 6 | 19 => 7 | n => n⟩
theorem Tryd.laysC172 : Go.Proofs.LaysC.n172 Tryd.prog Tryd.laysC172_ren := {
  mixed := by kernel_rfl
  f129 := Tryd.func96.trans (congrArg some (by kernel_rfl))
  f171 := Tryd.func55.trans (congrArg some (by kernel_rfl))
  f172 := Tryd.func54.trans (congrArg some (by kernel_rfl))
  f205 := Tryd.func86.trans (congrArg some (by kernel_rfl))
  f243 := Tryd.func66.trans (congrArg some (by kernel_rfl))
  f244 := Tryd.func64.trans (congrArg some (by kernel_rfl))
  f245 := Tryd.func65.trans (congrArg some (by kernel_rfl))
  f246 := Tryd.func78.trans (congrArg some (by kernel_rfl))
  f247 := Tryd.func73.trans (congrArg some (by kernel_rfl))
  f279 := Tryd.func74.trans (congrArg some (by kernel_rfl))
  f280 := Tryd.func75.trans (congrArg some (by kernel_rfl))
  f281 := Tryd.func76.trans (congrArg some (by kernel_rfl))
  f282 := Tryd.func77.trans (congrArg some (by kernel_rfl))
  f283 := Tryd.func87.trans (congrArg some (by kernel_rfl))
  f284 := Tryd.func88.trans (congrArg some (by kernel_rfl))
  f285 := Tryd.func89.trans (congrArg some (by kernel_rfl))
  f286 := Tryd.func90.trans (congrArg some (by kernel_rfl))
  f287 := Tryd.func84.trans (congrArg some (by kernel_rfl))
  f316 := Tryd.func85.trans (congrArg some (by kernel_rfl))
  f317 := Tryd.func95.trans (congrArg some (by kernel_rfl))
  f318 := Tryd.func97.trans (congrArg some (by kernel_rfl))
  f319 := Tryd.func98.trans (congrArg some (by kernel_rfl))
  f320 := Tryd.func99.trans (congrArg some (by kernel_rfl))
  f321 := Tryd.func93.trans (congrArg some (by kernel_rfl))
  f322 := Tryd.func94.trans (congrArg some (by kernel_rfl))
  f337 := Tryd.func100.trans (congrArg some (by kernel_rfl))
  f338 := Tryd.func101.trans (congrArg some (by kernel_rfl))
  t0 := Tryd.underlying0
  a0 := Tryd.isAgg0
  z0 := Tryd.sizeOf0
  v0 := Tryd.zeroValue0
  t2 := Tryd.underlying2
  a2 := Tryd.isAgg2
  z2 := Tryd.sizeOf2
  v2 := Tryd.zeroValue2
  t3 := Tryd.underlying3
  a3 := Tryd.isAgg3
  z3 := Tryd.sizeOf3
  v3 := Tryd.zeroValue3
  t4 := Tryd.underlying4
  a4 := Tryd.isAgg4
  z4 := Tryd.sizeOf4
  v4 := Tryd.zeroValue4
  t5 := Tryd.underlying5
  a5 := Tryd.isAgg5
  z5 := Tryd.sizeOf5
  v5 := Tryd.zeroValue5
  t9 := Tryd.underlying9
  a9 := Tryd.isAgg9
  z9 := Tryd.sizeOf9
  v9 := Tryd.zeroValue9
  t20 := Tryd.underlying20
  a20 := Tryd.isAgg20
  z20 := Tryd.sizeOf20
  v20 := Tryd.zeroValue20
  t21 := Tryd.underlying21
  a21 := Tryd.isAgg21
  z21 := Tryd.sizeOf21
  v21 := Tryd.zeroValue21
  t37 := Tryd.underlying89
  a37 := Tryd.isAgg89
  z37 := Tryd.sizeOf89
  v37 := Tryd.zeroValue89
  t46 := Tryd.underlying121
  a46 := Tryd.isAgg121
  z46 := Tryd.sizeOf121
  v46 := Tryd.zeroValue121
  t51 := Tryd.underlying137
  a51 := Tryd.isAgg137
  z51 := Tryd.sizeOf137
  v51 := Tryd.zeroValue137
  t53 := Tryd.underlying122
  a53 := Tryd.isAgg122
  z53 := Tryd.sizeOf122
  v53 := Tryd.zeroValue122
  t75 := Tryd.underlying94
  a75 := Tryd.isAgg94
  z75 := Tryd.sizeOf94
  v75 := Tryd.zeroValue94
  t76 := Tryd.underlying95
  a76 := Tryd.isAgg95
  z76 := Tryd.sizeOf95
  v76 := Tryd.zeroValue95
  t85 := Tryd.underlying114
  a85 := Tryd.isAgg114
  z85 := Tryd.sizeOf114
  v85 := Tryd.zeroValue114
  t127 := Tryd.underlying102
  a127 := Tryd.isAgg102
  z127 := Tryd.sizeOf102
  v127 := Tryd.zeroValue102
  t143 := Tryd.underlying141
  a143 := Tryd.isAgg141
  z143 := Tryd.sizeOf141
  v143 := Tryd.zeroValue141
  t145 := Tryd.underlying143
  a145 := Tryd.isAgg143
  z145 := Tryd.sizeOf143
  v145 := Tryd.zeroValue143
  t167 := Tryd.underlying113
  a167 := Tryd.isAgg113
  z167 := Tryd.sizeOf113
  v167 := Tryd.zeroValue113
  t168 := Tryd.underlying116
  a168 := Tryd.isAgg116
  z168 := Tryd.sizeOf116
  v168 := Tryd.zeroValue116
  t171 := Tryd.underlying128
  a171 := Tryd.isAgg128
  z171 := Tryd.sizeOf128
  v171 := Tryd.zeroValue128
  t173 := Tryd.underlying131
  a173 := Tryd.isAgg131
  z173 := Tryd.sizeOf131
  v173 := Tryd.zeroValue131
  t175 := Tryd.underlying123
  a175 := Tryd.isAgg123
  z175 := Tryd.sizeOf123
  v175 := Tryd.zeroValue123
  t210 := Tryd.underlying126
  a210 := Tryd.isAgg126
  z210 := Tryd.sizeOf126
  v210 := Tryd.zeroValue126
  t212 := Tryd.underlying145
  a212 := Tryd.isAgg145
  z212 := Tryd.sizeOf145
  v212 := Tryd.zeroValue145
  t213 := Tryd.underlying146
  a213 := Tryd.isAgg146
  z213 := Tryd.sizeOf146
  t232 := Tryd.underlying150
  a232 := Tryd.isAgg150
  z232 := Tryd.sizeOf150
  v232 := Tryd.zeroValue150
  t233 := Tryd.underlying151
  a233 := Tryd.isAgg151
  z233 := Tryd.sizeOf151
  v233 := Tryd.zeroValue151
  g15 := by kernel_rfl
  g16 := by kernel_rfl
  g17 := by kernel_rfl
  g18 := by kernel_rfl
  g19 := by kernel_rfl
  t80 := Tryd.underlying97
  a80 := Tryd.isAgg97
  z80 := Tryd.sizeOf97
  v80 := Tryd.zeroValue97
  i0 := by kernel_rfl
  i2 := by kernel_rfl
  i3 := by kernel_rfl
  i4 := by kernel_rfl
  i5 := by kernel_rfl
  i9 := by kernel_rfl
  i20 := by kernel_rfl
  i21 := by kernel_rfl
  i37 := by kernel_rfl
  i46 := by kernel_rfl
  i51 := by kernel_rfl
  i53 := by kernel_rfl
  i75 := by kernel_rfl
  i76 := by kernel_rfl
  i80 := by kernel_rfl
  i85 := by kernel_rfl
  i127 := by kernel_rfl
  i143 := by kernel_rfl
  i145 := by kernel_rfl
  i167 := by kernel_rfl
  i168 := by kernel_rfl
  i171 := by kernel_rfl
  i173 := by kernel_rfl
  i175 := by kernel_rfl
  i210 := by kernel_rfl
  i212 := by kernel_rfl
  i232 := by kernel_rfl
  i233 := by kernel_rfl
  m15 := by kernel_rfl
  m16 := by kernel_rfl
  m17 := by kernel_rfl
  m18 := by kernel_rfl
  m19 := by kernel_rfl
  c0 := by kernel_rfl
  c2 := by kernel_rfl
  c3 := by kernel_rfl
  c4 := by kernel_rfl
  c5 := by kernel_rfl
  c9 := by kernel_rfl
  c20 := by kernel_rfl
  c21 := by kernel_rfl
  c37 := by kernel_rfl
  c46 := by kernel_rfl
  c51 := by kernel_rfl
  c53 := by kernel_rfl
  c75 := by kernel_rfl
  c76 := by kernel_rfl
  c80 := by kernel_rfl
  c85 := by kernel_rfl
  c127 := by kernel_rfl
  c143 := by kernel_rfl
  c145 := by kernel_rfl
  c167 := by kernel_rfl
  c168 := by kernel_rfl
  c171 := by kernel_rfl
  c173 := by kernel_rfl
  c175 := by kernel_rfl
  c210 := by kernel_rfl
  c212 := by kernel_rfl
  c213 := by kernel_rfl
  c232 := by kernel_rfl
  c233 := by kernel_rfl }
open Go.RowKit in
theorem Tryd.strconv_Atoi_ok (s : ByteArray) (hmax : s.size ≤ 9223372036854775806) (v : Int) (h : Lib.atoiAll s.data.toList = .ok v) (w : World) :
    Calls Tryd.prog 54 #[.string s] w fun e w' => e = .returned (.tuple #[.int .i64 v, .nilIface]) ∧ (w' = w ∨ ∃ t, w' = Lib.bytesWorld w 5 t) := Any.strconv_Atoi_ok Tryd.laysC172 s hmax v h w
open Go.RowKit in
theorem Tryd.strconv_Atoi_syntax_var (s : ByteArray) (hlim : s.size ≤ 281474976710656) (hn : ∀ v, Lib.atoiAll s.data.toList ≠ .ok v) (hr : Lib.atoiAll s.data.toList ≠ .range) (tp : TypeId) (p : Value) (w : World) (hvar : w.var? Tryd.prog "strconv.ErrSyntax" = some #[.iface tp p]) :
    Calls Tryd.prog 54 #[.string s] w fun e w' => ∃ N, e = .returned (.tuple #[.int .i64 0, .iface 116 (.pointer (some ⟨N, 0, none⟩))]) ∧ w.heap.size ≤ N ∧ w'.heap[N]? = some (.cells #[.string ⟨#[65, 116, 111, 105]⟩, .string s, .iface tp p] 126 (0, 0)) ∧ Below w.heap.size w w' := by
  cases h : Lib.atoiAll s.data.toList with
  | ok v => exact absurd h (hn v)
  | range => exact absurd h hr
  | _ => exact Any.strconv_Atoi_syntax_var Tryd.laysC172 s hlim h tp p w hvar
open Go.RowKit in
theorem Tryd.strconv_Atoi_range_var (s : ByteArray) (hlim : s.size ≤ 281474976710656) (h : Lib.atoiAll s.data.toList = .range) (tp : TypeId) (p : Value) (w : World) (hvar : w.var? Tryd.prog "strconv.ErrRange" = some #[.iface tp p]) :
    Calls Tryd.prog 54 #[.string s] w fun e w' => ∃ N, e = .returned (.tuple #[.int .i64 (Lib.atoiSat s.data.toList), .iface 116 (.pointer (some ⟨N, 0, none⟩))]) ∧ w.heap.size ≤ N ∧ w'.heap[N]? = some (.cells #[.string ⟨#[65, 116, 111, 105]⟩, .string s, .iface tp p] 126 (0, 0)) ∧ Below w.heap.size w w' := Any.strconv_Atoi_range_var Tryd.laysC172 s hlim h tp p w hvar
def Tryd.lays146_ren : Go.Shelf.Ren := ⟨fun | 146 => 27 | 221 => 52 | 268 => 61 | 138 => 62 | 143 => 63 | 195 => 69 | 197 => 70 | 218 => 71 | 219 => 72 | 260 => 79 | 217 => 80 | 225 => 81 | 224 => 82 | 267 => 83 | 266 => 91 | 314 => 92 | n => n, fun | 9 => 9 | 31 => 51 | 3 => 3 | 4 => 4 | 0 => 0 | 105 => 110 | 21 => 21 | 5 => 5 | 46 => 121 | 119 => 133 | 139 => 136 | 138 => 135 | 146 => 138 | 51 => 137 | n => n, fun | 1 => 0 | 3 => 3 | 4 => 4 | n => n⟩
theorem Tryd.lays146 : Go.Proofs.Lays.n146 Tryd.prog Tryd.lays146_ren := {
  mixed := by kernel_rfl
  f138 := Tryd.func62.trans (congrArg some (by kernel_rfl))
  f143 := Tryd.func63.trans (congrArg some (by kernel_rfl))
  f146 := Tryd.func27.trans (congrArg some (by kernel_rfl))
  f195 := Tryd.func69.trans (congrArg some (by kernel_rfl))
  f197 := Tryd.func70.trans (congrArg some (by kernel_rfl))
  f217 := Tryd.func80.trans (congrArg some (by kernel_rfl))
  f218 := Tryd.func71.trans (congrArg some (by kernel_rfl))
  f219 := Tryd.func72.trans (congrArg some (by kernel_rfl))
  f221 := Tryd.func52.trans (congrArg some (by kernel_rfl))
  f224 := Tryd.func82.trans (congrArg some (by kernel_rfl))
  f225 := Tryd.func81.trans (congrArg some (by kernel_rfl))
  f260 := Tryd.func79.trans (congrArg some (by kernel_rfl))
  f266 := Tryd.func91.trans (congrArg some (by kernel_rfl))
  f267 := Tryd.func83.trans (congrArg some (by kernel_rfl))
  f268 := Tryd.func61.trans (congrArg some (by kernel_rfl))
  f314 := Tryd.func92.trans (congrArg some (by kernel_rfl))
  t0 := Tryd.underlying0
  a0 := Tryd.isAgg0
  z0 := Tryd.sizeOf0
  v0 := Tryd.zeroValue0
  t3 := Tryd.underlying3
  a3 := Tryd.isAgg3
  z3 := Tryd.sizeOf3
  v3 := Tryd.zeroValue3
  t4 := Tryd.underlying4
  a4 := Tryd.isAgg4
  z4 := Tryd.sizeOf4
  v4 := Tryd.zeroValue4
  t5 := Tryd.underlying5
  a5 := Tryd.isAgg5
  z5 := Tryd.sizeOf5
  v5 := Tryd.zeroValue5
  t9 := Tryd.underlying9
  a9 := Tryd.isAgg9
  z9 := Tryd.sizeOf9
  v9 := Tryd.zeroValue9
  t21 := Tryd.underlying21
  a21 := Tryd.isAgg21
  z21 := Tryd.sizeOf21
  v21 := Tryd.zeroValue21
  t31 := Tryd.underlying51
  a31 := Tryd.isAgg51
  z31 := Tryd.sizeOf51
  v31 := Tryd.zeroValue51
  t46 := Tryd.underlying121
  a46 := Tryd.isAgg121
  z46 := Tryd.sizeOf121
  v46 := Tryd.zeroValue121
  t51 := Tryd.underlying137
  a51 := Tryd.isAgg137
  z51 := Tryd.sizeOf137
  v51 := Tryd.zeroValue137
  t105 := Tryd.underlying110
  a105 := Tryd.isAgg110
  z105 := Tryd.sizeOf110
  v105 := Tryd.zeroValue110
  t119 := Tryd.underlying133
  a119 := Tryd.isAgg133
  z119 := Tryd.sizeOf133
  t138 := Tryd.underlying135
  a138 := Tryd.isAgg135
  z138 := Tryd.sizeOf135
  v138 := Tryd.zeroValue135
  t139 := Tryd.underlying136
  a139 := Tryd.isAgg136
  z139 := Tryd.sizeOf136
  v139 := Tryd.zeroValue136
  t146 := Tryd.underlying138
  a146 := Tryd.isAgg138
  z146 := Tryd.sizeOf138
  v146 := Tryd.zeroValue138
  g1 := by kernel_rfl
  g3 := by kernel_rfl
  g4 := by kernel_rfl }
open Go.RowKit Go.Lib in
theorem Tryd.strings_Split (s sep : ByteArray) (m : Int) (w : World) (hs : s.size < 4294967281) (hm : w.cell? ⟨0, 0, none⟩ = some (.int .i64 m)) (h1 : 1 ≤ sep.size) :
    Calls Tryd.prog 27 #[.string s, .string sep] w fun e w' =>
      e = .returned (.slice (some ⟨w.heap.size, 0, none⟩) (Lib.countB s sep + 1) (Lib.countB s sep + 1)) ∧ w' = w.alloc (.cells ((Lib.splitB sep 0 (Lib.countB s sep) s).map Value.string).toArray 9) := Any.strings_Split Tryd.lays146 (by kernel_rfl) s sep m w hs hm h1
def Tryd.lays111_ren : Go.Shelf.Ren := ⟨fun | 111 => 48 | n => n, fun | 28 => 27 | 3 => 3 | 4 => 4 | 0 => 0 | n => n, fun | n => n⟩
theorem Tryd.lays111 : Go.Proofs.Lays.n111 Tryd.prog Tryd.lays111_ren := {
  mixed := by kernel_rfl
  f111 := Tryd.func48.trans (congrArg some (by kernel_rfl))
  t0 := Tryd.underlying0
  a0 := Tryd.isAgg0
  z0 := Tryd.sizeOf0
  v0 := Tryd.zeroValue0
  t3 := Tryd.underlying3
  a3 := Tryd.isAgg3
  z3 := Tryd.sizeOf3
  v3 := Tryd.zeroValue3
  t4 := Tryd.underlying4
  a4 := Tryd.isAgg4
  z4 := Tryd.sizeOf4
  v4 := Tryd.zeroValue4
  t28 := Tryd.underlying27
  a28 := Tryd.isAgg27
  z28 := Tryd.sizeOf27
  v28 := Tryd.zeroValue27 }
open Go.RowKit Go.Lib in
theorem Tryd.slices_Equal_int (b1 o1 n c b2 o2 m d : Nat) (xs ys : List Int) (w : World) (hx : n ≤ xs.length) (hy : m ≤ ys.length) (hbig : n ≤ 9223372036854775807) (hbig2 : m ≤ 9223372036854775807) (hc1 : ∀ j, j < xs.length → w.cell? ⟨b1, o1 + j, none⟩ = some (.int .i64 (xs.getD j 0))) (hc2 : ∀ j, j < ys.length → w.cell? ⟨b2, o2 + j, none⟩ = some (.int .i64 (ys.getD j 0))) :
    Calls Tryd.prog 48 #[.slice (some ⟨b1, o1, none⟩) n c, .slice (some ⟨b2, o2, none⟩) m d] w fun e w' => e = .returned (.bool (xs.take n == ys.take m)) ∧ ∃ q, w' = w.drewN q := Any.slices_Equal_int Tryd.lays111 b1 o1 n c b2 o2 m d xs ys w hx hy hbig hbig2 hc1 hc2
open Go.RowKit Go.Lib in
theorem Tryd.slices_Equal_int_empty (a1 a2 : Option Addr) (c m d : Nat) (w : World) (hbig2 : m ≤ 9223372036854775807) :
    Calls Tryd.prog 48 #[.slice a1 0 c, .slice a2 m d] w fun e w' => e = .returned (.bool (decide (m = 0))) ∧ w' = w := Any.slices_Equal_int_empty Tryd.lays111 a1 a2 c m d w hbig2
open Go.RowKit Go.Lib in
theorem Tryd.slices_Equal_int_lens (a1 a2 : Option Addr) (n c m d : Nat) (w : World) (hnm : n ≠ m) :
    Calls Tryd.prog 48 #[.slice a1 n c, .slice a2 m d] w fun e w' => e = .returned (.bool false) ∧ w' = w := Any.slices_Equal_int_lens Tryd.lays111 a1 a2 n c m d w hnm
def Tryd.laysSlH10_f26_ren : Go.Shelf.Ren := ⟨fun | 10 => 26 | 6 => 51 | n => n, fun | 22 => 51 | 23 => 9 | 25 => 45 | 3 => 3 | 4 => 4 | 0 => 0 | n => n, fun | n => n⟩
theorem Tryd.laysSlH10_f26 : Go.Proofs.SlLaysH.n10 Tryd.prog Tryd.laysSlH10_f26_ren := {
  mixed := by kernel_rfl
  f6 := ⟨Tryd.f51.name, by decide, Tryd.func51.trans (congrArg some (by kernel_rfl))⟩
  f10 := ⟨Tryd.f26.name, by decide, Tryd.func26.trans (congrArg some (by kernel_rfl))⟩
  t0 := Tryd.underlying0
  a0 := Tryd.isAgg0
  z0 := Tryd.sizeOf0
  v0 := Tryd.zeroValue0
  t3 := Tryd.underlying3
  a3 := Tryd.isAgg3
  z3 := Tryd.sizeOf3
  v3 := Tryd.zeroValue3
  t4 := Tryd.underlying4
  a4 := Tryd.isAgg4
  z4 := Tryd.sizeOf4
  v4 := Tryd.zeroValue4
  t22 := Tryd.underlying51
  a22 := Tryd.isAgg51
  z22 := Tryd.sizeOf51
  v22 := Tryd.zeroValue51
  a23 := Tryd.isAgg9
  z23 := Tryd.sizeOf9
  t25 := Tryd.underlying45
  a25 := Tryd.isAgg45
  z25 := Tryd.sizeOf45
  v25 := Tryd.zeroValue45 }
open Go.RowKit Go.Lib Go.Sort in
theorem Tryd.slices_DeleteFunc {α : Type} [Inhabited α] (enc : α → Value) (hO : OneCell enc) (p : α → Bool) (g : Nat) (lb : Array Value) (eg : ∀ args w, (callFunc g args).run Tryd.prog w = .ok (.enter g args) w) (zr : α) (v23 : ∀ w, (zeroValue 9).run Tryd.prog w = .ok (enc zr) w) (blk off cap : Nat) (d : Array α) (w : World) (hp : PredAt Tryd.prog g lb enc p w) (hpo : PredOver Tryd.prog g lb enc p blk off d.size w) (hH : Holds enc w blk off d) (hsz : d.size ≤ 9223372036854775807) (hcap : d.size ≤ cap) :
    Calls Tryd.prog 26 #[.slice (some ⟨blk, off, none⟩) d.size cap, .func (.func g) #[] lb] w fun e w' => e = .returned (.slice (some ⟨blk, off, none⟩) (d.toList.filter fun x => !p x).length cap) ∧ ∃ q, w' = putRow enc (Sort.ahead w q) blk off ((d.toList.filter fun x => !p x) ++ List.replicate (d.size - (d.toList.filter fun x => !p x).length) zr).toArray := AnyE.slices_DeleteFunc Tryd.laysSlH10_f26 enc hO p g lb eg zr v23 blk off cap d w hp hpo hH hsz hcap
end Go.Proofs
