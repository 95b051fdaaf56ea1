/- Contracts of the shelf, laid at this program in plain words by the kit's lay-shelf.mjs and lay-plain.mjs; cut to those that are used by cutplain.py. -/
import Derived.Shelf.Strings.Builder1
import Derived.Shelf.Strings.Builder2
import Derived.Shelf.Strings.OnBuilder
import Derived.Shelf.Small.Wraps
import Derived.Shelf.Strings.BuilderF
import Derived.Shelf.Strings.BuilderK
import Derived.Shelf.Utf8.RuneCount
import Derived.Shelf.Strings.Builder2Cap
import Derived.Shelf.Strconv.Atoi
import Derived.Shelf.Strconv.Itoa0
import Derived.Shelf.Strconv.Itoa1
import Derived.Shelf.LaysM
import Derived.Shelf.Strconv.Itoa2
import Derived.Shelf.Strconv.Itoa3
import Derived.Shelf.Strconv.AtoiErrFast
import Derived.Shelf.Strconv.ParseIntEmpty
import Derived.Shelf.Strconv.AtoiFail
import Derived.Shelf.Strconv.Clone
import Derived.Shelf.Strconv.SyntaxError
import Derived.Shelf.LaysC
import Derived.Shelf.Strconv.ToError
import Derived.Shelf.Strconv.Lower
import Derived.Shelf.Strconv.ParseUint10
import Derived.Shelf.Strconv.ParseUint10Empty
import Derived.Shelf.Strconv.ParseUint10Any
import Derived.Shelf.Strconv.ParseInt10
import Derived.Shelf.Strconv.AtoiLong
import Derived.Shelf.Strconv.AtoiInnerAll
import Derived.Shelf.Strconv.RangeError
import Derived.Shelf.Strconv.ToErrorRange
import Derived.Shelf.Strconv.AtoiAll
import Derived.Shelf.Strconv.ParseUintEmpty
import Derived.Shelf.Strconv.ParseUint10b64
import Derived.Shelf.Strconv.ParseUint10b32
import Derived.Shelf.Strconv.ParseUint10b16
import Derived.Shelf.Strconv.ParseUint10b8
import Derived.Shelf.Strings.Search1
import Derived.Shelf.Strings.Search2
import Derived.Shelf.Strings.Search3
import Derived.Shelf.Strings.Count
import Derived.Shelf.Strings.Shaped
import Derived.Shelf.Strings.Prefix
import Derived.Shelf.Strings.Split
import Derived.Shelf.Strings.Fields
import Derived.Shelf.Strings.SplitShaped
import Derived.Shelf.Unicode.Latin
import Derived.Shelf.Unicode.Decode
import Derived.Shelf.Strings.RuneCount
import Derived.Shelf.Strings.Explode
import Derived.Shelf.Bits.Mul64
import Derived.Shelf.Unicode.DecodeSlow
import Derived.Shelf.Unicode.DecodeAny
import Derived.Shelf.Unicode.Is16White
import Derived.Shelf.Unicode.IsSpaceAny
import Derived.Shelf.Unicode.Is16WhiteD
import Derived.Shelf.Unicode.Is16Any
import Derived.Shelf.Unicode.Is32Any
import Derived.Shelf.Unicode.ExclAny
import Derived.Shelf.Slices.Turned
import Derived.Shelf.Slices.Reverse
import Derived.Shelf.Slices.Equal
import Derived.Ground.Names2Prog
import Derived.Shelf.Slices.Clone
import Derived.Shelf.Slices.SearchI
import Derived.Shelf.Slices.Cells
import Derived.Shelf.Slices.Empties2
import Derived.Ground.SlgnProg
import Derived.Shelf.SlicesE.Reverse
import Derived.Shelf.SlicesE.Clone
import Derived.Test.YtgmljgcmfooniaaGreatDoorProg
namespace Go.Proofs
open Go.Shelf
def Tryz.lays156_ren : Go.Shelf.Ren := ⟨fun | 156 => 54 | 165 => 77 | 166 => 78 | 169 => 79 | 240 => 109 | 241 => 110 | 276 => 129 | 277 => 130 | n => n, fun | 31 => 23 | 9 => 9 | 3 => 3 | 4 => 4 | 0 => 0 | 20 => 20 | 72 => 148 | 76 => 76 | 70 => 145 | 37 => 146 | 75 => 75 | 127 => 177 | 164 => 210 | 5 => 5 | 80 => 150 | n => n, fun | n => n⟩
theorem Tryz.lays156 : Go.Proofs.Lays.n156 Tryz.prog Tryz.lays156_ren := {
  mixed := by kernel_rfl
  f156 := Tryz.func54.trans (congrArg some (by kernel_rfl))
  f165 := Tryz.func77.trans (congrArg some (by kernel_rfl))
  f166 := Tryz.func78.trans (congrArg some (by kernel_rfl))
  f169 := Tryz.func79.trans (congrArg some (by kernel_rfl))
  f240 := Tryz.func109.trans (congrArg some (by kernel_rfl))
  f241 := Tryz.func110.trans (congrArg some (by kernel_rfl))
  f276 := Tryz.func129.trans (congrArg some (by kernel_rfl))
  f277 := Tryz.func130.trans (congrArg some (by kernel_rfl))
  t0 := Tryz.underlying0
  a0 := Tryz.isAgg0
  z0 := Tryz.sizeOf0
  v0 := Tryz.zeroValue0
  t3 := Tryz.underlying3
  a3 := Tryz.isAgg3
  z3 := Tryz.sizeOf3
  v3 := Tryz.zeroValue3
  t4 := Tryz.underlying4
  a4 := Tryz.isAgg4
  z4 := Tryz.sizeOf4
  v4 := Tryz.zeroValue4
  t9 := Tryz.underlying9
  a9 := Tryz.isAgg9
  z9 := Tryz.sizeOf9
  v9 := Tryz.zeroValue9
  t20 := Tryz.underlying20
  a20 := Tryz.isAgg20
  z20 := Tryz.sizeOf20
  v20 := Tryz.zeroValue20
  t31 := Tryz.underlying23
  a31 := Tryz.isAgg23
  z31 := Tryz.sizeOf23
  v31 := Tryz.zeroValue23
  t37 := Tryz.underlying146
  a37 := Tryz.isAgg146
  z37 := Tryz.sizeOf146
  v37 := Tryz.zeroValue146
  t70 := Tryz.underlying145
  a70 := Tryz.isAgg145
  z70 := Tryz.sizeOf145
  v70 := Tryz.zeroValue145
  t72 := Tryz.underlying148
  a72 := Tryz.isAgg148
  z72 := Tryz.sizeOf148
  v72 := Tryz.zeroValue148
  t75 := Tryz.underlying75
  a75 := Tryz.isAgg75
  z75 := Tryz.sizeOf75
  v75 := Tryz.zeroValue75
  t76 := Tryz.underlying76
  a76 := Tryz.isAgg76
  z76 := Tryz.sizeOf76
  v76 := Tryz.zeroValue76
  t127 := Tryz.underlying177
  a127 := Tryz.isAgg177
  z127 := Tryz.sizeOf177
  v127 := Tryz.zeroValue177
  t164 := Tryz.underlying210
  a164 := Tryz.isAgg210
  z164 := Tryz.sizeOf210
  v164 := Tryz.zeroValue210 }
theorem Tryz.Builder_Extra_156 : Builder.Extra Tryz.prog Tryz.lays156_ren := {
  sizeBuilder := by kernel_rfl
  liesBuilder := by kernel_rfl
  t5 := Tryz.underlying5
  a5 := Tryz.isAgg5
  z5 := Tryz.sizeOf5
  v5 := Tryz.zeroValue5
  infoByte := by kernel_rfl
  cellsByte := by kernel_rfl
  sizeByte := by kernel_rfl
  neB5 := by decide }
open Go.RowKit in
/-- strings.Join: "Join concatenates the elements of its first argument to create a single string. The separator string sep is placed between elements in the resulting string.": HOWEVER MANY ELEMENTS. Below the heap's end the world is as it was. (LAID: no walk: one application.) -/
theorem Tryz.strings_Join (bk o c : Nat) (xs : List ByteArray) (sep : ByteArray) (w : World) (hcells : ∀ (j : Nat) x, xs[j]? = some x → w.cell? ⟨bk, o + j, none⟩ = some (.string x)) (hbk : bk < w.heap.size) (hN : xs.length ≤ 140737488355328) (hcap : xs.length ≤ c) (hlen : (Lib.join (xs.map (·.data.toList)) sep.data.toList).length ≤ 140737488355328) :
    Calls Tryz.prog 54 #[.slice (some ⟨bk, o, none⟩) xs.length c, .string sep] w fun e w' => e = .returned (.string ⟨(Lib.join (xs.map (·.data.toList)) sep.data.toList).toArray⟩) ∧ Below w.heap.size w w' := Any.strings_Join Tryz.lays156 Tryz.Builder_Extra_156 bk o c xs sep w hcells hbk hN hcap hlen
def Tryz.laysM171_ren : Go.Shelf.Ren := ⟨fun | 171 => 30 | 243 => 55 | 246 => 80 | 283 => 111 | 284 => 112 | 285 => 113 | 286 => 114 | 129 => 132 | 317 => 131 | 318 => 133 | 319 => 134 | 320 => 135 | 337 => 145 | 338 => 146 | n => n, fun | 3 => 3 | 9 => 9 | 2 => 2 | 4 => 4 | 171 => 178 | 0 => 0 | 53 => 179 | 37 => 146 | 5 => 5 | 173 => 182 | 212 => 214 | 51 => 157 | 20 => 20 | 213 => 215 | 46 => 201 | 232 => 233 | 233 => 234 | n => n, fun | 17 => 4 | 18 => 8 | 19 => 9 | n => n⟩
theorem Tryz.laysM171 : Go.Proofs.LaysM.n171 Tryz.prog Tryz.laysM171_ren := {
  mixed := by kernel_rfl
  f129 := Tryz.func132.trans (congrArg some (by kernel_rfl))
  f171 := Tryz.func30.trans (congrArg some (by kernel_rfl))
  f243 := Tryz.func55.trans (congrArg some (by kernel_rfl))
  f246 := Tryz.func80.trans (congrArg some (by kernel_rfl))
  f283 := Tryz.func111.trans (congrArg some (by kernel_rfl))
  f284 := Tryz.func112.trans (congrArg some (by kernel_rfl))
  f285 := Tryz.func113.trans (congrArg some (by kernel_rfl))
  f286 := Tryz.func114.trans (congrArg some (by kernel_rfl))
  f317 := Tryz.func131.trans (congrArg some (by kernel_rfl))
  f318 := Tryz.func133.trans (congrArg some (by kernel_rfl))
  f319 := Tryz.func134.trans (congrArg some (by kernel_rfl))
  f320 := Tryz.func135.trans (congrArg some (by kernel_rfl))
  f337 := Tryz.func145.trans (congrArg some (by kernel_rfl))
  f338 := Tryz.func146.trans (congrArg some (by kernel_rfl))
  t0 := Tryz.underlying0
  a0 := Tryz.isAgg0
  z0 := Tryz.sizeOf0
  v0 := Tryz.zeroValue0
  t2 := Tryz.underlying2
  a2 := Tryz.isAgg2
  z2 := Tryz.sizeOf2
  v2 := Tryz.zeroValue2
  t3 := Tryz.underlying3
  a3 := Tryz.isAgg3
  z3 := Tryz.sizeOf3
  v3 := Tryz.zeroValue3
  t4 := Tryz.underlying4
  a4 := Tryz.isAgg4
  z4 := Tryz.sizeOf4
  v4 := Tryz.zeroValue4
  t5 := Tryz.underlying5
  a5 := Tryz.isAgg5
  z5 := Tryz.sizeOf5
  v5 := Tryz.zeroValue5
  t9 := Tryz.underlying9
  a9 := Tryz.isAgg9
  z9 := Tryz.sizeOf9
  v9 := Tryz.zeroValue9
  t20 := Tryz.underlying20
  a20 := Tryz.isAgg20
  z20 := Tryz.sizeOf20
  v20 := Tryz.zeroValue20
  t37 := Tryz.underlying146
  a37 := Tryz.isAgg146
  z37 := Tryz.sizeOf146
  v37 := Tryz.zeroValue146
  t46 := Tryz.underlying201
  a46 := Tryz.isAgg201
  z46 := Tryz.sizeOf201
  v46 := Tryz.zeroValue201
  t51 := Tryz.underlying157
  a51 := Tryz.isAgg157
  z51 := Tryz.sizeOf157
  v51 := Tryz.zeroValue157
  t53 := Tryz.underlying179
  a53 := Tryz.isAgg179
  z53 := Tryz.sizeOf179
  v53 := Tryz.zeroValue179
  t171 := Tryz.underlying178
  a171 := Tryz.isAgg178
  z171 := Tryz.sizeOf178
  v171 := Tryz.zeroValue178
  t173 := Tryz.underlying182
  a173 := Tryz.isAgg182
  z173 := Tryz.sizeOf182
  v173 := Tryz.zeroValue182
  t212 := Tryz.underlying214
  a212 := Tryz.isAgg214
  z212 := Tryz.sizeOf214
  v212 := Tryz.zeroValue214
  t213 := Tryz.underlying215
  a213 := Tryz.isAgg215
  z213 := Tryz.sizeOf215
  t232 := Tryz.underlying233
  a232 := Tryz.isAgg233
  z232 := Tryz.sizeOf233
  v232 := Tryz.zeroValue233
  t233 := Tryz.underlying234
  a233 := Tryz.isAgg234
  z233 := Tryz.sizeOf234
  v233 := Tryz.zeroValue234
  g17 := by kernel_rfl
  g18 := by kernel_rfl
  g19 := by kernel_rfl
  i0 := by kernel_rfl
  i2 := by kernel_rfl
  i3 := by kernel_rfl
  i4 := by kernel_rfl
  i5 := by kernel_rfl
  i9 := by kernel_rfl
  i20 := by kernel_rfl
  i37 := by kernel_rfl
  i46 := by kernel_rfl
  i51 := by kernel_rfl
  i53 := by kernel_rfl
  i171 := by kernel_rfl
  i173 := by kernel_rfl
  i212 := by kernel_rfl
  i232 := by kernel_rfl
  i233 := by kernel_rfl
  m17 := by kernel_rfl
  m18 := by kernel_rfl
  m19 := by kernel_rfl }
open Go.RowKit Go.Sort Go.Lib in
/-- strconv.Itoa: "Itoa is equivalent to FormatInt(int64(i), 10).": i's DECIMAL NUMERAL ('Lib.itoa': a '-' where i is negative, then the digits), FOR EVERY int. The world behind the call: the world before it, new blocks behind the heap (the library's 'var a [24]byte'), draws. (LAID: no walk: one application.) -/
theorem Tryz.strconv_Itoa (n : Int) (h0 : -9223372036854775808 ≤ n) (h1 : n ≤ 9223372036854775807) (w : World) (htab : Lib.TabIs Tryz.prog w "internal/strconv.uint64pow10" .u64 Lib.pow10Tab) :
    Calls Tryz.prog 30 #[.int .i64 n] w fun e w' => e = .returned (.string ⟨(Lib.itoa n).toArray⟩) ∧ ∃ k os, w' = grow (w.drewN k) os := Any.strconv_Itoa Tryz.laysM171 n h0 h1 w htab
def Tryz.lays171_ren : Go.Shelf.Ren := ⟨fun | 171 => 30 | 243 => 55 | 246 => 80 | 283 => 111 | 284 => 112 | 285 => 113 | 286 => 114 | 129 => 132 | 317 => 131 | 318 => 133 | 319 => 134 | 320 => 135 | 337 => 145 | 338 => 146 | n => n, fun | 3 => 3 | 9 => 9 | 2 => 2 | 4 => 4 | 171 => 178 | 0 => 0 | 53 => 179 | 37 => 146 | 5 => 5 | 173 => 182 | 212 => 214 | 51 => 157 | 20 => 20 | 213 => 215 | 46 => 201 | 232 => 233 | 233 => 234 | n => n, fun | 17 => 4 | 18 => 8 | 19 => 9 | n => n⟩
theorem Tryz.lays171 : Go.Proofs.Lays.n171 Tryz.prog Tryz.lays171_ren := {
  mixed := by kernel_rfl
  f129 := Tryz.func132.trans (congrArg some (by kernel_rfl))
  f171 := Tryz.func30.trans (congrArg some (by kernel_rfl))
  f243 := Tryz.func55.trans (congrArg some (by kernel_rfl))
  f246 := Tryz.func80.trans (congrArg some (by kernel_rfl))
  f283 := Tryz.func111.trans (congrArg some (by kernel_rfl))
  f284 := Tryz.func112.trans (congrArg some (by kernel_rfl))
  f285 := Tryz.func113.trans (congrArg some (by kernel_rfl))
  f286 := Tryz.func114.trans (congrArg some (by kernel_rfl))
  f317 := Tryz.func131.trans (congrArg some (by kernel_rfl))
  f318 := Tryz.func133.trans (congrArg some (by kernel_rfl))
  f319 := Tryz.func134.trans (congrArg some (by kernel_rfl))
  f320 := Tryz.func135.trans (congrArg some (by kernel_rfl))
  f337 := Tryz.func145.trans (congrArg some (by kernel_rfl))
  f338 := Tryz.func146.trans (congrArg some (by kernel_rfl))
  t0 := Tryz.underlying0
  a0 := Tryz.isAgg0
  z0 := Tryz.sizeOf0
  v0 := Tryz.zeroValue0
  t2 := Tryz.underlying2
  a2 := Tryz.isAgg2
  z2 := Tryz.sizeOf2
  v2 := Tryz.zeroValue2
  t3 := Tryz.underlying3
  a3 := Tryz.isAgg3
  z3 := Tryz.sizeOf3
  v3 := Tryz.zeroValue3
  t4 := Tryz.underlying4
  a4 := Tryz.isAgg4
  z4 := Tryz.sizeOf4
  v4 := Tryz.zeroValue4
  t5 := Tryz.underlying5
  a5 := Tryz.isAgg5
  z5 := Tryz.sizeOf5
  v5 := Tryz.zeroValue5
  t9 := Tryz.underlying9
  a9 := Tryz.isAgg9
  z9 := Tryz.sizeOf9
  v9 := Tryz.zeroValue9
  t20 := Tryz.underlying20
  a20 := Tryz.isAgg20
  z20 := Tryz.sizeOf20
  v20 := Tryz.zeroValue20
  t37 := Tryz.underlying146
  a37 := Tryz.isAgg146
  z37 := Tryz.sizeOf146
  v37 := Tryz.zeroValue146
  t46 := Tryz.underlying201
  a46 := Tryz.isAgg201
  z46 := Tryz.sizeOf201
  v46 := Tryz.zeroValue201
  t51 := Tryz.underlying157
  a51 := Tryz.isAgg157
  z51 := Tryz.sizeOf157
  v51 := Tryz.zeroValue157
  t53 := Tryz.underlying179
  a53 := Tryz.isAgg179
  z53 := Tryz.sizeOf179
  v53 := Tryz.zeroValue179
  t171 := Tryz.underlying178
  a171 := Tryz.isAgg178
  z171 := Tryz.sizeOf178
  v171 := Tryz.zeroValue178
  t173 := Tryz.underlying182
  a173 := Tryz.isAgg182
  z173 := Tryz.sizeOf182
  v173 := Tryz.zeroValue182
  t212 := Tryz.underlying214
  a212 := Tryz.isAgg214
  z212 := Tryz.sizeOf214
  v212 := Tryz.zeroValue214
  t213 := Tryz.underlying215
  a213 := Tryz.isAgg215
  z213 := Tryz.sizeOf215
  t232 := Tryz.underlying233
  a232 := Tryz.isAgg233
  z232 := Tryz.sizeOf233
  v232 := Tryz.zeroValue233
  t233 := Tryz.underlying234
  a233 := Tryz.isAgg234
  z233 := Tryz.sizeOf234
  v233 := Tryz.zeroValue234
  g17 := by kernel_rfl
  g18 := by kernel_rfl
  g19 := by kernel_rfl }
open Go.RowKit Go.Sort Go.Lib in
/-- THE ROAD WITHOUT THE TABLE: 0 <= i < 100: NO PREMISE ON THE WORLD, AND THE WORLD IS AS IT WAS: a row that keeps its argument in that range need list no table ('laid = []'). (LAID: no walk: one application.) -/
theorem Tryz.strconv_Itoa_small (i : Nat) (hi : i < 100) (w : World) :
    Calls Tryz.prog 30 #[.int .i64 i] w fun e w' => e = .returned (.string ⟨(Lib.decDigits i).toArray⟩) ∧ w' = w := Any.strconv_Itoa_small Tryz.lays171 i hi w
def Tryz.laysC172_ren : Go.Shelf.Ren := ⟨fun | 172 => 35 | 244 => 59 | 245 => 60 | 247 => 85 | 279 => 86 | 280 => 87 | 281 => 88 | 282 => 89 | 287 => 121 | 316 => 122 | 171 => 30 | 205 => 123 | 321 => 141 | 322 => 142 | 243 => 55 | 246 => 80 | 283 => 111 | 284 => 112 | 285 => 113 | 286 => 114 | 129 => 132 | 317 => 131 | 318 => 133 | 319 => 134 | 320 => 135 | 337 => 145 | 338 => 146 | n => n, fun | 9 => 9 | 3 => 3 | 75 => 75 | 76 => 76 | 4 => 4 | 5 => 5 | 167 => 160 | 37 => 146 | 0 => 0 | 85 => 161 | 2 => 2 | 168 => 163 | 53 => 179 | 175 => 199 | 46 => 201 | 210 => 204 | 127 => 177 | 145 => 223 | 143 => 221 | 21 => 21 | 171 => 178 | 173 => 182 | 212 => 214 | 51 => 157 | 20 => 20 | 213 => 215 | 232 => 233 | 233 => 234 | 80 => 150 | n => n, fun | 15 => 2 | 16 => 3 | 17 => 4 | 18 => 8 | 19 => 9 | n => n⟩
theorem Tryz.laysC172 : Go.Proofs.LaysC.n172 Tryz.prog Tryz.laysC172_ren := {
  mixed := by kernel_rfl
  f129 := Tryz.func132.trans (congrArg some (by kernel_rfl))
  f171 := Tryz.func30.trans (congrArg some (by kernel_rfl))
  f172 := Tryz.func35.trans (congrArg some (by kernel_rfl))
  f205 := Tryz.func123.trans (congrArg some (by kernel_rfl))
  f243 := Tryz.func55.trans (congrArg some (by kernel_rfl))
  f244 := Tryz.func59.trans (congrArg some (by kernel_rfl))
  f245 := Tryz.func60.trans (congrArg some (by kernel_rfl))
  f246 := Tryz.func80.trans (congrArg some (by kernel_rfl))
  f247 := Tryz.func85.trans (congrArg some (by kernel_rfl))
  f279 := Tryz.func86.trans (congrArg some (by kernel_rfl))
  f280 := Tryz.func87.trans (congrArg some (by kernel_rfl))
  f281 := Tryz.func88.trans (congrArg some (by kernel_rfl))
  f282 := Tryz.func89.trans (congrArg some (by kernel_rfl))
  f283 := Tryz.func111.trans (congrArg some (by kernel_rfl))
  f284 := Tryz.func112.trans (congrArg some (by kernel_rfl))
  f285 := Tryz.func113.trans (congrArg some (by kernel_rfl))
  f286 := Tryz.func114.trans (congrArg some (by kernel_rfl))
  f287 := Tryz.func121.trans (congrArg some (by kernel_rfl))
  f316 := Tryz.func122.trans (congrArg some (by kernel_rfl))
  f317 := Tryz.func131.trans (congrArg some (by kernel_rfl))
  f318 := Tryz.func133.trans (congrArg some (by kernel_rfl))
  f319 := Tryz.func134.trans (congrArg some (by kernel_rfl))
  f320 := Tryz.func135.trans (congrArg some (by kernel_rfl))
  f321 := Tryz.func141.trans (congrArg some (by kernel_rfl))
  f322 := Tryz.func142.trans (congrArg some (by kernel_rfl))
  f337 := Tryz.func145.trans (congrArg some (by kernel_rfl))
  f338 := Tryz.func146.trans (congrArg some (by kernel_rfl))
  t0 := Tryz.underlying0
  a0 := Tryz.isAgg0
  z0 := Tryz.sizeOf0
  v0 := Tryz.zeroValue0
  t2 := Tryz.underlying2
  a2 := Tryz.isAgg2
  z2 := Tryz.sizeOf2
  v2 := Tryz.zeroValue2
  t3 := Tryz.underlying3
  a3 := Tryz.isAgg3
  z3 := Tryz.sizeOf3
  v3 := Tryz.zeroValue3
  t4 := Tryz.underlying4
  a4 := Tryz.isAgg4
  z4 := Tryz.sizeOf4
  v4 := Tryz.zeroValue4
  t5 := Tryz.underlying5
  a5 := Tryz.isAgg5
  z5 := Tryz.sizeOf5
  v5 := Tryz.zeroValue5
  t9 := Tryz.underlying9
  a9 := Tryz.isAgg9
  z9 := Tryz.sizeOf9
  v9 := Tryz.zeroValue9
  t20 := Tryz.underlying20
  a20 := Tryz.isAgg20
  z20 := Tryz.sizeOf20
  v20 := Tryz.zeroValue20
  t21 := Tryz.underlying21
  a21 := Tryz.isAgg21
  z21 := Tryz.sizeOf21
  v21 := Tryz.zeroValue21
  t37 := Tryz.underlying146
  a37 := Tryz.isAgg146
  z37 := Tryz.sizeOf146
  v37 := Tryz.zeroValue146
  t46 := Tryz.underlying201
  a46 := Tryz.isAgg201
  z46 := Tryz.sizeOf201
  v46 := Tryz.zeroValue201
  t51 := Tryz.underlying157
  a51 := Tryz.isAgg157
  z51 := Tryz.sizeOf157
  v51 := Tryz.zeroValue157
  t53 := Tryz.underlying179
  a53 := Tryz.isAgg179
  z53 := Tryz.sizeOf179
  v53 := Tryz.zeroValue179
  t75 := Tryz.underlying75
  a75 := Tryz.isAgg75
  z75 := Tryz.sizeOf75
  v75 := Tryz.zeroValue75
  t76 := Tryz.underlying76
  a76 := Tryz.isAgg76
  z76 := Tryz.sizeOf76
  v76 := Tryz.zeroValue76
  t85 := Tryz.underlying161
  a85 := Tryz.isAgg161
  z85 := Tryz.sizeOf161
  v85 := Tryz.zeroValue161
  t127 := Tryz.underlying177
  a127 := Tryz.isAgg177
  z127 := Tryz.sizeOf177
  v127 := Tryz.zeroValue177
  t143 := Tryz.underlying221
  a143 := Tryz.isAgg221
  z143 := Tryz.sizeOf221
  v143 := Tryz.zeroValue221
  t145 := Tryz.underlying223
  a145 := Tryz.isAgg223
  z145 := Tryz.sizeOf223
  v145 := Tryz.zeroValue223
  t167 := Tryz.underlying160
  a167 := Tryz.isAgg160
  z167 := Tryz.sizeOf160
  v167 := Tryz.zeroValue160
  t168 := Tryz.underlying163
  a168 := Tryz.isAgg163
  z168 := Tryz.sizeOf163
  v168 := Tryz.zeroValue163
  t171 := Tryz.underlying178
  a171 := Tryz.isAgg178
  z171 := Tryz.sizeOf178
  v171 := Tryz.zeroValue178
  t173 := Tryz.underlying182
  a173 := Tryz.isAgg182
  z173 := Tryz.sizeOf182
  v173 := Tryz.zeroValue182
  t175 := Tryz.underlying199
  a175 := Tryz.isAgg199
  z175 := Tryz.sizeOf199
  v175 := Tryz.zeroValue199
  t210 := Tryz.underlying204
  a210 := Tryz.isAgg204
  z210 := Tryz.sizeOf204
  v210 := Tryz.zeroValue204
  t212 := Tryz.underlying214
  a212 := Tryz.isAgg214
  z212 := Tryz.sizeOf214
  v212 := Tryz.zeroValue214
  t213 := Tryz.underlying215
  a213 := Tryz.isAgg215
  z213 := Tryz.sizeOf215
  t232 := Tryz.underlying233
  a232 := Tryz.isAgg233
  z232 := Tryz.sizeOf233
  v232 := Tryz.zeroValue233
  t233 := Tryz.underlying234
  a233 := Tryz.isAgg234
  z233 := Tryz.sizeOf234
  v233 := Tryz.zeroValue234
  g15 := by kernel_rfl
  g16 := by kernel_rfl
  g17 := by kernel_rfl
  g18 := by kernel_rfl
  g19 := by kernel_rfl
  t80 := Tryz.underlying150
  a80 := Tryz.isAgg150
  z80 := Tryz.sizeOf150
  v80 := Tryz.zeroValue150
  i0 := by kernel_rfl
  i2 := by kernel_rfl
  i3 := by kernel_rfl
  i4 := by kernel_rfl
  i5 := by kernel_rfl
  i9 := by kernel_rfl
  i20 := by kernel_rfl
  i21 := by kernel_rfl
  i37 := by kernel_rfl
  i46 := by kernel_rfl
  i51 := by kernel_rfl
  i53 := by kernel_rfl
  i75 := by kernel_rfl
  i76 := by kernel_rfl
  i80 := by kernel_rfl
  i85 := by kernel_rfl
  i127 := by kernel_rfl
  i143 := by kernel_rfl
  i145 := by kernel_rfl
  i167 := by kernel_rfl
  i168 := by kernel_rfl
  i171 := by kernel_rfl
  i173 := by kernel_rfl
  i175 := by kernel_rfl
  i210 := by kernel_rfl
  i212 := by kernel_rfl
  i232 := by kernel_rfl
  i233 := by kernel_rfl
  m15 := by kernel_rfl
  m16 := by kernel_rfl
  m17 := by kernel_rfl
  m18 := by kernel_rfl
  m19 := by kernel_rfl
  c0 := by kernel_rfl
  c2 := by kernel_rfl
  c3 := by kernel_rfl
  c4 := by kernel_rfl
  c5 := by kernel_rfl
  c9 := by kernel_rfl
  c20 := by kernel_rfl
  c21 := by kernel_rfl
  c37 := by kernel_rfl
  c46 := by kernel_rfl
  c51 := by kernel_rfl
  c53 := by kernel_rfl
  c75 := by kernel_rfl
  c76 := by kernel_rfl
  c80 := by kernel_rfl
  c85 := by kernel_rfl
  c127 := by kernel_rfl
  c143 := by kernel_rfl
  c145 := by kernel_rfl
  c167 := by kernel_rfl
  c168 := by kernel_rfl
  c171 := by kernel_rfl
  c173 := by kernel_rfl
  c175 := by kernel_rfl
  c210 := by kernel_rfl
  c212 := by kernel_rfl
  c213 := by kernel_rfl
  c232 := by kernel_rfl
  c233 := by kernel_rfl }
open Go.RowKit in
/-- strconv.Atoi, AT EVERY STRING THAT SPELLS AN int ('Lib.atoiAll .. = .ok v'; of whatever length: leading zeros count): v, AND NO ERROR. The world: as it was, or with the one new row that '[]byte(..)' lays. (LAID: no walk: one application.) -/
theorem Tryz.strconv_Atoi_ok (s : ByteArray) (hmax : s.size ≤ 9223372036854775806) (v : Int) (h : Lib.atoiAll s.data.toList = .ok v) (w : World) :
    Calls Tryz.prog 35 #[.string s] w fun e w' => e = .returned (.tuple #[.int .i64 v, .nilIface]) ∧ (w' = w ∨ ∃ t, w' = Lib.bytesWorld w 5 t) := Any.strconv_Atoi_ok Tryz.laysC172 s hmax v h w
open Go.RowKit in
/-- strconv.Atoi, AT EVERY NUMERAL THAT NO int HOLDS ('.range'): THE GREATEST OR THE LEAST int, BY THE SIGN ('Lib.atoiSat'), AND AN ERROR THAT IS NOT nil: a *NumError in a new block N: {Func: "Atoi", Num: s's bytes, Err: what the variable ErrRange holds}. Of what was there nothing has turned. (LAID: no walk: one application.) -/
theorem Tryz.strconv_Atoi_range (s : ByteArray) (hlim : s.size ≤ 281474976710656) (h : Lib.atoiAll s.data.toList = .range) (ev : Value) (w : World) (hv : w.cell? ⟨3, 0, none⟩ = some ev) (hev : ev = .nilIface ∨ ∃ te pe, ev = .iface te pe) :
    Calls Tryz.prog 35 #[.string s] w fun e w' => ∃ N, e = .returned (.tuple #[.int .i64 (Lib.atoiSat s.data.toList), .iface 163 (.pointer (some ⟨N, 0, none⟩))]) ∧ w.heap.size ≤ N ∧ w'.heap[N]? = some (.cells #[.string ⟨#[65, 116, 111, 105]⟩, .string s, ev] 204 (0, 0)) ∧ Below w.heap.size w w' := Any.strconv_Atoi_range Tryz.laysC172 s hlim h ev w hv hev
def Tryz.lays99_ren : Go.Shelf.Ren := ⟨fun | 99 => 9 | 206 => 31 | n => n, fun | 9 => 9 | 4 => 4 | 3 => 3 | n => n, fun | n => n⟩
theorem Tryz.lays99 : Go.Proofs.Lays.n99 Tryz.prog Tryz.lays99_ren := {
  mixed := by kernel_rfl
  f99 := Tryz.func9.trans (congrArg some (by kernel_rfl))
  f206 := Tryz.func31.trans (congrArg some (by kernel_rfl))
  t3 := Tryz.underlying3
  a3 := Tryz.isAgg3
  z3 := Tryz.sizeOf3
  v3 := Tryz.zeroValue3
  t4 := Tryz.underlying4
  a4 := Tryz.isAgg4
  z4 := Tryz.sizeOf4
  v4 := Tryz.zeroValue4
  t9 := Tryz.underlying9
  a9 := Tryz.isAgg9
  z9 := Tryz.sizeOf9
  v9 := Tryz.zeroValue9 }
open Go.RowKit Go.Lib in
/-- strings.HasPrefix: "HasPrefix reports whether the string s begins with prefix.": IT RETURNS 'Lib.hasPrefix s prefix'; the world is as it was. (LAID: no walk: one application.) -/
theorem Tryz.strings_HasPrefix (s p : ByteArray) (w : World) :
    Calls Tryz.prog 9 #[.string s, .string p] w fun e w' => e = .returned (.bool (Lib.hasPrefix s.data.toList p.data.toList)) ∧ w' = w := Any.strings_HasPrefix Tryz.lays99 s p w
def Tryz.lays146_ren : Go.Shelf.Ren := ⟨fun | 146 => 33 | 221 => 56 | 268 => 81 | 138 => 82 | 143 => 83 | 195 => 115 | 197 => 116 | 218 => 117 | 219 => 118 | 260 => 136 | 217 => 137 | 225 => 138 | 224 => 139 | 267 => 140 | 266 => 147 | 314 => 148 | n => n, fun | 9 => 9 | 31 => 23 | 3 => 3 | 4 => 4 | 0 => 0 | 105 => 185 | 21 => 21 | 5 => 5 | 46 => 201 | 119 => 110 | 139 => 231 | 138 => 230 | 146 => 224 | 51 => 157 | n => n, fun | 1 => 5 | 3 => 6 | 4 => 7 | n => n⟩
theorem Tryz.lays146 : Go.Proofs.Lays.n146 Tryz.prog Tryz.lays146_ren := {
  mixed := by kernel_rfl
  f138 := Tryz.func82.trans (congrArg some (by kernel_rfl))
  f143 := Tryz.func83.trans (congrArg some (by kernel_rfl))
  f146 := Tryz.func33.trans (congrArg some (by kernel_rfl))
  f195 := Tryz.func115.trans (congrArg some (by kernel_rfl))
  f197 := Tryz.func116.trans (congrArg some (by kernel_rfl))
  f217 := Tryz.func137.trans (congrArg some (by kernel_rfl))
  f218 := Tryz.func117.trans (congrArg some (by kernel_rfl))
  f219 := Tryz.func118.trans (congrArg some (by kernel_rfl))
  f221 := Tryz.func56.trans (congrArg some (by kernel_rfl))
  f224 := Tryz.func139.trans (congrArg some (by kernel_rfl))
  f225 := Tryz.func138.trans (congrArg some (by kernel_rfl))
  f260 := Tryz.func136.trans (congrArg some (by kernel_rfl))
  f266 := Tryz.func147.trans (congrArg some (by kernel_rfl))
  f267 := Tryz.func140.trans (congrArg some (by kernel_rfl))
  f268 := Tryz.func81.trans (congrArg some (by kernel_rfl))
  f314 := Tryz.func148.trans (congrArg some (by kernel_rfl))
  t0 := Tryz.underlying0
  a0 := Tryz.isAgg0
  z0 := Tryz.sizeOf0
  v0 := Tryz.zeroValue0
  t3 := Tryz.underlying3
  a3 := Tryz.isAgg3
  z3 := Tryz.sizeOf3
  v3 := Tryz.zeroValue3
  t4 := Tryz.underlying4
  a4 := Tryz.isAgg4
  z4 := Tryz.sizeOf4
  v4 := Tryz.zeroValue4
  t5 := Tryz.underlying5
  a5 := Tryz.isAgg5
  z5 := Tryz.sizeOf5
  v5 := Tryz.zeroValue5
  t9 := Tryz.underlying9
  a9 := Tryz.isAgg9
  z9 := Tryz.sizeOf9
  v9 := Tryz.zeroValue9
  t21 := Tryz.underlying21
  a21 := Tryz.isAgg21
  z21 := Tryz.sizeOf21
  v21 := Tryz.zeroValue21
  t31 := Tryz.underlying23
  a31 := Tryz.isAgg23
  z31 := Tryz.sizeOf23
  v31 := Tryz.zeroValue23
  t46 := Tryz.underlying201
  a46 := Tryz.isAgg201
  z46 := Tryz.sizeOf201
  v46 := Tryz.zeroValue201
  t51 := Tryz.underlying157
  a51 := Tryz.isAgg157
  z51 := Tryz.sizeOf157
  v51 := Tryz.zeroValue157
  t105 := Tryz.underlying185
  a105 := Tryz.isAgg185
  z105 := Tryz.sizeOf185
  v105 := Tryz.zeroValue185
  t119 := Tryz.underlying110
  a119 := Tryz.isAgg110
  z119 := Tryz.sizeOf110
  t138 := Tryz.underlying230
  a138 := Tryz.isAgg230
  z138 := Tryz.sizeOf230
  v138 := Tryz.zeroValue230
  t139 := Tryz.underlying231
  a139 := Tryz.isAgg231
  z139 := Tryz.sizeOf231
  v139 := Tryz.zeroValue231
  t146 := Tryz.underlying224
  a146 := Tryz.isAgg224
  z146 := Tryz.sizeOf224
  v146 := Tryz.zeroValue224
  g1 := by kernel_rfl
  g3 := by kernel_rfl
  g4 := by kernel_rfl }
open Go.RowKit Go.Lib in
/-- strings.Split. (LAID: no walk: one application.) -/
theorem Tryz.strings_Split (s sep : ByteArray) (m : Int) (w : World) (hs : s.size < 4294967281) (hm : w.cell? ⟨5, 0, none⟩ = some (.int .i64 m)) (h1 : 1 ≤ sep.size) :
    Calls Tryz.prog 33 #[.string s, .string sep] w fun e w' =>
      e = .returned (.slice (some ⟨w.heap.size, 0, none⟩) (Lib.countB s sep + 1) (Lib.countB s sep + 1)) ∧ w' = w.alloc (.cells ((Lib.splitB sep 0 (Lib.countB s sep) s).map Value.string).toArray 9) := Any.strings_Split Tryz.lays146 (by kernel_rfl) s sep m w hs hm h1
def Tryz.laysM157_ren : Go.Shelf.Ren := ⟨fun | 157 => 34 | 229 => 57 | 199 => 58 | 261 => 84 | 311 => 119 | 312 => 120 | n => n, fun | 9 => 9 | 31 => 23 | 3 => 3 | 5 => 5 | 4 => 4 | 119 => 110 | 0 => 0 | 40 => 112 | 152 => 154 | 21 => 21 | 154 => 156 | 51 => 157 | 141 => 159 | 196 => 191 | 193 => 188 | 198 => 194 | 49 => 192 | 194 => 189 | 201 => 197 | 226 => 217 | 46 => 201 | 227 => 218 | n => n, fun | 0 => 0 | 6 => 1 | n => n⟩
theorem Tryz.laysM157 : Go.Proofs.LaysM.n157 Tryz.prog Tryz.laysM157_ren := {
  mixed := by kernel_rfl
  f157 := Tryz.func34.trans (congrArg some (by kernel_rfl))
  f199 := Tryz.func58.trans (congrArg some (by kernel_rfl))
  f229 := Tryz.func57.trans (congrArg some (by kernel_rfl))
  f261 := Tryz.func84.trans (congrArg some (by kernel_rfl))
  f311 := Tryz.func119.trans (congrArg some (by kernel_rfl))
  f312 := Tryz.func120.trans (congrArg some (by kernel_rfl))
  t0 := Tryz.underlying0
  a0 := Tryz.isAgg0
  z0 := Tryz.sizeOf0
  v0 := Tryz.zeroValue0
  t3 := Tryz.underlying3
  a3 := Tryz.isAgg3
  z3 := Tryz.sizeOf3
  v3 := Tryz.zeroValue3
  t4 := Tryz.underlying4
  a4 := Tryz.isAgg4
  z4 := Tryz.sizeOf4
  v4 := Tryz.zeroValue4
  t5 := Tryz.underlying5
  a5 := Tryz.isAgg5
  z5 := Tryz.sizeOf5
  v5 := Tryz.zeroValue5
  t9 := Tryz.underlying9
  a9 := Tryz.isAgg9
  z9 := Tryz.sizeOf9
  v9 := Tryz.zeroValue9
  t21 := Tryz.underlying21
  a21 := Tryz.isAgg21
  z21 := Tryz.sizeOf21
  v21 := Tryz.zeroValue21
  t31 := Tryz.underlying23
  a31 := Tryz.isAgg23
  z31 := Tryz.sizeOf23
  v31 := Tryz.zeroValue23
  t40 := Tryz.underlying112
  a40 := Tryz.isAgg112
  z40 := Tryz.sizeOf112
  v40 := Tryz.zeroValue112
  t46 := Tryz.underlying201
  a46 := Tryz.isAgg201
  z46 := Tryz.sizeOf201
  v46 := Tryz.zeroValue201
  t49 := Tryz.underlying192
  a49 := Tryz.isAgg192
  z49 := Tryz.sizeOf192
  v49 := Tryz.zeroValue192
  t51 := Tryz.underlying157
  a51 := Tryz.isAgg157
  z51 := Tryz.sizeOf157
  v51 := Tryz.zeroValue157
  t119 := Tryz.underlying110
  a119 := Tryz.isAgg110
  z119 := Tryz.sizeOf110
  t141 := Tryz.underlying159
  a141 := Tryz.isAgg159
  z141 := Tryz.sizeOf159
  v141 := Tryz.zeroValue159
  t152 := Tryz.underlying154
  a152 := Tryz.isAgg154
  z152 := Tryz.sizeOf154
  v152 := Tryz.zeroValue154
  t154 := Tryz.underlying156
  a154 := Tryz.isAgg156
  z154 := Tryz.sizeOf156
  v154 := Tryz.zeroValue156
  t193 := Tryz.underlying188
  a193 := Tryz.isAgg188
  z193 := Tryz.sizeOf188
  v193 := Tryz.zeroValue188
  t194 := Tryz.underlying189
  a194 := Tryz.isAgg189
  z194 := Tryz.sizeOf189
  v194 := Tryz.zeroValue189
  t196 := Tryz.underlying191
  a196 := Tryz.isAgg191
  z196 := Tryz.sizeOf191
  v196 := Tryz.zeroValue191
  t198 := Tryz.underlying194
  a198 := Tryz.isAgg194
  z198 := Tryz.sizeOf194
  v198 := Tryz.zeroValue194
  t201 := Tryz.underlying197
  a201 := Tryz.isAgg197
  z201 := Tryz.sizeOf197
  v201 := Tryz.zeroValue197
  t226 := Tryz.underlying217
  a226 := Tryz.isAgg217
  z226 := Tryz.sizeOf217
  v226 := Tryz.zeroValue217
  t227 := Tryz.underlying218
  a227 := Tryz.isAgg218
  z227 := Tryz.sizeOf218
  v227 := Tryz.zeroValue218
  g0 := by kernel_rfl
  g6 := by kernel_rfl
  i0 := by kernel_rfl
  i3 := by kernel_rfl
  i4 := by kernel_rfl
  i5 := by kernel_rfl
  i9 := by kernel_rfl
  i21 := by kernel_rfl
  i31 := by kernel_rfl
  i40 := by kernel_rfl
  i46 := by kernel_rfl
  i49 := by kernel_rfl
  i51 := by kernel_rfl
  i141 := by kernel_rfl
  i152 := by kernel_rfl
  i154 := by kernel_rfl
  i193 := by kernel_rfl
  i194 := by kernel_rfl
  i196 := by kernel_rfl
  i198 := by kernel_rfl
  i201 := by kernel_rfl
  i226 := by kernel_rfl
  i227 := by kernel_rfl
  m0 := by kernel_rfl
  m6 := by kernel_rfl }
open Go.RowKit Go.Lib in
/-- strings.Fields on ASCII bytes. (The table: 'Lib.TabIs', as strings.TrimSpace's contract asks it.) (LAID: no walk: one application.) -/
theorem Tryz.strings_Fields_laid (s : ByteArray) (w : World) (hs : s.size < 4294967281) (hascii : ∀ (j : Nat) b, s.data.toList[j]? = some b → b.toNat < 128) (htab : Lib.TabIs Tryz.prog w "strings.asciiSpace" .u8 Lib.asciiSpaceTab) :
    Calls Tryz.prog 34 #[.string s] w fun e w' =>
      e = .returned (.slice (some ⟨w.heap.size, 0, none⟩) (Lib.fields s.data.toList).length (Lib.fields s.data.toList).length) ∧ w' = w.alloc (.cells ((Lib.fields s.data.toList).map fun l => Value.string ⟨l.toArray⟩).toArray 9) := Any.strings_Fields_laid Tryz.laysM157 s w hs hascii htab
end Go.Proofs
