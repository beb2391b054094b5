/- Contracts of the library at this dump (laid by the shelf). -/
import Derived.Shelf.Strings.Builder1
import Derived.Shelf.Strings.Builder2
import Derived.Shelf.Strings.OnBuilder
import Derived.Shelf.Small.Strs
import Derived.Shelf.Strings.BuilderF
import Derived.Shelf.Strings.BuilderK
import Derived.Shelf.Utf8.RuneCount
import Derived.Shelf.Strconv.Atoi
import Derived.Shelf.Strconv.Itoa0
import Derived.Shelf.Strconv.Itoa1
import Derived.Shelf.LaysM
import Derived.Shelf.Strconv.Itoa2
import Derived.Shelf.Strconv.Itoa3
import Derived.Shelf.Strconv.AtoiErrFast
import Derived.Shelf.Strconv.ParseIntEmpty
import Derived.Shelf.Strconv.AtoiFail
import Derived.Shelf.Strconv.Clone
import Derived.Shelf.Strconv.SyntaxError
import Derived.Shelf.LaysC
import Derived.Shelf.Strconv.ToError
import Derived.Shelf.Strconv.AtoiErr
import Derived.Shelf.Strconv.ErrVar
import Derived.Shelf.Strconv.Lower
import Derived.Shelf.Strconv.ParseUint10
import Derived.Shelf.Strconv.ParseUint10Empty
import Derived.Shelf.Strconv.ParseUint10Any
import Derived.Shelf.Strconv.ParseInt10
import Derived.Shelf.Strconv.AtoiLong
import Derived.Shelf.Strconv.AtoiInnerAll
import Derived.Shelf.Strconv.RangeError
import Derived.Shelf.Strconv.ToErrorRange
import Derived.Shelf.Strconv.AtoiAll
import Derived.Shelf.Strconv.ErrVarAll
import Derived.Shelf.Strings.Search1
import Derived.Shelf.Strings.Search2
import Derived.Shelf.Strings.Search3
import Derived.Shelf.Strings.Count
import Derived.Shelf.Strings.Shaped
import Derived.Shelf.Strings.Prefix
import Derived.Shelf.Strings.Split
import Derived.Shelf.Strings.SplitShaped
import Derived.Shelf.Unicode.Decode
import Derived.Shelf.Strings.RuneCount
import Derived.Shelf.Strings.Explode
import Derived.Shelf.Unicode.DecodeSlow
import Derived.Shelf.Unicode.DecodeAny
import Derived.Shelf.Slices.Equal
import Derived.Test.YtklfieidipobpaaDoorProg
import Derived.Test.YtklfieidipobpaaDoorJuF
set_option linter.unusedVariables false
set_option linter.unusedSimpArgs false
set_option linter.unnecessarySimpa false
set_option linter.unusedSectionVars false
set_option linter.all false
/- Contracts of the library at this dump (laid by the shelf). -/
namespace Go.Proofs
open Go.Shelf
def Tryd.lays170_ren : Go.Shelf.Ren := ⟨fun | 170 => 40 | n => n, fun | 70 => 82 | 3 => 3 | 0 => 0 | 72 => 85 | 37 => 83 | 5 => 5 | n => n, fun | n => n⟩
theorem Tryd.lays170 : Go.Proofs.Lays.n170 Tryd.prog Tryd.lays170_ren := {
  mixed := by kernel_rfl
  f170 := Tryd.func40.trans (congrArg some (by kernel_rfl))
  t0 := Tryd.underlying0
  a0 := Tryd.isAgg0
  z0 := Tryd.sizeOf0
  v0 := Tryd.zeroValue0
  t3 := Tryd.underlying3
  a3 := Tryd.isAgg3
  z3 := Tryd.sizeOf3
  v3 := Tryd.zeroValue3
  t37 := Tryd.underlying83
  a37 := Tryd.isAgg83
  z37 := Tryd.sizeOf83
  v37 := Tryd.zeroValue83
  t70 := Tryd.underlying82
  a70 := Tryd.isAgg82
  z70 := Tryd.sizeOf82
  v70 := Tryd.zeroValue82
  t72 := Tryd.underlying85
  a72 := Tryd.isAgg85
  z72 := Tryd.sizeOf85
  v72 := Tryd.zeroValue85 }
open Go.RowKit in
/-- (*strings.Builder).Len: "Len returns the number of accumulated bytes; b.Len() == len(b.String()).": the world is as it was. (LAID: no walk: one application.) -/
theorem Tryd.Builder_Len (B b : Nat) (bs : List Value) (w : World) (h : Lib.IsBuilder 85 5 B b bs w) :
    Calls Tryd.prog 40 #[.pointer (some ⟨b, 0, none⟩)] w fun e w' => e = .returned (.int .i64 bs.length) ∧ w' = w := Any.Builder_Len Tryd.lays170 B b bs w h
def Tryd.lays169_ren : Go.Shelf.Ren := ⟨fun | 169 => 41 | n => n, fun | 70 => 82 | 9 => 9 | 0 => 0 | 72 => 85 | 37 => 83 | 127 => 92 | 3 => 3 | 5 => 5 | n => n, fun | n => n⟩
theorem Tryd.lays169 : Go.Proofs.Lays.n169 Tryd.prog Tryd.lays169_ren := {
  mixed := by kernel_rfl
  f169 := Tryd.func41.trans (congrArg some (by kernel_rfl))
  t0 := Tryd.underlying0
  a0 := Tryd.isAgg0
  z0 := Tryd.sizeOf0
  v0 := Tryd.zeroValue0
  t3 := Tryd.underlying3
  a3 := Tryd.isAgg3
  z3 := Tryd.sizeOf3
  v3 := Tryd.zeroValue3
  t9 := Tryd.underlying9
  a9 := Tryd.isAgg9
  z9 := Tryd.sizeOf9
  v9 := Tryd.zeroValue9
  t37 := Tryd.underlying83
  a37 := Tryd.isAgg83
  z37 := Tryd.sizeOf83
  v37 := Tryd.zeroValue83
  t70 := Tryd.underlying82
  a70 := Tryd.isAgg82
  z70 := Tryd.sizeOf82
  v70 := Tryd.zeroValue82
  t72 := Tryd.underlying85
  a72 := Tryd.isAgg85
  z72 := Tryd.sizeOf85
  v72 := Tryd.zeroValue85
  t127 := Tryd.underlying92
  a127 := Tryd.isAgg92
  z127 := Tryd.sizeOf92
  v127 := Tryd.zeroValue92 }
theorem Tryd.Builder_Extra_169 : Builder.Extra Tryd.prog Tryd.lays169_ren := {
  sizeBuilder := by kernel_rfl
  liesBuilder := by kernel_rfl
  t5 := Tryd.underlying5
  a5 := Tryd.isAgg5
  z5 := Tryd.sizeOf5
  v5 := Tryd.zeroValue5
  infoByte := by kernel_rfl
  cellsByte := by kernel_rfl
  sizeByte := by kernel_rfl
  neB5 := by decide }
open Go.RowKit in
/-- (*strings.Builder).String: "String returns the accumulated string.": WHATEVER THE BUILDER HOLDS. (LAID: no walk: one application.) -/
theorem Tryd.Builder_String_any (B b : Nat) (l : List UInt8) (w : World) (h : Lib.IsBuilder 85 5 B b (Lib.byteCells l) w) (hBw : B ≤ w.heap.size) :
    Calls Tryd.prog 41 #[.pointer (some ⟨b, 0, none⟩)] w fun e w' => e = .returned (.string ⟨l.toArray⟩) ∧ Below B w w' := Any.Builder_String_any Tryd.lays169 Tryd.Builder_Extra_169 B b l w h hBw
def Tryd.lays156_ren : Go.Shelf.Ren := ⟨fun | 156 => 32 | 165 => 49 | 166 => 39 | 169 => 41 | 240 => 51 | 241 => 63 | 276 => 64 | 277 => 77 | n => n, fun | 31 => 56 | 9 => 9 | 3 => 3 | 4 => 4 | 0 => 0 | 20 => 20 | 72 => 85 | 76 => 61 | 70 => 82 | 37 => 83 | 75 => 60 | 127 => 92 | 164 => 103 | 5 => 5 | 80 => 86 | n => n, fun | n => n⟩
theorem Tryd.lays156 : Go.Proofs.Lays.n156 Tryd.prog Tryd.lays156_ren := {
  mixed := by kernel_rfl
  f156 := Tryd.func32.trans (congrArg some (by kernel_rfl))
  f165 := Tryd.func49.trans (congrArg some (by kernel_rfl))
  f166 := Tryd.func39.trans (congrArg some (by kernel_rfl))
  f169 := Tryd.func41.trans (congrArg some (by kernel_rfl))
  f240 := Tryd.func51.trans (congrArg some (by kernel_rfl))
  f241 := Tryd.func63.trans (congrArg some (by kernel_rfl))
  f276 := Tryd.func64.trans (congrArg some (by kernel_rfl))
  f277 := Tryd.func77.trans (congrArg some (by kernel_rfl))
  t0 := Tryd.underlying0
  a0 := Tryd.isAgg0
  z0 := Tryd.sizeOf0
  v0 := Tryd.zeroValue0
  t3 := Tryd.underlying3
  a3 := Tryd.isAgg3
  z3 := Tryd.sizeOf3
  v3 := Tryd.zeroValue3
  t4 := Tryd.underlying4
  a4 := Tryd.isAgg4
  z4 := Tryd.sizeOf4
  v4 := Tryd.zeroValue4
  t9 := Tryd.underlying9
  a9 := Tryd.isAgg9
  z9 := Tryd.sizeOf9
  v9 := Tryd.zeroValue9
  t20 := Tryd.underlying20
  a20 := Tryd.isAgg20
  z20 := Tryd.sizeOf20
  v20 := Tryd.zeroValue20
  t31 := Tryd.underlying56
  a31 := Tryd.isAgg56
  z31 := Tryd.sizeOf56
  v31 := Tryd.zeroValue56
  t37 := Tryd.underlying83
  a37 := Tryd.isAgg83
  z37 := Tryd.sizeOf83
  v37 := Tryd.zeroValue83
  t70 := Tryd.underlying82
  a70 := Tryd.isAgg82
  z70 := Tryd.sizeOf82
  v70 := Tryd.zeroValue82
  t72 := Tryd.underlying85
  a72 := Tryd.isAgg85
  z72 := Tryd.sizeOf85
  v72 := Tryd.zeroValue85
  t75 := Tryd.underlying60
  a75 := Tryd.isAgg60
  z75 := Tryd.sizeOf60
  v75 := Tryd.zeroValue60
  t76 := Tryd.underlying61
  a76 := Tryd.isAgg61
  z76 := Tryd.sizeOf61
  v76 := Tryd.zeroValue61
  t127 := Tryd.underlying92
  a127 := Tryd.isAgg92
  z127 := Tryd.sizeOf92
  v127 := Tryd.zeroValue92
  t164 := Tryd.underlying103
  a164 := Tryd.isAgg103
  z164 := Tryd.sizeOf103
  v164 := Tryd.zeroValue103 }
theorem Tryd.Builder_Extra_156 : Builder.Extra Tryd.prog Tryd.lays156_ren := {
  sizeBuilder := by kernel_rfl
  liesBuilder := by kernel_rfl
  t5 := Tryd.underlying5
  a5 := Tryd.isAgg5
  z5 := Tryd.sizeOf5
  v5 := Tryd.zeroValue5
  infoByte := by kernel_rfl
  cellsByte := by kernel_rfl
  sizeByte := by kernel_rfl
  neB5 := by decide }
open Go.RowKit in
/-- No element: the empty string; the world is as it was. (Whatever the slice's address and capacity: a nil slice too.) (LAID: no walk: one application.) -/
theorem Tryd.strings_Join_none (a : Option Addr) (c : Nat) (sep : ByteArray) (w : World) :
    Calls Tryd.prog 32 #[.slice a 0 c, .string sep] w fun e w' => e = .returned (.string ⟨#[]⟩) ∧ w' = w := Any.strings_Join_none Tryd.lays156 Tryd.Builder_Extra_156 a c sep w
open Go.RowKit in
/-- strings.Join: "Join concatenates the elements of its first argument to create a single string. The separator string sep is placed between elements in the resulting string.": HOWEVER MANY ELEMENTS. Below the heap's end the world is as it was. (LAID: no walk: one application.) -/
theorem Tryd.strings_Join (bk o c : Nat) (xs : List ByteArray) (sep : ByteArray) (w : World) (hcells : ∀ (j : Nat) x, xs[j]? = some x → w.cell? ⟨bk, o + j, none⟩ = some (.string x)) (hbk : bk < w.heap.size) (hN : xs.length ≤ 140737488355328) (hcap : xs.length ≤ c) (hlen : (Lib.join (xs.map (·.data.toList)) sep.data.toList).length ≤ 140737488355328) :
    Calls Tryd.prog 32 #[.slice (some ⟨bk, o, none⟩) xs.length c, .string sep] w fun e w' => e = .returned (.string ⟨(Lib.join (xs.map (·.data.toList)) sep.data.toList).toArray⟩) ∧ Below w.heap.size w w' := Any.strings_Join Tryd.lays156 Tryd.Builder_Extra_156 bk o c xs sep w hcells hbk hN hcap hlen
def Tryd.lays137_ren : Go.Shelf.Ren := ⟨fun | 137 => 46 | 217 => 60 | 266 => 72 | n => n, fun | 9 => 9 | 5 => 5 | 3 => 3 | n => n, fun | n => n⟩
theorem Tryd.lays137 : Go.Proofs.Lays.n137 Tryd.prog Tryd.lays137_ren := {
  mixed := by kernel_rfl
  f137 := Tryd.func46.trans (congrArg some (by kernel_rfl))
  f217 := Tryd.func60.trans (congrArg some (by kernel_rfl))
  f266 := Tryd.func72.trans (congrArg some (by kernel_rfl))
  t3 := Tryd.underlying3
  a3 := Tryd.isAgg3
  z3 := Tryd.sizeOf3
  v3 := Tryd.zeroValue3
  t5 := Tryd.underlying5
  a5 := Tryd.isAgg5
  z5 := Tryd.sizeOf5
  v5 := Tryd.zeroValue5
  t9 := Tryd.underlying9
  a9 := Tryd.isAgg9
  z9 := Tryd.sizeOf9
  v9 := Tryd.zeroValue9 }
open Go.RowKit in
/-- strings.IndexByte: "IndexByte returns the index of the first instance of c in s, or -1 if c is not present in s.": IT RETURNS 'Lib.indexByte s c'; the world is as it was. (LAID: no walk: one application.) -/
theorem Tryd.strings_IndexByte (s : ByteArray) (c : Int) (w : World) :
    Calls Tryd.prog 46 #[.string s, .int .u8 c] w fun e w' => e = .returned (.int .i64 (Lib.indexByte s.data.toList c.toNat.toUInt8)) ∧ w' = w := Any.strings_IndexByte Tryd.lays137 s c w
def Tryd.laysM171_ren : Go.Shelf.Ren := ⟨fun | 171 => 31 | 243 => 48 | 246 => 62 | 283 => 73 | 284 => 74 | 285 => 75 | 286 => 76 | 129 => 85 | 317 => 84 | 318 => 86 | 319 => 87 | 320 => 88 | 337 => 90 | 338 => 91 | n => n, fun | 3 => 3 | 9 => 9 | 2 => 2 | 4 => 4 | 171 => 115 | 0 => 0 | 53 => 87 | 37 => 83 | 5 => 5 | 173 => 118 | 212 => 127 | 51 => 128 | 20 => 20 | 213 => 129 | 46 => 110 | 232 => 139 | 233 => 140 | n => n, fun | 17 => 3 | 18 => 6 | 19 => 7 | n => n⟩
theorem Tryd.laysM171 : Go.Proofs.LaysM.n171 Tryd.prog Tryd.laysM171_ren := {
  mixed := by kernel_rfl
  f129 := Tryd.func85.trans (congrArg some (by kernel_rfl))
  f171 := Tryd.func31.trans (congrArg some (by kernel_rfl))
  f243 := Tryd.func48.trans (congrArg some (by kernel_rfl))
  f246 := Tryd.func62.trans (congrArg some (by kernel_rfl))
  f283 := Tryd.func73.trans (congrArg some (by kernel_rfl))
  f284 := Tryd.func74.trans (congrArg some (by kernel_rfl))
  f285 := Tryd.func75.trans (congrArg some (by kernel_rfl))
  f286 := Tryd.func76.trans (congrArg some (by kernel_rfl))
  f317 := Tryd.func84.trans (congrArg some (by kernel_rfl))
  f318 := Tryd.func86.trans (congrArg some (by kernel_rfl))
  f319 := Tryd.func87.trans (congrArg some (by kernel_rfl))
  f320 := Tryd.func88.trans (congrArg some (by kernel_rfl))
  f337 := Tryd.func90.trans (congrArg some (by kernel_rfl))
  f338 := Tryd.func91.trans (congrArg some (by kernel_rfl))
  t0 := Tryd.underlying0
  a0 := Tryd.isAgg0
  z0 := Tryd.sizeOf0
  v0 := Tryd.zeroValue0
  t2 := Tryd.underlying2
  a2 := Tryd.isAgg2
  z2 := Tryd.sizeOf2
  v2 := Tryd.zeroValue2
  t3 := Tryd.underlying3
  a3 := Tryd.isAgg3
  z3 := Tryd.sizeOf3
  v3 := Tryd.zeroValue3
  t4 := Tryd.underlying4
  a4 := Tryd.isAgg4
  z4 := Tryd.sizeOf4
  v4 := Tryd.zeroValue4
  t5 := Tryd.underlying5
  a5 := Tryd.isAgg5
  z5 := Tryd.sizeOf5
  v5 := Tryd.zeroValue5
  t9 := Tryd.underlying9
  a9 := Tryd.isAgg9
  z9 := Tryd.sizeOf9
  v9 := Tryd.zeroValue9
  t20 := Tryd.underlying20
  a20 := Tryd.isAgg20
  z20 := Tryd.sizeOf20
  v20 := Tryd.zeroValue20
  t37 := Tryd.underlying83
  a37 := Tryd.isAgg83
  z37 := Tryd.sizeOf83
  v37 := Tryd.zeroValue83
  t46 := Tryd.underlying110
  a46 := Tryd.isAgg110
  z46 := Tryd.sizeOf110
  v46 := Tryd.zeroValue110
  t51 := Tryd.underlying128
  a51 := Tryd.isAgg128
  z51 := Tryd.sizeOf128
  v51 := Tryd.zeroValue128
  t53 := Tryd.underlying87
  a53 := Tryd.isAgg87
  z53 := Tryd.sizeOf87
  v53 := Tryd.zeroValue87
  t171 := Tryd.underlying115
  a171 := Tryd.isAgg115
  z171 := Tryd.sizeOf115
  v171 := Tryd.zeroValue115
  t173 := Tryd.underlying118
  a173 := Tryd.isAgg118
  z173 := Tryd.sizeOf118
  v173 := Tryd.zeroValue118
  t212 := Tryd.underlying127
  a212 := Tryd.isAgg127
  z212 := Tryd.sizeOf127
  v212 := Tryd.zeroValue127
  t213 := Tryd.underlying129
  a213 := Tryd.isAgg129
  z213 := Tryd.sizeOf129
  t232 := Tryd.underlying139
  a232 := Tryd.isAgg139
  z232 := Tryd.sizeOf139
  v232 := Tryd.zeroValue139
  t233 := Tryd.underlying140
  a233 := Tryd.isAgg140
  z233 := Tryd.sizeOf140
  v233 := Tryd.zeroValue140
  g17 := by kernel_rfl
  g18 := by kernel_rfl
  g19 := by kernel_rfl
  i0 := by kernel_rfl
  i2 := by kernel_rfl
  i3 := by kernel_rfl
  i4 := by kernel_rfl
  i5 := by kernel_rfl
  i9 := by kernel_rfl
  i20 := by kernel_rfl
  i37 := by kernel_rfl
  i46 := by kernel_rfl
  i51 := by kernel_rfl
  i53 := by kernel_rfl
  i171 := by kernel_rfl
  i173 := by kernel_rfl
  i212 := by kernel_rfl
  i232 := by kernel_rfl
  i233 := by kernel_rfl
  m17 := by kernel_rfl
  m18 := by kernel_rfl
  m19 := by kernel_rfl }
open Go.RowKit Go.Sort Go.Lib in
/-- strconv.Itoa: "Itoa is equivalent to FormatInt(int64(i), 10).": i's DECIMAL NUMERAL ('Lib.itoa': a '-' where i is negative, then the digits), FOR EVERY int. The world behind the call: the world before it, new blocks behind the heap (the library's 'var a [24]byte'), draws. (LAID: no walk: one application.) -/
theorem Tryd.strconv_Itoa (n : Int) (h0 : -9223372036854775808 ≤ n) (h1 : n ≤ 9223372036854775807) (w : World) (htab : Lib.TabIs Tryd.prog w "internal/strconv.uint64pow10" .u64 Lib.pow10Tab) :
    Calls Tryd.prog 31 #[.int .i64 n] w fun e w' => e = .returned (.string ⟨(Lib.itoa n).toArray⟩) ∧ ∃ k os, w' = grow (w.drewN k) os := Any.strconv_Itoa Tryd.laysM171 n h0 h1 w htab
def Tryd.laysC172_ren : Go.Shelf.Ren := ⟨fun | 172 => 26 | 244 => 43 | 245 => 44 | 247 => 55 | 279 => 56 | 280 => 57 | 281 => 58 | 282 => 59 | 287 => 69 | 316 => 70 | 171 => 31 | 205 => 71 | 321 => 82 | 322 => 83 | 243 => 48 | 246 => 62 | 283 => 73 | 284 => 74 | 285 => 75 | 286 => 76 | 129 => 85 | 317 => 84 | 318 => 86 | 319 => 87 | 320 => 88 | 337 => 90 | 338 => 91 | n => n, fun | 9 => 9 | 3 => 3 | 75 => 60 | 76 => 61 | 4 => 4 | 5 => 5 | 167 => 95 | 37 => 83 | 0 => 0 | 85 => 96 | 2 => 2 | 168 => 98 | 53 => 87 | 175 => 108 | 46 => 110 | 210 => 113 | 127 => 92 | 145 => 125 | 143 => 123 | 21 => 21 | 171 => 115 | 173 => 118 | 212 => 127 | 51 => 128 | 20 => 20 | 213 => 129 | 232 => 139 | 233 => 140 | 80 => 86 | n => n, fun | 15 => 0 | 16 => 1 | 17 => 3 | 18 => 6 | 19 => 7 | n => n⟩
theorem Tryd.laysC172 : Go.Proofs.LaysC.n172 Tryd.prog Tryd.laysC172_ren := {
  mixed := by kernel_rfl
  f129 := Tryd.func85.trans (congrArg some (by kernel_rfl))
  f171 := Tryd.func31.trans (congrArg some (by kernel_rfl))
  f172 := Tryd.func26.trans (congrArg some (by kernel_rfl))
  f205 := Tryd.func71.trans (congrArg some (by kernel_rfl))
  f243 := Tryd.func48.trans (congrArg some (by kernel_rfl))
  f244 := Tryd.func43.trans (congrArg some (by kernel_rfl))
  f245 := Tryd.func44.trans (congrArg some (by kernel_rfl))
  f246 := Tryd.func62.trans (congrArg some (by kernel_rfl))
  f247 := Tryd.func55.trans (congrArg some (by kernel_rfl))
  f279 := Tryd.func56.trans (congrArg some (by kernel_rfl))
  f280 := Tryd.func57.trans (congrArg some (by kernel_rfl))
  f281 := Tryd.func58.trans (congrArg some (by kernel_rfl))
  f282 := Tryd.func59.trans (congrArg some (by kernel_rfl))
  f283 := Tryd.func73.trans (congrArg some (by kernel_rfl))
  f284 := Tryd.func74.trans (congrArg some (by kernel_rfl))
  f285 := Tryd.func75.trans (congrArg some (by kernel_rfl))
  f286 := Tryd.func76.trans (congrArg some (by kernel_rfl))
  f287 := Tryd.func69.trans (congrArg some (by kernel_rfl))
  f316 := Tryd.func70.trans (congrArg some (by kernel_rfl))
  f317 := Tryd.func84.trans (congrArg some (by kernel_rfl))
  f318 := Tryd.func86.trans (congrArg some (by kernel_rfl))
  f319 := Tryd.func87.trans (congrArg some (by kernel_rfl))
  f320 := Tryd.func88.trans (congrArg some (by kernel_rfl))
  f321 := Tryd.func82.trans (congrArg some (by kernel_rfl))
  f322 := Tryd.func83.trans (congrArg some (by kernel_rfl))
  f337 := Tryd.func90.trans (congrArg some (by kernel_rfl))
  f338 := Tryd.func91.trans (congrArg some (by kernel_rfl))
  t0 := Tryd.underlying0
  a0 := Tryd.isAgg0
  z0 := Tryd.sizeOf0
  v0 := Tryd.zeroValue0
  t2 := Tryd.underlying2
  a2 := Tryd.isAgg2
  z2 := Tryd.sizeOf2
  v2 := Tryd.zeroValue2
  t3 := Tryd.underlying3
  a3 := Tryd.isAgg3
  z3 := Tryd.sizeOf3
  v3 := Tryd.zeroValue3
  t4 := Tryd.underlying4
  a4 := Tryd.isAgg4
  z4 := Tryd.sizeOf4
  v4 := Tryd.zeroValue4
  t5 := Tryd.underlying5
  a5 := Tryd.isAgg5
  z5 := Tryd.sizeOf5
  v5 := Tryd.zeroValue5
  t9 := Tryd.underlying9
  a9 := Tryd.isAgg9
  z9 := Tryd.sizeOf9
  v9 := Tryd.zeroValue9
  t20 := Tryd.underlying20
  a20 := Tryd.isAgg20
  z20 := Tryd.sizeOf20
  v20 := Tryd.zeroValue20
  t21 := Tryd.underlying21
  a21 := Tryd.isAgg21
  z21 := Tryd.sizeOf21
  v21 := Tryd.zeroValue21
  t37 := Tryd.underlying83
  a37 := Tryd.isAgg83
  z37 := Tryd.sizeOf83
  v37 := Tryd.zeroValue83
  t46 := Tryd.underlying110
  a46 := Tryd.isAgg110
  z46 := Tryd.sizeOf110
  v46 := Tryd.zeroValue110
  t51 := Tryd.underlying128
  a51 := Tryd.isAgg128
  z51 := Tryd.sizeOf128
  v51 := Tryd.zeroValue128
  t53 := Tryd.underlying87
  a53 := Tryd.isAgg87
  z53 := Tryd.sizeOf87
  v53 := Tryd.zeroValue87
  t75 := Tryd.underlying60
  a75 := Tryd.isAgg60
  z75 := Tryd.sizeOf60
  v75 := Tryd.zeroValue60
  t76 := Tryd.underlying61
  a76 := Tryd.isAgg61
  z76 := Tryd.sizeOf61
  v76 := Tryd.zeroValue61
  t85 := Tryd.underlying96
  a85 := Tryd.isAgg96
  z85 := Tryd.sizeOf96
  v85 := Tryd.zeroValue96
  t127 := Tryd.underlying92
  a127 := Tryd.isAgg92
  z127 := Tryd.sizeOf92
  v127 := Tryd.zeroValue92
  t143 := Tryd.underlying123
  a143 := Tryd.isAgg123
  z143 := Tryd.sizeOf123
  v143 := Tryd.zeroValue123
  t145 := Tryd.underlying125
  a145 := Tryd.isAgg125
  z145 := Tryd.sizeOf125
  v145 := Tryd.zeroValue125
  t167 := Tryd.underlying95
  a167 := Tryd.isAgg95
  z167 := Tryd.sizeOf95
  v167 := Tryd.zeroValue95
  t168 := Tryd.underlying98
  a168 := Tryd.isAgg98
  z168 := Tryd.sizeOf98
  v168 := Tryd.zeroValue98
  t171 := Tryd.underlying115
  a171 := Tryd.isAgg115
  z171 := Tryd.sizeOf115
  v171 := Tryd.zeroValue115
  t173 := Tryd.underlying118
  a173 := Tryd.isAgg118
  z173 := Tryd.sizeOf118
  v173 := Tryd.zeroValue118
  t175 := Tryd.underlying108
  a175 := Tryd.isAgg108
  z175 := Tryd.sizeOf108
  v175 := Tryd.zeroValue108
  t210 := Tryd.underlying113
  a210 := Tryd.isAgg113
  z210 := Tryd.sizeOf113
  v210 := Tryd.zeroValue113
  t212 := Tryd.underlying127
  a212 := Tryd.isAgg127
  z212 := Tryd.sizeOf127
  v212 := Tryd.zeroValue127
  t213 := Tryd.underlying129
  a213 := Tryd.isAgg129
  z213 := Tryd.sizeOf129
  t232 := Tryd.underlying139
  a232 := Tryd.isAgg139
  z232 := Tryd.sizeOf139
  v232 := Tryd.zeroValue139
  t233 := Tryd.underlying140
  a233 := Tryd.isAgg140
  z233 := Tryd.sizeOf140
  v233 := Tryd.zeroValue140
  g15 := by kernel_rfl
  g16 := by kernel_rfl
  g17 := by kernel_rfl
  g18 := by kernel_rfl
  g19 := by kernel_rfl
  t80 := Tryd.underlying86
  a80 := Tryd.isAgg86
  z80 := Tryd.sizeOf86
  v80 := Tryd.zeroValue86
  i0 := by kernel_rfl
  i2 := by kernel_rfl
  i3 := by kernel_rfl
  i4 := by kernel_rfl
  i5 := by kernel_rfl
  i9 := by kernel_rfl
  i20 := by kernel_rfl
  i21 := by kernel_rfl
  i37 := by kernel_rfl
  i46 := by kernel_rfl
  i51 := by kernel_rfl
  i53 := by kernel_rfl
  i75 := by kernel_rfl
  i76 := by kernel_rfl
  i80 := by kernel_rfl
  i85 := by kernel_rfl
  i127 := by kernel_rfl
  i143 := by kernel_rfl
  i145 := by kernel_rfl
  i167 := by kernel_rfl
  i168 := by kernel_rfl
  i171 := by kernel_rfl
  i173 := by kernel_rfl
  i175 := by kernel_rfl
  i210 := by kernel_rfl
  i212 := by kernel_rfl
  i232 := by kernel_rfl
  i233 := by kernel_rfl
  m15 := by kernel_rfl
  m16 := by kernel_rfl
  m17 := by kernel_rfl
  m18 := by kernel_rfl
  m19 := by kernel_rfl
  c0 := by kernel_rfl
  c2 := by kernel_rfl
  c3 := by kernel_rfl
  c4 := by kernel_rfl
  c5 := by kernel_rfl
  c9 := by kernel_rfl
  c20 := by kernel_rfl
  c21 := by kernel_rfl
  c37 := by kernel_rfl
  c46 := by kernel_rfl
  c51 := by kernel_rfl
  c53 := by kernel_rfl
  c75 := by kernel_rfl
  c76 := by kernel_rfl
  c80 := by kernel_rfl
  c85 := by kernel_rfl
  c127 := by kernel_rfl
  c143 := by kernel_rfl
  c145 := by kernel_rfl
  c167 := by kernel_rfl
  c168 := by kernel_rfl
  c171 := by kernel_rfl
  c173 := by kernel_rfl
  c175 := by kernel_rfl
  c210 := by kernel_rfl
  c212 := by kernel_rfl
  c213 := by kernel_rfl
  c232 := by kernel_rfl
  c233 := by kernel_rfl }
open Go.RowKit in
/-- strconv.Atoi, AT EVERY STRING THAT SPELLS AN int ('Lib.atoiAll .. = .ok v'; of whatever length: leading zeros count): v, AND NO ERROR. The world: as it was, or with the one new row that '[]byte(..)' lays. (LAID: no walk: one application.) -/
theorem Tryd.strconv_Atoi_ok (s : ByteArray) (hmax : s.size ≤ 9223372036854775806) (v : Int) (h : Lib.atoiAll s.data.toList = .ok v) (w : World) :
    Calls Tryd.prog 26 #[.string s] w fun e w' => e = .returned (.tuple #[.int .i64 v, .nilIface]) ∧ (w' = w ∨ ∃ t, w' = Lib.bytesWorld w 5 t) := Any.strconv_Atoi_ok Tryd.laysC172 s hmax v h w
open Go.RowKit in
theorem Tryd.strconv_Atoi_syntax_var (s : ByteArray) (hlim : s.size ≤ 281474976710656) (h : Lib.atoiAll s.data.toList = Lib.NumEnd.syntax) (tp : TypeId) (p : Value) (w : World) (hvar : w.var? Tryd.prog "strconv.ErrSyntax" = some #[.iface tp p]) :
    Calls Tryd.prog 26 #[.string s] w fun e w' => ∃ N, e = .returned (.tuple #[.int .i64 0, .iface 98 (.pointer (some ⟨N, 0, none⟩))]) ∧ w.heap.size ≤ N ∧ w'.heap[N]? = some (.cells #[.string ⟨#[65, 116, 111, 105]⟩, .string s, .iface tp p] 113 (0, 0)) ∧ Below w.heap.size w w' := Any.strconv_Atoi_syntax_var Tryd.laysC172 s hlim h tp p w hvar
open Go.RowKit in
theorem Tryd.strconv_Atoi_range_var (s : ByteArray) (hlim : s.size ≤ 281474976710656) (h : Lib.atoiAll s.data.toList = .range) (tp : TypeId) (p : Value) (w : World) (hvar : w.var? Tryd.prog "strconv.ErrRange" = some #[.iface tp p]) :
    Calls Tryd.prog 26 #[.string s] w fun e w' => ∃ N, e = .returned (.tuple #[.int .i64 (Lib.atoiSat s.data.toList), .iface 98 (.pointer (some ⟨N, 0, none⟩))]) ∧ w.heap.size ≤ N ∧ w'.heap[N]? = some (.cells #[.string ⟨#[65, 116, 111, 105]⟩, .string s, .iface tp p] 113 (0, 0)) ∧ Below w.heap.size w w' := Any.strconv_Atoi_range_var Tryd.laysC172 s hlim h tp p w hvar
def Tryd.lays102_ren : Go.Shelf.Ren := ⟨fun | 102 => 29 | 209 => 47 | 207 => 61 | n => n, fun | 9 => 9 | 4 => 4 | 3 => 3 | n => n, fun | n => n⟩
theorem Tryd.lays102 : Go.Proofs.Lays.n102 Tryd.prog Tryd.lays102_ren := {
  mixed := by kernel_rfl
  f102 := Tryd.func29.trans (congrArg some (by kernel_rfl))
  f207 := Tryd.func61.trans (congrArg some (by kernel_rfl))
  f209 := Tryd.func47.trans (congrArg some (by kernel_rfl))
  t3 := Tryd.underlying3
  a3 := Tryd.isAgg3
  z3 := Tryd.sizeOf3
  v3 := Tryd.zeroValue3
  t4 := Tryd.underlying4
  a4 := Tryd.isAgg4
  z4 := Tryd.sizeOf4
  v4 := Tryd.zeroValue4
  t9 := Tryd.underlying9
  a9 := Tryd.isAgg9
  z9 := Tryd.sizeOf9
  v9 := Tryd.zeroValue9 }
open Go.RowKit Go.Lib in
/-- strings.TrimSuffix: "TrimSuffix returns s without the provided trailing suffix string. If s doesn't end with suffix, s is returned unchanged.": IT RETURNS 'Lib.trimSuffix s suffix'; the world is as it was. (LAID: no walk: one application.) -/
theorem Tryd.strings_TrimSuffix (s p : ByteArray) (w : World) (hs : s.size ≤ 9223372036854775807) :
    Calls Tryd.prog 29 #[.string s, .string p] w fun e w' => e = .returned (.string ⟨(Lib.trimSuffix s.data.toList p.data.toList).toArray⟩) ∧ w' = w := Any.strings_TrimSuffix Tryd.lays102 s p w hs
def Tryd.lays146_ren : Go.Shelf.Ren := ⟨fun | 146 => 25 | 221 => 42 | 268 => 52 | 138 => 53 | 143 => 54 | 195 => 65 | 197 => 66 | 218 => 67 | 219 => 68 | 260 => 78 | 217 => 60 | 225 => 79 | 224 => 80 | 267 => 81 | 266 => 72 | 314 => 89 | n => n, fun | 9 => 9 | 31 => 56 | 3 => 3 | 4 => 4 | 0 => 0 | 105 => 106 | 21 => 21 | 5 => 5 | 46 => 110 | 119 => 132 | 139 => 135 | 138 => 134 | 146 => 136 | 51 => 128 | n => n, fun | 1 => 2 | 3 => 4 | 4 => 5 | n => n⟩
theorem Tryd.lays146 : Go.Proofs.Lays.n146 Tryd.prog Tryd.lays146_ren := {
  mixed := by kernel_rfl
  f138 := Tryd.func53.trans (congrArg some (by kernel_rfl))
  f143 := Tryd.func54.trans (congrArg some (by kernel_rfl))
  f146 := Tryd.func25.trans (congrArg some (by kernel_rfl))
  f195 := Tryd.func65.trans (congrArg some (by kernel_rfl))
  f197 := Tryd.func66.trans (congrArg some (by kernel_rfl))
  f217 := Tryd.func60.trans (congrArg some (by kernel_rfl))
  f218 := Tryd.func67.trans (congrArg some (by kernel_rfl))
  f219 := Tryd.func68.trans (congrArg some (by kernel_rfl))
  f221 := Tryd.func42.trans (congrArg some (by kernel_rfl))
  f224 := Tryd.func80.trans (congrArg some (by kernel_rfl))
  f225 := Tryd.func79.trans (congrArg some (by kernel_rfl))
  f260 := Tryd.func78.trans (congrArg some (by kernel_rfl))
  f266 := Tryd.func72.trans (congrArg some (by kernel_rfl))
  f267 := Tryd.func81.trans (congrArg some (by kernel_rfl))
  f268 := Tryd.func52.trans (congrArg some (by kernel_rfl))
  f314 := Tryd.func89.trans (congrArg some (by kernel_rfl))
  t0 := Tryd.underlying0
  a0 := Tryd.isAgg0
  z0 := Tryd.sizeOf0
  v0 := Tryd.zeroValue0
  t3 := Tryd.underlying3
  a3 := Tryd.isAgg3
  z3 := Tryd.sizeOf3
  v3 := Tryd.zeroValue3
  t4 := Tryd.underlying4
  a4 := Tryd.isAgg4
  z4 := Tryd.sizeOf4
  v4 := Tryd.zeroValue4
  t5 := Tryd.underlying5
  a5 := Tryd.isAgg5
  z5 := Tryd.sizeOf5
  v5 := Tryd.zeroValue5
  t9 := Tryd.underlying9
  a9 := Tryd.isAgg9
  z9 := Tryd.sizeOf9
  v9 := Tryd.zeroValue9
  t21 := Tryd.underlying21
  a21 := Tryd.isAgg21
  z21 := Tryd.sizeOf21
  v21 := Tryd.zeroValue21
  t31 := Tryd.underlying56
  a31 := Tryd.isAgg56
  z31 := Tryd.sizeOf56
  v31 := Tryd.zeroValue56
  t46 := Tryd.underlying110
  a46 := Tryd.isAgg110
  z46 := Tryd.sizeOf110
  v46 := Tryd.zeroValue110
  t51 := Tryd.underlying128
  a51 := Tryd.isAgg128
  z51 := Tryd.sizeOf128
  v51 := Tryd.zeroValue128
  t105 := Tryd.underlying106
  a105 := Tryd.isAgg106
  z105 := Tryd.sizeOf106
  v105 := Tryd.zeroValue106
  t119 := Tryd.underlying132
  a119 := Tryd.isAgg132
  z119 := Tryd.sizeOf132
  t138 := Tryd.underlying134
  a138 := Tryd.isAgg134
  z138 := Tryd.sizeOf134
  v138 := Tryd.zeroValue134
  t139 := Tryd.underlying135
  a139 := Tryd.isAgg135
  z139 := Tryd.sizeOf135
  v139 := Tryd.zeroValue135
  t146 := Tryd.underlying136
  a146 := Tryd.isAgg136
  z146 := Tryd.sizeOf136
  v146 := Tryd.zeroValue136
  g1 := by kernel_rfl
  g3 := by kernel_rfl
  g4 := by kernel_rfl }
open Go.RowKit Go.Lib in
/-- strings.Split. (LAID: no walk: one application.) -/
theorem Tryd.strings_Split (s sep : ByteArray) (m : Int) (w : World) (hs : s.size < 4294967281) (hm : w.cell? ⟨2, 0, none⟩ = some (.int .i64 m)) (h1 : 1 ≤ sep.size) :
    Calls Tryd.prog 25 #[.string s, .string sep] w fun e w' =>
      e = .returned (.slice (some ⟨w.heap.size, 0, none⟩) (Lib.countB s sep + 1) (Lib.countB s sep + 1)) ∧ w' = w.alloc (.cells ((Lib.splitB sep 0 (Lib.countB s sep) s).map Value.string).toArray 9) := Any.strings_Split Tryd.lays146 (by kernel_rfl) s sep m w hs hm h1
end Go.Proofs


/- Numbers modulo 2^61 - 1: what the program's calls give. No function of the program is proved here. -/
namespace Go.Num

def pwF : Nat → Int → Nat → Int
  | 0, _, _ => 1
  | k + 1, a, n => if n = 0 then 1 else if n % 2 = 1 then (pwF k (a * a % 2305843009213693951) (n / 2) * a) % 2305843009213693951 else pwF k (a * a % 2305843009213693951) (n / 2)
/-- A power, modulo 2^61 - 1. -/
def pw (a : Int) (n : Nat) : Int := pwF 64 a n

theorem emod_mul_l (a b : Int) : (a % 2305843009213693951 * b) % 2305843009213693951 = (a * b) % 2305843009213693951 := by rw [Int.mul_emod, Int.emod_emod_of_dvd _ (Int.dvd_refl _), ← Int.mul_emod]
theorem emod_mul_r (a b : Int) : (a * (b % 2305843009213693951)) % 2305843009213693951 = (a * b) % 2305843009213693951 := by rw [Int.mul_emod, Int.emod_emod_of_dvd _ (Int.dvd_refl _), ← Int.mul_emod]

theorem pow_mod (a : Int) (n : Nat) : (a % 2305843009213693951) ^ n % 2305843009213693951 = a ^ n % 2305843009213693951 := by
  induction n with
  | zero => simp
  | succ n ih => rw [Int.pow_succ, Int.pow_succ, emod_mul_r, ← emod_mul_l, ih, emod_mul_l]

theorem pwF_eq : ∀ (k : Nat) (a : Int) (n : Nat), n < 2 ^ k → pwF k a n = a ^ n % 2305843009213693951
  | 0, a, n, h => by
    have : n = 0 := by omega
    subst this; simp [pwF]
  | k + 1, a, n, h => by
    unfold pwF
    by_cases h0 : n = 0
    · subst h0; simp
    · rw [if_neg h0]
      have hk : n / 2 < 2 ^ k := by rw [Nat.pow_succ] at h; omega
      rw [pwF_eq k _ _ hk, pow_mod]
      have e2 : (a * a) ^ (n / 2) = a ^ (2 * (n / 2)) := by rw [Int.pow_mul]; congr 1; rw [Int.pow_succ, Int.pow_succ, Int.pow_zero, Int.one_mul]
      split
      · rw [emod_mul_l, e2, ← Int.pow_succ]; congr 2; omega
      · rw [e2]; congr 2; omega
theorem pw_eq (a : Int) {n : Nat} (h : n < 2 ^ 64) : pw a n = a ^ n % 2305843009213693951 := pwF_eq 64 a n h
theorem pwF_rng : ∀ (k : Nat) (a : Int) (n : Nat), 0 ≤ pwF k a n ∧ pwF k a n < 2305843009213693951
  | 0, a, n => by simp [pwF]
  | k + 1, a, n => by
    unfold pwF
    split
    · omega
    · split
      · omega
      · exact pwF_rng k _ _
theorem pw_rng (a : Int) (n : Nat) : 0 ≤ pw a n ∧ pw a n < 2305843009213693951 := pwF_rng 64 a n
def inv (a : Int) : Int := pw a 2305843009213693949
end Go.Num

/- 2^61 - 1 is a prime, and 37 generates: each number that is not 0 has an inverse. No function of the program is proved here. -/
namespace Go.Num

theorem nmul_l (a b : Nat) : (a % 2305843009213693951 * b) % 2305843009213693951 = (a * b) % 2305843009213693951 := by rw [Nat.mul_mod, Nat.mod_mod, ← Nat.mul_mod]
theorem nmul_r (a b : Nat) : (a * (b % 2305843009213693951)) % 2305843009213693951 = (a * b) % 2305843009213693951 := by rw [Nat.mul_mod, Nat.mod_mod, ← Nat.mul_mod]
/-- Is a power of 37 equal to 1? -/
def One (n : Nat) : Prop := 37 ^ n % 2305843009213693951 = 1

theorem One.add {m n : Nat} (h : One m) : 37 ^ (m + n) % 2305843009213693951 = 37 ^ n % 2305843009213693951 := by
  rw [Nat.pow_add, ← nmul_l, h, Nat.one_mul]
theorem One.mul {m : Nat} (h : One m) (k : Nat) : One (m * k) := by
  induction k with
  | zero => rfl
  | succ k ih => unfold One; rw [Nat.mul_succ, Nat.add_comm, h.add]; exact ih
theorem One.mod {m n : Nat} (h : One m) (k : One n) : One (n % m) := by
  have e : m * (n / m) + n % m = n := Nat.div_add_mod n m
  have := (h.mul (n / m)).add (n := n % m)
  rw [e] at this
  unfold One at *
  rw [← this]; exact k
theorem One.gcd (m n : Nat) : One m → One n → One (Nat.gcd m n) := by
  induction m, n using Nat.gcd.induction with
  | H0 n => intro _ h; rw [Nat.gcd_zero_left]; exact h
  | H1 m n hm ih => intro h k; rw [Nat.gcd_rec]; exact ih (h.mod k) h

theorem pw_nat (n : Nat) (h : n < 2 ^ 64) : pw 37 n = ((37 ^ n % 2305843009213693951 : Nat) : Int) := by
  rw [pw_eq 37 h]
  rw [Int.natCast_emod, Int.natCast_pow]; rfl
theorem one_of {n : Nat} (h : n < 2 ^ 64) (k : pw 37 n = 1) : One n := by
  rw [pw_nat n h] at k
  exact_mod_cast k
theorem one_top : One 2305843009213693950 := one_of (by decide) (by decide +kernel)
theorem not_one {n : Nat} (h : n < 2 ^ 64) (k : pw 37 n ≠ 1) : ¬ One n := by
  intro e
  apply k
  rw [pw_nat n h]
  exact_mod_cast e

/-- Numbers that nothing divides. -/
def prm (q : Nat) : Bool := Nat.blt 1 q && (List.range q).all fun d => Nat.ble d 1 || !(Nat.beq (q % d) 0)
theorem prm_ok {q d : Nat} (h : prm q = true) (hd : d ∣ q) : d = 1 ∨ d = q := by
  unfold prm at h
  simp only [Bool.and_eq_true, Nat.blt_eq, List.all_eq_true, Bool.or_eq_true, Bool.not_eq_true'] at h
  have hle := Nat.le_of_dvd (by omega) hd
  by_cases e : d = q
  · exact .inr e
  · left
    have := h.2 d (List.mem_range.2 (by omega))
    rcases this with h1 | h1
    · have := Nat.le_of_ble_eq_true h1
      have h0 : d ≠ 0 := by rintro rfl; have := Nat.eq_zero_of_zero_dvd hd; omega
      omega
    · have h2 := Nat.mod_eq_zero_of_dvd hd
      rw [h2] at h1; cases h1
theorem cop {m q : Nat} (h : prm q = true) (hn : ¬ q ∣ m) : Nat.gcd m q = 1 := by
  rcases prm_ok h (Nat.gcd_dvd_right m q) with h1 | h1
  · exact h1
  · exact absurd (h1 ▸ Nat.gcd_dvd_left m q) hn

theorem not_mid {d : Nat} (h0 : 0 < d) (h1 : d < 2305843009213693950) : ¬ One d := by
  intro h
  have hg := One.gcd _ _ h one_top
  generalize hh : Nat.gcd d 2305843009213693950 = g at hg
  have hgd : g ∣ 2305843009213693950 := hh ▸ Nat.gcd_dvd_right _ _
  have hgl : g ≤ d := hh ▸ Nat.le_of_dvd h0 (Nat.gcd_dvd_left _ _)
  obtain ⟨m, hm⟩ := hgd
  have hm1 : m ≠ 1 := by rintro rfl; omega
  have key : ∀ q c : Nat, q * c = 2305843009213693950 → ¬ One c → ¬ q ∣ m := by
    intro q c hqc hc ⟨k, hk⟩
    apply hc
    have : c = g * k := by
      have hq : 0 < q := Nat.pos_of_ne_zero (by rintro rfl; omega)
      apply Nat.eq_of_mul_eq_mul_left hq
      rw [hqc, hm, hk, Nat.mul_left_comm]
    rw [this]; exact hg.mul k
  have c2 := cop (q := 2) (m := m) (by decide) (key 2 1152921504606846975 (by decide) (not_one (by decide) (by decide +kernel)))
  have c3 := cop (q := 3) (m := m) (by decide) (key 3 768614336404564650 (by decide) (not_one (by decide) (by decide +kernel)))
  have c5 := cop (q := 5) (m := m) (by decide) (key 5 461168601842738790 (by decide) (not_one (by decide) (by decide +kernel)))
  have c7 := cop (q := 7) (m := m) (by decide) (key 7 329406144173384850 (by decide) (not_one (by decide) (by decide +kernel)))
  have c11 := cop (q := 11) (m := m) (by decide) (key 11 209622091746699450 (by decide) (not_one (by decide) (by decide +kernel)))
  have c13 := cop (q := 13) (m := m) (by decide) (key 13 177372539170284150 (by decide) (not_one (by decide) (by decide +kernel)))
  have c31 := cop (q := 31) (m := m) (by decide) (key 31 74382032555280450 (by decide) (not_one (by decide) (by decide +kernel)))
  have c41 := cop (q := 41) (m := m) (by decide) (key 41 56240073395455950 (by decide) (not_one (by decide) (by decide +kernel)))
  have c61 := cop (q := 61) (m := m) (by decide) (key 61 37800705069076950 (by decide) (not_one (by decide) (by decide +kernel)))
  have c151 := cop (q := 151) (m := m) (by decide +kernel) (key 151 15270483504726450 (by decide) (not_one (by decide) (by decide +kernel)))
  have c331 := cop (q := 331) (m := m) (by decide +kernel) (key 331 6966293079195450 (by decide) (not_one (by decide) (by decide +kernel)))
  have c1321 := cop (q := 1321) (m := m) (by decide +kernel) (key 1321 1745528394559950 (by decide) (not_one (by decide) (by decide +kernel)))
  have cm : ∀ {a b : Nat}, Nat.gcd m a = 1 → Nat.gcd m b = 1 → Nat.gcd m (a * b) = 1 := fun ha hb => Nat.Coprime.mul_right ha hb
  have hall := cm c2 (cm c3 (cm c3 (cm c5 (cm c5 (cm c7 (cm c11 (cm c13 (cm c31 (cm c41 (cm c61 (cm c151 (cm c331 c1321))))))))))))
  have hd : m ∣ 2305843009213693950 := ⟨g, by rw [hm, Nat.mul_comm]⟩
  have : Nat.gcd m 2305843009213693950 = m := Nat.gcd_eq_left hd
  have e : (2 * (3 * (3 * (5 * (5 * (7 * (11 * (13 * (31 * (41 * (61 * (151 * (331 * 1321)))))))))))) : Nat) = 2305843009213693950 := by decide
  rw [e, this] at hall
  exact hm1 hall

theorem inj_gen {T : Nat} (hT : One T) (hm : ∀ d, 0 < d → d < T → ¬ One d) {i j : Nat} (hi : i < T) (hj : j < T) (h : 37 ^ i % 2305843009213693951 = 37 ^ j % 2305843009213693951) : i = j := by
  have key : ∀ i j : Nat, i < j → j < T → 37 ^ i % 2305843009213693951 = 37 ^ j % 2305843009213693951 → False := by
    intro i j hij hj h
    refine hm (j - i) (by omega) (by omega) ?_
    have h1 : (37 ^ (T - i) * 37 ^ i) % 2305843009213693951 = (37 ^ (T - i) * 37 ^ j) % 2305843009213693951 := by rw [← nmul_r, h, nmul_r]
    rw [← Nat.pow_add, ← Nat.pow_add, show T - i + i = T from by omega, show T - i + j = T + (j - i) from by omega, hT.add] at h1
    unfold One; rw [← h1]; exact hT
  rcases Nat.lt_trichotomy i j with h1 | h1 | h1
  · exact (key i j h1 hj h).elim
  · exact h1
  · exact (key j i h1 hi h.symm).elim
theorem inj {i j : Nat} (hi : i < 2305843009213693950) (hj : j < 2305843009213693950) (h : 37 ^ i % 2305843009213693951 = 37 ^ j % 2305843009213693951) : i = j := inj_gen one_top (fun _ h0 h1 => not_mid h0 h1) hi hj h

theorem nonzero_gen {T : Nat} (hT : One (T + 1)) (i : Nat) : 37 ^ i % 2305843009213693951 ≠ 0 := by
  intro h
  have h1 : 37 ^ ((T + 1) * i) % 2305843009213693951 = 1 := hT.mul i
  have e : (T + 1) * i = i + T * i := by rw [Nat.add_mul]; omega
  rw [e, Nat.pow_add, ← nmul_l, h, Nat.zero_mul] at h1
  cases h1
theorem nonzero (i : Nat) : 37 ^ i % 2305843009213693951 ≠ 0 := nonzero_gen (T := 2305843009213693949) one_top i

theorem pigeon : ∀ (n : Nat) (f : Nat → Nat), (∀ i, i < n → f i < n) → (∀ i j, i < n → j < n → f i = f j → i = j) → ∀ y, y < n → ∃ i, i < n ∧ f i = y
  | 0, _, _, _, y, h => by omega
  | n + 1, f, hr, hi, y, hy => by
    have hv := hr n (by omega)
    have ih := pigeon n (fun i => if f i = n then f n else f i) (fun i h => by
      try simp only
      split
      · rename_i e
        have : f n ≠ n := fun e2 => by have := hi i n (by omega) (by omega) (by rw [e, e2]); omega
        omega
      · have := hr i (by omega); omega) (fun i j hi' hj' h => by
      try simp only at h
      split at h <;> split at h
      · rename_i a b; exact hi i j (by omega) (by omega) (by rw [a, b])
      · rename_i a b; have := hi n j (by omega) (by omega) h; omega
      · rename_i a b; have := hi i n (by omega) (by omega) h; omega
      · exact hi i j (by omega) (by omega) h)
    by_cases e1 : y = f n
    · exact ⟨n, by omega, e1.symm⟩
    · by_cases e2 : y = n
      · have hvn : f n < n := by omega
        obtain ⟨i, h1, h2⟩ := ih (f n) hvn
        try simp only at h2
        split at h2
        · rename_i e; exact ⟨i, by omega, by rw [e, e2]⟩
        · have := hi i n (by omega) (by omega) h2; omega
      · obtain ⟨i, h1, h2⟩ := ih y (by omega)
        try simp only at h2
        split at h2
        · exact absurd h2.symm e1
        · exact ⟨i, by omega, h2⟩

theorem fermat_gen {T : Nat} (hT1 : T + 1 = 2305843009213693951) (hT : One T) (inj : ∀ {i j : Nat}, i < T → j < T → 37 ^ i % 2305843009213693951 = 37 ^ j % 2305843009213693951 → i = j) {a : Nat} (h : a % 2305843009213693951 ≠ 0) : a ^ T % 2305843009213693951 = 1 := by
  have hlt : a % 2305843009213693951 < 2305843009213693951 := Nat.mod_lt _ (by decide)
  obtain ⟨i, _, hi⟩ := pigeon T (fun i => 37 ^ i % 2305843009213693951 - 1) (fun i _ => by
    have := nonzero i
    have h2 : 37 ^ i % 2305843009213693951 < 2305843009213693951 := Nat.mod_lt _ (by decide)
    show 37 ^ i % 2305843009213693951 - 1 < T
    generalize 37 ^ i % 2305843009213693951 = z at *
    omega) (fun i j hi hj h => by
    have h1 := nonzero i; have h2 := nonzero j
    refine inj hi hj ?_
    try simp only at h
    generalize 37 ^ i % 2305843009213693951 = z at *
    generalize 37 ^ j % 2305843009213693951 = z' at *
    omega) (a % 2305843009213693951 - 1) (by omega)
  have h1 := nonzero i
  try simp only at hi
  have e : a % 2305843009213693951 = 37 ^ i % 2305843009213693951 := by
    generalize 37 ^ i % 2305843009213693951 = z at *
    omega
  rw [Nat.pow_mod, e, ← Nat.pow_mod, ← Nat.pow_mul, Nat.mul_comm]
  exact hT.mul i

/-- What a number that is not 0 times its inverse is. -/
theorem inv_gen (k : Nat) (hk : k < 2 ^ 64) (hf : ∀ a : Nat, a % 2305843009213693951 ≠ 0 → a ^ (k + 1) % 2305843009213693951 = 1) {a : Int} (h : a % 2305843009213693951 ≠ 0) : (a * pw a k) % 2305843009213693951 = 1 := by
  rw [pw_eq a hk, emod_mul_r]
  have e : a * a ^ k = a ^ (k + 1) := by rw [Int.mul_comm, ← Int.pow_succ]
  rw [e, ← pow_mod]
  obtain ⟨n, hn⟩ := Int.eq_ofNat_of_zero_le (show 0 ≤ a % 2305843009213693951 by omega)
  rw [hn]
  have hne : n % 2305843009213693951 ≠ 0 := by omega
  have := hf n hne
  rw [← Int.natCast_pow]
  generalize n ^ (k + 1) = z at *
  omega
theorem inv_all {k : Nat} (hk : k < 2 ^ 64) (hT1 : k + 2 = 2305843009213693951) (hT : One (k + 1)) (hi : ∀ {i j : Nat}, i < k + 1 → j < k + 1 → 37 ^ i % 2305843009213693951 = 37 ^ j % 2305843009213693951 → i = j) {a : Int} (h : a % 2305843009213693951 ≠ 0) : (a * pw a k) % 2305843009213693951 = 1 :=
  inv_gen k hk (fun _ h => fermat_gen (T := k + 1) hT1 hT hi h) h
theorem inv_ok {a : Int} (h : a % 2305843009213693951 ≠ 0) : (a * inv a) % 2305843009213693951 = 1 := inv_all (by decide) rfl one_top inj h
theorem pw_zero_gen {k : Nat} (hk : k < 2 ^ 64) (h0 : k ≠ 0) {a : Int} (h : a % 2305843009213693951 = 0) : pw a k = 0 := by
  rw [pw_eq a hk, ← pow_mod, h, Int.zero_pow h0]; rfl
theorem inv_zero {a : Int} (h : a % 2305843009213693951 = 0) : inv a = 0 := by
  exact pw_zero_gen (by decide) (by decide) h
theorem inv_rng (a : Int) : 0 ≤ inv a ∧ inv a < 2305843009213693951 := pw_rng a _
end Go.Num
