/-
  DERIVED: THE SHELF's CONTRACTS AT THIS DUMP, IN PLAIN WORDS (tools/lay-plain.mjs out of 'TryzShelf.lean', which tools/lay-shelf.mjs wrote): THE SAME DECLARATIONS UNDER THE SAME NAMES: 'import', 'namespace', 'open', 'def', 'theorem' AND NOTHING ELSE: no command of the shelf's: FOR A HAND-IN. Each laying: the table of numbers ('.._ren') and one theorem, a field a fact of the dump's own or the kernel's comparison; each contract: ONE APPLICATION.
-/
import Derived.Shelf.Strings.Builder1
import Derived.Shelf.Strings.Builder2
import Derived.Shelf.Strings.OnBuilder
import Derived.Shelf.Strings.Trim
import Derived.Shelf.Small.Utf8
import Derived.Shelf.Small.Strs
import Derived.Shelf.Small.Wraps
import Derived.Shelf.Strings.BuilderF
import Derived.Shelf.Strings.BuilderK
import Derived.Shelf.Strings.BuilderRune
import Derived.Shelf.Strconv.Atoi
import Derived.Shelf.Strconv.Itoa0
import Derived.Shelf.Strconv.Itoa1
import Derived.Shelf.LaysM
import Derived.Shelf.Strconv.Itoa2
import Derived.Shelf.Strconv.Itoa3
import Derived.Shelf.Strconv.AtoiErrFast
import Derived.Shelf.Strconv.ParseIntEmpty
import Derived.Shelf.Strconv.AtoiFail
import Derived.Shelf.Strconv.Clone
import Derived.Shelf.Strconv.SyntaxError
import Derived.Shelf.LaysC
import Derived.Shelf.Strconv.ToError
import Derived.Shelf.Strconv.Lower
import Derived.Shelf.Strconv.ParseUint10
import Derived.Shelf.Strconv.ParseUint10Empty
import Derived.Shelf.Strconv.ParseUint10Any
import Derived.Shelf.Strconv.ParseInt10
import Derived.Shelf.Strconv.AtoiLong
import Derived.Shelf.Strconv.AtoiInnerAll
import Derived.Shelf.Strconv.RangeError
import Derived.Shelf.Strconv.ToErrorRange
import Derived.Shelf.Strconv.AtoiAll
import Derived.Shelf.Strconv.ErrVarAll
import Derived.Shelf.Strings.Search1
import Derived.Shelf.Strings.Search2
import Derived.Shelf.Strings.Search3
import Derived.Shelf.Strings.Cut
import Derived.Shelf.Strings.Count
import Derived.Shelf.Strings.Shaped
import Derived.Shelf.GgClosure.StringsIndexFunc
import Derived.Ground.GgwProg
import Derived.Shelf.GgClosure.StringsIndexFuncTop
import Derived.Shelf.Strings.Prefix
import Derived.Shelf.Strings.Split
import Derived.Shelf.Strings.Replace
import Derived.Shelf.Strings.SplitShaped
import Derived.Shelf.Unicode.Latin
import Derived.Shelf.Strings.Runes
import Derived.Shelf.Strings.IndexAny
import Derived.Shelf.Strings.AsciiSet
import Derived.Shelf.Strings.IndexAnyAll
import Derived.Shelf.Bits.Mul64
import Derived.Shelf.Strings.Repeat
import Derived.Shelf.Unicode.DecodeSlow
import Derived.Shelf.Unicode.DecodeAny
import Derived.Shelf.Unicode.CaseLookup
import Derived.Shelf.Unicode.CaseConvert
import Derived.Shelf.Unicode.CaseTo
import Derived.Shelf.Unicode.CaseLaid
import Derived.Shelf.Strings.MapAny
import Derived.Shelf.Strings.CaseAny
import Derived.Test.YtifbcfpaifobjaaGreatDoorProg
namespace Go.Proofs
open Go.Shelf
def Tryz.lays159_ren : Go.Shelf.Ren := ⟨fun | 159 => 127 | 165 => 43 | 166 => 44 | 167 => 144 | 169 => 46 | 230 => 145 | 204 => 146 | 240 => 87 | 241 => 88 | 197 => 83 | 118 => 158 | 168 => 159 | 270 => 160 | 262 => 161 | 276 => 119 | 277 => 120 | 260 => 118 | 242 => 170 | 313 => 171 | 278 => 176 | 274 => 177 | 275 => 178 | n => n, fun | 9 => 9 | 4 => 4 | 3 => 3 | 5 => 5 | 72 => 84 | 0 => 0 | 76 => 88 | 75 => 87 | 107 => 157 | 70 => 81 | 20 => 20 | 37 => 82 | 127 => 120 | 21 => 21 | 105 => 112 | 164 => 138 | 162 => 184 | 203 => 182 | 119 => 147 | 46 => 78 | 139 => 150 | 138 => 149 | 51 => 114 | 160 => 190 | 208 => 198 | 206 => 196 | 80 => 91 | n => n, fun | 13 => 6 | 3 => 1 | 4 => 2 | n => n⟩
theorem Tryz.lays159 : Go.Proofs.Lays.n159 Tryz.prog Tryz.lays159_ren := {
  mixed := by kernel_rfl
  f118 := Tryz.func158.trans (congrArg some (by kernel_rfl))
  f159 := Tryz.func127.trans (congrArg some (by kernel_rfl))
  f165 := Tryz.func43.trans (congrArg some (by kernel_rfl))
  f166 := Tryz.func44.trans (congrArg some (by kernel_rfl))
  f167 := Tryz.func144.trans (congrArg some (by kernel_rfl))
  f168 := Tryz.func159.trans (congrArg some (by kernel_rfl))
  f169 := Tryz.func46.trans (congrArg some (by kernel_rfl))
  f197 := Tryz.func83.trans (congrArg some (by kernel_rfl))
  f204 := Tryz.func146.trans (congrArg some (by kernel_rfl))
  f230 := Tryz.func145.trans (congrArg some (by kernel_rfl))
  f240 := Tryz.func87.trans (congrArg some (by kernel_rfl))
  f241 := Tryz.func88.trans (congrArg some (by kernel_rfl))
  f242 := Tryz.func170.trans (congrArg some (by kernel_rfl))
  f260 := Tryz.func118.trans (congrArg some (by kernel_rfl))
  f262 := Tryz.func161.trans (congrArg some (by kernel_rfl))
  f270 := Tryz.func160.trans (congrArg some (by kernel_rfl))
  f274 := Tryz.func177.trans (congrArg some (by kernel_rfl))
  f275 := Tryz.func178.trans (congrArg some (by kernel_rfl))
  f276 := Tryz.func119.trans (congrArg some (by kernel_rfl))
  f277 := Tryz.func120.trans (congrArg some (by kernel_rfl))
  f278 := Tryz.func176.trans (congrArg some (by kernel_rfl))
  f313 := Tryz.func171.trans (congrArg some (by kernel_rfl))
  t0 := Tryz.underlying0
  a0 := Tryz.isAgg0
  z0 := Tryz.sizeOf0
  v0 := Tryz.zeroValue0
  t3 := Tryz.underlying3
  a3 := Tryz.isAgg3
  z3 := Tryz.sizeOf3
  v3 := Tryz.zeroValue3
  t4 := Tryz.underlying4
  a4 := Tryz.isAgg4
  z4 := Tryz.sizeOf4
  v4 := Tryz.zeroValue4
  t5 := Tryz.underlying5
  a5 := Tryz.isAgg5
  z5 := Tryz.sizeOf5
  v5 := Tryz.zeroValue5
  t9 := Tryz.underlying9
  a9 := Tryz.isAgg9
  z9 := Tryz.sizeOf9
  v9 := Tryz.zeroValue9
  t20 := Tryz.underlying20
  a20 := Tryz.isAgg20
  z20 := Tryz.sizeOf20
  v20 := Tryz.zeroValue20
  t21 := Tryz.underlying21
  a21 := Tryz.isAgg21
  z21 := Tryz.sizeOf21
  v21 := Tryz.zeroValue21
  t37 := Tryz.underlying82
  a37 := Tryz.isAgg82
  z37 := Tryz.sizeOf82
  v37 := Tryz.zeroValue82
  t46 := Tryz.underlying78
  a46 := Tryz.isAgg78
  z46 := Tryz.sizeOf78
  v46 := Tryz.zeroValue78
  t51 := Tryz.underlying114
  a51 := Tryz.isAgg114
  z51 := Tryz.sizeOf114
  v51 := Tryz.zeroValue114
  t70 := Tryz.underlying81
  a70 := Tryz.isAgg81
  z70 := Tryz.sizeOf81
  v70 := Tryz.zeroValue81
  t72 := Tryz.underlying84
  a72 := Tryz.isAgg84
  z72 := Tryz.sizeOf84
  v72 := Tryz.zeroValue84
  t75 := Tryz.underlying87
  a75 := Tryz.isAgg87
  z75 := Tryz.sizeOf87
  v75 := Tryz.zeroValue87
  t76 := Tryz.underlying88
  a76 := Tryz.isAgg88
  z76 := Tryz.sizeOf88
  v76 := Tryz.zeroValue88
  t105 := Tryz.underlying112
  a105 := Tryz.isAgg112
  z105 := Tryz.sizeOf112
  v105 := Tryz.zeroValue112
  t107 := Tryz.underlying157
  a107 := Tryz.isAgg157
  z107 := Tryz.sizeOf157
  v107 := Tryz.zeroValue157
  t119 := Tryz.underlying147
  a119 := Tryz.isAgg147
  z119 := Tryz.sizeOf147
  t127 := Tryz.underlying120
  a127 := Tryz.isAgg120
  z127 := Tryz.sizeOf120
  v127 := Tryz.zeroValue120
  t138 := Tryz.underlying149
  a138 := Tryz.isAgg149
  z138 := Tryz.sizeOf149
  v138 := Tryz.zeroValue149
  t139 := Tryz.underlying150
  a139 := Tryz.isAgg150
  z139 := Tryz.sizeOf150
  v139 := Tryz.zeroValue150
  t160 := Tryz.underlying190
  a160 := Tryz.isAgg190
  z160 := Tryz.sizeOf190
  v160 := Tryz.zeroValue190
  t162 := Tryz.underlying184
  a162 := Tryz.isAgg184
  z162 := Tryz.sizeOf184
  v162 := Tryz.zeroValue184
  t164 := Tryz.underlying138
  a164 := Tryz.isAgg138
  z164 := Tryz.sizeOf138
  v164 := Tryz.zeroValue138
  t203 := Tryz.underlying182
  a203 := Tryz.isAgg182
  z203 := Tryz.sizeOf182
  v203 := Tryz.zeroValue182
  t206 := Tryz.underlying196
  a206 := Tryz.isAgg196
  z206 := Tryz.sizeOf196
  v206 := Tryz.zeroValue196
  t208 := Tryz.underlying198
  a208 := Tryz.isAgg198
  z208 := Tryz.sizeOf198
  v208 := Tryz.zeroValue198
  g3 := by kernel_rfl
  g4 := by kernel_rfl
  g13 := by kernel_rfl }
theorem Tryz.Builder_Extra_159 : Builder.Extra Tryz.prog Tryz.lays159_ren := {
  sizeBuilder := by kernel_rfl
  liesBuilder := by kernel_rfl
  t5 := Tryz.underlying5
  a5 := Tryz.isAgg5
  z5 := Tryz.sizeOf5
  v5 := Tryz.zeroValue5
  infoByte := by kernel_rfl
  cellsByte := by kernel_rfl
  sizeByte := by kernel_rfl
  neB5 := by decide }
open Go.RowKit in
/-- strings.ToLower: "ToLower returns s with all Unicode letters mapped to their lower case.": ON ASCII TEXT OF AT MOST 2^47 BYTES. Below the heap's end the world is as it was: where a letter turns, the call makes a builder and its buffer. (LAID: no walk: one application.) -/
theorem Tryz.strings_ToLower_ascii (s : ByteArray) (w : World) (hs : s.size ≤ 140737488355328) (hascii : ∀ (j : Nat) (b : UInt8), s.data.toList[j]? = some b → b.toNat < 128) :
    Calls Tryz.prog 127 #[.string s] w fun e w' => e = .returned (.string ⟨(Lib.toLowerA s.data.toList).toArray⟩) ∧ Below w.heap.size w w' := Any.strings_ToLower_ascii Tryz.lays159 Tryz.Builder_Extra_159 s w hs hascii
def Tryz.lays156_ren : Go.Shelf.Ren := ⟨fun | 156 => 98 | 165 => 43 | 166 => 44 | 169 => 46 | 240 => 87 | 241 => 88 | 276 => 119 | 277 => 120 | n => n, fun | 31 => 27 | 9 => 9 | 3 => 3 | 4 => 4 | 0 => 0 | 20 => 20 | 72 => 84 | 76 => 88 | 70 => 81 | 37 => 82 | 75 => 87 | 127 => 120 | 164 => 138 | 5 => 5 | 80 => 91 | n => n, fun | n => n⟩
theorem Tryz.lays156 : Go.Proofs.Lays.n156 Tryz.prog Tryz.lays156_ren := {
  mixed := by kernel_rfl
  f156 := Tryz.func98.trans (congrArg some (by kernel_rfl))
  f165 := Tryz.func43.trans (congrArg some (by kernel_rfl))
  f166 := Tryz.func44.trans (congrArg some (by kernel_rfl))
  f169 := Tryz.func46.trans (congrArg some (by kernel_rfl))
  f240 := Tryz.func87.trans (congrArg some (by kernel_rfl))
  f241 := Tryz.func88.trans (congrArg some (by kernel_rfl))
  f276 := Tryz.func119.trans (congrArg some (by kernel_rfl))
  f277 := Tryz.func120.trans (congrArg some (by kernel_rfl))
  t0 := Tryz.underlying0
  a0 := Tryz.isAgg0
  z0 := Tryz.sizeOf0
  v0 := Tryz.zeroValue0
  t3 := Tryz.underlying3
  a3 := Tryz.isAgg3
  z3 := Tryz.sizeOf3
  v3 := Tryz.zeroValue3
  t4 := Tryz.underlying4
  a4 := Tryz.isAgg4
  z4 := Tryz.sizeOf4
  v4 := Tryz.zeroValue4
  t9 := Tryz.underlying9
  a9 := Tryz.isAgg9
  z9 := Tryz.sizeOf9
  v9 := Tryz.zeroValue9
  t20 := Tryz.underlying20
  a20 := Tryz.isAgg20
  z20 := Tryz.sizeOf20
  v20 := Tryz.zeroValue20
  t31 := Tryz.underlying27
  a31 := Tryz.isAgg27
  z31 := Tryz.sizeOf27
  v31 := Tryz.zeroValue27
  t37 := Tryz.underlying82
  a37 := Tryz.isAgg82
  z37 := Tryz.sizeOf82
  v37 := Tryz.zeroValue82
  t70 := Tryz.underlying81
  a70 := Tryz.isAgg81
  z70 := Tryz.sizeOf81
  v70 := Tryz.zeroValue81
  t72 := Tryz.underlying84
  a72 := Tryz.isAgg84
  z72 := Tryz.sizeOf84
  v72 := Tryz.zeroValue84
  t75 := Tryz.underlying87
  a75 := Tryz.isAgg87
  z75 := Tryz.sizeOf87
  v75 := Tryz.zeroValue87
  t76 := Tryz.underlying88
  a76 := Tryz.isAgg88
  z76 := Tryz.sizeOf88
  v76 := Tryz.zeroValue88
  t127 := Tryz.underlying120
  a127 := Tryz.isAgg120
  z127 := Tryz.sizeOf120
  v127 := Tryz.zeroValue120
  t164 := Tryz.underlying138
  a164 := Tryz.isAgg138
  z164 := Tryz.sizeOf138
  v164 := Tryz.zeroValue138 }
theorem Tryz.Builder_Extra_156 : Builder.Extra Tryz.prog Tryz.lays156_ren := {
  sizeBuilder := by kernel_rfl
  liesBuilder := by kernel_rfl
  t5 := Tryz.underlying5
  a5 := Tryz.isAgg5
  z5 := Tryz.sizeOf5
  v5 := Tryz.zeroValue5
  infoByte := by kernel_rfl
  cellsByte := by kernel_rfl
  sizeByte := by kernel_rfl
  neB5 := by decide }
open Go.RowKit in
/-- No element: the empty string; the world is as it was. (Whatever the slice's address and capacity: a nil slice too.) (LAID: no walk: one application.) -/
theorem Tryz.strings_Join_none (a : Option Addr) (c : Nat) (sep : ByteArray) (w : World) :
    Calls Tryz.prog 98 #[.slice a 0 c, .string sep] w fun e w' => e = .returned (.string ⟨#[]⟩) ∧ w' = w := Any.strings_Join_none Tryz.lays156 Tryz.Builder_Extra_156 a c sep w
open Go.RowKit in
/-- strings.Join: "Join concatenates the elements of its first argument to create a single string. The separator string sep is placed between elements in the resulting string.": HOWEVER MANY ELEMENTS. Below the heap's end the world is as it was. (LAID: no walk: one application.) -/
theorem Tryz.strings_Join (bk o c : Nat) (xs : List ByteArray) (sep : ByteArray) (w : World) (hcells : ∀ (j : Nat) x, xs[j]? = some x → w.cell? ⟨bk, o + j, none⟩ = some (.string x)) (hbk : bk < w.heap.size) (hN : xs.length ≤ 140737488355328) (hcap : xs.length ≤ c) (hlen : (Lib.join (xs.map (·.data.toList)) sep.data.toList).length ≤ 140737488355328) :
    Calls Tryz.prog 98 #[.slice (some ⟨bk, o, none⟩) xs.length c, .string sep] w fun e w' => e = .returned (.string ⟨(Lib.join (xs.map (·.data.toList)) sep.data.toList).toArray⟩) ∧ Below w.heap.size w w' := Any.strings_Join Tryz.lays156 Tryz.Builder_Extra_156 bk o c xs sep w hcells hbk hN hcap hlen
def Tryz.lays161_ren : Go.Shelf.Ren := ⟨fun | 161 => 109 | 231 => 130 | 227 => 74 | 233 => 131 | 235 => 132 | 228 => 75 | 197 => 83 | 151 => 143 | 260 => 118 | 152 => 72 | 137 => 37 | 119 => 108 | 224 => 106 | 225 => 105 | 217 => 79 | 266 => 113 | n => n, fun | 9 => 9 | 4 => 4 | 3 => 3 | 5 => 5 | 117 => 103 | 116 => 102 | 0 => 0 | 124 => 135 | 105 => 112 | 21 => 21 | 119 => 147 | 46 => 78 | 139 => 150 | 138 => 149 | n => n, fun | 3 => 1 | 4 => 2 | n => n⟩
theorem Tryz.lays161 : Go.Proofs.Lays.n161 Tryz.prog Tryz.lays161_ren := {
  mixed := by kernel_rfl
  f119 := Tryz.func108.trans (congrArg some (by kernel_rfl))
  f137 := Tryz.func37.trans (congrArg some (by kernel_rfl))
  f151 := Tryz.func143.trans (congrArg some (by kernel_rfl))
  f152 := Tryz.func72.trans (congrArg some (by kernel_rfl))
  f161 := Tryz.func109.trans (congrArg some (by kernel_rfl))
  f197 := Tryz.func83.trans (congrArg some (by kernel_rfl))
  f217 := Tryz.func79.trans (congrArg some (by kernel_rfl))
  f224 := Tryz.func106.trans (congrArg some (by kernel_rfl))
  f225 := Tryz.func105.trans (congrArg some (by kernel_rfl))
  f227 := Tryz.func74.trans (congrArg some (by kernel_rfl))
  f228 := Tryz.func75.trans (congrArg some (by kernel_rfl))
  f231 := Tryz.func130.trans (congrArg some (by kernel_rfl))
  f233 := Tryz.func131.trans (congrArg some (by kernel_rfl))
  f235 := Tryz.func132.trans (congrArg some (by kernel_rfl))
  f260 := Tryz.func118.trans (congrArg some (by kernel_rfl))
  f266 := Tryz.func113.trans (congrArg some (by kernel_rfl))
  t0 := Tryz.underlying0
  a0 := Tryz.isAgg0
  z0 := Tryz.sizeOf0
  v0 := Tryz.zeroValue0
  t3 := Tryz.underlying3
  a3 := Tryz.isAgg3
  z3 := Tryz.sizeOf3
  v3 := Tryz.zeroValue3
  t4 := Tryz.underlying4
  a4 := Tryz.isAgg4
  z4 := Tryz.sizeOf4
  v4 := Tryz.zeroValue4
  t5 := Tryz.underlying5
  a5 := Tryz.isAgg5
  z5 := Tryz.sizeOf5
  v5 := Tryz.zeroValue5
  t9 := Tryz.underlying9
  a9 := Tryz.isAgg9
  z9 := Tryz.sizeOf9
  v9 := Tryz.zeroValue9
  t21 := Tryz.underlying21
  a21 := Tryz.isAgg21
  z21 := Tryz.sizeOf21
  v21 := Tryz.zeroValue21
  t46 := Tryz.underlying78
  a46 := Tryz.isAgg78
  z46 := Tryz.sizeOf78
  v46 := Tryz.zeroValue78
  t105 := Tryz.underlying112
  a105 := Tryz.isAgg112
  z105 := Tryz.sizeOf112
  v105 := Tryz.zeroValue112
  t116 := Tryz.underlying102
  a116 := Tryz.isAgg102
  z116 := Tryz.sizeOf102
  t117 := Tryz.underlying103
  a117 := Tryz.isAgg103
  z117 := Tryz.sizeOf103
  v117 := Tryz.zeroValue103
  t119 := Tryz.underlying147
  a119 := Tryz.isAgg147
  z119 := Tryz.sizeOf147
  t124 := Tryz.underlying135
  a124 := Tryz.isAgg135
  z124 := Tryz.sizeOf135
  v124 := Tryz.zeroValue135
  t138 := Tryz.underlying149
  a138 := Tryz.isAgg149
  z138 := Tryz.sizeOf149
  v138 := Tryz.zeroValue149
  t139 := Tryz.underlying150
  a139 := Tryz.isAgg150
  z139 := Tryz.sizeOf150
  v139 := Tryz.zeroValue150
  g3 := by kernel_rfl
  g4 := by kernel_rfl }
open Go.RowKit in
/-- strings.TrimLeft: "TrimLeft returns a slice of the string s with all leading Unicode code points contained in cutset removed.": AT A cutset OF ONE ASCII BYTE. The world is as it was. (LAID: no walk: one application.) -/
theorem Tryz.strings_TrimLeft_one (s : ByteArray) (c : UInt8) (hc : c.toNat < 128) (w : World) :
    Calls Tryz.prog 109 #[.string s, .string ⟨#[c]⟩] w fun e w' => e = .returned (.string ⟨(Lib.trimLeftB s.data.toList c).toArray⟩) ∧ w' = w := Any.strings_TrimLeft_one Tryz.lays161 s c hc w
def Tryz.lays162_ren : Go.Shelf.Ren := ⟨fun | 162 => 99 | 232 => 124 | 227 => 74 | 234 => 125 | 236 => 126 | 228 => 75 | 271 => 142 | 151 => 143 | 120 => 157 | 197 => 83 | 152 => 72 | 260 => 118 | 137 => 37 | 119 => 108 | 224 => 106 | 225 => 105 | 217 => 79 | 266 => 113 | n => n, fun | 9 => 9 | 4 => 4 | 3 => 3 | 5 => 5 | 117 => 103 | 116 => 102 | 0 => 0 | 124 => 135 | 21 => 21 | 105 => 112 | 46 => 78 | 119 => 147 | 139 => 150 | 138 => 149 | n => n, fun | 3 => 1 | 4 => 2 | n => n⟩
theorem Tryz.lays162 : Go.Proofs.Lays.n162 Tryz.prog Tryz.lays162_ren := {
  mixed := by kernel_rfl
  f119 := Tryz.func108.trans (congrArg some (by kernel_rfl))
  f120 := Tryz.func157.trans (congrArg some (by kernel_rfl))
  f137 := Tryz.func37.trans (congrArg some (by kernel_rfl))
  f151 := Tryz.func143.trans (congrArg some (by kernel_rfl))
  f152 := Tryz.func72.trans (congrArg some (by kernel_rfl))
  f162 := Tryz.func99.trans (congrArg some (by kernel_rfl))
  f197 := Tryz.func83.trans (congrArg some (by kernel_rfl))
  f217 := Tryz.func79.trans (congrArg some (by kernel_rfl))
  f224 := Tryz.func106.trans (congrArg some (by kernel_rfl))
  f225 := Tryz.func105.trans (congrArg some (by kernel_rfl))
  f227 := Tryz.func74.trans (congrArg some (by kernel_rfl))
  f228 := Tryz.func75.trans (congrArg some (by kernel_rfl))
  f232 := Tryz.func124.trans (congrArg some (by kernel_rfl))
  f234 := Tryz.func125.trans (congrArg some (by kernel_rfl))
  f236 := Tryz.func126.trans (congrArg some (by kernel_rfl))
  f260 := Tryz.func118.trans (congrArg some (by kernel_rfl))
  f266 := Tryz.func113.trans (congrArg some (by kernel_rfl))
  f271 := Tryz.func142.trans (congrArg some (by kernel_rfl))
  t0 := Tryz.underlying0
  a0 := Tryz.isAgg0
  z0 := Tryz.sizeOf0
  v0 := Tryz.zeroValue0
  t3 := Tryz.underlying3
  a3 := Tryz.isAgg3
  z3 := Tryz.sizeOf3
  v3 := Tryz.zeroValue3
  t4 := Tryz.underlying4
  a4 := Tryz.isAgg4
  z4 := Tryz.sizeOf4
  v4 := Tryz.zeroValue4
  t5 := Tryz.underlying5
  a5 := Tryz.isAgg5
  z5 := Tryz.sizeOf5
  v5 := Tryz.zeroValue5
  t9 := Tryz.underlying9
  a9 := Tryz.isAgg9
  z9 := Tryz.sizeOf9
  v9 := Tryz.zeroValue9
  t21 := Tryz.underlying21
  a21 := Tryz.isAgg21
  z21 := Tryz.sizeOf21
  v21 := Tryz.zeroValue21
  t46 := Tryz.underlying78
  a46 := Tryz.isAgg78
  z46 := Tryz.sizeOf78
  v46 := Tryz.zeroValue78
  t105 := Tryz.underlying112
  a105 := Tryz.isAgg112
  z105 := Tryz.sizeOf112
  v105 := Tryz.zeroValue112
  t116 := Tryz.underlying102
  a116 := Tryz.isAgg102
  z116 := Tryz.sizeOf102
  t117 := Tryz.underlying103
  a117 := Tryz.isAgg103
  z117 := Tryz.sizeOf103
  v117 := Tryz.zeroValue103
  t119 := Tryz.underlying147
  a119 := Tryz.isAgg147
  z119 := Tryz.sizeOf147
  t124 := Tryz.underlying135
  a124 := Tryz.isAgg135
  z124 := Tryz.sizeOf135
  v124 := Tryz.zeroValue135
  t138 := Tryz.underlying149
  a138 := Tryz.isAgg149
  z138 := Tryz.sizeOf149
  v138 := Tryz.zeroValue149
  t139 := Tryz.underlying150
  a139 := Tryz.isAgg150
  z139 := Tryz.sizeOf150
  v139 := Tryz.zeroValue150
  g3 := by kernel_rfl
  g4 := by kernel_rfl }
def Tryz.lays137_ren : Go.Shelf.Ren := ⟨fun | 137 => 37 | 217 => 79 | 266 => 113 | n => n, fun | 9 => 9 | 5 => 5 | 3 => 3 | n => n, fun | n => n⟩
theorem Tryz.lays137 : Go.Proofs.Lays.n137 Tryz.prog Tryz.lays137_ren := {
  mixed := by kernel_rfl
  f137 := Tryz.func37.trans (congrArg some (by kernel_rfl))
  f217 := Tryz.func79.trans (congrArg some (by kernel_rfl))
  f266 := Tryz.func113.trans (congrArg some (by kernel_rfl))
  t3 := Tryz.underlying3
  a3 := Tryz.isAgg3
  z3 := Tryz.sizeOf3
  v3 := Tryz.zeroValue3
  t5 := Tryz.underlying5
  a5 := Tryz.isAgg5
  z5 := Tryz.sizeOf5
  v5 := Tryz.zeroValue5
  t9 := Tryz.underlying9
  a9 := Tryz.isAgg9
  z9 := Tryz.sizeOf9
  v9 := Tryz.zeroValue9 }
open Go.RowKit in
/-- strings.IndexByte: "IndexByte returns the index of the first instance of c in s, or -1 if c is not present in s.": IT RETURNS 'Lib.indexByte s c'; the world is as it was. (LAID: no walk: one application.) -/
theorem Tryz.strings_IndexByte (s : ByteArray) (c : Int) (w : World) :
    Calls Tryz.prog 37 #[.string s, .int .u8 c] w fun e w' => e = .returned (.int .i64 (Lib.indexByte s.data.toList c.toNat.toUInt8)) ∧ w' = w := Any.strings_IndexByte Tryz.lays137 s c w
def Tryz.lays104_ren : Go.Shelf.Ren := ⟨fun | 104 => 111 | 211 => 134 | 207 => 137 | n => n, fun | 9 => 9 | 4 => 4 | 24 => 93 | 3 => 3 | n => n, fun | n => n⟩
theorem Tryz.lays104 : Go.Proofs.Lays.n104 Tryz.prog Tryz.lays104_ren := {
  mixed := by kernel_rfl
  f104 := Tryz.func111.trans (congrArg some (by kernel_rfl))
  f207 := Tryz.func137.trans (congrArg some (by kernel_rfl))
  f211 := Tryz.func134.trans (congrArg some (by kernel_rfl))
  t3 := Tryz.underlying3
  a3 := Tryz.isAgg3
  z3 := Tryz.sizeOf3
  v3 := Tryz.zeroValue3
  t4 := Tryz.underlying4
  a4 := Tryz.isAgg4
  z4 := Tryz.sizeOf4
  v4 := Tryz.zeroValue4
  t9 := Tryz.underlying9
  a9 := Tryz.isAgg9
  z9 := Tryz.sizeOf9
  v9 := Tryz.zeroValue9
  t24 := Tryz.underlying93
  a24 := Tryz.isAgg93
  z24 := Tryz.sizeOf93
  v24 := Tryz.zeroValue93 }
open Go.RowKit in
/-- strings.CutSuffix: "CutSuffix returns s without the provided ending suffix string and reports whether it found the suffix. If s doesn't end with suffix, CutSuffix returns s, false. If suffix is the empty string, CutSuffix returns s, true.": IT RETURNS '(Lib.trimSuffix s p, Lib.hasSuffix s p)'; the world is as it was. (LAID: no walk: one application.) -/
theorem Tryz.strings_CutSuffix (s p : ByteArray) (w : World) (hs : s.size ≤ 9223372036854775807) :
    Calls Tryz.prog 111 #[.string s, .string p] w fun e w' => e = .returned (.tuple #[.string ⟨(Lib.trimSuffix s.data.toList p.data.toList).toArray⟩, .bool (Lib.hasSuffix s.data.toList p.data.toList)]) ∧ w' = w := Any.strings_CutSuffix Tryz.lays104 s p w hs
def Tryz.laysM171_ren : Go.Shelf.Ren := ⟨fun | 171 => 94 | 243 => 122 | 246 => 140 | 283 => 152 | 284 => 153 | 285 => 154 | 286 => 155 | 129 => 166 | 317 => 165 | 318 => 167 | 319 => 168 | 320 => 169 | 337 => 174 | 338 => 175 | n => n, fun | 3 => 3 | 9 => 9 | 2 => 2 | 4 => 4 | 171 => 164 | 0 => 0 | 53 => 117 | 37 => 82 | 5 => 5 | 173 => 167 | 212 => 178 | 51 => 114 | 20 => 20 | 213 => 179 | 46 => 78 | 232 => 193 | 233 => 194 | n => n, fun | 17 => 5 | 18 => 7 | 19 => 8 | n => n⟩
theorem Tryz.laysM171 : Go.Proofs.LaysM.n171 Tryz.prog Tryz.laysM171_ren := {
  mixed := by kernel_rfl
  f129 := Tryz.func166.trans (congrArg some (by kernel_rfl))
  f171 := Tryz.func94.trans (congrArg some (by kernel_rfl))
  f243 := Tryz.func122.trans (congrArg some (by kernel_rfl))
  f246 := Tryz.func140.trans (congrArg some (by kernel_rfl))
  f283 := Tryz.func152.trans (congrArg some (by kernel_rfl))
  f284 := Tryz.func153.trans (congrArg some (by kernel_rfl))
  f285 := Tryz.func154.trans (congrArg some (by kernel_rfl))
  f286 := Tryz.func155.trans (congrArg some (by kernel_rfl))
  f317 := Tryz.func165.trans (congrArg some (by kernel_rfl))
  f318 := Tryz.func167.trans (congrArg some (by kernel_rfl))
  f319 := Tryz.func168.trans (congrArg some (by kernel_rfl))
  f320 := Tryz.func169.trans (congrArg some (by kernel_rfl))
  f337 := Tryz.func174.trans (congrArg some (by kernel_rfl))
  f338 := Tryz.func175.trans (congrArg some (by kernel_rfl))
  t0 := Tryz.underlying0
  a0 := Tryz.isAgg0
  z0 := Tryz.sizeOf0
  v0 := Tryz.zeroValue0
  t2 := Tryz.underlying2
  a2 := Tryz.isAgg2
  z2 := Tryz.sizeOf2
  v2 := Tryz.zeroValue2
  t3 := Tryz.underlying3
  a3 := Tryz.isAgg3
  z3 := Tryz.sizeOf3
  v3 := Tryz.zeroValue3
  t4 := Tryz.underlying4
  a4 := Tryz.isAgg4
  z4 := Tryz.sizeOf4
  v4 := Tryz.zeroValue4
  t5 := Tryz.underlying5
  a5 := Tryz.isAgg5
  z5 := Tryz.sizeOf5
  v5 := Tryz.zeroValue5
  t9 := Tryz.underlying9
  a9 := Tryz.isAgg9
  z9 := Tryz.sizeOf9
  v9 := Tryz.zeroValue9
  t20 := Tryz.underlying20
  a20 := Tryz.isAgg20
  z20 := Tryz.sizeOf20
  v20 := Tryz.zeroValue20
  t37 := Tryz.underlying82
  a37 := Tryz.isAgg82
  z37 := Tryz.sizeOf82
  v37 := Tryz.zeroValue82
  t46 := Tryz.underlying78
  a46 := Tryz.isAgg78
  z46 := Tryz.sizeOf78
  v46 := Tryz.zeroValue78
  t51 := Tryz.underlying114
  a51 := Tryz.isAgg114
  z51 := Tryz.sizeOf114
  v51 := Tryz.zeroValue114
  t53 := Tryz.underlying117
  a53 := Tryz.isAgg117
  z53 := Tryz.sizeOf117
  v53 := Tryz.zeroValue117
  t171 := Tryz.underlying164
  a171 := Tryz.isAgg164
  z171 := Tryz.sizeOf164
  v171 := Tryz.zeroValue164
  t173 := Tryz.underlying167
  a173 := Tryz.isAgg167
  z173 := Tryz.sizeOf167
  v173 := Tryz.zeroValue167
  t212 := Tryz.underlying178
  a212 := Tryz.isAgg178
  z212 := Tryz.sizeOf178
  v212 := Tryz.zeroValue178
  t213 := Tryz.underlying179
  a213 := Tryz.isAgg179
  z213 := Tryz.sizeOf179
  t232 := Tryz.underlying193
  a232 := Tryz.isAgg193
  z232 := Tryz.sizeOf193
  v232 := Tryz.zeroValue193
  t233 := Tryz.underlying194
  a233 := Tryz.isAgg194
  z233 := Tryz.sizeOf194
  v233 := Tryz.zeroValue194
  g17 := by kernel_rfl
  g18 := by kernel_rfl
  g19 := by kernel_rfl
  i0 := by kernel_rfl
  i2 := by kernel_rfl
  i3 := by kernel_rfl
  i4 := by kernel_rfl
  i5 := by kernel_rfl
  i9 := by kernel_rfl
  i20 := by kernel_rfl
  i37 := by kernel_rfl
  i46 := by kernel_rfl
  i51 := by kernel_rfl
  i53 := by kernel_rfl
  i171 := by kernel_rfl
  i173 := by kernel_rfl
  i212 := by kernel_rfl
  i232 := by kernel_rfl
  i233 := by kernel_rfl
  m17 := by kernel_rfl
  m18 := by kernel_rfl
  m19 := by kernel_rfl }
open Go.RowKit Go.Sort Go.Lib in
/-- strconv.Itoa: "Itoa is equivalent to FormatInt(int64(i), 10).": i's DECIMAL NUMERAL ('Lib.itoa': a '-' where i is negative, then the digits), FOR EVERY int. The world behind the call: the world before it, new blocks behind the heap (the library's 'var a [24]byte'), draws. (LAID: no walk: one application.) -/
theorem Tryz.strconv_Itoa (n : Int) (h0 : -9223372036854775808 ≤ n) (h1 : n ≤ 9223372036854775807) (w : World) (htab : Lib.TabIs Tryz.prog w "internal/strconv.uint64pow10" .u64 Lib.pow10Tab) :
    Calls Tryz.prog 94 #[.int .i64 n] w fun e w' => e = .returned (.string ⟨(Lib.itoa n).toArray⟩) ∧ ∃ k os, w' = grow (w.drewN k) os := Any.strconv_Itoa Tryz.laysM171 n h0 h1 w htab
def Tryz.lays171_ren : Go.Shelf.Ren := ⟨fun | 171 => 94 | 243 => 122 | 246 => 140 | 283 => 152 | 284 => 153 | 285 => 154 | 286 => 155 | 129 => 166 | 317 => 165 | 318 => 167 | 319 => 168 | 320 => 169 | 337 => 174 | 338 => 175 | n => n, fun | 3 => 3 | 9 => 9 | 2 => 2 | 4 => 4 | 171 => 164 | 0 => 0 | 53 => 117 | 37 => 82 | 5 => 5 | 173 => 167 | 212 => 178 | 51 => 114 | 20 => 20 | 213 => 179 | 46 => 78 | 232 => 193 | 233 => 194 | n => n, fun | 17 => 5 | 18 => 7 | 19 => 8 | n => n⟩
theorem Tryz.lays171 : Go.Proofs.Lays.n171 Tryz.prog Tryz.lays171_ren := {
  mixed := by kernel_rfl
  f129 := Tryz.func166.trans (congrArg some (by kernel_rfl))
  f171 := Tryz.func94.trans (congrArg some (by kernel_rfl))
  f243 := Tryz.func122.trans (congrArg some (by kernel_rfl))
  f246 := Tryz.func140.trans (congrArg some (by kernel_rfl))
  f283 := Tryz.func152.trans (congrArg some (by kernel_rfl))
  f284 := Tryz.func153.trans (congrArg some (by kernel_rfl))
  f285 := Tryz.func154.trans (congrArg some (by kernel_rfl))
  f286 := Tryz.func155.trans (congrArg some (by kernel_rfl))
  f317 := Tryz.func165.trans (congrArg some (by kernel_rfl))
  f318 := Tryz.func167.trans (congrArg some (by kernel_rfl))
  f319 := Tryz.func168.trans (congrArg some (by kernel_rfl))
  f320 := Tryz.func169.trans (congrArg some (by kernel_rfl))
  f337 := Tryz.func174.trans (congrArg some (by kernel_rfl))
  f338 := Tryz.func175.trans (congrArg some (by kernel_rfl))
  t0 := Tryz.underlying0
  a0 := Tryz.isAgg0
  z0 := Tryz.sizeOf0
  v0 := Tryz.zeroValue0
  t2 := Tryz.underlying2
  a2 := Tryz.isAgg2
  z2 := Tryz.sizeOf2
  v2 := Tryz.zeroValue2
  t3 := Tryz.underlying3
  a3 := Tryz.isAgg3
  z3 := Tryz.sizeOf3
  v3 := Tryz.zeroValue3
  t4 := Tryz.underlying4
  a4 := Tryz.isAgg4
  z4 := Tryz.sizeOf4
  v4 := Tryz.zeroValue4
  t5 := Tryz.underlying5
  a5 := Tryz.isAgg5
  z5 := Tryz.sizeOf5
  v5 := Tryz.zeroValue5
  t9 := Tryz.underlying9
  a9 := Tryz.isAgg9
  z9 := Tryz.sizeOf9
  v9 := Tryz.zeroValue9
  t20 := Tryz.underlying20
  a20 := Tryz.isAgg20
  z20 := Tryz.sizeOf20
  v20 := Tryz.zeroValue20
  t37 := Tryz.underlying82
  a37 := Tryz.isAgg82
  z37 := Tryz.sizeOf82
  v37 := Tryz.zeroValue82
  t46 := Tryz.underlying78
  a46 := Tryz.isAgg78
  z46 := Tryz.sizeOf78
  v46 := Tryz.zeroValue78
  t51 := Tryz.underlying114
  a51 := Tryz.isAgg114
  z51 := Tryz.sizeOf114
  v51 := Tryz.zeroValue114
  t53 := Tryz.underlying117
  a53 := Tryz.isAgg117
  z53 := Tryz.sizeOf117
  v53 := Tryz.zeroValue117
  t171 := Tryz.underlying164
  a171 := Tryz.isAgg164
  z171 := Tryz.sizeOf164
  v171 := Tryz.zeroValue164
  t173 := Tryz.underlying167
  a173 := Tryz.isAgg167
  z173 := Tryz.sizeOf167
  v173 := Tryz.zeroValue167
  t212 := Tryz.underlying178
  a212 := Tryz.isAgg178
  z212 := Tryz.sizeOf178
  v212 := Tryz.zeroValue178
  t213 := Tryz.underlying179
  a213 := Tryz.isAgg179
  z213 := Tryz.sizeOf179
  t232 := Tryz.underlying193
  a232 := Tryz.isAgg193
  z232 := Tryz.sizeOf193
  v232 := Tryz.zeroValue193
  t233 := Tryz.underlying194
  a233 := Tryz.isAgg194
  z233 := Tryz.sizeOf194
  v233 := Tryz.zeroValue194
  g17 := by kernel_rfl
  g18 := by kernel_rfl
  g19 := by kernel_rfl }
open Go.RowKit Go.Sort Go.Lib in
/-- THE ROAD WITHOUT THE TABLE: 0 <= i < 100: NO PREMISE ON THE WORLD, AND THE WORLD IS AS IT WAS: a row that keeps its argument in that range need list no table ('laid = []'). (LAID: no walk: one application.) -/
theorem Tryz.strconv_Itoa_small (i : Nat) (hi : i < 100) (w : World) :
    Calls Tryz.prog 94 #[.int .i64 i] w fun e w' => e = .returned (.string ⟨(Lib.decDigits i).toArray⟩) ∧ w' = w := Any.strconv_Itoa_small Tryz.lays171 i hi w
def Tryz.laysC172_ren : Go.Shelf.Ren := ⟨fun | 172 => 112 | 244 => 135 | 245 => 136 | 247 => 147 | 279 => 148 | 280 => 149 | 281 => 150 | 282 => 151 | 287 => 162 | 316 => 163 | 171 => 94 | 205 => 164 | 321 => 172 | 322 => 173 | 243 => 122 | 246 => 140 | 283 => 152 | 284 => 153 | 285 => 154 | 286 => 155 | 129 => 166 | 317 => 165 | 318 => 167 | 319 => 168 | 320 => 169 | 337 => 174 | 338 => 175 | n => n, fun | 9 => 9 | 3 => 3 | 75 => 87 | 76 => 88 | 4 => 4 | 5 => 5 | 167 => 158 | 37 => 82 | 0 => 0 | 85 => 159 | 2 => 2 | 168 => 161 | 53 => 117 | 175 => 173 | 46 => 78 | 210 => 176 | 127 => 120 | 145 => 188 | 143 => 186 | 21 => 21 | 171 => 164 | 173 => 167 | 212 => 178 | 51 => 114 | 20 => 20 | 213 => 179 | 232 => 193 | 233 => 194 | 80 => 91 | n => n, fun | 15 => 3 | 16 => 4 | 17 => 5 | 18 => 7 | 19 => 8 | n => n⟩
theorem Tryz.laysC172 : Go.Proofs.LaysC.n172 Tryz.prog Tryz.laysC172_ren := {
  mixed := by kernel_rfl
  f129 := Tryz.func166.trans (congrArg some (by kernel_rfl))
  f171 := Tryz.func94.trans (congrArg some (by kernel_rfl))
  f172 := Tryz.func112.trans (congrArg some (by kernel_rfl))
  f205 := Tryz.func164.trans (congrArg some (by kernel_rfl))
  f243 := Tryz.func122.trans (congrArg some (by kernel_rfl))
  f244 := Tryz.func135.trans (congrArg some (by kernel_rfl))
  f245 := Tryz.func136.trans (congrArg some (by kernel_rfl))
  f246 := Tryz.func140.trans (congrArg some (by kernel_rfl))
  f247 := Tryz.func147.trans (congrArg some (by kernel_rfl))
  f279 := Tryz.func148.trans (congrArg some (by kernel_rfl))
  f280 := Tryz.func149.trans (congrArg some (by kernel_rfl))
  f281 := Tryz.func150.trans (congrArg some (by kernel_rfl))
  f282 := Tryz.func151.trans (congrArg some (by kernel_rfl))
  f283 := Tryz.func152.trans (congrArg some (by kernel_rfl))
  f284 := Tryz.func153.trans (congrArg some (by kernel_rfl))
  f285 := Tryz.func154.trans (congrArg some (by kernel_rfl))
  f286 := Tryz.func155.trans (congrArg some (by kernel_rfl))
  f287 := Tryz.func162.trans (congrArg some (by kernel_rfl))
  f316 := Tryz.func163.trans (congrArg some (by kernel_rfl))
  f317 := Tryz.func165.trans (congrArg some (by kernel_rfl))
  f318 := Tryz.func167.trans (congrArg some (by kernel_rfl))
  f319 := Tryz.func168.trans (congrArg some (by kernel_rfl))
  f320 := Tryz.func169.trans (congrArg some (by kernel_rfl))
  f321 := Tryz.func172.trans (congrArg some (by kernel_rfl))
  f322 := Tryz.func173.trans (congrArg some (by kernel_rfl))
  f337 := Tryz.func174.trans (congrArg some (by kernel_rfl))
  f338 := Tryz.func175.trans (congrArg some (by kernel_rfl))
  t0 := Tryz.underlying0
  a0 := Tryz.isAgg0
  z0 := Tryz.sizeOf0
  v0 := Tryz.zeroValue0
  t2 := Tryz.underlying2
  a2 := Tryz.isAgg2
  z2 := Tryz.sizeOf2
  v2 := Tryz.zeroValue2
  t3 := Tryz.underlying3
  a3 := Tryz.isAgg3
  z3 := Tryz.sizeOf3
  v3 := Tryz.zeroValue3
  t4 := Tryz.underlying4
  a4 := Tryz.isAgg4
  z4 := Tryz.sizeOf4
  v4 := Tryz.zeroValue4
  t5 := Tryz.underlying5
  a5 := Tryz.isAgg5
  z5 := Tryz.sizeOf5
  v5 := Tryz.zeroValue5
  t9 := Tryz.underlying9
  a9 := Tryz.isAgg9
  z9 := Tryz.sizeOf9
  v9 := Tryz.zeroValue9
  t20 := Tryz.underlying20
  a20 := Tryz.isAgg20
  z20 := Tryz.sizeOf20
  v20 := Tryz.zeroValue20
  t21 := Tryz.underlying21
  a21 := Tryz.isAgg21
  z21 := Tryz.sizeOf21
  v21 := Tryz.zeroValue21
  t37 := Tryz.underlying82
  a37 := Tryz.isAgg82
  z37 := Tryz.sizeOf82
  v37 := Tryz.zeroValue82
  t46 := Tryz.underlying78
  a46 := Tryz.isAgg78
  z46 := Tryz.sizeOf78
  v46 := Tryz.zeroValue78
  t51 := Tryz.underlying114
  a51 := Tryz.isAgg114
  z51 := Tryz.sizeOf114
  v51 := Tryz.zeroValue114
  t53 := Tryz.underlying117
  a53 := Tryz.isAgg117
  z53 := Tryz.sizeOf117
  v53 := Tryz.zeroValue117
  t75 := Tryz.underlying87
  a75 := Tryz.isAgg87
  z75 := Tryz.sizeOf87
  v75 := Tryz.zeroValue87
  t76 := Tryz.underlying88
  a76 := Tryz.isAgg88
  z76 := Tryz.sizeOf88
  v76 := Tryz.zeroValue88
  t85 := Tryz.underlying159
  a85 := Tryz.isAgg159
  z85 := Tryz.sizeOf159
  v85 := Tryz.zeroValue159
  t127 := Tryz.underlying120
  a127 := Tryz.isAgg120
  z127 := Tryz.sizeOf120
  v127 := Tryz.zeroValue120
  t143 := Tryz.underlying186
  a143 := Tryz.isAgg186
  z143 := Tryz.sizeOf186
  v143 := Tryz.zeroValue186
  t145 := Tryz.underlying188
  a145 := Tryz.isAgg188
  z145 := Tryz.sizeOf188
  v145 := Tryz.zeroValue188
  t167 := Tryz.underlying158
  a167 := Tryz.isAgg158
  z167 := Tryz.sizeOf158
  v167 := Tryz.zeroValue158
  t168 := Tryz.underlying161
  a168 := Tryz.isAgg161
  z168 := Tryz.sizeOf161
  v168 := Tryz.zeroValue161
  t171 := Tryz.underlying164
  a171 := Tryz.isAgg164
  z171 := Tryz.sizeOf164
  v171 := Tryz.zeroValue164
  t173 := Tryz.underlying167
  a173 := Tryz.isAgg167
  z173 := Tryz.sizeOf167
  v173 := Tryz.zeroValue167
  t175 := Tryz.underlying173
  a175 := Tryz.isAgg173
  z175 := Tryz.sizeOf173
  v175 := Tryz.zeroValue173
  t210 := Tryz.underlying176
  a210 := Tryz.isAgg176
  z210 := Tryz.sizeOf176
  v210 := Tryz.zeroValue176
  t212 := Tryz.underlying178
  a212 := Tryz.isAgg178
  z212 := Tryz.sizeOf178
  v212 := Tryz.zeroValue178
  t213 := Tryz.underlying179
  a213 := Tryz.isAgg179
  z213 := Tryz.sizeOf179
  t232 := Tryz.underlying193
  a232 := Tryz.isAgg193
  z232 := Tryz.sizeOf193
  v232 := Tryz.zeroValue193
  t233 := Tryz.underlying194
  a233 := Tryz.isAgg194
  z233 := Tryz.sizeOf194
  v233 := Tryz.zeroValue194
  g15 := by kernel_rfl
  g16 := by kernel_rfl
  g17 := by kernel_rfl
  g18 := by kernel_rfl
  g19 := by kernel_rfl
  t80 := Tryz.underlying91
  a80 := Tryz.isAgg91
  z80 := Tryz.sizeOf91
  v80 := Tryz.zeroValue91
  i0 := by kernel_rfl
  i2 := by kernel_rfl
  i3 := by kernel_rfl
  i4 := by kernel_rfl
  i5 := by kernel_rfl
  i9 := by kernel_rfl
  i20 := by kernel_rfl
  i21 := by kernel_rfl
  i37 := by kernel_rfl
  i46 := by kernel_rfl
  i51 := by kernel_rfl
  i53 := by kernel_rfl
  i75 := by kernel_rfl
  i76 := by kernel_rfl
  i80 := by kernel_rfl
  i85 := by kernel_rfl
  i127 := by kernel_rfl
  i143 := by kernel_rfl
  i145 := by kernel_rfl
  i167 := by kernel_rfl
  i168 := by kernel_rfl
  i171 := by kernel_rfl
  i173 := by kernel_rfl
  i175 := by kernel_rfl
  i210 := by kernel_rfl
  i212 := by kernel_rfl
  i232 := by kernel_rfl
  i233 := by kernel_rfl
  m15 := by kernel_rfl
  m16 := by kernel_rfl
  m17 := by kernel_rfl
  m18 := by kernel_rfl
  m19 := by kernel_rfl
  c0 := by kernel_rfl
  c2 := by kernel_rfl
  c3 := by kernel_rfl
  c4 := by kernel_rfl
  c5 := by kernel_rfl
  c9 := by kernel_rfl
  c20 := by kernel_rfl
  c21 := by kernel_rfl
  c37 := by kernel_rfl
  c46 := by kernel_rfl
  c51 := by kernel_rfl
  c53 := by kernel_rfl
  c75 := by kernel_rfl
  c76 := by kernel_rfl
  c80 := by kernel_rfl
  c85 := by kernel_rfl
  c127 := by kernel_rfl
  c143 := by kernel_rfl
  c145 := by kernel_rfl
  c167 := by kernel_rfl
  c168 := by kernel_rfl
  c171 := by kernel_rfl
  c173 := by kernel_rfl
  c175 := by kernel_rfl
  c210 := by kernel_rfl
  c212 := by kernel_rfl
  c213 := by kernel_rfl
  c232 := by kernel_rfl
  c233 := by kernel_rfl }
open Go.RowKit in
/-- strconv.Atoi, AT EVERY STRING THAT SPELLS AN int ('Lib.atoiAll .. = .ok v'; of whatever length: leading zeros count): v, AND NO ERROR. The world: as it was, or with the one new row that '[]byte(..)' lays. (LAID: no walk: one application.) -/
theorem Tryz.strconv_Atoi_ok (s : ByteArray) (hmax : s.size ≤ 9223372036854775806) (v : Int) (h : Lib.atoiAll s.data.toList = .ok v) (w : World) :
    Calls Tryz.prog 112 #[.string s] w fun e w' => e = .returned (.tuple #[.int .i64 v, .nilIface]) ∧ (w' = w ∨ ∃ t, w' = Lib.bytesWorld w 5 t) := Any.strconv_Atoi_ok Tryz.laysC172 s hmax v h w
open Go.RowKit in
theorem Tryz.strconv_Atoi_range_var (s : ByteArray) (hlim : s.size ≤ 281474976710656) (h : Lib.atoiAll s.data.toList = .range) (tp : TypeId) (p : Value) (w : World) (hvar : w.var? Tryz.prog "strconv.ErrRange" = some #[.iface tp p]) :
    Calls Tryz.prog 112 #[.string s] w fun e w' => ∃ N, e = .returned (.tuple #[.int .i64 (Lib.atoiSat s.data.toList), .iface 161 (.pointer (some ⟨N, 0, none⟩))]) ∧ w.heap.size ≤ N ∧ w'.heap[N]? = some (.cells #[.string ⟨#[65, 116, 111, 105]⟩, .string s, .iface tp p] 176 (0, 0)) ∧ Below w.heap.size w w' := Any.strconv_Atoi_range_var Tryz.laysC172 s hlim h tp p w hvar
def Tryz.lays143_ren : Go.Shelf.Ren := ⟨fun | 143 => 28 | 219 => 71 | 217 => 79 | 225 => 105 | 224 => 106 | 267 => 107 | 266 => 113 | 314 => 129 | n => n, fun | 9 => 9 | 3 => 3 | 4 => 4 | 5 => 5 | 46 => 78 | 146 => 115 | 51 => 114 | n => n, fun | 1 => 0 | n => n⟩
theorem Tryz.lays143 : Go.Proofs.Lays.n143 Tryz.prog Tryz.lays143_ren := {
  mixed := by kernel_rfl
  f143 := Tryz.func28.trans (congrArg some (by kernel_rfl))
  f217 := Tryz.func79.trans (congrArg some (by kernel_rfl))
  f219 := Tryz.func71.trans (congrArg some (by kernel_rfl))
  f224 := Tryz.func106.trans (congrArg some (by kernel_rfl))
  f225 := Tryz.func105.trans (congrArg some (by kernel_rfl))
  f266 := Tryz.func113.trans (congrArg some (by kernel_rfl))
  f267 := Tryz.func107.trans (congrArg some (by kernel_rfl))
  f314 := Tryz.func129.trans (congrArg some (by kernel_rfl))
  t3 := Tryz.underlying3
  a3 := Tryz.isAgg3
  z3 := Tryz.sizeOf3
  v3 := Tryz.zeroValue3
  t4 := Tryz.underlying4
  a4 := Tryz.isAgg4
  z4 := Tryz.sizeOf4
  v4 := Tryz.zeroValue4
  t5 := Tryz.underlying5
  a5 := Tryz.isAgg5
  z5 := Tryz.sizeOf5
  v5 := Tryz.zeroValue5
  t9 := Tryz.underlying9
  a9 := Tryz.isAgg9
  z9 := Tryz.sizeOf9
  v9 := Tryz.zeroValue9
  t46 := Tryz.underlying78
  a46 := Tryz.isAgg78
  z46 := Tryz.sizeOf78
  v46 := Tryz.zeroValue78
  t51 := Tryz.underlying114
  a51 := Tryz.isAgg114
  z51 := Tryz.sizeOf114
  v51 := Tryz.zeroValue114
  t146 := Tryz.underlying115
  a146 := Tryz.isAgg115
  z146 := Tryz.sizeOf115
  v146 := Tryz.zeroValue115
  g1 := by kernel_rfl }
open Go.RowKit Go.Lib in
/-- strings.Index: "Index returns the index of the first instance of substr in s, or -1 if substr is not present in s.": AT A substr OF ONE BYTE c: IT RETURNS 'Lib.indexByte s c'; the world is as it was. (LAID: no walk: one application.) -/
theorem Tryz.strings_Index_one (s : ByteArray) (c : UInt8) (w : World) :
    Calls Tryz.prog 28 #[.string s, .string ⟨#[c]⟩] w fun e w' => e = .returned (.int .i64 (Lib.indexByte s.data.toList c)) ∧ w' = w := Any.strings_Index_one Tryz.lays143 s c w
def Tryz.lays144_ren : Go.Shelf.Ren := ⟨fun | 144 => 14 | 143 => 28 | 219 => 71 | 217 => 79 | 225 => 105 | 224 => 106 | 267 => 107 | 266 => 113 | 314 => 129 | n => n, fun | 9 => 9 | 4 => 4 | 3 => 3 | 5 => 5 | 46 => 78 | 146 => 115 | 51 => 114 | n => n, fun | 1 => 0 | n => n⟩
theorem Tryz.lays144 : Go.Proofs.Lays.n144 Tryz.prog Tryz.lays144_ren := {
  mixed := by kernel_rfl
  f143 := Tryz.func28.trans (congrArg some (by kernel_rfl))
  f144 := Tryz.func14.trans (congrArg some (by kernel_rfl))
  f217 := Tryz.func79.trans (congrArg some (by kernel_rfl))
  f219 := Tryz.func71.trans (congrArg some (by kernel_rfl))
  f224 := Tryz.func106.trans (congrArg some (by kernel_rfl))
  f225 := Tryz.func105.trans (congrArg some (by kernel_rfl))
  f266 := Tryz.func113.trans (congrArg some (by kernel_rfl))
  f267 := Tryz.func107.trans (congrArg some (by kernel_rfl))
  f314 := Tryz.func129.trans (congrArg some (by kernel_rfl))
  t3 := Tryz.underlying3
  a3 := Tryz.isAgg3
  z3 := Tryz.sizeOf3
  v3 := Tryz.zeroValue3
  t4 := Tryz.underlying4
  a4 := Tryz.isAgg4
  z4 := Tryz.sizeOf4
  v4 := Tryz.zeroValue4
  t5 := Tryz.underlying5
  a5 := Tryz.isAgg5
  z5 := Tryz.sizeOf5
  v5 := Tryz.zeroValue5
  t9 := Tryz.underlying9
  a9 := Tryz.isAgg9
  z9 := Tryz.sizeOf9
  v9 := Tryz.zeroValue9
  t46 := Tryz.underlying78
  a46 := Tryz.isAgg78
  z46 := Tryz.sizeOf78
  v46 := Tryz.zeroValue78
  t51 := Tryz.underlying114
  a51 := Tryz.isAgg114
  z51 := Tryz.sizeOf114
  v51 := Tryz.zeroValue114
  t146 := Tryz.underlying115
  a146 := Tryz.isAgg115
  z146 := Tryz.sizeOf115
  v146 := Tryz.zeroValue115
  g1 := by kernel_rfl }
open Go.RowKit Go.Lib in
/-- strings.Contains: "Contains reports whether substr is within s.": AT A substr OF ONE BYTE c: IT RETURNS 'decide (0 ≤ Lib.indexByte s c)'; the world is as it was. (LAID: no walk: one application.) -/
theorem Tryz.strings_Contains_one (s : ByteArray) (c : UInt8) (w : World) :
    Calls Tryz.prog 14 #[.string s, .string ⟨#[c]⟩] w fun e w' => e = .returned (.bool (decide (0 ≤ Lib.indexByte s.data.toList c))) ∧ w' = w := Any.strings_Contains_one Tryz.lays144 s c w
open Go.RowKit Go.Lib in
/-- strings.Contains: "Contains reports whether substr is within s.": IT RETURNS 'Lib.contains s substr'; the world is as it was. (LAID: no walk: one application.) -/
theorem Tryz.strings_Contains (s sub : ByteArray) (m : Int) (w : World) (hs : s.size < 4294967281) (hm : w.cell? ⟨0, 0, none⟩ = some (.int .i64 m)) :
    Calls Tryz.prog 14 #[.string s, .string sub] w fun e w' => e = .returned (.bool (Lib.contains s.data.toList sub.data.toList)) ∧ w' = w := Any.strings_Contains Tryz.lays144 s sub m w hs hm
def Tryz.lays145_ren : Go.Shelf.Ren := ⟨fun | 145 => 110 | 220 => 133 | 219 => 71 | 217 => 79 | 225 => 105 | 224 => 106 | 267 => 107 | 266 => 113 | 314 => 129 | n => n, fun | 9 => 9 | 4 => 4 | 59 => 110 | 3 => 3 | 5 => 5 | 46 => 78 | 146 => 115 | 51 => 114 | n => n, fun | 1 => 0 | n => n⟩
theorem Tryz.lays145 : Go.Proofs.Lays.n145 Tryz.prog Tryz.lays145_ren := {
  mixed := by kernel_rfl
  f145 := Tryz.func110.trans (congrArg some (by kernel_rfl))
  f217 := Tryz.func79.trans (congrArg some (by kernel_rfl))
  f219 := Tryz.func71.trans (congrArg some (by kernel_rfl))
  f220 := Tryz.func133.trans (congrArg some (by kernel_rfl))
  f224 := Tryz.func106.trans (congrArg some (by kernel_rfl))
  f225 := Tryz.func105.trans (congrArg some (by kernel_rfl))
  f266 := Tryz.func113.trans (congrArg some (by kernel_rfl))
  f267 := Tryz.func107.trans (congrArg some (by kernel_rfl))
  f314 := Tryz.func129.trans (congrArg some (by kernel_rfl))
  t3 := Tryz.underlying3
  a3 := Tryz.isAgg3
  z3 := Tryz.sizeOf3
  v3 := Tryz.zeroValue3
  t4 := Tryz.underlying4
  a4 := Tryz.isAgg4
  z4 := Tryz.sizeOf4
  v4 := Tryz.zeroValue4
  t5 := Tryz.underlying5
  a5 := Tryz.isAgg5
  z5 := Tryz.sizeOf5
  v5 := Tryz.zeroValue5
  t9 := Tryz.underlying9
  a9 := Tryz.isAgg9
  z9 := Tryz.sizeOf9
  v9 := Tryz.zeroValue9
  t46 := Tryz.underlying78
  a46 := Tryz.isAgg78
  z46 := Tryz.sizeOf78
  v46 := Tryz.zeroValue78
  t51 := Tryz.underlying114
  a51 := Tryz.isAgg114
  z51 := Tryz.sizeOf114
  v51 := Tryz.zeroValue114
  t59 := Tryz.underlying110
  a59 := Tryz.isAgg110
  z59 := Tryz.sizeOf110
  v59 := Tryz.zeroValue110
  t146 := Tryz.underlying115
  a146 := Tryz.isAgg115
  z146 := Tryz.sizeOf115
  v146 := Tryz.zeroValue115
  g1 := by kernel_rfl }
open Go.RowKit Go.Lib in
/-- strings.Cut: "Cut slices s around the first instance of sep, returning the text before and after sep. The found result reports whether sep appears in s. If sep does not appear in s, cut returns s, "", false.": IT RETURNS 'Lib.cut s sep'; the world is as it was but for the count of draws. (LAID: no walk: one application.) -/
theorem Tryz.strings_Cut (s sep : ByteArray) (m : Int) (w : World) (hs : s.size < 4294967281) (hm : w.cell? ⟨0, 0, none⟩ = some (.int .i64 m)) :
    Calls Tryz.prog 110 #[.string s, .string sep] w fun e w' => e = .returned (.tuple #[.string ⟨(Lib.cut s.data.toList sep.data.toList).1.toArray⟩, .string ⟨(Lib.cut s.data.toList sep.data.toList).2.1.toArray⟩, .bool (Lib.cut s.data.toList sep.data.toList).2.2]) ∧ ∃ n, w' = w.drewN n := Any.strings_Cut Tryz.lays145 s sep m w hs hm
def Tryz.lays138_ren : Go.Shelf.Ren := ⟨fun | 138 => 82 | 195 => 116 | 218 => 117 | 143 => 28 | 219 => 71 | 217 => 79 | 225 => 105 | 224 => 106 | 267 => 107 | 266 => 113 | 314 => 129 | n => n, fun | 9 => 9 | 3 => 3 | 4 => 4 | 5 => 5 | 0 => 0 | 46 => 78 | 146 => 115 | 51 => 114 | n => n, fun | 1 => 0 | n => n⟩
theorem Tryz.lays138 : Go.Proofs.Lays.n138 Tryz.prog Tryz.lays138_ren := {
  mixed := by kernel_rfl
  f138 := Tryz.func82.trans (congrArg some (by kernel_rfl))
  f143 := Tryz.func28.trans (congrArg some (by kernel_rfl))
  f195 := Tryz.func116.trans (congrArg some (by kernel_rfl))
  f217 := Tryz.func79.trans (congrArg some (by kernel_rfl))
  f218 := Tryz.func117.trans (congrArg some (by kernel_rfl))
  f219 := Tryz.func71.trans (congrArg some (by kernel_rfl))
  f224 := Tryz.func106.trans (congrArg some (by kernel_rfl))
  f225 := Tryz.func105.trans (congrArg some (by kernel_rfl))
  f266 := Tryz.func113.trans (congrArg some (by kernel_rfl))
  f267 := Tryz.func107.trans (congrArg some (by kernel_rfl))
  f314 := Tryz.func129.trans (congrArg some (by kernel_rfl))
  t0 := Tryz.underlying0
  a0 := Tryz.isAgg0
  z0 := Tryz.sizeOf0
  v0 := Tryz.zeroValue0
  t3 := Tryz.underlying3
  a3 := Tryz.isAgg3
  z3 := Tryz.sizeOf3
  v3 := Tryz.zeroValue3
  t4 := Tryz.underlying4
  a4 := Tryz.isAgg4
  z4 := Tryz.sizeOf4
  v4 := Tryz.zeroValue4
  t5 := Tryz.underlying5
  a5 := Tryz.isAgg5
  z5 := Tryz.sizeOf5
  v5 := Tryz.zeroValue5
  t9 := Tryz.underlying9
  a9 := Tryz.isAgg9
  z9 := Tryz.sizeOf9
  v9 := Tryz.zeroValue9
  t46 := Tryz.underlying78
  a46 := Tryz.isAgg78
  z46 := Tryz.sizeOf78
  v46 := Tryz.zeroValue78
  t51 := Tryz.underlying114
  a51 := Tryz.isAgg114
  z51 := Tryz.sizeOf114
  v51 := Tryz.zeroValue114
  t146 := Tryz.underlying115
  a146 := Tryz.isAgg115
  z146 := Tryz.sizeOf115
  v146 := Tryz.zeroValue115
  g1 := by kernel_rfl }
open Go.RowKit Go.Lib in
/-- strings.Count AT A substr OF ONE BYTE ('hp'): "Count counts the number of non-overlapping instances of substr in s.": IT RETURNS 'Lib.countByte s (that byte)'; the world is as it was. ✋ NO CONTRACT HERE YET at an empty substr (utf8.RuneCountInString) or at a longer one (a loop over strings.Index). (LAID: no walk: one application.) -/
theorem Tryz.strings_Count_one (s : ByteArray) (c : UInt8) (w : World) :
    Calls Tryz.prog 82 #[.string s, .string ⟨#[c]⟩] w fun e w' => e = .returned (.int .i64 (Lib.countByte s.data.toList c)) ∧ w' = w := Any.strings_Count_one Tryz.lays138 s c w
def Tryz.lays315_ren : Go.Shelf.Ren := ⟨fun | 315 => 139 | n => n, fun | 9 => 9 | 40 => 122 | 4 => 4 | 3 => 3 | 0 => 0 | 21 => 21 | n => n, fun | n => n⟩
theorem Tryz.lays315 : Go.Proofs.Lays.n315 Tryz.prog Tryz.lays315_ren := {
  mixed := by kernel_rfl
  f315 := Tryz.func139.trans (congrArg some (by kernel_rfl))
  t0 := Tryz.underlying0
  a0 := Tryz.isAgg0
  z0 := Tryz.sizeOf0
  v0 := Tryz.zeroValue0
  t3 := Tryz.underlying3
  a3 := Tryz.isAgg3
  z3 := Tryz.sizeOf3
  v3 := Tryz.zeroValue3
  t4 := Tryz.underlying4
  a4 := Tryz.isAgg4
  z4 := Tryz.sizeOf4
  v4 := Tryz.zeroValue4
  t9 := Tryz.underlying9
  a9 := Tryz.isAgg9
  z9 := Tryz.sizeOf9
  v9 := Tryz.zeroValue9
  t21 := Tryz.underlying21
  a21 := Tryz.isAgg21
  z21 := Tryz.sizeOf21
  v21 := Tryz.zeroValue21
  t40 := Tryz.underlying122
  a40 := Tryz.isAgg122
  z40 := Tryz.sizeOf122
  v40 := Tryz.zeroValue122 }
open Go.RowKit Go.Lib in
theorem Tryz.strings_indexFunc (g : Nat) (lb : Array Value) (eg : ∀ args w, (callFunc g args).run Tryz.prog w = .ok (.enter g args) w) (p : Nat → Bool) (truth : Bool) (s : ByteArray) (w : World) (hp : PredAt Tryz.prog g lb encR p w) :
    Calls Tryz.prog 139 #[.string s, .func (.func g) #[] lb, .bool truth] w fun e w' => e = .returned (.int .i64 (Lib.idxFunc p truth s)) ∧ Below w.heap.size w w' := Any.strings_indexFunc Tryz.lays315 g lb eg p truth s w hp
def Tryz.laysGw15_ren : Go.Shelf.Ren := ⟨fun | 15 => 121 | 20 => 139 | n => n, fun | 9 => 9 | 23 => 122 | 3 => 3 | 4 => 4 | 0 => 0 | 21 => 21 | n => n, fun | n => n⟩
theorem Tryz.laysGw15 : Go.Proofs.LaysGw.n15 Tryz.prog Tryz.laysGw15_ren := {
  mixed := by kernel_rfl
  f15 := Tryz.func121.trans (congrArg some (by kernel_rfl))
  f20 := Tryz.func139.trans (congrArg some (by kernel_rfl))
  t0 := Tryz.underlying0
  a0 := Tryz.isAgg0
  z0 := Tryz.sizeOf0
  v0 := Tryz.zeroValue0
  i0 := by kernel_rfl
  t3 := Tryz.underlying3
  a3 := Tryz.isAgg3
  z3 := Tryz.sizeOf3
  v3 := Tryz.zeroValue3
  i3 := by kernel_rfl
  t4 := Tryz.underlying4
  a4 := Tryz.isAgg4
  z4 := Tryz.sizeOf4
  v4 := Tryz.zeroValue4
  i4 := by kernel_rfl
  t9 := Tryz.underlying9
  a9 := Tryz.isAgg9
  z9 := Tryz.sizeOf9
  v9 := Tryz.zeroValue9
  i9 := by kernel_rfl
  t21 := Tryz.underlying21
  a21 := Tryz.isAgg21
  z21 := Tryz.sizeOf21
  v21 := Tryz.zeroValue21
  i21 := by kernel_rfl
  t23 := Tryz.underlying122
  a23 := Tryz.isAgg122
  z23 := Tryz.sizeOf122
  v23 := Tryz.zeroValue122
  i23 := by kernel_rfl }
open Go.RowKit Go.Lib in
theorem Tryz.strings_IndexFunc (g : Nat) (lb : Array Value) (eg : ∀ args w, (callFunc g args).run Tryz.prog w = .ok (.enter g args) w) (p : Nat → Bool) (s : ByteArray) (w : World) (hp : PredAt Tryz.prog g lb encR p w) :
    Calls Tryz.prog 121 #[.string s, .func (.func g) #[] lb] w fun e w' => e = .returned (.int .i64 (Lib.idxFunc p true s)) ∧ Below w.heap.size w w' := Any.strings_IndexFunc Tryz.laysGw15 g lb eg p s w hp
def Tryz.laysGw17_ren : Go.Shelf.Ren := ⟨fun | 17 => 89 | 15 => 121 | 20 => 139 | n => n, fun | 9 => 9 | 23 => 122 | 4 => 4 | 3 => 3 | 0 => 0 | 21 => 21 | n => n, fun | n => n⟩
theorem Tryz.laysGw17 : Go.Proofs.LaysGw.n17 Tryz.prog Tryz.laysGw17_ren := {
  mixed := by kernel_rfl
  f15 := Tryz.func121.trans (congrArg some (by kernel_rfl))
  f17 := Tryz.func89.trans (congrArg some (by kernel_rfl))
  f20 := Tryz.func139.trans (congrArg some (by kernel_rfl))
  t0 := Tryz.underlying0
  a0 := Tryz.isAgg0
  z0 := Tryz.sizeOf0
  v0 := Tryz.zeroValue0
  i0 := by kernel_rfl
  t3 := Tryz.underlying3
  a3 := Tryz.isAgg3
  z3 := Tryz.sizeOf3
  v3 := Tryz.zeroValue3
  i3 := by kernel_rfl
  t4 := Tryz.underlying4
  a4 := Tryz.isAgg4
  z4 := Tryz.sizeOf4
  v4 := Tryz.zeroValue4
  i4 := by kernel_rfl
  t9 := Tryz.underlying9
  a9 := Tryz.isAgg9
  z9 := Tryz.sizeOf9
  v9 := Tryz.zeroValue9
  i9 := by kernel_rfl
  t21 := Tryz.underlying21
  a21 := Tryz.isAgg21
  z21 := Tryz.sizeOf21
  v21 := Tryz.zeroValue21
  i21 := by kernel_rfl
  t23 := Tryz.underlying122
  a23 := Tryz.isAgg122
  z23 := Tryz.sizeOf122
  v23 := Tryz.zeroValue122
  i23 := by kernel_rfl }
open Go.RowKit Go.Lib in
theorem Tryz.strings_ContainsFunc (g : Nat) (lb : Array Value) (eg : ∀ args w, (callFunc g args).run Tryz.prog w = .ok (.enter g args) w) (p : Nat → Bool) (s : ByteArray) (w : World) (hp : PredAt Tryz.prog g lb encR p w) :
    Calls Tryz.prog 89 #[.string s, .func (.func g) #[] lb] w fun e w' => e = .returned (.bool (decide (0 ≤ Lib.idxFunc p true s))) ∧ Below w.heap.size w w' := Any.strings_ContainsFunc Tryz.laysGw17 g lb eg p s w hp
def Tryz.lays99_ren : Go.Shelf.Ren := ⟨fun | 99 => 42 | 206 => 86 | n => n, fun | 9 => 9 | 4 => 4 | 3 => 3 | n => n, fun | n => n⟩
theorem Tryz.lays99 : Go.Proofs.Lays.n99 Tryz.prog Tryz.lays99_ren := {
  mixed := by kernel_rfl
  f99 := Tryz.func42.trans (congrArg some (by kernel_rfl))
  f206 := Tryz.func86.trans (congrArg some (by kernel_rfl))
  t3 := Tryz.underlying3
  a3 := Tryz.isAgg3
  z3 := Tryz.sizeOf3
  v3 := Tryz.zeroValue3
  t4 := Tryz.underlying4
  a4 := Tryz.isAgg4
  z4 := Tryz.sizeOf4
  v4 := Tryz.zeroValue4
  t9 := Tryz.underlying9
  a9 := Tryz.isAgg9
  z9 := Tryz.sizeOf9
  v9 := Tryz.zeroValue9 }
open Go.RowKit Go.Lib in
/-- strings.HasPrefix: "HasPrefix reports whether the string s begins with prefix.": IT RETURNS 'Lib.hasPrefix s prefix'; the world is as it was. (LAID: no walk: one application.) -/
theorem Tryz.strings_HasPrefix (s p : ByteArray) (w : World) :
    Calls Tryz.prog 42 #[.string s, .string p] w fun e w' => e = .returned (.bool (Lib.hasPrefix s.data.toList p.data.toList)) ∧ w' = w := Any.strings_HasPrefix Tryz.lays99 s p w
def Tryz.lays100_ren : Go.Shelf.Ren := ⟨fun | 100 => 114 | 207 => 137 | n => n, fun | 9 => 9 | 4 => 4 | 3 => 3 | n => n, fun | n => n⟩
theorem Tryz.lays100 : Go.Proofs.Lays.n100 Tryz.prog Tryz.lays100_ren := {
  mixed := by kernel_rfl
  f100 := Tryz.func114.trans (congrArg some (by kernel_rfl))
  f207 := Tryz.func137.trans (congrArg some (by kernel_rfl))
  t3 := Tryz.underlying3
  a3 := Tryz.isAgg3
  z3 := Tryz.sizeOf3
  v3 := Tryz.zeroValue3
  t4 := Tryz.underlying4
  a4 := Tryz.isAgg4
  z4 := Tryz.sizeOf4
  v4 := Tryz.zeroValue4
  t9 := Tryz.underlying9
  a9 := Tryz.isAgg9
  z9 := Tryz.sizeOf9
  v9 := Tryz.zeroValue9 }
open Go.RowKit Go.Lib in
/-- strings.HasSuffix: "HasSuffix reports whether the string s ends with suffix.": IT RETURNS 'Lib.hasSuffix s suffix'; the world is as it was. ('hs': no Go string is longer: a caller has it of every string that it was handed.) (LAID: no walk: one application.) -/
theorem Tryz.strings_HasSuffix (s p : ByteArray) (w : World) (hs : s.size ≤ 9223372036854775807) :
    Calls Tryz.prog 114 #[.string s, .string p] w fun e w' => e = .returned (.bool (Lib.hasSuffix s.data.toList p.data.toList)) ∧ w' = w := Any.strings_HasSuffix Tryz.lays100 s p w hs
def Tryz.lays102_ren : Go.Shelf.Ren := ⟨fun | 102 => 115 | 209 => 138 | 207 => 137 | n => n, fun | 9 => 9 | 4 => 4 | 3 => 3 | n => n, fun | n => n⟩
theorem Tryz.lays102 : Go.Proofs.Lays.n102 Tryz.prog Tryz.lays102_ren := {
  mixed := by kernel_rfl
  f102 := Tryz.func115.trans (congrArg some (by kernel_rfl))
  f207 := Tryz.func137.trans (congrArg some (by kernel_rfl))
  f209 := Tryz.func138.trans (congrArg some (by kernel_rfl))
  t3 := Tryz.underlying3
  a3 := Tryz.isAgg3
  z3 := Tryz.sizeOf3
  v3 := Tryz.zeroValue3
  t4 := Tryz.underlying4
  a4 := Tryz.isAgg4
  z4 := Tryz.sizeOf4
  v4 := Tryz.zeroValue4
  t9 := Tryz.underlying9
  a9 := Tryz.isAgg9
  z9 := Tryz.sizeOf9
  v9 := Tryz.zeroValue9 }
open Go.RowKit Go.Lib in
/-- strings.TrimSuffix: "TrimSuffix returns s without the provided trailing suffix string. If s doesn't end with suffix, s is returned unchanged.": IT RETURNS 'Lib.trimSuffix s suffix'; the world is as it was. (LAID: no walk: one application.) -/
theorem Tryz.strings_TrimSuffix (s p : ByteArray) (w : World) (hs : s.size ≤ 9223372036854775807) :
    Calls Tryz.prog 115 #[.string s, .string p] w fun e w' => e = .returned (.string ⟨(Lib.trimSuffix s.data.toList p.data.toList).toArray⟩) ∧ w' = w := Any.strings_TrimSuffix Tryz.lays102 s p w hs
def Tryz.lays146_ren : Go.Shelf.Ren := ⟨fun | 146 => 123 | 221 => 141 | 268 => 156 | 138 => 82 | 143 => 28 | 195 => 116 | 197 => 83 | 218 => 117 | 219 => 71 | 260 => 118 | 217 => 79 | 225 => 105 | 224 => 106 | 267 => 107 | 266 => 113 | 314 => 129 | n => n, fun | 9 => 9 | 31 => 27 | 3 => 3 | 4 => 4 | 0 => 0 | 105 => 112 | 21 => 21 | 5 => 5 | 46 => 78 | 119 => 147 | 139 => 150 | 138 => 149 | 146 => 115 | 51 => 114 | n => n, fun | 1 => 0 | 3 => 1 | 4 => 2 | n => n⟩
theorem Tryz.lays146 : Go.Proofs.Lays.n146 Tryz.prog Tryz.lays146_ren := {
  mixed := by kernel_rfl
  f138 := Tryz.func82.trans (congrArg some (by kernel_rfl))
  f143 := Tryz.func28.trans (congrArg some (by kernel_rfl))
  f146 := Tryz.func123.trans (congrArg some (by kernel_rfl))
  f195 := Tryz.func116.trans (congrArg some (by kernel_rfl))
  f197 := Tryz.func83.trans (congrArg some (by kernel_rfl))
  f217 := Tryz.func79.trans (congrArg some (by kernel_rfl))
  f218 := Tryz.func117.trans (congrArg some (by kernel_rfl))
  f219 := Tryz.func71.trans (congrArg some (by kernel_rfl))
  f221 := Tryz.func141.trans (congrArg some (by kernel_rfl))
  f224 := Tryz.func106.trans (congrArg some (by kernel_rfl))
  f225 := Tryz.func105.trans (congrArg some (by kernel_rfl))
  f260 := Tryz.func118.trans (congrArg some (by kernel_rfl))
  f266 := Tryz.func113.trans (congrArg some (by kernel_rfl))
  f267 := Tryz.func107.trans (congrArg some (by kernel_rfl))
  f268 := Tryz.func156.trans (congrArg some (by kernel_rfl))
  f314 := Tryz.func129.trans (congrArg some (by kernel_rfl))
  t0 := Tryz.underlying0
  a0 := Tryz.isAgg0
  z0 := Tryz.sizeOf0
  v0 := Tryz.zeroValue0
  t3 := Tryz.underlying3
  a3 := Tryz.isAgg3
  z3 := Tryz.sizeOf3
  v3 := Tryz.zeroValue3
  t4 := Tryz.underlying4
  a4 := Tryz.isAgg4
  z4 := Tryz.sizeOf4
  v4 := Tryz.zeroValue4
  t5 := Tryz.underlying5
  a5 := Tryz.isAgg5
  z5 := Tryz.sizeOf5
  v5 := Tryz.zeroValue5
  t9 := Tryz.underlying9
  a9 := Tryz.isAgg9
  z9 := Tryz.sizeOf9
  v9 := Tryz.zeroValue9
  t21 := Tryz.underlying21
  a21 := Tryz.isAgg21
  z21 := Tryz.sizeOf21
  v21 := Tryz.zeroValue21
  t31 := Tryz.underlying27
  a31 := Tryz.isAgg27
  z31 := Tryz.sizeOf27
  v31 := Tryz.zeroValue27
  t46 := Tryz.underlying78
  a46 := Tryz.isAgg78
  z46 := Tryz.sizeOf78
  v46 := Tryz.zeroValue78
  t51 := Tryz.underlying114
  a51 := Tryz.isAgg114
  z51 := Tryz.sizeOf114
  v51 := Tryz.zeroValue114
  t105 := Tryz.underlying112
  a105 := Tryz.isAgg112
  z105 := Tryz.sizeOf112
  v105 := Tryz.zeroValue112
  t119 := Tryz.underlying147
  a119 := Tryz.isAgg147
  z119 := Tryz.sizeOf147
  t138 := Tryz.underlying149
  a138 := Tryz.isAgg149
  z138 := Tryz.sizeOf149
  v138 := Tryz.zeroValue149
  t139 := Tryz.underlying150
  a139 := Tryz.isAgg150
  z139 := Tryz.sizeOf150
  v139 := Tryz.zeroValue150
  t146 := Tryz.underlying115
  a146 := Tryz.isAgg115
  z146 := Tryz.sizeOf115
  v146 := Tryz.zeroValue115
  g1 := by kernel_rfl
  g3 := by kernel_rfl
  g4 := by kernel_rfl }
open Go.RowKit Go.Lib in
/-- strings.Split. (LAID: no walk: one application.) -/
theorem Tryz.strings_Split (s sep : ByteArray) (m : Int) (w : World) (hs : s.size < 4294967281) (hm : w.cell? ⟨0, 0, none⟩ = some (.int .i64 m)) (h1 : 1 ≤ sep.size) :
    Calls Tryz.prog 123 #[.string s, .string sep] w fun e w' =>
      e = .returned (.slice (some ⟨w.heap.size, 0, none⟩) (Lib.countB s sep + 1) (Lib.countB s sep + 1)) ∧ w' = w.alloc (.cells ((Lib.splitB sep 0 (Lib.countB s sep) s).map Value.string).toArray 9) := Any.strings_Split Tryz.lays146 (by kernel_rfl) s sep m w hs hm h1
def Tryz.lays154_ren : Go.Shelf.Ren := ⟨fun | 154 => 40 | 138 => 82 | 165 => 43 | 143 => 28 | 166 => 44 | 197 => 83 | 169 => 46 | 195 => 116 | 218 => 117 | 240 => 87 | 241 => 88 | 219 => 71 | 260 => 118 | 276 => 119 | 277 => 120 | 217 => 79 | 225 => 105 | 224 => 106 | 267 => 107 | 266 => 113 | 314 => 129 | n => n, fun | 9 => 9 | 3 => 3 | 4 => 4 | 72 => 84 | 0 => 0 | 76 => 88 | 105 => 112 | 21 => 21 | 5 => 5 | 70 => 81 | 20 => 20 | 37 => 82 | 75 => 87 | 127 => 120 | 164 => 138 | 46 => 78 | 119 => 147 | 139 => 150 | 138 => 149 | 146 => 115 | 51 => 114 | 80 => 91 | n => n, fun | 1 => 0 | 3 => 1 | 4 => 2 | n => n⟩
theorem Tryz.lays154 : Go.Proofs.Lays.n154 Tryz.prog Tryz.lays154_ren := {
  mixed := by kernel_rfl
  f138 := Tryz.func82.trans (congrArg some (by kernel_rfl))
  f143 := Tryz.func28.trans (congrArg some (by kernel_rfl))
  f154 := Tryz.func40.trans (congrArg some (by kernel_rfl))
  f165 := Tryz.func43.trans (congrArg some (by kernel_rfl))
  f166 := Tryz.func44.trans (congrArg some (by kernel_rfl))
  f169 := Tryz.func46.trans (congrArg some (by kernel_rfl))
  f195 := Tryz.func116.trans (congrArg some (by kernel_rfl))
  f197 := Tryz.func83.trans (congrArg some (by kernel_rfl))
  f217 := Tryz.func79.trans (congrArg some (by kernel_rfl))
  f218 := Tryz.func117.trans (congrArg some (by kernel_rfl))
  f219 := Tryz.func71.trans (congrArg some (by kernel_rfl))
  f224 := Tryz.func106.trans (congrArg some (by kernel_rfl))
  f225 := Tryz.func105.trans (congrArg some (by kernel_rfl))
  f240 := Tryz.func87.trans (congrArg some (by kernel_rfl))
  f241 := Tryz.func88.trans (congrArg some (by kernel_rfl))
  f260 := Tryz.func118.trans (congrArg some (by kernel_rfl))
  f266 := Tryz.func113.trans (congrArg some (by kernel_rfl))
  f267 := Tryz.func107.trans (congrArg some (by kernel_rfl))
  f276 := Tryz.func119.trans (congrArg some (by kernel_rfl))
  f277 := Tryz.func120.trans (congrArg some (by kernel_rfl))
  f314 := Tryz.func129.trans (congrArg some (by kernel_rfl))
  t0 := Tryz.underlying0
  a0 := Tryz.isAgg0
  z0 := Tryz.sizeOf0
  v0 := Tryz.zeroValue0
  t3 := Tryz.underlying3
  a3 := Tryz.isAgg3
  z3 := Tryz.sizeOf3
  v3 := Tryz.zeroValue3
  t4 := Tryz.underlying4
  a4 := Tryz.isAgg4
  z4 := Tryz.sizeOf4
  v4 := Tryz.zeroValue4
  t5 := Tryz.underlying5
  a5 := Tryz.isAgg5
  z5 := Tryz.sizeOf5
  v5 := Tryz.zeroValue5
  t9 := Tryz.underlying9
  a9 := Tryz.isAgg9
  z9 := Tryz.sizeOf9
  v9 := Tryz.zeroValue9
  t20 := Tryz.underlying20
  a20 := Tryz.isAgg20
  z20 := Tryz.sizeOf20
  v20 := Tryz.zeroValue20
  t21 := Tryz.underlying21
  a21 := Tryz.isAgg21
  z21 := Tryz.sizeOf21
  v21 := Tryz.zeroValue21
  t37 := Tryz.underlying82
  a37 := Tryz.isAgg82
  z37 := Tryz.sizeOf82
  v37 := Tryz.zeroValue82
  t46 := Tryz.underlying78
  a46 := Tryz.isAgg78
  z46 := Tryz.sizeOf78
  v46 := Tryz.zeroValue78
  t51 := Tryz.underlying114
  a51 := Tryz.isAgg114
  z51 := Tryz.sizeOf114
  v51 := Tryz.zeroValue114
  t70 := Tryz.underlying81
  a70 := Tryz.isAgg81
  z70 := Tryz.sizeOf81
  v70 := Tryz.zeroValue81
  t72 := Tryz.underlying84
  a72 := Tryz.isAgg84
  z72 := Tryz.sizeOf84
  v72 := Tryz.zeroValue84
  t75 := Tryz.underlying87
  a75 := Tryz.isAgg87
  z75 := Tryz.sizeOf87
  v75 := Tryz.zeroValue87
  t76 := Tryz.underlying88
  a76 := Tryz.isAgg88
  z76 := Tryz.sizeOf88
  v76 := Tryz.zeroValue88
  t105 := Tryz.underlying112
  a105 := Tryz.isAgg112
  z105 := Tryz.sizeOf112
  v105 := Tryz.zeroValue112
  t119 := Tryz.underlying147
  a119 := Tryz.isAgg147
  z119 := Tryz.sizeOf147
  t127 := Tryz.underlying120
  a127 := Tryz.isAgg120
  z127 := Tryz.sizeOf120
  v127 := Tryz.zeroValue120
  t138 := Tryz.underlying149
  a138 := Tryz.isAgg149
  z138 := Tryz.sizeOf149
  v138 := Tryz.zeroValue149
  t139 := Tryz.underlying150
  a139 := Tryz.isAgg150
  z139 := Tryz.sizeOf150
  v139 := Tryz.zeroValue150
  t146 := Tryz.underlying115
  a146 := Tryz.isAgg115
  z146 := Tryz.sizeOf115
  v146 := Tryz.zeroValue115
  t164 := Tryz.underlying138
  a164 := Tryz.isAgg138
  z164 := Tryz.sizeOf138
  v164 := Tryz.zeroValue138
  g1 := by kernel_rfl
  g3 := by kernel_rfl
  g4 := by kernel_rfl }
theorem Tryz.Builder_Extra_154 : Builder.Extra Tryz.prog Tryz.lays154_ren := {
  sizeBuilder := by kernel_rfl
  liesBuilder := by kernel_rfl
  t5 := Tryz.underlying5
  a5 := Tryz.isAgg5
  z5 := Tryz.sizeOf5
  v5 := Tryz.zeroValue5
  infoByte := by kernel_rfl
  cellsByte := by kernel_rfl
  sizeByte := by kernel_rfl
  neB5 := by decide }
open Go.RowKit Go.Lib in
/-- strings.Replace: "Replace returns a copy of the string s with the first n non-overlapping instances of old replaced by new. .. If n < 0, there is no limit on the number of replacements.": AT AN old THAT IS NOT EMPTY: IT RETURNS 'Lib.replace s old new n'. Below the heap's end the world is as it was. IT ASKS, as strings.Index's contract: 'len(s) < 4294967281', 'hm'; and that what comes out has room: 'len(s) + Count(s, old) * len(new) ≤ 2^47'. (LAID: no walk: one application.) -/
theorem Tryz.strings_Replace (s old new : ByteArray) (n : Int) (m : Int) (w : World) (hs : s.size < 4294967281) (hm : w.cell? ⟨0, 0, none⟩ = some (.int .i64 m)) (h1 : 1 ≤ old.size) (hlen : s.size + Lib.countB s old * new.size ≤ 140737488355328) :
    Calls Tryz.prog 40 #[.string s, .string old, .string new, .int .i64 n] w fun e w' =>
      e = .returned (.string ⟨(Lib.replace s.data.toList old.data.toList new.data.toList n).toArray⟩) ∧ Below w.heap.size w w' := Any.strings_Replace Tryz.lays154 Tryz.Builder_Extra_154 s old new n m w hs hm h1 hlen
def Tryz.lays155_ren : Go.Shelf.Ren := ⟨fun | 155 => 20 | 154 => 40 | 138 => 82 | 165 => 43 | 143 => 28 | 166 => 44 | 197 => 83 | 169 => 46 | 195 => 116 | 218 => 117 | 240 => 87 | 241 => 88 | 219 => 71 | 260 => 118 | 276 => 119 | 277 => 120 | 217 => 79 | 225 => 105 | 224 => 106 | 267 => 107 | 266 => 113 | 314 => 129 | n => n, fun | 9 => 9 | 3 => 3 | 4 => 4 | 72 => 84 | 0 => 0 | 76 => 88 | 105 => 112 | 21 => 21 | 5 => 5 | 70 => 81 | 20 => 20 | 37 => 82 | 75 => 87 | 127 => 120 | 164 => 138 | 46 => 78 | 119 => 147 | 139 => 150 | 138 => 149 | 146 => 115 | 51 => 114 | 80 => 91 | n => n, fun | 1 => 0 | 3 => 1 | 4 => 2 | n => n⟩
theorem Tryz.lays155 : Go.Proofs.Lays.n155 Tryz.prog Tryz.lays155_ren := {
  mixed := by kernel_rfl
  f138 := Tryz.func82.trans (congrArg some (by kernel_rfl))
  f143 := Tryz.func28.trans (congrArg some (by kernel_rfl))
  f154 := Tryz.func40.trans (congrArg some (by kernel_rfl))
  f155 := Tryz.func20.trans (congrArg some (by kernel_rfl))
  f165 := Tryz.func43.trans (congrArg some (by kernel_rfl))
  f166 := Tryz.func44.trans (congrArg some (by kernel_rfl))
  f169 := Tryz.func46.trans (congrArg some (by kernel_rfl))
  f195 := Tryz.func116.trans (congrArg some (by kernel_rfl))
  f197 := Tryz.func83.trans (congrArg some (by kernel_rfl))
  f217 := Tryz.func79.trans (congrArg some (by kernel_rfl))
  f218 := Tryz.func117.trans (congrArg some (by kernel_rfl))
  f219 := Tryz.func71.trans (congrArg some (by kernel_rfl))
  f224 := Tryz.func106.trans (congrArg some (by kernel_rfl))
  f225 := Tryz.func105.trans (congrArg some (by kernel_rfl))
  f240 := Tryz.func87.trans (congrArg some (by kernel_rfl))
  f241 := Tryz.func88.trans (congrArg some (by kernel_rfl))
  f260 := Tryz.func118.trans (congrArg some (by kernel_rfl))
  f266 := Tryz.func113.trans (congrArg some (by kernel_rfl))
  f267 := Tryz.func107.trans (congrArg some (by kernel_rfl))
  f276 := Tryz.func119.trans (congrArg some (by kernel_rfl))
  f277 := Tryz.func120.trans (congrArg some (by kernel_rfl))
  f314 := Tryz.func129.trans (congrArg some (by kernel_rfl))
  t0 := Tryz.underlying0
  a0 := Tryz.isAgg0
  z0 := Tryz.sizeOf0
  v0 := Tryz.zeroValue0
  t3 := Tryz.underlying3
  a3 := Tryz.isAgg3
  z3 := Tryz.sizeOf3
  v3 := Tryz.zeroValue3
  t4 := Tryz.underlying4
  a4 := Tryz.isAgg4
  z4 := Tryz.sizeOf4
  v4 := Tryz.zeroValue4
  t5 := Tryz.underlying5
  a5 := Tryz.isAgg5
  z5 := Tryz.sizeOf5
  v5 := Tryz.zeroValue5
  t9 := Tryz.underlying9
  a9 := Tryz.isAgg9
  z9 := Tryz.sizeOf9
  v9 := Tryz.zeroValue9
  t20 := Tryz.underlying20
  a20 := Tryz.isAgg20
  z20 := Tryz.sizeOf20
  v20 := Tryz.zeroValue20
  t21 := Tryz.underlying21
  a21 := Tryz.isAgg21
  z21 := Tryz.sizeOf21
  v21 := Tryz.zeroValue21
  t37 := Tryz.underlying82
  a37 := Tryz.isAgg82
  z37 := Tryz.sizeOf82
  v37 := Tryz.zeroValue82
  t46 := Tryz.underlying78
  a46 := Tryz.isAgg78
  z46 := Tryz.sizeOf78
  v46 := Tryz.zeroValue78
  t51 := Tryz.underlying114
  a51 := Tryz.isAgg114
  z51 := Tryz.sizeOf114
  v51 := Tryz.zeroValue114
  t70 := Tryz.underlying81
  a70 := Tryz.isAgg81
  z70 := Tryz.sizeOf81
  v70 := Tryz.zeroValue81
  t72 := Tryz.underlying84
  a72 := Tryz.isAgg84
  z72 := Tryz.sizeOf84
  v72 := Tryz.zeroValue84
  t75 := Tryz.underlying87
  a75 := Tryz.isAgg87
  z75 := Tryz.sizeOf87
  v75 := Tryz.zeroValue87
  t76 := Tryz.underlying88
  a76 := Tryz.isAgg88
  z76 := Tryz.sizeOf88
  v76 := Tryz.zeroValue88
  t105 := Tryz.underlying112
  a105 := Tryz.isAgg112
  z105 := Tryz.sizeOf112
  v105 := Tryz.zeroValue112
  t119 := Tryz.underlying147
  a119 := Tryz.isAgg147
  z119 := Tryz.sizeOf147
  t127 := Tryz.underlying120
  a127 := Tryz.isAgg120
  z127 := Tryz.sizeOf120
  v127 := Tryz.zeroValue120
  t138 := Tryz.underlying149
  a138 := Tryz.isAgg149
  z138 := Tryz.sizeOf149
  v138 := Tryz.zeroValue149
  t139 := Tryz.underlying150
  a139 := Tryz.isAgg150
  z139 := Tryz.sizeOf150
  v139 := Tryz.zeroValue150
  t146 := Tryz.underlying115
  a146 := Tryz.isAgg115
  z146 := Tryz.sizeOf115
  v146 := Tryz.zeroValue115
  t164 := Tryz.underlying138
  a164 := Tryz.isAgg138
  z164 := Tryz.sizeOf138
  v164 := Tryz.zeroValue138
  g1 := by kernel_rfl
  g3 := by kernel_rfl
  g4 := by kernel_rfl }
theorem Tryz.Builder_Extra_155 : Builder.Extra Tryz.prog Tryz.lays155_ren := {
  sizeBuilder := by kernel_rfl
  liesBuilder := by kernel_rfl
  t5 := Tryz.underlying5
  a5 := Tryz.isAgg5
  z5 := Tryz.sizeOf5
  v5 := Tryz.zeroValue5
  infoByte := by kernel_rfl
  cellsByte := by kernel_rfl
  sizeByte := by kernel_rfl
  neB5 := by decide }
open Go.RowKit Go.Lib in
/-- strings.ReplaceAll: "ReplaceAll returns a copy of the string s with all non-overlapping instances of old replaced by new.": AT AN old THAT IS NOT EMPTY: 'Lib.replaceAll s old new'. (LAID: no walk: one application.) -/
theorem Tryz.strings_ReplaceAll (s old new : ByteArray) (m : Int) (w : World) (hs : s.size < 4294967281) (hm : w.cell? ⟨0, 0, none⟩ = some (.int .i64 m)) (h1 : 1 ≤ old.size) (hlen : s.size + Lib.countB s old * new.size ≤ 140737488355328) :
    Calls Tryz.prog 20 #[.string s, .string old, .string new] w fun e w' =>
      e = .returned (.string ⟨(Lib.replaceAll s.data.toList old.data.toList new.data.toList).toArray⟩) ∧ Below w.heap.size w w' := Any.strings_ReplaceAll Tryz.lays155 Tryz.Builder_Extra_155 s old new m w hs hm h1 hlen
def Tryz.lays153_ren : Go.Shelf.Ren := ⟨fun | 153 => 32 | 152 => 72 | 226 => 73 | 227 => 74 | 228 => 75 | 137 => 37 | 119 => 108 | 224 => 106 | 225 => 105 | 217 => 79 | 266 => 113 | n => n, fun | 9 => 9 | 3 => 3 | 4 => 4 | 5 => 5 | 21 => 21 | 117 => 103 | 116 => 102 | 0 => 0 | 46 => 78 | 124 => 135 | n => n, fun | n => n⟩
theorem Tryz.lays153 : Go.Proofs.Lays.n153 Tryz.prog Tryz.lays153_ren := {
  mixed := by kernel_rfl
  f119 := Tryz.func108.trans (congrArg some (by kernel_rfl))
  f137 := Tryz.func37.trans (congrArg some (by kernel_rfl))
  f152 := Tryz.func72.trans (congrArg some (by kernel_rfl))
  f153 := Tryz.func32.trans (congrArg some (by kernel_rfl))
  f217 := Tryz.func79.trans (congrArg some (by kernel_rfl))
  f224 := Tryz.func106.trans (congrArg some (by kernel_rfl))
  f225 := Tryz.func105.trans (congrArg some (by kernel_rfl))
  f226 := Tryz.func73.trans (congrArg some (by kernel_rfl))
  f227 := Tryz.func74.trans (congrArg some (by kernel_rfl))
  f228 := Tryz.func75.trans (congrArg some (by kernel_rfl))
  f266 := Tryz.func113.trans (congrArg some (by kernel_rfl))
  t0 := Tryz.underlying0
  a0 := Tryz.isAgg0
  z0 := Tryz.sizeOf0
  v0 := Tryz.zeroValue0
  t3 := Tryz.underlying3
  a3 := Tryz.isAgg3
  z3 := Tryz.sizeOf3
  v3 := Tryz.zeroValue3
  t4 := Tryz.underlying4
  a4 := Tryz.isAgg4
  z4 := Tryz.sizeOf4
  v4 := Tryz.zeroValue4
  t5 := Tryz.underlying5
  a5 := Tryz.isAgg5
  z5 := Tryz.sizeOf5
  v5 := Tryz.zeroValue5
  t9 := Tryz.underlying9
  a9 := Tryz.isAgg9
  z9 := Tryz.sizeOf9
  v9 := Tryz.zeroValue9
  t21 := Tryz.underlying21
  a21 := Tryz.isAgg21
  z21 := Tryz.sizeOf21
  v21 := Tryz.zeroValue21
  t46 := Tryz.underlying78
  a46 := Tryz.isAgg78
  z46 := Tryz.sizeOf78
  v46 := Tryz.zeroValue78
  t116 := Tryz.underlying102
  a116 := Tryz.isAgg102
  z116 := Tryz.sizeOf102
  t117 := Tryz.underlying103
  a117 := Tryz.isAgg103
  z117 := Tryz.sizeOf103
  v117 := Tryz.zeroValue103
  t124 := Tryz.underlying135
  a124 := Tryz.isAgg135
  z124 := Tryz.sizeOf135
  v124 := Tryz.zeroValue135 }
open Go.RowKit Go.Lib in
theorem Tryz.strings_IndexAny_laid (s chars : ByteArray) (w : World) (hs : s.size < 4294967281) (hcs : chars.size < 4294967281) (has : ∀ (j : Nat) b, s.data.toList[j]? = some b → b.toNat < 128) (hac : ∀ (j : Nat) b, chars.data.toList[j]? = some b → b.toNat < 128) :
    Calls Tryz.prog 32 #[.string s, .string chars] w fun e w' => e = .returned (.int .i64 (Lib.indexAny s.data.toList chars.data.toList)) ∧ Below w.heap.size w w' := Any.strings_IndexAny_laid Tryz.lays153 (by kernel_rfl) s chars w hs hcs has hac
def Tryz.lays105_ren : Go.Shelf.Ren := ⟨fun | 105 => 22 | 212 => 41 | 99 => 42 | 165 => 43 | 166 => 44 | 170 => 45 | 169 => 46 | 263 => 84 | 264 => 85 | 206 => 86 | 240 => 87 | 241 => 88 | 276 => 119 | 277 => 120 | n => n, fun | 9 => 9 | 3 => 3 | 4 => 4 | 20 => 20 | 0 => 0 | 46 => 78 | 109 => 79 | 5 => 5 | 72 => 84 | 76 => 88 | 51 => 114 | 146 => 115 | 53 => 117 | 148 => 118 | 70 => 81 | 37 => 82 | 75 => 87 | 127 => 120 | 164 => 138 | 80 => 91 | n => n, fun | n => n⟩
theorem Tryz.lays105 : Go.Proofs.Lays.n105 Tryz.prog Tryz.lays105_ren := {
  mixed := by kernel_rfl
  f99 := Tryz.func42.trans (congrArg some (by kernel_rfl))
  f105 := Tryz.func22.trans (congrArg some (by kernel_rfl))
  f165 := Tryz.func43.trans (congrArg some (by kernel_rfl))
  f166 := Tryz.func44.trans (congrArg some (by kernel_rfl))
  f169 := Tryz.func46.trans (congrArg some (by kernel_rfl))
  f170 := Tryz.func45.trans (congrArg some (by kernel_rfl))
  f206 := Tryz.func86.trans (congrArg some (by kernel_rfl))
  f212 := Tryz.func41.trans (congrArg some (by kernel_rfl))
  f240 := Tryz.func87.trans (congrArg some (by kernel_rfl))
  f241 := Tryz.func88.trans (congrArg some (by kernel_rfl))
  f263 := Tryz.func84.trans (congrArg some (by kernel_rfl))
  f264 := Tryz.func85.trans (congrArg some (by kernel_rfl))
  f276 := Tryz.func119.trans (congrArg some (by kernel_rfl))
  f277 := Tryz.func120.trans (congrArg some (by kernel_rfl))
  t0 := Tryz.underlying0
  a0 := Tryz.isAgg0
  z0 := Tryz.sizeOf0
  v0 := Tryz.zeroValue0
  t3 := Tryz.underlying3
  a3 := Tryz.isAgg3
  z3 := Tryz.sizeOf3
  v3 := Tryz.zeroValue3
  t4 := Tryz.underlying4
  a4 := Tryz.isAgg4
  z4 := Tryz.sizeOf4
  v4 := Tryz.zeroValue4
  t5 := Tryz.underlying5
  a5 := Tryz.isAgg5
  z5 := Tryz.sizeOf5
  v5 := Tryz.zeroValue5
  t9 := Tryz.underlying9
  a9 := Tryz.isAgg9
  z9 := Tryz.sizeOf9
  v9 := Tryz.zeroValue9
  t20 := Tryz.underlying20
  a20 := Tryz.isAgg20
  z20 := Tryz.sizeOf20
  v20 := Tryz.zeroValue20
  t37 := Tryz.underlying82
  a37 := Tryz.isAgg82
  z37 := Tryz.sizeOf82
  v37 := Tryz.zeroValue82
  t46 := Tryz.underlying78
  a46 := Tryz.isAgg78
  z46 := Tryz.sizeOf78
  v46 := Tryz.zeroValue78
  t51 := Tryz.underlying114
  a51 := Tryz.isAgg114
  z51 := Tryz.sizeOf114
  v51 := Tryz.zeroValue114
  t53 := Tryz.underlying117
  a53 := Tryz.isAgg117
  z53 := Tryz.sizeOf117
  v53 := Tryz.zeroValue117
  t70 := Tryz.underlying81
  a70 := Tryz.isAgg81
  z70 := Tryz.sizeOf81
  v70 := Tryz.zeroValue81
  t72 := Tryz.underlying84
  a72 := Tryz.isAgg84
  z72 := Tryz.sizeOf84
  v72 := Tryz.zeroValue84
  t75 := Tryz.underlying87
  a75 := Tryz.isAgg87
  z75 := Tryz.sizeOf87
  v75 := Tryz.zeroValue87
  t76 := Tryz.underlying88
  a76 := Tryz.isAgg88
  z76 := Tryz.sizeOf88
  v76 := Tryz.zeroValue88
  t109 := Tryz.underlying79
  a109 := Tryz.isAgg79
  z109 := Tryz.sizeOf79
  v109 := Tryz.zeroValue79
  t127 := Tryz.underlying120
  a127 := Tryz.isAgg120
  z127 := Tryz.sizeOf120
  v127 := Tryz.zeroValue120
  t146 := Tryz.underlying115
  a146 := Tryz.isAgg115
  z146 := Tryz.sizeOf115
  v146 := Tryz.zeroValue115
  t148 := Tryz.underlying118
  a148 := Tryz.isAgg118
  z148 := Tryz.sizeOf118
  v148 := Tryz.zeroValue118
  t164 := Tryz.underlying138
  a164 := Tryz.isAgg138
  z164 := Tryz.sizeOf138
  v164 := Tryz.zeroValue138 }
theorem Tryz.Builder_Extra_105 : Builder.Extra Tryz.prog Tryz.lays105_ren := {
  sizeBuilder := by kernel_rfl
  liesBuilder := by kernel_rfl
  t5 := Tryz.underlying5
  a5 := Tryz.isAgg5
  z5 := Tryz.sizeOf5
  v5 := Tryz.zeroValue5
  infoByte := by kernel_rfl
  cellsByte := by kernel_rfl
  sizeByte := by kernel_rfl
  neB5 := by decide }
open Go.RowKit Go.Lib in
/-- **strings.Repeat: count ≥ 0, the result within one allocation: count copies of s.** (LAID: no walk: one application.) -/
theorem Tryz.strings_Repeat (s : ByteArray) (c : Nat) (w : World) (hc : c ≤ 9223372036854775807) (hlen : s.size * c ≤ 140737488355328) :
    Calls Tryz.prog 22 #[.string s, .int .i64 c] w fun e w' => e = .returned (.string ⟨(Lib.repeatL s.data.toList c).toArray⟩) ∧ Below w.heap.size w w' := Any.strings_Repeat Tryz.lays105 Tryz.Builder_Extra_105 s c w hc hlen
end Go.Proofs
