/-
  DERIVED: THE SHELF's CONTRACTS AT THIS DUMP, IN PLAIN WORDS (tools/lay-plain.mjs out of 'TryzShelf.lean', which tools/lay-shelf.mjs wrote): THE SAME DECLARATIONS UNDER THE SAME NAMES: 'import', 'namespace', 'open', 'def', 'theorem' AND NOTHING ELSE: no command of the shelf's: FOR A HAND-IN. Each laying: the table of numbers ('.._ren') and one theorem, a field a fact of the dump's own or the kernel's comparison; each contract: ONE APPLICATION.
-/
import Derived.Shelf.Strings.Builder1
import Derived.Shelf.Strings.Builder2
import Derived.Shelf.Strings.OnBuilder
import Derived.Shelf.Strings.Trim
import Derived.Shelf.Small.Utf8
import Derived.Shelf.Small.Strs
import Derived.Shelf.Small.Wraps
import Derived.Shelf.Strings.BuilderF
import Derived.Shelf.Strings.BuilderK
import Derived.Shelf.Strings.BuilderRune
import Derived.Shelf.Strconv.Atoi
import Derived.Shelf.Strconv.Itoa0
import Derived.Shelf.Strconv.Itoa1
import Derived.Shelf.LaysM
import Derived.Shelf.Strconv.Itoa2
import Derived.Shelf.Strconv.Itoa3
import Derived.Shelf.Strconv.AtoiErrFast
import Derived.Shelf.Strconv.ParseIntEmpty
import Derived.Shelf.Strconv.AtoiFail
import Derived.Shelf.Strconv.Clone
import Derived.Shelf.Strconv.SyntaxError
import Derived.Shelf.LaysC
import Derived.Shelf.Strconv.ToError
import Derived.Shelf.Strconv.Lower
import Derived.Shelf.Strconv.ParseUint10
import Derived.Shelf.Strconv.ParseUint10Empty
import Derived.Shelf.Strconv.ParseUint10Any
import Derived.Shelf.Strconv.ParseInt10
import Derived.Shelf.Strconv.AtoiLong
import Derived.Shelf.Strconv.AtoiInnerAll
import Derived.Shelf.Strconv.RangeError
import Derived.Shelf.Strconv.ToErrorRange
import Derived.Shelf.Strconv.AtoiAll
import Derived.Shelf.Strconv.ErrVarAll
import Derived.Shelf.Strings.Search1
import Derived.Shelf.Strings.Search2
import Derived.Shelf.Strings.Search3
import Derived.Shelf.Strings.Cut
import Derived.Shelf.Strings.Count
import Derived.Shelf.Strings.Shaped
import Derived.Shelf.Strings.Prefix
import Derived.Shelf.Strings.Split
import Derived.Shelf.Strings.Replace
import Derived.Shelf.Strings.SplitShaped
import Derived.Shelf.Unicode.Latin
import Derived.Shelf.Strings.Runes
import Derived.Shelf.Strings.IndexAny
import Derived.Shelf.Strings.AsciiSet
import Derived.Shelf.Strings.IndexAnyAll
import Derived.Shelf.Unicode.DecodeSlow
import Derived.Shelf.Unicode.DecodeAny
import Derived.Shelf.Strings.FieldsFuncAny
import Derived.Shelf.Unicode.CaseLookup
import Derived.Shelf.Unicode.CaseConvert
import Derived.Shelf.Unicode.CaseTo
import Derived.Shelf.Unicode.CaseLaid
import Derived.Shelf.Strings.MapAny
import Derived.Shelf.Strings.CaseAny
import Derived.Shelf.Slices.Turned
import Derived.Ground.Names2Prog
import Derived.Shelf.Slices.ReverseS
import Derived.Shelf.Slices.Clone
import Derived.Shelf.Slices.Cells
import Derived.Ground.SlgnProg
import Derived.Shelf.SlicesE.Clone
import Derived.Ground.SlgfProg
import Derived.Shelf.SlicesE.IndexFunc
import Derived.Shelf.SlicesE.DeleteFunc
import Derived.Test.YtobcmlmbblgcdaaGreatDoorProg
namespace Go.Proofs
open Go.Shelf
def Tryz.lays159_ren : Go.Shelf.Ren := ⟨fun | 159 => 246 | 165 => 82 | 166 => 83 | 167 => 257 | 169 => 84 | 230 => 226 | 204 => 271 | 240 => 103 | 241 => 104 | 197 => 91 | 118 => 254 | 168 => 255 | 270 => 256 | 262 => 298 | 276 => 128 | 277 => 129 | 260 => 118 | 242 => 281 | 313 => 312 | 278 => 302 | 274 => 314 | 275 => 315 | n => n, fun | 9 => 9 | 4 => 4 | 3 => 3 | 5 => 5 | 72 => 148 | 0 => 0 | 76 => 152 | 75 => 151 | 107 => 286 | 70 => 145 | 20 => 20 | 37 => 146 | 127 => 175 | 21 => 21 | 105 => 163 | 164 => 191 | 162 => 361 | 203 => 359 | 119 => 211 | 46 => 165 | 139 => 214 | 138 => 213 | 51 => 187 | 160 => 366 | 208 => 372 | 206 => 370 | 80 => 154 | n => n, fun | 13 => 8 | 3 => 2 | 4 => 3 | n => n⟩
theorem Tryz.lays159 : Go.Proofs.Lays.n159 Tryz.prog Tryz.lays159_ren := {
  mixed := by kernel_rfl
  f118 := Tryz.func254.trans (congrArg some (by kernel_rfl))
  f159 := Tryz.func246.trans (congrArg some (by kernel_rfl))
  f165 := Tryz.func82.trans (congrArg some (by kernel_rfl))
  f166 := Tryz.func83.trans (congrArg some (by kernel_rfl))
  f167 := Tryz.func257.trans (congrArg some (by kernel_rfl))
  f168 := Tryz.func255.trans (congrArg some (by kernel_rfl))
  f169 := Tryz.func84.trans (congrArg some (by kernel_rfl))
  f197 := Tryz.func91.trans (congrArg some (by kernel_rfl))
  f204 := Tryz.func271.trans (congrArg some (by kernel_rfl))
  f230 := Tryz.func226.trans (congrArg some (by kernel_rfl))
  f240 := Tryz.func103.trans (congrArg some (by kernel_rfl))
  f241 := Tryz.func104.trans (congrArg some (by kernel_rfl))
  f242 := Tryz.func281.trans (congrArg some (by kernel_rfl))
  f260 := Tryz.func118.trans (congrArg some (by kernel_rfl))
  f262 := Tryz.func298.trans (congrArg some (by kernel_rfl))
  f270 := Tryz.func256.trans (congrArg some (by kernel_rfl))
  f274 := Tryz.func314.trans (congrArg some (by kernel_rfl))
  f275 := Tryz.func315.trans (congrArg some (by kernel_rfl))
  f276 := Tryz.func128.trans (congrArg some (by kernel_rfl))
  f277 := Tryz.func129.trans (congrArg some (by kernel_rfl))
  f278 := Tryz.func302.trans (congrArg some (by kernel_rfl))
  f313 := Tryz.func312.trans (congrArg some (by kernel_rfl))
  t0 := Tryz.underlying0
  a0 := Tryz.isAgg0
  z0 := Tryz.sizeOf0
  v0 := Tryz.zeroValue0
  t3 := Tryz.underlying3
  a3 := Tryz.isAgg3
  z3 := Tryz.sizeOf3
  v3 := Tryz.zeroValue3
  t4 := Tryz.underlying4
  a4 := Tryz.isAgg4
  z4 := Tryz.sizeOf4
  v4 := Tryz.zeroValue4
  t5 := Tryz.underlying5
  a5 := Tryz.isAgg5
  z5 := Tryz.sizeOf5
  v5 := Tryz.zeroValue5
  t9 := Tryz.underlying9
  a9 := Tryz.isAgg9
  z9 := Tryz.sizeOf9
  v9 := Tryz.zeroValue9
  t20 := Tryz.underlying20
  a20 := Tryz.isAgg20
  z20 := Tryz.sizeOf20
  v20 := Tryz.zeroValue20
  t21 := Tryz.underlying21
  a21 := Tryz.isAgg21
  z21 := Tryz.sizeOf21
  v21 := Tryz.zeroValue21
  t37 := Tryz.underlying146
  a37 := Tryz.isAgg146
  z37 := Tryz.sizeOf146
  v37 := Tryz.zeroValue146
  t46 := Tryz.underlying165
  a46 := Tryz.isAgg165
  z46 := Tryz.sizeOf165
  v46 := Tryz.zeroValue165
  t51 := Tryz.underlying187
  a51 := Tryz.isAgg187
  z51 := Tryz.sizeOf187
  v51 := Tryz.zeroValue187
  t70 := Tryz.underlying145
  a70 := Tryz.isAgg145
  z70 := Tryz.sizeOf145
  v70 := Tryz.zeroValue145
  t72 := Tryz.underlying148
  a72 := Tryz.isAgg148
  z72 := Tryz.sizeOf148
  v72 := Tryz.zeroValue148
  t75 := Tryz.underlying151
  a75 := Tryz.isAgg151
  z75 := Tryz.sizeOf151
  v75 := Tryz.zeroValue151
  t76 := Tryz.underlying152
  a76 := Tryz.isAgg152
  z76 := Tryz.sizeOf152
  v76 := Tryz.zeroValue152
  t105 := Tryz.underlying163
  a105 := Tryz.isAgg163
  z105 := Tryz.sizeOf163
  v105 := Tryz.zeroValue163
  t107 := Tryz.underlying286
  a107 := Tryz.isAgg286
  z107 := Tryz.sizeOf286
  v107 := Tryz.zeroValue286
  t119 := Tryz.underlying211
  a119 := Tryz.isAgg211
  z119 := Tryz.sizeOf211
  t127 := Tryz.underlying175
  a127 := Tryz.isAgg175
  z127 := Tryz.sizeOf175
  v127 := Tryz.zeroValue175
  t138 := Tryz.underlying213
  a138 := Tryz.isAgg213
  z138 := Tryz.sizeOf213
  v138 := Tryz.zeroValue213
  t139 := Tryz.underlying214
  a139 := Tryz.isAgg214
  z139 := Tryz.sizeOf214
  v139 := Tryz.zeroValue214
  t160 := Tryz.underlying366
  a160 := Tryz.isAgg366
  z160 := Tryz.sizeOf366
  v160 := Tryz.zeroValue366
  t162 := Tryz.underlying361
  a162 := Tryz.isAgg361
  z162 := Tryz.sizeOf361
  v162 := Tryz.zeroValue361
  t164 := Tryz.underlying191
  a164 := Tryz.isAgg191
  z164 := Tryz.sizeOf191
  v164 := Tryz.zeroValue191
  t203 := Tryz.underlying359
  a203 := Tryz.isAgg359
  z203 := Tryz.sizeOf359
  v203 := Tryz.zeroValue359
  t206 := Tryz.underlying370
  a206 := Tryz.isAgg370
  z206 := Tryz.sizeOf370
  v206 := Tryz.zeroValue370
  t208 := Tryz.underlying372
  a208 := Tryz.isAgg372
  z208 := Tryz.sizeOf372
  v208 := Tryz.zeroValue372
  g3 := by kernel_rfl
  g4 := by kernel_rfl
  g13 := by kernel_rfl }
theorem Tryz.Builder_Extra_159 : Builder.Extra Tryz.prog Tryz.lays159_ren := {
  sizeBuilder := by kernel_rfl
  liesBuilder := by kernel_rfl
  t5 := Tryz.underlying5
  a5 := Tryz.isAgg5
  z5 := Tryz.sizeOf5
  v5 := Tryz.zeroValue5
  infoByte := by kernel_rfl
  cellsByte := by kernel_rfl
  sizeByte := by kernel_rfl
  neB5 := by decide }
open Go.RowKit in
/-- strings.ToLower: "ToLower returns s with all Unicode letters mapped to their lower case.": ON ASCII TEXT OF AT MOST 2^47 BYTES. Below the heap's end the world is as it was: where a letter turns, the call makes a builder and its buffer. (LAID: no walk: one application.) -/
theorem Tryz.strings_ToLower_ascii (s : ByteArray) (w : World) (hs : s.size ≤ 140737488355328) (hascii : ∀ (j : Nat) (b : UInt8), s.data.toList[j]? = some b → b.toNat < 128) :
    Calls Tryz.prog 246 #[.string s] w fun e w' => e = .returned (.string ⟨(Lib.toLowerA s.data.toList).toArray⟩) ∧ Below w.heap.size w w' := Any.strings_ToLower_ascii Tryz.lays159 Tryz.Builder_Extra_159 s w hs hascii
def Tryz.lays156_ren : Go.Shelf.Ren := ⟨fun | 156 => 64 | 165 => 82 | 166 => 83 | 169 => 84 | 240 => 103 | 241 => 104 | 276 => 128 | 277 => 129 | n => n, fun | 31 => 32 | 9 => 9 | 3 => 3 | 4 => 4 | 0 => 0 | 20 => 20 | 72 => 148 | 76 => 152 | 70 => 145 | 37 => 146 | 75 => 151 | 127 => 175 | 164 => 191 | 5 => 5 | 80 => 154 | n => n, fun | n => n⟩
theorem Tryz.lays156 : Go.Proofs.Lays.n156 Tryz.prog Tryz.lays156_ren := {
  mixed := by kernel_rfl
  f156 := Tryz.func64.trans (congrArg some (by kernel_rfl))
  f165 := Tryz.func82.trans (congrArg some (by kernel_rfl))
  f166 := Tryz.func83.trans (congrArg some (by kernel_rfl))
  f169 := Tryz.func84.trans (congrArg some (by kernel_rfl))
  f240 := Tryz.func103.trans (congrArg some (by kernel_rfl))
  f241 := Tryz.func104.trans (congrArg some (by kernel_rfl))
  f276 := Tryz.func128.trans (congrArg some (by kernel_rfl))
  f277 := Tryz.func129.trans (congrArg some (by kernel_rfl))
  t0 := Tryz.underlying0
  a0 := Tryz.isAgg0
  z0 := Tryz.sizeOf0
  v0 := Tryz.zeroValue0
  t3 := Tryz.underlying3
  a3 := Tryz.isAgg3
  z3 := Tryz.sizeOf3
  v3 := Tryz.zeroValue3
  t4 := Tryz.underlying4
  a4 := Tryz.isAgg4
  z4 := Tryz.sizeOf4
  v4 := Tryz.zeroValue4
  t9 := Tryz.underlying9
  a9 := Tryz.isAgg9
  z9 := Tryz.sizeOf9
  v9 := Tryz.zeroValue9
  t20 := Tryz.underlying20
  a20 := Tryz.isAgg20
  z20 := Tryz.sizeOf20
  v20 := Tryz.zeroValue20
  t31 := Tryz.underlying32
  a31 := Tryz.isAgg32
  z31 := Tryz.sizeOf32
  v31 := Tryz.zeroValue32
  t37 := Tryz.underlying146
  a37 := Tryz.isAgg146
  z37 := Tryz.sizeOf146
  v37 := Tryz.zeroValue146
  t70 := Tryz.underlying145
  a70 := Tryz.isAgg145
  z70 := Tryz.sizeOf145
  v70 := Tryz.zeroValue145
  t72 := Tryz.underlying148
  a72 := Tryz.isAgg148
  z72 := Tryz.sizeOf148
  v72 := Tryz.zeroValue148
  t75 := Tryz.underlying151
  a75 := Tryz.isAgg151
  z75 := Tryz.sizeOf151
  v75 := Tryz.zeroValue151
  t76 := Tryz.underlying152
  a76 := Tryz.isAgg152
  z76 := Tryz.sizeOf152
  v76 := Tryz.zeroValue152
  t127 := Tryz.underlying175
  a127 := Tryz.isAgg175
  z127 := Tryz.sizeOf175
  v127 := Tryz.zeroValue175
  t164 := Tryz.underlying191
  a164 := Tryz.isAgg191
  z164 := Tryz.sizeOf191
  v164 := Tryz.zeroValue191 }
theorem Tryz.Builder_Extra_156 : Builder.Extra Tryz.prog Tryz.lays156_ren := {
  sizeBuilder := by kernel_rfl
  liesBuilder := by kernel_rfl
  t5 := Tryz.underlying5
  a5 := Tryz.isAgg5
  z5 := Tryz.sizeOf5
  v5 := Tryz.zeroValue5
  infoByte := by kernel_rfl
  cellsByte := by kernel_rfl
  sizeByte := by kernel_rfl
  neB5 := by decide }
open Go.RowKit in
/-- No element: the empty string; the world is as it was. (Whatever the slice's address and capacity: a nil slice too.) (LAID: no walk: one application.) -/
theorem Tryz.strings_Join_none (a : Option Addr) (c : Nat) (sep : ByteArray) (w : World) :
    Calls Tryz.prog 64 #[.slice a 0 c, .string sep] w fun e w' => e = .returned (.string ⟨#[]⟩) ∧ w' = w := Any.strings_Join_none Tryz.lays156 Tryz.Builder_Extra_156 a c sep w
open Go.RowKit in
/-- strings.Join: "Join concatenates the elements of its first argument to create a single string. The separator string sep is placed between elements in the resulting string.": HOWEVER MANY ELEMENTS. Below the heap's end the world is as it was. (LAID: no walk: one application.) -/
theorem Tryz.strings_Join (bk o c : Nat) (xs : List ByteArray) (sep : ByteArray) (w : World) (hcells : ∀ (j : Nat) x, xs[j]? = some x → w.cell? ⟨bk, o + j, none⟩ = some (.string x)) (hbk : bk < w.heap.size) (hN : xs.length ≤ 140737488355328) (hcap : xs.length ≤ c) (hlen : (Lib.join (xs.map (·.data.toList)) sep.data.toList).length ≤ 140737488355328) :
    Calls Tryz.prog 64 #[.slice (some ⟨bk, o, none⟩) xs.length c, .string sep] w fun e w' => e = .returned (.string ⟨(Lib.join (xs.map (·.data.toList)) sep.data.toList).toArray⟩) ∧ Below w.heap.size w w' := Any.strings_Join Tryz.lays156 Tryz.Builder_Extra_156 bk o c xs sep w hcells hbk hN hcap hlen
def Tryz.lays161_ren : Go.Shelf.Ren := ⟨fun | 161 => 263 | 231 => 291 | 227 => 235 | 233 => 292 | 235 => 293 | 228 => 236 | 197 => 91 | 151 => 296 | 260 => 118 | 152 => 233 | 137 => 125 | 119 => 262 | 224 => 148 | 225 => 147 | 217 => 146 | 266 => 180 | n => n, fun | 9 => 9 | 4 => 4 | 3 => 3 | 5 => 5 | 117 => 301 | 116 => 300 | 0 => 0 | 124 => 330 | 105 => 163 | 21 => 21 | 119 => 211 | 46 => 165 | 139 => 214 | 138 => 213 | n => n, fun | 3 => 2 | 4 => 3 | n => n⟩
theorem Tryz.lays161 : Go.Proofs.Lays.n161 Tryz.prog Tryz.lays161_ren := {
  mixed := by kernel_rfl
  f119 := Tryz.func262.trans (congrArg some (by kernel_rfl))
  f137 := Tryz.func125.trans (congrArg some (by kernel_rfl))
  f151 := Tryz.func296.trans (congrArg some (by kernel_rfl))
  f152 := Tryz.func233.trans (congrArg some (by kernel_rfl))
  f161 := Tryz.func263.trans (congrArg some (by kernel_rfl))
  f197 := Tryz.func91.trans (congrArg some (by kernel_rfl))
  f217 := Tryz.func146.trans (congrArg some (by kernel_rfl))
  f224 := Tryz.func148.trans (congrArg some (by kernel_rfl))
  f225 := Tryz.func147.trans (congrArg some (by kernel_rfl))
  f227 := Tryz.func235.trans (congrArg some (by kernel_rfl))
  f228 := Tryz.func236.trans (congrArg some (by kernel_rfl))
  f231 := Tryz.func291.trans (congrArg some (by kernel_rfl))
  f233 := Tryz.func292.trans (congrArg some (by kernel_rfl))
  f235 := Tryz.func293.trans (congrArg some (by kernel_rfl))
  f260 := Tryz.func118.trans (congrArg some (by kernel_rfl))
  f266 := Tryz.func180.trans (congrArg some (by kernel_rfl))
  t0 := Tryz.underlying0
  a0 := Tryz.isAgg0
  z0 := Tryz.sizeOf0
  v0 := Tryz.zeroValue0
  t3 := Tryz.underlying3
  a3 := Tryz.isAgg3
  z3 := Tryz.sizeOf3
  v3 := Tryz.zeroValue3
  t4 := Tryz.underlying4
  a4 := Tryz.isAgg4
  z4 := Tryz.sizeOf4
  v4 := Tryz.zeroValue4
  t5 := Tryz.underlying5
  a5 := Tryz.isAgg5
  z5 := Tryz.sizeOf5
  v5 := Tryz.zeroValue5
  t9 := Tryz.underlying9
  a9 := Tryz.isAgg9
  z9 := Tryz.sizeOf9
  v9 := Tryz.zeroValue9
  t21 := Tryz.underlying21
  a21 := Tryz.isAgg21
  z21 := Tryz.sizeOf21
  v21 := Tryz.zeroValue21
  t46 := Tryz.underlying165
  a46 := Tryz.isAgg165
  z46 := Tryz.sizeOf165
  v46 := Tryz.zeroValue165
  t105 := Tryz.underlying163
  a105 := Tryz.isAgg163
  z105 := Tryz.sizeOf163
  v105 := Tryz.zeroValue163
  t116 := Tryz.underlying300
  a116 := Tryz.isAgg300
  z116 := Tryz.sizeOf300
  t117 := Tryz.underlying301
  a117 := Tryz.isAgg301
  z117 := Tryz.sizeOf301
  v117 := Tryz.zeroValue301
  t119 := Tryz.underlying211
  a119 := Tryz.isAgg211
  z119 := Tryz.sizeOf211
  t124 := Tryz.underlying330
  a124 := Tryz.isAgg330
  z124 := Tryz.sizeOf330
  v124 := Tryz.zeroValue330
  t138 := Tryz.underlying213
  a138 := Tryz.isAgg213
  z138 := Tryz.sizeOf213
  v138 := Tryz.zeroValue213
  t139 := Tryz.underlying214
  a139 := Tryz.isAgg214
  z139 := Tryz.sizeOf214
  v139 := Tryz.zeroValue214
  g3 := by kernel_rfl
  g4 := by kernel_rfl }
open Go.RowKit in
/-- strings.TrimLeft: "TrimLeft returns a slice of the string s with all leading Unicode code points contained in cutset removed.": AT A cutset OF ONE ASCII BYTE. The world is as it was. (LAID: no walk: one application.) -/
theorem Tryz.strings_TrimLeft_one (s : ByteArray) (c : UInt8) (hc : c.toNat < 128) (w : World) :
    Calls Tryz.prog 263 #[.string s, .string ⟨#[c]⟩] w fun e w' => e = .returned (.string ⟨(Lib.trimLeftB s.data.toList c).toArray⟩) ∧ w' = w := Any.strings_TrimLeft_one Tryz.lays161 s c hc w
def Tryz.lays162_ren : Go.Shelf.Ren := ⟨fun | 162 => 240 | 232 => 265 | 227 => 235 | 234 => 266 | 236 => 267 | 228 => 236 | 271 => 295 | 151 => 296 | 120 => 311 | 197 => 91 | 152 => 233 | 260 => 118 | 137 => 125 | 119 => 262 | 224 => 148 | 225 => 147 | 217 => 146 | 266 => 180 | n => n, fun | 9 => 9 | 4 => 4 | 3 => 3 | 5 => 5 | 117 => 301 | 116 => 300 | 0 => 0 | 124 => 330 | 21 => 21 | 105 => 163 | 46 => 165 | 119 => 211 | 139 => 214 | 138 => 213 | n => n, fun | 3 => 2 | 4 => 3 | n => n⟩
theorem Tryz.lays162 : Go.Proofs.Lays.n162 Tryz.prog Tryz.lays162_ren := {
  mixed := by kernel_rfl
  f119 := Tryz.func262.trans (congrArg some (by kernel_rfl))
  f120 := Tryz.func311.trans (congrArg some (by kernel_rfl))
  f137 := Tryz.func125.trans (congrArg some (by kernel_rfl))
  f151 := Tryz.func296.trans (congrArg some (by kernel_rfl))
  f152 := Tryz.func233.trans (congrArg some (by kernel_rfl))
  f162 := Tryz.func240.trans (congrArg some (by kernel_rfl))
  f197 := Tryz.func91.trans (congrArg some (by kernel_rfl))
  f217 := Tryz.func146.trans (congrArg some (by kernel_rfl))
  f224 := Tryz.func148.trans (congrArg some (by kernel_rfl))
  f225 := Tryz.func147.trans (congrArg some (by kernel_rfl))
  f227 := Tryz.func235.trans (congrArg some (by kernel_rfl))
  f228 := Tryz.func236.trans (congrArg some (by kernel_rfl))
  f232 := Tryz.func265.trans (congrArg some (by kernel_rfl))
  f234 := Tryz.func266.trans (congrArg some (by kernel_rfl))
  f236 := Tryz.func267.trans (congrArg some (by kernel_rfl))
  f260 := Tryz.func118.trans (congrArg some (by kernel_rfl))
  f266 := Tryz.func180.trans (congrArg some (by kernel_rfl))
  f271 := Tryz.func295.trans (congrArg some (by kernel_rfl))
  t0 := Tryz.underlying0
  a0 := Tryz.isAgg0
  z0 := Tryz.sizeOf0
  v0 := Tryz.zeroValue0
  t3 := Tryz.underlying3
  a3 := Tryz.isAgg3
  z3 := Tryz.sizeOf3
  v3 := Tryz.zeroValue3
  t4 := Tryz.underlying4
  a4 := Tryz.isAgg4
  z4 := Tryz.sizeOf4
  v4 := Tryz.zeroValue4
  t5 := Tryz.underlying5
  a5 := Tryz.isAgg5
  z5 := Tryz.sizeOf5
  v5 := Tryz.zeroValue5
  t9 := Tryz.underlying9
  a9 := Tryz.isAgg9
  z9 := Tryz.sizeOf9
  v9 := Tryz.zeroValue9
  t21 := Tryz.underlying21
  a21 := Tryz.isAgg21
  z21 := Tryz.sizeOf21
  v21 := Tryz.zeroValue21
  t46 := Tryz.underlying165
  a46 := Tryz.isAgg165
  z46 := Tryz.sizeOf165
  v46 := Tryz.zeroValue165
  t105 := Tryz.underlying163
  a105 := Tryz.isAgg163
  z105 := Tryz.sizeOf163
  v105 := Tryz.zeroValue163
  t116 := Tryz.underlying300
  a116 := Tryz.isAgg300
  z116 := Tryz.sizeOf300
  t117 := Tryz.underlying301
  a117 := Tryz.isAgg301
  z117 := Tryz.sizeOf301
  v117 := Tryz.zeroValue301
  t119 := Tryz.underlying211
  a119 := Tryz.isAgg211
  z119 := Tryz.sizeOf211
  t124 := Tryz.underlying330
  a124 := Tryz.isAgg330
  z124 := Tryz.sizeOf330
  v124 := Tryz.zeroValue330
  t138 := Tryz.underlying213
  a138 := Tryz.isAgg213
  z138 := Tryz.sizeOf213
  v138 := Tryz.zeroValue213
  t139 := Tryz.underlying214
  a139 := Tryz.isAgg214
  z139 := Tryz.sizeOf214
  v139 := Tryz.zeroValue214
  g3 := by kernel_rfl
  g4 := by kernel_rfl }
def Tryz.lays106_ren : Go.Shelf.Ren := ⟨fun | 106 => 73 | 213 => 92 | 265 => 119 | n => n, fun | 9 => 9 | 3 => 3 | n => n, fun | n => n⟩
theorem Tryz.lays106 : Go.Proofs.Lays.n106 Tryz.prog Tryz.lays106_ren := {
  mixed := by kernel_rfl
  f106 := Tryz.func73.trans (congrArg some (by kernel_rfl))
  f213 := Tryz.func92.trans (congrArg some (by kernel_rfl))
  f265 := Tryz.func119.trans (congrArg some (by kernel_rfl))
  t3 := Tryz.underlying3
  a3 := Tryz.isAgg3
  z3 := Tryz.sizeOf3
  v3 := Tryz.zeroValue3
  t9 := Tryz.underlying9
  a9 := Tryz.isAgg9
  z9 := Tryz.sizeOf9
  v9 := Tryz.zeroValue9 }
open Go.RowKit in
/-- strings.Compare: "Compare returns an integer comparing two strings lexicographically. The result will be 0 if a == b, -1 if a < b, and +1 if a > b.": IT RETURNS 'Lib.compareBytes a b'; the world is as it was. (LAID: no walk: one application.) -/
theorem Tryz.strings_Compare (a b : ByteArray) (w : World) :
    Calls Tryz.prog 73 #[.string a, .string b] w fun e w' => e = .returned (.int .i64 (Lib.compareBytes a.data.toList b.data.toList)) ∧ w' = w := Any.strings_Compare Tryz.lays106 a b w
def Tryz.lays137_ren : Go.Shelf.Ren := ⟨fun | 137 => 125 | 217 => 146 | 266 => 180 | n => n, fun | 9 => 9 | 5 => 5 | 3 => 3 | n => n, fun | n => n⟩
theorem Tryz.lays137 : Go.Proofs.Lays.n137 Tryz.prog Tryz.lays137_ren := {
  mixed := by kernel_rfl
  f137 := Tryz.func125.trans (congrArg some (by kernel_rfl))
  f217 := Tryz.func146.trans (congrArg some (by kernel_rfl))
  f266 := Tryz.func180.trans (congrArg some (by kernel_rfl))
  t3 := Tryz.underlying3
  a3 := Tryz.isAgg3
  z3 := Tryz.sizeOf3
  v3 := Tryz.zeroValue3
  t5 := Tryz.underlying5
  a5 := Tryz.isAgg5
  z5 := Tryz.sizeOf5
  v5 := Tryz.zeroValue5
  t9 := Tryz.underlying9
  a9 := Tryz.isAgg9
  z9 := Tryz.sizeOf9
  v9 := Tryz.zeroValue9 }
open Go.RowKit in
/-- strings.IndexByte: "IndexByte returns the index of the first instance of c in s, or -1 if c is not present in s.": IT RETURNS 'Lib.indexByte s c'; the world is as it was. (LAID: no walk: one application.) -/
theorem Tryz.strings_IndexByte (s : ByteArray) (c : Int) (w : World) :
    Calls Tryz.prog 125 #[.string s, .int .u8 c] w fun e w' => e = .returned (.int .i64 (Lib.indexByte s.data.toList c.toNat.toUInt8)) ∧ w' = w := Any.strings_IndexByte Tryz.lays137 s c w
def Tryz.lays104_ren : Go.Shelf.Ren := ⟨fun | 104 => 264 | 211 => 294 | 207 => 310 | n => n, fun | 9 => 9 | 4 => 4 | 24 => 78 | 3 => 3 | n => n, fun | n => n⟩
theorem Tryz.lays104 : Go.Proofs.Lays.n104 Tryz.prog Tryz.lays104_ren := {
  mixed := by kernel_rfl
  f104 := Tryz.func264.trans (congrArg some (by kernel_rfl))
  f207 := Tryz.func310.trans (congrArg some (by kernel_rfl))
  f211 := Tryz.func294.trans (congrArg some (by kernel_rfl))
  t3 := Tryz.underlying3
  a3 := Tryz.isAgg3
  z3 := Tryz.sizeOf3
  v3 := Tryz.zeroValue3
  t4 := Tryz.underlying4
  a4 := Tryz.isAgg4
  z4 := Tryz.sizeOf4
  v4 := Tryz.zeroValue4
  t9 := Tryz.underlying9
  a9 := Tryz.isAgg9
  z9 := Tryz.sizeOf9
  v9 := Tryz.zeroValue9
  t24 := Tryz.underlying78
  a24 := Tryz.isAgg78
  z24 := Tryz.sizeOf78
  v24 := Tryz.zeroValue78 }
open Go.RowKit in
/-- strings.CutSuffix: "CutSuffix returns s without the provided ending suffix string and reports whether it found the suffix. If s doesn't end with suffix, CutSuffix returns s, false. If suffix is the empty string, CutSuffix returns s, true.": IT RETURNS '(Lib.trimSuffix s p, Lib.hasSuffix s p)'; the world is as it was. (LAID: no walk: one application.) -/
theorem Tryz.strings_CutSuffix (s p : ByteArray) (w : World) (hs : s.size ≤ 9223372036854775807) :
    Calls Tryz.prog 264 #[.string s, .string p] w fun e w' => e = .returned (.tuple #[.string ⟨(Lib.trimSuffix s.data.toList p.data.toList).toArray⟩, .bool (Lib.hasSuffix s.data.toList p.data.toList)]) ∧ w' = w := Any.strings_CutSuffix Tryz.lays104 s p w hs
def Tryz.laysM171_ren : Go.Shelf.Ren := ⟨fun | 171 => 34 | 243 => 57 | 246 => 75 | 283 => 94 | 284 => 95 | 285 => 96 | 286 => 97 | 129 => 121 | 317 => 120 | 318 => 122 | 319 => 123 | 320 => 124 | 337 => 150 | 338 => 151 | n => n, fun | 3 => 3 | 9 => 9 | 2 => 2 | 4 => 4 | 171 => 168 | 0 => 0 | 53 => 169 | 37 => 146 | 5 => 5 | 173 => 172 | 212 => 186 | 51 => 187 | 20 => 20 | 213 => 188 | 46 => 165 | 232 => 255 | 233 => 256 | n => n, fun | 17 => 1 | 18 => 4 | 19 => 5 | n => n⟩
theorem Tryz.laysM171 : Go.Proofs.LaysM.n171 Tryz.prog Tryz.laysM171_ren := {
  mixed := by kernel_rfl
  f129 := Tryz.func121.trans (congrArg some (by kernel_rfl))
  f171 := Tryz.func34.trans (congrArg some (by kernel_rfl))
  f243 := Tryz.func57.trans (congrArg some (by kernel_rfl))
  f246 := Tryz.func75.trans (congrArg some (by kernel_rfl))
  f283 := Tryz.func94.trans (congrArg some (by kernel_rfl))
  f284 := Tryz.func95.trans (congrArg some (by kernel_rfl))
  f285 := Tryz.func96.trans (congrArg some (by kernel_rfl))
  f286 := Tryz.func97.trans (congrArg some (by kernel_rfl))
  f317 := Tryz.func120.trans (congrArg some (by kernel_rfl))
  f318 := Tryz.func122.trans (congrArg some (by kernel_rfl))
  f319 := Tryz.func123.trans (congrArg some (by kernel_rfl))
  f320 := Tryz.func124.trans (congrArg some (by kernel_rfl))
  f337 := Tryz.func150.trans (congrArg some (by kernel_rfl))
  f338 := Tryz.func151.trans (congrArg some (by kernel_rfl))
  t0 := Tryz.underlying0
  a0 := Tryz.isAgg0
  z0 := Tryz.sizeOf0
  v0 := Tryz.zeroValue0
  t2 := Tryz.underlying2
  a2 := Tryz.isAgg2
  z2 := Tryz.sizeOf2
  v2 := Tryz.zeroValue2
  t3 := Tryz.underlying3
  a3 := Tryz.isAgg3
  z3 := Tryz.sizeOf3
  v3 := Tryz.zeroValue3
  t4 := Tryz.underlying4
  a4 := Tryz.isAgg4
  z4 := Tryz.sizeOf4
  v4 := Tryz.zeroValue4
  t5 := Tryz.underlying5
  a5 := Tryz.isAgg5
  z5 := Tryz.sizeOf5
  v5 := Tryz.zeroValue5
  t9 := Tryz.underlying9
  a9 := Tryz.isAgg9
  z9 := Tryz.sizeOf9
  v9 := Tryz.zeroValue9
  t20 := Tryz.underlying20
  a20 := Tryz.isAgg20
  z20 := Tryz.sizeOf20
  v20 := Tryz.zeroValue20
  t37 := Tryz.underlying146
  a37 := Tryz.isAgg146
  z37 := Tryz.sizeOf146
  v37 := Tryz.zeroValue146
  t46 := Tryz.underlying165
  a46 := Tryz.isAgg165
  z46 := Tryz.sizeOf165
  v46 := Tryz.zeroValue165
  t51 := Tryz.underlying187
  a51 := Tryz.isAgg187
  z51 := Tryz.sizeOf187
  v51 := Tryz.zeroValue187
  t53 := Tryz.underlying169
  a53 := Tryz.isAgg169
  z53 := Tryz.sizeOf169
  v53 := Tryz.zeroValue169
  t171 := Tryz.underlying168
  a171 := Tryz.isAgg168
  z171 := Tryz.sizeOf168
  v171 := Tryz.zeroValue168
  t173 := Tryz.underlying172
  a173 := Tryz.isAgg172
  z173 := Tryz.sizeOf172
  v173 := Tryz.zeroValue172
  t212 := Tryz.underlying186
  a212 := Tryz.isAgg186
  z212 := Tryz.sizeOf186
  v212 := Tryz.zeroValue186
  t213 := Tryz.underlying188
  a213 := Tryz.isAgg188
  z213 := Tryz.sizeOf188
  t232 := Tryz.underlying255
  a232 := Tryz.isAgg255
  z232 := Tryz.sizeOf255
  v232 := Tryz.zeroValue255
  t233 := Tryz.underlying256
  a233 := Tryz.isAgg256
  z233 := Tryz.sizeOf256
  v233 := Tryz.zeroValue256
  g17 := by kernel_rfl
  g18 := by kernel_rfl
  g19 := by kernel_rfl
  i0 := by kernel_rfl
  i2 := by kernel_rfl
  i3 := by kernel_rfl
  i4 := by kernel_rfl
  i5 := by kernel_rfl
  i9 := by kernel_rfl
  i20 := by kernel_rfl
  i37 := by kernel_rfl
  i46 := by kernel_rfl
  i51 := by kernel_rfl
  i53 := by kernel_rfl
  i171 := by kernel_rfl
  i173 := by kernel_rfl
  i212 := by kernel_rfl
  i232 := by kernel_rfl
  i233 := by kernel_rfl
  m17 := by kernel_rfl
  m18 := by kernel_rfl
  m19 := by kernel_rfl }
open Go.RowKit Go.Sort Go.Lib in
/-- strconv.Itoa: "Itoa is equivalent to FormatInt(int64(i), 10).": i's DECIMAL NUMERAL ('Lib.itoa': a '-' where i is negative, then the digits), FOR EVERY int. The world behind the call: the world before it, new blocks behind the heap (the library's 'var a [24]byte'), draws. (LAID: no walk: one application.) -/
theorem Tryz.strconv_Itoa (n : Int) (h0 : -9223372036854775808 ≤ n) (h1 : n ≤ 9223372036854775807) (w : World) (htab : Lib.TabIs Tryz.prog w "internal/strconv.uint64pow10" .u64 Lib.pow10Tab) :
    Calls Tryz.prog 34 #[.int .i64 n] w fun e w' => e = .returned (.string ⟨(Lib.itoa n).toArray⟩) ∧ ∃ k os, w' = grow (w.drewN k) os := Any.strconv_Itoa Tryz.laysM171 n h0 h1 w htab
def Tryz.laysC172_ren : Go.Shelf.Ren := ⟨fun | 172 => 224 | 244 => 253 | 245 => 248 | 247 => 280 | 279 => 274 | 280 => 275 | 281 => 276 | 282 => 277 | 287 => 247 | 316 => 299 | 171 => 34 | 205 => 300 | 321 => 272 | 322 => 273 | 243 => 57 | 246 => 75 | 283 => 94 | 284 => 95 | 285 => 96 | 286 => 97 | 129 => 121 | 317 => 120 | 318 => 122 | 319 => 123 | 320 => 124 | 337 => 150 | 338 => 151 | n => n, fun | 9 => 9 | 3 => 3 | 75 => 151 | 76 => 152 | 4 => 4 | 5 => 5 | 167 => 334 | 37 => 146 | 0 => 0 | 85 => 339 | 2 => 2 | 168 => 336 | 53 => 169 | 175 => 280 | 46 => 165 | 210 => 351 | 127 => 175 | 145 => 364 | 143 => 362 | 21 => 21 | 171 => 168 | 173 => 172 | 212 => 186 | 51 => 187 | 20 => 20 | 213 => 188 | 232 => 255 | 233 => 256 | 80 => 154 | n => n, fun | 15 => 6 | 16 => 7 | 17 => 1 | 18 => 4 | 19 => 5 | n => n⟩
theorem Tryz.laysC172 : Go.Proofs.LaysC.n172 Tryz.prog Tryz.laysC172_ren := {
  mixed := by kernel_rfl
  f129 := Tryz.func121.trans (congrArg some (by kernel_rfl))
  f171 := Tryz.func34.trans (congrArg some (by kernel_rfl))
  f172 := Tryz.func224.trans (congrArg some (by kernel_rfl))
  f205 := Tryz.func300.trans (congrArg some (by kernel_rfl))
  f243 := Tryz.func57.trans (congrArg some (by kernel_rfl))
  f244 := Tryz.func253.trans (congrArg some (by kernel_rfl))
  f245 := Tryz.func248.trans (congrArg some (by kernel_rfl))
  f246 := Tryz.func75.trans (congrArg some (by kernel_rfl))
  f247 := Tryz.func280.trans (congrArg some (by kernel_rfl))
  f279 := Tryz.func274.trans (congrArg some (by kernel_rfl))
  f280 := Tryz.func275.trans (congrArg some (by kernel_rfl))
  f281 := Tryz.func276.trans (congrArg some (by kernel_rfl))
  f282 := Tryz.func277.trans (congrArg some (by kernel_rfl))
  f283 := Tryz.func94.trans (congrArg some (by kernel_rfl))
  f284 := Tryz.func95.trans (congrArg some (by kernel_rfl))
  f285 := Tryz.func96.trans (congrArg some (by kernel_rfl))
  f286 := Tryz.func97.trans (congrArg some (by kernel_rfl))
  f287 := Tryz.func247.trans (congrArg some (by kernel_rfl))
  f316 := Tryz.func299.trans (congrArg some (by kernel_rfl))
  f317 := Tryz.func120.trans (congrArg some (by kernel_rfl))
  f318 := Tryz.func122.trans (congrArg some (by kernel_rfl))
  f319 := Tryz.func123.trans (congrArg some (by kernel_rfl))
  f320 := Tryz.func124.trans (congrArg some (by kernel_rfl))
  f321 := Tryz.func272.trans (congrArg some (by kernel_rfl))
  f322 := Tryz.func273.trans (congrArg some (by kernel_rfl))
  f337 := Tryz.func150.trans (congrArg some (by kernel_rfl))
  f338 := Tryz.func151.trans (congrArg some (by kernel_rfl))
  t0 := Tryz.underlying0
  a0 := Tryz.isAgg0
  z0 := Tryz.sizeOf0
  v0 := Tryz.zeroValue0
  t2 := Tryz.underlying2
  a2 := Tryz.isAgg2
  z2 := Tryz.sizeOf2
  v2 := Tryz.zeroValue2
  t3 := Tryz.underlying3
  a3 := Tryz.isAgg3
  z3 := Tryz.sizeOf3
  v3 := Tryz.zeroValue3
  t4 := Tryz.underlying4
  a4 := Tryz.isAgg4
  z4 := Tryz.sizeOf4
  v4 := Tryz.zeroValue4
  t5 := Tryz.underlying5
  a5 := Tryz.isAgg5
  z5 := Tryz.sizeOf5
  v5 := Tryz.zeroValue5
  t9 := Tryz.underlying9
  a9 := Tryz.isAgg9
  z9 := Tryz.sizeOf9
  v9 := Tryz.zeroValue9
  t20 := Tryz.underlying20
  a20 := Tryz.isAgg20
  z20 := Tryz.sizeOf20
  v20 := Tryz.zeroValue20
  t21 := Tryz.underlying21
  a21 := Tryz.isAgg21
  z21 := Tryz.sizeOf21
  v21 := Tryz.zeroValue21
  t37 := Tryz.underlying146
  a37 := Tryz.isAgg146
  z37 := Tryz.sizeOf146
  v37 := Tryz.zeroValue146
  t46 := Tryz.underlying165
  a46 := Tryz.isAgg165
  z46 := Tryz.sizeOf165
  v46 := Tryz.zeroValue165
  t51 := Tryz.underlying187
  a51 := Tryz.isAgg187
  z51 := Tryz.sizeOf187
  v51 := Tryz.zeroValue187
  t53 := Tryz.underlying169
  a53 := Tryz.isAgg169
  z53 := Tryz.sizeOf169
  v53 := Tryz.zeroValue169
  t75 := Tryz.underlying151
  a75 := Tryz.isAgg151
  z75 := Tryz.sizeOf151
  v75 := Tryz.zeroValue151
  t76 := Tryz.underlying152
  a76 := Tryz.isAgg152
  z76 := Tryz.sizeOf152
  v76 := Tryz.zeroValue152
  t85 := Tryz.underlying339
  a85 := Tryz.isAgg339
  z85 := Tryz.sizeOf339
  v85 := Tryz.zeroValue339
  t127 := Tryz.underlying175
  a127 := Tryz.isAgg175
  z127 := Tryz.sizeOf175
  v127 := Tryz.zeroValue175
  t143 := Tryz.underlying362
  a143 := Tryz.isAgg362
  z143 := Tryz.sizeOf362
  v143 := Tryz.zeroValue362
  t145 := Tryz.underlying364
  a145 := Tryz.isAgg364
  z145 := Tryz.sizeOf364
  v145 := Tryz.zeroValue364
  t167 := Tryz.underlying334
  a167 := Tryz.isAgg334
  z167 := Tryz.sizeOf334
  v167 := Tryz.zeroValue334
  t168 := Tryz.underlying336
  a168 := Tryz.isAgg336
  z168 := Tryz.sizeOf336
  v168 := Tryz.zeroValue336
  t171 := Tryz.underlying168
  a171 := Tryz.isAgg168
  z171 := Tryz.sizeOf168
  v171 := Tryz.zeroValue168
  t173 := Tryz.underlying172
  a173 := Tryz.isAgg172
  z173 := Tryz.sizeOf172
  v173 := Tryz.zeroValue172
  t175 := Tryz.underlying280
  a175 := Tryz.isAgg280
  z175 := Tryz.sizeOf280
  v175 := Tryz.zeroValue280
  t210 := Tryz.underlying351
  a210 := Tryz.isAgg351
  z210 := Tryz.sizeOf351
  v210 := Tryz.zeroValue351
  t212 := Tryz.underlying186
  a212 := Tryz.isAgg186
  z212 := Tryz.sizeOf186
  v212 := Tryz.zeroValue186
  t213 := Tryz.underlying188
  a213 := Tryz.isAgg188
  z213 := Tryz.sizeOf188
  t232 := Tryz.underlying255
  a232 := Tryz.isAgg255
  z232 := Tryz.sizeOf255
  v232 := Tryz.zeroValue255
  t233 := Tryz.underlying256
  a233 := Tryz.isAgg256
  z233 := Tryz.sizeOf256
  v233 := Tryz.zeroValue256
  g15 := by kernel_rfl
  g16 := by kernel_rfl
  g17 := by kernel_rfl
  g18 := by kernel_rfl
  g19 := by kernel_rfl
  t80 := Tryz.underlying154
  a80 := Tryz.isAgg154
  z80 := Tryz.sizeOf154
  v80 := Tryz.zeroValue154
  i0 := by kernel_rfl
  i2 := by kernel_rfl
  i3 := by kernel_rfl
  i4 := by kernel_rfl
  i5 := by kernel_rfl
  i9 := by kernel_rfl
  i20 := by kernel_rfl
  i21 := by kernel_rfl
  i37 := by kernel_rfl
  i46 := by kernel_rfl
  i51 := by kernel_rfl
  i53 := by kernel_rfl
  i75 := by kernel_rfl
  i76 := by kernel_rfl
  i80 := by kernel_rfl
  i85 := by kernel_rfl
  i127 := by kernel_rfl
  i143 := by kernel_rfl
  i145 := by kernel_rfl
  i167 := by kernel_rfl
  i168 := by kernel_rfl
  i171 := by kernel_rfl
  i173 := by kernel_rfl
  i175 := by kernel_rfl
  i210 := by kernel_rfl
  i212 := by kernel_rfl
  i232 := by kernel_rfl
  i233 := by kernel_rfl
  m15 := by kernel_rfl
  m16 := by kernel_rfl
  m17 := by kernel_rfl
  m18 := by kernel_rfl
  m19 := by kernel_rfl
  c0 := by kernel_rfl
  c2 := by kernel_rfl
  c3 := by kernel_rfl
  c4 := by kernel_rfl
  c5 := by kernel_rfl
  c9 := by kernel_rfl
  c20 := by kernel_rfl
  c21 := by kernel_rfl
  c37 := by kernel_rfl
  c46 := by kernel_rfl
  c51 := by kernel_rfl
  c53 := by kernel_rfl
  c75 := by kernel_rfl
  c76 := by kernel_rfl
  c80 := by kernel_rfl
  c85 := by kernel_rfl
  c127 := by kernel_rfl
  c143 := by kernel_rfl
  c145 := by kernel_rfl
  c167 := by kernel_rfl
  c168 := by kernel_rfl
  c171 := by kernel_rfl
  c173 := by kernel_rfl
  c175 := by kernel_rfl
  c210 := by kernel_rfl
  c212 := by kernel_rfl
  c213 := by kernel_rfl
  c232 := by kernel_rfl
  c233 := by kernel_rfl }
open Go.RowKit in
/-- strconv.Atoi, AT EVERY STRING THAT SPELLS AN int ('Lib.atoiAll .. = .ok v'; of whatever length: leading zeros count): v, AND NO ERROR. The world: as it was, or with the one new row that '[]byte(..)' lays. (LAID: no walk: one application.) -/
theorem Tryz.strconv_Atoi_ok (s : ByteArray) (hmax : s.size ≤ 9223372036854775806) (v : Int) (h : Lib.atoiAll s.data.toList = .ok v) (w : World) :
    Calls Tryz.prog 224 #[.string s] w fun e w' => e = .returned (.tuple #[.int .i64 v, .nilIface]) ∧ (w' = w ∨ ∃ t, w' = Lib.bytesWorld w 5 t) := Any.strconv_Atoi_ok Tryz.laysC172 s hmax v h w
open Go.RowKit in
theorem Tryz.strconv_Atoi_range_var (s : ByteArray) (hlim : s.size ≤ 281474976710656) (h : Lib.atoiAll s.data.toList = .range) (tp : TypeId) (p : Value) (w : World) (hvar : w.var? Tryz.prog "strconv.ErrRange" = some #[.iface tp p]) :
    Calls Tryz.prog 224 #[.string s] w fun e w' => ∃ N, e = .returned (.tuple #[.int .i64 (Lib.atoiSat s.data.toList), .iface 336 (.pointer (some ⟨N, 0, none⟩))]) ∧ w.heap.size ≤ N ∧ w'.heap[N]? = some (.cells #[.string ⟨#[65, 116, 111, 105]⟩, .string s, .iface tp p] 351 (0, 0)) ∧ Below w.heap.size w w' := Any.strconv_Atoi_range_var Tryz.laysC172 s hlim h tp p w hvar
def Tryz.lays144_ren : Go.Shelf.Ren := ⟨fun | 144 => 100 | 143 => 90 | 219 => 117 | 217 => 146 | 225 => 147 | 224 => 148 | 267 => 149 | 266 => 180 | 314 => 181 | n => n, fun | 9 => 9 | 4 => 4 | 3 => 3 | 5 => 5 | 46 => 165 | 146 => 253 | 51 => 187 | n => n, fun | 1 => 0 | n => n⟩
theorem Tryz.lays144 : Go.Proofs.Lays.n144 Tryz.prog Tryz.lays144_ren := {
  mixed := by kernel_rfl
  f143 := Tryz.func90.trans (congrArg some (by kernel_rfl))
  f144 := Tryz.func100.trans (congrArg some (by kernel_rfl))
  f217 := Tryz.func146.trans (congrArg some (by kernel_rfl))
  f219 := Tryz.func117.trans (congrArg some (by kernel_rfl))
  f224 := Tryz.func148.trans (congrArg some (by kernel_rfl))
  f225 := Tryz.func147.trans (congrArg some (by kernel_rfl))
  f266 := Tryz.func180.trans (congrArg some (by kernel_rfl))
  f267 := Tryz.func149.trans (congrArg some (by kernel_rfl))
  f314 := Tryz.func181.trans (congrArg some (by kernel_rfl))
  t3 := Tryz.underlying3
  a3 := Tryz.isAgg3
  z3 := Tryz.sizeOf3
  v3 := Tryz.zeroValue3
  t4 := Tryz.underlying4
  a4 := Tryz.isAgg4
  z4 := Tryz.sizeOf4
  v4 := Tryz.zeroValue4
  t5 := Tryz.underlying5
  a5 := Tryz.isAgg5
  z5 := Tryz.sizeOf5
  v5 := Tryz.zeroValue5
  t9 := Tryz.underlying9
  a9 := Tryz.isAgg9
  z9 := Tryz.sizeOf9
  v9 := Tryz.zeroValue9
  t46 := Tryz.underlying165
  a46 := Tryz.isAgg165
  z46 := Tryz.sizeOf165
  v46 := Tryz.zeroValue165
  t51 := Tryz.underlying187
  a51 := Tryz.isAgg187
  z51 := Tryz.sizeOf187
  v51 := Tryz.zeroValue187
  t146 := Tryz.underlying253
  a146 := Tryz.isAgg253
  z146 := Tryz.sizeOf253
  v146 := Tryz.zeroValue253
  g1 := by kernel_rfl }
open Go.RowKit Go.Lib in
/-- strings.Contains: "Contains reports whether substr is within s.": AT A substr OF ONE BYTE c: IT RETURNS 'decide (0 ≤ Lib.indexByte s c)'; the world is as it was. (LAID: no walk: one application.) -/
theorem Tryz.strings_Contains_one (s : ByteArray) (c : UInt8) (w : World) :
    Calls Tryz.prog 100 #[.string s, .string ⟨#[c]⟩] w fun e w' => e = .returned (.bool (decide (0 ≤ Lib.indexByte s.data.toList c))) ∧ w' = w := Any.strings_Contains_one Tryz.lays144 s c w
def Tryz.lays145_ren : Go.Shelf.Ren := ⟨fun | 145 => 159 | 220 => 188 | 219 => 117 | 217 => 146 | 225 => 147 | 224 => 148 | 267 => 149 | 266 => 180 | 314 => 181 | n => n, fun | 9 => 9 | 4 => 4 | 59 => 225 | 3 => 3 | 5 => 5 | 46 => 165 | 146 => 253 | 51 => 187 | n => n, fun | 1 => 0 | n => n⟩
theorem Tryz.lays145 : Go.Proofs.Lays.n145 Tryz.prog Tryz.lays145_ren := {
  mixed := by kernel_rfl
  f145 := Tryz.func159.trans (congrArg some (by kernel_rfl))
  f217 := Tryz.func146.trans (congrArg some (by kernel_rfl))
  f219 := Tryz.func117.trans (congrArg some (by kernel_rfl))
  f220 := Tryz.func188.trans (congrArg some (by kernel_rfl))
  f224 := Tryz.func148.trans (congrArg some (by kernel_rfl))
  f225 := Tryz.func147.trans (congrArg some (by kernel_rfl))
  f266 := Tryz.func180.trans (congrArg some (by kernel_rfl))
  f267 := Tryz.func149.trans (congrArg some (by kernel_rfl))
  f314 := Tryz.func181.trans (congrArg some (by kernel_rfl))
  t3 := Tryz.underlying3
  a3 := Tryz.isAgg3
  z3 := Tryz.sizeOf3
  v3 := Tryz.zeroValue3
  t4 := Tryz.underlying4
  a4 := Tryz.isAgg4
  z4 := Tryz.sizeOf4
  v4 := Tryz.zeroValue4
  t5 := Tryz.underlying5
  a5 := Tryz.isAgg5
  z5 := Tryz.sizeOf5
  v5 := Tryz.zeroValue5
  t9 := Tryz.underlying9
  a9 := Tryz.isAgg9
  z9 := Tryz.sizeOf9
  v9 := Tryz.zeroValue9
  t46 := Tryz.underlying165
  a46 := Tryz.isAgg165
  z46 := Tryz.sizeOf165
  v46 := Tryz.zeroValue165
  t51 := Tryz.underlying187
  a51 := Tryz.isAgg187
  z51 := Tryz.sizeOf187
  v51 := Tryz.zeroValue187
  t59 := Tryz.underlying225
  a59 := Tryz.isAgg225
  z59 := Tryz.sizeOf225
  v59 := Tryz.zeroValue225
  t146 := Tryz.underlying253
  a146 := Tryz.isAgg253
  z146 := Tryz.sizeOf253
  v146 := Tryz.zeroValue253
  g1 := by kernel_rfl }
open Go.RowKit Go.Lib in
/-- strings.Cut: "Cut slices s around the first instance of sep, returning the text before and after sep. The found result reports whether sep appears in s. If sep does not appear in s, cut returns s, "", false.": IT RETURNS 'Lib.cut s sep'; the world is as it was but for the count of draws. (LAID: no walk: one application.) -/
theorem Tryz.strings_Cut (s sep : ByteArray) (m : Int) (w : World) (hs : s.size < 4294967281) (hm : w.cell? ⟨0, 0, none⟩ = some (.int .i64 m)) :
    Calls Tryz.prog 159 #[.string s, .string sep] w fun e w' => e = .returned (.tuple #[.string ⟨(Lib.cut s.data.toList sep.data.toList).1.toArray⟩, .string ⟨(Lib.cut s.data.toList sep.data.toList).2.1.toArray⟩, .bool (Lib.cut s.data.toList sep.data.toList).2.2]) ∧ ∃ n, w' = w.drewN n := Any.strings_Cut Tryz.lays145 s sep m w hs hm
def Tryz.lays99_ren : Go.Shelf.Ren := ⟨fun | 99 => 102 | 206 => 127 | n => n, fun | 9 => 9 | 4 => 4 | 3 => 3 | n => n, fun | n => n⟩
theorem Tryz.lays99 : Go.Proofs.Lays.n99 Tryz.prog Tryz.lays99_ren := {
  mixed := by kernel_rfl
  f99 := Tryz.func102.trans (congrArg some (by kernel_rfl))
  f206 := Tryz.func127.trans (congrArg some (by kernel_rfl))
  t3 := Tryz.underlying3
  a3 := Tryz.isAgg3
  z3 := Tryz.sizeOf3
  v3 := Tryz.zeroValue3
  t4 := Tryz.underlying4
  a4 := Tryz.isAgg4
  z4 := Tryz.sizeOf4
  v4 := Tryz.zeroValue4
  t9 := Tryz.underlying9
  a9 := Tryz.isAgg9
  z9 := Tryz.sizeOf9
  v9 := Tryz.zeroValue9 }
open Go.RowKit Go.Lib in
/-- strings.HasPrefix: "HasPrefix reports whether the string s begins with prefix.": IT RETURNS 'Lib.hasPrefix s prefix'; the world is as it was. (LAID: no walk: one application.) -/
theorem Tryz.strings_HasPrefix (s p : ByteArray) (w : World) :
    Calls Tryz.prog 102 #[.string s, .string p] w fun e w' => e = .returned (.bool (Lib.hasPrefix s.data.toList p.data.toList)) ∧ w' = w := Any.strings_HasPrefix Tryz.lays99 s p w
def Tryz.lays146_ren : Go.Shelf.Ren := ⟨fun | 146 => 101 | 221 => 126 | 268 => 152 | 138 => 89 | 143 => 90 | 195 => 115 | 197 => 91 | 218 => 116 | 219 => 117 | 260 => 118 | 217 => 146 | 225 => 147 | 224 => 148 | 267 => 149 | 266 => 180 | 314 => 181 | n => n, fun | 9 => 9 | 31 => 32 | 3 => 3 | 4 => 4 | 0 => 0 | 105 => 163 | 21 => 21 | 5 => 5 | 46 => 165 | 119 => 211 | 139 => 214 | 138 => 213 | 146 => 253 | 51 => 187 | n => n, fun | 1 => 0 | 3 => 2 | 4 => 3 | n => n⟩
theorem Tryz.lays146 : Go.Proofs.Lays.n146 Tryz.prog Tryz.lays146_ren := {
  mixed := by kernel_rfl
  f138 := Tryz.func89.trans (congrArg some (by kernel_rfl))
  f143 := Tryz.func90.trans (congrArg some (by kernel_rfl))
  f146 := Tryz.func101.trans (congrArg some (by kernel_rfl))
  f195 := Tryz.func115.trans (congrArg some (by kernel_rfl))
  f197 := Tryz.func91.trans (congrArg some (by kernel_rfl))
  f217 := Tryz.func146.trans (congrArg some (by kernel_rfl))
  f218 := Tryz.func116.trans (congrArg some (by kernel_rfl))
  f219 := Tryz.func117.trans (congrArg some (by kernel_rfl))
  f221 := Tryz.func126.trans (congrArg some (by kernel_rfl))
  f224 := Tryz.func148.trans (congrArg some (by kernel_rfl))
  f225 := Tryz.func147.trans (congrArg some (by kernel_rfl))
  f260 := Tryz.func118.trans (congrArg some (by kernel_rfl))
  f266 := Tryz.func180.trans (congrArg some (by kernel_rfl))
  f267 := Tryz.func149.trans (congrArg some (by kernel_rfl))
  f268 := Tryz.func152.trans (congrArg some (by kernel_rfl))
  f314 := Tryz.func181.trans (congrArg some (by kernel_rfl))
  t0 := Tryz.underlying0
  a0 := Tryz.isAgg0
  z0 := Tryz.sizeOf0
  v0 := Tryz.zeroValue0
  t3 := Tryz.underlying3
  a3 := Tryz.isAgg3
  z3 := Tryz.sizeOf3
  v3 := Tryz.zeroValue3
  t4 := Tryz.underlying4
  a4 := Tryz.isAgg4
  z4 := Tryz.sizeOf4
  v4 := Tryz.zeroValue4
  t5 := Tryz.underlying5
  a5 := Tryz.isAgg5
  z5 := Tryz.sizeOf5
  v5 := Tryz.zeroValue5
  t9 := Tryz.underlying9
  a9 := Tryz.isAgg9
  z9 := Tryz.sizeOf9
  v9 := Tryz.zeroValue9
  t21 := Tryz.underlying21
  a21 := Tryz.isAgg21
  z21 := Tryz.sizeOf21
  v21 := Tryz.zeroValue21
  t31 := Tryz.underlying32
  a31 := Tryz.isAgg32
  z31 := Tryz.sizeOf32
  v31 := Tryz.zeroValue32
  t46 := Tryz.underlying165
  a46 := Tryz.isAgg165
  z46 := Tryz.sizeOf165
  v46 := Tryz.zeroValue165
  t51 := Tryz.underlying187
  a51 := Tryz.isAgg187
  z51 := Tryz.sizeOf187
  v51 := Tryz.zeroValue187
  t105 := Tryz.underlying163
  a105 := Tryz.isAgg163
  z105 := Tryz.sizeOf163
  v105 := Tryz.zeroValue163
  t119 := Tryz.underlying211
  a119 := Tryz.isAgg211
  z119 := Tryz.sizeOf211
  t138 := Tryz.underlying213
  a138 := Tryz.isAgg213
  z138 := Tryz.sizeOf213
  v138 := Tryz.zeroValue213
  t139 := Tryz.underlying214
  a139 := Tryz.isAgg214
  z139 := Tryz.sizeOf214
  v139 := Tryz.zeroValue214
  t146 := Tryz.underlying253
  a146 := Tryz.isAgg253
  z146 := Tryz.sizeOf253
  v146 := Tryz.zeroValue253
  g1 := by kernel_rfl
  g3 := by kernel_rfl
  g4 := by kernel_rfl }
open Go.RowKit Go.Lib in
/-- strings.Split. (LAID: no walk: one application.) -/
theorem Tryz.strings_Split (s sep : ByteArray) (m : Int) (w : World) (hs : s.size < 4294967281) (hm : w.cell? ⟨0, 0, none⟩ = some (.int .i64 m)) (h1 : 1 ≤ sep.size) :
    Calls Tryz.prog 101 #[.string s, .string sep] w fun e w' =>
      e = .returned (.slice (some ⟨w.heap.size, 0, none⟩) (Lib.countB s sep + 1) (Lib.countB s sep + 1)) ∧ w' = w.alloc (.cells ((Lib.splitB sep 0 (Lib.countB s sep) s).map Value.string).toArray 9) := Any.strings_Split Tryz.lays146 (by kernel_rfl) s sep m w hs hm h1
def Tryz.lays155_ren : Go.Shelf.Ren := ⟨fun | 155 => 55 | 154 => 70 | 138 => 89 | 165 => 82 | 143 => 90 | 166 => 83 | 197 => 91 | 169 => 84 | 195 => 115 | 218 => 116 | 240 => 103 | 241 => 104 | 219 => 117 | 260 => 118 | 276 => 128 | 277 => 129 | 217 => 146 | 225 => 147 | 224 => 148 | 267 => 149 | 266 => 180 | 314 => 181 | n => n, fun | 9 => 9 | 3 => 3 | 4 => 4 | 72 => 148 | 0 => 0 | 76 => 152 | 105 => 163 | 21 => 21 | 5 => 5 | 70 => 145 | 20 => 20 | 37 => 146 | 75 => 151 | 127 => 175 | 164 => 191 | 46 => 165 | 119 => 211 | 139 => 214 | 138 => 213 | 146 => 253 | 51 => 187 | 80 => 154 | n => n, fun | 1 => 0 | 3 => 2 | 4 => 3 | n => n⟩
theorem Tryz.lays155 : Go.Proofs.Lays.n155 Tryz.prog Tryz.lays155_ren := {
  mixed := by kernel_rfl
  f138 := Tryz.func89.trans (congrArg some (by kernel_rfl))
  f143 := Tryz.func90.trans (congrArg some (by kernel_rfl))
  f154 := Tryz.func70.trans (congrArg some (by kernel_rfl))
  f155 := Tryz.func55.trans (congrArg some (by kernel_rfl))
  f165 := Tryz.func82.trans (congrArg some (by kernel_rfl))
  f166 := Tryz.func83.trans (congrArg some (by kernel_rfl))
  f169 := Tryz.func84.trans (congrArg some (by kernel_rfl))
  f195 := Tryz.func115.trans (congrArg some (by kernel_rfl))
  f197 := Tryz.func91.trans (congrArg some (by kernel_rfl))
  f217 := Tryz.func146.trans (congrArg some (by kernel_rfl))
  f218 := Tryz.func116.trans (congrArg some (by kernel_rfl))
  f219 := Tryz.func117.trans (congrArg some (by kernel_rfl))
  f224 := Tryz.func148.trans (congrArg some (by kernel_rfl))
  f225 := Tryz.func147.trans (congrArg some (by kernel_rfl))
  f240 := Tryz.func103.trans (congrArg some (by kernel_rfl))
  f241 := Tryz.func104.trans (congrArg some (by kernel_rfl))
  f260 := Tryz.func118.trans (congrArg some (by kernel_rfl))
  f266 := Tryz.func180.trans (congrArg some (by kernel_rfl))
  f267 := Tryz.func149.trans (congrArg some (by kernel_rfl))
  f276 := Tryz.func128.trans (congrArg some (by kernel_rfl))
  f277 := Tryz.func129.trans (congrArg some (by kernel_rfl))
  f314 := Tryz.func181.trans (congrArg some (by kernel_rfl))
  t0 := Tryz.underlying0
  a0 := Tryz.isAgg0
  z0 := Tryz.sizeOf0
  v0 := Tryz.zeroValue0
  t3 := Tryz.underlying3
  a3 := Tryz.isAgg3
  z3 := Tryz.sizeOf3
  v3 := Tryz.zeroValue3
  t4 := Tryz.underlying4
  a4 := Tryz.isAgg4
  z4 := Tryz.sizeOf4
  v4 := Tryz.zeroValue4
  t5 := Tryz.underlying5
  a5 := Tryz.isAgg5
  z5 := Tryz.sizeOf5
  v5 := Tryz.zeroValue5
  t9 := Tryz.underlying9
  a9 := Tryz.isAgg9
  z9 := Tryz.sizeOf9
  v9 := Tryz.zeroValue9
  t20 := Tryz.underlying20
  a20 := Tryz.isAgg20
  z20 := Tryz.sizeOf20
  v20 := Tryz.zeroValue20
  t21 := Tryz.underlying21
  a21 := Tryz.isAgg21
  z21 := Tryz.sizeOf21
  v21 := Tryz.zeroValue21
  t37 := Tryz.underlying146
  a37 := Tryz.isAgg146
  z37 := Tryz.sizeOf146
  v37 := Tryz.zeroValue146
  t46 := Tryz.underlying165
  a46 := Tryz.isAgg165
  z46 := Tryz.sizeOf165
  v46 := Tryz.zeroValue165
  t51 := Tryz.underlying187
  a51 := Tryz.isAgg187
  z51 := Tryz.sizeOf187
  v51 := Tryz.zeroValue187
  t70 := Tryz.underlying145
  a70 := Tryz.isAgg145
  z70 := Tryz.sizeOf145
  v70 := Tryz.zeroValue145
  t72 := Tryz.underlying148
  a72 := Tryz.isAgg148
  z72 := Tryz.sizeOf148
  v72 := Tryz.zeroValue148
  t75 := Tryz.underlying151
  a75 := Tryz.isAgg151
  z75 := Tryz.sizeOf151
  v75 := Tryz.zeroValue151
  t76 := Tryz.underlying152
  a76 := Tryz.isAgg152
  z76 := Tryz.sizeOf152
  v76 := Tryz.zeroValue152
  t105 := Tryz.underlying163
  a105 := Tryz.isAgg163
  z105 := Tryz.sizeOf163
  v105 := Tryz.zeroValue163
  t119 := Tryz.underlying211
  a119 := Tryz.isAgg211
  z119 := Tryz.sizeOf211
  t127 := Tryz.underlying175
  a127 := Tryz.isAgg175
  z127 := Tryz.sizeOf175
  v127 := Tryz.zeroValue175
  t138 := Tryz.underlying213
  a138 := Tryz.isAgg213
  z138 := Tryz.sizeOf213
  v138 := Tryz.zeroValue213
  t139 := Tryz.underlying214
  a139 := Tryz.isAgg214
  z139 := Tryz.sizeOf214
  v139 := Tryz.zeroValue214
  t146 := Tryz.underlying253
  a146 := Tryz.isAgg253
  z146 := Tryz.sizeOf253
  v146 := Tryz.zeroValue253
  t164 := Tryz.underlying191
  a164 := Tryz.isAgg191
  z164 := Tryz.sizeOf191
  v164 := Tryz.zeroValue191
  g1 := by kernel_rfl
  g3 := by kernel_rfl
  g4 := by kernel_rfl }
theorem Tryz.Builder_Extra_155 : Builder.Extra Tryz.prog Tryz.lays155_ren := {
  sizeBuilder := by kernel_rfl
  liesBuilder := by kernel_rfl
  t5 := Tryz.underlying5
  a5 := Tryz.isAgg5
  z5 := Tryz.sizeOf5
  v5 := Tryz.zeroValue5
  infoByte := by kernel_rfl
  cellsByte := by kernel_rfl
  sizeByte := by kernel_rfl
  neB5 := by decide }
open Go.RowKit Go.Lib in
/-- strings.ReplaceAll: "ReplaceAll returns a copy of the string s with all non-overlapping instances of old replaced by new.": AT AN old THAT IS NOT EMPTY: 'Lib.replaceAll s old new'. (LAID: no walk: one application.) -/
theorem Tryz.strings_ReplaceAll (s old new : ByteArray) (m : Int) (w : World) (hs : s.size < 4294967281) (hm : w.cell? ⟨0, 0, none⟩ = some (.int .i64 m)) (h1 : 1 ≤ old.size) (hlen : s.size + Lib.countB s old * new.size ≤ 140737488355328) :
    Calls Tryz.prog 55 #[.string s, .string old, .string new] w fun e w' =>
      e = .returned (.string ⟨(Lib.replaceAll s.data.toList old.data.toList new.data.toList).toArray⟩) ∧ Below w.heap.size w w' := Any.strings_ReplaceAll Tryz.lays155 Tryz.Builder_Extra_155 s old new m w hs hm h1 hlen
def Tryz.lays153_ren : Go.Shelf.Ren := ⟨fun | 153 => 198 | 152 => 233 | 226 => 234 | 227 => 235 | 228 => 236 | 137 => 125 | 119 => 262 | 224 => 148 | 225 => 147 | 217 => 146 | 266 => 180 | n => n, fun | 9 => 9 | 3 => 3 | 4 => 4 | 5 => 5 | 21 => 21 | 117 => 301 | 116 => 300 | 0 => 0 | 46 => 165 | 124 => 330 | n => n, fun | n => n⟩
theorem Tryz.lays153 : Go.Proofs.Lays.n153 Tryz.prog Tryz.lays153_ren := {
  mixed := by kernel_rfl
  f119 := Tryz.func262.trans (congrArg some (by kernel_rfl))
  f137 := Tryz.func125.trans (congrArg some (by kernel_rfl))
  f152 := Tryz.func233.trans (congrArg some (by kernel_rfl))
  f153 := Tryz.func198.trans (congrArg some (by kernel_rfl))
  f217 := Tryz.func146.trans (congrArg some (by kernel_rfl))
  f224 := Tryz.func148.trans (congrArg some (by kernel_rfl))
  f225 := Tryz.func147.trans (congrArg some (by kernel_rfl))
  f226 := Tryz.func234.trans (congrArg some (by kernel_rfl))
  f227 := Tryz.func235.trans (congrArg some (by kernel_rfl))
  f228 := Tryz.func236.trans (congrArg some (by kernel_rfl))
  f266 := Tryz.func180.trans (congrArg some (by kernel_rfl))
  t0 := Tryz.underlying0
  a0 := Tryz.isAgg0
  z0 := Tryz.sizeOf0
  v0 := Tryz.zeroValue0
  t3 := Tryz.underlying3
  a3 := Tryz.isAgg3
  z3 := Tryz.sizeOf3
  v3 := Tryz.zeroValue3
  t4 := Tryz.underlying4
  a4 := Tryz.isAgg4
  z4 := Tryz.sizeOf4
  v4 := Tryz.zeroValue4
  t5 := Tryz.underlying5
  a5 := Tryz.isAgg5
  z5 := Tryz.sizeOf5
  v5 := Tryz.zeroValue5
  t9 := Tryz.underlying9
  a9 := Tryz.isAgg9
  z9 := Tryz.sizeOf9
  v9 := Tryz.zeroValue9
  t21 := Tryz.underlying21
  a21 := Tryz.isAgg21
  z21 := Tryz.sizeOf21
  v21 := Tryz.zeroValue21
  t46 := Tryz.underlying165
  a46 := Tryz.isAgg165
  z46 := Tryz.sizeOf165
  v46 := Tryz.zeroValue165
  t116 := Tryz.underlying300
  a116 := Tryz.isAgg300
  z116 := Tryz.sizeOf300
  t117 := Tryz.underlying301
  a117 := Tryz.isAgg301
  z117 := Tryz.sizeOf301
  v117 := Tryz.zeroValue301
  t124 := Tryz.underlying330
  a124 := Tryz.isAgg330
  z124 := Tryz.sizeOf330
  v124 := Tryz.zeroValue330 }
open Go.RowKit Go.Lib in
theorem Tryz.strings_IndexAny_laid (s chars : ByteArray) (w : World) (hs : s.size < 4294967281) (hcs : chars.size < 4294967281) (has : ∀ (j : Nat) b, s.data.toList[j]? = some b → b.toNat < 128) (hac : ∀ (j : Nat) b, chars.data.toList[j]? = some b → b.toNat < 128) :
    Calls Tryz.prog 198 #[.string s, .string chars] w fun e w' => e = .returned (.int .i64 (Lib.indexAny s.data.toList chars.data.toList)) ∧ Below w.heap.size w w' := Any.strings_IndexAny_laid Tryz.lays153 (by kernel_rfl) s chars w hs hcs has hac
def Tryz.lays229_ren : Go.Shelf.Ren := ⟨fun | 229 => 216 | n => n, fun | 9 => 9 | 40 => 278 | 31 => 32 | 152 => 312 | 3 => 3 | 0 => 0 | 4 => 4 | 21 => 21 | 154 => 314 | n => n, fun | n => n⟩
theorem Tryz.lays229 : Go.Proofs.Lays.n229 Tryz.prog Tryz.lays229_ren := {
  mixed := by kernel_rfl
  f229 := Tryz.func216.trans (congrArg some (by kernel_rfl))
  t0 := Tryz.underlying0
  a0 := Tryz.isAgg0
  z0 := Tryz.sizeOf0
  v0 := Tryz.zeroValue0
  t3 := Tryz.underlying3
  a3 := Tryz.isAgg3
  z3 := Tryz.sizeOf3
  v3 := Tryz.zeroValue3
  t4 := Tryz.underlying4
  a4 := Tryz.isAgg4
  z4 := Tryz.sizeOf4
  v4 := Tryz.zeroValue4
  t9 := Tryz.underlying9
  a9 := Tryz.isAgg9
  z9 := Tryz.sizeOf9
  v9 := Tryz.zeroValue9
  t21 := Tryz.underlying21
  a21 := Tryz.isAgg21
  z21 := Tryz.sizeOf21
  v21 := Tryz.zeroValue21
  t31 := Tryz.underlying32
  a31 := Tryz.isAgg32
  z31 := Tryz.sizeOf32
  v31 := Tryz.zeroValue32
  t40 := Tryz.underlying278
  a40 := Tryz.isAgg278
  z40 := Tryz.sizeOf278
  v40 := Tryz.zeroValue278
  t152 := Tryz.underlying312
  a152 := Tryz.isAgg312
  z152 := Tryz.sizeOf312
  v152 := Tryz.zeroValue312
  t154 := Tryz.underlying314
  a154 := Tryz.isAgg314
  z154 := Tryz.sizeOf314
  v154 := Tryz.zeroValue314 }
open Go.RowKit Go.Lib in
theorem Tryz.strings_FieldsFunc_runes (g : Nat) (lb : Array Value) (eg : ∀ args w, (callFunc g args).run Tryz.prog w = .ok (.enter g args) w) (p : Nat → Bool) (s : ByteArray) (w : World) (hs : s.size ≤ 4294967296) (hp : PredAtRunes Tryz.prog g lb p w) :
    Calls Tryz.prog 216 #[.string s, .func (.func g) #[] lb] w fun e w' => ∃ A, e = .returned (.slice (some ⟨A, 0, none⟩) (Lib.goFieldsP p s).length (Lib.goFieldsP p s).length) ∧ w.heap.size ≤ A ∧
      w'.ownsRow w.heap.size 9 1 (.slice (some ⟨A, 0, none⟩) (Lib.goFieldsP p s).length (Lib.goFieldsP p s).length) (Lib.goFieldsP p s).length ((Lib.goFieldsP p s).map Value.string) ∧ Below w.heap.size w w' := Any.strings_FieldsFunc_runes Tryz.lays229 g lb eg p s w hs hp (by kernel_rfl) (by kernel_rfl)
def Tryz.lays110_ren : Go.Shelf.Ren := ⟨fun | 110 => 230 | 109 => 260 | n => n, fun | 31 => 32 | 9 => 9 | 4 => 4 | 3 => 3 | 0 => 0 | n => n, fun | n => n⟩
theorem Tryz.lays110 : Go.Proofs.Lays.n110 Tryz.prog Tryz.lays110_ren := {
  mixed := by kernel_rfl
  f109 := Tryz.func260.trans (congrArg some (by kernel_rfl))
  f110 := Tryz.func230.trans (congrArg some (by kernel_rfl))
  t0 := Tryz.underlying0
  a0 := Tryz.isAgg0
  z0 := Tryz.sizeOf0
  v0 := Tryz.zeroValue0
  t3 := Tryz.underlying3
  a3 := Tryz.isAgg3
  z3 := Tryz.sizeOf3
  v3 := Tryz.zeroValue3
  t4 := Tryz.underlying4
  a4 := Tryz.isAgg4
  z4 := Tryz.sizeOf4
  v4 := Tryz.zeroValue4
  t9 := Tryz.underlying9
  a9 := Tryz.isAgg9
  z9 := Tryz.sizeOf9
  v9 := Tryz.zeroValue9
  t31 := Tryz.underlying32
  a31 := Tryz.isAgg32
  z31 := Tryz.sizeOf32
  v31 := Tryz.zeroValue32 }
open Go.Lib in
/-- slices.Contains at []string: "Contains reports whether v is present in s.": IT RETURNS 'Lib.containsS (the elements) v', which is true just where v is among them ('Lib.containsS_iff'); the world is as it was. ITS CALLEE slices.Index IS MET BY ITS OWN CONTRACT OFF THE SHELF (lay that first): no loop is walked here. (LAID: no walk: one application.) -/
theorem Tryz.slices_Contains_string (b off n c : Nat) (zs : List ByteArray) (x : ByteArray) (w : World) (hz : n ≤ zs.length) (hbig : n ≤ 9223372036854775807) (hc : ∀ j, j < zs.length → w.cell? ⟨b, off + j, none⟩ = some (.string (zs.getD j ByteArray.empty))) :
    Calls Tryz.prog 230 #[.slice (some ⟨b, off, none⟩) n c, .string x] w fun e w' => e = .returned (.bool (Lib.containsS (zs.take n) x)) ∧ w' = w := Any.slices_Contains_string Tryz.lays110 b off n c zs x w hz hbig hc
def Tryz.laysSlH10_f242_ren : Go.Shelf.Ren := ⟨fun | 10 => 242 | 6 => 165 | n => n, fun | 22 => 32 | 23 => 9 | 25 => 142 | 3 => 3 | 4 => 4 | 0 => 0 | n => n, fun | n => n⟩
theorem Tryz.laysSlH10_f242 : Go.Proofs.SlLaysH.n10 Tryz.prog Tryz.laysSlH10_f242_ren := {
  mixed := by kernel_rfl
  f6 := ⟨Tryz.f165.name, by decide, Tryz.func165.trans (congrArg some (by kernel_rfl))⟩
  f10 := ⟨Tryz.f242.name, by decide, Tryz.func242.trans (congrArg some (by kernel_rfl))⟩
  t0 := Tryz.underlying0
  a0 := Tryz.isAgg0
  z0 := Tryz.sizeOf0
  v0 := Tryz.zeroValue0
  t3 := Tryz.underlying3
  a3 := Tryz.isAgg3
  z3 := Tryz.sizeOf3
  v3 := Tryz.zeroValue3
  t4 := Tryz.underlying4
  a4 := Tryz.isAgg4
  z4 := Tryz.sizeOf4
  v4 := Tryz.zeroValue4
  t22 := Tryz.underlying32
  a22 := Tryz.isAgg32
  z22 := Tryz.sizeOf32
  v22 := Tryz.zeroValue32
  a23 := Tryz.isAgg9
  z23 := Tryz.sizeOf9
  t25 := Tryz.underlying142
  a25 := Tryz.isAgg142
  z25 := Tryz.sizeOf142
  v25 := Tryz.zeroValue142 }
open Go.RowKit Go.Lib Go.Sort in
theorem Tryz.slices_DeleteFunc {α : Type} [Inhabited α] (enc : α → Value) (hO : OneCell enc) (p : α → Bool) (g : Nat) (lb : Array Value) (eg : ∀ args w, (callFunc g args).run Tryz.prog w = .ok (.enter g args) w) (zr : α) (v23 : ∀ w, (zeroValue 9).run Tryz.prog w = .ok (enc zr) w) (blk off cap : Nat) (d : Array α) (w : World) (hp : PredAt Tryz.prog g lb enc p w) (hpo : PredOver Tryz.prog g lb enc p blk off d.size w) (hH : Holds enc w blk off d) (hsz : d.size ≤ 9223372036854775807) (hcap : d.size ≤ cap) :
    Calls Tryz.prog 242 #[.slice (some ⟨blk, off, none⟩) d.size cap, .func (.func g) #[] lb] w fun e w' => e = .returned (.slice (some ⟨blk, off, none⟩) (d.toList.filter fun x => !p x).length cap) ∧ ∃ q, w' = putRow enc (Sort.ahead w q) blk off ((d.toList.filter fun x => !p x) ++ List.replicate (d.size - (d.toList.filter fun x => !p x).length) zr).toArray := AnyE.slices_DeleteFunc Tryz.laysSlH10_f242 enc hO p g lb eg zr v23 blk off cap d w hp hpo hH hsz hcap
end Go.Proofs
