/- The library contracts of the kit, laid for this seat (print of the kit, shortened by a program). -/
import Derived.Shelf.Strings.Builder1
import Derived.Shelf.Strings.Builder2
import Derived.Shelf.Strings.OnBuilder
import Derived.Shelf.Strings.Trim
import Derived.Shelf.Small.Utf8
import Derived.Shelf.Small.Strs
import Derived.Shelf.Small.Wraps
import Derived.Shelf.Strings.BuilderF
import Derived.Shelf.Strings.BuilderK
import Derived.Shelf.Strings.BuilderRune
import Derived.Shelf.Strconv.Atoi
import Derived.Shelf.Strconv.Itoa0
import Derived.Shelf.Strconv.Itoa1
import Derived.Shelf.LaysM
import Derived.Shelf.Strconv.Itoa2
import Derived.Shelf.Strconv.Itoa3
import Derived.Shelf.Strconv.AtoiErrFast
import Derived.Shelf.Strconv.ParseIntEmpty
import Derived.Shelf.Strconv.AtoiFail
import Derived.Shelf.Strconv.Clone
import Derived.Shelf.Strconv.SyntaxError
import Derived.Shelf.LaysC
import Derived.Shelf.Strconv.ToError
import Derived.Shelf.Strconv.Lower
import Derived.Shelf.Strconv.ParseUint10
import Derived.Shelf.Strconv.ParseUint10Empty
import Derived.Shelf.Strconv.ParseUint10Any
import Derived.Shelf.Strconv.ParseInt10
import Derived.Shelf.Strconv.AtoiLong
import Derived.Shelf.Strconv.AtoiInnerAll
import Derived.Shelf.Strconv.RangeError
import Derived.Shelf.Strconv.ToErrorRange
import Derived.Shelf.Strconv.AtoiAll
import Derived.Shelf.Strconv.ErrVarAll
import Derived.Shelf.Strings.Search1
import Derived.Shelf.Strings.Search2
import Derived.Shelf.Strings.Search3
import Derived.Shelf.Strings.Cut
import Derived.Shelf.Strings.Count
import Derived.Shelf.Strings.Shaped
import Derived.Shelf.Strings.Prefix
import Derived.Shelf.Strings.Split
import Derived.Shelf.Strings.Replace
import Derived.Shelf.Strings.SplitShaped
import Derived.Shelf.Unicode.Latin
import Derived.Shelf.Strings.Runes
import Derived.Shelf.Strings.IndexAny
import Derived.Shelf.Strings.AsciiSet
import Derived.Shelf.Strings.IndexAnyAll
import Derived.Shelf.Unicode.DecodeSlow
import Derived.Shelf.Unicode.DecodeAny
import Derived.Shelf.Strings.FieldsFuncAny
import Derived.Shelf.Unicode.CaseLookup
import Derived.Shelf.Unicode.CaseConvert
import Derived.Shelf.Unicode.CaseTo
import Derived.Shelf.Unicode.CaseLaid
import Derived.Shelf.Strings.MapAny
import Derived.Shelf.Strings.CaseAny
import Derived.Shelf.Slices.Turned
import Derived.Ground.Names2Prog
import Derived.Shelf.Slices.ReverseS
import Derived.Shelf.Slices.Clone
import Derived.Shelf.Slices.Cells
import Derived.Ground.SlgnProg
import Derived.Shelf.SlicesE.Clone
import Derived.Ground.SlgfProg
import Derived.Shelf.SlicesE.IndexFunc
import Derived.Shelf.SlicesE.DeleteFunc
import Derived.Test.YtobcmlmbblgcdaaGreatDoorProg
namespace Go.Proofs
open Go.Shelf
open Tryz
set_option maxRecDepth 10000
theorem zk{α:Type}{a:Option α}{x y:α}(h:a=some x)(e:x=y:=by kernel_rfl):a=some y:=h.trans (congrArg some e)
theorem zK{p:Prop}(h:p:=by kernel_rfl):p:=h
def Tryz.lays159_ren:Go.Shelf.Ren:=⟨fun|159=>246|165=>82|166=>83|167=>257|169=>84|230=>226|204=>271|240=>103|241=>104|197=>91|118=>254|168=>255|270=>256|262=>298|276=>128|277=>129|260=>118|242=>281|313=>312|278=>302|274=>314|275=>315|n=>n,fun|9=>9|4=>4|3=>3|5=>5|72=>148|0=>0|76=>152|75=>151|107=>286|70=>145|20=>20|37=>146|127=>175|21=>21|105=>163|164=>191|162=>361|203=>359|119=>211|46=>165|139=>214|138=>213|51=>187|160=>366|208=>372|206=>370|80=>154|n=>n,fun|13=>8|3=>2|4=>3|n=>n⟩
theorem Tryz.lays159:Go.Proofs.Lays.n159 prog lays159_ren:=⟨zK,zk func254,zk func246,zk func82,zk func83,zk func257,zk func255,zk func84,zk func91,zk func271,zk func226,zk func103,
 zk func104,zk func281,zk func118,zk func298,zk func256,zk func314,zk func315,zk func128,zk func129,zk func302,zk func312,underlying0,
 isAgg0,sizeOf0,zeroValue0,underlying3,isAgg3,sizeOf3,zeroValue3,underlying4,isAgg4,sizeOf4,zeroValue4,underlying5,
 isAgg5,sizeOf5,zeroValue5,underlying9,isAgg9,sizeOf9,zeroValue9,underlying20,isAgg20,sizeOf20,zeroValue20,underlying21,
 isAgg21,sizeOf21,zeroValue21,underlying146,isAgg146,sizeOf146,zeroValue146,underlying165,isAgg165,sizeOf165,zeroValue165,underlying187,
 isAgg187,sizeOf187,zeroValue187,underlying145,isAgg145,sizeOf145,zeroValue145,underlying148,isAgg148,sizeOf148,zeroValue148,underlying151,
 isAgg151,sizeOf151,zeroValue151,underlying152,isAgg152,sizeOf152,zeroValue152,underlying163,isAgg163,sizeOf163,zeroValue163,underlying286,
 isAgg286,sizeOf286,zeroValue286,underlying211,isAgg211,sizeOf211,underlying175,isAgg175,sizeOf175,zeroValue175,underlying213,isAgg213,
 sizeOf213,zeroValue213,underlying214,isAgg214,sizeOf214,zeroValue214,underlying366,isAgg366,sizeOf366,zeroValue366,underlying361,isAgg361,
 sizeOf361,zeroValue361,underlying191,isAgg191,sizeOf191,zeroValue191,underlying359,isAgg359,sizeOf359,zeroValue359,underlying370,isAgg370,
 sizeOf370,zeroValue370,underlying372,isAgg372,sizeOf372,zeroValue372,zK,zK,zK⟩
theorem Tryz.Builder_Extra_159:Builder.Extra prog lays159_ren:={
 sizeBuilder:=zK
 liesBuilder:=zK
 t5:=underlying5
 a5:=isAgg5
 z5:=sizeOf5
 v5:=zeroValue5
 infoByte:=zK
 cellsByte:=zK
 sizeByte:=zK
 neB5:=by decide }
open Go.RowKit in
theorem Tryz.strings_ToLower_ascii (s:ByteArray)(w:World)(hs:s.size ≤ 140737488355328)(hascii:∀ (j:Nat)(b:UInt8),s.data.toList[j]? = some b→b.toNat < 128) :
    Calls prog 246 #[.string s] w fun e w'=>e = .returned (.string ⟨(Lib.toLowerA s.data.toList).toArray⟩)∧Below w.heap.size w w':=Any.strings_ToLower_ascii lays159 Builder_Extra_159 s w hs hascii
def Tryz.lays156_ren:Go.Shelf.Ren:=⟨fun|156=>64|165=>82|166=>83|169=>84|240=>103|241=>104|276=>128|277=>129|n=>n,fun|31=>32|9=>9|3=>3|4=>4|0=>0|20=>20|72=>148|76=>152|70=>145|37=>146|75=>151|127=>175|164=>191|5=>5|80=>154|n=>n,fun|n=>n⟩
theorem Tryz.lays156:Go.Proofs.Lays.n156 prog lays156_ren:=⟨zK,zk func64,zk func82,zk func83,zk func84,zk func103,zk func104,zk func128,zk func129,underlying0,isAgg0,sizeOf0,
 zeroValue0,underlying3,isAgg3,sizeOf3,zeroValue3,underlying4,isAgg4,sizeOf4,zeroValue4,underlying9,isAgg9,sizeOf9,
 zeroValue9,underlying20,isAgg20,sizeOf20,zeroValue20,underlying32,isAgg32,sizeOf32,zeroValue32,underlying146,isAgg146,sizeOf146,
 zeroValue146,underlying145,isAgg145,sizeOf145,zeroValue145,underlying148,isAgg148,sizeOf148,zeroValue148,underlying151,isAgg151,sizeOf151,
 zeroValue151,underlying152,isAgg152,sizeOf152,zeroValue152,underlying175,isAgg175,sizeOf175,zeroValue175,underlying191,isAgg191,sizeOf191,
 zeroValue191⟩
theorem Tryz.Builder_Extra_156:Builder.Extra prog lays156_ren:={
 sizeBuilder:=zK
 liesBuilder:=zK
 t5:=underlying5
 a5:=isAgg5
 z5:=sizeOf5
 v5:=zeroValue5
 infoByte:=zK
 cellsByte:=zK
 sizeByte:=zK
 neB5:=by decide }
open Go.RowKit in
theorem Tryz.strings_Join_none (a:Option Addr)(c:Nat)(sep:ByteArray)(w:World) :
    Calls prog 64 #[.slice a 0 c,.string sep] w fun e w'=>e = .returned (.string ⟨#[]⟩)∧w' = w:=Any.strings_Join_none lays156 Builder_Extra_156 a c sep w
open Go.RowKit in
theorem Tryz.strings_Join (bk o c:Nat)(xs:List ByteArray)(sep:ByteArray)(w:World)(hcells:∀ (j:Nat) x,xs[j]? = some x→w.cell? ⟨bk,o + j,none⟩ = some (.string x))(hbk:bk < w.heap.size)(hN:xs.length ≤ 140737488355328)(hcap:xs.length ≤ c)(hlen:(Lib.join (xs.map (·.data.toList)) sep.data.toList).length ≤ 140737488355328) :
    Calls prog 64 #[.slice (some ⟨bk,o,none⟩) xs.length c,.string sep] w fun e w'=>e = .returned (.string ⟨(Lib.join (xs.map (·.data.toList)) sep.data.toList).toArray⟩)∧Below w.heap.size w w':=Any.strings_Join lays156 Builder_Extra_156 bk o c xs sep w hcells hbk hN hcap hlen
def Tryz.lays161_ren:Go.Shelf.Ren:=⟨fun|161=>263|231=>291|227=>235|233=>292|235=>293|228=>236|197=>91|151=>296|260=>118|152=>233|137=>125|119=>262|224=>148|225=>147|217=>146|266=>180|n=>n,fun|9=>9|4=>4|3=>3|5=>5|117=>301|116=>300|0=>0|124=>330|105=>163|21=>21|119=>211|46=>165|139=>214|138=>213|n=>n,fun|3=>2|4=>3|n=>n⟩
theorem Tryz.lays161:Go.Proofs.Lays.n161 prog lays161_ren:=⟨zK,zk func262,zk func125,zk func296,zk func233,zk func263,zk func91,zk func146,zk func148,zk func147,zk func235,zk func236,
 zk func291,zk func292,zk func293,zk func118,zk func180,underlying0,isAgg0,sizeOf0,zeroValue0,underlying3,isAgg3,sizeOf3,
 zeroValue3,underlying4,isAgg4,sizeOf4,zeroValue4,underlying5,isAgg5,sizeOf5,zeroValue5,underlying9,isAgg9,sizeOf9,
 zeroValue9,underlying21,isAgg21,sizeOf21,zeroValue21,underlying165,isAgg165,sizeOf165,zeroValue165,underlying163,isAgg163,sizeOf163,
 zeroValue163,underlying300,isAgg300,sizeOf300,underlying301,isAgg301,sizeOf301,zeroValue301,underlying211,isAgg211,sizeOf211,underlying330,
 isAgg330,sizeOf330,zeroValue330,underlying213,isAgg213,sizeOf213,zeroValue213,underlying214,isAgg214,sizeOf214,zeroValue214,zK,
 zK⟩
open Go.RowKit in
theorem Tryz.strings_TrimLeft_one (s:ByteArray)(c:UInt8)(hc:c.toNat < 128)(w:World) :
    Calls prog 263 #[.string s,.string ⟨#[c]⟩] w fun e w'=>e = .returned (.string ⟨(Lib.trimLeftB s.data.toList c).toArray⟩)∧w' = w:=Any.strings_TrimLeft_one lays161 s c hc w
def Tryz.lays162_ren:Go.Shelf.Ren:=⟨fun|162=>240|232=>265|227=>235|234=>266|236=>267|228=>236|271=>295|151=>296|120=>311|197=>91|152=>233|260=>118|137=>125|119=>262|224=>148|225=>147|217=>146|266=>180|n=>n,fun|9=>9|4=>4|3=>3|5=>5|117=>301|116=>300|0=>0|124=>330|21=>21|105=>163|46=>165|119=>211|139=>214|138=>213|n=>n,fun|3=>2|4=>3|n=>n⟩
theorem Tryz.lays162:Go.Proofs.Lays.n162 prog lays162_ren:=⟨zK,zk func262,zk func311,zk func125,zk func296,zk func233,zk func240,zk func91,zk func146,zk func148,zk func147,zk func235,
 zk func236,zk func265,zk func266,zk func267,zk func118,zk func180,zk func295,underlying0,isAgg0,sizeOf0,zeroValue0,underlying3,
 isAgg3,sizeOf3,zeroValue3,underlying4,isAgg4,sizeOf4,zeroValue4,underlying5,isAgg5,sizeOf5,zeroValue5,underlying9,
 isAgg9,sizeOf9,zeroValue9,underlying21,isAgg21,sizeOf21,zeroValue21,underlying165,isAgg165,sizeOf165,zeroValue165,underlying163,
 isAgg163,sizeOf163,zeroValue163,underlying300,isAgg300,sizeOf300,underlying301,isAgg301,sizeOf301,zeroValue301,underlying211,isAgg211,
 sizeOf211,underlying330,isAgg330,sizeOf330,zeroValue330,underlying213,isAgg213,sizeOf213,zeroValue213,underlying214,isAgg214,sizeOf214,
 zeroValue214,zK,zK⟩
def Tryz.lays106_ren:Go.Shelf.Ren:=⟨fun|106=>73|213=>92|265=>119|n=>n,fun|9=>9|3=>3|n=>n,fun|n=>n⟩
theorem Tryz.lays106:Go.Proofs.Lays.n106 prog lays106_ren:=⟨zK,zk func73,zk func92,zk func119,underlying3,isAgg3,sizeOf3,zeroValue3,underlying9,isAgg9,sizeOf9,zeroValue9⟩
open Go.RowKit in
theorem Tryz.strings_Compare (a b:ByteArray)(w:World) :
    Calls prog 73 #[.string a,.string b] w fun e w'=>e = .returned (.int .i64 (Lib.compareBytes a.data.toList b.data.toList))∧w' = w:=Any.strings_Compare lays106 a b w
def Tryz.lays137_ren:Go.Shelf.Ren:=⟨fun|137=>125|217=>146|266=>180|n=>n,fun|9=>9|5=>5|3=>3|n=>n,fun|n=>n⟩
theorem Tryz.lays137:Go.Proofs.Lays.n137 prog lays137_ren:=⟨zK,zk func125,zk func146,zk func180,underlying3,isAgg3,sizeOf3,zeroValue3,underlying5,isAgg5,sizeOf5,zeroValue5,
 underlying9,isAgg9,sizeOf9,zeroValue9⟩
open Go.RowKit in
theorem Tryz.strings_IndexByte (s:ByteArray)(c:Int)(w:World) :
    Calls prog 125 #[.string s,.int .u8 c] w fun e w'=>e = .returned (.int .i64 (Lib.indexByte s.data.toList c.toNat.toUInt8))∧w' = w:=Any.strings_IndexByte lays137 s c w
def Tryz.lays104_ren:Go.Shelf.Ren:=⟨fun|104=>264|211=>294|207=>310|n=>n,fun|9=>9|4=>4|24=>78|3=>3|n=>n,fun|n=>n⟩
theorem Tryz.lays104:Go.Proofs.Lays.n104 prog lays104_ren:=⟨zK,zk func264,zk func310,zk func294,underlying3,isAgg3,sizeOf3,zeroValue3,underlying4,isAgg4,sizeOf4,zeroValue4,
 underlying9,isAgg9,sizeOf9,zeroValue9,underlying78,isAgg78,sizeOf78,zeroValue78⟩
open Go.RowKit in
theorem Tryz.strings_CutSuffix (s p:ByteArray)(w:World)(hs:s.size ≤ 9223372036854775807) :
    Calls prog 264 #[.string s,.string p] w fun e w'=>e = .returned (.tuple #[.string ⟨(Lib.trimSuffix s.data.toList p.data.toList).toArray⟩,.bool (Lib.hasSuffix s.data.toList p.data.toList)])∧w' = w:=Any.strings_CutSuffix lays104 s p w hs
def Tryz.laysM171_ren:Go.Shelf.Ren:=⟨fun|171=>34|243=>57|246=>75|283=>94|284=>95|285=>96|286=>97|129=>121|317=>120|318=>122|319=>123|320=>124|337=>150|338=>151|n=>n,fun|3=>3|9=>9|2=>2|4=>4|171=>168|0=>0|53=>169|37=>146|5=>5|173=>172|212=>186|51=>187|20=>20|213=>188|46=>165|232=>255|233=>256|n=>n,fun|17=>1|18=>4|19=>5|n=>n⟩
theorem Tryz.laysM171:Go.Proofs.LaysM.n171 prog laysM171_ren:={
 mixed:=zK
 f129:=zk func121
 f171:=zk func34
 f243:=zk func57
 f246:=zk func75
 f283:=zk func94
 f284:=zk func95
 f285:=zk func96
 f286:=zk func97
 f317:=zk func120
 f318:=zk func122
 f319:=zk func123
 f320:=zk func124
 f337:=zk func150
 f338:=zk func151
 t0:=underlying0
 a0:=isAgg0
 z0:=sizeOf0
 v0:=zeroValue0
 t2:=underlying2
 a2:=isAgg2
 z2:=sizeOf2
 v2:=zeroValue2
 t3:=underlying3
 a3:=isAgg3
 z3:=sizeOf3
 v3:=zeroValue3
 t4:=underlying4
 a4:=isAgg4
 z4:=sizeOf4
 v4:=zeroValue4
 t5:=underlying5
 a5:=isAgg5
 z5:=sizeOf5
 v5:=zeroValue5
 t9:=underlying9
 a9:=isAgg9
 z9:=sizeOf9
 v9:=zeroValue9
 t20:=underlying20
 a20:=isAgg20
 z20:=sizeOf20
 v20:=zeroValue20
 t37:=underlying146
 a37:=isAgg146
 z37:=sizeOf146
 v37:=zeroValue146
 t46:=underlying165
 a46:=isAgg165
 z46:=sizeOf165
 v46:=zeroValue165
 t51:=underlying187
 a51:=isAgg187
 z51:=sizeOf187
 v51:=zeroValue187
 t53:=underlying169
 a53:=isAgg169
 z53:=sizeOf169
 v53:=zeroValue169
 t171:=underlying168
 a171:=isAgg168
 z171:=sizeOf168
 v171:=zeroValue168
 t173:=underlying172
 a173:=isAgg172
 z173:=sizeOf172
 v173:=zeroValue172
 t212:=underlying186
 a212:=isAgg186
 z212:=sizeOf186
 v212:=zeroValue186
 t213:=underlying188
 a213:=isAgg188
 z213:=sizeOf188
 t232:=underlying255
 a232:=isAgg255
 z232:=sizeOf255
 v232:=zeroValue255
 t233:=underlying256
 a233:=isAgg256
 z233:=sizeOf256
 v233:=zeroValue256
 g17:=zK
 g18:=zK
 g19:=zK
 i0:=zK
 i2:=zK
 i3:=zK
 i4:=zK
 i5:=zK
 i9:=zK
 i20:=zK
 i37:=zK
 i46:=zK
 i51:=zK
 i53:=zK
 i171:=zK
 i173:=zK
 i212:=zK
 i232:=zK
 i233:=zK
 m17:=zK
 m18:=zK
 m19:=zK }
open Go.RowKit Go.Sort Go.Lib in
theorem Tryz.strconv_Itoa (n:Int)(h0:-9223372036854775808 ≤ n)(h1:n ≤ 9223372036854775807)(w:World)(htab:Lib.TabIs prog w "internal/strconv.uint64pow10" .u64 Lib.pow10Tab) :
    Calls prog 34 #[.int .i64 n] w fun e w'=>e = .returned (.string ⟨(Lib.itoa n).toArray⟩)∧∃ k os,w' = grow (w.drewN k) os:=Any.strconv_Itoa laysM171 n h0 h1 w htab
def Tryz.laysC245_ren:Go.Shelf.Ren:=⟨fun|245=>248|279=>274|280=>275|281=>276|282=>277|316=>299|171=>34|205=>300|243=>57|246=>75|283=>94|284=>95|285=>96|286=>97|129=>121|317=>120|318=>122|319=>123|320=>124|337=>150|338=>151|n=>n,fun|9=>9|3=>3|75=>151|167=>334|4=>4|168=>336|210=>351|37=>146|0=>0|127=>175|145=>364|143=>362|2=>2|171=>168|53=>169|5=>5|173=>172|212=>186|51=>187|20=>20|213=>188|46=>165|232=>255|233=>256|80=>154|n=>n,fun|15=>6|16=>7|17=>1|18=>4|19=>5|n=>n⟩
theorem Tryz.laysC245:Go.Proofs.LaysC.n245 prog laysC245_ren:={
 mixed:=zK
 f129:=zk func121
 f171:=zk func34
 f205:=zk func300
 f243:=zk func57
 f245:=zk func248
 f246:=zk func75
 f279:=zk func274
 f280:=zk func275
 f281:=zk func276
 f282:=zk func277
 f283:=zk func94
 f284:=zk func95
 f285:=zk func96
 f286:=zk func97
 f316:=zk func299
 f317:=zk func120
 f318:=zk func122
 f319:=zk func123
 f320:=zk func124
 f337:=zk func150
 f338:=zk func151
 t0:=underlying0
 a0:=isAgg0
 z0:=sizeOf0
 v0:=zeroValue0
 t2:=underlying2
 a2:=isAgg2
 z2:=sizeOf2
 v2:=zeroValue2
 t3:=underlying3
 a3:=isAgg3
 z3:=sizeOf3
 v3:=zeroValue3
 t4:=underlying4
 a4:=isAgg4
 z4:=sizeOf4
 v4:=zeroValue4
 t5:=underlying5
 a5:=isAgg5
 z5:=sizeOf5
 v5:=zeroValue5
 t9:=underlying9
 a9:=isAgg9
 z9:=sizeOf9
 v9:=zeroValue9
 t20:=underlying20
 a20:=isAgg20
 z20:=sizeOf20
 v20:=zeroValue20
 t37:=underlying146
 a37:=isAgg146
 z37:=sizeOf146
 v37:=zeroValue146
 t46:=underlying165
 a46:=isAgg165
 z46:=sizeOf165
 v46:=zeroValue165
 t51:=underlying187
 a51:=isAgg187
 z51:=sizeOf187
 v51:=zeroValue187
 t53:=underlying169
 a53:=isAgg169
 z53:=sizeOf169
 v53:=zeroValue169
 t75:=underlying151
 a75:=isAgg151
 z75:=sizeOf151
 v75:=zeroValue151
 t127:=underlying175
 a127:=isAgg175
 z127:=sizeOf175
 v127:=zeroValue175
 t143:=underlying362
 a143:=isAgg362
 z143:=sizeOf362
 v143:=zeroValue362
 t145:=underlying364
 a145:=isAgg364
 z145:=sizeOf364
 v145:=zeroValue364
 t167:=underlying334
 a167:=isAgg334
 z167:=sizeOf334
 v167:=zeroValue334
 t168:=underlying336
 a168:=isAgg336
 z168:=sizeOf336
 v168:=zeroValue336
 t171:=underlying168
 a171:=isAgg168
 z171:=sizeOf168
 v171:=zeroValue168
 t173:=underlying172
 a173:=isAgg172
 z173:=sizeOf172
 v173:=zeroValue172
 t210:=underlying351
 a210:=isAgg351
 z210:=sizeOf351
 v210:=zeroValue351
 t212:=underlying186
 a212:=isAgg186
 z212:=sizeOf186
 v212:=zeroValue186
 t213:=underlying188
 a213:=isAgg188
 z213:=sizeOf188
 t232:=underlying255
 a232:=isAgg255
 z232:=sizeOf255
 v232:=zeroValue255
 t233:=underlying256
 a233:=isAgg256
 z233:=sizeOf256
 v233:=zeroValue256
 g15:=zK
 g16:=zK
 g17:=zK
 g18:=zK
 g19:=zK
 t80:=underlying154
 a80:=isAgg154
 z80:=sizeOf154
 v80:=zeroValue154
 i0:=zK
 i2:=zK
 i3:=zK
 i4:=zK
 i5:=zK
 i9:=zK
 i20:=zK
 i37:=zK
 i46:=zK
 i51:=zK
 i53:=zK
 i75:=zK
 i80:=zK
 i127:=zK
 i143:=zK
 i145:=zK
 i167:=zK
 i168:=zK
 i171:=zK
 i173:=zK
 i210:=zK
 i212:=zK
 i232:=zK
 i233:=zK
 m15:=zK
 m16:=zK
 m17:=zK
 m18:=zK
 m19:=zK
 c0:=zK
 c2:=zK
 c3:=zK
 c4:=zK
 c5:=zK
 c9:=zK
 c20:=zK
 c37:=zK
 c46:=zK
 c51:=zK
 c53:=zK
 c75:=zK
 c80:=zK
 c127:=zK
 c143:=zK
 c145:=zK
 c167:=zK
 c168:=zK
 c171:=zK
 c173:=zK
 c210:=zK
 c212:=zK
 c213:=zK
 c232:=zK
 c233:=zK }
open Go.RowKit in
theorem Tryz.strconv_toError_syntax (fn s:ByteArray)(base bits:Int)(ev:Value)(w:World)(hlim:s.size ≤ 281474976710656)(hv:w.cell? ⟨6,0,none⟩ = some ev)(hev:ev = .nilIface ∨ ∃ te pe,ev = .iface te pe) :
    Calls prog 248 #[.string fn,.string s,.int .i64 base,.int .i64 bits,.iface 334 (.int .i64 2)] w fun e w'=>∃ N,e = .returned (.iface 336 (.pointer (some ⟨N,0,none⟩)))∧w.heap.size ≤ N∧w'.heap[N]? = some (.cells #[.string fn,.string s,ev] 351 (0,0))∧Below w.heap.size w w':=Any.strconv_toError_syntax laysC245 fn s base bits ev w hlim hv hev
open Go.RowKit in
theorem Tryz.strconv_toError_range (fn s:ByteArray)(base bits:Int)(ev:Value)(w:World)(hlim:s.size ≤ 281474976710656)(hv:w.cell? ⟨7,0,none⟩ = some ev)(hev:ev = .nilIface ∨ ∃ te pe,ev = .iface te pe) :
    Calls prog 248 #[.string fn,.string s,.int .i64 base,.int .i64 bits,.iface 334 (.int .i64 1)] w fun e w'=>∃ N,e = .returned (.iface 336 (.pointer (some ⟨N,0,none⟩)))∧w.heap.size ≤ N∧w'.heap[N]? = some (.cells #[.string fn,.string s,ev] 351 (0,0))∧Below w.heap.size w w':=Any.strconv_toError_range laysC245 fn s base bits ev w hlim hv hev
def Tryz.laysC172_ren:Go.Shelf.Ren:=⟨fun|172=>224|244=>253|245=>248|247=>280|279=>274|280=>275|281=>276|282=>277|287=>247|316=>299|171=>34|205=>300|321=>272|322=>273|243=>57|246=>75|283=>94|284=>95|285=>96|286=>97|129=>121|317=>120|318=>122|319=>123|320=>124|337=>150|338=>151|n=>n,fun|9=>9|3=>3|75=>151|76=>152|4=>4|5=>5|167=>334|37=>146|0=>0|85=>339|2=>2|168=>336|53=>169|175=>280|46=>165|210=>351|127=>175|145=>364|143=>362|21=>21|171=>168|173=>172|212=>186|51=>187|20=>20|213=>188|232=>255|233=>256|80=>154|n=>n,fun|15=>6|16=>7|17=>1|18=>4|19=>5|n=>n⟩
theorem Tryz.laysC172:Go.Proofs.LaysC.n172 prog laysC172_ren:={
 mixed:=zK
 f129:=zk func121
 f171:=zk func34
 f172:=zk func224
 f205:=zk func300
 f243:=zk func57
 f244:=zk func253
 f245:=zk func248
 f246:=zk func75
 f247:=zk func280
 f279:=zk func274
 f280:=zk func275
 f281:=zk func276
 f282:=zk func277
 f283:=zk func94
 f284:=zk func95
 f285:=zk func96
 f286:=zk func97
 f287:=zk func247
 f316:=zk func299
 f317:=zk func120
 f318:=zk func122
 f319:=zk func123
 f320:=zk func124
 f321:=zk func272
 f322:=zk func273
 f337:=zk func150
 f338:=zk func151
 t0:=underlying0
 a0:=isAgg0
 z0:=sizeOf0
 v0:=zeroValue0
 t2:=underlying2
 a2:=isAgg2
 z2:=sizeOf2
 v2:=zeroValue2
 t3:=underlying3
 a3:=isAgg3
 z3:=sizeOf3
 v3:=zeroValue3
 t4:=underlying4
 a4:=isAgg4
 z4:=sizeOf4
 v4:=zeroValue4
 t5:=underlying5
 a5:=isAgg5
 z5:=sizeOf5
 v5:=zeroValue5
 t9:=underlying9
 a9:=isAgg9
 z9:=sizeOf9
 v9:=zeroValue9
 t20:=underlying20
 a20:=isAgg20
 z20:=sizeOf20
 v20:=zeroValue20
 t21:=underlying21
 a21:=isAgg21
 z21:=sizeOf21
 v21:=zeroValue21
 t37:=underlying146
 a37:=isAgg146
 z37:=sizeOf146
 v37:=zeroValue146
 t46:=underlying165
 a46:=isAgg165
 z46:=sizeOf165
 v46:=zeroValue165
 t51:=underlying187
 a51:=isAgg187
 z51:=sizeOf187
 v51:=zeroValue187
 t53:=underlying169
 a53:=isAgg169
 z53:=sizeOf169
 v53:=zeroValue169
 t75:=underlying151
 a75:=isAgg151
 z75:=sizeOf151
 v75:=zeroValue151
 t76:=underlying152
 a76:=isAgg152
 z76:=sizeOf152
 v76:=zeroValue152
 t85:=underlying339
 a85:=isAgg339
 z85:=sizeOf339
 v85:=zeroValue339
 t127:=underlying175
 a127:=isAgg175
 z127:=sizeOf175
 v127:=zeroValue175
 t143:=underlying362
 a143:=isAgg362
 z143:=sizeOf362
 v143:=zeroValue362
 t145:=underlying364
 a145:=isAgg364
 z145:=sizeOf364
 v145:=zeroValue364
 t167:=underlying334
 a167:=isAgg334
 z167:=sizeOf334
 v167:=zeroValue334
 t168:=underlying336
 a168:=isAgg336
 z168:=sizeOf336
 v168:=zeroValue336
 t171:=underlying168
 a171:=isAgg168
 z171:=sizeOf168
 v171:=zeroValue168
 t173:=underlying172
 a173:=isAgg172
 z173:=sizeOf172
 v173:=zeroValue172
 t175:=underlying280
 a175:=isAgg280
 z175:=sizeOf280
 v175:=zeroValue280
 t210:=underlying351
 a210:=isAgg351
 z210:=sizeOf351
 v210:=zeroValue351
 t212:=underlying186
 a212:=isAgg186
 z212:=sizeOf186
 v212:=zeroValue186
 t213:=underlying188
 a213:=isAgg188
 z213:=sizeOf188
 t232:=underlying255
 a232:=isAgg255
 z232:=sizeOf255
 v232:=zeroValue255
 t233:=underlying256
 a233:=isAgg256
 z233:=sizeOf256
 v233:=zeroValue256
 g15:=zK
 g16:=zK
 g17:=zK
 g18:=zK
 g19:=zK
 t80:=underlying154
 a80:=isAgg154
 z80:=sizeOf154
 v80:=zeroValue154
 i0:=zK
 i2:=zK
 i3:=zK
 i4:=zK
 i5:=zK
 i9:=zK
 i20:=zK
 i21:=zK
 i37:=zK
 i46:=zK
 i51:=zK
 i53:=zK
 i75:=zK
 i76:=zK
 i80:=zK
 i85:=zK
 i127:=zK
 i143:=zK
 i145:=zK
 i167:=zK
 i168:=zK
 i171:=zK
 i173:=zK
 i175:=zK
 i210:=zK
 i212:=zK
 i232:=zK
 i233:=zK
 m15:=zK
 m16:=zK
 m17:=zK
 m18:=zK
 m19:=zK
 c0:=zK
 c2:=zK
 c3:=zK
 c4:=zK
 c5:=zK
 c9:=zK
 c20:=zK
 c21:=zK
 c37:=zK
 c46:=zK
 c51:=zK
 c53:=zK
 c75:=zK
 c76:=zK
 c80:=zK
 c85:=zK
 c127:=zK
 c143:=zK
 c145:=zK
 c167:=zK
 c168:=zK
 c171:=zK
 c173:=zK
 c175:=zK
 c210:=zK
 c212:=zK
 c213:=zK
 c232:=zK
 c233:=zK }
open Go.RowKit in
theorem Tryz.strconv_Atoi_ok (s:ByteArray)(hmax:s.size ≤ 9223372036854775806)(v:Int)(h:Lib.atoiAll s.data.toList = .ok v)(w:World) :
    Calls prog 224 #[.string s] w fun e w'=>e = .returned (.tuple #[.int .i64 v,.nilIface])∧(w' = w ∨ ∃ t,w' = Lib.bytesWorld w 5 t):=Any.strconv_Atoi_ok laysC172 s hmax v h w
open Go.RowKit in
theorem Tryz.strconv_Atoi_range_var (s:ByteArray)(hlim:s.size ≤ 281474976710656)(h:Lib.atoiAll s.data.toList = .range)(tp:TypeId)(p:Value)(w:World)(hvar:w.var? prog "strconv.ErrRange" = some #[.iface tp p]) :
    Calls prog 224 #[.string s] w fun e w'=>∃ N,e = .returned (.tuple #[.int .i64 (Lib.atoiSat s.data.toList),.iface 336 (.pointer (some ⟨N,0,none⟩))])∧w.heap.size ≤ N∧w'.heap[N]? = some (.cells #[.string ⟨#[65,116,111,105]⟩,.string s,.iface tp p] 351 (0,0))∧Below w.heap.size w w':=Any.strconv_Atoi_range_var laysC172 s hlim h tp p w hvar
def Tryz.lays144_ren:Go.Shelf.Ren:=⟨fun|144=>100|143=>90|219=>117|217=>146|225=>147|224=>148|267=>149|266=>180|314=>181|n=>n,fun|9=>9|4=>4|3=>3|5=>5|46=>165|146=>253|51=>187|n=>n,fun|1=>0|n=>n⟩
theorem Tryz.lays144:Go.Proofs.Lays.n144 prog lays144_ren:=⟨zK,zk func90,zk func100,zk func146,zk func117,zk func148,zk func147,zk func180,zk func149,zk func181,underlying3,isAgg3,
 sizeOf3,zeroValue3,underlying4,isAgg4,sizeOf4,zeroValue4,underlying5,isAgg5,sizeOf5,zeroValue5,underlying9,isAgg9,
 sizeOf9,zeroValue9,underlying165,isAgg165,sizeOf165,zeroValue165,underlying187,isAgg187,sizeOf187,zeroValue187,underlying253,isAgg253,
 sizeOf253,zeroValue253,zK⟩
open Go.RowKit Go.Lib in
theorem Tryz.strings_Contains_one (s:ByteArray)(c:UInt8)(w:World) :
    Calls prog 100 #[.string s,.string ⟨#[c]⟩] w fun e w'=>e = .returned (.bool (decide (0 ≤ Lib.indexByte s.data.toList c)))∧w' = w:=Any.strings_Contains_one lays144 s c w
def Tryz.lays145_ren:Go.Shelf.Ren:=⟨fun|145=>159|220=>188|219=>117|217=>146|225=>147|224=>148|267=>149|266=>180|314=>181|n=>n,fun|9=>9|4=>4|59=>225|3=>3|5=>5|46=>165|146=>253|51=>187|n=>n,fun|1=>0|n=>n⟩
theorem Tryz.lays145:Go.Proofs.Lays.n145 prog lays145_ren:=⟨zK,zk func159,zk func146,zk func117,zk func188,zk func148,zk func147,zk func180,zk func149,zk func181,underlying3,isAgg3,
 sizeOf3,zeroValue3,underlying4,isAgg4,sizeOf4,zeroValue4,underlying5,isAgg5,sizeOf5,zeroValue5,underlying9,isAgg9,
 sizeOf9,zeroValue9,underlying165,isAgg165,sizeOf165,zeroValue165,underlying187,isAgg187,sizeOf187,zeroValue187,underlying225,isAgg225,
 sizeOf225,zeroValue225,underlying253,isAgg253,sizeOf253,zeroValue253,zK⟩
open Go.RowKit Go.Lib in
theorem Tryz.strings_Cut (s sep:ByteArray)(m:Int)(w:World)(hs:s.size < 4294967281)(hm:w.cell? ⟨0,0,none⟩ = some (.int .i64 m)) :
    Calls prog 159 #[.string s,.string sep] w fun e w'=>e = .returned (.tuple #[.string ⟨(Lib.cut s.data.toList sep.data.toList).1.toArray⟩,.string ⟨(Lib.cut s.data.toList sep.data.toList).2.1.toArray⟩,.bool (Lib.cut s.data.toList sep.data.toList).2.2])∧∃ n,w' = w.drewN n:=Any.strings_Cut lays145 s sep m w hs hm
def Tryz.lays99_ren:Go.Shelf.Ren:=⟨fun|99=>102|206=>127|n=>n,fun|9=>9|4=>4|3=>3|n=>n,fun|n=>n⟩
theorem Tryz.lays99:Go.Proofs.Lays.n99 prog lays99_ren:=⟨zK,zk func102,zk func127,underlying3,isAgg3,sizeOf3,zeroValue3,underlying4,isAgg4,sizeOf4,zeroValue4,underlying9,
 isAgg9,sizeOf9,zeroValue9⟩
open Go.RowKit Go.Lib in
theorem Tryz.strings_HasPrefix (s p:ByteArray)(w:World) :
    Calls prog 102 #[.string s,.string p] w fun e w'=>e = .returned (.bool (Lib.hasPrefix s.data.toList p.data.toList))∧w' = w:=Any.strings_HasPrefix lays99 s p w
def Tryz.lays146_ren:Go.Shelf.Ren:=⟨fun|146=>101|221=>126|268=>152|138=>89|143=>90|195=>115|197=>91|218=>116|219=>117|260=>118|217=>146|225=>147|224=>148|267=>149|266=>180|314=>181|n=>n,fun|9=>9|31=>32|3=>3|4=>4|0=>0|105=>163|21=>21|5=>5|46=>165|119=>211|139=>214|138=>213|146=>253|51=>187|n=>n,fun|1=>0|3=>2|4=>3|n=>n⟩
theorem Tryz.lays146:Go.Proofs.Lays.n146 prog lays146_ren:=⟨zK,zk func89,zk func90,zk func101,zk func115,zk func91,zk func146,zk func116,zk func117,zk func126,zk func148,zk func147,
 zk func118,zk func180,zk func149,zk func152,zk func181,underlying0,isAgg0,sizeOf0,zeroValue0,underlying3,isAgg3,sizeOf3,
 zeroValue3,underlying4,isAgg4,sizeOf4,zeroValue4,underlying5,isAgg5,sizeOf5,zeroValue5,underlying9,isAgg9,sizeOf9,
 zeroValue9,underlying21,isAgg21,sizeOf21,zeroValue21,underlying32,isAgg32,sizeOf32,zeroValue32,underlying165,isAgg165,sizeOf165,
 zeroValue165,underlying187,isAgg187,sizeOf187,zeroValue187,underlying163,isAgg163,sizeOf163,zeroValue163,underlying211,isAgg211,sizeOf211,
 underlying213,isAgg213,sizeOf213,zeroValue213,underlying214,isAgg214,sizeOf214,zeroValue214,underlying253,isAgg253,sizeOf253,zeroValue253,
 zK,zK,zK⟩
open Go.RowKit Go.Lib in
theorem Tryz.strings_Split (s sep:ByteArray)(m:Int)(w:World)(hs:s.size < 4294967281)(hm:w.cell? ⟨0,0,none⟩ = some (.int .i64 m))(h1:1 ≤ sep.size) :
    Calls prog 101 #[.string s,.string sep] w fun e w'=>
      e = .returned (.slice (some ⟨w.heap.size,0,none⟩) (Lib.countB s sep + 1) (Lib.countB s sep + 1))∧w' = w.alloc (.cells ((Lib.splitB sep 0 (Lib.countB s sep) s).map Value.string).toArray 9):=Any.strings_Split lays146 (zK) s sep m w hs hm h1
def Tryz.lays155_ren:Go.Shelf.Ren:=⟨fun|155=>55|154=>70|138=>89|165=>82|143=>90|166=>83|197=>91|169=>84|195=>115|218=>116|240=>103|241=>104|219=>117|260=>118|276=>128|277=>129|217=>146|225=>147|224=>148|267=>149|266=>180|314=>181|n=>n,fun|9=>9|3=>3|4=>4|72=>148|0=>0|76=>152|105=>163|21=>21|5=>5|70=>145|20=>20|37=>146|75=>151|127=>175|164=>191|46=>165|119=>211|139=>214|138=>213|146=>253|51=>187|80=>154|n=>n,fun|1=>0|3=>2|4=>3|n=>n⟩
theorem Tryz.lays155:Go.Proofs.Lays.n155 prog lays155_ren:=⟨zK,zk func89,zk func90,zk func70,zk func55,zk func82,zk func83,zk func84,zk func115,zk func91,zk func146,zk func116,
 zk func117,zk func148,zk func147,zk func103,zk func104,zk func118,zk func180,zk func149,zk func128,zk func129,zk func181,underlying0,
 isAgg0,sizeOf0,zeroValue0,underlying3,isAgg3,sizeOf3,zeroValue3,underlying4,isAgg4,sizeOf4,zeroValue4,underlying5,
 isAgg5,sizeOf5,zeroValue5,underlying9,isAgg9,sizeOf9,zeroValue9,underlying20,isAgg20,sizeOf20,zeroValue20,underlying21,
 isAgg21,sizeOf21,zeroValue21,underlying146,isAgg146,sizeOf146,zeroValue146,underlying165,isAgg165,sizeOf165,zeroValue165,underlying187,
 isAgg187,sizeOf187,zeroValue187,underlying145,isAgg145,sizeOf145,zeroValue145,underlying148,isAgg148,sizeOf148,zeroValue148,underlying151,
 isAgg151,sizeOf151,zeroValue151,underlying152,isAgg152,sizeOf152,zeroValue152,underlying163,isAgg163,sizeOf163,zeroValue163,underlying211,
 isAgg211,sizeOf211,underlying175,isAgg175,sizeOf175,zeroValue175,underlying213,isAgg213,sizeOf213,zeroValue213,underlying214,isAgg214,
 sizeOf214,zeroValue214,underlying253,isAgg253,sizeOf253,zeroValue253,underlying191,isAgg191,sizeOf191,zeroValue191,zK,zK,
 zK⟩
theorem Tryz.Builder_Extra_155:Builder.Extra prog lays155_ren:={
 sizeBuilder:=zK
 liesBuilder:=zK
 t5:=underlying5
 a5:=isAgg5
 z5:=sizeOf5
 v5:=zeroValue5
 infoByte:=zK
 cellsByte:=zK
 sizeByte:=zK
 neB5:=by decide }
open Go.RowKit Go.Lib in
theorem Tryz.strings_ReplaceAll (s old new:ByteArray)(m:Int)(w:World)(hs:s.size < 4294967281)(hm:w.cell? ⟨0,0,none⟩ = some (.int .i64 m))(h1:1 ≤ old.size)(hlen:s.size + Lib.countB s old * new.size ≤ 140737488355328) :
    Calls prog 55 #[.string s,.string old,.string new] w fun e w'=>
      e = .returned (.string ⟨(Lib.replaceAll s.data.toList old.data.toList new.data.toList).toArray⟩)∧Below w.heap.size w w':=Any.strings_ReplaceAll lays155 Builder_Extra_155 s old new m w hs hm h1 hlen
def Tryz.lays153_ren:Go.Shelf.Ren:=⟨fun|153=>198|152=>233|226=>234|227=>235|228=>236|137=>125|119=>262|224=>148|225=>147|217=>146|266=>180|n=>n,fun|9=>9|3=>3|4=>4|5=>5|21=>21|117=>301|116=>300|0=>0|46=>165|124=>330|n=>n,fun|n=>n⟩
theorem Tryz.lays153:Go.Proofs.Lays.n153 prog lays153_ren:=⟨zK,zk func262,zk func125,zk func233,zk func198,zk func146,zk func148,zk func147,zk func234,zk func235,zk func236,zk func180,
 underlying0,isAgg0,sizeOf0,zeroValue0,underlying3,isAgg3,sizeOf3,zeroValue3,underlying4,isAgg4,sizeOf4,zeroValue4,
 underlying5,isAgg5,sizeOf5,zeroValue5,underlying9,isAgg9,sizeOf9,zeroValue9,underlying21,isAgg21,sizeOf21,zeroValue21,
 underlying165,isAgg165,sizeOf165,zeroValue165,underlying300,isAgg300,sizeOf300,underlying301,isAgg301,sizeOf301,zeroValue301,underlying330,
 isAgg330,sizeOf330,zeroValue330⟩
def Tryz.lays150_ren:Go.Shelf.Ren:=⟨fun|150=>215|153=>198|152=>233|226=>234|227=>235|228=>236|137=>125|119=>262|224=>148|225=>147|217=>146|266=>180|n=>n,fun|9=>9|4=>4|3=>3|5=>5|21=>21|117=>301|116=>300|0=>0|46=>165|124=>330|n=>n,fun|n=>n⟩
theorem Tryz.lays150:Go.Proofs.Lays.n150 prog lays150_ren:=⟨zK,zk func262,zk func125,zk func215,zk func233,zk func198,zk func146,zk func148,zk func147,zk func234,zk func235,zk func236,
 zk func180,underlying0,isAgg0,sizeOf0,zeroValue0,underlying3,isAgg3,sizeOf3,zeroValue3,underlying4,isAgg4,sizeOf4,
 zeroValue4,underlying5,isAgg5,sizeOf5,zeroValue5,underlying9,isAgg9,sizeOf9,zeroValue9,underlying21,isAgg21,sizeOf21,
 zeroValue21,underlying165,isAgg165,sizeOf165,zeroValue165,underlying300,isAgg300,sizeOf300,underlying301,isAgg301,sizeOf301,zeroValue301,
 underlying330,isAgg330,sizeOf330,zeroValue330⟩
open Go.RowKit Go.Lib in
theorem Tryz.strings_IndexAny_laid (s chars:ByteArray)(w:World)(hs:s.size < 4294967281)(hcs:chars.size < 4294967281)(has:∀ (j:Nat) b,s.data.toList[j]? = some b→b.toNat < 128)(hac:∀ (j:Nat) b,chars.data.toList[j]? = some b→b.toNat < 128) :
    Calls prog 198 #[.string s,.string chars] w fun e w'=>e = .returned (.int .i64 (Lib.indexAny s.data.toList chars.data.toList))∧Below w.heap.size w w':=Any.strings_IndexAny_laid lays153 (zK) s chars w hs hcs has hac
open Go.RowKit Go.Lib in
theorem Tryz.strings_ContainsAny_laid (s chars:ByteArray)(w:World)(hs:s.size < 4294967281)(hcs:chars.size < 4294967281)(has:∀ (j:Nat) b,s.data.toList[j]? = some b→b.toNat < 128)(hac:∀ (j:Nat) b,chars.data.toList[j]? = some b→b.toNat < 128) :
    Calls prog 215 #[.string s,.string chars] w fun e w'=>e = .returned (.bool (Lib.containsAny s.data.toList chars.data.toList))∧Below w.heap.size w w':=Any.strings_ContainsAny_laid lays150 (zK) s chars w hs hcs has hac
def Tryz.lays229_ren:Go.Shelf.Ren:=⟨fun|229=>216|n=>n,fun|9=>9|40=>278|31=>32|152=>312|3=>3|0=>0|4=>4|21=>21|154=>314|n=>n,fun|n=>n⟩
theorem Tryz.lays229:Go.Proofs.Lays.n229 prog lays229_ren:=⟨zK,zk func216,underlying0,isAgg0,sizeOf0,zeroValue0,underlying3,isAgg3,sizeOf3,zeroValue3,underlying4,isAgg4,
 sizeOf4,zeroValue4,underlying9,isAgg9,sizeOf9,zeroValue9,underlying21,isAgg21,sizeOf21,zeroValue21,underlying32,isAgg32,
 sizeOf32,zeroValue32,underlying278,isAgg278,sizeOf278,zeroValue278,underlying312,isAgg312,sizeOf312,zeroValue312,underlying314,isAgg314,
 sizeOf314,zeroValue314⟩
open Go.RowKit Go.Lib in
theorem Tryz.strings_FieldsFunc_runes (g:Nat)(lb:Array Value)(eg:∀ args w,(callFunc g args).run prog w = .ok (.enter g args) w)(p:Nat→Bool)(s:ByteArray)(w:World)(hs:s.size ≤ 4294967296)(hp:PredAtRunes prog g lb p w) :
    Calls prog 216 #[.string s,.func (.func g) #[] lb] w fun e w'=>∃ A,e = .returned (.slice (some ⟨A,0,none⟩) (Lib.goFieldsP p s).length (Lib.goFieldsP p s).length)∧w.heap.size ≤ A∧
      w'.ownsRow w.heap.size 9 1 (.slice (some ⟨A,0,none⟩) (Lib.goFieldsP p s).length (Lib.goFieldsP p s).length) (Lib.goFieldsP p s).length ((Lib.goFieldsP p s).map Value.string)∧Below w.heap.size w w':=Any.strings_FieldsFunc_runes lays229 g lb eg p s w hs hp (zK) (zK)
def Tryz.lays230_ren:Go.Shelf.Ren:=⟨fun|230=>226|197=>91|118=>254|165=>82|166=>83|168=>255|270=>256|167=>257|169=>84|260=>118|240=>103|241=>104|242=>281|276=>128|277=>129|278=>302|n=>n,fun|107=>286|9=>9|72=>148|0=>0|4=>4|3=>3|21=>21|105=>163|76=>152|5=>5|75=>151|70=>145|20=>20|37=>146|127=>175|119=>211|46=>165|139=>214|138=>213|164=>191|51=>187|80=>154|n=>n,fun|3=>2|4=>3|n=>n⟩
theorem Tryz.lays230:Go.Proofs.Lays.n230 prog lays230_ren:=⟨zK,zk func254,zk func82,zk func83,zk func257,zk func255,zk func84,zk func91,zk func226,zk func103,zk func104,zk func281,
 zk func118,zk func256,zk func128,zk func129,zk func302,underlying0,isAgg0,sizeOf0,zeroValue0,underlying3,isAgg3,sizeOf3,
 zeroValue3,underlying4,isAgg4,sizeOf4,zeroValue4,underlying5,isAgg5,sizeOf5,zeroValue5,underlying9,isAgg9,sizeOf9,
 zeroValue9,underlying20,isAgg20,sizeOf20,zeroValue20,underlying21,isAgg21,sizeOf21,zeroValue21,underlying146,isAgg146,sizeOf146,
 zeroValue146,underlying165,isAgg165,sizeOf165,zeroValue165,underlying187,isAgg187,sizeOf187,zeroValue187,underlying145,isAgg145,sizeOf145,
 zeroValue145,underlying148,isAgg148,sizeOf148,zeroValue148,underlying151,isAgg151,sizeOf151,zeroValue151,underlying152,isAgg152,sizeOf152,
 zeroValue152,underlying163,isAgg163,sizeOf163,zeroValue163,underlying286,isAgg286,sizeOf286,zeroValue286,underlying211,isAgg211,sizeOf211,
 underlying175,isAgg175,sizeOf175,zeroValue175,underlying213,isAgg213,sizeOf213,zeroValue213,underlying214,isAgg214,sizeOf214,zeroValue214,
 underlying191,isAgg191,sizeOf191,zeroValue191,zK,zK⟩
theorem Tryz.Builder_Extra_230:Builder.Extra prog lays230_ren:={
 sizeBuilder:=zK
 liesBuilder:=zK
 t5:=underlying5
 a5:=isAgg5
 z5:=sizeOf5
 v5:=zeroValue5
 infoByte:=zK
 cellsByte:=zK
 sizeByte:=zK
 neB5:=by decide }
open Go.RowKit Go.Lib in
theorem Tryz.strings_Map_runes (g:Nat)(lb:Array Value)(eg:∀ args w,(callFunc g args).run prog w = .ok (.enter g args) w)(f:Int→Int)(s:ByteArray)(w:World)(hs:s.size < 35184372088832)(hf:MapAtRunes prog g lb f w)(hnn:∀ x:Nat,x ≤ 1114111→0 ≤ f x∧f x ≤ 2147483647)(hT:Lib.Utf8Tabs 2 3 w) :
    Calls prog 226 #[.func (.func g) #[] lb,.string s] w fun e w'=>e = .returned (.string ⟨(Lib.mapD f s.data.toList).toArray⟩)∧Below w.heap.size w w':=Any.strings_Map_runes lays230 Builder_Extra_230 g lb eg f s w hs hf hnn hT
def Tryz.lays110_ren:Go.Shelf.Ren:=⟨fun|110=>230|109=>260|n=>n,fun|31=>32|9=>9|4=>4|3=>3|0=>0|n=>n,fun|n=>n⟩
theorem Tryz.lays110:Go.Proofs.Lays.n110 prog lays110_ren:=⟨zK,zk func260,zk func230,underlying0,isAgg0,sizeOf0,zeroValue0,underlying3,isAgg3,sizeOf3,zeroValue3,underlying4,
 isAgg4,sizeOf4,zeroValue4,underlying9,isAgg9,sizeOf9,zeroValue9,underlying32,isAgg32,sizeOf32,zeroValue32⟩
open Go.Lib in
theorem Tryz.slices_Contains_string (b off n c:Nat)(zs:List ByteArray)(x:ByteArray)(w:World)(hz:n ≤ zs.length)(hbig:n ≤ 9223372036854775807)(hc:∀ j,j < zs.length→w.cell? ⟨b,off + j,none⟩ = some (.string (zs.getD j ByteArray.empty))) :
    Calls prog 230 #[.slice (some ⟨b,off,none⟩) n c,.string x] w fun e w'=>e = .returned (.bool (Lib.containsS (zs.take n) x))∧w' = w:=Any.slices_Contains_string lays110 b off n c zs x w hz hbig hc
def Tryz.laysSlH10_f242_ren:Go.Shelf.Ren:=⟨fun|10=>242|6=>165|n=>n,fun|22=>32|23=>9|25=>142|3=>3|4=>4|0=>0|n=>n,fun|n=>n⟩
theorem Tryz.laysSlH10_f242:Go.Proofs.SlLaysH.n10 prog laysSlH10_f242_ren:={
 mixed:=zK
 f6:=⟨f165.name,by decide,zk func165⟩
 f10:=⟨f242.name,by decide,zk func242⟩
 t0:=underlying0
 a0:=isAgg0
 z0:=sizeOf0
 v0:=zeroValue0
 t3:=underlying3
 a3:=isAgg3
 z3:=sizeOf3
 v3:=zeroValue3
 t4:=underlying4
 a4:=isAgg4
 z4:=sizeOf4
 v4:=zeroValue4
 t22:=underlying32
 a22:=isAgg32
 z22:=sizeOf32
 v22:=zeroValue32
 a23:=isAgg9
 z23:=sizeOf9
 t25:=underlying142
 a25:=isAgg142
 z25:=sizeOf142
 v25:=zeroValue142 }
open Go.RowKit Go.Lib Go.Sort in
theorem Tryz.slices_DeleteFunc {α:Type} [Inhabited α] (enc:α→Value)(hO:OneCell enc)(p:α→Bool)(g:Nat)(lb:Array Value)(eg:∀ args w,(callFunc g args).run prog w = .ok (.enter g args) w)(zr:α)(v23:∀ w,(zeroValue 9).run prog w = .ok (enc zr) w)(blk off cap:Nat)(d:Array α)(w:World)(hp:PredAt prog g lb enc p w)(hpo:PredOver prog g lb enc p blk off d.size w)(hH:Holds enc w blk off d)(hsz:d.size ≤ 9223372036854775807)(hcap:d.size ≤ cap) :
    Calls prog 242 #[.slice (some ⟨blk,off,none⟩) d.size cap,.func (.func g) #[] lb] w fun e w'=>e = .returned (.slice (some ⟨blk,off,none⟩) (d.toList.filter fun x=>!p x).length cap)∧∃ q,w' = putRow enc (Sort.ahead w q) blk off ((d.toList.filter fun x=>!p x) ++ List.replicate (d.size - (d.toList.filter fun x=>!p x).length) zr).toArray:=AnyE.slices_DeleteFunc laysSlH10_f242 enc hO p g lb eg zr v23 blk off cap d w hp hpo hH hsz hcap
end Go.Proofs
