/- The library contracts of the kit, laid for this seat (print of the kit, shortened by a program). -/
import Derived.Shelf.Strings.Builder1
import Derived.Shelf.Strings.Builder2
import Derived.Shelf.Strings.OnBuilder
import Derived.Shelf.Strings.Trim
import Derived.Shelf.Small.Utf8
import Derived.Shelf.Small.Strs
import Derived.Shelf.Small.Wraps
import Derived.Shelf.Strings.BuilderF
import Derived.Shelf.Strings.BuilderK
import Derived.Shelf.Strings.BuilderRune
import Derived.Shelf.Strconv.Atoi
import Derived.Shelf.Strconv.Itoa0
import Derived.Shelf.Strconv.Itoa1
import Derived.Shelf.LaysM
import Derived.Shelf.Strconv.Itoa2
import Derived.Shelf.Strconv.Itoa3
import Derived.Shelf.Strconv.AtoiErrFast
import Derived.Shelf.Strconv.ParseIntEmpty
import Derived.Shelf.Strconv.AtoiFail
import Derived.Shelf.Strconv.Clone
import Derived.Shelf.Strconv.SyntaxError
import Derived.Shelf.LaysC
import Derived.Shelf.Strconv.ToError
import Derived.Shelf.Strconv.Lower
import Derived.Shelf.Strconv.ParseUint10
import Derived.Shelf.Strconv.ParseUint10Empty
import Derived.Shelf.Strconv.ParseUint10Any
import Derived.Shelf.Strconv.ParseInt10
import Derived.Shelf.Strconv.AtoiLong
import Derived.Shelf.Strconv.AtoiInnerAll
import Derived.Shelf.Strconv.RangeError
import Derived.Shelf.Strconv.ToErrorRange
import Derived.Shelf.Strconv.AtoiAll
import Derived.Shelf.Strconv.ErrVarAll
import Derived.Shelf.Strings.Search1
import Derived.Shelf.Strings.Search2
import Derived.Shelf.Strings.Search3
import Derived.Shelf.Strings.Cut
import Derived.Shelf.Strings.Count
import Derived.Shelf.Strings.Shaped
import Derived.Shelf.Strings.Prefix
import Derived.Shelf.Strings.Split
import Derived.Shelf.Strings.Replace
import Derived.Shelf.Strings.SplitShaped
import Derived.Shelf.Unicode.Latin
import Derived.Shelf.Strings.Runes
import Derived.Shelf.Strings.IndexAny
import Derived.Shelf.Strings.AsciiSet
import Derived.Shelf.Strings.IndexAnyAll
import Derived.Shelf.Unicode.DecodeSlow
import Derived.Shelf.Unicode.DecodeAny
import Derived.Shelf.Strings.FieldsFuncAny
import Derived.Shelf.Unicode.CaseLookup
import Derived.Shelf.Unicode.CaseConvert
import Derived.Shelf.Unicode.CaseTo
import Derived.Shelf.Unicode.CaseLaid
import Derived.Shelf.Strings.MapAny
import Derived.Shelf.Strings.CaseAny
import Derived.Shelf.Slices.Turned
import Derived.Ground.Names2Prog
import Derived.Shelf.Slices.ReverseS
import Derived.Shelf.Slices.Clone
import Derived.Shelf.Slices.Cells
import Derived.Ground.SlgnProg
import Derived.Shelf.SlicesE.Clone
import Derived.Ground.SlgfProg
import Derived.Shelf.SlicesE.IndexFunc
import Derived.Shelf.SlicesE.DeleteFunc
import Derived.Test.YtecbmndgpepkcaaGreatDoorProg
namespace Go.Proofs
open Go.Shelf
open Tryz
set_option maxRecDepth 10000
theorem zk{α:Type}{a:Option α}{x y:α}(h:a=some x)(e:x=y:=by kernel_rfl):a=some y:=h.trans (congrArg some e)
theorem zK{p:Prop}(h:p:=by kernel_rfl):p:=h
def Tryz.lays159_ren:Go.Shelf.Ren:=⟨fun|159=>247|165=>84|166=>85|167=>258|169=>86|230=>227|204=>272|240=>106|241=>107|197=>110|118=>255|168=>256|270=>257|262=>299|276=>135|277=>136|260=>140|242=>282|313=>313|278=>303|274=>315|275=>316|n=>n,fun|9=>9|4=>4|3=>3|5=>5|72=>156|0=>0|76=>160|75=>159|107=>287|70=>153|20=>20|37=>154|127=>173|21=>21|105=>174|164=>201|162=>362|203=>360|119=>248|46=>209|139=>251|138=>250|51=>207|160=>367|208=>373|206=>371|80=>162|n=>n,fun|13=>8|3=>2|4=>3|n=>n⟩
theorem Tryz.lays159:Go.Proofs.Lays.n159 prog lays159_ren:=⟨zK,zk func255,zk func247,zk func84,zk func85,zk func258,zk func256,zk func86,zk func110,zk func272,zk func227,zk func106,
 zk func107,zk func282,zk func140,zk func299,zk func257,zk func315,zk func316,zk func135,zk func136,zk func303,zk func313,underlying0,
 isAgg0,sizeOf0,zeroValue0,underlying3,isAgg3,sizeOf3,zeroValue3,underlying4,isAgg4,sizeOf4,zeroValue4,underlying5,
 isAgg5,sizeOf5,zeroValue5,underlying9,isAgg9,sizeOf9,zeroValue9,underlying20,isAgg20,sizeOf20,zeroValue20,underlying21,
 isAgg21,sizeOf21,zeroValue21,underlying154,isAgg154,sizeOf154,zeroValue154,underlying209,isAgg209,sizeOf209,zeroValue209,underlying207,
 isAgg207,sizeOf207,zeroValue207,underlying153,isAgg153,sizeOf153,zeroValue153,underlying156,isAgg156,sizeOf156,zeroValue156,underlying159,
 isAgg159,sizeOf159,zeroValue159,underlying160,isAgg160,sizeOf160,zeroValue160,underlying174,isAgg174,sizeOf174,zeroValue174,underlying287,
 isAgg287,sizeOf287,zeroValue287,underlying248,isAgg248,sizeOf248,underlying173,isAgg173,sizeOf173,zeroValue173,underlying250,isAgg250,
 sizeOf250,zeroValue250,underlying251,isAgg251,sizeOf251,zeroValue251,underlying367,isAgg367,sizeOf367,zeroValue367,underlying362,isAgg362,
 sizeOf362,zeroValue362,underlying201,isAgg201,sizeOf201,zeroValue201,underlying360,isAgg360,sizeOf360,zeroValue360,underlying371,isAgg371,
 sizeOf371,zeroValue371,underlying373,isAgg373,sizeOf373,zeroValue373,zK,zK,zK⟩
theorem Tryz.Builder_Extra_159:Builder.Extra prog lays159_ren:={
 sizeBuilder:=zK
 liesBuilder:=zK
 t5:=underlying5
 a5:=isAgg5
 z5:=sizeOf5
 v5:=zeroValue5
 infoByte:=zK
 cellsByte:=zK
 sizeByte:=zK
 neB5:=by decide }
open Go.RowKit in
theorem Tryz.strings_ToLower_ascii (s:ByteArray)(w:World)(hs:s.size ≤ 140737488355328)(hascii:∀ (j:Nat)(b:UInt8),s.data.toList[j]? = some b→b.toNat < 128) :
    Calls prog 247 #[.string s] w fun e w'=>e = .returned (.string ⟨(Lib.toLowerA s.data.toList).toArray⟩)∧Below w.heap.size w w':=Any.strings_ToLower_ascii lays159 Builder_Extra_159 s w hs hascii
def Tryz.lays156_ren:Go.Shelf.Ren:=⟨fun|156=>65|165=>84|166=>85|169=>86|240=>106|241=>107|276=>135|277=>136|n=>n,fun|31=>32|9=>9|3=>3|4=>4|0=>0|20=>20|72=>156|76=>160|70=>153|37=>154|75=>159|127=>173|164=>201|5=>5|80=>162|n=>n,fun|n=>n⟩
theorem Tryz.lays156:Go.Proofs.Lays.n156 prog lays156_ren:=⟨zK,zk func65,zk func84,zk func85,zk func86,zk func106,zk func107,zk func135,zk func136,underlying0,isAgg0,sizeOf0,
 zeroValue0,underlying3,isAgg3,sizeOf3,zeroValue3,underlying4,isAgg4,sizeOf4,zeroValue4,underlying9,isAgg9,sizeOf9,
 zeroValue9,underlying20,isAgg20,sizeOf20,zeroValue20,underlying32,isAgg32,sizeOf32,zeroValue32,underlying154,isAgg154,sizeOf154,
 zeroValue154,underlying153,isAgg153,sizeOf153,zeroValue153,underlying156,isAgg156,sizeOf156,zeroValue156,underlying159,isAgg159,sizeOf159,
 zeroValue159,underlying160,isAgg160,sizeOf160,zeroValue160,underlying173,isAgg173,sizeOf173,zeroValue173,underlying201,isAgg201,sizeOf201,
 zeroValue201⟩
theorem Tryz.Builder_Extra_156:Builder.Extra prog lays156_ren:={
 sizeBuilder:=zK
 liesBuilder:=zK
 t5:=underlying5
 a5:=isAgg5
 z5:=sizeOf5
 v5:=zeroValue5
 infoByte:=zK
 cellsByte:=zK
 sizeByte:=zK
 neB5:=by decide }
open Go.RowKit in
theorem Tryz.strings_Join_none (a:Option Addr)(c:Nat)(sep:ByteArray)(w:World) :
    Calls prog 65 #[.slice a 0 c,.string sep] w fun e w'=>e = .returned (.string ⟨#[]⟩)∧w' = w:=Any.strings_Join_none lays156 Builder_Extra_156 a c sep w
open Go.RowKit in
theorem Tryz.strings_Join (bk o c:Nat)(xs:List ByteArray)(sep:ByteArray)(w:World)(hcells:∀ (j:Nat) x,xs[j]? = some x→w.cell? ⟨bk,o + j,none⟩ = some (.string x))(hbk:bk < w.heap.size)(hN:xs.length ≤ 140737488355328)(hcap:xs.length ≤ c)(hlen:(Lib.join (xs.map (·.data.toList)) sep.data.toList).length ≤ 140737488355328) :
    Calls prog 65 #[.slice (some ⟨bk,o,none⟩) xs.length c,.string sep] w fun e w'=>e = .returned (.string ⟨(Lib.join (xs.map (·.data.toList)) sep.data.toList).toArray⟩)∧Below w.heap.size w w':=Any.strings_Join lays156 Builder_Extra_156 bk o c xs sep w hcells hbk hN hcap hlen
def Tryz.lays161_ren:Go.Shelf.Ren:=⟨fun|161=>264|231=>292|227=>236|233=>293|235=>294|228=>237|197=>110|151=>297|260=>140|152=>234|137=>131|119=>263|224=>178|225=>177|217=>175|266=>224|n=>n,fun|9=>9|4=>4|3=>3|5=>5|117=>302|116=>301|0=>0|124=>331|105=>174|21=>21|119=>248|46=>209|139=>251|138=>250|n=>n,fun|3=>2|4=>3|n=>n⟩
theorem Tryz.lays161:Go.Proofs.Lays.n161 prog lays161_ren:=⟨zK,zk func263,zk func131,zk func297,zk func234,zk func264,zk func110,zk func175,zk func178,zk func177,zk func236,zk func237,
 zk func292,zk func293,zk func294,zk func140,zk func224,underlying0,isAgg0,sizeOf0,zeroValue0,underlying3,isAgg3,sizeOf3,
 zeroValue3,underlying4,isAgg4,sizeOf4,zeroValue4,underlying5,isAgg5,sizeOf5,zeroValue5,underlying9,isAgg9,sizeOf9,
 zeroValue9,underlying21,isAgg21,sizeOf21,zeroValue21,underlying209,isAgg209,sizeOf209,zeroValue209,underlying174,isAgg174,sizeOf174,
 zeroValue174,underlying301,isAgg301,sizeOf301,underlying302,isAgg302,sizeOf302,zeroValue302,underlying248,isAgg248,sizeOf248,underlying331,
 isAgg331,sizeOf331,zeroValue331,underlying250,isAgg250,sizeOf250,zeroValue250,underlying251,isAgg251,sizeOf251,zeroValue251,zK,
 zK⟩
open Go.RowKit in
theorem Tryz.strings_TrimLeft_one (s:ByteArray)(c:UInt8)(hc:c.toNat < 128)(w:World) :
    Calls prog 264 #[.string s,.string ⟨#[c]⟩] w fun e w'=>e = .returned (.string ⟨(Lib.trimLeftB s.data.toList c).toArray⟩)∧w' = w:=Any.strings_TrimLeft_one lays161 s c hc w
def Tryz.lays162_ren:Go.Shelf.Ren:=⟨fun|162=>241|232=>266|227=>236|234=>267|236=>268|228=>237|271=>296|151=>297|120=>312|197=>110|152=>234|260=>140|137=>131|119=>263|224=>178|225=>177|217=>175|266=>224|n=>n,fun|9=>9|4=>4|3=>3|5=>5|117=>302|116=>301|0=>0|124=>331|21=>21|105=>174|46=>209|119=>248|139=>251|138=>250|n=>n,fun|3=>2|4=>3|n=>n⟩
theorem Tryz.lays162:Go.Proofs.Lays.n162 prog lays162_ren:=⟨zK,zk func263,zk func312,zk func131,zk func297,zk func234,zk func241,zk func110,zk func175,zk func178,zk func177,zk func236,
 zk func237,zk func266,zk func267,zk func268,zk func140,zk func224,zk func296,underlying0,isAgg0,sizeOf0,zeroValue0,underlying3,
 isAgg3,sizeOf3,zeroValue3,underlying4,isAgg4,sizeOf4,zeroValue4,underlying5,isAgg5,sizeOf5,zeroValue5,underlying9,
 isAgg9,sizeOf9,zeroValue9,underlying21,isAgg21,sizeOf21,zeroValue21,underlying209,isAgg209,sizeOf209,zeroValue209,underlying174,
 isAgg174,sizeOf174,zeroValue174,underlying301,isAgg301,sizeOf301,underlying302,isAgg302,sizeOf302,zeroValue302,underlying248,isAgg248,
 sizeOf248,underlying331,isAgg331,sizeOf331,zeroValue331,underlying250,isAgg250,sizeOf250,zeroValue250,underlying251,isAgg251,sizeOf251,
 zeroValue251,zK,zK⟩
def Tryz.lays106_ren:Go.Shelf.Ren:=⟨fun|106=>82|213=>104|265=>133|n=>n,fun|9=>9|3=>3|n=>n,fun|n=>n⟩
theorem Tryz.lays106:Go.Proofs.Lays.n106 prog lays106_ren:=⟨zK,zk func82,zk func104,zk func133,underlying3,isAgg3,sizeOf3,zeroValue3,underlying9,isAgg9,sizeOf9,zeroValue9⟩
open Go.RowKit in
theorem Tryz.strings_Compare (a b:ByteArray)(w:World) :
    Calls prog 82 #[.string a,.string b] w fun e w'=>e = .returned (.int .i64 (Lib.compareBytes a.data.toList b.data.toList))∧w' = w:=Any.strings_Compare lays106 a b w
def Tryz.lays137_ren:Go.Shelf.Ren:=⟨fun|137=>131|217=>175|266=>224|n=>n,fun|9=>9|5=>5|3=>3|n=>n,fun|n=>n⟩
theorem Tryz.lays137:Go.Proofs.Lays.n137 prog lays137_ren:=⟨zK,zk func131,zk func175,zk func224,underlying3,isAgg3,sizeOf3,zeroValue3,underlying5,isAgg5,sizeOf5,zeroValue5,
 underlying9,isAgg9,sizeOf9,zeroValue9⟩
open Go.RowKit in
theorem Tryz.strings_IndexByte (s:ByteArray)(c:Int)(w:World) :
    Calls prog 131 #[.string s,.int .u8 c] w fun e w'=>e = .returned (.int .i64 (Lib.indexByte s.data.toList c.toNat.toUInt8))∧w' = w:=Any.strings_IndexByte lays137 s c w
def Tryz.lays104_ren:Go.Shelf.Ren:=⟨fun|104=>265|211=>295|207=>311|n=>n,fun|9=>9|4=>4|24=>60|3=>3|n=>n,fun|n=>n⟩
theorem Tryz.lays104:Go.Proofs.Lays.n104 prog lays104_ren:=⟨zK,zk func265,zk func311,zk func295,underlying3,isAgg3,sizeOf3,zeroValue3,underlying4,isAgg4,sizeOf4,zeroValue4,
 underlying9,isAgg9,sizeOf9,zeroValue9,underlying60,isAgg60,sizeOf60,zeroValue60⟩
open Go.RowKit in
theorem Tryz.strings_CutSuffix (s p:ByteArray)(w:World)(hs:s.size ≤ 9223372036854775807) :
    Calls prog 265 #[.string s,.string p] w fun e w'=>e = .returned (.tuple #[.string ⟨(Lib.trimSuffix s.data.toList p.data.toList).toArray⟩,.bool (Lib.hasSuffix s.data.toList p.data.toList)])∧w' = w:=Any.strings_CutSuffix lays104 s p w hs
def Tryz.laysM171_ren:Go.Shelf.Ren:=⟨fun|171=>48|243=>67|246=>88|283=>111|284=>112|285=>113|286=>114|129=>142|317=>141|318=>143|319=>144|320=>145|337=>180|338=>181|n=>n,fun|3=>3|9=>9|2=>2|4=>4|171=>176|0=>0|53=>177|37=>154|5=>5|173=>180|212=>206|51=>207|20=>20|213=>208|46=>209|232=>283|233=>284|n=>n,fun|17=>1|18=>4|19=>5|n=>n⟩
theorem Tryz.laysM171:Go.Proofs.LaysM.n171 prog laysM171_ren:={
 mixed:=zK
 f129:=zk func142
 f171:=zk func48
 f243:=zk func67
 f246:=zk func88
 f283:=zk func111
 f284:=zk func112
 f285:=zk func113
 f286:=zk func114
 f317:=zk func141
 f318:=zk func143
 f319:=zk func144
 f320:=zk func145
 f337:=zk func180
 f338:=zk func181
 t0:=underlying0
 a0:=isAgg0
 z0:=sizeOf0
 v0:=zeroValue0
 t2:=underlying2
 a2:=isAgg2
 z2:=sizeOf2
 v2:=zeroValue2
 t3:=underlying3
 a3:=isAgg3
 z3:=sizeOf3
 v3:=zeroValue3
 t4:=underlying4
 a4:=isAgg4
 z4:=sizeOf4
 v4:=zeroValue4
 t5:=underlying5
 a5:=isAgg5
 z5:=sizeOf5
 v5:=zeroValue5
 t9:=underlying9
 a9:=isAgg9
 z9:=sizeOf9
 v9:=zeroValue9
 t20:=underlying20
 a20:=isAgg20
 z20:=sizeOf20
 v20:=zeroValue20
 t37:=underlying154
 a37:=isAgg154
 z37:=sizeOf154
 v37:=zeroValue154
 t46:=underlying209
 a46:=isAgg209
 z46:=sizeOf209
 v46:=zeroValue209
 t51:=underlying207
 a51:=isAgg207
 z51:=sizeOf207
 v51:=zeroValue207
 t53:=underlying177
 a53:=isAgg177
 z53:=sizeOf177
 v53:=zeroValue177
 t171:=underlying176
 a171:=isAgg176
 z171:=sizeOf176
 v171:=zeroValue176
 t173:=underlying180
 a173:=isAgg180
 z173:=sizeOf180
 v173:=zeroValue180
 t212:=underlying206
 a212:=isAgg206
 z212:=sizeOf206
 v212:=zeroValue206
 t213:=underlying208
 a213:=isAgg208
 z213:=sizeOf208
 t232:=underlying283
 a232:=isAgg283
 z232:=sizeOf283
 v232:=zeroValue283
 t233:=underlying284
 a233:=isAgg284
 z233:=sizeOf284
 v233:=zeroValue284
 g17:=zK
 g18:=zK
 g19:=zK
 i0:=zK
 i2:=zK
 i3:=zK
 i4:=zK
 i5:=zK
 i9:=zK
 i20:=zK
 i37:=zK
 i46:=zK
 i51:=zK
 i53:=zK
 i171:=zK
 i173:=zK
 i212:=zK
 i232:=zK
 i233:=zK
 m17:=zK
 m18:=zK
 m19:=zK }
open Go.RowKit Go.Sort Go.Lib in
theorem Tryz.strconv_Itoa (n:Int)(h0:-9223372036854775808 ≤ n)(h1:n ≤ 9223372036854775807)(w:World)(htab:Lib.TabIs prog w "internal/strconv.uint64pow10" .u64 Lib.pow10Tab) :
    Calls prog 48 #[.int .i64 n] w fun e w'=>e = .returned (.string ⟨(Lib.itoa n).toArray⟩)∧∃ k os,w' = grow (w.drewN k) os:=Any.strconv_Itoa laysM171 n h0 h1 w htab
def Tryz.laysC245_ren:Go.Shelf.Ren:=⟨fun|245=>249|279=>275|280=>276|281=>277|282=>278|316=>300|171=>48|205=>301|243=>67|246=>88|283=>111|284=>112|285=>113|286=>114|129=>142|317=>141|318=>143|319=>144|320=>145|337=>180|338=>181|n=>n,fun|9=>9|3=>3|75=>159|167=>335|4=>4|168=>337|210=>352|37=>154|0=>0|127=>173|145=>365|143=>363|2=>2|171=>176|53=>177|5=>5|173=>180|212=>206|51=>207|20=>20|213=>208|46=>209|232=>283|233=>284|80=>162|n=>n,fun|15=>6|16=>7|17=>1|18=>4|19=>5|n=>n⟩
theorem Tryz.laysC245:Go.Proofs.LaysC.n245 prog laysC245_ren:={
 mixed:=zK
 f129:=zk func142
 f171:=zk func48
 f205:=zk func301
 f243:=zk func67
 f245:=zk func249
 f246:=zk func88
 f279:=zk func275
 f280:=zk func276
 f281:=zk func277
 f282:=zk func278
 f283:=zk func111
 f284:=zk func112
 f285:=zk func113
 f286:=zk func114
 f316:=zk func300
 f317:=zk func141
 f318:=zk func143
 f319:=zk func144
 f320:=zk func145
 f337:=zk func180
 f338:=zk func181
 t0:=underlying0
 a0:=isAgg0
 z0:=sizeOf0
 v0:=zeroValue0
 t2:=underlying2
 a2:=isAgg2
 z2:=sizeOf2
 v2:=zeroValue2
 t3:=underlying3
 a3:=isAgg3
 z3:=sizeOf3
 v3:=zeroValue3
 t4:=underlying4
 a4:=isAgg4
 z4:=sizeOf4
 v4:=zeroValue4
 t5:=underlying5
 a5:=isAgg5
 z5:=sizeOf5
 v5:=zeroValue5
 t9:=underlying9
 a9:=isAgg9
 z9:=sizeOf9
 v9:=zeroValue9
 t20:=underlying20
 a20:=isAgg20
 z20:=sizeOf20
 v20:=zeroValue20
 t37:=underlying154
 a37:=isAgg154
 z37:=sizeOf154
 v37:=zeroValue154
 t46:=underlying209
 a46:=isAgg209
 z46:=sizeOf209
 v46:=zeroValue209
 t51:=underlying207
 a51:=isAgg207
 z51:=sizeOf207
 v51:=zeroValue207
 t53:=underlying177
 a53:=isAgg177
 z53:=sizeOf177
 v53:=zeroValue177
 t75:=underlying159
 a75:=isAgg159
 z75:=sizeOf159
 v75:=zeroValue159
 t127:=underlying173
 a127:=isAgg173
 z127:=sizeOf173
 v127:=zeroValue173
 t143:=underlying363
 a143:=isAgg363
 z143:=sizeOf363
 v143:=zeroValue363
 t145:=underlying365
 a145:=isAgg365
 z145:=sizeOf365
 v145:=zeroValue365
 t167:=underlying335
 a167:=isAgg335
 z167:=sizeOf335
 v167:=zeroValue335
 t168:=underlying337
 a168:=isAgg337
 z168:=sizeOf337
 v168:=zeroValue337
 t171:=underlying176
 a171:=isAgg176
 z171:=sizeOf176
 v171:=zeroValue176
 t173:=underlying180
 a173:=isAgg180
 z173:=sizeOf180
 v173:=zeroValue180
 t210:=underlying352
 a210:=isAgg352
 z210:=sizeOf352
 v210:=zeroValue352
 t212:=underlying206
 a212:=isAgg206
 z212:=sizeOf206
 v212:=zeroValue206
 t213:=underlying208
 a213:=isAgg208
 z213:=sizeOf208
 t232:=underlying283
 a232:=isAgg283
 z232:=sizeOf283
 v232:=zeroValue283
 t233:=underlying284
 a233:=isAgg284
 z233:=sizeOf284
 v233:=zeroValue284
 g15:=zK
 g16:=zK
 g17:=zK
 g18:=zK
 g19:=zK
 t80:=underlying162
 a80:=isAgg162
 z80:=sizeOf162
 v80:=zeroValue162
 i0:=zK
 i2:=zK
 i3:=zK
 i4:=zK
 i5:=zK
 i9:=zK
 i20:=zK
 i37:=zK
 i46:=zK
 i51:=zK
 i53:=zK
 i75:=zK
 i80:=zK
 i127:=zK
 i143:=zK
 i145:=zK
 i167:=zK
 i168:=zK
 i171:=zK
 i173:=zK
 i210:=zK
 i212:=zK
 i232:=zK
 i233:=zK
 m15:=zK
 m16:=zK
 m17:=zK
 m18:=zK
 m19:=zK
 c0:=zK
 c2:=zK
 c3:=zK
 c4:=zK
 c5:=zK
 c9:=zK
 c20:=zK
 c37:=zK
 c46:=zK
 c51:=zK
 c53:=zK
 c75:=zK
 c80:=zK
 c127:=zK
 c143:=zK
 c145:=zK
 c167:=zK
 c168:=zK
 c171:=zK
 c173:=zK
 c210:=zK
 c212:=zK
 c213:=zK
 c232:=zK
 c233:=zK }
open Go.RowKit in
theorem Tryz.strconv_toError_syntax (fn s:ByteArray)(base bits:Int)(ev:Value)(w:World)(hlim:s.size ≤ 281474976710656)(hv:w.cell? ⟨6,0,none⟩ = some ev)(hev:ev = .nilIface ∨ ∃ te pe,ev = .iface te pe) :
    Calls prog 249 #[.string fn,.string s,.int .i64 base,.int .i64 bits,.iface 335 (.int .i64 2)] w fun e w'=>∃ N,e = .returned (.iface 337 (.pointer (some ⟨N,0,none⟩)))∧w.heap.size ≤ N∧w'.heap[N]? = some (.cells #[.string fn,.string s,ev] 352 (0,0))∧Below w.heap.size w w':=Any.strconv_toError_syntax laysC245 fn s base bits ev w hlim hv hev
open Go.RowKit in
theorem Tryz.strconv_toError_range (fn s:ByteArray)(base bits:Int)(ev:Value)(w:World)(hlim:s.size ≤ 281474976710656)(hv:w.cell? ⟨7,0,none⟩ = some ev)(hev:ev = .nilIface ∨ ∃ te pe,ev = .iface te pe) :
    Calls prog 249 #[.string fn,.string s,.int .i64 base,.int .i64 bits,.iface 335 (.int .i64 1)] w fun e w'=>∃ N,e = .returned (.iface 337 (.pointer (some ⟨N,0,none⟩)))∧w.heap.size ≤ N∧w'.heap[N]? = some (.cells #[.string fn,.string s,ev] 352 (0,0))∧Below w.heap.size w w':=Any.strconv_toError_range laysC245 fn s base bits ev w hlim hv hev
def Tryz.laysC172_ren:Go.Shelf.Ren:=⟨fun|172=>223|244=>254|245=>249|247=>281|279=>275|280=>276|281=>277|282=>278|287=>248|316=>300|171=>48|205=>301|321=>273|322=>274|243=>67|246=>88|283=>111|284=>112|285=>113|286=>114|129=>142|317=>141|318=>143|319=>144|320=>145|337=>180|338=>181|n=>n,fun|9=>9|3=>3|75=>159|76=>160|4=>4|5=>5|167=>335|37=>154|0=>0|85=>340|2=>2|168=>337|53=>177|175=>277|46=>209|210=>352|127=>173|145=>365|143=>363|21=>21|171=>176|173=>180|212=>206|51=>207|20=>20|213=>208|232=>283|233=>284|80=>162|n=>n,fun|15=>6|16=>7|17=>1|18=>4|19=>5|n=>n⟩
theorem Tryz.laysC172:Go.Proofs.LaysC.n172 prog laysC172_ren:={
 mixed:=zK
 f129:=zk func142
 f171:=zk func48
 f172:=zk func223
 f205:=zk func301
 f243:=zk func67
 f244:=zk func254
 f245:=zk func249
 f246:=zk func88
 f247:=zk func281
 f279:=zk func275
 f280:=zk func276
 f281:=zk func277
 f282:=zk func278
 f283:=zk func111
 f284:=zk func112
 f285:=zk func113
 f286:=zk func114
 f287:=zk func248
 f316:=zk func300
 f317:=zk func141
 f318:=zk func143
 f319:=zk func144
 f320:=zk func145
 f321:=zk func273
 f322:=zk func274
 f337:=zk func180
 f338:=zk func181
 t0:=underlying0
 a0:=isAgg0
 z0:=sizeOf0
 v0:=zeroValue0
 t2:=underlying2
 a2:=isAgg2
 z2:=sizeOf2
 v2:=zeroValue2
 t3:=underlying3
 a3:=isAgg3
 z3:=sizeOf3
 v3:=zeroValue3
 t4:=underlying4
 a4:=isAgg4
 z4:=sizeOf4
 v4:=zeroValue4
 t5:=underlying5
 a5:=isAgg5
 z5:=sizeOf5
 v5:=zeroValue5
 t9:=underlying9
 a9:=isAgg9
 z9:=sizeOf9
 v9:=zeroValue9
 t20:=underlying20
 a20:=isAgg20
 z20:=sizeOf20
 v20:=zeroValue20
 t21:=underlying21
 a21:=isAgg21
 z21:=sizeOf21
 v21:=zeroValue21
 t37:=underlying154
 a37:=isAgg154
 z37:=sizeOf154
 v37:=zeroValue154
 t46:=underlying209
 a46:=isAgg209
 z46:=sizeOf209
 v46:=zeroValue209
 t51:=underlying207
 a51:=isAgg207
 z51:=sizeOf207
 v51:=zeroValue207
 t53:=underlying177
 a53:=isAgg177
 z53:=sizeOf177
 v53:=zeroValue177
 t75:=underlying159
 a75:=isAgg159
 z75:=sizeOf159
 v75:=zeroValue159
 t76:=underlying160
 a76:=isAgg160
 z76:=sizeOf160
 v76:=zeroValue160
 t85:=underlying340
 a85:=isAgg340
 z85:=sizeOf340
 v85:=zeroValue340
 t127:=underlying173
 a127:=isAgg173
 z127:=sizeOf173
 v127:=zeroValue173
 t143:=underlying363
 a143:=isAgg363
 z143:=sizeOf363
 v143:=zeroValue363
 t145:=underlying365
 a145:=isAgg365
 z145:=sizeOf365
 v145:=zeroValue365
 t167:=underlying335
 a167:=isAgg335
 z167:=sizeOf335
 v167:=zeroValue335
 t168:=underlying337
 a168:=isAgg337
 z168:=sizeOf337
 v168:=zeroValue337
 t171:=underlying176
 a171:=isAgg176
 z171:=sizeOf176
 v171:=zeroValue176
 t173:=underlying180
 a173:=isAgg180
 z173:=sizeOf180
 v173:=zeroValue180
 t175:=underlying277
 a175:=isAgg277
 z175:=sizeOf277
 v175:=zeroValue277
 t210:=underlying352
 a210:=isAgg352
 z210:=sizeOf352
 v210:=zeroValue352
 t212:=underlying206
 a212:=isAgg206
 z212:=sizeOf206
 v212:=zeroValue206
 t213:=underlying208
 a213:=isAgg208
 z213:=sizeOf208
 t232:=underlying283
 a232:=isAgg283
 z232:=sizeOf283
 v232:=zeroValue283
 t233:=underlying284
 a233:=isAgg284
 z233:=sizeOf284
 v233:=zeroValue284
 g15:=zK
 g16:=zK
 g17:=zK
 g18:=zK
 g19:=zK
 t80:=underlying162
 a80:=isAgg162
 z80:=sizeOf162
 v80:=zeroValue162
 i0:=zK
 i2:=zK
 i3:=zK
 i4:=zK
 i5:=zK
 i9:=zK
 i20:=zK
 i21:=zK
 i37:=zK
 i46:=zK
 i51:=zK
 i53:=zK
 i75:=zK
 i76:=zK
 i80:=zK
 i85:=zK
 i127:=zK
 i143:=zK
 i145:=zK
 i167:=zK
 i168:=zK
 i171:=zK
 i173:=zK
 i175:=zK
 i210:=zK
 i212:=zK
 i232:=zK
 i233:=zK
 m15:=zK
 m16:=zK
 m17:=zK
 m18:=zK
 m19:=zK
 c0:=zK
 c2:=zK
 c3:=zK
 c4:=zK
 c5:=zK
 c9:=zK
 c20:=zK
 c21:=zK
 c37:=zK
 c46:=zK
 c51:=zK
 c53:=zK
 c75:=zK
 c76:=zK
 c80:=zK
 c85:=zK
 c127:=zK
 c143:=zK
 c145:=zK
 c167:=zK
 c168:=zK
 c171:=zK
 c173:=zK
 c175:=zK
 c210:=zK
 c212:=zK
 c213:=zK
 c232:=zK
 c233:=zK }
open Go.RowKit in
theorem Tryz.strconv_Atoi_ok (s:ByteArray)(hmax:s.size ≤ 9223372036854775806)(v:Int)(h:Lib.atoiAll s.data.toList = .ok v)(w:World) :
    Calls prog 223 #[.string s] w fun e w'=>e = .returned (.tuple #[.int .i64 v,.nilIface])∧(w' = w ∨ ∃ t,w' = Lib.bytesWorld w 5 t):=Any.strconv_Atoi_ok laysC172 s hmax v h w
open Go.RowKit in
theorem Tryz.strconv_Atoi_range_var (s:ByteArray)(hlim:s.size ≤ 281474976710656)(h:Lib.atoiAll s.data.toList = .range)(tp:TypeId)(p:Value)(w:World)(hvar:w.var? prog "strconv.ErrRange" = some #[.iface tp p]) :
    Calls prog 223 #[.string s] w fun e w'=>∃ N,e = .returned (.tuple #[.int .i64 (Lib.atoiSat s.data.toList),.iface 337 (.pointer (some ⟨N,0,none⟩))])∧w.heap.size ≤ N∧w'.heap[N]? = some (.cells #[.string ⟨#[65,116,111,105]⟩,.string s,.iface tp p] 352 (0,0))∧Below w.heap.size w w':=Any.strconv_Atoi_range_var laysC172 s hlim h tp p w hvar
def Tryz.lays144_ren:Go.Shelf.Ren:=⟨fun|144=>102|143=>109|219=>139|217=>175|225=>177|224=>178|267=>179|266=>224|314=>225|n=>n,fun|9=>9|4=>4|3=>3|5=>5|46=>209|146=>281|51=>207|n=>n,fun|1=>0|n=>n⟩
theorem Tryz.lays144:Go.Proofs.Lays.n144 prog lays144_ren:=⟨zK,zk func109,zk func102,zk func175,zk func139,zk func178,zk func177,zk func224,zk func179,zk func225,underlying3,isAgg3,
 sizeOf3,zeroValue3,underlying4,isAgg4,sizeOf4,zeroValue4,underlying5,isAgg5,sizeOf5,zeroValue5,underlying9,isAgg9,
 sizeOf9,zeroValue9,underlying209,isAgg209,sizeOf209,zeroValue209,underlying207,isAgg207,sizeOf207,zeroValue207,underlying281,isAgg281,
 sizeOf281,zeroValue281,zK⟩
open Go.RowKit Go.Lib in
theorem Tryz.strings_Contains_one (s:ByteArray)(c:UInt8)(w:World) :
    Calls prog 102 #[.string s,.string ⟨#[c]⟩] w fun e w'=>e = .returned (.bool (decide (0 ≤ Lib.indexByte s.data.toList c)))∧w' = w:=Any.strings_Contains_one lays144 s c w
def Tryz.lays145_ren:Go.Shelf.Ren:=⟨fun|145=>154|220=>187|219=>139|217=>175|225=>177|224=>178|267=>179|266=>224|314=>225|n=>n,fun|9=>9|4=>4|59=>219|3=>3|5=>5|46=>209|146=>281|51=>207|n=>n,fun|1=>0|n=>n⟩
theorem Tryz.lays145:Go.Proofs.Lays.n145 prog lays145_ren:=⟨zK,zk func154,zk func175,zk func139,zk func187,zk func178,zk func177,zk func224,zk func179,zk func225,underlying3,isAgg3,
 sizeOf3,zeroValue3,underlying4,isAgg4,sizeOf4,zeroValue4,underlying5,isAgg5,sizeOf5,zeroValue5,underlying9,isAgg9,
 sizeOf9,zeroValue9,underlying209,isAgg209,sizeOf209,zeroValue209,underlying207,isAgg207,sizeOf207,zeroValue207,underlying219,isAgg219,
 sizeOf219,zeroValue219,underlying281,isAgg281,sizeOf281,zeroValue281,zK⟩
open Go.RowKit Go.Lib in
theorem Tryz.strings_Cut (s sep:ByteArray)(m:Int)(w:World)(hs:s.size < 4294967281)(hm:w.cell? ⟨0,0,none⟩ = some (.int .i64 m)) :
    Calls prog 154 #[.string s,.string sep] w fun e w'=>e = .returned (.tuple #[.string ⟨(Lib.cut s.data.toList sep.data.toList).1.toArray⟩,.string ⟨(Lib.cut s.data.toList sep.data.toList).2.1.toArray⟩,.bool (Lib.cut s.data.toList sep.data.toList).2.2])∧∃ n,w' = w.drewN n:=Any.strings_Cut lays145 s sep m w hs hm
def Tryz.lays99_ren:Go.Shelf.Ren:=⟨fun|99=>105|206=>134|n=>n,fun|9=>9|4=>4|3=>3|n=>n,fun|n=>n⟩
theorem Tryz.lays99:Go.Proofs.Lays.n99 prog lays99_ren:=⟨zK,zk func105,zk func134,underlying3,isAgg3,sizeOf3,zeroValue3,underlying4,isAgg4,sizeOf4,zeroValue4,underlying9,
 isAgg9,sizeOf9,zeroValue9⟩
open Go.RowKit Go.Lib in
theorem Tryz.strings_HasPrefix (s p:ByteArray)(w:World) :
    Calls prog 105 #[.string s,.string p] w fun e w'=>e = .returned (.bool (Lib.hasPrefix s.data.toList p.data.toList))∧w' = w:=Any.strings_HasPrefix lays99 s p w
def Tryz.lays146_ren:Go.Shelf.Ren:=⟨fun|146=>103|221=>132|268=>176|138=>108|143=>109|195=>137|197=>110|218=>138|219=>139|260=>140|217=>175|225=>177|224=>178|267=>179|266=>224|314=>225|n=>n,fun|9=>9|31=>32|3=>3|4=>4|0=>0|105=>174|21=>21|5=>5|46=>209|119=>248|139=>251|138=>250|146=>281|51=>207|n=>n,fun|1=>0|3=>2|4=>3|n=>n⟩
theorem Tryz.lays146:Go.Proofs.Lays.n146 prog lays146_ren:=⟨zK,zk func108,zk func109,zk func103,zk func137,zk func110,zk func175,zk func138,zk func139,zk func132,zk func178,zk func177,
 zk func140,zk func224,zk func179,zk func176,zk func225,underlying0,isAgg0,sizeOf0,zeroValue0,underlying3,isAgg3,sizeOf3,
 zeroValue3,underlying4,isAgg4,sizeOf4,zeroValue4,underlying5,isAgg5,sizeOf5,zeroValue5,underlying9,isAgg9,sizeOf9,
 zeroValue9,underlying21,isAgg21,sizeOf21,zeroValue21,underlying32,isAgg32,sizeOf32,zeroValue32,underlying209,isAgg209,sizeOf209,
 zeroValue209,underlying207,isAgg207,sizeOf207,zeroValue207,underlying174,isAgg174,sizeOf174,zeroValue174,underlying248,isAgg248,sizeOf248,
 underlying250,isAgg250,sizeOf250,zeroValue250,underlying251,isAgg251,sizeOf251,zeroValue251,underlying281,isAgg281,sizeOf281,zeroValue281,
 zK,zK,zK⟩
open Go.RowKit Go.Lib in
theorem Tryz.strings_Split (s sep:ByteArray)(m:Int)(w:World)(hs:s.size < 4294967281)(hm:w.cell? ⟨0,0,none⟩ = some (.int .i64 m))(h1:1 ≤ sep.size) :
    Calls prog 103 #[.string s,.string sep] w fun e w'=>
      e = .returned (.slice (some ⟨w.heap.size,0,none⟩) (Lib.countB s sep + 1) (Lib.countB s sep + 1))∧w' = w.alloc (.cells ((Lib.splitB sep 0 (Lib.countB s sep) s).map Value.string).toArray 9):=Any.strings_Split lays146 (zK) s sep m w hs hm h1
def Tryz.lays155_ren:Go.Shelf.Ren:=⟨fun|155=>66|154=>87|138=>108|165=>84|143=>109|166=>85|197=>110|169=>86|195=>137|218=>138|240=>106|241=>107|219=>139|260=>140|276=>135|277=>136|217=>175|225=>177|224=>178|267=>179|266=>224|314=>225|n=>n,fun|9=>9|3=>3|4=>4|72=>156|0=>0|76=>160|105=>174|21=>21|5=>5|70=>153|20=>20|37=>154|75=>159|127=>173|164=>201|46=>209|119=>248|139=>251|138=>250|146=>281|51=>207|80=>162|n=>n,fun|1=>0|3=>2|4=>3|n=>n⟩
theorem Tryz.lays155:Go.Proofs.Lays.n155 prog lays155_ren:=⟨zK,zk func108,zk func109,zk func87,zk func66,zk func84,zk func85,zk func86,zk func137,zk func110,zk func175,zk func138,
 zk func139,zk func178,zk func177,zk func106,zk func107,zk func140,zk func224,zk func179,zk func135,zk func136,zk func225,underlying0,
 isAgg0,sizeOf0,zeroValue0,underlying3,isAgg3,sizeOf3,zeroValue3,underlying4,isAgg4,sizeOf4,zeroValue4,underlying5,
 isAgg5,sizeOf5,zeroValue5,underlying9,isAgg9,sizeOf9,zeroValue9,underlying20,isAgg20,sizeOf20,zeroValue20,underlying21,
 isAgg21,sizeOf21,zeroValue21,underlying154,isAgg154,sizeOf154,zeroValue154,underlying209,isAgg209,sizeOf209,zeroValue209,underlying207,
 isAgg207,sizeOf207,zeroValue207,underlying153,isAgg153,sizeOf153,zeroValue153,underlying156,isAgg156,sizeOf156,zeroValue156,underlying159,
 isAgg159,sizeOf159,zeroValue159,underlying160,isAgg160,sizeOf160,zeroValue160,underlying174,isAgg174,sizeOf174,zeroValue174,underlying248,
 isAgg248,sizeOf248,underlying173,isAgg173,sizeOf173,zeroValue173,underlying250,isAgg250,sizeOf250,zeroValue250,underlying251,isAgg251,
 sizeOf251,zeroValue251,underlying281,isAgg281,sizeOf281,zeroValue281,underlying201,isAgg201,sizeOf201,zeroValue201,zK,zK,
 zK⟩
theorem Tryz.Builder_Extra_155:Builder.Extra prog lays155_ren:={
 sizeBuilder:=zK
 liesBuilder:=zK
 t5:=underlying5
 a5:=isAgg5
 z5:=sizeOf5
 v5:=zeroValue5
 infoByte:=zK
 cellsByte:=zK
 sizeByte:=zK
 neB5:=by decide }
open Go.RowKit Go.Lib in
theorem Tryz.strings_ReplaceAll (s old new:ByteArray)(m:Int)(w:World)(hs:s.size < 4294967281)(hm:w.cell? ⟨0,0,none⟩ = some (.int .i64 m))(h1:1 ≤ old.size)(hlen:s.size + Lib.countB s old * new.size ≤ 140737488355328) :
    Calls prog 66 #[.string s,.string old,.string new] w fun e w'=>
      e = .returned (.string ⟨(Lib.replaceAll s.data.toList old.data.toList new.data.toList).toArray⟩)∧Below w.heap.size w w':=Any.strings_ReplaceAll lays155 Builder_Extra_155 s old new m w hs hm h1 hlen
def Tryz.lays153_ren:Go.Shelf.Ren:=⟨fun|153=>197|152=>234|226=>235|227=>236|228=>237|137=>131|119=>263|224=>178|225=>177|217=>175|266=>224|n=>n,fun|9=>9|3=>3|4=>4|5=>5|21=>21|117=>302|116=>301|0=>0|46=>209|124=>331|n=>n,fun|n=>n⟩
theorem Tryz.lays153:Go.Proofs.Lays.n153 prog lays153_ren:=⟨zK,zk func263,zk func131,zk func234,zk func197,zk func175,zk func178,zk func177,zk func235,zk func236,zk func237,zk func224,
 underlying0,isAgg0,sizeOf0,zeroValue0,underlying3,isAgg3,sizeOf3,zeroValue3,underlying4,isAgg4,sizeOf4,zeroValue4,
 underlying5,isAgg5,sizeOf5,zeroValue5,underlying9,isAgg9,sizeOf9,zeroValue9,underlying21,isAgg21,sizeOf21,zeroValue21,
 underlying209,isAgg209,sizeOf209,zeroValue209,underlying301,isAgg301,sizeOf301,underlying302,isAgg302,sizeOf302,zeroValue302,underlying331,
 isAgg331,sizeOf331,zeroValue331⟩
def Tryz.lays150_ren:Go.Shelf.Ren:=⟨fun|150=>214|153=>197|152=>234|226=>235|227=>236|228=>237|137=>131|119=>263|224=>178|225=>177|217=>175|266=>224|n=>n,fun|9=>9|4=>4|3=>3|5=>5|21=>21|117=>302|116=>301|0=>0|46=>209|124=>331|n=>n,fun|n=>n⟩
theorem Tryz.lays150:Go.Proofs.Lays.n150 prog lays150_ren:=⟨zK,zk func263,zk func131,zk func214,zk func234,zk func197,zk func175,zk func178,zk func177,zk func235,zk func236,zk func237,
 zk func224,underlying0,isAgg0,sizeOf0,zeroValue0,underlying3,isAgg3,sizeOf3,zeroValue3,underlying4,isAgg4,sizeOf4,
 zeroValue4,underlying5,isAgg5,sizeOf5,zeroValue5,underlying9,isAgg9,sizeOf9,zeroValue9,underlying21,isAgg21,sizeOf21,
 zeroValue21,underlying209,isAgg209,sizeOf209,zeroValue209,underlying301,isAgg301,sizeOf301,underlying302,isAgg302,sizeOf302,zeroValue302,
 underlying331,isAgg331,sizeOf331,zeroValue331⟩
open Go.RowKit Go.Lib in
theorem Tryz.strings_IndexAny_laid (s chars:ByteArray)(w:World)(hs:s.size < 4294967281)(hcs:chars.size < 4294967281)(has:∀ (j:Nat) b,s.data.toList[j]? = some b→b.toNat < 128)(hac:∀ (j:Nat) b,chars.data.toList[j]? = some b→b.toNat < 128) :
    Calls prog 197 #[.string s,.string chars] w fun e w'=>e = .returned (.int .i64 (Lib.indexAny s.data.toList chars.data.toList))∧Below w.heap.size w w':=Any.strings_IndexAny_laid lays153 (zK) s chars w hs hcs has hac
open Go.RowKit Go.Lib in
theorem Tryz.strings_ContainsAny_laid (s chars:ByteArray)(w:World)(hs:s.size < 4294967281)(hcs:chars.size < 4294967281)(has:∀ (j:Nat) b,s.data.toList[j]? = some b→b.toNat < 128)(hac:∀ (j:Nat) b,chars.data.toList[j]? = some b→b.toNat < 128) :
    Calls prog 214 #[.string s,.string chars] w fun e w'=>e = .returned (.bool (Lib.containsAny s.data.toList chars.data.toList))∧Below w.heap.size w w':=Any.strings_ContainsAny_laid lays150 (zK) s chars w hs hcs has hac
def Tryz.lays229_ren:Go.Shelf.Ren:=⟨fun|229=>215|n=>n,fun|9=>9|40=>275|31=>32|152=>313|3=>3|0=>0|4=>4|21=>21|154=>315|n=>n,fun|n=>n⟩
theorem Tryz.lays229:Go.Proofs.Lays.n229 prog lays229_ren:=⟨zK,zk func215,underlying0,isAgg0,sizeOf0,zeroValue0,underlying3,isAgg3,sizeOf3,zeroValue3,underlying4,isAgg4,
 sizeOf4,zeroValue4,underlying9,isAgg9,sizeOf9,zeroValue9,underlying21,isAgg21,sizeOf21,zeroValue21,underlying32,isAgg32,
 sizeOf32,zeroValue32,underlying275,isAgg275,sizeOf275,zeroValue275,underlying313,isAgg313,sizeOf313,zeroValue313,underlying315,isAgg315,
 sizeOf315,zeroValue315⟩
open Go.RowKit Go.Lib in
theorem Tryz.strings_FieldsFunc_runes (g:Nat)(lb:Array Value)(eg:∀ args w,(callFunc g args).run prog w = .ok (.enter g args) w)(p:Nat→Bool)(s:ByteArray)(w:World)(hs:s.size ≤ 4294967296)(hp:PredAtRunes prog g lb p w) :
    Calls prog 215 #[.string s,.func (.func g) #[] lb] w fun e w'=>∃ A,e = .returned (.slice (some ⟨A,0,none⟩) (Lib.goFieldsP p s).length (Lib.goFieldsP p s).length)∧w.heap.size ≤ A∧
      w'.ownsRow w.heap.size 9 1 (.slice (some ⟨A,0,none⟩) (Lib.goFieldsP p s).length (Lib.goFieldsP p s).length) (Lib.goFieldsP p s).length ((Lib.goFieldsP p s).map Value.string)∧Below w.heap.size w w':=Any.strings_FieldsFunc_runes lays229 g lb eg p s w hs hp (zK) (zK)
def Tryz.lays230_ren:Go.Shelf.Ren:=⟨fun|230=>227|197=>110|118=>255|165=>84|166=>85|168=>256|270=>257|167=>258|169=>86|260=>140|240=>106|241=>107|242=>282|276=>135|277=>136|278=>303|n=>n,fun|107=>287|9=>9|72=>156|0=>0|4=>4|3=>3|21=>21|105=>174|76=>160|5=>5|75=>159|70=>153|20=>20|37=>154|127=>173|119=>248|46=>209|139=>251|138=>250|164=>201|51=>207|80=>162|n=>n,fun|3=>2|4=>3|n=>n⟩
theorem Tryz.lays230:Go.Proofs.Lays.n230 prog lays230_ren:=⟨zK,zk func255,zk func84,zk func85,zk func258,zk func256,zk func86,zk func110,zk func227,zk func106,zk func107,zk func282,
 zk func140,zk func257,zk func135,zk func136,zk func303,underlying0,isAgg0,sizeOf0,zeroValue0,underlying3,isAgg3,sizeOf3,
 zeroValue3,underlying4,isAgg4,sizeOf4,zeroValue4,underlying5,isAgg5,sizeOf5,zeroValue5,underlying9,isAgg9,sizeOf9,
 zeroValue9,underlying20,isAgg20,sizeOf20,zeroValue20,underlying21,isAgg21,sizeOf21,zeroValue21,underlying154,isAgg154,sizeOf154,
 zeroValue154,underlying209,isAgg209,sizeOf209,zeroValue209,underlying207,isAgg207,sizeOf207,zeroValue207,underlying153,isAgg153,sizeOf153,
 zeroValue153,underlying156,isAgg156,sizeOf156,zeroValue156,underlying159,isAgg159,sizeOf159,zeroValue159,underlying160,isAgg160,sizeOf160,
 zeroValue160,underlying174,isAgg174,sizeOf174,zeroValue174,underlying287,isAgg287,sizeOf287,zeroValue287,underlying248,isAgg248,sizeOf248,
 underlying173,isAgg173,sizeOf173,zeroValue173,underlying250,isAgg250,sizeOf250,zeroValue250,underlying251,isAgg251,sizeOf251,zeroValue251,
 underlying201,isAgg201,sizeOf201,zeroValue201,zK,zK⟩
theorem Tryz.Builder_Extra_230:Builder.Extra prog lays230_ren:={
 sizeBuilder:=zK
 liesBuilder:=zK
 t5:=underlying5
 a5:=isAgg5
 z5:=sizeOf5
 v5:=zeroValue5
 infoByte:=zK
 cellsByte:=zK
 sizeByte:=zK
 neB5:=by decide }
open Go.RowKit Go.Lib in
theorem Tryz.strings_Map_runes (g:Nat)(lb:Array Value)(eg:∀ args w,(callFunc g args).run prog w = .ok (.enter g args) w)(f:Int→Int)(s:ByteArray)(w:World)(hs:s.size < 35184372088832)(hf:MapAtRunes prog g lb f w)(hnn:∀ x:Nat,x ≤ 1114111→0 ≤ f x∧f x ≤ 2147483647)(hT:Lib.Utf8Tabs 2 3 w) :
    Calls prog 227 #[.func (.func g) #[] lb,.string s] w fun e w'=>e = .returned (.string ⟨(Lib.mapD f s.data.toList).toArray⟩)∧Below w.heap.size w w':=Any.strings_Map_runes lays230 Builder_Extra_230 g lb eg f s w hs hf hnn hT
def Tryz.lays110_ren:Go.Shelf.Ren:=⟨fun|110=>231|109=>261|n=>n,fun|31=>32|9=>9|4=>4|3=>3|0=>0|n=>n,fun|n=>n⟩
theorem Tryz.lays110:Go.Proofs.Lays.n110 prog lays110_ren:=⟨zK,zk func261,zk func231,underlying0,isAgg0,sizeOf0,zeroValue0,underlying3,isAgg3,sizeOf3,zeroValue3,underlying4,
 isAgg4,sizeOf4,zeroValue4,underlying9,isAgg9,sizeOf9,zeroValue9,underlying32,isAgg32,sizeOf32,zeroValue32⟩
open Go.Lib in
theorem Tryz.slices_Contains_string (b off n c:Nat)(zs:List ByteArray)(x:ByteArray)(w:World)(hz:n ≤ zs.length)(hbig:n ≤ 9223372036854775807)(hc:∀ j,j < zs.length→w.cell? ⟨b,off + j,none⟩ = some (.string (zs.getD j ByteArray.empty))) :
    Calls prog 231 #[.slice (some ⟨b,off,none⟩) n c,.string x] w fun e w'=>e = .returned (.bool (Lib.containsS (zs.take n) x))∧w' = w:=Any.slices_Contains_string lays110 b off n c zs x w hz hbig hc
def Tryz.laysSlH10_f243_ren:Go.Shelf.Ren:=⟨fun|10=>243|6=>160|n=>n,fun|22=>32|23=>9|25=>149|3=>3|4=>4|0=>0|n=>n,fun|n=>n⟩
theorem Tryz.laysSlH10_f243:Go.Proofs.SlLaysH.n10 prog laysSlH10_f243_ren:={
 mixed:=zK
 f6:=⟨f160.name,by decide,zk func160⟩
 f10:=⟨f243.name,by decide,zk func243⟩
 t0:=underlying0
 a0:=isAgg0
 z0:=sizeOf0
 v0:=zeroValue0
 t3:=underlying3
 a3:=isAgg3
 z3:=sizeOf3
 v3:=zeroValue3
 t4:=underlying4
 a4:=isAgg4
 z4:=sizeOf4
 v4:=zeroValue4
 t22:=underlying32
 a22:=isAgg32
 z22:=sizeOf32
 v22:=zeroValue32
 a23:=isAgg9
 z23:=sizeOf9
 t25:=underlying149
 a25:=isAgg149
 z25:=sizeOf149
 v25:=zeroValue149 }
open Go.RowKit Go.Lib Go.Sort in
theorem Tryz.slices_DeleteFunc {α:Type} [Inhabited α] (enc:α→Value)(hO:OneCell enc)(p:α→Bool)(g:Nat)(lb:Array Value)(eg:∀ args w,(callFunc g args).run prog w = .ok (.enter g args) w)(zr:α)(v23:∀ w,(zeroValue 9).run prog w = .ok (enc zr) w)(blk off cap:Nat)(d:Array α)(w:World)(hp:PredAt prog g lb enc p w)(hpo:PredOver prog g lb enc p blk off d.size w)(hH:Holds enc w blk off d)(hsz:d.size ≤ 9223372036854775807)(hcap:d.size ≤ cap) :
    Calls prog 243 #[.slice (some ⟨blk,off,none⟩) d.size cap,.func (.func g) #[] lb] w fun e w'=>e = .returned (.slice (some ⟨blk,off,none⟩) (d.toList.filter fun x=>!p x).length cap)∧∃ q,w' = putRow enc (Sort.ahead w q) blk off ((d.toList.filter fun x=>!p x) ++ List.replicate (d.size - (d.toList.filter fun x=>!p x).length) zr).toArray:=AnyE.slices_DeleteFunc laysSlH10_f243 enc hO p g lb eg zr v23 blk off cap d w hp hpo hH hsz hcap
end Go.Proofs
