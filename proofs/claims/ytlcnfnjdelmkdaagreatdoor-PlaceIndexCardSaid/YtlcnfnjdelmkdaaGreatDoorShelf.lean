import Derived.Shelf.Strings.Trim
import Derived.Shelf.Strings.SlTrimAscii
import Derived.Shelf.Strings.Search2
import Derived.Shelf.Bits.Mul64
import Derived.Shelf.Strings.Repeat
import Derived.Test.YtlcnfnjdelmkdaaGreatDoorProg
namespace Go.Proofs
open Go.Shelf
def Tryz.lays160_ren:Go.Shelf.Ren:=⟨fun|160=>148|232=>161|231=>160|227=>162|234=>164|233=>163|236=>166|235=>165|228=>178|271=>181|151=>180|197=>179|120=>188|152=>187|260=>186|137=>189|119=>190|224=>176|225=>175|217=>174|266=>184|n=>n,fun|9=>9|4=>4|3=>3|5=>5|117=>224|116=>223|0=>0|124=>227|21=>21|105=>237|46=>142|119=>245|139=>248|138=>247|n=>n,fun|3=>4|4=>5|n=>n⟩
theorem Tryz.lays160:Go.Proofs.Lays.n160 Tryz.prog Tryz.lays160_ren:={
 mixed:=by kernel_rfl
 f119:=Tryz.func190.trans (congrArg some (by kernel_rfl))
 f120:=Tryz.func188.trans (congrArg some (by kernel_rfl))
 f137:=Tryz.func189.trans (congrArg some (by kernel_rfl))
 f151:=Tryz.func180.trans (congrArg some (by kernel_rfl))
 f152:=Tryz.func187.trans (congrArg some (by kernel_rfl))
 f160:=Tryz.func148.trans (congrArg some (by kernel_rfl))
 f197:=Tryz.func179.trans (congrArg some (by kernel_rfl))
 f217:=Tryz.func174.trans (congrArg some (by kernel_rfl))
 f224:=Tryz.func176.trans (congrArg some (by kernel_rfl))
 f225:=Tryz.func175.trans (congrArg some (by kernel_rfl))
 f227:=Tryz.func162.trans (congrArg some (by kernel_rfl))
 f228:=Tryz.func178.trans (congrArg some (by kernel_rfl))
 f231:=Tryz.func160.trans (congrArg some (by kernel_rfl))
 f232:=Tryz.func161.trans (congrArg some (by kernel_rfl))
 f233:=Tryz.func163.trans (congrArg some (by kernel_rfl))
 f234:=Tryz.func164.trans (congrArg some (by kernel_rfl))
 f235:=Tryz.func165.trans (congrArg some (by kernel_rfl))
 f236:=Tryz.func166.trans (congrArg some (by kernel_rfl))
 f260:=Tryz.func186.trans (congrArg some (by kernel_rfl))
 f266:=Tryz.func184.trans (congrArg some (by kernel_rfl))
 f271:=Tryz.func181.trans (congrArg some (by kernel_rfl))
 t0:=Tryz.underlying0
 a0:=Tryz.isAgg0
 z0:=Tryz.sizeOf0
 v0:=Tryz.zeroValue0
 t3:=Tryz.underlying3
 a3:=Tryz.isAgg3
 z3:=Tryz.sizeOf3
 v3:=Tryz.zeroValue3
 t4:=Tryz.underlying4
 a4:=Tryz.isAgg4
 z4:=Tryz.sizeOf4
 v4:=Tryz.zeroValue4
 t5:=Tryz.underlying5
 a5:=Tryz.isAgg5
 z5:=Tryz.sizeOf5
 v5:=Tryz.zeroValue5
 t9:=Tryz.underlying9
 a9:=Tryz.isAgg9
 z9:=Tryz.sizeOf9
 v9:=Tryz.zeroValue9
 t21:=Tryz.underlying21
 a21:=Tryz.isAgg21
 z21:=Tryz.sizeOf21
 v21:=Tryz.zeroValue21
 t46:=Tryz.underlying142
 a46:=Tryz.isAgg142
 z46:=Tryz.sizeOf142
 v46:=Tryz.zeroValue142
 t105:=Tryz.underlying237
 a105:=Tryz.isAgg237
 z105:=Tryz.sizeOf237
 v105:=Tryz.zeroValue237
 t116:=Tryz.underlying223
 a116:=Tryz.isAgg223
 z116:=Tryz.sizeOf223
 t117:=Tryz.underlying224
 a117:=Tryz.isAgg224
 z117:=Tryz.sizeOf224
 v117:=Tryz.zeroValue224
 t119:=Tryz.underlying245
 a119:=Tryz.isAgg245
 z119:=Tryz.sizeOf245
 t124:=Tryz.underlying227
 a124:=Tryz.isAgg227
 z124:=Tryz.sizeOf227
 v124:=Tryz.zeroValue227
 t138:=Tryz.underlying247
 a138:=Tryz.isAgg247
 z138:=Tryz.sizeOf247
 v138:=Tryz.zeroValue247
 t139:=Tryz.underlying248
 a139:=Tryz.isAgg248
 z139:=Tryz.sizeOf248
 v139:=Tryz.zeroValue248
 g3:=by kernel_rfl
 g4:=by kernel_rfl}
open Go.RowKit in
theorem Tryz.strings_Trim_one (s:ByteArray) (c:UInt8) (hc:c.toNat<128) (w:World) (hs:s.size≤9223372036854775807):
 Calls Tryz.prog 148 #[.string s,.string ⟨#[c]⟩] w fun e w'=>e= .returned (.string ⟨(Lib.trimB s.data.toList c).toArray⟩)∧(w'=w∨w'=w.drew):=Any.strings_Trim_one Tryz.lays160 s c hc w hs
def Tryz.lays219_ren:Go.Shelf.Ren:=⟨fun|219=>159|217=>174|225=>175|224=>176|267=>177|266=>184|314=>185|n=>n,fun|9=>9|3=>3|4=>4|5=>5|46=>142|146=>217|51=>216|n=>n,fun|1=>1|n=>n⟩
theorem Tryz.lays219:Go.Proofs.Lays.n219 Tryz.prog Tryz.lays219_ren:={
 mixed:=by kernel_rfl
 f217:=Tryz.func174.trans (congrArg some (by kernel_rfl))
 f219:=Tryz.func159.trans (congrArg some (by kernel_rfl))
 f224:=Tryz.func176.trans (congrArg some (by kernel_rfl))
 f225:=Tryz.func175.trans (congrArg some (by kernel_rfl))
 f266:=Tryz.func184.trans (congrArg some (by kernel_rfl))
 f267:=Tryz.func177.trans (congrArg some (by kernel_rfl))
 f314:=Tryz.func185.trans (congrArg some (by kernel_rfl))
 t3:=Tryz.underlying3
 a3:=Tryz.isAgg3
 z3:=Tryz.sizeOf3
 v3:=Tryz.zeroValue3
 t4:=Tryz.underlying4
 a4:=Tryz.isAgg4
 z4:=Tryz.sizeOf4
 v4:=Tryz.zeroValue4
 t5:=Tryz.underlying5
 a5:=Tryz.isAgg5
 z5:=Tryz.sizeOf5
 v5:=Tryz.zeroValue5
 t9:=Tryz.underlying9
 a9:=Tryz.isAgg9
 z9:=Tryz.sizeOf9
 v9:=Tryz.zeroValue9
 t46:=Tryz.underlying142
 a46:=Tryz.isAgg142
 z46:=Tryz.sizeOf142
 v46:=Tryz.zeroValue142
 t51:=Tryz.underlying216
 a51:=Tryz.isAgg216
 z51:=Tryz.sizeOf216
 v51:=Tryz.zeroValue216
 t146:=Tryz.underlying217
 a146:=Tryz.isAgg217
 z146:=Tryz.sizeOf217
 v146:=Tryz.zeroValue217
 g1:=by kernel_rfl}
open Go.RowKit Go.Lib in
theorem Tryz.stringslite_Index_one (s:ByteArray) (c:UInt8) (w:World):
 Calls Tryz.prog 159 #[.string s,.string ⟨#[c]⟩] w fun e w'=>e= .returned (.int .i64 (Lib.indexByte s.data.toList c))∧w'=w:=Any.stringslite_Index_one Tryz.lays219 s c w
def Tryz.lays264_ren:Go.Shelf.Ren:=⟨fun|264=>149|n=>n,fun|53=>95|46=>142|n=>n,fun|n=>n⟩
theorem Tryz.lays264:Go.Proofs.Lays.n264 Tryz.prog Tryz.lays264_ren:={
 mixed:=by kernel_rfl
 f264:=Tryz.func149.trans (congrArg some (by kernel_rfl))
 t46:=Tryz.underlying142
 a46:=Tryz.isAgg142
 z46:=Tryz.sizeOf142
 v46:=Tryz.zeroValue142
 t53:=Tryz.underlying95
 a53:=Tryz.isAgg95
 z53:=Tryz.sizeOf95
 v53:=Tryz.zeroValue95}
open Go.RowKit Go.Lib in
theorem Tryz.bits_Mul64 (x y:Nat) (hx:x<18446744073709551616) (hy:y<18446744073709551616) (w:World):
 Calls Tryz.prog 149 #[.int .u64 x,.int .u64 y] w fun e w'=>e= .returned (.tuple #[.int .u64 ((x*y / 18446744073709551616:Nat):Int),.int .u64 ((x*y % 18446744073709551616:Nat):Int)])∧w'=w:=Any.bits_Mul64 Tryz.lays264 x y hx hy w
def Tryz.lays105_ren:Go.Shelf.Ren:=⟨fun|105=>132|212=>140|99=>141|165=>142|166=>143|170=>144|169=>145|263=>155|264=>149|206=>156|240=>157|241=>158|276=>172|277=>173|n=>n,fun|9=>9|3=>3|4=>4|20=>20|0=>0|46=>142|109=>194|5=>5|72=>199|76=>203|51=>216|146=>217|53=>95|148=>208|70=>197|37=>26|75=>202|127=>219|164=>232|80=>206|n=>n,fun|n=>n⟩
theorem Tryz.lays105:Go.Proofs.Lays.n105 Tryz.prog Tryz.lays105_ren:={
 mixed:=by kernel_rfl
 f99:=Tryz.func141.trans (congrArg some (by kernel_rfl))
 f105:=Tryz.func132.trans (congrArg some (by kernel_rfl))
 f165:=Tryz.func142.trans (congrArg some (by kernel_rfl))
 f166:=Tryz.func143.trans (congrArg some (by kernel_rfl))
 f169:=Tryz.func145.trans (congrArg some (by kernel_rfl))
 f170:=Tryz.func144.trans (congrArg some (by kernel_rfl))
 f206:=Tryz.func156.trans (congrArg some (by kernel_rfl))
 f212:=Tryz.func140.trans (congrArg some (by kernel_rfl))
 f240:=Tryz.func157.trans (congrArg some (by kernel_rfl))
 f241:=Tryz.func158.trans (congrArg some (by kernel_rfl))
 f263:=Tryz.func155.trans (congrArg some (by kernel_rfl))
 f264:=Tryz.func149.trans (congrArg some (by kernel_rfl))
 f276:=Tryz.func172.trans (congrArg some (by kernel_rfl))
 f277:=Tryz.func173.trans (congrArg some (by kernel_rfl))
 t0:=Tryz.underlying0
 a0:=Tryz.isAgg0
 z0:=Tryz.sizeOf0
 v0:=Tryz.zeroValue0
 t3:=Tryz.underlying3
 a3:=Tryz.isAgg3
 z3:=Tryz.sizeOf3
 v3:=Tryz.zeroValue3
 t4:=Tryz.underlying4
 a4:=Tryz.isAgg4
 z4:=Tryz.sizeOf4
 v4:=Tryz.zeroValue4
 t5:=Tryz.underlying5
 a5:=Tryz.isAgg5
 z5:=Tryz.sizeOf5
 v5:=Tryz.zeroValue5
 t9:=Tryz.underlying9
 a9:=Tryz.isAgg9
 z9:=Tryz.sizeOf9
 v9:=Tryz.zeroValue9
 t20:=Tryz.underlying20
 a20:=Tryz.isAgg20
 z20:=Tryz.sizeOf20
 v20:=Tryz.zeroValue20
 t37:=Tryz.underlying26
 a37:=Tryz.isAgg26
 z37:=Tryz.sizeOf26
 v37:=Tryz.zeroValue26
 t46:=Tryz.underlying142
 a46:=Tryz.isAgg142
 z46:=Tryz.sizeOf142
 v46:=Tryz.zeroValue142
 t51:=Tryz.underlying216
 a51:=Tryz.isAgg216
 z51:=Tryz.sizeOf216
 v51:=Tryz.zeroValue216
 t53:=Tryz.underlying95
 a53:=Tryz.isAgg95
 z53:=Tryz.sizeOf95
 v53:=Tryz.zeroValue95
 t70:=Tryz.underlying197
 a70:=Tryz.isAgg197
 z70:=Tryz.sizeOf197
 v70:=Tryz.zeroValue197
 t72:=Tryz.underlying199
 a72:=Tryz.isAgg199
 z72:=Tryz.sizeOf199
 v72:=Tryz.zeroValue199
 t75:=Tryz.underlying202
 a75:=Tryz.isAgg202
 z75:=Tryz.sizeOf202
 v75:=Tryz.zeroValue202
 t76:=Tryz.underlying203
 a76:=Tryz.isAgg203
 z76:=Tryz.sizeOf203
 v76:=Tryz.zeroValue203
 t109:=Tryz.underlying194
 a109:=Tryz.isAgg194
 z109:=Tryz.sizeOf194
 v109:=Tryz.zeroValue194
 t127:=Tryz.underlying219
 a127:=Tryz.isAgg219
 z127:=Tryz.sizeOf219
 v127:=Tryz.zeroValue219
 t146:=Tryz.underlying217
 a146:=Tryz.isAgg217
 z146:=Tryz.sizeOf217
 v146:=Tryz.zeroValue217
 t148:=Tryz.underlying208
 a148:=Tryz.isAgg208
 z148:=Tryz.sizeOf208
 v148:=Tryz.zeroValue208
 t164:=Tryz.underlying232
 a164:=Tryz.isAgg232
 z164:=Tryz.sizeOf232
 v164:=Tryz.zeroValue232}
theorem Tryz.Builder_Extra_105:Builder.Extra Tryz.prog Tryz.lays105_ren:={
 sizeBuilder:=by kernel_rfl
 liesBuilder:=by kernel_rfl
 t5:=Tryz.underlying5
 a5:=Tryz.isAgg5
 z5:=Tryz.sizeOf5
 v5:=Tryz.zeroValue5
 infoByte:=by kernel_rfl
 cellsByte:=by kernel_rfl
 sizeByte:=by kernel_rfl
 neB5:=by decide}
open Go.RowKit Go.Lib in
theorem Tryz.strings_Repeat (s:ByteArray) (c:Nat) (w:World) (hc:c≤9223372036854775807) (hlen:s.size*c≤140737488355328):
 Calls Tryz.prog 132 #[.string s,.int .i64 c] w fun e w'=>e= .returned (.string ⟨(Lib.repeatL s.data.toList c).toArray⟩)∧Below w.heap.size w w':=Any.strings_Repeat Tryz.lays105 Tryz.Builder_Extra_105 s c w hc hlen
theorem Tryz.strings_Trim (s cutset:ByteArray) (w:World) (hs:s.size≤9223372036854775807) (hcs:cutset.size<4294967281)
  (hascii:∀ (j:Nat) b,cutset.data.toList[j]? =some b→b.toNat<128):
  Calls Tryz.prog 148 #[.string s,.string cutset] w fun e w'=>e= .returned (.string ⟨(Lib.trimS s.data.toList cutset.data.toList).toArray⟩)∧Go.RowKit.Below w.heap.size w w':=
 Any.strings_Trim_laid Tryz.lays160 (by kernel_rfl) s cutset w hs hcs hascii
end Go.Proofs
