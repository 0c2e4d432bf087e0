import Derived.Shelf.Strings.Trim
import Derived.Shelf.Strings.SlTrimAscii
import Derived.Shelf.Strconv.Itoa1
import Derived.Shelf.Strconv.Itoa2
import Derived.Shelf.Strings.Search2
import Derived.Shelf.Bits.Mul64
import Derived.Shelf.Strings.Repeat
import Derived.Ground.Names2Prog
import Derived.Ground.SlgnProg
import Derived.Test.YtpnhljhciibfnaaGreatDoorProg
namespace Go.Proofs
open Go.Shelf
def Tryz.IF:Go.Shelf.Ren:=⟨fun|160=>169|232=>182|231=>181|227=>183|234=>185|233=>184|236=>187|235=>186|228=>199|271=>202|151=>201|197=>200|120=>209|152=>208|260=>207|137=>210|119=>211|224=>197|225=>196|217=>195|266=>205|n=>n,fun|9=>9|4=>4|3=>3|5=>5|117=>260|116=>259|0=>0|124=>263|21=>21|105=>273|46=>153|119=>281|139=>284|138=>283|n=>n,fun|3=>4|4=>5|n=>n⟩
theorem Tryz.Sm:Go.Proofs.Lays.n160 Tryz.prog Tryz.IF:={
 mixed:=by kernel_rfl
 f119:=Tryz.func211.trans (congrArg some (by kernel_rfl))
 f120:=Tryz.func209.trans (congrArg some (by kernel_rfl))
 f137:=Tryz.func210.trans (congrArg some (by kernel_rfl))
 f151:=Tryz.func201.trans (congrArg some (by kernel_rfl))
 f152:=Tryz.func208.trans (congrArg some (by kernel_rfl))
 f160:=Tryz.func169.trans (congrArg some (by kernel_rfl))
 f197:=Tryz.func200.trans (congrArg some (by kernel_rfl))
 f217:=Tryz.func195.trans (congrArg some (by kernel_rfl))
 f224:=Tryz.func197.trans (congrArg some (by kernel_rfl))
 f225:=Tryz.func196.trans (congrArg some (by kernel_rfl))
 f227:=Tryz.func183.trans (congrArg some (by kernel_rfl))
 f228:=Tryz.func199.trans (congrArg some (by kernel_rfl))
 f231:=Tryz.func181.trans (congrArg some (by kernel_rfl))
 f232:=Tryz.func182.trans (congrArg some (by kernel_rfl))
 f233:=Tryz.func184.trans (congrArg some (by kernel_rfl))
 f234:=Tryz.func185.trans (congrArg some (by kernel_rfl))
 f235:=Tryz.func186.trans (congrArg some (by kernel_rfl))
 f236:=Tryz.func187.trans (congrArg some (by kernel_rfl))
 f260:=Tryz.func207.trans (congrArg some (by kernel_rfl))
 f266:=Tryz.func205.trans (congrArg some (by kernel_rfl))
 f271:=Tryz.func202.trans (congrArg some (by kernel_rfl))
 t0:=Tryz.underlying0
 a0:=Tryz.isAgg0
 z0:=Tryz.sizeOf0
 v0:=Tryz.zeroValue0
 t3:=Tryz.underlying3
 a3:=Tryz.isAgg3
 z3:=Tryz.sizeOf3
 v3:=Tryz.zeroValue3
 t4:=Tryz.underlying4
 a4:=Tryz.isAgg4
 z4:=Tryz.sizeOf4
 v4:=Tryz.zeroValue4
 t5:=Tryz.underlying5
 a5:=Tryz.isAgg5
 z5:=Tryz.sizeOf5
 v5:=Tryz.zeroValue5
 t9:=Tryz.underlying9
 a9:=Tryz.isAgg9
 z9:=Tryz.sizeOf9
 v9:=Tryz.zeroValue9
 t21:=Tryz.underlying21
 a21:=Tryz.isAgg21
 z21:=Tryz.sizeOf21
 v21:=Tryz.zeroValue21
 t46:=Tryz.underlying153
 a46:=Tryz.isAgg153
 z46:=Tryz.sizeOf153
 v46:=Tryz.zeroValue153
 t105:=Tryz.underlying273
 a105:=Tryz.isAgg273
 z105:=Tryz.sizeOf273
 v105:=Tryz.zeroValue273
 t116:=Tryz.underlying259
 a116:=Tryz.isAgg259
 z116:=Tryz.sizeOf259
 t117:=Tryz.underlying260
 a117:=Tryz.isAgg260
 z117:=Tryz.sizeOf260
 v117:=Tryz.zeroValue260
 t119:=Tryz.underlying281
 a119:=Tryz.isAgg281
 z119:=Tryz.sizeOf281
 t124:=Tryz.underlying263
 a124:=Tryz.isAgg263
 z124:=Tryz.sizeOf263
 v124:=Tryz.zeroValue263
 t138:=Tryz.underlying283
 a138:=Tryz.isAgg283
 z138:=Tryz.sizeOf283
 v138:=Tryz.zeroValue283
 t139:=Tryz.underlying284
 a139:=Tryz.isAgg284
 z139:=Tryz.sizeOf284
 v139:=Tryz.zeroValue284
 g3:=by kernel_rfl
 g4:=by kernel_rfl}
open Go.RowKit in
theorem Tryz.strings_Trim_one (s:ByteArray) (c:UInt8) (hc:c.toNat<128) (w:World) (hs:s.size≤9223372036854775807):
 Calls Tryz.prog 169 #[.string s,.string ⟨#[c]⟩] w fun e w'=>e= .returned (.string ⟨(Lib.trimB s.data.toList c).toArray⟩)∧(w'=w∨w'=w.drew):=Any.strings_Trim_one Tryz.Sm s c hc w hs
def Tryz.IC:Go.Shelf.Ren:=⟨fun|283=>172|n=>n,fun|3=>3|9=>9|4=>4|n=>n,fun|n=>n⟩
theorem Tryz.Yv:Go.Proofs.Lays.n283 Tryz.prog Tryz.IC:={
 mixed:=by kernel_rfl
 f283:=Tryz.func172.trans (congrArg some (by kernel_rfl))
 t3:=Tryz.underlying3
 a3:=Tryz.isAgg3
 z3:=Tryz.sizeOf3
 v3:=Tryz.zeroValue3
 t4:=Tryz.underlying4
 a4:=Tryz.isAgg4
 z4:=Tryz.sizeOf4
 v4:=Tryz.zeroValue4
 t9:=Tryz.underlying9
 a9:=Tryz.isAgg9
 z9:=Tryz.sizeOf9
 v9:=Tryz.zeroValue9}
open Go.Lib in
theorem Tryz.internal_strconv_small (i:Nat) (h:i<100) (w:World):
 Calls Tryz.prog 172 #[.int .i64 i] w fun e w'=>e= .returned (.string ⟨(Lib.decDigits i).toArray⟩)∧w'=w:=Any.internal_strconv_small Tryz.Yv i h w
def Tryz.Hb:Go.Shelf.Ren:=⟨fun|284=>173|129=>189|317=>188|318=>190|n=>n,fun|53=>66|3=>3|212=>265|0=>0|4=>4|46=>153|5=>5|9=>9|n=>n,fun|17=>0|n=>n⟩
theorem Tryz.WE:Go.Proofs.LaysM.n284 Tryz.prog Tryz.Hb:={
 mixed:=by kernel_rfl
 f129:=Tryz.func189.trans (congrArg some (by kernel_rfl))
 f284:=Tryz.func173.trans (congrArg some (by kernel_rfl))
 f317:=Tryz.func188.trans (congrArg some (by kernel_rfl))
 f318:=Tryz.func190.trans (congrArg some (by kernel_rfl))
 t0:=Tryz.underlying0
 a0:=Tryz.isAgg0
 z0:=Tryz.sizeOf0
 v0:=Tryz.zeroValue0
 t3:=Tryz.underlying3
 a3:=Tryz.isAgg3
 z3:=Tryz.sizeOf3
 v3:=Tryz.zeroValue3
 t4:=Tryz.underlying4
 a4:=Tryz.isAgg4
 z4:=Tryz.sizeOf4
 v4:=Tryz.zeroValue4
 t5:=Tryz.underlying5
 a5:=Tryz.isAgg5
 z5:=Tryz.sizeOf5
 v5:=Tryz.zeroValue5
 t9:=Tryz.underlying9
 a9:=Tryz.isAgg9
 z9:=Tryz.sizeOf9
 v9:=Tryz.zeroValue9
 t46:=Tryz.underlying153
 a46:=Tryz.isAgg153
 z46:=Tryz.sizeOf153
 v46:=Tryz.zeroValue153
 t53:=Tryz.underlying66
 a53:=Tryz.isAgg66
 z53:=Tryz.sizeOf66
 v53:=Tryz.zeroValue66
 t212:=Tryz.underlying265
 a212:=Tryz.isAgg265
 z212:=Tryz.sizeOf265
 v212:=Tryz.zeroValue265
 g17:=by kernel_rfl
 i0:=by kernel_rfl
 i3:=by kernel_rfl
 i4:=by kernel_rfl
 i5:=by kernel_rfl
 i9:=by kernel_rfl
 i46:=by kernel_rfl
 i53:=by kernel_rfl
 i212:=by kernel_rfl
 m17:=by kernel_rfl}
open Go.Lib in
theorem Tryz.internal_strconv_numDigits (u:Nat) (h1:1≤u) (h2:u<18446744073709551616) (w:World) (htab:Lib.TabIs Tryz.prog w "internal/strconv.uint64pow10" .u64 Lib.pow10Tab):
 Calls Tryz.prog 173 #[.int .u64 u] w fun e w'=>e= .returned (.int .i64 (Lib.nDigits u))∧w'=w:=Any.internal_strconv_numDigits Tryz.WE u h1 h2 w htab
def Tryz.IB:Go.Shelf.Ren:=⟨fun|285=>174|n=>n,fun|37=>26|53=>66|3=>3|4=>4|51=>252|9=>9|5=>5|0=>0|n=>n,fun|n=>n⟩
theorem Tryz.Yu:Go.Proofs.Lays.n285 Tryz.prog Tryz.IB:={
 mixed:=by kernel_rfl
 f285:=Tryz.func174.trans (congrArg some (by kernel_rfl))
 t0:=Tryz.underlying0
 a0:=Tryz.isAgg0
 z0:=Tryz.sizeOf0
 v0:=Tryz.zeroValue0
 t3:=Tryz.underlying3
 a3:=Tryz.isAgg3
 z3:=Tryz.sizeOf3
 v3:=Tryz.zeroValue3
 t4:=Tryz.underlying4
 a4:=Tryz.isAgg4
 z4:=Tryz.sizeOf4
 v4:=Tryz.zeroValue4
 t5:=Tryz.underlying5
 a5:=Tryz.isAgg5
 z5:=Tryz.sizeOf5
 v5:=Tryz.zeroValue5
 t9:=Tryz.underlying9
 a9:=Tryz.isAgg9
 z9:=Tryz.sizeOf9
 v9:=Tryz.zeroValue9
 t37:=Tryz.underlying26
 a37:=Tryz.isAgg26
 z37:=Tryz.sizeOf26
 v37:=Tryz.zeroValue26
 t51:=Tryz.underlying252
 a51:=Tryz.isAgg252
 z51:=Tryz.sizeOf252
 v51:=Tryz.zeroValue252
 t53:=Tryz.underlying66
 a53:=Tryz.isAgg66
 z53:=Tryz.sizeOf66
 v53:=Tryz.zeroValue66}
open Go.RowKit Go.Sort Go.Lib in
theorem Tryz.internal_strconv_formatBase10 (blk off cap:Nat) (u:Nat) (d:Array UInt8) (w:World) (hH:Holds (fun(b:UInt8)=>Value.int .u8 (b.toNat:Int)) w blk off d) (hu:u<10 ^ d.size) (hu64:u<18446744073709551616) (hsz:d.size<4611686018427387904):
 Calls Tryz.prog 174 #[.slice (some ⟨blk,off,none⟩) d.size cap,.int .u64 u] w fun e w'=>
  e= .returned (.tuple #[])∧∃ (n v':Nat) (dk:Array UInt8),w'=(putRow (fun(b:UInt8)=>Value.int .u8 (b.toNat:Int)) w blk off dk).drewN n∧FmtInv d.size u 0 v' dk:=Any.internal_strconv_formatBase10 Tryz.Yu blk off cap u d w hH hu hu64 hsz
def Tryz.IE:Go.Shelf.Ren:=⟨fun|219=>180|217=>195|225=>196|224=>197|267=>198|266=>205|314=>206|n=>n,fun|9=>9|3=>3|4=>4|5=>5|46=>153|146=>253|51=>252|n=>n,fun|1=>1|n=>n⟩
theorem Tryz.Yx:Go.Proofs.Lays.n219 Tryz.prog Tryz.IE:={
 mixed:=by kernel_rfl
 f217:=Tryz.func195.trans (congrArg some (by kernel_rfl))
 f219:=Tryz.func180.trans (congrArg some (by kernel_rfl))
 f224:=Tryz.func197.trans (congrArg some (by kernel_rfl))
 f225:=Tryz.func196.trans (congrArg some (by kernel_rfl))
 f266:=Tryz.func205.trans (congrArg some (by kernel_rfl))
 f267:=Tryz.func198.trans (congrArg some (by kernel_rfl))
 f314:=Tryz.func206.trans (congrArg some (by kernel_rfl))
 t3:=Tryz.underlying3
 a3:=Tryz.isAgg3
 z3:=Tryz.sizeOf3
 v3:=Tryz.zeroValue3
 t4:=Tryz.underlying4
 a4:=Tryz.isAgg4
 z4:=Tryz.sizeOf4
 v4:=Tryz.zeroValue4
 t5:=Tryz.underlying5
 a5:=Tryz.isAgg5
 z5:=Tryz.sizeOf5
 v5:=Tryz.zeroValue5
 t9:=Tryz.underlying9
 a9:=Tryz.isAgg9
 z9:=Tryz.sizeOf9
 v9:=Tryz.zeroValue9
 t46:=Tryz.underlying153
 a46:=Tryz.isAgg153
 z46:=Tryz.sizeOf153
 v46:=Tryz.zeroValue153
 t51:=Tryz.underlying252
 a51:=Tryz.isAgg252
 z51:=Tryz.sizeOf252
 v51:=Tryz.zeroValue252
 t146:=Tryz.underlying253
 a146:=Tryz.isAgg253
 z146:=Tryz.sizeOf253
 v146:=Tryz.zeroValue253
 g1:=by kernel_rfl}
open Go.RowKit Go.Lib in
theorem Tryz.stringslite_Index_one (s:ByteArray) (c:UInt8) (w:World):
 Calls Tryz.prog 180 #[.string s,.string ⟨#[c]⟩] w fun e w'=>e= .returned (.int .i64 (Lib.indexByte s.data.toList c))∧w'=w:=Any.stringslite_Index_one Tryz.Yx s c w
def Tryz.ID:Go.Shelf.Ren:=⟨fun|264=>170|n=>n,fun|53=>66|46=>153|n=>n,fun|n=>n⟩
theorem Tryz.Yw:Go.Proofs.Lays.n264 Tryz.prog Tryz.ID:={
 mixed:=by kernel_rfl
 f264:=Tryz.func170.trans (congrArg some (by kernel_rfl))
 t46:=Tryz.underlying153
 a46:=Tryz.isAgg153
 z46:=Tryz.sizeOf153
 v46:=Tryz.zeroValue153
 t53:=Tryz.underlying66
 a53:=Tryz.isAgg66
 z53:=Tryz.sizeOf66
 v53:=Tryz.zeroValue66}
open Go.RowKit Go.Lib in
theorem Tryz.bits_Mul64 (x y:Nat) (hx:x<18446744073709551616) (hy:y<18446744073709551616) (w:World):
 Calls Tryz.prog 170 #[.int .u64 x,.int .u64 y] w fun e w'=>e= .returned (.tuple #[.int .u64 ((x*y / 18446744073709551616:Nat):Int),.int .u64 ((x*y % 18446744073709551616:Nat):Int)])∧w'=w:=Any.bits_Mul64 Tryz.Yw x y hx hy w
def Tryz.Fp:Go.Shelf.Ren:=⟨fun|105=>144|212=>158|99=>159|165=>160|166=>161|170=>162|169=>163|263=>176|264=>170|206=>177|240=>178|241=>179|276=>193|277=>194|n=>n,fun|9=>9|3=>3|4=>4|20=>20|0=>0|46=>153|109=>226|5=>5|72=>231|76=>235|51=>252|146=>253|53=>66|148=>244|70=>229|37=>26|75=>234|127=>255|164=>268|80=>238|n=>n,fun|n=>n⟩
theorem Tryz.Yy:Go.Proofs.Lays.n105 Tryz.prog Tryz.Fp:={
 mixed:=by kernel_rfl
 f99:=Tryz.func159.trans (congrArg some (by kernel_rfl))
 f105:=Tryz.func144.trans (congrArg some (by kernel_rfl))
 f165:=Tryz.func160.trans (congrArg some (by kernel_rfl))
 f166:=Tryz.func161.trans (congrArg some (by kernel_rfl))
 f169:=Tryz.func163.trans (congrArg some (by kernel_rfl))
 f170:=Tryz.func162.trans (congrArg some (by kernel_rfl))
 f206:=Tryz.func177.trans (congrArg some (by kernel_rfl))
 f212:=Tryz.func158.trans (congrArg some (by kernel_rfl))
 f240:=Tryz.func178.trans (congrArg some (by kernel_rfl))
 f241:=Tryz.func179.trans (congrArg some (by kernel_rfl))
 f263:=Tryz.func176.trans (congrArg some (by kernel_rfl))
 f264:=Tryz.func170.trans (congrArg some (by kernel_rfl))
 f276:=Tryz.func193.trans (congrArg some (by kernel_rfl))
 f277:=Tryz.func194.trans (congrArg some (by kernel_rfl))
 t0:=Tryz.underlying0
 a0:=Tryz.isAgg0
 z0:=Tryz.sizeOf0
 v0:=Tryz.zeroValue0
 t3:=Tryz.underlying3
 a3:=Tryz.isAgg3
 z3:=Tryz.sizeOf3
 v3:=Tryz.zeroValue3
 t4:=Tryz.underlying4
 a4:=Tryz.isAgg4
 z4:=Tryz.sizeOf4
 v4:=Tryz.zeroValue4
 t5:=Tryz.underlying5
 a5:=Tryz.isAgg5
 z5:=Tryz.sizeOf5
 v5:=Tryz.zeroValue5
 t9:=Tryz.underlying9
 a9:=Tryz.isAgg9
 z9:=Tryz.sizeOf9
 v9:=Tryz.zeroValue9
 t20:=Tryz.underlying20
 a20:=Tryz.isAgg20
 z20:=Tryz.sizeOf20
 v20:=Tryz.zeroValue20
 t37:=Tryz.underlying26
 a37:=Tryz.isAgg26
 z37:=Tryz.sizeOf26
 v37:=Tryz.zeroValue26
 t46:=Tryz.underlying153
 a46:=Tryz.isAgg153
 z46:=Tryz.sizeOf153
 v46:=Tryz.zeroValue153
 t51:=Tryz.underlying252
 a51:=Tryz.isAgg252
 z51:=Tryz.sizeOf252
 v51:=Tryz.zeroValue252
 t53:=Tryz.underlying66
 a53:=Tryz.isAgg66
 z53:=Tryz.sizeOf66
 v53:=Tryz.zeroValue66
 t70:=Tryz.underlying229
 a70:=Tryz.isAgg229
 z70:=Tryz.sizeOf229
 v70:=Tryz.zeroValue229
 t72:=Tryz.underlying231
 a72:=Tryz.isAgg231
 z72:=Tryz.sizeOf231
 v72:=Tryz.zeroValue231
 t75:=Tryz.underlying234
 a75:=Tryz.isAgg234
 z75:=Tryz.sizeOf234
 v75:=Tryz.zeroValue234
 t76:=Tryz.underlying235
 a76:=Tryz.isAgg235
 z76:=Tryz.sizeOf235
 v76:=Tryz.zeroValue235
 t109:=Tryz.underlying226
 a109:=Tryz.isAgg226
 z109:=Tryz.sizeOf226
 v109:=Tryz.zeroValue226
 t127:=Tryz.underlying255
 a127:=Tryz.isAgg255
 z127:=Tryz.sizeOf255
 v127:=Tryz.zeroValue255
 t146:=Tryz.underlying253
 a146:=Tryz.isAgg253
 z146:=Tryz.sizeOf253
 v146:=Tryz.zeroValue253
 t148:=Tryz.underlying244
 a148:=Tryz.isAgg244
 z148:=Tryz.sizeOf244
 v148:=Tryz.zeroValue244
 t164:=Tryz.underlying268
 a164:=Tryz.isAgg268
 z164:=Tryz.sizeOf268
 v164:=Tryz.zeroValue268}
theorem Tryz.FN:Builder.Extra Tryz.prog Tryz.Fp:={
 sizeBuilder:=by kernel_rfl
 liesBuilder:=by kernel_rfl
 t5:=Tryz.underlying5
 a5:=Tryz.isAgg5
 z5:=Tryz.sizeOf5
 v5:=Tryz.zeroValue5
 infoByte:=by kernel_rfl
 cellsByte:=by kernel_rfl
 sizeByte:=by kernel_rfl
 neB5:=by decide}
open Go.RowKit Go.Lib in
theorem Tryz.strings_Repeat (s:ByteArray) (c:Nat) (w:World) (hc:c≤9223372036854775807) (hlen:s.size*c≤140737488355328):
 Calls Tryz.prog 144 #[.string s,.int .i64 c] w fun e w'=>e= .returned (.string ⟨(Lib.repeatL s.data.toList c).toArray⟩)∧Below w.heap.size w w':=Any.strings_Repeat Tryz.Yy Tryz.FN s c w hc hlen
theorem Tryz.HO (s cutset:ByteArray) (w:World) (hs:s.size≤9223372036854775807) (hcs:cutset.size<4294967281)
  (hascii:∀ (j:Nat) b,cutset.data.toList[j]? =some b→b.toNat<128):
  Calls Tryz.prog 169 #[.string s,.string cutset] w fun e w'=>e= .returned (.string ⟨(Lib.trimS s.data.toList cutset.data.toList).toArray⟩)∧Go.RowKit.Below w.heap.size w w':=
 Any.strings_Trim_laid Tryz.Sm (by kernel_rfl) s cutset w hs hcs hascii
