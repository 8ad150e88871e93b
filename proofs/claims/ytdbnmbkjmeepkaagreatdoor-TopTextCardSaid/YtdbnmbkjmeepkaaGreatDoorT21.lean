/- A part of the proof of the card of TopText; no condition. -/
import Derived.Test.YtdbnmbkjmeepkaaGreatDoorT18
import Derived.Ground.SlsfProg
import Derived.Shelf.LaysM
import Derived.Shelf.SlGeneric
import Derived.Shelf.SlSortCmp.Whole1
import Derived.Shelf.Strconv.Atoi
import Derived.Shelf.Strconv.Itoa3
import Derived.Shelf.Strings.Builder1
import Derived.Shelf.Strings.BuilderF
import Derived.Shelf.Strings.BuilderK
import Derived.Shelf.Strings.Cut
import Derived.Shelf.Strings.OnBuilder
import Derived.Shelf.Strings.Split
import Derived.Test.YtdbnmbkjmeepkaaGreatDoorProg
namespace Go.Proofs
open Go.Shelf
def Tryz.tO:Go.Shelf.Ren:=⟨fun|169=>27|n=>n,fun|70=>73|9=>9|0=>0|72=>75|37=>44|127=>121|3=>3|5=>5|n=>n,fun|n=>n⟩
theorem Tryz.KX:Go.Proofs.Lays.n169 Tryz.prog Tryz.tO:={
 mixed:=by kernel_rfl
 f169:=Tryz.func27.trans (congrArg some (by kernel_rfl))
 t0:=Tryz.underlying0
 a0:=Tryz.isAgg0
 z0:=Tryz.sizeOf0
 v0:=Tryz.zeroValue0
 t3:=Tryz.underlying3
 a3:=Tryz.isAgg3
 z3:=Tryz.sizeOf3
 v3:=Tryz.zeroValue3
 t9:=Tryz.underlying9
 a9:=Tryz.isAgg9
 z9:=Tryz.sizeOf9
 v9:=Tryz.zeroValue9
 t37:=Tryz.underlying44
 a37:=Tryz.isAgg44
 z37:=Tryz.sizeOf44
 v37:=Tryz.zeroValue44
 t70:=Tryz.underlying73
 a70:=Tryz.isAgg73
 z70:=Tryz.sizeOf73
 v70:=Tryz.zeroValue73
 t72:=Tryz.underlying75
 a72:=Tryz.isAgg75
 z72:=Tryz.sizeOf75
 v72:=Tryz.zeroValue75
 t127:=Tryz.underlying121
 a127:=Tryz.isAgg121
 z127:=Tryz.sizeOf121
 v127:=Tryz.zeroValue121 }
theorem Tryz.qX:Builder.Extra Tryz.prog Tryz.tO:={
 sizeBuilder:=by kernel_rfl
 liesBuilder:=by kernel_rfl
 t5:=Tryz.underlying5
 a5:=Tryz.isAgg5
 z5:=Tryz.sizeOf5
 v5:=Tryz.zeroValue5
 infoByte:=by kernel_rfl
 cellsByte:=by kernel_rfl
 sizeByte:=by kernel_rfl
 neB5:=by decide }
def Tryz.nF:Go.Shelf.Ren:=⟨fun|156=>22|165=>49|166=>21|169=>27|240=>48|241=>78|276=>77|277=>119|n=>n,fun|31=>69|9=>9|3=>3|4=>4|0=>0|20=>20|72=>75|76=>78|70=>73|37=>44|75=>77|127=>121|164=>150|5=>5|80=>43|n=>n,fun|n=>n⟩
theorem Tryz.bW:Go.Proofs.Lays.n156 Tryz.prog Tryz.nF:={
 mixed:=by kernel_rfl
 f156:=Tryz.func22.trans (congrArg some (by kernel_rfl))
 f165:=Tryz.func49.trans (congrArg some (by kernel_rfl))
 f166:=Tryz.func21.trans (congrArg some (by kernel_rfl))
 f169:=Tryz.func27.trans (congrArg some (by kernel_rfl))
 f240:=Tryz.func48.trans (congrArg some (by kernel_rfl))
 f241:=Tryz.func78.trans (congrArg some (by kernel_rfl))
 f276:=Tryz.func77.trans (congrArg some (by kernel_rfl))
 f277:=Tryz.func119.trans (congrArg some (by kernel_rfl))
 t0:=Tryz.underlying0
 a0:=Tryz.isAgg0
 z0:=Tryz.sizeOf0
 v0:=Tryz.zeroValue0
 t3:=Tryz.underlying3
 a3:=Tryz.isAgg3
 z3:=Tryz.sizeOf3
 v3:=Tryz.zeroValue3
 t4:=Tryz.underlying4
 a4:=Tryz.isAgg4
 z4:=Tryz.sizeOf4
 v4:=Tryz.zeroValue4
 t9:=Tryz.underlying9
 a9:=Tryz.isAgg9
 z9:=Tryz.sizeOf9
 v9:=Tryz.zeroValue9
 t20:=Tryz.underlying20
 a20:=Tryz.isAgg20
 z20:=Tryz.sizeOf20
 v20:=Tryz.zeroValue20
 t31:=Tryz.underlying69
 a31:=Tryz.isAgg69
 z31:=Tryz.sizeOf69
 v31:=Tryz.zeroValue69
 t37:=Tryz.underlying44
 a37:=Tryz.isAgg44
 z37:=Tryz.sizeOf44
 v37:=Tryz.zeroValue44
 t70:=Tryz.underlying73
 a70:=Tryz.isAgg73
 z70:=Tryz.sizeOf73
 v70:=Tryz.zeroValue73
 t72:=Tryz.underlying75
 a72:=Tryz.isAgg75
 z72:=Tryz.sizeOf75
 v72:=Tryz.zeroValue75
 t75:=Tryz.underlying77
 a75:=Tryz.isAgg77
 z75:=Tryz.sizeOf77
 v75:=Tryz.zeroValue77
 t76:=Tryz.underlying78
 a76:=Tryz.isAgg78
 z76:=Tryz.sizeOf78
 v76:=Tryz.zeroValue78
 t127:=Tryz.underlying121
 a127:=Tryz.isAgg121
 z127:=Tryz.sizeOf121
 v127:=Tryz.zeroValue121
 t164:=Tryz.underlying150
 a164:=Tryz.isAgg150
 z164:=Tryz.sizeOf150
 v164:=Tryz.zeroValue150 }
theorem Tryz.kF:Builder.Extra Tryz.prog Tryz.nF:={
 sizeBuilder:=by kernel_rfl
 liesBuilder:=by kernel_rfl
 t5:=Tryz.underlying5
 a5:=Tryz.isAgg5
 z5:=Tryz.sizeOf5
 v5:=Tryz.zeroValue5
 infoByte:=by kernel_rfl
 cellsByte:=by kernel_rfl
 sizeByte:=by kernel_rfl
 neB5:=by decide }
open Go.RowKit in
open Go.RowKit in
theorem Tryz.strings_Join (bk o c:Nat) (xs:List ByteArray) (sep:ByteArray) (w:World) (hcells:∀ (j:Nat) x,xs[j]?=some x→w.cell? ⟨bk,o+j,none⟩=some (.string x)) (hbk:bk<w.heap.size) (hN:xs.length≤140737488355328) (hcap:xs.length≤c) (hlen:(Lib.join (xs.map (·.data.toList)) sep.data.toList).length≤140737488355328) :
  Calls Tryz.prog 22 #[.slice (some ⟨bk,o,none⟩) xs.length c,.string sep] w fun e w'=>e=.returned (.string ⟨(Lib.join (xs.map (·.data.toList)) sep.data.toList).toArray⟩)∧Below w.heap.size w w':=Any.strings_Join Tryz.bW Tryz.kF bk o c xs sep w hcells hbk hN hcap hlen
open Go.RowKit in
theorem Tryz.Builder_String_any_k (B b:Nat) (l:List UInt8) (w:World) (h:Lib.IsBuilderF 75 5 B b (Lib.byteCells l) w) (hBw:B≤w.heap.size) :
  Calls Tryz.prog 27 #[.pointer (some ⟨b,0,none⟩)] w fun e w'=>e=.returned (.string ⟨l.toArray⟩)∧(Lib.IsBuilderF 75 5 B b (Lib.byteCells l) w'∧Below B w w'∧Lib.OthersKept 5 (some b) w w'):=Any.Builder_String_any_k Tryz.KX Tryz.qX B b l w h hBw
def Tryz.B9:Go.Shelf.Ren:=⟨fun|172=>72|244=>112|245=>113|247=>152|279=>153|280=>154|281=>155|282=>156|287=>193|316=>194|171=>50|205=>195|321=>214|322=>215|243=>79|246=>120|283=>160|284=>161|285=>162|286=>163|129=>197|317=>196|318=>198|319=>199|320=>200|337=>216|338=>217|n=>n,fun|9=>9|3=>3|75=>77|76=>78|4=>4|5=>5|167=>245|37=>44|0=>0|85=>246|2=>2|168=>248|53=>158|175=>298|46=>140|210=>302|127=>121|145=>326|143=>324|21=>21|171=>254|173=>257|212=>305|51=>62|20=>20|213=>306|232=>332|233=>22|80=>43|n=>n,fun|15=>3|16=>4|17=>5|18=>6|19=>7|n=>n⟩
theorem Tryz.JR:Go.Proofs.Lays.n172 Tryz.prog Tryz.B9:={
 mixed:=by kernel_rfl
 f129:=Tryz.func197.trans (congrArg some (by kernel_rfl))
 f171:=Tryz.func50.trans (congrArg some (by kernel_rfl))
 f172:=Tryz.func72.trans (congrArg some (by kernel_rfl))
 f205:=Tryz.func195.trans (congrArg some (by kernel_rfl))
 f243:=Tryz.func79.trans (congrArg some (by kernel_rfl))
 f244:=Tryz.func112.trans (congrArg some (by kernel_rfl))
 f245:=Tryz.func113.trans (congrArg some (by kernel_rfl))
 f246:=Tryz.func120.trans (congrArg some (by kernel_rfl))
 f247:=Tryz.func152.trans (congrArg some (by kernel_rfl))
 f279:=Tryz.func153.trans (congrArg some (by kernel_rfl))
 f280:=Tryz.func154.trans (congrArg some (by kernel_rfl))
 f281:=Tryz.func155.trans (congrArg some (by kernel_rfl))
 f282:=Tryz.func156.trans (congrArg some (by kernel_rfl))
 f283:=Tryz.func160.trans (congrArg some (by kernel_rfl))
 f284:=Tryz.func161.trans (congrArg some (by kernel_rfl))
 f285:=Tryz.func162.trans (congrArg some (by kernel_rfl))
 f286:=Tryz.func163.trans (congrArg some (by kernel_rfl))
 f287:=Tryz.func193.trans (congrArg some (by kernel_rfl))
 f316:=Tryz.func194.trans (congrArg some (by kernel_rfl))
 f317:=Tryz.func196.trans (congrArg some (by kernel_rfl))
 f318:=Tryz.func198.trans (congrArg some (by kernel_rfl))
 f319:=Tryz.func199.trans (congrArg some (by kernel_rfl))
 f320:=Tryz.func200.trans (congrArg some (by kernel_rfl))
 f321:=Tryz.func214.trans (congrArg some (by kernel_rfl))
 f322:=Tryz.func215.trans (congrArg some (by kernel_rfl))
 f337:=Tryz.func216.trans (congrArg some (by kernel_rfl))
 f338:=Tryz.func217.trans (congrArg some (by kernel_rfl))
 t0:=Tryz.underlying0
 a0:=Tryz.isAgg0
 z0:=Tryz.sizeOf0
 v0:=Tryz.zeroValue0
 t2:=Tryz.underlying2
 a2:=Tryz.isAgg2
 z2:=Tryz.sizeOf2
 v2:=Tryz.zeroValue2
 t3:=Tryz.underlying3
 a3:=Tryz.isAgg3
 z3:=Tryz.sizeOf3
 v3:=Tryz.zeroValue3
 t4:=Tryz.underlying4
 a4:=Tryz.isAgg4
 z4:=Tryz.sizeOf4
 v4:=Tryz.zeroValue4
 t5:=Tryz.underlying5
 a5:=Tryz.isAgg5
 z5:=Tryz.sizeOf5
 v5:=Tryz.zeroValue5
 t9:=Tryz.underlying9
 a9:=Tryz.isAgg9
 z9:=Tryz.sizeOf9
 v9:=Tryz.zeroValue9
 t20:=Tryz.underlying20
 a20:=Tryz.isAgg20
 z20:=Tryz.sizeOf20
 v20:=Tryz.zeroValue20
 t21:=Tryz.underlying21
 a21:=Tryz.isAgg21
 z21:=Tryz.sizeOf21
 v21:=Tryz.zeroValue21
 t37:=Tryz.underlying44
 a37:=Tryz.isAgg44
 z37:=Tryz.sizeOf44
 v37:=Tryz.zeroValue44
 t46:=Tryz.underlying140
 a46:=Tryz.isAgg140
 z46:=Tryz.sizeOf140
 v46:=Tryz.zeroValue140
 t51:=Tryz.underlying62
 a51:=Tryz.isAgg62
 z51:=Tryz.sizeOf62
 v51:=Tryz.zeroValue62
 t53:=Tryz.underlying158
 a53:=Tryz.isAgg158
 z53:=Tryz.sizeOf158
 v53:=Tryz.zeroValue158
 t75:=Tryz.underlying77
 a75:=Tryz.isAgg77
 z75:=Tryz.sizeOf77
 v75:=Tryz.zeroValue77
 t76:=Tryz.underlying78
 a76:=Tryz.isAgg78
 z76:=Tryz.sizeOf78
 v76:=Tryz.zeroValue78
 t85:=Tryz.underlying246
 a85:=Tryz.isAgg246
 z85:=Tryz.sizeOf246
 v85:=Tryz.zeroValue246
 t127:=Tryz.underlying121
 a127:=Tryz.isAgg121
 z127:=Tryz.sizeOf121
 v127:=Tryz.zeroValue121
 t143:=Tryz.underlying324
 a143:=Tryz.isAgg324
 z143:=Tryz.sizeOf324
 v143:=Tryz.zeroValue324
 t145:=Tryz.underlying326
 a145:=Tryz.isAgg326
 z145:=Tryz.sizeOf326
 v145:=Tryz.zeroValue326
 t167:=Tryz.underlying245
 a167:=Tryz.isAgg245
 z167:=Tryz.sizeOf245
 v167:=Tryz.zeroValue245
 t168:=Tryz.underlying248
 a168:=Tryz.isAgg248
 z168:=Tryz.sizeOf248
 v168:=Tryz.zeroValue248
 t171:=Tryz.underlying254
 a171:=Tryz.isAgg254
 z171:=Tryz.sizeOf254
 v171:=Tryz.zeroValue254
 t173:=Tryz.underlying257
 a173:=Tryz.isAgg257
 z173:=Tryz.sizeOf257
 v173:=Tryz.zeroValue257
 t175:=Tryz.underlying298
 a175:=Tryz.isAgg298
 z175:=Tryz.sizeOf298
 v175:=Tryz.zeroValue298
 t210:=Tryz.underlying302
 a210:=Tryz.isAgg302
 z210:=Tryz.sizeOf302
 v210:=Tryz.zeroValue302
 t212:=Tryz.underlying305
 a212:=Tryz.isAgg305
 z212:=Tryz.sizeOf305
 v212:=Tryz.zeroValue305
 t213:=Tryz.underlying306
 a213:=Tryz.isAgg306
 z213:=Tryz.sizeOf306
 t232:=Tryz.underlying332
 a232:=Tryz.isAgg332
 z232:=Tryz.sizeOf332
 v232:=Tryz.zeroValue332
 t233:=Tryz.underlying22
 a233:=Tryz.isAgg22
 z233:=Tryz.sizeOf22
 v233:=Tryz.zeroValue22
 g15:=by kernel_rfl
 g16:=by kernel_rfl
 g17:=by kernel_rfl
 g18:=by kernel_rfl
 g19:=by kernel_rfl }
open Go.RowKit in
theorem Tryz.strconv_Atoi (s:ByteArray) (n:Int) (hl:s.size≤18) (h:Lib.atoi s.data.toList=some n) (w:World) :
  Calls Tryz.prog 72 #[.string s] w fun e w'=>e=.returned (.tuple #[.int .i64 n,.nilIface])∧∃ t,w'=Lib.bytesWorld w 5 t:=Any.strconv_Atoi Tryz.JR s n hl h w
def Tryz.Aq:Go.Shelf.Ren:=⟨fun|171=>50|243=>79|246=>120|283=>160|284=>161|285=>162|286=>163|129=>197|317=>196|318=>198|319=>199|320=>200|337=>216|338=>217|n=>n,fun|3=>3|9=>9|2=>2|4=>4|171=>254|0=>0|53=>158|37=>44|5=>5|173=>257|212=>305|51=>62|20=>20|213=>306|46=>140|232=>332|233=>22|n=>n,fun|17=>5|18=>6|19=>7|n=>n⟩
theorem Tryz.Gj:Go.Proofs.LaysM.n171 Tryz.prog Tryz.Aq:={
 mixed:=by kernel_rfl
 f129:=Tryz.func197.trans (congrArg some (by kernel_rfl))
 f171:=Tryz.func50.trans (congrArg some (by kernel_rfl))
 f243:=Tryz.func79.trans (congrArg some (by kernel_rfl))
 f246:=Tryz.func120.trans (congrArg some (by kernel_rfl))
 f283:=Tryz.func160.trans (congrArg some (by kernel_rfl))
 f284:=Tryz.func161.trans (congrArg some (by kernel_rfl))
 f285:=Tryz.func162.trans (congrArg some (by kernel_rfl))
 f286:=Tryz.func163.trans (congrArg some (by kernel_rfl))
 f317:=Tryz.func196.trans (congrArg some (by kernel_rfl))
 f318:=Tryz.func198.trans (congrArg some (by kernel_rfl))
 f319:=Tryz.func199.trans (congrArg some (by kernel_rfl))
 f320:=Tryz.func200.trans (congrArg some (by kernel_rfl))
 f337:=Tryz.func216.trans (congrArg some (by kernel_rfl))
 f338:=Tryz.func217.trans (congrArg some (by kernel_rfl))
 t0:=Tryz.underlying0
 a0:=Tryz.isAgg0
 z0:=Tryz.sizeOf0
 v0:=Tryz.zeroValue0
 t2:=Tryz.underlying2
 a2:=Tryz.isAgg2
 z2:=Tryz.sizeOf2
 v2:=Tryz.zeroValue2
 t3:=Tryz.underlying3
 a3:=Tryz.isAgg3
 z3:=Tryz.sizeOf3
 v3:=Tryz.zeroValue3
 t4:=Tryz.underlying4
 a4:=Tryz.isAgg4
 z4:=Tryz.sizeOf4
 v4:=Tryz.zeroValue4
 t5:=Tryz.underlying5
 a5:=Tryz.isAgg5
 z5:=Tryz.sizeOf5
 v5:=Tryz.zeroValue5
 t9:=Tryz.underlying9
 a9:=Tryz.isAgg9
 z9:=Tryz.sizeOf9
 v9:=Tryz.zeroValue9
 t20:=Tryz.underlying20
 a20:=Tryz.isAgg20
 z20:=Tryz.sizeOf20
 v20:=Tryz.zeroValue20
 t37:=Tryz.underlying44
 a37:=Tryz.isAgg44
 z37:=Tryz.sizeOf44
 v37:=Tryz.zeroValue44
 t46:=Tryz.underlying140
 a46:=Tryz.isAgg140
 z46:=Tryz.sizeOf140
 v46:=Tryz.zeroValue140
 t51:=Tryz.underlying62
 a51:=Tryz.isAgg62
 z51:=Tryz.sizeOf62
 v51:=Tryz.zeroValue62
 t53:=Tryz.underlying158
 a53:=Tryz.isAgg158
 z53:=Tryz.sizeOf158
 v53:=Tryz.zeroValue158
 t171:=Tryz.underlying254
 a171:=Tryz.isAgg254
 z171:=Tryz.sizeOf254
 v171:=Tryz.zeroValue254
 t173:=Tryz.underlying257
 a173:=Tryz.isAgg257
 z173:=Tryz.sizeOf257
 v173:=Tryz.zeroValue257
 t212:=Tryz.underlying305
 a212:=Tryz.isAgg305
 z212:=Tryz.sizeOf305
 v212:=Tryz.zeroValue305
 t213:=Tryz.underlying306
 a213:=Tryz.isAgg306
 z213:=Tryz.sizeOf306
 t232:=Tryz.underlying332
 a232:=Tryz.isAgg332
 z232:=Tryz.sizeOf332
 v232:=Tryz.zeroValue332
 t233:=Tryz.underlying22
 a233:=Tryz.isAgg22
 z233:=Tryz.sizeOf22
 v233:=Tryz.zeroValue22
 g17:=by kernel_rfl
 g18:=by kernel_rfl
 g19:=by kernel_rfl
 i0:=by kernel_rfl
 i2:=by kernel_rfl
 i3:=by kernel_rfl
 i4:=by kernel_rfl
 i5:=by kernel_rfl
 i9:=by kernel_rfl
 i20:=by kernel_rfl
 i37:=by kernel_rfl
 i46:=by kernel_rfl
 i51:=by kernel_rfl
 i53:=by kernel_rfl
 i171:=by kernel_rfl
 i173:=by kernel_rfl
 i212:=by kernel_rfl
 i232:=by kernel_rfl
 i233:=by kernel_rfl
 m17:=by kernel_rfl
 m18:=by kernel_rfl
 m19:=by kernel_rfl }
open Go.RowKit Go.Sort Go.Lib in
theorem Tryz.strconv_Itoa (n:Int) (h0:-9223372036854775808≤n) (h1:n≤9223372036854775807) (w:World) (htab:Lib.TabIs Tryz.prog w "internal/strconv.uint64pow10" .u64 Lib.pow10Tab) :
  Calls Tryz.prog 50 #[.int .i64 n] w fun e w'=>e=.returned (.string ⟨(Lib.itoa n).toArray⟩)∧∃ k os,w'=grow (w.drewN k) os:=Any.strconv_Itoa Tryz.Gj n h0 h1 w htab
def Tryz.Cf:Go.Shelf.Ren:=⟨fun|145=>114|220=>157|219=>111|217=>148|225=>149|224=>150|267=>151|266=>191|314=>192|n=>n,fun|9=>9|4=>4|59=>205|3=>3|5=>5|46=>140|146=>296|51=>62|n=>n,fun|1=>0|n=>n⟩
theorem Tryz.KG:Go.Proofs.Lays.n145 Tryz.prog Tryz.Cf:={
 mixed:=by kernel_rfl
 f145:=Tryz.func114.trans (congrArg some (by kernel_rfl))
 f217:=Tryz.func148.trans (congrArg some (by kernel_rfl))
 f219:=Tryz.func111.trans (congrArg some (by kernel_rfl))
 f220:=Tryz.func157.trans (congrArg some (by kernel_rfl))
 f224:=Tryz.func150.trans (congrArg some (by kernel_rfl))
 f225:=Tryz.func149.trans (congrArg some (by kernel_rfl))
 f266:=Tryz.func191.trans (congrArg some (by kernel_rfl))
 f267:=Tryz.func151.trans (congrArg some (by kernel_rfl))
 f314:=Tryz.func192.trans (congrArg some (by kernel_rfl))
 t3:=Tryz.underlying3
 a3:=Tryz.isAgg3
 z3:=Tryz.sizeOf3
 v3:=Tryz.zeroValue3
 t4:=Tryz.underlying4
 a4:=Tryz.isAgg4
 z4:=Tryz.sizeOf4
 v4:=Tryz.zeroValue4
 t5:=Tryz.underlying5
 a5:=Tryz.isAgg5
 z5:=Tryz.sizeOf5
 v5:=Tryz.zeroValue5
 t9:=Tryz.underlying9
 a9:=Tryz.isAgg9
 z9:=Tryz.sizeOf9
 v9:=Tryz.zeroValue9
 t46:=Tryz.underlying140
 a46:=Tryz.isAgg140
 z46:=Tryz.sizeOf140
 v46:=Tryz.zeroValue140
 t51:=Tryz.underlying62
 a51:=Tryz.isAgg62
 z51:=Tryz.sizeOf62
 v51:=Tryz.zeroValue62
 t59:=Tryz.underlying205
 a59:=Tryz.isAgg205
 z59:=Tryz.sizeOf205
 v59:=Tryz.zeroValue205
 t146:=Tryz.underlying296
 a146:=Tryz.isAgg296
 z146:=Tryz.sizeOf296
 v146:=Tryz.zeroValue296
 g1:=by kernel_rfl }
open Go.RowKit Go.Lib in
theorem Tryz.strings_Cut (s sep:ByteArray) (m:Int) (w:World) (hs:s.size<4294967281) (hm:w.cell? ⟨0,0,none⟩=some (.int .i64 m)) :
  Calls Tryz.prog 114 #[.string s,.string sep] w fun e w'=>e=.returned (.tuple #[.string ⟨(Lib.cut s.data.toList sep.data.toList).1.toArray⟩,.string ⟨(Lib.cut s.data.toList sep.data.toList).2.1.toArray⟩,.bool (Lib.cut s.data.toList sep.data.toList).2.2])∧∃ n,w'=w.drewN n:=Any.strings_Cut Tryz.KG s sep m w hs hm
def Tryz.CA:Go.Shelf.Ren:=⟨fun|146=>16|221=>38|268=>69|138=>70|143=>71|195=>108|197=>109|218=>110|219=>111|260=>147|217=>148|225=>149|224=>150|267=>151|266=>191|314=>192|n=>n,fun|9=>9|31=>69|3=>3|4=>4|0=>0|105=>201|21=>21|5=>5|46=>140|119=>292|139=>295|138=>294|146=>296|51=>62|n=>n,fun|1=>0|3=>1|4=>2|n=>n⟩
theorem Tryz.Jz:Go.Proofs.Lays.n146 Tryz.prog Tryz.CA:={
 mixed:=by kernel_rfl
 f138:=Tryz.func70.trans (congrArg some (by kernel_rfl))
 f143:=Tryz.func71.trans (congrArg some (by kernel_rfl))
 f146:=Tryz.func16.trans (congrArg some (by kernel_rfl))
 f195:=Tryz.func108.trans (congrArg some (by kernel_rfl))
 f197:=Tryz.func109.trans (congrArg some (by kernel_rfl))
 f217:=Tryz.func148.trans (congrArg some (by kernel_rfl))
 f218:=Tryz.func110.trans (congrArg some (by kernel_rfl))
 f219:=Tryz.func111.trans (congrArg some (by kernel_rfl))
 f221:=Tryz.func38.trans (congrArg some (by kernel_rfl))
 f224:=Tryz.func150.trans (congrArg some (by kernel_rfl))
 f225:=Tryz.func149.trans (congrArg some (by kernel_rfl))
 f260:=Tryz.func147.trans (congrArg some (by kernel_rfl))
 f266:=Tryz.func191.trans (congrArg some (by kernel_rfl))
 f267:=Tryz.func151.trans (congrArg some (by kernel_rfl))
 f268:=Tryz.func69.trans (congrArg some (by kernel_rfl))
 f314:=Tryz.func192.trans (congrArg some (by kernel_rfl))
 t0:=Tryz.underlying0
 a0:=Tryz.isAgg0
 z0:=Tryz.sizeOf0
 v0:=Tryz.zeroValue0
 t3:=Tryz.underlying3
 a3:=Tryz.isAgg3
 z3:=Tryz.sizeOf3
 v3:=Tryz.zeroValue3
 t4:=Tryz.underlying4
 a4:=Tryz.isAgg4
 z4:=Tryz.sizeOf4
 v4:=Tryz.zeroValue4
 t5:=Tryz.underlying5
 a5:=Tryz.isAgg5
 z5:=Tryz.sizeOf5
 v5:=Tryz.zeroValue5
 t9:=Tryz.underlying9
 a9:=Tryz.isAgg9
 z9:=Tryz.sizeOf9
 v9:=Tryz.zeroValue9
 t21:=Tryz.underlying21
 a21:=Tryz.isAgg21
 z21:=Tryz.sizeOf21
 v21:=Tryz.zeroValue21
 t31:=Tryz.underlying69
 a31:=Tryz.isAgg69
 z31:=Tryz.sizeOf69
 v31:=Tryz.zeroValue69
 t46:=Tryz.underlying140
 a46:=Tryz.isAgg140
 z46:=Tryz.sizeOf140
 v46:=Tryz.zeroValue140
 t51:=Tryz.underlying62
 a51:=Tryz.isAgg62
 z51:=Tryz.sizeOf62
 v51:=Tryz.zeroValue62
 t105:=Tryz.underlying201
 a105:=Tryz.isAgg201
 z105:=Tryz.sizeOf201
 v105:=Tryz.zeroValue201
 t119:=Tryz.underlying292
 a119:=Tryz.isAgg292
 z119:=Tryz.sizeOf292
 t138:=Tryz.underlying294
 a138:=Tryz.isAgg294
 z138:=Tryz.sizeOf294
 v138:=Tryz.zeroValue294
 t139:=Tryz.underlying295
 a139:=Tryz.isAgg295
 z139:=Tryz.sizeOf295
 v139:=Tryz.zeroValue295
 t146:=Tryz.underlying296
 a146:=Tryz.isAgg296
 z146:=Tryz.sizeOf296
 v146:=Tryz.zeroValue296
 g1:=by kernel_rfl
 g3:=by kernel_rfl
 g4:=by kernel_rfl }
open Go.RowKit Go.Lib in
theorem Tryz.strings_Split (s sep:ByteArray) (m:Int) (w:World) (hs:s.size<4294967281) (hm:w.cell? ⟨0,0,none⟩=some (.int .i64 m)) (h1:1≤sep.size) :
  Calls Tryz.prog 16 #[.string s,.string sep] w fun e w' =>
   e=.returned (.slice (some ⟨w.heap.size,0,none⟩) (Lib.countB s sep+1) (Lib.countB s sep+1))∧w'=w.alloc (.cells ((Lib.splitB sep 0 (Lib.countB s sep) s).map Value.string).toArray 9):=Any.strings_Split Tryz.Jz (by kernel_rfl) s sep m w hs hm h1
def Tryz.qE:Go.Shelf.Ren:=⟨fun|6=>219|15=>201|14=>223|28=>218|29=>197|20=>224|21=>225|22=>226|23=>227|24=>228|25=>229|26=>230|27=>231|46=>232|47=>233|48=>234|49=>235|50=>236|57=>237|n=>n,fun|22=>179|24=>3|25=>61|3=>3|39=>140|0=>0|53=>62|55=>158|4=>4|46=>336|45=>335|50=>208|5=>5|9=>9|66=>341|70=>344|76=>346|77=>152|n=>n,fun|n=>n⟩
theorem Tryz.xE:Go.Proofs.SlLaysF.n6 Tryz.prog Tryz.qE:={
 mixed:=by kernel_rfl
 f6:=⟨Tryz.f219.name,by decide,Tryz.func219.trans (congrArg some (by kernel_rfl))⟩
 f14:=⟨Tryz.f223.name,by decide,Tryz.func223.trans (congrArg some (by kernel_rfl))⟩
 f15:=Tryz.func201.trans (congrArg some (by kernel_rfl))
 f20:=⟨Tryz.f224.name,by decide,Tryz.func224.trans (congrArg some (by kernel_rfl))⟩
 f21:=⟨Tryz.f225.name,by decide,Tryz.func225.trans (congrArg some (by kernel_rfl))⟩
 f22:=⟨Tryz.f226.name,by decide,Tryz.func226.trans (congrArg some (by kernel_rfl))⟩
 f23:=⟨Tryz.f227.name,by decide,Tryz.func227.trans (congrArg some (by kernel_rfl))⟩
 f24:=⟨Tryz.f228.name,by decide,Tryz.func228.trans (congrArg some (by kernel_rfl))⟩
 f25:=⟨Tryz.f229.name,by decide,Tryz.func229.trans (congrArg some (by kernel_rfl))⟩
 f26:=⟨Tryz.f230.name,by decide,Tryz.func230.trans (congrArg some (by kernel_rfl))⟩
 f27:=⟨Tryz.f231.name,by decide,Tryz.func231.trans (congrArg some (by kernel_rfl))⟩
 f28:=Tryz.func218.trans (congrArg some (by kernel_rfl))
 f29:=Tryz.func197.trans (congrArg some (by kernel_rfl))
 f46:=⟨Tryz.f232.name,by decide,Tryz.func232.trans (congrArg some (by kernel_rfl))⟩
 f47:=Tryz.func233.trans (congrArg some (by kernel_rfl))
 f48:=Tryz.func234.trans (congrArg some (by kernel_rfl))
 f49:=⟨Tryz.f235.name,by decide,Tryz.func235.trans (congrArg some (by kernel_rfl))⟩
 f50:=⟨Tryz.f236.name,by decide,Tryz.func236.trans (congrArg some (by kernel_rfl))⟩
 f57:=⟨Tryz.f237.name,by decide,Tryz.func237.trans (congrArg some (by kernel_rfl))⟩
 t0:=Tryz.underlying0
 a0:=Tryz.isAgg0
 z0:=Tryz.sizeOf0
 v0:=Tryz.zeroValue0
 t3:=Tryz.underlying3
 a3:=Tryz.isAgg3
 z3:=Tryz.sizeOf3
 v3:=Tryz.zeroValue3
 t4:=Tryz.underlying4
 a4:=Tryz.isAgg4
 z4:=Tryz.sizeOf4
 v4:=Tryz.zeroValue4
 t5:=Tryz.underlying5
 a5:=Tryz.isAgg5
 z5:=Tryz.sizeOf5
 v5:=Tryz.zeroValue5
 t9:=Tryz.underlying9
 a9:=Tryz.isAgg9
 z9:=Tryz.sizeOf9
 v9:=Tryz.zeroValue9
 t22:=Tryz.underlying179
 a22:=Tryz.isAgg179
 z22:=Tryz.sizeOf179
 v22:=Tryz.zeroValue179
 a24:=Tryz.isAgg3
 z24:=Tryz.sizeOf3
 t25:=Tryz.underlying61
 a25:=Tryz.isAgg61
 z25:=Tryz.sizeOf61
 v25:=Tryz.zeroValue61
 t39:=Tryz.underlying140
 a39:=Tryz.isAgg140
 z39:=Tryz.sizeOf140
 v39:=Tryz.zeroValue140
 t45:=Tryz.underlying335
 a45:=Tryz.isAgg335
 z45:=Tryz.sizeOf335
 v45:=Tryz.zeroValue335
 t46:=Tryz.underlying336
 a46:=Tryz.isAgg336
 z46:=Tryz.sizeOf336
 v46:=Tryz.zeroValue336
 t50:=Tryz.underlying208
 a50:=Tryz.isAgg208
 z50:=Tryz.sizeOf208
 v50:=Tryz.zeroValue208
 t53:=Tryz.underlying62
 a53:=Tryz.isAgg62
 z53:=Tryz.sizeOf62
 v53:=Tryz.zeroValue62
 t55:=Tryz.underlying158
 a55:=Tryz.isAgg158
 z55:=Tryz.sizeOf158
 v55:=Tryz.zeroValue158
 t66:=Tryz.underlying341
 a66:=Tryz.isAgg341
 z66:=Tryz.sizeOf341
 v66:=Tryz.zeroValue341
 t70:=Tryz.underlying344
 a70:=Tryz.isAgg344
 z70:=Tryz.sizeOf344
 v70:=Tryz.zeroValue344
 t76:=Tryz.underlying346
 a76:=Tryz.isAgg346
 z76:=Tryz.sizeOf346
 v76:=Tryz.zeroValue346
 t77:=Tryz.underlying152
 a77:=Tryz.isAgg152
 z77:=Tryz.sizeOf152
 v77:=Tryz.zeroValue152 }
open Go.RowKit Go.Lib Go.Sort in
theorem Tryz.slices_SortFunc_eq {α:Type} [Inhabited α] (enc:α→Value) (h1:OneCell enc) (cf:α→α→Int) (hO:SWO (ltOf cf)) (g:Nat) (cb:Array Value) (dI off cap:Nat) (d:Array α) (w:World) (eg:∀ args w,(callFunc g args).run Tryz.prog w=.ok (.enter g args) w) (hcmp:CmpLays1 Tryz.prog g cb enc cf dI off d.size w) (hH:Holds enc w dI off d) (hblk:dI<w.heap.size) (hsz:d.size<4611686018427387904) :
  Calls Tryz.prog 219 #[.slice (some ⟨dI,off,none⟩) d.size cap,.func (.func g) #[] cb] w fun e w' =>
   e=.returned (.tuple #[])∧∃ n os,w'=sortWorld enc w dI off n (pdq (ltOf cf) d 0 d.size (Lib.bitLen d.size) true true) os:=Any.slices_SortFunc_eq Tryz.xE enc h1 cf hO g cb dI off cap d w eg hcmp hH hblk hsz
theorem Tryz.Jd:Go.Proofs.Lays.n166 Tryz.prog Tryz.nF:={
 mixed:=Tryz.bW.mixed
 f166:=Tryz.bW.f166
 f240:=Tryz.bW.f240
 f276:=Tryz.bW.f276
 t0:=Tryz.bW.t0
 a0:=Tryz.bW.a0
 z0:=Tryz.bW.z0
 v0:=Tryz.bW.v0
 t3:=Tryz.bW.t3
 a3:=Tryz.bW.a3
 z3:=Tryz.bW.z3
 v3:=Tryz.bW.v3
 t4:=Tryz.bW.t4
 a4:=Tryz.bW.a4
 z4:=Tryz.bW.z4
 v4:=Tryz.bW.v4
 t9:=Tryz.bW.t9
 a9:=Tryz.bW.a9
 z9:=Tryz.bW.z9
 v9:=Tryz.bW.v9
 t20:=Tryz.bW.t20
 a20:=Tryz.bW.a20
 z20:=Tryz.bW.z20
 v20:=Tryz.bW.v20
 t37:=Tryz.bW.t37
 a37:=Tryz.bW.a37
 z37:=Tryz.bW.z37
 v37:=Tryz.bW.v37
 t70:=Tryz.bW.t70
 a70:=Tryz.bW.a70
 z70:=Tryz.bW.z70
 v70:=Tryz.bW.v70
 t72:=Tryz.bW.t72
 a72:=Tryz.bW.a72
 z72:=Tryz.bW.z72
 v72:=Tryz.bW.v72
 t75:=Tryz.bW.t75
 a75:=Tryz.bW.a75
 z75:=Tryz.bW.z75
 v75:=Tryz.bW.v75
 t164:=Tryz.bW.t164
 a164:=Tryz.bW.a164
 z164:=Tryz.bW.z164
 v164:=Tryz.bW.v164 }
open Go.RowKit in
theorem Tryz.Builder_WriteString_k (B b:Nat) (bs:List Value) (s:ByteArray) (w:World) (h:Lib.IsBuilderF 75 5 B b bs w) (hlen:bs.length+s.size≤140737488355328) (hBw:B≤w.heap.size) :
  Calls Tryz.prog 21 #[.pointer (some ⟨b,0,none⟩),.string s] w fun e w'=>e=.returned (.tuple #[.int .i64 s.size,.nilIface])∧(Lib.BuilderAtF 75 5 B b (.pointer (some ⟨b,0,none⟩)) (bs++Lib.strCells s) w'∧Below B w w'∧Lib.OthersKept 5 (some b) w w'):=Any.Builder_WriteString_k Tryz.Jd Tryz.kF B b bs s w h hlen hBw
end Go.Proofs
namespace Go.Proofs.YtdbnmbkjmeepkaaGreatDoor
open Go Go.K Go.P Go.RowKit Go.Proofs
theorem IZ {w w':World} (h:Ext [] w w'):∃ q os,w'=Go.Sort.grow (w.drewN q) os:=by
 refine ⟨w'.drawn-w.drawn,w'.heap.extract w.heap.size w'.heap.size,?_⟩
 have hh:w.heap++w'.heap.extract w.heap.size w'.heap.size=w'.heap:=by
  apply Array.ext_getElem?
  intro k
  have hs:=h.size
  rw [Array.getElem?_append]
  split
  ·rename_i hk;exact (h.block k hk (by simp)).symm
  ·rename_i hk
   rw [Array.getElem?_extract]
   by_cases hk2:k<w'.heap.size
   ·rw [if_pos (by omega)];congr 1;omega
   ·rw [if_neg (by omega),Array.getElem?_eq_none (by omega)]
 have hd:=h.drawn
 have ho:=h.os
 have ht:=h.tape
 have hp:=h.output
 cases w;cases w'
 simp only [Go.Sort.grow,World.drewN] at *
 subst ho ht hp
 rw [hh,Nat.add_sub_cancel' hd]
theorem yJ {α:Type} [Inhabited α] {enc:α→Value} {w:World} {b:Nat} {e:TypeId} {cs:Array Value} (d':Array α) (n:Nat) (os:Array Obj) (hB:cL w b e cs) :
  Ext [b] w (Go.Sort.grow (Go.Sort.putRow enc (Go.Sort.ahead w n) b 0 d') os)∧cL (Go.Sort.grow (Go.Sort.putRow enc (Go.Sort.ahead w n) b 0 d') os) b e (Go.Sort.putCells enc 0 d' cs):=by
 have hb:=hB.lt
 refine ⟨⟨rfl,rfl,rfl,?_,?_,fun k hk hkb=>?_⟩,?_⟩
 ·simp [Go.Sort.grow,Go.Sort.putRow,Go.Sort.mapBlock,Go.Sort.ahead]
 ·show w.drawn≤w.drawn+n
  omega
 ·show ((w.heap.modify b _)++os)[k]?=_
  rw [Array.getElem?_append,if_pos (by simpa using hk),Array.getElem?_modify,if_neg (by simp at hkb;omega)]
 ·show ((w.heap.modify b _)++os)[b]?=_
  rw [Array.getElem?_append,if_pos (by simpa using hb),Array.getElem?_modify,if_pos rfl,show w.heap[b]?=_ from hB]
  rfl
theorem J0 {α:Type} [Inhabited α] {enc:α→Value} {d:Array α} {cs:Array Value} (h:d.size=cs.size):Go.Sort.putCells enc 0 d cs=(d.toList.map enc).toArray:=by
 apply Array.ext_getElem?
 intro k
 unfold Go.Sort.putCells
 rw [Array.getElem?_mapIdx]
 by_cases hk:k<cs.size
 ·rw [Array.getElem?_eq_getElem hk,Option.map_some,if_pos ⟨Nat.zero_le _,by omega⟩]
  have hk2:k<d.size:=by omega
  simp [hk2]
 ·rw [Array.getElem?_eq_none (by omega),Array.getElem?_eq_none (by simp;omega)]
  rfl
def kk (o a:Nat):List Int :=
 if o=1 then [((a / 8 / 2:Nat):Int),((a % 8:Nat):Int)+((a / 8 % 2:Nat):Int),((a / 8:Nat):Int)]
 else if o=2 then [((a % 8 / 2:Nat):Int),((a / 8:Nat):Int)+((a % 8 % 2:Nat):Int),((a % 8:Nat):Int)]
 else if (((a % 8:Nat):Int)+((a / 8:Nat):Int)) % 2=0 then [((a % 8:Nat):Int)+((a / 8:Nat):Int),((a % 8:Nat):Int),((a / 8:Nat):Int)]
 else [((a % 8:Nat):Int)+((a / 8:Nat):Int),((a / 8:Nat):Int),((a % 8:Nat):Int)]
theorem iC (o a:Nat):(kk o a).length=3:=by unfold kk;split<;>(try split)<;>(try split)<;>rfl
theorem Kv {o a:Nat} (ha:a<64):∀ x∈kk o a,0≤x∧x≤100:=by
 unfold kk
 split<;>(try split)<;>(try split)<;>(intro x hx;simp at hx;omega)
def cmpL:List Int→List Int→Int
 | x::xs,y::ys=>if x=y then cmpL xs ys else x-y
 | _,_=>0
theorem yM:∀ l,cmpL l l=0
 | []=>rfl
 | x::l=>by unfold cmpL;rw [if_pos rfl];exact yM l
theorem wH:∀ {x y z:List Int},x.length=y.length→y.length=z.length→cmpL x y<0→cmpL y z<0→cmpL x z<0
 | [],[],_,_,_,h,_=>by simp [cmpL] at h
 | a::x,b::y,[],_,h,_,_=>by simp at h
 | a::x,b::y,c::z,h1,h2,h3,h4=>by
  unfold cmpL at *
  by_cases e1:a=b
  ·by_cases e2:b=c
   ·rw [if_pos e1] at h3;rw [if_pos e2] at h4;rw [if_pos (e1.trans e2)]
    exact wH (by simpa using h1) (by simpa using h2) h3 h4
   ·rw [if_neg e2] at h4;rw [if_neg (by omega)];omega
  ·rw [if_neg e1] at h3
   by_cases e2:b=c
   ·rw [if_neg (by omega)];omega
   ·rw [if_neg e2] at h4;rw [if_neg (by omega)];omega
theorem tE:∀ {x y z:List Int},x.length=y.length→y.length=z.length→0≤cmpL x y→0≤cmpL y z→0≤cmpL x z
 | [],[],_,_,_,_,_=>by simp [cmpL]
 | a::x,b::y,[],_,h,_,_=>by simp at h
 | a::x,b::y,c::z,h1,h2,h3,h4=>by
  unfold cmpL at *
  by_cases e1:a=b
  ·by_cases e2:b=c
   ·rw [if_pos e1] at h3;rw [if_pos e2] at h4;rw [if_pos (e1.trans e2)]
    exact tE (by simpa using h1) (by simpa using h2) h3 h4
   ·rw [if_neg e2] at h4;rw [if_neg (by omega)];omega
  ·rw [if_neg e1] at h3
   by_cases e2:b=c
   ·rw [if_neg (by omega)];omega
   ·rw [if_neg e2] at h4;rw [if_neg (by omega)];omega
set_option maxHeartbeats 4000000 in
theorem BD {o a:Nat} {w:World} (ho:o<3) (ha:a<64):aX Tryz.prog 221 #[.int .u8 o,.int .i64 a] w fun v w'=>v=.agg ((kk o a).map (Value.int .i64)).toArray∧Ext [] w w':=by
 refine aL (args:=[_,_]) Tryz.func221 rfl rfl Tryz.ntmps221 rfl ?_
 have hH:=Hp.start w
 have hl1:=iC o a
 refine aK ?_
 refine aO ?_
 refine aA (aQ hH (Ty.bH rfl) rfl ?_)
 try clear hH
 intro _ b1 hH
 replace hH:=aI hH
 repeat (first|refine aR ?_|(refine aD (by first|refine dL (n:=8) rfl rfl (by decide)|refine iR (n:=8) rfl rfl (by decide) (mU (by omega))) rfl ?_)|refine aT ?_)
 rcases (show o=1∨o=2∨o=0 by omega) with rfl|rfl|rfl
 ·have e:kk 1 a=_:=rfl
  repeat (first|refine aR ?_|(refine aD (by first|refine dL (n:=2) rfl rfl (by decide)|refine iR (n:=2) rfl rfl (by decide) (mU (by omega))|refine dC (cs:=(kk 1 a).map (Value.int .i64)) (Ty.bH rfl) (Ty.arr rfl) rfl) rfl ?_)|refine aT ?_)
  clear e
  refine aO ?_
  refine aA (aJ 0 (vs:=((kk 1 a).map (Value.int .i64)).toArray) (s:=3) hH rfl rfl rfl (by rfl) (by rfl) (by exact bB) (Ty.aF rfl) ?_)
  try clear hH
  intro _ hH
  replace hH:=aI hH
  refine aK ?_
  exact bP Tryz.func221 rfl rfl (hH.b 0 rfl) (by simp [iC]) (Ty.aF rfl) ⟨rfl,hH.ext⟩
 ·repeat (first|refine aR ?_|(refine aD (by first|refine dL (n:=2) rfl rfl (by decide)|refine iR (n:=2) rfl rfl (by decide) (mU (by omega))|refine dC (cs:=(kk 2 a).map (Value.int .i64)) (Ty.bH rfl) (Ty.arr rfl) rfl) rfl ?_)|refine aT ?_)
  refine aO ?_
  refine aA (aJ 0 (vs:=((kk 2 a).map (Value.int .i64)).toArray) (s:=3) hH rfl rfl rfl (by rfl) (by rfl) (by exact bB) (Ty.aF rfl) ?_)
  try clear hH
  intro _ hH
  replace hH:=aI hH
  refine aK ?_
  exact bP Tryz.func221 rfl rfl (hH.b 0 rfl) (by simp [iC]) (Ty.aF rfl) ⟨rfl,hH.ext⟩
 ·by_cases h0:(((a % 8:Nat):Int)+((a / 8:Nat):Int)) % 2=0
  ·have e:(kk 0 a).map (Value.int .i64)=[.int .i64 (((a % 8:Nat):Int)+((a / 8:Nat):Int)),.int .i64 ((a % 8:Nat):Int),.int .i64 ((a / 8:Nat):Int)]:=by unfold kk;rw [if_neg (by decide),if_neg (by decide),if_pos h0];rfl
   repeat (first|refine aR ?_|(refine aD (by first|refine dC (cs:=[.int .i64 (((a % 8:Nat):Int)+((a / 8:Nat):Int)),.int .i64 ((a % 8:Nat):Int),.int .i64 ((a / 8:Nat):Int)]) (Ty.bH rfl) (Ty.arr rfl) rfl|refine (dJ rfl rfl).is (bT h0)) rfl ?_)|refine aT ?_)
   refine aO ?_
   refine aA (aJ 0 (vs:=[.int .i64 (((a % 8:Nat):Int)+((a / 8:Nat):Int)),.int .i64 ((a % 8:Nat):Int),.int .i64 ((a / 8:Nat):Int)].toArray) (s:=3) hH rfl rfl rfl (by rfl) (by rfl) (by simp [Value.oneCell']) (Ty.aF rfl) ?_)
   try clear hH
   intro _ hH
   replace hH:=aI hH
   refine aK ?_
   exact bP Tryz.func221 rfl rfl (hH.b 0 rfl) rfl (Ty.aF rfl) ⟨by rw [e],hH.ext⟩
  ·have e:(kk 0 a).map (Value.int .i64)=[.int .i64 (((a % 8:Nat):Int)+((a / 8:Nat):Int)),.int .i64 ((a / 8:Nat):Int),.int .i64 ((a % 8:Nat):Int)]:=by unfold kk;rw [if_neg (by decide),if_neg (by decide),if_neg h0];rfl
   repeat (first|refine aR ?_|(refine aD (by first|refine dC (cs:=[.int .i64 (((a % 8:Nat):Int)+((a / 8:Nat):Int)),.int .i64 ((a / 8:Nat):Int),.int .i64 ((a % 8:Nat):Int)]) (Ty.bH rfl) (Ty.arr rfl) rfl|refine (dJ rfl rfl).is (bF h0)) rfl ?_)|refine aT ?_)
   refine aO ?_
   refine aA (aJ 0 (vs:=[.int .i64 (((a % 8:Nat):Int)+((a / 8:Nat):Int)),.int .i64 ((a / 8:Nat):Int),.int .i64 ((a % 8:Nat):Int)].toArray) (s:=3) hH rfl rfl rfl (by rfl) (by rfl) (by simp [Value.oneCell']) (Ty.aF rfl) ?_)
   try clear hH
   intro _ hH
   replace hH:=aI hH
   refine aK ?_
   exact bP Tryz.func221 rfl rfl (hH.b 0 rfl) rfl (Ty.aF rfl) ⟨by rw [e],hH.ext⟩
set_option maxHeartbeats 4000000 in
theorem Fb {o a c b:Nat} {w:World} (ho:o<3) (ha:a<64) (hc:c<64) (hB:cL w b 277 #[.int .u8 o]) :
  aX Tryz.prog 220 #[.int .i64 a,.int .i64 c,.pointer (some ⟨b,0,none⟩)] w fun v w'=>v=.int .i64 (cmpL (kk o a) (kk o c))∧Ext [] w w':=by
 refine aL (args:=[_,_,_]) Tryz.func220 rfl rfl Tryz.ntmps220 rfl ?_
 have hH:=Hp.start w
 repeat (first|refine aR ?_|(refine aD (by refine aB rfl hB rfl (Ty.aF rfl)) rfl ?_)|refine aT ?_)
 refine aO ?_
 refine aA (aC ((BD ho ha)) rfl rfl ?_)
 rintro _ _ ⟨rfl,hE0⟩
 replace hH:=hH.aH hE0
 clear hE0
 replace hH:=aI hH
 refine aK ?_
 have hla:=iC o a
 have hlc:=iC o c
 have hka:=Kv (o:=o) ha
 have hkc:=Kv (o:=o) hc
 generalize kk o a=ka at *
 obtain ⟨kc,hkc'⟩:∃ kc,kk o c=kc:=⟨_,rfl⟩
 rw [hkc'] at hlc hkc ⊢
 refine aV (G:=(Nat)) (fun i=>3-i) 268431840 (fun i=>[(12,.int .i64 i)]) (fun i w'=>i≤3∧cmpL (ka.drop i) (kc.drop i)=cmpL ka kc∧Hp [] w w' []) (0) ⟨rfl,trivial⟩ ⟨by omega,rfl,hH⟩ ?_
 rintro i w' σ ⟨hi,hd,hH⟩ IH
 show WS _ _ _ _ _ (bQ [(12,.int .i64 i)] _) _
 by_cases hlt:i<3
 ·have h1:=eC (l:=ka) hla hlt
  have h2:=eC (l:=kc) hlc hlt
  have b1:=hka _ (by rw [List.getD_eq_getElem?_getD,List.getElem?_eq_getElem (by omega)];exact List.getElem_mem (by omega):ka.getD i 0∈ka)
  have b2:=hkc _ (by rw [List.getD_eq_getElem?_getD,List.getElem?_eq_getElem (by omega)];exact List.getElem_mem (by omega):kc.getD i 0∈kc)
  have e1:ka.drop i=ka.getD i 0::ka.drop (i+1):=by rw [List.drop_eq_getElem_cons (by omega),List.getD_eq_getElem?_getD,List.getElem?_eq_getElem (by omega)];rfl
  have e2:kc.drop i=kc.getD i 0::kc.drop (i+1):=by rw [List.drop_eq_getElem_cons (by omega),List.getD_eq_getElem?_getD,List.getElem?_eq_getElem (by omega)];rfl
  rw [e1,e2,cmpL] at hd
  clear e1 e2
  generalize ka.getD i 0=p at *
  generalize kc.getD i 0=q at *
  have hB2:=hB.aH hH.ext
  repeat (first|refine aR ?_|(refine aD (by first|refine cB rfl rfl (Ty.arr rfl) (by omega) h1|refine aB rfl hB2 rfl (Ty.aF rfl)) rfl ?_)|refine aT ?_)
  have hks:=BD (w:=w') ho hc
  rw [hkc'] at hks
  refine aO ?_
  refine aA (aC (hks) rfl rfl ?_)
  rintro _ _ ⟨rfl,hE0⟩
  replace hH:=hH.aH hE0
  clear hE0
  replace hH:=aI hH
  clear hB2
  by_cases hpq:p=q
  ·rw [if_pos hpq] at hd
   repeat (first|refine aR ?_|(refine aD (by first|refine cB rfl rfl (Ty.arr rfl) (by omega) h2|refine (eQ rfl rfl).is (bF (fun h=>h hpq))) rfl ?_)|refine aT ?_)
   refine IH (i+1) _ _ ?_ ?_ ?_ ?_
   ·omega
   ·exact ⟨rfl,trivial⟩
   ·exact cP
   ·exact ⟨by omega,hd,hH⟩
  ·rw [if_neg hpq] at hd
   repeat (first|refine aR ?_|(refine aD (by first|refine cB rfl rfl (Ty.arr rfl) (by omega) h2|refine (eQ rfl rfl).is (bT hpq)) rfl ?_)|refine aT ?_)
   exact aM Tryz.func220 rfl ⟨by rw [← hd];rfl,hH.ext⟩
 ·obtain rfl:i=3:=by omega
  rw [List.drop_of_length_le (by omega),List.drop_of_length_le (by omega)] at hd
  refine aK ?_
  exact aM Tryz.func220 rfl ⟨by rw [← hd];rfl,hH.ext⟩
theorem swo {o:Nat}:Go.Sort.SWO (Go.Proofs.ltOf fun x y:Fin 64=>cmpL (kk o x) (kk o y)) where
 irrefl x:=by
  show decide (cmpL (kk o x) (kk o x)<0)=false
  rw [yM];rfl
 trans x y z h1 h2:=by
  unfold Go.Proofs.ltOf at *
  simp only [decide_eq_true_eq] at *
  exact wH (by rw [iC,iC]) (by rw [iC,iC]) h1 h2
 ntrans x y z h1 h2:=by
  unfold Go.Proofs.ltOf at *
  simp only [decide_eq_false_iff_not,Int.not_lt] at *
  exact tE (by rw [iC,iC]) (by rw [iC,iC]) h1 h2
theorem uF {w:World} {b b':Nat} {e e':TypeId} {cs cs':Array Value} (h:cL w b e cs) (h':cL w b' e' cs') (hne:e≠e'):b≠b':=fun hb=>by
 subst hb
 unfold cL at *
 rw [h] at h'
 cases h'
 exact hne rfl
def d64:Array (Fin 64):=(List.finRange 64).toArray
def Nr (o:Nat):Array (Fin 64):=Go.Sort.pdq (Go.Proofs.ltOf fun x y:Fin 64=>cmpL (kk o x) (kk o y)) d64 0 d64.size (Go.Lib.bitLen d64.size) true true
def iJ (o:Nat):List Nat:=(Nr o).toList.map (·.val)
theorem Cb (o:Nat):(Nr o).size=64:=by
 have h:=(Go.Sort.pdq_sorts _ (swo (o:=o)) d64 0 d64.size (Go.Lib.bitLen d64.size) true true (Nat.zero_le _) (Nat.le_refl _) (Or.inl rfl)).1.1
 rw [show (Nr o).size=_ from h]
 simp [d64]
theorem AL (o:Nat):(iJ o).length=64:=by simp [iJ,Cb]
theorem MH (o:Nat):∀ x∈iJ o,x<64:=fun x hx=>by
 obtain ⟨i,_,rfl⟩:=List.mem_map.1 hx
 exact i.isLt
theorem GI {o b b1:Nat} {w:World} (ho:o<3) (hB:cL w b 92 (((List.range 64).map Int.ofNat).map (Value.int .i64)).toArray) (hB1:cL w b1 277 #[.int .u8 o]) :
  aX Tryz.prog 219 #[.slice (some ⟨b,0,none⟩) 64 64,.func (.func 220) #[] #[.pointer (some ⟨b1,0,none⟩)]] w fun v w'=>v=.tuple #[] ∧
   jA (Rb b 92 (((List.range 64).map Int.ofNat).map (Value.int .i64)).toArray) (Rb b 92 (((iJ o).map Int.ofNat).map (Value.int .i64)).toArray) w w':=by
 obtain ⟨d,hd⟩:∃ d:Array (Fin 64),d=d64:=⟨_,rfl⟩
 have hds:d.size=64:=by simp [hd,d64]
 have hdc:d.toList.map (fun i:Fin 64=>Value.int .i64 (i.val:Int))=((List.range 64).map Int.ofNat).map (Value.int .i64):=by
  rw [hd,d64]
  apply List.ext_getElem (by simp)
  intro i h1 h2
  simp
 have hne:b1≠b:=uF hB1 hB (by decide)
 have hH:Go.Sort.Holds (fun i:Fin 64=>Value.int .i64 (i.val:Int)) w b 0 d:=by
  intro j hj
  rw [hds] at hj
  have hx:=hB.cell (o:=0+j) (v:=Value.int .i64 (d[j]!.val:Int)) (by
   rw [← hdc,Nat.zero_add]
   simp [hj,hds])
  exact ⟨hx,hB.free⟩
 have h:=Tryz.slices_SortFunc_eq (fun i:Fin 64=>Value.int .i64 (i.val:Int)) (fun _=>rfl) _ (swo (o:=o)) 220 #[.pointer (some ⟨b1,0,none⟩)] b 0 64 d w
  (enters_of Tryz.func220 (by kernel_rfl) rfl) (fun m os dk hs x y=>by
   have hr:=yJ (enc:=fun i:Fin 64=>Value.int .i64 (i.val:Int)) dk m os hB
   have hc:=(Fb (o:=o) (a:=x.val) (c:=y.val) ho x.isLt y.isLt (hB1.ext hr.1 (by simpa using hne))).calls ⟨_,enters_of Tryz.func220 (by kernel_rfl) rfl _ _⟩
   exact hc.mono fun e w' ⟨v,he,hv,hE⟩=>⟨by rw [he,hv],IZ hE⟩) hH hB.lt (by rw [hds];decide)
 rw [hd,show Go.Sort.pdq (Go.Proofs.ltOf fun x y:Fin 64=>cmpL (kk o x) (kk o y)) d64 0 d64.size (Go.Lib.bitLen d64.size) true true=Nr o from rfl,← hd,hds] at h
 refine .inl ⟨enters_of Tryz.func219 (by kernel_rfl) rfl _,h.mono fun e w' ⟨he,n,os,hw⟩=>⟨_,he,rfl,?_⟩⟩
 have hr:=yJ (enc:=fun i:Fin 64=>Value.int .i64 (i.val:Int)) (Nr o) n os hB
 rw [J0 (by rw [Cb];rfl)] at hr
 rw [hw]
 refine ⟨hr.1,?_,fun x hx=>.inl hx⟩
 have h2:=hr.2
 rw [show (Nr o).toList.map (fun i:Fin 64=>Value.int .i64 (i.val:Int))=((iJ o).map Int.ofNat).map (Value.int .i64) by rw [iJ,List.map_map,List.map_map];rfl] at h2
 exact h2
end Go.Proofs.YtdbnmbkjmeepkaaGreatDoor
