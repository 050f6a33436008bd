/- contracts of the library at this program -/
import Derived.Test.YtfnehkmhcmkhjaaGreatDuAl
import Derived.Shelf.Strings.Builder1
import Derived.Shelf.Strings.Builder2
import Derived.Shelf.Small.Bits
import Derived.Shelf.Small.Wraps
import Derived.Shelf.Strings.BuilderF
import Derived.Shelf.Strings.BuilderK
import Derived.Shelf.Strconv.Itoa0
import Derived.Shelf.Sort.Plain
import Derived.Shelf.Strings.Prefix
import Derived.Shelf.Bits.Mul64
import Derived.Shelf.Strings.Repeat
import Derived.Shelf.Slices.Turned
import Derived.Ground.Names2Prog
import Derived.Shelf.Slices.Clone
import Derived.Shelf.Slices.CompactI
import Derived.Shelf.Slices.SearchI
import Derived.Shelf.Slices.Cells
import Derived.Shelf.Slices.In.SortNone
import Derived.Ground.SlgnProg
import Derived.Shelf.SlicesE.Clone
import Derived.Shelf.SlIterI.Nil
import Derived.Shelf.SlIterI.Sorted
import Derived.Test.YtfnehkmhcmkhjaaGreatProg
set_option maxRecDepth 100000
set_option maxHeartbeats 8000000
set_option linter.unusedVariables false
namespace Go.Proofs.YtfnehkmhcmkhjaaGreat
open Tryz
section
open Go.Shelf
def lays169_ren:Go.Shelf.Ren:=⟨λ| 169=>129|n=>n,λ| 70=>216|9=>9|0=>0|72=>218|37=>65|127=>306|3=>3|5=>5|n=>n,λ| n=>n⟩
theorem lays169:Go.Proofs.Lays.n169 prog lays169_ren:={
 mixed:=by kernel_rfl
 f169:=func129.trans (Yp some (by kernel_rfl))
 t0:=underlying0
 a0:=isAgg0
 z0:=sizeOf0
 v0:=zeroValue0
 t3:=underlying3
 a3:=isAgg3
 z3:=sizeOf3
 v3:=zeroValue3
 t9:=underlying9
 a9:=isAgg9
 z9:=sizeOf9
 v9:=zeroValue9
 t37:=underlying65
 a37:=isAgg65
 z37:=sizeOf65
 v37:=zeroValue65
 t70:=underlying216
 a70:=isAgg216
 z70:=sizeOf216
 v70:=zeroValue216
 t72:=underlying218
 a72:=isAgg218
 z72:=sizeOf218
 v72:=zeroValue218
 t127:=underlying306
 a127:=isAgg306
 z127:=sizeOf306
 v127:=zeroValue306}
theorem Builder_Extra_169:Builder.Extra prog lays169_ren:={
 sizeBuilder:=by kernel_rfl
 liesBuilder:=by kernel_rfl
 t5:=underlying5
 a5:=isAgg5
 z5:=sizeOf5
 v5:=zeroValue5
 infoByte:=by kernel_rfl
 cellsByte:=by kernel_rfl
 sizeByte:=by kernel_rfl
 neB5:=by decide}
open Go.RowKit in
theorem Builder_String_any(B b:Nat)(l:List UInt8)(w:World)(h:Lib.IsBuilder 218 5 B b (Lib.byteCells l) w)(hBw:B<=w.heap.size):
 Calls prog 129 #[.pointer (some ⟨b,0,none⟩)] w λe w'=>e=.returned (.string ⟨l.toArray⟩)/\Below B w w':=Any.Builder_String_any lays169 Builder_Extra_169 B b l w h hBw
def lays189_ren:Go.Shelf.Ren:=⟨λ| 189=>193|125=>262|257=>261|128=>338|129=>339|294=>329|295=>330|296=>331|297=>332|298=>333|299=>334|216=>335|300=>336|301=>337|328=>373|329=>374|330=>375|331=>376|332=>377|215=>378|343=>404|n=>n,λ| 28=>31|3=>3|46=>73|0=>0|51=>300|53=>303|4=>4|183=>393|182=>392|131=>243|5=>5|9=>9|218=>418|222=>422|228=>438|229=>374|n=>n,λ| n=>n⟩
theorem lays189:Go.Proofs.Lays.n189 prog lays189_ren:={
 mixed:=by kernel_rfl
 f125:=func262.trans (Yp some (by kernel_rfl))
 f128:=func338.trans (Yp some (by kernel_rfl))
 f129:=func339.trans (Yp some (by kernel_rfl))
 f189:=func193.trans (Yp some (by kernel_rfl))
 f215:=func378.trans (Yp some (by kernel_rfl))
 f216:=func335.trans (Yp some (by kernel_rfl))
 f257:=func261.trans (Yp some (by kernel_rfl))
 f294:=func329.trans (Yp some (by kernel_rfl))
 f295:=func330.trans (Yp some (by kernel_rfl))
 f296:=func331.trans (Yp some (by kernel_rfl))
 f297:=func332.trans (Yp some (by kernel_rfl))
 f298:=func333.trans (Yp some (by kernel_rfl))
 f299:=func334.trans (Yp some (by kernel_rfl))
 f300:=func336.trans (Yp some (by kernel_rfl))
 f301:=func337.trans (Yp some (by kernel_rfl))
 f328:=func373.trans (Yp some (by kernel_rfl))
 f329:=func374.trans (Yp some (by kernel_rfl))
 f330:=func375.trans (Yp some (by kernel_rfl))
 f331:=func376.trans (Yp some (by kernel_rfl))
 f332:=func377.trans (Yp some (by kernel_rfl))
 f343:=func404.trans (Yp some (by kernel_rfl))
 t0:=underlying0
 a0:=isAgg0
 z0:=sizeOf0
 v0:=zeroValue0
 t3:=underlying3
 a3:=isAgg3
 z3:=sizeOf3
 v3:=zeroValue3
 t4:=underlying4
 a4:=isAgg4
 z4:=sizeOf4
 v4:=zeroValue4
 t5:=underlying5
 a5:=isAgg5
 z5:=sizeOf5
 v5:=zeroValue5
 t9:=underlying9
 a9:=isAgg9
 z9:=sizeOf9
 v9:=zeroValue9
 t28:=underlying31
 a28:=isAgg31
 z28:=sizeOf31
 v28:=zeroValue31
 t46:=underlying73
 a46:=isAgg73
 z46:=sizeOf73
 v46:=zeroValue73
 t51:=underlying300
 a51:=isAgg300
 z51:=sizeOf300
 v51:=zeroValue300
 t53:=underlying303
 a53:=isAgg303
 z53:=sizeOf303
 v53:=zeroValue303
 t131:=underlying243
 a131:=isAgg243
 z131:=sizeOf243
 v131:=zeroValue243
 t182:=underlying392
 a182:=isAgg392
 z182:=sizeOf392
 v182:=zeroValue392
 t183:=underlying393
 a183:=isAgg393
 z183:=sizeOf393
 v183:=zeroValue393
 t218:=underlying418
 a218:=isAgg418
 z218:=sizeOf418
 v218:=zeroValue418
 t222:=underlying422
 a222:=isAgg422
 z222:=sizeOf422
 v222:=zeroValue422
 t228:=underlying438
 a228:=isAgg438
 z228:=sizeOf438
 v228:=zeroValue438
 t229:=underlying374
 a229:=isAgg374
 z229:=sizeOf374
 v229:=zeroValue374}
open Go.Sort Go.RowKit in
theorem slices_Sort_int(blk off cap:Nat)(zs:List Int)(w:World)(hH:Holds (Value.int .i64) w blk off zs.toArray)(hblk:blk<w.heap.size)(hsz:zs.length<4611686018427387904):
 Calls prog 193 #[.slice (some ⟨blk,off,none⟩) zs.length cap] w λe w'=>
  e=.returned (.tuple #[])/\∃n os,w'=grow (putRow (Value.int .i64) (Sort.ahead w n) blk off (zs.mergeSort λx y=>decide (x<=y)).toArray) os:=Any.slices_Sort_int lays189 blk off cap zs w hH hblk hsz
def lays105_ren:Go.Shelf.Ren:=⟨λ| 105=>64|212=>124|99=>125|165=>126|166=>127|170=>128|169=>129|263=>209|264=>210|206=>211|240=>212|241=>213|276=>286|277=>287|n=>n,λ| 9=>9|3=>3|4=>4|20=>20|0=>0|46=>73|109=>213|5=>5|72=>218|76=>222|51=>300|146=>301|53=>303|148=>304|70=>216|37=>65|75=>221|127=>306|164=>361|80=>127|n=>n,λ| n=>n⟩
theorem lays105:Go.Proofs.Lays.n105 prog lays105_ren:={
 mixed:=by kernel_rfl
 f99:=func125.trans (Yp some (by kernel_rfl))
 f105:=func64.trans (Yp some (by kernel_rfl))
 f165:=func126.trans (Yp some (by kernel_rfl))
 f166:=func127.trans (Yp some (by kernel_rfl))
 f169:=func129.trans (Yp some (by kernel_rfl))
 f170:=func128.trans (Yp some (by kernel_rfl))
 f206:=func211.trans (Yp some (by kernel_rfl))
 f212:=func124.trans (Yp some (by kernel_rfl))
 f240:=func212.trans (Yp some (by kernel_rfl))
 f241:=func213.trans (Yp some (by kernel_rfl))
 f263:=func209.trans (Yp some (by kernel_rfl))
 f264:=func210.trans (Yp some (by kernel_rfl))
 f276:=func286.trans (Yp some (by kernel_rfl))
 f277:=func287.trans (Yp some (by kernel_rfl))
 t0:=underlying0
 a0:=isAgg0
 z0:=sizeOf0
 v0:=zeroValue0
 t3:=underlying3
 a3:=isAgg3
 z3:=sizeOf3
 v3:=zeroValue3
 t4:=underlying4
 a4:=isAgg4
 z4:=sizeOf4
 v4:=zeroValue4
 t5:=underlying5
 a5:=isAgg5
 z5:=sizeOf5
 v5:=zeroValue5
 t9:=underlying9
 a9:=isAgg9
 z9:=sizeOf9
 v9:=zeroValue9
 t20:=underlying20
 a20:=isAgg20
 z20:=sizeOf20
 v20:=zeroValue20
 t37:=underlying65
 a37:=isAgg65
 z37:=sizeOf65
 v37:=zeroValue65
 t46:=underlying73
 a46:=isAgg73
 z46:=sizeOf73
 v46:=zeroValue73
 t51:=underlying300
 a51:=isAgg300
 z51:=sizeOf300
 v51:=zeroValue300
 t53:=underlying303
 a53:=isAgg303
 z53:=sizeOf303
 v53:=zeroValue303
 t70:=underlying216
 a70:=isAgg216
 z70:=sizeOf216
 v70:=zeroValue216
 t72:=underlying218
 a72:=isAgg218
 z72:=sizeOf218
 v72:=zeroValue218
 t75:=underlying221
 a75:=isAgg221
 z75:=sizeOf221
 v75:=zeroValue221
 t76:=underlying222
 a76:=isAgg222
 z76:=sizeOf222
 v76:=zeroValue222
 t109:=underlying213
 a109:=isAgg213
 z109:=sizeOf213
 v109:=zeroValue213
 t127:=underlying306
 a127:=isAgg306
 z127:=sizeOf306
 v127:=zeroValue306
 t146:=underlying301
 a146:=isAgg301
 z146:=sizeOf301
 v146:=zeroValue301
 t148:=underlying304
 a148:=isAgg304
 z148:=sizeOf304
 v148:=zeroValue304
 t164:=underlying361
 a164:=isAgg361
 z164:=sizeOf361
 v164:=zeroValue361}
theorem Builder_Extra_105:Builder.Extra prog lays105_ren:={
 sizeBuilder:=by kernel_rfl
 liesBuilder:=by kernel_rfl
 t5:=underlying5
 a5:=isAgg5
 z5:=sizeOf5
 v5:=zeroValue5
 infoByte:=by kernel_rfl
 cellsByte:=by kernel_rfl
 sizeByte:=by kernel_rfl
 neB5:=by decide}
open Go.RowKit Go.Lib in
theorem strings_Repeat(s:ByteArray)(c:Nat)(w:World)(hc:c<=9223372036854775807)(hlen:s.size*c<=140737488355328):
 Calls prog 64 #[.string s,.int .i64 c] w λe w'=>e=.returned (.string ⟨(Lib.repeatL s.data.toList c).toArray⟩)/\Below w.heap.size w w':=Any.strings_Repeat lays105 Builder_Extra_105 s c w hc hlen
def laysNm220_ren:Go.Shelf.Ren:=⟨λ| 20=>194|n=>n,λ| 22=>31|3=>3|4=>4|0=>0|n=>n,λ| n=>n⟩
theorem laysNm220:Go.Proofs.Lays2.n20 prog laysNm220_ren:={
 mixed:=by kernel_rfl
 f20:=func194.trans (Yp some (by kernel_rfl))
 t0:=underlying0
 a0:=isAgg0
 z0:=sizeOf0
 v0:=zeroValue0
 t3:=underlying3
 a3:=isAgg3
 z3:=sizeOf3
 v3:=zeroValue3
 t4:=underlying4
 a4:=isAgg4
 z4:=sizeOf4
 v4:=zeroValue4
 t22:=underlying31
 a22:=isAgg31
 z22:=sizeOf31
 v22:=zeroValue31
 i3:=by kernel_rfl}
open Go.RowKit Go.Lib Go.Sort in
theorem slices_Compact_int(blk off cap:Nat)(zs:List Int)(w:World)(hH:Holds (Value.int .i64) w blk off zs.toArray)(hsz:zs.length<=9223372036854775807)(hcap:zs.length<=cap):
 Calls prog 194 #[.slice (some ⟨blk,off,none⟩) zs.length cap] w λe w'=>e=.returned (.slice (some ⟨blk,off,none⟩) (Lib.compact zs).length cap)/\∃q,w'=putRow (Value.int .i64) (Sort.ahead w q) blk off (Lib.compact zs++List.replicate (zs.length-(Lib.compact zs).length) 0).toArray:=Any.slices_Compact_int laysNm220 blk off cap zs w hH hsz hcap
open Go.RowKit Go.Lib Go.Sort in
theorem slices_Compact_int_empty(a:Option Addr)(cap:Nat)(w:World):
 Calls prog 194 #[.slice a 0 cap] w λe w'=>e=.returned (.slice a 0 cap)/\w'=w:=Any.slices_Compact_int_empty laysNm220 a cap w
open Go.RowKit Go.Sort in
theorem slices_Sort_int_none(p:Option Addr)(cap:Nat)(w:World):
 Calls prog 193 #[.slice p 0 cap] w λe w'=>e=.returned (.tuple #[])/\w'=w:=Any.slices_Sort_int_none lays189 p cap w
def keysA_ren:Go.Shelf.Ren:=⟨λ| 7=>192|10=>260|n=>n,λ| 23=>76|26=>3|3=>4|28=>286|0=>0|27=>285|33=>116|4=>4|n=>n,λ| n=>n⟩
theorem keysA:Go.Proofs.SlLaysZI.n7 prog keysA_ren:={
 mixed:=by kernel_rfl
 f7:=⟨f192.name,by decide,func192.trans (Yp some (by kernel_rfl))⟩
 f10:=⟨f260.name,by decide,func260.trans (Yp some (by kernel_rfl))⟩
 t0:=underlying0
 a0:=isAgg0
 z0:=sizeOf0
 v0:=zeroValue0
 t4:=underlying4
 a4:=isAgg4
 z4:=sizeOf4
 v4:=zeroValue4
 t23:=underlying76
 a23:=isAgg76
 z23:=sizeOf76
 v23:=zeroValue76
 t26:=underlying3
 a26:=isAgg3
 z26:=sizeOf3
 v26:=zeroValue3
 t27:=underlying285
 a27:=isAgg285
 z27:=sizeOf285
 v27:=zeroValue285
 t28:=underlying286
 a28:=isAgg286
 z28:=sizeOf286
 v28:=zeroValue286
 t33:=underlying116
 a33:=isAgg116
 z33:=sizeOf116
 v33:=zeroValue116}
def collectA_ren:Go.Shelf.Ren:=⟨λ| 8=>191|11=>259|n=>n,λ| 26=>3|28=>286|24=>31|0=>0|33=>116|4=>4|n=>n,λ| n=>n⟩
theorem collectA:Go.Proofs.SlLaysZI.n8 prog collectA_ren:={
 mixed:=by kernel_rfl
 f8:=⟨f191.name,by decide,func191.trans (Yp some (by kernel_rfl))⟩
 f11:=⟨f259.name,by decide,func259.trans (Yp some (by kernel_rfl))⟩
 t0:=underlying0
 a0:=isAgg0
 z0:=sizeOf0
 v0:=zeroValue0
 t24:=underlying31
 a24:=isAgg31
 z24:=sizeOf31
 v24:=zeroValue31
 t26:=underlying3
 a26:=isAgg3
 z26:=sizeOf3
 v26:=zeroValue3
 t28:=underlying286
 a28:=isAgg286
 z28:=sizeOf286
 v28:=zeroValue286
 i26:=by kernel_rfl}
end
end Go.Proofs.YtfnehkmhcmkhjaaGreat
