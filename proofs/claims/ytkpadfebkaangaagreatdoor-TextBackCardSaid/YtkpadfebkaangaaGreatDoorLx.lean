/- The kit's contracts of the library's functions on strings. -/
import Derived.Shelf.Strings.Shaped
import Derived.Shelf.Strings.Cut
import Derived.Shelf.Strings.Split
import Derived.Shelf.Strings.Builder1
import Derived.Shelf.Strconv.Itoa3
import Derived.Shelf.Strconv.AtoiAll
import Derived.Shelf.LaysM
import Derived.Shelf.LaysC
import Derived.Test.YtkpadfebkaangaaGreatDoorProg
import Derived.Test.YtkpadfebkaangaaGreatDoorLz
import Derived.Lib.Split
import Derived.Lib.IndexBytes
import Derived.Lib.ItoaNum
import Derived.Test.YtkpadfebkaangaaGreatDoorCdM
import Derived.WalkSmall
import Derived.Lib.SmallJoins
namespace Go.Proofs
open YtkpadfebkaangaaGreatDoor
open Go.Shelf
def Tryz.lays169_ren:Go.Shelf.Ren:=⟨fun | 169=>16 | n=>n,fun | 70=>44 | 9=>9 | 0=>0 | 72=>47 | 37=>45 | 127=>84 | 3=>3 | 5=>5 | n=>n,fun | n=>n⟩
theorem Tryz.lays169:Go.Proofs.Lays.n169 Tryz.prog Tryz.lays169_ren:={
 mixed:=ka
 f169:=ke Tryz.func16
 t0:=Tryz.underlying0
 a0:=Tryz.isAgg0
 z0:=Tryz.sizeOf0
 v0:=Tryz.zeroValue0
 t3:=Tryz.underlying3
 a3:=Tryz.isAgg3
 z3:=Tryz.sizeOf3
 v3:=Tryz.zeroValue3
 t9:=Tryz.underlying9
 a9:=Tryz.isAgg9
 z9:=Tryz.sizeOf9
 v9:=Tryz.zeroValue9
 t37:=Tryz.underlying45
 a37:=Tryz.isAgg45
 z37:=Tryz.sizeOf45
 v37:=Tryz.zeroValue45
 t70:=Tryz.underlying44
 a70:=Tryz.isAgg44
 z70:=Tryz.sizeOf44
 v70:=Tryz.zeroValue44
 t72:=Tryz.underlying47
 a72:=Tryz.isAgg47
 z72:=Tryz.sizeOf47
 v72:=Tryz.zeroValue47
 t127:=Tryz.underlying84
 a127:=Tryz.isAgg84
 z127:=Tryz.sizeOf84
 v127:=Tryz.zeroValue84 }
theorem Tryz.Builder_Extra_169:Builder.Extra Tryz.prog Tryz.lays169_ren:={
 sizeBuilder:=ka
 liesBuilder:=ka
 t5:=Tryz.underlying5
 a5:=Tryz.isAgg5
 z5:=Tryz.sizeOf5
 v5:=Tryz.zeroValue5
 infoByte:=ka
 cellsByte:=ka
 sizeByte:=ka
 neB5:=by decide }
def Tryz.laysM171_ren:Go.Shelf.Ren:=⟨fun | 171=>13 | 243=>25 | 246=>47 | 283=>68 | 284=>69 | 285=>70 | 286=>71 | 129=>93 | 317=>92 | 318=>94 | 319=>95 | 320=>96 | 337=>113 | 338=>114 | n=>n,fun | 3=>3 | 9=>9 | 2=>2 | 4=>4 | 171=>137 | 0=>0 | 53=>138 | 37=>45 | 5=>5 | 173=>141 | 212=>160 | 51=>161 | 20=>20 | 213=>162 | 46=>125 | 232=>192 | 233=>193 | n=>n,fun | 17=>3 | 18=>6 | 19=>7 | n=>n⟩
theorem Tryz.laysM171:Go.Proofs.LaysM.n171 Tryz.prog Tryz.laysM171_ren:={
 mixed:=ka
 f129:=ke Tryz.func93
 f171:=ke Tryz.func13
 f243:=ke Tryz.func25
 f246:=ke Tryz.func47
 f283:=ke Tryz.func68
 f284:=ke Tryz.func69
 f285:=ke Tryz.func70
 f286:=ke Tryz.func71
 f317:=ke Tryz.func92
 f318:=ke Tryz.func94
 f319:=ke Tryz.func95
 f320:=ke Tryz.func96
 f337:=ke Tryz.func113
 f338:=ke Tryz.func114
 t0:=Tryz.underlying0
 a0:=Tryz.isAgg0
 z0:=Tryz.sizeOf0
 v0:=Tryz.zeroValue0
 t2:=Tryz.underlying2
 a2:=Tryz.isAgg2
 z2:=Tryz.sizeOf2
 v2:=Tryz.zeroValue2
 t3:=Tryz.underlying3
 a3:=Tryz.isAgg3
 z3:=Tryz.sizeOf3
 v3:=Tryz.zeroValue3
 t4:=Tryz.underlying4
 a4:=Tryz.isAgg4
 z4:=Tryz.sizeOf4
 v4:=Tryz.zeroValue4
 t5:=Tryz.underlying5
 a5:=Tryz.isAgg5
 z5:=Tryz.sizeOf5
 v5:=Tryz.zeroValue5
 t9:=Tryz.underlying9
 a9:=Tryz.isAgg9
 z9:=Tryz.sizeOf9
 v9:=Tryz.zeroValue9
 t20:=Tryz.underlying20
 a20:=Tryz.isAgg20
 z20:=Tryz.sizeOf20
 v20:=Tryz.zeroValue20
 t37:=Tryz.underlying45
 a37:=Tryz.isAgg45
 z37:=Tryz.sizeOf45
 v37:=Tryz.zeroValue45
 t46:=Tryz.underlying125
 a46:=Tryz.isAgg125
 z46:=Tryz.sizeOf125
 v46:=Tryz.zeroValue125
 t51:=Tryz.underlying161
 a51:=Tryz.isAgg161
 z51:=Tryz.sizeOf161
 v51:=Tryz.zeroValue161
 t53:=Tryz.underlying138
 a53:=Tryz.isAgg138
 z53:=Tryz.sizeOf138
 v53:=Tryz.zeroValue138
 t171:=Tryz.underlying137
 a171:=Tryz.isAgg137
 z171:=Tryz.sizeOf137
 v171:=Tryz.zeroValue137
 t173:=Tryz.underlying141
 a173:=Tryz.isAgg141
 z173:=Tryz.sizeOf141
 v173:=Tryz.zeroValue141
 t212:=Tryz.underlying160
 a212:=Tryz.isAgg160
 z212:=Tryz.sizeOf160
 v212:=Tryz.zeroValue160
 t213:=Tryz.underlying162
 a213:=Tryz.isAgg162
 z213:=Tryz.sizeOf162
 t232:=Tryz.underlying192
 a232:=Tryz.isAgg192
 z232:=Tryz.sizeOf192
 v232:=Tryz.zeroValue192
 t233:=Tryz.underlying193
 a233:=Tryz.isAgg193
 z233:=Tryz.sizeOf193
 v233:=Tryz.zeroValue193
 g17:=ka
 g18:=ka
 g19:=ka
 i0:=ka
 i2:=ka
 i3:=ka
 i4:=ka
 i5:=ka
 i9:=ka
 i20:=ka
 i37:=ka
 i46:=ka
 i51:=ka
 i53:=ka
 i171:=ka
 i173:=ka
 i212:=ka
 i232:=ka
 i233:=ka
 m17:=ka
 m18:=ka
 m19:=by kernel_rfl }
open Go.RowKit Go.Sort Go.Lib in
theorem Tryz.strconv_Itoa (n:Int) (h0:-9223372036854775808<=n) (h1:n<=9223372036854775807) (w:World) (htab:Lib.TabIs Tryz.prog w "internal/strconv.uint64pow10" .u64 Lib.pow10Tab) :
 Calls Tryz.prog 13 #[.int .i64 n] w fun e w'=>e=.returned (.string ⟨(Lib.itoa n).toArray⟩)/\∃ k os,w'=grow (w.drewN k) os:=Any.strconv_Itoa Tryz.laysM171 n h0 h1 w htab
def Tryz.laysC172_ren:Go.Shelf.Ren:=⟨fun | 172=>54 | 244=>80 | 245=>81 | 247=>102 | 279=>103 | 280=>104 | 281=>105 | 282=>106 | 287=>116 | 316=>117 | 171=>13 | 205=>118 | 321=>120 | 322=>121 | 243=>25 | 246=>47 | 283=>68 | 284=>69 | 285=>70 | 286=>71 | 129=>93 | 317=>92 | 318=>94 | 319=>95 | 320=>96 | 337=>113 | 338=>114 | n=>n,fun | 9=>9 | 3=>3 | 75=>49 | 76=>50 | 4=>4 | 5=>5 | 167=>170 | 37=>45 | 0=>0 | 85=>171 | 2=>2 | 168=>173 | 53=>138 | 175=>185 | 46=>125 | 210=>189 | 127=>84 | 145=>201 | 143=>199 | 21=>21 | 171=>137 | 173=>141 | 212=>160 | 51=>161 | 20=>20 | 213=>162 | 232=>192 | 233=>193 | 80=>66 | n=>n,fun | 15=>4 | 16=>5 | 17=>3 | 18=>6 | 19=>7 | n=>n⟩
theorem Tryz.laysC172:Go.Proofs.LaysC.n172 Tryz.prog Tryz.laysC172_ren:={
 mixed:=ka
 f129:=ke Tryz.func93
 f171:=ke Tryz.func13
 f172:=ke Tryz.func54
 f205:=ke Tryz.func118
 f243:=ke Tryz.func25
 f244:=ke Tryz.func80
 f245:=ke Tryz.func81
 f246:=ke Tryz.func47
 f247:=ke Tryz.func102
 f279:=ke Tryz.func103
 f280:=ke Tryz.func104
 f281:=ke Tryz.func105
 f282:=ke Tryz.func106
 f283:=ke Tryz.func68
 f284:=ke Tryz.func69
 f285:=ke Tryz.func70
 f286:=ke Tryz.func71
 f287:=ke Tryz.func116
 f316:=ke Tryz.func117
 f317:=ke Tryz.func92
 f318:=ke Tryz.func94
 f319:=ke Tryz.func95
 f320:=ke Tryz.func96
 f321:=ke Tryz.func120
 f322:=ke Tryz.func121
 f337:=ke Tryz.func113
 f338:=ke Tryz.func114
 t0:=Tryz.underlying0
 a0:=Tryz.isAgg0
 z0:=Tryz.sizeOf0
 v0:=Tryz.zeroValue0
 t2:=Tryz.underlying2
 a2:=Tryz.isAgg2
 z2:=Tryz.sizeOf2
 v2:=Tryz.zeroValue2
 t3:=Tryz.underlying3
 a3:=Tryz.isAgg3
 z3:=Tryz.sizeOf3
 v3:=Tryz.zeroValue3
 t4:=Tryz.underlying4
 a4:=Tryz.isAgg4
 z4:=Tryz.sizeOf4
 v4:=Tryz.zeroValue4
 t5:=Tryz.underlying5
 a5:=Tryz.isAgg5
 z5:=Tryz.sizeOf5
 v5:=Tryz.zeroValue5
 t9:=Tryz.underlying9
 a9:=Tryz.isAgg9
 z9:=Tryz.sizeOf9
 v9:=Tryz.zeroValue9
 t20:=Tryz.underlying20
 a20:=Tryz.isAgg20
 z20:=Tryz.sizeOf20
 v20:=Tryz.zeroValue20
 t21:=Tryz.underlying21
 a21:=Tryz.isAgg21
 z21:=Tryz.sizeOf21
 v21:=Tryz.zeroValue21
 t37:=Tryz.underlying45
 a37:=Tryz.isAgg45
 z37:=Tryz.sizeOf45
 v37:=Tryz.zeroValue45
 t46:=Tryz.underlying125
 a46:=Tryz.isAgg125
 z46:=Tryz.sizeOf125
 v46:=Tryz.zeroValue125
 t51:=Tryz.underlying161
 a51:=Tryz.isAgg161
 z51:=Tryz.sizeOf161
 v51:=Tryz.zeroValue161
 t53:=Tryz.underlying138
 a53:=Tryz.isAgg138
 z53:=Tryz.sizeOf138
 v53:=Tryz.zeroValue138
 t75:=Tryz.underlying49
 a75:=Tryz.isAgg49
 z75:=Tryz.sizeOf49
 v75:=Tryz.zeroValue49
 t76:=Tryz.underlying50
 a76:=Tryz.isAgg50
 z76:=Tryz.sizeOf50
 v76:=Tryz.zeroValue50
 t85:=Tryz.underlying171
 a85:=Tryz.isAgg171
 z85:=Tryz.sizeOf171
 v85:=Tryz.zeroValue171
 t127:=Tryz.underlying84
 a127:=Tryz.isAgg84
 z127:=Tryz.sizeOf84
 v127:=Tryz.zeroValue84
 t143:=Tryz.underlying199
 a143:=Tryz.isAgg199
 z143:=Tryz.sizeOf199
 v143:=Tryz.zeroValue199
 t145:=Tryz.underlying201
 a145:=Tryz.isAgg201
 z145:=Tryz.sizeOf201
 v145:=Tryz.zeroValue201
 t167:=Tryz.underlying170
 a167:=Tryz.isAgg170
 z167:=Tryz.sizeOf170
 v167:=Tryz.zeroValue170
 t168:=Tryz.underlying173
 a168:=Tryz.isAgg173
 z168:=Tryz.sizeOf173
 v168:=Tryz.zeroValue173
 t171:=Tryz.underlying137
 a171:=Tryz.isAgg137
 z171:=Tryz.sizeOf137
 v171:=Tryz.zeroValue137
 t173:=Tryz.underlying141
 a173:=Tryz.isAgg141
 z173:=Tryz.sizeOf141
 v173:=Tryz.zeroValue141
 t175:=Tryz.underlying185
 a175:=Tryz.isAgg185
 z175:=Tryz.sizeOf185
 v175:=Tryz.zeroValue185
 t210:=Tryz.underlying189
 a210:=Tryz.isAgg189
 z210:=Tryz.sizeOf189
 v210:=Tryz.zeroValue189
 t212:=Tryz.underlying160
 a212:=Tryz.isAgg160
 z212:=Tryz.sizeOf160
 v212:=Tryz.zeroValue160
 t213:=Tryz.underlying162
 a213:=Tryz.isAgg162
 z213:=Tryz.sizeOf162
 t232:=Tryz.underlying192
 a232:=Tryz.isAgg192
 z232:=Tryz.sizeOf192
 v232:=Tryz.zeroValue192
 t233:=Tryz.underlying193
 a233:=Tryz.isAgg193
 z233:=Tryz.sizeOf193
 v233:=Tryz.zeroValue193
 g15:=ka
 g16:=ka
 g17:=ka
 g18:=ka
 g19:=ka
 t80:=Tryz.underlying66
 a80:=Tryz.isAgg66
 z80:=Tryz.sizeOf66
 v80:=Tryz.zeroValue66
 i0:=ka
 i2:=ka
 i3:=ka
 i4:=ka
 i5:=ka
 i9:=ka
 i20:=ka
 i21:=ka
 i37:=ka
 i46:=ka
 i51:=ka
 i53:=ka
 i75:=ka
 i76:=ka
 i80:=ka
 i85:=ka
 i127:=ka
 i143:=ka
 i145:=ka
 i167:=ka
 i168:=ka
 i171:=ka
 i173:=ka
 i175:=ka
 i210:=ka
 i212:=ka
 i232:=ka
 i233:=ka
 m15:=ka
 m16:=ka
 m17:=ka
 m18:=ka
 m19:=ka
 c0:=ka
 c2:=ka
 c3:=ka
 c4:=ka
 c5:=ka
 c9:=ka
 c20:=ka
 c21:=ka
 c37:=ka
 c46:=ka
 c51:=ka
 c53:=ka
 c75:=ka
 c76:=ka
 c80:=ka
 c85:=ka
 c127:=ka
 c143:=ka
 c145:=ka
 c167:=ka
 c168:=ka
 c171:=ka
 c173:=ka
 c175:=ka
 c210:=ka
 c212:=ka
 c213:=ka
 c232:=ka
 c233:=by kernel_rfl }
open Go.RowKit in
theorem Tryz.strconv_Atoi_ok (s:ByteArray) (hmax:s.size<=9223372036854775806) (v:Int) (h:Lib.atoiAll s.data.toList=.ok v) (w:World) :
 Calls Tryz.prog 54 #[.string s] w fun e w'=>e=.returned (.tuple #[.int .i64 v,.nilIface])/\(w'=w∨∃ t,w'=Lib.bytesWorld w 5 t):=Any.strconv_Atoi_ok Tryz.laysC172 s hmax v h w
open Go.RowKit in
theorem Tryz.strconv_Atoi_range (s:ByteArray) (hlim:s.size<=281474976710656) (h:Lib.atoiAll s.data.toList=.range) (ev:Value) (w:World) (hv:w.cell? ⟨5,0,none⟩=some ev) (hev:ev=.nilIface∨∃ te pe,ev=.iface te pe) :
 Calls Tryz.prog 54 #[.string s] w fun e w'=>∃ N,e=.returned (.tuple #[.int .i64 (Lib.atoiSat s.data.toList),.iface 173 (.pointer (some ⟨N,0,none⟩))])/\w.heap.size<=N/\w'.heap[N]?=some (.cells #[.string ⟨#[65,116,111,105]⟩,.string s,ev] 189 (0,0))/\Below w.heap.size w w':=Any.strconv_Atoi_range Tryz.laysC172 s hlim h ev w hv hev
def Tryz.lays145_ren:Go.Shelf.Ren:=⟨fun | 145=>19 | 220=>31 | 219=>52 | 217=>73 | 225=>74 | 224=>75 | 267=>76 | 266=>97 | 314=>98 | n=>n,fun | 9=>9 | 4=>4 | 59=>72 | 3=>3 | 5=>5 | 46=>125 | 146=>165 | 51=>161 | n=>n,fun | 1=>2 | n=>n⟩
theorem Tryz.lays145:Go.Proofs.Lays.n145 Tryz.prog Tryz.lays145_ren:={
 mixed:=ka
 f145:=ke Tryz.func19
 f217:=ke Tryz.func73
 f219:=ke Tryz.func52
 f220:=ke Tryz.func31
 f224:=ke Tryz.func75
 f225:=ke Tryz.func74
 f266:=ke Tryz.func97
 f267:=ke Tryz.func76
 f314:=ke Tryz.func98
 t3:=Tryz.underlying3
 a3:=Tryz.isAgg3
 z3:=Tryz.sizeOf3
 v3:=Tryz.zeroValue3
 t4:=Tryz.underlying4
 a4:=Tryz.isAgg4
 z4:=Tryz.sizeOf4
 v4:=Tryz.zeroValue4
 t5:=Tryz.underlying5
 a5:=Tryz.isAgg5
 z5:=Tryz.sizeOf5
 v5:=Tryz.zeroValue5
 t9:=Tryz.underlying9
 a9:=Tryz.isAgg9
 z9:=Tryz.sizeOf9
 v9:=Tryz.zeroValue9
 t46:=Tryz.underlying125
 a46:=Tryz.isAgg125
 z46:=Tryz.sizeOf125
 v46:=Tryz.zeroValue125
 t51:=Tryz.underlying161
 a51:=Tryz.isAgg161
 z51:=Tryz.sizeOf161
 v51:=Tryz.zeroValue161
 t59:=Tryz.underlying72
 a59:=Tryz.isAgg72
 z59:=Tryz.sizeOf72
 v59:=Tryz.zeroValue72
 t146:=Tryz.underlying165
 a146:=Tryz.isAgg165
 z146:=Tryz.sizeOf165
 v146:=Tryz.zeroValue165
 g1:=by kernel_rfl }
open Go.RowKit Go.Lib in
theorem Tryz.strings_Cut (s sep:ByteArray) (m:Int) (w:World) (hs:s.size<4294967281) (hm:w.cell? ⟨2,0,none⟩=some (.int .i64 m)) :
 Calls Tryz.prog 19 #[.string s,.string sep] w fun e w'=>e=.returned (.tuple #[.string ⟨(Lib.cut s.data.toList sep.data.toList).1.toArray⟩,.string ⟨(Lib.cut s.data.toList sep.data.toList).2.1.toArray⟩,.bool (Lib.cut s.data.toList sep.data.toList).2.2])/\∃ n,w'=w.drewN n:=Any.strings_Cut Tryz.lays145 s sep m w hs hm
def Tryz.laysM145_ren:Go.Shelf.Ren:=⟨fun | 145=>19 | 220=>31 | 219=>52 | 217=>73 | 225=>74 | 224=>75 | 267=>76 | 266=>97 | 314=>98 | n=>n,fun | 9=>9 | 4=>4 | 59=>72 | 3=>3 | 5=>5 | 46=>125 | 146=>165 | 51=>161 | n=>n,fun | 1=>2 | n=>n⟩
theorem Tryz.laysM145:Go.Proofs.LaysM.n145 Tryz.prog Tryz.laysM145_ren:={
 mixed:=ka
 f145:=ke Tryz.func19
 f217:=ke Tryz.func73
 f219:=ke Tryz.func52
 f220:=ke Tryz.func31
 f224:=ke Tryz.func75
 f225:=ke Tryz.func74
 f266:=ke Tryz.func97
 f267:=ke Tryz.func76
 f314:=ke Tryz.func98
 t3:=Tryz.underlying3
 a3:=Tryz.isAgg3
 z3:=Tryz.sizeOf3
 v3:=Tryz.zeroValue3
 t4:=Tryz.underlying4
 a4:=Tryz.isAgg4
 z4:=Tryz.sizeOf4
 v4:=Tryz.zeroValue4
 t5:=Tryz.underlying5
 a5:=Tryz.isAgg5
 z5:=Tryz.sizeOf5
 v5:=Tryz.zeroValue5
 t9:=Tryz.underlying9
 a9:=Tryz.isAgg9
 z9:=Tryz.sizeOf9
 v9:=Tryz.zeroValue9
 t46:=Tryz.underlying125
 a46:=Tryz.isAgg125
 z46:=Tryz.sizeOf125
 v46:=Tryz.zeroValue125
 t51:=Tryz.underlying161
 a51:=Tryz.isAgg161
 z51:=Tryz.sizeOf161
 v51:=Tryz.zeroValue161
 t59:=Tryz.underlying72
 a59:=Tryz.isAgg72
 z59:=Tryz.sizeOf72
 v59:=Tryz.zeroValue72
 t146:=Tryz.underlying165
 a146:=Tryz.isAgg165
 z146:=Tryz.sizeOf165
 v146:=Tryz.zeroValue165
 g1:=ka
 i3:=ka
 i4:=ka
 i5:=ka
 i9:=ka
 i46:=ka
 i51:=ka
 i59:=ka
 i146:=ka
 m1:=ka
 s1_3:=fun w h=>Go.Proofs.cell_of_shapedOpen_int (zero:=#[.int .i64 0]) (t:=3) h (of_decide_eq_true ka) ka rfl ka ka Tryz.underlying3 }
def Tryz.lays146_ren:Go.Shelf.Ren:=⟨fun | 146=>32 | 221=>53 | 268=>77 | 138=>78 | 143=>79 | 195=>99 | 197=>100 | 218=>101 | 219=>52 | 260=>115 | 217=>73 | 225=>74 | 224=>75 | 267=>76 | 266=>97 | 314=>98 | n=>n,fun | 9=>9 | 31=>36 | 3=>3 | 4=>4 | 0=>0 | 105=>168 | 21=>21 | 5=>5 | 46=>125 | 119=>194 | 139=>197 | 138=>196 | 146=>165 | 51=>161 | n=>n,fun | 1=>2 | 3=>8 | 4=>9 | n=>n⟩
theorem Tryz.lays146:Go.Proofs.Lays.n146 Tryz.prog Tryz.lays146_ren:={
 mixed:=ka
 f138:=ke Tryz.func78
 f143:=ke Tryz.func79
 f146:=ke Tryz.func32
 f195:=ke Tryz.func99
 f197:=ke Tryz.func100
 f217:=ke Tryz.func73
 f218:=ke Tryz.func101
 f219:=ke Tryz.func52
 f221:=ke Tryz.func53
 f224:=ke Tryz.func75
 f225:=ke Tryz.func74
 f260:=ke Tryz.func115
 f266:=ke Tryz.func97
 f267:=ke Tryz.func76
 f268:=ke Tryz.func77
 f314:=ke Tryz.func98
 t0:=Tryz.underlying0
 a0:=Tryz.isAgg0
 z0:=Tryz.sizeOf0
 v0:=Tryz.zeroValue0
 t3:=Tryz.underlying3
 a3:=Tryz.isAgg3
 z3:=Tryz.sizeOf3
 v3:=Tryz.zeroValue3
 t4:=Tryz.underlying4
 a4:=Tryz.isAgg4
 z4:=Tryz.sizeOf4
 v4:=Tryz.zeroValue4
 t5:=Tryz.underlying5
 a5:=Tryz.isAgg5
 z5:=Tryz.sizeOf5
 v5:=Tryz.zeroValue5
 t9:=Tryz.underlying9
 a9:=Tryz.isAgg9
 z9:=Tryz.sizeOf9
 v9:=Tryz.zeroValue9
 t21:=Tryz.underlying21
 a21:=Tryz.isAgg21
 z21:=Tryz.sizeOf21
 v21:=Tryz.zeroValue21
 t31:=Tryz.underlying36
 a31:=Tryz.isAgg36
 z31:=Tryz.sizeOf36
 v31:=Tryz.zeroValue36
 t46:=Tryz.underlying125
 a46:=Tryz.isAgg125
 z46:=Tryz.sizeOf125
 v46:=Tryz.zeroValue125
 t51:=Tryz.underlying161
 a51:=Tryz.isAgg161
 z51:=Tryz.sizeOf161
 v51:=Tryz.zeroValue161
 t105:=Tryz.underlying168
 a105:=Tryz.isAgg168
 z105:=Tryz.sizeOf168
 v105:=Tryz.zeroValue168
 t119:=Tryz.underlying194
 a119:=Tryz.isAgg194
 z119:=Tryz.sizeOf194
 t138:=Tryz.underlying196
 a138:=Tryz.isAgg196
 z138:=Tryz.sizeOf196
 v138:=Tryz.zeroValue196
 t139:=Tryz.underlying197
 a139:=Tryz.isAgg197
 z139:=Tryz.sizeOf197
 v139:=Tryz.zeroValue197
 t146:=Tryz.underlying165
 a146:=Tryz.isAgg165
 z146:=Tryz.sizeOf165
 v146:=Tryz.zeroValue165
 g1:=ka
 g3:=ka
 g4:=by kernel_rfl }
open Go.RowKit Go.Lib in
theorem Tryz.strings_Split (s sep:ByteArray) (m:Int) (w:World) (hs:s.size<4294967281) (hm:w.cell? ⟨2,0,none⟩=some (.int .i64 m)) (h1:1<=sep.size) :
 Calls Tryz.prog 32 #[.string s,.string sep] w fun e w' =>
  e=.returned (.slice (some ⟨w.heap.size,0,none⟩) (Lib.countB s sep+1) (Lib.countB s sep+1))/\w'=w.alloc (.cells ((Lib.splitB sep 0 (Lib.countB s sep) s).map Value.string).toArray 9):=Any.strings_Split Tryz.lays146 ka s sep m w hs hm h1
end Go.Proofs
namespace Go.Proofs.YtkpadfebkaangaaGreatDoor.Ev
noncomputable section
open Go Go.Proofs Go.Shelf Go.RowKit
set_option linter.all false
section
variable {P:Program} {ρ:Ren}
theorem jsw {e:TypeId} (hc:P.cellsOf e=1) (count o n:Nat) (hn:o+n<=count):liesAt P P.depth e count o e n=true:=by
 have hd:P.depth=(2*(P.types.size+Made.depth)+1)+1:=rfl
 rw[hd]
 simp only[liesAt,f2b]
 left
 rw[hd]
 simp[rowAt,hc,hn,sameLayout]
 omega
theorem jjd (w:World) (pt it ty e:TypeId) (hp:P.underlying pt=some (.pointer e)) (hc:P.cellsOf e=1) (g o cells:Nat) (hsh:w.shape? g=some (e,cells)) (l:List UInt8) (h0:l≠[]) (hn:o+l.length<=cells) (h63:l.length<=9223372036854775807)
 (hcell:∀ j x,l[j]?=some x->w.cell? ((⟨g,o,none⟩:Addr).add j)=some (.int .u8 x.toNat)) :
 (Builtin.unsafeString_ #[pt,it] ty #[.pointer (some ⟨g,o,none⟩),.int .i64 l.length]).run P w=.ok (.string ⟨l.toArray⟩) (w.freeze ⟨g,o,none⟩ l.length):=by
 have hl:l.length≠0:=by simpa using h0
 have hlb:=Lib.run_loadBytes (P:=P) w l ⟨g,o,none⟩ .empty hcell
 have hlies:=jsw (P:=P) hc (cells / P.cellsOf e) o l.length (by rw[hc];simpa using hn)
 have h63':¬ (9223372036854775807:Int)<(l.length:Int):=oa
 have hdef:Builtin.unsafeString_ #[pt,it] ty #[.pointer (some ⟨g,o,none⟩),.int .i64 l.length] =
  (do
   let n ←asInt (.int .i64 l.length)
   if n<0 then runtimePanic (.error "unsafe.String: len out of range")
   if n>IntKind.i64.max then unsupported (.unsafePointer "String: a length above the largest int")
   if n=0 then pure (.string .empty)
   else if ←variablesAt ⟨g,o,none⟩ (←elemOf pt) n.toNat then do
    let s ←loadBytes ⟨g,o,none⟩ .empty n.toNat
    freeze ⟨g,o,none⟩ n.toNat
    pure (.string s)
   else unsupported (.unsafePointer "String: not so many bytes at ptr")):=rfl
 rw[hdef]
 have hmax:IntKind.i64.max=9223372036854775807:=rfl
 have hneg:¬ (l.length:Int)<0:=oa
 simp[asInt,asIntOf,hmax,h63',hl,hneg,elemOf,run_underlying hp,variablesAt,viewAt,hsh,hlies,hlb]
set_option maxHeartbeats 1000000 in
set_option maxRecDepth 100000 in
theorem jqs (L:Lays.n169 P ρ) (X:Builder.Extra P ρ) (b g o cap:Nat) (p:Value) (cur:Array Value) (l:List UInt8) (w:World)
 (hbk:w.heap[b]?=some (.cells #[p,.slice (some ⟨g,o,none⟩) l.length cap] (ρ.t 72) (0,0))) (hg:w.heap[g]?=some (.cells cur (ρ.t 5) (0,0))) (h0:l≠[]) (hcap:l.length<=cap) (hfit:o+l.length<=cur.size) (h63:l.length<=9223372036854775807)
 (hcell:∀ j x,l[j]?=some x->w.cell? ((⟨g,o,none⟩:Addr).add j)=some (.int .u8 x.toNat)) :
 Calls P (ρ.f 169) #[.pointer (some ⟨b,0,none⟩)] w fun e w'=>e=.returned (.string ⟨l.toArray⟩)/\w'=w.drew.freeze ⟨g,o,none⟩ l.length:=by
 have hl0:l.length≠0:=by simpa using h0
 have c1:w.drew.cell? ⟨b,1,none⟩=some (.slice (some ⟨g,o,none⟩) l.length cap):=by
  have:w.drew.heap[b]?=some (.cells #[p,.slice (some ⟨g,o,none⟩) l.length cap] (ρ.t 72) (0,0)):=hbk
  rw[Lib.cell_of_heap this];rfl
 have hSD:(Builtin.unsafeSliceData_ #[(ρ.t 37)] (ρ.t 127) #[.slice (some ⟨g,o,none⟩) l.length cap]).run P w.drew=.ok (.pointer (some ⟨g,o,none⟩)) w.drew :=
  Lib.run_unsafeSliceData_row _ _ _ _ _ _ oa
 have hUS:(Builtin.unsafeString_ #[(ρ.t 127),(ρ.t 3)] (ρ.t 9) #[.pointer (some ⟨g,o,none⟩),.int .i64 l.length]).run P w.drew=.ok (.string ⟨l.toArray⟩) (w.drew.freeze ⟨g,o,none⟩ l.length) :=
  jjd w.drew (ρ.t 127) (ρ.t 3) (ρ.t 9) (ρ.t 5) L.t127 X.cellsByte g o cur.size (by have hg':w.drew.heap[g]?=some (.cells cur (ρ.t 5) (0,0)):=hg;simp[World.shape?,hg']) l h0 hfit h63 hcell
 clear hcell
 have mixed:=L.mixed
 have t72:=L.t72;have a72:=L.a72;have z72:=L.z72;have v72:=L.v72;have u72:=run_underlying L.t72
 have t70:=L.t70;have a70:=L.a70;have z70:=L.z70;have v70:=L.v70;have u70:=run_underlying L.t70
 have t37:=L.t37;have a37:=L.a37;have z37:=L.z37;have v37:=L.v37;have u37:=run_underlying L.t37
 have t127:=L.t127;have a127:=L.a127;have z127:=L.z127;have v127:=L.v127;have u127:=run_underlying L.t127
 have t3:=L.t3;have a3:=L.a3;have z3:=L.z3;have v3:=L.v3;have u3:=run_underlying L.t3
 have t9:=L.t9;have a9:=L.a9;have z9:=L.z9;have v9:=L.v9;have u9:=run_underlying L.t9
 have t5:=X.t5;have a5:=X.a5;have z5:=X.z5;have v5:=X.v5;have u5:=run_underlying X.t5
 go_enter L.f169,Body.n169_ntmps ρ
 go_wp2
 go_region_o
 all_goals (go_wp2;go_ret;exact⟨rfl,rfl⟩)
end
open Go Go.RowKit
def jy6 (c:UInt8) (l:List UInt8):Option (List UInt8×List UInt8) :=
 List.rec none (fun b r ih=>oif (Nat.beq (UInt8.toNat b) (UInt8.toNat c)) (some ([],r)) (ob ih (fun p=>some (b::p.1,p.2)))) l
def jco (c:UInt8) (l:List UInt8):List (List UInt8) :=
 List.rec [[]] (fun b _ ih=>oif (Nat.beq (UInt8.toNat b) (UInt8.toNat c)) ([]::ih) (List.casesOn ih [[b]] (fun a q=>(b::a)::q))) l
theorem qhw (b c:UInt8):Nat.beq b.toNat c.toNat=(b == c):=by
 by_cases h:b=c
 .subst h;rw[f1w,beq_self_eq_true]
 .rw [beq_eq_false_iff_ne.2 h]
  cases e:Nat.beq b.toNat c.toNat with
  | false=>rfl
  | true=>exact absurd (UInt8.toNat_inj.1 (f0k e)) h
theorem jkb (c b:UInt8) (l:List UInt8):jy6 c (b::l)=if b=c then some ([],l) else (jy6 c l).map (fun p=>(b::p.1,p.2)):=by
 show oif (Nat.beq b.toNat c.toNat) (some ([],l)) (ob (jy6 c l) (fun p=>some (b::p.1,p.2)))=_
 rw[qhw]
 by_cases h:b=c
 .rw [if_pos h,h,beq_self_eq_true];rfl
 .rw [if_neg h,beq_eq_false_iff_ne.2 h]
  cases jy6 c l<;>rfl
theorem jea (c b:UInt8) (l:List UInt8):jco c (b::l)=if b=c then []::jco c l else match jco c l with
 | []=>[[b]]
 | a::q=>(b::a)::q:=by
 show oif (Nat.beq b.toNat c.toNat) ([]::jco c l) (List.casesOn (motive:=fun _=>List (List UInt8)) (jco c l) [[b]] (fun a q=>(b::a)::q))=_
 rw[qhw]
 by_cases h:b=c
 .rw [if_pos h,h,beq_self_eq_true];rfl
 .rw [if_neg h,beq_eq_false_iff_ne.2 h]
  cases jco c l<;>rfl
theorem jph {c:UInt8}:∀ {l:List UInt8},jy6 c l=none->Lib.indexByte l c=-1/\jco c l=[l]
 | [],_=>⟨rfl,rfl⟩
 | b::l,h=>by
  rw[jkb] at h
  by_cases e:b=c
  .rw [if_pos e] at h;cases h
  .rw [if_neg e] at h
   have h':jy6 c l=none:=by cases h2:jy6 c l with
    | none=>rfl
    | some p=>rw[h2] at h;cases h
   obtain⟨i1,i2⟩:=jph h'
   refine⟨?_,?_⟩
   .unfold Lib.indexByte
    rw[if_neg (by simpa using e),i1];rfl
   .rw [jea,if_neg e,i2]
theorem jpi {c:UInt8}:∀ {l a r:List UInt8},jy6 c l=some (a,r)->Lib.indexByte l c=(a.length:Int)/\l=a++c::r/\jco c l=a::jco c r
 | [],a,r,h=>by cases h
 | b::l,a,r,h=>by
  rw[jkb] at h
  by_cases e:b=c
  .rw [if_pos e] at h
   cases h
   subst e
   refine⟨?_,rfl,?_⟩
   .unfold Lib.indexByte
    rw[if_pos se];rfl
   .rw [jea,if_pos rfl]
  .rw [if_neg e] at h
   cases h2:jy6 c l with
   | none=>rw[h2] at h;cases h
   | some p =>
    obtain⟨a',r'⟩:=p
    rw[h2] at h
    cases h
    obtain⟨i1,i2,i3⟩:=jpi h2
    refine⟨?_,by rw[i2];rfl,?_⟩
    .unfold Lib.indexByte
     rw[if_neg (by simpa using e),i1,if_neg se]
     simp
    .rw [jea,if_neg e,i3]
theorem qfk (c:UInt8) (l:List UInt8):Lib.cut l [c]=match jy6 c l with
 | some (a,r)=>(a,r,true)
 | none=>(l,[],false):=by
 unfold Lib.cut
 rw[Lib.index_one]
 cases h:jy6 c l with
 | none =>
  rw[(jph h).1,if_neg oa]
 | some p =>
  obtain⟨a,r⟩:=p
  obtain⟨i1,i2,_⟩:=jpi h
  rw[i1,if_pos oa]
  have e1:((a.length:Int)).toNat=a.length:=f1k _
  rw[e1,i2]
  simp
theorem jrn (c:UInt8):∀ (n:Nat) (l:List UInt8),l.length<=n->Lib.splitK [c] 0 (Lib.count l [c]) l=jco c l/\(jco c l).length=Lib.count l [c]+1
 | n,l,hn=>by
  cases h:jy6 c l with
  | none =>
   obtain⟨i1,i2⟩:=jph h
   rw[←Lib.index_one] at i1
   rw[Lib.count_miss i1,i2]
   exact⟨rfl,rfl⟩
  | some p =>
   obtain⟨a,r⟩:=p
   obtain⟨i1,i2,i3⟩:=jpi h
   rw[←Lib.index_one] at i1
   have hl:l.length=a.length+(r.length+1):=by rw[i2];simp
   cases n with
   | zero=>omega
   | succ n =>
    obtain⟨j1,j2⟩:=jrn c n r oa
    have hd:l.drop (a.length+[c].length)=r:=by rw[i2];simp
    have hc:=Lib.count_hit (s:=l) (sub:=[c]) se i1
    rw[hd] at hc
    rw[hc,Nat.add_comm 1,i3]
    refine⟨?_,by rw[f0i,j2]⟩
    have e1:((a.length:Int)).toNat=a.length:=f1k _
    have h0:¬ ((Lib.index l [c] == -1)=true):=by rw[i1];simp
    show(if (Lib.index l [c] == -1)=true then [l] else l.take ((Lib.index l [c]).toNat+0)::Lib.splitK [c] 0 (Lib.count r [c]) (l.drop ((Lib.index l [c]).toNat+[c].length)))=_
    rw[if_neg h0,i1,e1,hd,j1,f1z]
    congr 1
    rw[i2];simp
def dig (f:Nat):Nat->List UInt8->List UInt8 :=
 Nat.rec (fun _ acc=>acc) (fun _ ih n acc=>oif (Nat.ble n 9) (UInt8.ofNat (Nat.add 48 n)::acc) (ih (Nat.div n 10) (UInt8.ofNat (Nat.add 48 (Nat.mod n 10))::acc))) f
theorem j83:∀ (f n:Nat) (acc:List UInt8),n<10 ^ f->1<=f->dig f n acc=Lib.decDigits n++acc
 | 0,n,acc,h,h1=>oa
 | f+1,n,acc,h,_=>by
  show oif (Nat.ble n 9) (UInt8.ofNat (48+n)::acc) (dig f (n / 10) (UInt8.ofNat (48+n % 10)::acc))=_
  unfold Lib.decDigits
  by_cases h1:n<10
  .rw [show Nat.ble n 9=true from f2z (show n<=9 by omega),dif_pos h1];rfl
  .have e:Nat.ble n 9=false:=by
    cases e:Nat.ble n 9 with
    | false=>rfl
    | true=>have:=f0l e;omega
   rw[e,dif_neg h1]
   show dig f (n / 10) _=_
   have hf:1<=f:=by
    cases f with
    | zero=>simp at h;omega
    | succ f=>omega
   rw[j83 f (n / 10) _ (by rw[Nat.pow_succ] at h;omega) hf,f0g]
   rfl
open Go Go.RowKit Go.Sort
variable {g:Nat}
set_option maxRecDepth 100000
def j5l {β:Type} (v:AV) (f:List UInt8->Option β):Option β:=svc none v (fun s=>jk6 s f)
def qfl {β:Type} (vs:List AV) (f:AV->Option β):Option β:=List.casesOn vs none (fun a r=>List.casesOn r (f a) (fun _ _=>none))
def qmp {β:Type} (vs:List AV) (f:AV->AV->Option β):Option β:=List.casesOn vs none (fun a r=>qfl r (f a))
def qzr {β:Type} (l:List UInt8) (f:UInt8->Option β):Option β:=List.casesOn l none (fun a r=>List.casesOn r (f a) (fun _ _=>none))
def quw (c:UInt8) (s:List UInt8):AV:=Option.casesOn (jy6 c s) (.tup [(false,[.str s]),(false,[.str []]),(false,[.bool false])]) (fun p=>.tup [(false,[.str p.1]),(false,[.str p.2]),(false,[.bool true])])
def qzs (c:UInt8) (s:List UInt8):AV:=.s (.lst ((jco c s).map (fun x=>[SV.str x])))
def qsk (s:List UInt8):AV:=Lib.NumEnd.casesOn (Lib.atoiAll s) (fun v=>.tup [(false,[.int .i64 v]),(false,[.ifc false])]) (.tup [(false,[.int .i64 0]),(false,[.ifc true])]) (.tup [(false,[.int .i64 (Lib.atoiSat s)]),(false,[.ifc true])])
def q07 (vs:List AV) (h:Hp):R:=qmp vs (fun a b=>j5l a (fun s=>j5l b (fun p=>qzr p (fun c=>oif (Nat.ble (jb6 s) 4000000000) (ok (quw c s) h) none))))
def q08 (vs:List AV) (h:Hp):R:=qmp vs (fun a b=>j5l a (fun s=>j5l b (fun p=>qzr p (fun c=>oif (Nat.ble (jb6 s) 4000000000) (ok (qzs c s) h) none))))
def q09 (vs:List AV) (h:Hp):R:=qfl vs (fun a=>j5l a (fun s=>oif (Nat.ble (jb6 s) 4000000000) (ok (qsk s) h) none))
def qux (vs:List AV) (h:Hp):R:=match vs with
 | [.s (.int .i64 (.ofNat m))]=>oif (Nat.ble m 9223372036854775807) (ok (.s (.str (dig 19 m []))) h) none
 | _=>none
def jpj (l:List SV):Bool:=match l with
 | []=>true
 | .int .u8 n::l=>inR .u8 n&&jpj l
 | _=>false
def qp0 (vs:List AV) (h:Hp):R:=match vs with
 | [.s (.ptr p 0)]=>ob (h.get p) (fun x=>match x with
  | .arr (c0::c1::[]) ty=>oif (Nat.beq ty bT) (match c0 with
   | .nilPtr=>ob (wr h p 0 [.ptr p 0]) (fun h'=>ok (.tup []) h')
   | .ptr q 0=>oif (Nat.beq q p) (ok (.tup []) h) none
   | _=>none) none
  | _=>none)
 | _=>none
def qsl (vs:List AV) (h:Hp):R:=match vs with
 | [.s (.ptr p 0)]=>ob (h.get p) (fun x=>match x with
  | .arr (_::.slice m off n mc ex sz::[]) ty=>oif (Nat.beq ty bT) (ob (h.get m) (fun y=>match y with
   | .arr cs t2=>oif (Nat.beq t2 5) (oif (Nat.ble h.lo m) (oif (Nat.beq sz 1) (ob (rd h m off n) (fun xs=>ob (j55 xs) (fun l=>match l with
    | []=>none
    | a::r=>oif (Nat.ble (a::r).length 9223372036854775807) (oif (jpj xs) (ok (.s (.str (a::r))) (h.put m none)) none) none))) none) none) none
   | _=>none)) none
  | _=>none)
 | _=>none
def jqt (f:FuncId) (vs:List AV) (h:Hp):R :=
 oif (Nat.beq f 19) (q07 vs h) (oif (Nat.beq f 32) (q08 vs h) (oif (Nat.beq f 54) (q09 vs h) (oif (Nat.beq f 13) (qux vs h) (oif (Nat.beq f 24) (qp0 vs h) (oif (Nat.beq f 16) (qsl vs h) none)))))
def q1a:Go.Shelf.Ren:=⟨fun | 240=>24 | 276=>46 | n=>n,fun | 37=>45 | 0=>0 | 4=>4 | 9=>9 | 20=>20 | 70=>44 | 72=>47 | 164=>112 | n=>n,fun | n=>n⟩
theorem qsm:Go.Proofs.Lays.n240 Tryz.prog q1a:={
 mixed:=ka
 f240:=ke Tryz.func24
 f276:=ke Tryz.func46
 t0:=Tryz.underlying0
 a0:=Tryz.isAgg0
 z0:=Tryz.sizeOf0
 v0:=Tryz.zeroValue0
 t4:=Tryz.underlying4
 a4:=Tryz.isAgg4
 z4:=Tryz.sizeOf4
 v4:=Tryz.zeroValue4
 t9:=Tryz.underlying9
 a9:=Tryz.isAgg9
 z9:=Tryz.sizeOf9
 v9:=Tryz.zeroValue9
 t20:=Tryz.underlying20
 a20:=Tryz.isAgg20
 z20:=Tryz.sizeOf20
 v20:=Tryz.zeroValue20
 t70:=Tryz.underlying44
 a70:=Tryz.isAgg44
 z70:=Tryz.sizeOf44
 v70:=Tryz.zeroValue44
 t72:=Tryz.underlying47
 a72:=Tryz.isAgg47
 z72:=Tryz.sizeOf47
 v72:=Tryz.zeroValue47
 t164:=Tryz.underlying112
 a164:=Tryz.isAgg112
 z164:=Tryz.sizeOf112
 v164:=Tryz.zeroValue112 }
theorem qsn:Go.Proofs.Builder.X72 Tryz.prog q1a:={ sizeBuilder:=by kernel_rfl,liesBuilder:=by kernel_rfl }
section
variable {β:Type}
theorem jgi {v:AV} {f:List UInt8->Option β} {r:β} (h:j5l v f=some r):∃ l,v=.s (.str l)/\f l=some r:=by
 obtain⟨s,rfl,h1⟩:=jcn h
 obtain⟨l,rfl,h2⟩:=jhm h1
 exact⟨l,rfl,h2⟩
theorem jro {vs:List AV} {f:AV->Option β} {r:β} (h:qfl vs f=some r):∃ a,vs=[a]/\f a=some r:=by
 match vs,h with
 | [a],h=>exact⟨a,rfl,h⟩
theorem jrp {vs:List AV} {f:AV->AV->Option β} {r:β} (h:qmp vs f=some r):∃ a b,vs=[a,b]/\f a b=some r:=by
 match vs,h with
 | a::q,h =>
  obtain⟨b,rfl,h2⟩:=jro (show qfl q (f a)=some r from h)
  exact⟨a,b,rfl,h2⟩
theorem jv6 {l:List UInt8} {f:UInt8->Option β} {r:β} (h:qzr l f=some r):∃ c,l=[c]/\f c=some r:=by
 match l,h with
 | [a],h=>exact⟨a,rfl,h⟩
end
section
variable {A:Nat->Int} {φ:Phi} {h h':Hp} {w w':World} {W:Nat->Prop}
theorem Rel.below (k:Rel A φ h w) (b:Below w.heap.size w w'):Step W φ φ h h w w'/\Rel A φ h w':=by
 refine⟨⟨Abs.refl W k.wf,fun _ _=>rfl,fun _ _ e=>e,fun _ _ e=>.inl e,b.os,b.tape,b.output,b.size,fun p hp _=>b.block p hp,fun n L hn _ hL=>by rw[k.dom n hn] at hL;cases hL⟩,⟨k.wf,k.dom,fun n x hx=>?_,k.inj,fun p cs e=>?_,k.sep⟩⟩
 .refine (k.blk n x hx).world (fun L hL=>b.block _ ?_)
  obtain⟨L',hL',hb⟩:=(k.blk n x hx).some_loc
  rw[hL'] at hL
  cases hL
  exact hb
 .obtain ⟨ty',h3⟩:=k.con p cs e
  exact⟨ty',by rw[b.block p (k.conLt e)];exact h3⟩
theorem j5m (w:World) (n:Nat) (os:Array Obj):Below w.heap.size w (grow (w.drewN n) os) :=
 ⟨rfl,rfl,rfl,by show w.heap.size<=(w.heap++os).size;rw[Array.size_append];omega,fun k hk=>by
  show(w.heap++os)[k]?=_
  rw[f14 hk]⟩
theorem Rel.var (k:Rel A φ h w) {P:Program} {n:String} (hg:P.globalNamed n=some g) {cs:Array Value} (e:φ.k g=some cs):w.var? P n=some cs:=by
 obtain⟨ty,h3⟩:=k.con g cs e
 unfold World.var?
 rw[hg]
 simp only[Option.bind_some,h3]
theorem Rel.noNew (k:Rel A φ h w):φ.k w.heap.size=none:=by
 cases e:φ.k w.heap.size with
 | none=>rfl
 | some cs=>exact absurd (k.conLt e) oa
theorem Rel.cell (k:Rel A φ h w) {cs:Array Value} (e:φ.k g=some cs) {v:Value} (hv:cs[0]?=some v):w.cell? ⟨g,0,none⟩=some v:=by
 obtain⟨ty,h3⟩:=k.con g cs e
 unfold World.cell?
 simp only[h3]
 exact hv
theorem bsz (l:List UInt8):(⟨l.toArray⟩:ByteArray).size=l.length:=by simp[ByteArray.size]
theorem qmq {k:Nat->Option (Array Value)} {b:Nat} {ps:List ByteArray} {l:List (List UInt8)} (hl:l=ps.map (·.data.toList)) (hk:k b=some (ps.map Value.string).toArray) :
 cD A k (.lst (l.map (fun x=>[SV.str x]))) (.slice (some ⟨b,0,none⟩) l.length l.length):=by
 subst hl
 have row:∀ (i:Nat) (r:List SV),((ps.map (·.data.toList)).map (fun x=>[SV.str x]))[i]?=some r->∃ p,ps[i]?=some p/\r=[.str p.data.toList]:=fun i r h=>by
  rw[f09,f09] at h
  obtain⟨q,hq,rfl⟩:=f0a.1 h
  obtain⟨p,hp,rfl⟩:=f0a.1 hq
  exact⟨p,hp,rfl⟩
 have h:=cD.lst (A:=A) (k:=k) ((ps.map (·.data.toList)).map (fun x=>[SV.str x])) b 0 (ps.map (·.data.toList)).length 1 _ (fun i j=>((ps.map Value.string).toArray[0+i*1+j]?).getD (.bool false)) hk se (fun i r h=>by
  obtain⟨p,_,rfl⟩:=row i r h;rfl) (fun i j r y h1 h2=>?_) (fun i j r y h1 h2=>?_)
 .rw [f03] at h;exact h
 .obtain ⟨p,hp,rfl⟩:=row i r h1
  match j,h2 with
  | 0,h2 =>
   have e:(ps.map Value.string).toArray[0+i*1+0]?=some (.string p):=by simp[hp]
   rw[e];rfl
 .obtain ⟨p,hp,rfl⟩:=row i r h1
  match j,h2 with
  | 0,h2 =>
   cases h2
   have e:(ps.map Value.string).toArray[0+i*1+0]?=some (.string p):=by simp[hp]
   simp only[e,f1l]
   exact .str _
def jy7 (P:Program) (A:Nat->Int) (f:FuncId) (vs:List AV) (h:Hp) (v:AV) (h':Hp):Prop :=
 qky P f/\(WF h->Abs (fun n=>h.lo<=n) h h')/\∀ φ w (args:Array Value),Rel A φ h w->All2 (cV A φ) vs args.toList ->
  Calls P f args w (fun e w'=>∃ rv φ',e=.returned rv/\Step (fun n=>h.lo<=n) φ φ' h h' w w'/\Rel A φ' h' w'/\cV A φ' v rv)
end
section
variable {A:Nat->Int} {vs:List AV} {h h':Hp} {v:AV}
theorem qmr (hx:qux vs h=some (v,h')):jy7 Tryz.prog A 13 vs h v h':=by
 unfold qux at hx
 split at hx
 .rename_i m
  obtain⟨h5,h6⟩:=jae.1 hx
  cases h6
  have hm:m<=9223372036854775807:=f0l h5
  refine⟨⟨_,Tryz.func13,ka,ka⟩,fun k=>Abs.refl _ k,fun φ w args rel ha=>?_⟩
  obtain⟨l⟩:=args
  simp only at ha
  cases ha with
  | @cons _ x _ l1 hx1 h7 =>
   cases h7
   have e1:x=.int .i64 (m:Int):=hx1
   subst e1
   obtain⟨_,k1,_⟩:=φ.g.ext
   refine Calls.mono (Tryz.strconv_Itoa (m:Int) oa oa w (rel.var ka k1)) ?_
   rintro e w' ⟨rfl,n,os,rfl⟩
   obtain⟨st,r⟩:=rel.below (W:=fun n=>h.lo<=n) (j5m w n os)
   refine⟨_,φ,rfl,st,r,?_⟩
   have e2:Lib.itoa (m:Int)=dig 19 m []:=by
    unfold Lib.itoa
    rw[if_neg oa,f1k,j83 19 m [] oa oa,f06]
   rw[e2]
   rfl
 .cases hx
theorem Rel.builder {φ:Phi} {w:World} (k:Rel A φ h w) {p:Nat} {c0 c1:SV} (hg:h.get p=some (.arr [c0,c1] bT)) :
 ∃ L u0 u1,φ p=some L/\L.o=0/\w.heap[L.b]?=some (.cells #[u0,u1] bT (0,0))/\cS A φ c0 u0/\cS A φ c1 u1:=by
 obtain⟨L,c,h1,h3,h4,h5,h6⟩:=k.blk p _ hg
 obtain⟨e1,e2⟩:=h5.2 rfl
 have hc:c.size=2:=h4.trans e2
 obtain⟨u0,a0,b0⟩:=h6 0 c0 rfl
 obtain⟨u1,a1,b1⟩:=h6 1 c1 rfl
 rw[e1] at a0 a1
 refine⟨L,u0,u1,h1,e1,?_,b0,b1⟩
 have:c=#[u0,u1]:=by
  apply Array.ext_getElem?
  intro i
  match i with
  | 0=>simpa using a0
  | 1=>simpa using a1
  | i+2=>rw[Array.getElem?_eq_none oa,Array.getElem?_eq_none se]
 rw[←this];exact h3
theorem qms (hx:qp0 vs h=some (v,h')):jy7 Tryz.prog A 24 vs h v h':=by
 unfold qp0 at hx
 split at hx
 .rename_i p
  obtain⟨x,hg,h1⟩:=jaa.1 hx
  split at h1
  .rename_i c0 c1 ty
   obtain⟨hty,h2⟩:=jae.1 h1
   obtain rfl:ty=bT:=f0k hty
   have fn:qky Tryz.prog 24:=⟨_,Tryz.func24,ka,ka⟩
   split at h2
   ·
    obtain⟨h3,hw,h4⟩:=jaa.1 h2
    cases h4
    refine⟨fn,fun k=>?_,fun φ w args rel ha=>?_⟩
    .obtain ⟨a,hlo⟩:=jva k hw
     exact a.mono (fun n e=>by subst e;exact hlo)
    .obtain ⟨l⟩:=args
     simp only at ha
     cases ha with
     | @cons _ y _ l1 hx1 h7 =>
      cases h7
      obtain⟨L,u0,u1,e1,e2,e3,e4,e5⟩:=rel.builder hg
      obtain⟨L',e6,e7⟩:=(show jqj φ p 0 y from hx1)
      rw[e1] at e6
      cases e6
      have e8:y=.pointer (some ⟨L.b,0,none⟩):=by rw[e7,e2]
      subst e8
      have e9:u0=.pointer none:=e4
      subst e9
      refine Calls.mono (Any.Builder_copyCheck_fresh qsm qsn L.b w (by simp[World.cell?,e3]) (by simp[World.shape?,e3];rfl) (by simp[World.frozen?,e3])) ?_
      rintro e w' ⟨rfl,rfl⟩
      have hv:All2 (cS A φ) [.ptr p 0] [.pointer (some ⟨L.b,0,none⟩)]:=.cons ⟨L,e1,by rw[e2]⟩ .nil
      obtain⟨hlo,_⟩:=jle hw
      obtain⟨L2,c,ty,q1,_,q2,q3,q4⟩:=rel.put hw hv
      rw[e1] at q1
      cases q1
      rw[e3] at q2
      cases q2
      obtain⟨s,r⟩:=q4 (w.setCell ⟨L.b,0,none⟩ (.pointer (some ⟨L.b,0,none⟩))) ⟨rfl,rfl,rfl,by simp[World.setCell],fun k hk=>Below.heap_setCell _ _ _ _ (fun e=>hk (by simp[e])),by
       rw[e2]
       simp[World.setCell,Array.getElem?_modify,e3]⟩
      exact⟨_,φ,rfl,s.mono (fun n e=>by subst e;exact hlo),r,[],rfl,.nil⟩
   .rename_i q
    obtain⟨hq,h3⟩:=jae.1 h2
    obtain rfl:=f0k hq
    cases h3
    refine⟨fn,fun k=>Abs.refl _ k,fun φ w args rel ha=>?_⟩
    obtain⟨l⟩:=args
    simp only at ha
    cases ha with
    | @cons _ y _ l1 hx1 h7 =>
     cases h7
     obtain⟨L,u0,u1,e1,e2,e3,e4,e5⟩:=rel.builder hg
     obtain⟨L',e6,e7⟩:=(show jqj φ q 0 y from hx1)
     rw[e1] at e6
     cases e6
     have e8:y=.pointer (some ⟨L.b,0,none⟩):=by rw[e7,e2]
     subst e8
     obtain⟨L',e6,e9⟩:=(show jqj φ q 0 u0 from e4)
     rw[e1] at e6
     cases e6
     have e10:u0=.pointer (some ⟨L.b,0,none⟩):=by rw[e9,e2]
     subst e10
     refine Calls.mono (Any.Builder_copyCheck_used qsm qsn L.b w (by simp[World.cell?,e3])) ?_
     rintro e w' ⟨rfl,rfl⟩
     exact⟨_,φ,rfl,Step.refl _ rel rfl rfl rfl rfl,rel,[],rfl,.nil⟩
   .cases h2
  .cases h1
 .cases hx
theorem Rel.other {φ:Phi} {w w':World} (k:Rel A φ h w) (hn:∀ n L,(h.get n).isSome=true->φ n=some L->L.b≠g) (hk:φ.k g=none) (hw:∀ b,b≠g->w'.heap[b]?=w.heap[b]?):Rel A φ h w' :=
 ⟨k.wf,k.dom,fun n x hx=>(k.blk n x hx).world (fun L hL=>hw _ (hn n L (by rw[hx];rfl) hL)),k.inj,fun b cs e=>by rw[hw b (fun e'=>by rw[e',hk] at e;cases e)];exact k.con b cs e,k.sep⟩
theorem j5n {φ:Phi} {xs:List SV} {l:List UInt8} {us:List Value} (hl:j55 xs=some l) (hv:All2 (cS A φ) xs us) (hb:jpj xs=true):us=l.map (fun b=>Value.int .u8 (b.toNat:Int)):=by
 obtain⟨ns,rfl,rfl⟩:=joo hl
 rw[jyb hv]
 clear hv hl
 induction ns with
 | nil=>rfl
 | cons a ns ih =>
  have h1:(inR .u8 a&&jpj (ns.map (SV.int .u8)))=true:=hb
  rw[f05] at h1
  rw[f0u,f0u,f0u,ih h1.2]
  congr 2
  cases a with
  | negSucc n=>exact absurd ((show inR .u8 (Int.negSucc n)=false from rfl).symm.trans h1.1) (by decide)
  | ofNat n =>
   have h2:n<=255:=f0l h1.1
   show(n:Int)=(((UInt8.ofNat (Int.toNat (n:Int))).toNat:Nat):Int)
   rw[f1k]
   have:(UInt8.ofNat n).toNat=n:=by simp;omega
   rw[this]
theorem qmt (hx:qsl vs h=some (v,h')):jy7 Tryz.prog A 16 vs h v h':=by
 unfold qsl at hx
 split at hx
 .rename_i p
  obtain⟨x,hg,h1⟩:=jaa.1 hx
  split at h1
  .rename_i c0 m off n mc ex sz ty
   obtain⟨hty,h2⟩:=jae.1 h1
   obtain rfl:ty=bT:=f0k hty
   obtain⟨y,hgm,h3⟩:=jaa.1 h2
   split at h3
   .rename_i cs t2
    obtain⟨ht2,h4⟩:=jae.1 h3
    obtain rfl:t2=5:=f0k ht2
    obtain⟨hlo,h5⟩:=jae.1 h4
    obtain⟨hsz,h6⟩:=jae.1 h5
    obtain rfl:sz=1:=f0k hsz
    obtain⟨xs,hrd,h7⟩:=jaa.1 h6
    obtain⟨l,hl,h8⟩:=jaa.1 h7
    split at h8
    .cases h8
    .rename_i a r
     obtain⟨hl63,h9⟩:=jae.1 h8
     obtain⟨hby,h10⟩:=jae.1 h9
     cases h10
     have hlo':h.lo<=m:=f0l hlo
     have hms:(h.get m).isSome=true:=by rw[hgm];rfl
     refine⟨⟨_,Tryz.func16,ka,ka⟩,fun k=>(Abs.put k hms none).mono (fun n e=>by subst e;exact hlo'),fun φ w args rel ha=>?_⟩
     obtain⟨la⟩:=args
     simp only at ha
     cases ha with
     | @cons _ y _ l1 hx1 hr7 =>
      cases hr7
      obtain⟨L,u0,u1,e1,e2,e3,e4,e5⟩:=rel.builder hg
      obtain⟨L',e6,e7⟩:=(show jqj φ p 0 y from hx1)
      rw[e1] at e6
      cases e6
      have e8:y=.pointer (some ⟨L.b,0,none⟩):=by rw[e7,e2]
      subst e8
      obtain⟨M,ad,cap,p1,p2,p3,p4,p5,p6⟩:=(show cS A φ (.slice m off n mc ex 1) u1 from e5)
      obtain⟨M',us,q1,q2,q3,q4,q5⟩:=jj1 rel hrd
      rw[p1] at q1
      cases q1
      obtain⟨M',c,z1,z2,z3,z4,z5⟩:=rel.blk m _ hgm
      rw[p1] at z1
      cases z1
      have hbs:=j5n hl q3 hby
      have hs63:(a::r).length<=9223372036854775807:=f0l hl63
      have hlen:(a::r).length=n:=by
       have:=congrArg List.length hbs
       rw[f03] at this
       omega
      have hn0:0<n:=by rw[←hlen];exact Nat.succ_pos _
      have hrd2:off+n<=cs.length:=by
       obtain⟨cs',ty',hg',hxs,hxl⟩:=joc hrd
       rw[hgm] at hg'
       cases hg'
       rw[hxs] at hxl
       simp at hxl
       omega
      rcases p6 with⟨rfl,p7⟩ | p6
      rotate_left
      .omega
      subst p2
      have z41:=z4.1
      have hlc:(a::r).length<=c.size:=by rw[z3,hlen];omega
      rw[←hlen] at e3
      refine Calls.mono (jqs Tryz.lays169 Tryz.Builder_Extra_169 L.b M.b (M.o+off) cap u0 c (a::r) w e3 z2 se oa (by rw[z3];omega) hs63 (fun j x hj=>?_)) ?_
      .have hu:us[j]?=some (.int .u8 (x.toNat:Int)):=by rw[hbs,f09,hj];rfl
       have:=q5 j _ hu
       rw[jcc];exact this
      .rintro e w' ⟨rfl,rfl⟩
       obtain⟨s1,r1⟩:=rel.kill hms
       have hne:∀ n N,((h.put m none).get n).isSome=true->φ n=some N->N.b≠M.b:=fun n N hn hN e=>by
        have hn1:=s1.abs.get_isSome (by
         rcases f0n n h.next with q | q
         .exact q
         .rw [rel.dom n q] at hN;cases hN) hn
        have:n=m:=rel.inj n m N M hn1 hms hN p1 e
        subst this
        obtain⟨t1,t2⟩:=Hp.get_isSome hms
        rw[Hp.get_eq,rel.wf.put_same t2] at hn
        split at hn<;>cases hn
       have hw:∀ b,b≠M.b->(w.drew.freeze ⟨M.b,M.o+off,none⟩ (a::r).length).heap[b]?=w.heap[b]?:=fun b hb=>by
        unfold World.freeze
        split
        .rfl
        .simp only[Array.getElem?_modify]
         rw[if_neg (fun e=>hb e.symm)]
         rfl
       have hos:(w.drew.freeze ⟨M.b,M.o+off,none⟩ (a::r).length).heap.size=w.heap.size/\(w.drew.freeze ⟨M.b,M.o+off,none⟩ (a::r).length).os=w.os/\(w.drew.freeze ⟨M.b,M.o+off,none⟩ (a::r).length).tape=w.tape/\(w.drew.freeze ⟨M.b,M.o+off,none⟩ (a::r).length).output=w.output:=by
        unfold World.freeze
        split<;>exact⟨by simp<;>rfl,rfl,rfl,rfl⟩
       have r2:=r1.other hne (rel.sep m M hms p1) hw
       refine⟨_,φ,rfl,⟨s1.abs.mono (fun n e=>by subst e;exact hlo'),s1.ext,s1.kle,s1.knew,hos.2.1,hos.2.2.1,hos.2.2.2,by rw[hos.1];exact f0h _,fun b hb hv=>hw b (fun e=>hv m M hlo' hms p1 e.symm),fun n N a1 a2 a3=>by rw[rel.dom n a1] at a3;cases a3⟩,r2,rfl⟩
   .cases h3
  .cases h1
 .cases hx
theorem qmu (hx:q07 vs h=some (v,h')):jy7 Tryz.prog A 19 vs h v h':=by
 obtain⟨a,b,rfl,h1⟩:=jrp hx
 obtain⟨s,rfl,h2⟩:=jgi h1
 obtain⟨p,rfl,h3⟩:=jgi h2
 obtain⟨c,rfl,h4⟩:=jv6 h3
 obtain⟨h5,h6⟩:=jae.1 h4
 cases h6
 have hs:s.length<=4000000000:=by have:=f0l h5;rw[jba] at this;exact this
 refine⟨⟨_,Tryz.func19,ka,ka⟩,fun k=>Abs.refl _ k,fun φ w args rel ha=>?_⟩
 obtain⟨l⟩:=args
 simp only at ha
 cases ha with
 | @cons _ x _ l1 hx1 h7 =>
  cases h7 with
  | @cons _ y _ l2 hy1 h8 =>
   cases h8
   have e1:x=.string ⟨s.toArray⟩:=hx1
   have e2:y=.string ⟨[c].toArray⟩:=hy1
   subst e1 e2
   obtain⟨⟨m,cs,k1,k2⟩,_⟩:=φ.g.ext
   refine Calls.mono (Tryz.strings_Cut ⟨s.toArray⟩ ⟨[c].toArray⟩ m w (by rw[bsz];omega) (rel.cell k1 k2)) ?_
   rintro e w' ⟨rfl,n,rfl⟩
   obtain⟨st,r⟩:=rel.below (W:=fun n=>h.lo<=n) (below_drewN (Below.refl w.heap.size w) n)
   refine⟨_,φ,rfl,st,r,?_⟩
   have e3:Lib.cut (ByteArray.mk s.toArray).data.toList (ByteArray.mk [c].toArray).data.toList=_:=qfk c s
   rw[e3]
   unfold quw
   cases jy6 c s with
   | none=>exact⟨[_,_,_],rfl,.cons ⟨_,rfl,rfl⟩ (.cons ⟨_,rfl,rfl⟩ (.cons ⟨_,rfl,rfl⟩ .nil))⟩
   | some p=>exact⟨[_,_,_],rfl,.cons ⟨_,rfl,rfl⟩ (.cons ⟨_,rfl,rfl⟩ (.cons ⟨_,rfl,rfl⟩ .nil))⟩
theorem qmv (hx:q08 vs h=some (v,h')):jy7 Tryz.prog A 32 vs h v h':=by
 obtain⟨a,b,rfl,h1⟩:=jrp hx
 obtain⟨s,rfl,h2⟩:=jgi h1
 obtain⟨p,rfl,h3⟩:=jgi h2
 obtain⟨c,rfl,h4⟩:=jv6 h3
 obtain⟨h5,h6⟩:=jae.1 h4
 cases h6
 have hs:s.length<=4000000000:=by have:=f0l h5;rw[jba] at this;exact this
 refine⟨⟨_,Tryz.func32,ka,ka⟩,fun k=>Abs.refl _ k,fun φ w args rel ha=>?_⟩
 obtain⟨l⟩:=args
 simp only at ha
 cases ha with
 | @cons _ x _ l1 hx1 h7 =>
  cases h7 with
  | @cons _ y _ l2 hy1 h8 =>
   cases h8
   have e1:x=.string ⟨s.toArray⟩:=hx1
   have e2:y=.string ⟨[c].toArray⟩:=hy1
   subst e1 e2
   obtain⟨⟨m,cs,k1,k2⟩,_⟩:=φ.g.ext
   refine Calls.mono (Tryz.strings_Split ⟨s.toArray⟩ ⟨[c].toArray⟩ m w (by rw[bsz];omega) (rel.cell k1 k2) (by rw[bsz];simp)) ?_
   rintro e w' ⟨rfl,rfl⟩
   obtain⟨j1,j2⟩:=jrn c s.length s (f0h _)
   have e4:jco c s=(Lib.splitB ⟨[c].toArray⟩ 0 (Lib.countB ⟨s.toArray⟩ ⟨[c].toArray⟩) ⟨s.toArray⟩).map (·.data.toList):=by
    rw[Lib.splitB_data];exact j1.symm
   have e5:Lib.countB ⟨s.toArray⟩ ⟨[c].toArray⟩+1=(jco c s).length:=j2.symm
   obtain⟨st,r⟩:=rel.cst (W:=fun n=>h.lo<=n) (Grown.alloc w _ _)
   rw[e5]
   exact⟨_,_,rfl,st,r,qmq e4 (Phi.cst_same _ _ _ (rel.noNew))⟩
theorem qmw (hx:q09 vs h=some (v,h')):jy7 Tryz.prog A 54 vs h v h':=by
 obtain⟨a,rfl,h1⟩:=jro hx
 obtain⟨s,rfl,h2⟩:=jgi h1
 obtain⟨h5,h6⟩:=jae.1 h2
 cases h6
 have hs:s.length<=4000000000:=by have:=f0l h5;rw[jba] at this;exact this
 refine⟨⟨_,Tryz.func54,ka,ka⟩,fun k=>Abs.refl _ k,fun φ w args rel ha=>?_⟩
 obtain⟨l⟩:=args
 simp only at ha
 cases ha with
 | @cons _ x _ l1 hx1 h7 =>
  cases h7
  have e1:x=.string ⟨s.toArray⟩:=hx1
  subst e1
  obtain⟨_,_,⟨c,u,k1,k2,k3⟩,⟨d,q,k4,k5,k6⟩⟩:=φ.g.ext
  unfold qsk
  cases e:Lib.atoiAll s with
  | ok n =>
   refine Calls.mono (Tryz.strconv_Atoi_ok ⟨s.toArray⟩ (by rw[bsz];omega) n e w) ?_
   rintro e w' ⟨rfl,hw⟩
   have b:Below w.heap.size w w':=by
    rcases hw with rfl | ⟨t,rfl⟩
    .exact Below.refl _ _
    .exact Joins.below_bytesWorld _ w _ t (f0h _)
   obtain⟨st,r⟩:=rel.below (W:=fun n=>h.lo<=n) b
   exact⟨_,φ,rfl,st,r,[_,_],rfl,.cons ⟨_,rfl,rfl⟩ (.cons ⟨_,rfl,.inr ⟨rfl,rfl⟩⟩ .nil)⟩
  | range =>
   refine Calls.mono (Tryz.strconv_Atoi_range ⟨s.toArray⟩ (by rw[bsz];omega) e q w (rel.cell k4 k5) k6) ?_
   rintro e w' ⟨N,rfl,_,_,b⟩
   obtain⟨st,r⟩:=rel.below (W:=fun n=>h.lo<=n) b
   exact⟨_,φ,rfl,st,r,[_,_],rfl,.cons ⟨_,rfl,rfl⟩ (.cons ⟨_,rfl,.inl ⟨rfl,_,_,rfl⟩⟩ .nil)⟩
  | _ =>
   have c:=Any.strconv_Atoi_syntax Tryz.laysC172 ⟨s.toArray⟩ (by rw[bsz];omega) e u w (rel.cell k1 k2) k3
   refine Calls.mono c ?_
   rintro e w' ⟨N,rfl,_,_,b⟩
   obtain⟨st,r⟩:=rel.below (W:=fun n=>h.lo<=n) b
   exact⟨_,φ,rfl,st,r,[_,_],rfl,.cons ⟨_,rfl,rfl⟩ (.cons ⟨_,rfl,.inl ⟨rfl,_,_,rfl⟩⟩ .nil)⟩
theorem qmx {f:FuncId} (hx:jqt f vs h=some (v,h')):jy7 Tryz.prog A f vs h v h':=by
 unfold jqt at hx
 rw[jat] at hx
 split at hx
 .rename_i e;rw[f0k e];exact qmu hx
 rw[jat] at hx
 split at hx
 .rename_i e;rw[f0k e];exact qmv hx
 rw[jat] at hx
 split at hx
 .rename_i e;rw[f0k e];exact qmw hx
 rw[jat] at hx
 split at hx
 .rename_i e;rw[f0k e];exact qmr hx
 rw[jat] at hx
 split at hx
 .rename_i e;rw[f0k e];exact qms hx
 rw[jat] at hx
 split at hx
 .rename_i e;rw[f0k e];exact qmt hx
 cases hx
def qfm (F:Fns):Fns:=Fns.casesOn F (fun T X=>.mk T (fun f vs h=>Option.rec (X f vs h) (fun r=>some r) (jqt f vs h)))
theorem j84 {T:Tr TI} {F:Fns} (env:Env Tryz.prog A T F):Env Tryz.prog A T (qfm F):=by
 cases F with
 | mk T0 X =>
  refine⟨env.tys,env.mix,env.fn,fun f vs h v h' hx=>?_⟩
  have hx':Option.rec (motive:=fun _=>R) (X f vs h) (fun r=>some r) (jqt f vs h)=some (v,h'):=hx
  cases e:jqt f vs h with
  | none=>rw[e] at hx';exact env.ext f vs h v h' hx'
  | some r =>
   rw[e] at hx'
   cases hx'
   exact qmx e
end
end
end Go.Proofs.YtkpadfebkaangaaGreatDoor.Ev
