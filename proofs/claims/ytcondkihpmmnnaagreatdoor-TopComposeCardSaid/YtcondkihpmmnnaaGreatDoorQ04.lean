/- Lemmas, part 4 of 50. No condition. -/
import Derived.Shelf.SlGeneric
import Derived.Shelf.Strings.BuilderK
import Derived.Shelf.Small.Strs
import Derived.Shelf.Strconv.Itoa3
import Derived.Shelf.SlSortCmp.NoneTotal
import Derived.Shelf.SlicesE.Clone
import Derived.Test.YtcondkihpmmnnaaGreatDoorProg
import Derived.Test.YtcondkihpmmnnaaGreatDoorQ01
import Derived.Test.YtcondkihpmmnnaaGreatDoorQ03
import Derived.OrdersHeld
import Derived.Deep.RegionHeld3
import Derived.Test.YtcondkihpmmnnaaGreatDoorQ02
import Derived.Laws.StructEq
import Derived.ChangeKeysEq
namespace Go.Proofs
open Go.Shelf
def Tryz.lays169_ren:Go.Shelf.Ren:=⟨fun | 169 => 30 | n => n,fun | 70 => 80 | 9 => 9 | 0 => 0 | 72 => 83 | 37 => 81 | 127 => 137 | 3 => 3 | 5 => 5 | n => n,fun | n => n⟩
theorem Tryz.lays169:Go.Proofs.Lays.n169 Tryz.prog Tryz.lays169_ren:={
 mixed:=by kernel_rfl
 f169:=Tryz.func30.trans (congrArg some (by kernel_rfl))
 t0:=Tryz.underlying0
 a0:=Tryz.isAgg0
 z0:=Tryz.sizeOf0
 v0:=Tryz.zeroValue0
 t3:=Tryz.underlying3
 a3:=Tryz.isAgg3
 z3:=Tryz.sizeOf3
 v3:=Tryz.zeroValue3
 t9:=Tryz.underlying9
 a9:=Tryz.isAgg9
 z9:=Tryz.sizeOf9
 v9:=Tryz.zeroValue9
 t37:=Tryz.underlying81
 a37:=Tryz.isAgg81
 z37:=Tryz.sizeOf81
 v37:=Tryz.zeroValue81
 t70:=Tryz.underlying80
 a70:=Tryz.isAgg80
 z70:=Tryz.sizeOf80
 v70:=Tryz.zeroValue80
 t72:=Tryz.underlying83
 a72:=Tryz.isAgg83
 z72:=Tryz.sizeOf83
 v72:=Tryz.zeroValue83
 t127:=Tryz.underlying137
 a127:=Tryz.isAgg137
 z127:=Tryz.sizeOf137
 v127:=Tryz.zeroValue137 }
theorem Tryz.Builder_Extra_169:Builder.Extra Tryz.prog Tryz.lays169_ren:={
 sizeBuilder:=by kernel_rfl
 liesBuilder:=by kernel_rfl
 t5:=Tryz.underlying5
 a5:=Tryz.isAgg5
 z5:=Tryz.sizeOf5
 v5:=Tryz.zeroValue5
 infoByte:=by kernel_rfl
 cellsByte:=by kernel_rfl
 sizeByte:=by kernel_rfl
 neB5:=by decide }
def Tryz.lays106_ren:Go.Shelf.Ren:=⟨fun | 106 => 84 | 213 => 115 | 265 => 140 | n => n,fun | 9 => 9 | 3 => 3 | n => n,fun | n => n⟩
theorem Tryz.lays106:Go.Proofs.Lays.n106 Tryz.prog Tryz.lays106_ren:={
 mixed:=by kernel_rfl
 f106:=Tryz.func84.trans (congrArg some (by kernel_rfl))
 f213:=Tryz.func115.trans (congrArg some (by kernel_rfl))
 f265:=Tryz.func140.trans (congrArg some (by kernel_rfl))
 t3:=Tryz.underlying3
 a3:=Tryz.isAgg3
 z3:=Tryz.sizeOf3
 v3:=Tryz.zeroValue3
 t9:=Tryz.underlying9
 a9:=Tryz.isAgg9
 z9:=Tryz.sizeOf9
 v9:=Tryz.zeroValue9 }
open Go.RowKit in
theorem Tryz.strings_Compare (a b:ByteArray) (w:World) :
    Calls Tryz.prog 84 #[.string a,.string b] w fun e w' => e = .returned (.int .i64 (Lib.compareBytes a.data.toList b.data.toList))∧w' = w:=Any.strings_Compare Tryz.lays106 a b w
open Go.RowKit in
theorem Tryz.Builder_String_any_k (B b:Nat) (l:List UInt8) (w:World) (h:Lib.IsBuilderF 83 5 B b (Lib.byteCells l) w) (hBw:B≤w.heap.size) :
    Calls Tryz.prog 30 #[.pointer (some ⟨b,0,none⟩)] w fun e w' => e = .returned (.string ⟨l.toArray⟩)∧(Lib.IsBuilderF 83 5 B b (Lib.byteCells l) w'∧Below B w w'∧Lib.OthersKept 5 (some b) w w'):=Any.Builder_String_any_k Tryz.lays169 Tryz.Builder_Extra_169 B b l w h hBw
def Tryz.laysM171_ren:Go.Shelf.Ren:=⟨fun | 171 => 103 | 243 => 122 | 246 => 151 | 283 => 162 | 284 => 163 | 285 => 164 | 286 => 165 | 129 => 139 | 317 => 168 | 318 => 169 | 319 => 170 | 320 => 171 | 337 => 172 | 338 => 152 | n => n,fun | 3 => 3 | 9 => 9 | 2 => 2 | 4 => 4 | 171 => 244 | 0 => 0 | 53 => 56 | 37 => 81 | 5 => 5 | 173 => 246 | 212 => 254 | 51 => 227 | 20 => 20 | 213 => 255 | 46 => 149 | 232 => 256 | 233 => 248 | n => n,fun | 17 => 2 | 18 => 3 | 19 => 1 | n => n⟩
theorem Tryz.laysM171:Go.Proofs.LaysM.n171 Tryz.prog Tryz.laysM171_ren:={
 mixed:=by kernel_rfl
 f129:=Tryz.func139.trans (congrArg some (by kernel_rfl))
 f171:=Tryz.func103.trans (congrArg some (by kernel_rfl))
 f243:=Tryz.func122.trans (congrArg some (by kernel_rfl))
 f246:=Tryz.func151.trans (congrArg some (by kernel_rfl))
 f283:=Tryz.func162.trans (congrArg some (by kernel_rfl))
 f284:=Tryz.func163.trans (congrArg some (by kernel_rfl))
 f285:=Tryz.func164.trans (congrArg some (by kernel_rfl))
 f286:=Tryz.func165.trans (congrArg some (by kernel_rfl))
 f317:=Tryz.func168.trans (congrArg some (by kernel_rfl))
 f318:=Tryz.func169.trans (congrArg some (by kernel_rfl))
 f319:=Tryz.func170.trans (congrArg some (by kernel_rfl))
 f320:=Tryz.func171.trans (congrArg some (by kernel_rfl))
 f337:=Tryz.func172.trans (congrArg some (by kernel_rfl))
 f338:=Tryz.func152.trans (congrArg some (by kernel_rfl))
 t0:=Tryz.underlying0
 a0:=Tryz.isAgg0
 z0:=Tryz.sizeOf0
 v0:=Tryz.zeroValue0
 t2:=Tryz.underlying2
 a2:=Tryz.isAgg2
 z2:=Tryz.sizeOf2
 v2:=Tryz.zeroValue2
 t3:=Tryz.underlying3
 a3:=Tryz.isAgg3
 z3:=Tryz.sizeOf3
 v3:=Tryz.zeroValue3
 t4:=Tryz.underlying4
 a4:=Tryz.isAgg4
 z4:=Tryz.sizeOf4
 v4:=Tryz.zeroValue4
 t5:=Tryz.underlying5
 a5:=Tryz.isAgg5
 z5:=Tryz.sizeOf5
 v5:=Tryz.zeroValue5
 t9:=Tryz.underlying9
 a9:=Tryz.isAgg9
 z9:=Tryz.sizeOf9
 v9:=Tryz.zeroValue9
 t20:=Tryz.underlying20
 a20:=Tryz.isAgg20
 z20:=Tryz.sizeOf20
 v20:=Tryz.zeroValue20
 t37:=Tryz.underlying81
 a37:=Tryz.isAgg81
 z37:=Tryz.sizeOf81
 v37:=Tryz.zeroValue81
 t46:=Tryz.underlying149
 a46:=Tryz.isAgg149
 z46:=Tryz.sizeOf149
 v46:=Tryz.zeroValue149
 t51:=Tryz.underlying227
 a51:=Tryz.isAgg227
 z51:=Tryz.sizeOf227
 v51:=Tryz.zeroValue227
 t53:=Tryz.underlying56
 a53:=Tryz.isAgg56
 z53:=Tryz.sizeOf56
 v53:=Tryz.zeroValue56
 t171:=Tryz.underlying244
 a171:=Tryz.isAgg244
 z171:=Tryz.sizeOf244
 v171:=Tryz.zeroValue244
 t173:=Tryz.underlying246
 a173:=Tryz.isAgg246
 z173:=Tryz.sizeOf246
 v173:=Tryz.zeroValue246
 t212:=Tryz.underlying254
 a212:=Tryz.isAgg254
 z212:=Tryz.sizeOf254
 v212:=Tryz.zeroValue254
 t213:=Tryz.underlying255
 a213:=Tryz.isAgg255
 z213:=Tryz.sizeOf255
 t232:=Tryz.underlying256
 a232:=Tryz.isAgg256
 z232:=Tryz.sizeOf256
 v232:=Tryz.zeroValue256
 t233:=Tryz.underlying248
 a233:=Tryz.isAgg248
 z233:=Tryz.sizeOf248
 v233:=Tryz.zeroValue248
 g17:=by kernel_rfl
 g18:=by kernel_rfl
 g19:=by kernel_rfl
 i0:=by kernel_rfl
 i2:=by kernel_rfl
 i3:=by kernel_rfl
 i4:=by kernel_rfl
 i5:=by kernel_rfl
 i9:=by kernel_rfl
 i20:=by kernel_rfl
 i37:=by kernel_rfl
 i46:=by kernel_rfl
 i51:=by kernel_rfl
 i53:=by kernel_rfl
 i171:=by kernel_rfl
 i173:=by kernel_rfl
 i212:=by kernel_rfl
 i232:=by kernel_rfl
 i233:=by kernel_rfl
 m17:=by kernel_rfl
 m18:=by kernel_rfl
 m19:=by kernel_rfl }
open Go.RowKit Go.Sort Go.Lib in
theorem Tryz.strconv_Itoa (n:Int) (h0:-9223372036854775808≤n) (h1:n≤9223372036854775807) (w:World) (htab:Lib.TabIs Tryz.prog w "internal/strconv.uint64pow10" .u64 Lib.pow10Tab) :
    Calls Tryz.prog 103 #[.int .i64 n] w fun e w' => e = .returned (.string ⟨(Lib.itoa n).toArray⟩)∧∃ k os,w' = grow (w.drewN k) os:=Any.strconv_Itoa Tryz.laysM171 n h0 h1 w htab
def Tryz.sortTip_ren:Go.Shelf.Ren:=⟨fun | 6 => 80 | 15 => 113 | 14 => 112 | 28 => 138 | 29 => 139 | 20 => 130 | 21 => 131 | 22 => 132 | 23 => 133 | 24 => 134 | 25 => 135 | 26 => 136 | 27 => 137 | 46 => 154 | 47 => 155 | 48 => 156 | 49 => 157 | 50 => 158 | 57 => 166 | n => n,fun | 22 => 29 | 24 => 54 | 25 => 117 | 3 => 3 | 39 => 149 | 0 => 0 | 53 => 227 | 55 => 56 | 4 => 4 | 46 => 221 | 45 => 220 | 50 => 179 | 5 => 5 | 9 => 9 | 66 => 236 | 70 => 240 | 76 => 249 | 77 => 250 | n => n,fun | n => n⟩
theorem Tryz.sortTip:Go.Proofs.SlLaysF0.n6 Tryz.prog Tryz.sortTip_ren:={
 mixed:=by kernel_rfl
 f6:=⟨Tryz.f80.name,by decide,Tryz.func80.trans (congrArg some (by kernel_rfl))⟩
 f14:=⟨Tryz.f112.name,by decide,Tryz.func112.trans (congrArg some (by kernel_rfl))⟩
 f15:=Tryz.func113.trans (congrArg some (by kernel_rfl))
 f20:=⟨Tryz.f130.name,by decide,Tryz.func130.trans (congrArg some (by kernel_rfl))⟩
 f21:=⟨Tryz.f131.name,by decide,Tryz.func131.trans (congrArg some (by kernel_rfl))⟩
 f22:=⟨Tryz.f132.name,by decide,Tryz.func132.trans (congrArg some (by kernel_rfl))⟩
 f23:=⟨Tryz.f133.name,by decide,Tryz.func133.trans (congrArg some (by kernel_rfl))⟩
 f24:=⟨Tryz.f134.name,by decide,Tryz.func134.trans (congrArg some (by kernel_rfl))⟩
 f25:=⟨Tryz.f135.name,by decide,Tryz.func135.trans (congrArg some (by kernel_rfl))⟩
 f26:=⟨Tryz.f136.name,by decide,Tryz.func136.trans (congrArg some (by kernel_rfl))⟩
 f27:=⟨Tryz.f137.name,by decide,Tryz.func137.trans (congrArg some (by kernel_rfl))⟩
 f28:=Tryz.func138.trans (congrArg some (by kernel_rfl))
 f29:=Tryz.func139.trans (congrArg some (by kernel_rfl))
 f46:=⟨Tryz.f154.name,by decide,Tryz.func154.trans (congrArg some (by kernel_rfl))⟩
 f47:=Tryz.func155.trans (congrArg some (by kernel_rfl))
 f48:=Tryz.func156.trans (congrArg some (by kernel_rfl))
 f49:=⟨Tryz.f157.name,by decide,Tryz.func157.trans (congrArg some (by kernel_rfl))⟩
 f50:=⟨Tryz.f158.name,by decide,Tryz.func158.trans (congrArg some (by kernel_rfl))⟩
 f57:=⟨Tryz.f166.name,by decide,Tryz.func166.trans (congrArg some (by kernel_rfl))⟩
 t0:=Tryz.underlying0
 a0:=Tryz.isAgg0
 z0:=Tryz.sizeOf0
 v0:=Tryz.zeroValue0
 t3:=Tryz.underlying3
 a3:=Tryz.isAgg3
 z3:=Tryz.sizeOf3
 v3:=Tryz.zeroValue3
 t4:=Tryz.underlying4
 a4:=Tryz.isAgg4
 z4:=Tryz.sizeOf4
 v4:=Tryz.zeroValue4
 t5:=Tryz.underlying5
 a5:=Tryz.isAgg5
 z5:=Tryz.sizeOf5
 v5:=Tryz.zeroValue5
 t9:=Tryz.underlying9
 a9:=Tryz.isAgg9
 z9:=Tryz.sizeOf9
 v9:=Tryz.zeroValue9
 t22:=Tryz.underlying29
 a22:=Tryz.isAgg29
 z22:=Tryz.sizeOf29
 v22:=Tryz.zeroValue29
 t25:=Tryz.underlying117
 a25:=Tryz.isAgg117
 z25:=Tryz.sizeOf117
 v25:=Tryz.zeroValue117
 t39:=Tryz.underlying149
 a39:=Tryz.isAgg149
 z39:=Tryz.sizeOf149
 v39:=Tryz.zeroValue149
 t45:=Tryz.underlying220
 a45:=Tryz.isAgg220
 z45:=Tryz.sizeOf220
 v45:=Tryz.zeroValue220
 t46:=Tryz.underlying221
 a46:=Tryz.isAgg221
 z46:=Tryz.sizeOf221
 v46:=Tryz.zeroValue221
 t50:=Tryz.underlying179
 a50:=Tryz.isAgg179
 z50:=Tryz.sizeOf179
 v50:=Tryz.zeroValue179
 t53:=Tryz.underlying227
 a53:=Tryz.isAgg227
 z53:=Tryz.sizeOf227
 v53:=Tryz.zeroValue227
 t55:=Tryz.underlying56
 a55:=Tryz.isAgg56
 z55:=Tryz.sizeOf56
 v55:=Tryz.zeroValue56
 t66:=Tryz.underlying236
 a66:=Tryz.isAgg236
 z66:=Tryz.sizeOf236
 v66:=Tryz.zeroValue236
 t70:=Tryz.underlying240
 a70:=Tryz.isAgg240
 z70:=Tryz.sizeOf240
 v70:=Tryz.zeroValue240
 t76:=Tryz.underlying249
 a76:=Tryz.isAgg249
 z76:=Tryz.sizeOf249
 v76:=Tryz.zeroValue249
 t77:=Tryz.underlying250
 a77:=Tryz.isAgg250
 z77:=Tryz.sizeOf250
 v77:=Tryz.zeroValue250 }
def Tryz.cloneTip_ren:Go.Shelf.Ren:=⟨fun | 41 => 62 | n => n,fun | 22 => 29 | 23 => 54 | 4 => 4 | n => n,fun | n => n⟩
theorem Tryz.cloneTip:Go.Proofs.SlLaysE0.n41 Tryz.prog Tryz.cloneTip_ren:={
 mixed:=by kernel_rfl
 f41:=⟨Tryz.f62.name,by decide,Tryz.func62.trans (congrArg some (by kernel_rfl))⟩
 t4:=Tryz.underlying4
 a4:=Tryz.isAgg4
 z4:=Tryz.sizeOf4
 v4:=Tryz.zeroValue4
 t22:=Tryz.underlying29
 a22:=Tryz.isAgg29
 z22:=Tryz.sizeOf29
 v22:=Tryz.zeroValue29 }
def Tryz.sortArc_ren:Go.Shelf.Ren:=⟨fun | 6 => 86 | 15 => 113 | 14 => 116 | 28 => 138 | 29 => 139 | 20 => 141 | 21 => 142 | 22 => 143 | 23 => 144 | 24 => 145 | 25 => 146 | 26 => 147 | 27 => 148 | 46 => 159 | 47 => 155 | 48 => 156 | 49 => 160 | 50 => 161 | 57 => 167 | n => n,fun | 22 => 30 | 24 => 61 | 25 => 119 | 3 => 3 | 39 => 149 | 0 => 0 | 53 => 227 | 55 => 56 | 4 => 4 | 46 => 221 | 45 => 220 | 50 => 179 | 5 => 5 | 9 => 9 | 66 => 236 | 70 => 240 | 76 => 249 | 77 => 250 | n => n,fun | n => n⟩
theorem Tryz.sortArc:Go.Proofs.SlLaysF0.n6 Tryz.prog Tryz.sortArc_ren:={
 mixed:=by kernel_rfl
 f6:=⟨Tryz.f86.name,by decide,Tryz.func86.trans (congrArg some (by kernel_rfl))⟩
 f14:=⟨Tryz.f116.name,by decide,Tryz.func116.trans (congrArg some (by kernel_rfl))⟩
 f15:=Tryz.func113.trans (congrArg some (by kernel_rfl))
 f20:=⟨Tryz.f141.name,by decide,Tryz.func141.trans (congrArg some (by kernel_rfl))⟩
 f21:=⟨Tryz.f142.name,by decide,Tryz.func142.trans (congrArg some (by kernel_rfl))⟩
 f22:=⟨Tryz.f143.name,by decide,Tryz.func143.trans (congrArg some (by kernel_rfl))⟩
 f23:=⟨Tryz.f144.name,by decide,Tryz.func144.trans (congrArg some (by kernel_rfl))⟩
 f24:=⟨Tryz.f145.name,by decide,Tryz.func145.trans (congrArg some (by kernel_rfl))⟩
 f25:=⟨Tryz.f146.name,by decide,Tryz.func146.trans (congrArg some (by kernel_rfl))⟩
 f26:=⟨Tryz.f147.name,by decide,Tryz.func147.trans (congrArg some (by kernel_rfl))⟩
 f27:=⟨Tryz.f148.name,by decide,Tryz.func148.trans (congrArg some (by kernel_rfl))⟩
 f28:=Tryz.func138.trans (congrArg some (by kernel_rfl))
 f29:=Tryz.func139.trans (congrArg some (by kernel_rfl))
 f46:=⟨Tryz.f159.name,by decide,Tryz.func159.trans (congrArg some (by kernel_rfl))⟩
 f47:=Tryz.func155.trans (congrArg some (by kernel_rfl))
 f48:=Tryz.func156.trans (congrArg some (by kernel_rfl))
 f49:=⟨Tryz.f160.name,by decide,Tryz.func160.trans (congrArg some (by kernel_rfl))⟩
 f50:=⟨Tryz.f161.name,by decide,Tryz.func161.trans (congrArg some (by kernel_rfl))⟩
 f57:=⟨Tryz.f167.name,by decide,Tryz.func167.trans (congrArg some (by kernel_rfl))⟩
 t0:=Tryz.underlying0
 a0:=Tryz.isAgg0
 z0:=Tryz.sizeOf0
 v0:=Tryz.zeroValue0
 t3:=Tryz.underlying3
 a3:=Tryz.isAgg3
 z3:=Tryz.sizeOf3
 v3:=Tryz.zeroValue3
 t4:=Tryz.underlying4
 a4:=Tryz.isAgg4
 z4:=Tryz.sizeOf4
 v4:=Tryz.zeroValue4
 t5:=Tryz.underlying5
 a5:=Tryz.isAgg5
 z5:=Tryz.sizeOf5
 v5:=Tryz.zeroValue5
 t9:=Tryz.underlying9
 a9:=Tryz.isAgg9
 z9:=Tryz.sizeOf9
 v9:=Tryz.zeroValue9
 t22:=Tryz.underlying30
 a22:=Tryz.isAgg30
 z22:=Tryz.sizeOf30
 v22:=Tryz.zeroValue30
 t25:=Tryz.underlying119
 a25:=Tryz.isAgg119
 z25:=Tryz.sizeOf119
 v25:=Tryz.zeroValue119
 t39:=Tryz.underlying149
 a39:=Tryz.isAgg149
 z39:=Tryz.sizeOf149
 v39:=Tryz.zeroValue149
 t45:=Tryz.underlying220
 a45:=Tryz.isAgg220
 z45:=Tryz.sizeOf220
 v45:=Tryz.zeroValue220
 t46:=Tryz.underlying221
 a46:=Tryz.isAgg221
 z46:=Tryz.sizeOf221
 v46:=Tryz.zeroValue221
 t50:=Tryz.underlying179
 a50:=Tryz.isAgg179
 z50:=Tryz.sizeOf179
 v50:=Tryz.zeroValue179
 t53:=Tryz.underlying227
 a53:=Tryz.isAgg227
 z53:=Tryz.sizeOf227
 v53:=Tryz.zeroValue227
 t55:=Tryz.underlying56
 a55:=Tryz.isAgg56
 z55:=Tryz.sizeOf56
 v55:=Tryz.zeroValue56
 t66:=Tryz.underlying236
 a66:=Tryz.isAgg236
 z66:=Tryz.sizeOf236
 v66:=Tryz.zeroValue236
 t70:=Tryz.underlying240
 a70:=Tryz.isAgg240
 z70:=Tryz.sizeOf240
 v70:=Tryz.zeroValue240
 t76:=Tryz.underlying249
 a76:=Tryz.isAgg249
 z76:=Tryz.sizeOf249
 v76:=Tryz.zeroValue249
 t77:=Tryz.underlying250
 a77:=Tryz.isAgg250
 z77:=Tryz.sizeOf250
 v77:=Tryz.zeroValue250 }
def Tryz.cloneArc_ren:Go.Shelf.Ren:=⟨fun | 41 => 85 | n => n,fun | 22 => 30 | 23 => 61 | 4 => 4 | n => n,fun | n => n⟩
theorem Tryz.cloneArc:Go.Proofs.SlLaysE0.n41 Tryz.prog Tryz.cloneArc_ren:={
 mixed:=by kernel_rfl
 f41:=⟨Tryz.f85.name,by decide,Tryz.func85.trans (congrArg some (by kernel_rfl))⟩
 t4:=Tryz.underlying4
 a4:=Tryz.isAgg4
 z4:=Tryz.sizeOf4
 v4:=Tryz.zeroValue4
 t22:=Tryz.underlying30
 a22:=Tryz.isAgg30
 z22:=Tryz.sizeOf30
 v22:=Tryz.zeroValue30 }
end Go.Proofs
namespace Go.Proofs.YtcondkihpmmnnaaGreatDoor
open Go.RowKit
def lcpN:List UInt8→List UInt8→Nat
 | a :: l,b :: m => if a = b then lcpN l m + 1 else 0
 | _,_ => 0
theorem lcpN_le_left:∀ (a b:List UInt8),lcpN a b≤a.length
 | [],_ => by simp [lcpN]
 | _ :: _,[] => by simp [lcpN]
 | x :: l,y :: m => by
  have:=lcpN_le_left l m
  unfold lcpN; split <;> simp <;> omega
theorem lcpN_comm:∀ (a b:List UInt8),lcpN a b = lcpN b a
 | [],[] => rfl
 | [],_ :: _ => rfl
 | _ :: _,[] => rfl
 | x :: l,y :: m => by
  have:=lcpN_comm l m
  unfold lcpN
  by_cases h:x = y
  ·simp [h,this]
  ·rw [if_neg h,if_neg (fun e => h e.symm)]
theorem lcpN_le_right (a b:List UInt8):lcpN a b≤b.length:=by
 rw [lcpN_comm]; exact lcpN_le_left b a
theorem lcpN_eq:∀ (a b:List UInt8) (i:Nat),i≤a.length→i≤b.length→(∀ j,j < i→a[j]? = b[j]?)→(∀ (h:i < a.length) (h':i < b.length),a[i]≠b[i])→lcpN a b = i
 | [],_,i,h,_,_,_ => by simp at h; subst h; simp [lcpN]
 | _ :: _,[],i,_,h,_,_ => by simp at h; subst h; simp [lcpN]
 | x :: l,y :: m,0,_,_,_,hn => by
  have:=hn (by simp) (by simp)
  simp at this
  simp [lcpN,this]
 | x :: l,y :: m,i + 1,ha,hb,he,hn => by
  have h0:=he 0 (by omega)
  simp at h0
  have:=lcpN_eq l m i (by simpa using ha) (by simpa using hb) (fun j hj => by simpa using he (j + 1) (by omega)) (fun h h' e => hn (by simpa using h) (by simpa using h') (by simpa using e))
  simp [lcpN,h0,this]
set_option maxHeartbeats 400000 in
theorem front_any (a b:ByteArray) (w:World) (ha:a.size≤maxLen) (hb:b.size≤maxLen) :
    Calls Tryz.prog 108 #[.string a,.string b] w (Gives (.int .i64 (lcpN a.data.toList b.data.toList)) w):=by
 unfold maxLen at ha hb
 go_enter Tryz.func108,Tryz.ntmps108
 go_wp2
 all_goals
  go_loopw [6,13] (fun _ i wr => ∃ k:Nat,k≤a.size∧k≤b.size∧i = .int .i64 k∧(∀ j,j < k→a.data.toList[j]? = b.data.toList[j]?)∧Below w.heap.size w wr) (fun _ i _ => a.size - (intOf i).toNat)
  case atStart => exact ⟨0,by omega,by omega,rfl,by omega,Below.refl _ _⟩
  case round =>
   obtain ⟨k,hk,hk2,rfl,HE,HB⟩:=hrel
   have H:=Lib.hid HE; clear HE
   by_cases hlt:k < a.size∧k < b.size
   ·obtain ⟨h1,h2⟩:=hlt
    go_wp2
    go_quiet (fail)
    go_wp2
    ·go_ret
     refine ⟨?_,below_drewN HB _⟩
     have hne:a[k]≠b[k]:=by rename_i h; exact fun e => by simp [e] at h
     rw [lcpN_eq a.data.toList b.data.toList k (by simpa using hk) (by simpa using hk2) H.out (fun _ _ => hne)]; rfl
    ·have he:a[k] = b[k]:=by rename_i h; exact u8_eq (by simpa using h)
     go_roundw
     case rel => exact ⟨k + 1,by omega,by omega,by go_num,fun j hj => by
      rcases Nat.lt_succ_iff_lt_or_eq.1 hj with h | rfl
      ·exact H.out j h
      ·exact (get_some a j h1).trans (he ▸ (get_some b j h2).symm),below_drewN HB _⟩
     case measure => simp [intOf]; omega
   ·go_wp2
    go_ret
    refine ⟨?_,HB⟩
    rw [lcpN_eq a.data.toList b.data.toList k (by simpa using hk) (by simpa using hk2) H.out (fun h h' => absurd ⟨by simpa using h,by simpa using h'⟩ hlt)]
    simp; omega
set_option maxHeartbeats 400000 in
theorem lag_any (a b:ByteArray) (w:World) (ha:a.size≤maxLen) (hb:b.size≤maxLen) :
    Calls Tryz.prog 77 #[.string a,.string b] w (Gives (.tuple #[.string (a.extract (lcpN a.data.toList b.data.toList) a.size),.string (b.extract (lcpN a.data.toList b.data.toList) b.size)]) w):=by
 have h1:=lcpN_le_left a.data.toList b.data.toList
 have h2:=lcpN_le_right a.data.toList b.data.toList
 have ha':=ha
 have hb':=hb
 unfold maxLen at ha' hb'
 simp only [Array.length_toList,ByteArray.size_data] at h1 h2
 go_enter Tryz.func77,Tryz.ntmps77
 go_wp2_with (go_at_call 108; refine (front_any _ _ _ ha hb).mono ?_; rintro e w' ⟨rfl,HB⟩)
 go_quiet (fail)
 go_wp2
 go_ret2
 exact ⟨rfl,below_drewN HB _⟩
def lcpB (s:ByteArray) (l:List ByteArray):ByteArray:=l.foldl (fun s t => s.extract 0 (lcpN s.data.toList t.data.toList)) s
theorem lcpB_snoc (s:ByteArray) (l:List ByteArray) (x:ByteArray):lcpB s (l ++ [x]) = (lcpB s l).extract 0 (lcpN (lcpB s l).data.toList x.data.toList):=by
 simp [lcpB]
theorem lcp_nil (A:Option Addr) (c:Nat) (w:World):Calls Tryz.prog 94 #[.slice A 0 c] w (Gives (.string ByteArray.empty) w):=by
 go_enter Tryz.func94,Tryz.ntmps94
 go_wp2
 go_ret
 exact ⟨rfl,Below.refl _ _⟩
set_option maxHeartbeats 400000 in
theorem lcp_cons (A:Option Addr) (c:Nat) (s:ByteArray) (l:List ByteArray) (w:World) (HR:Reads w w.heap.size 1 A (l.length + 1) ((s :: l).map Value.string)) (hl:∀ x∈s :: l,x.size≤maxLen) (hc:l.length + 1≤c) (hm:c≤maxLen) :
    Calls Tryz.prog 94 #[.slice A (l.length + 1:Nat) c] w (Gives (.string (lcpB s l)) w):=by
 obtain ⟨ad,u,rfl,_,hx,hcell⟩:=HR.at_ (k:=0) (by omega)
 simp only [List.map_cons,List.getElem?_cons_zero,Option.some.injEq] at hx
 subst hx
 have hc0:w.cell? ad = some (.string s):=by simpa [Addr.add] using hcell
 have hs0:s.size≤maxLen:=hl s (by simp)
 clear hcell
 unfold maxLen at hm
 go_enter Tryz.func94,Tryz.ntmps94
 have hz:(((l.length:Nat):Int) + 1 == 0) = false:=by rw [beq_eq_false_iff_ne]; omega
 go_wp2
 all_goals
  go_loopw [3,5,15] (fun x _ i wr => ∃ k:Nat,k≤l.length∧i = .int .i64 k∧x = .string (lcpB s (l.take k))∧(lcpB s (l.take k)).size≤maxLen∧Below w.heap.size w wr) (fun _ _ i _ => l.length - (intOf i).toNat)
  case atStart => exact ⟨0,by omega,rfl,by simp [lcpB],by simpa [lcpB] using hs0,Below.refl _ _⟩
  case round =>
   obtain ⟨k,hk,rfl,rfl,hsz,HB⟩:=hrel
   by_cases hlt:k < l.length
   ·first
    | (exfalso; omega)
    | (have hr:=HR.below HB
       have hck:wr.cell? ⟨ad.block,ad.off + 1 + k,none⟩ = some (.string l[k]):=by
        obtain ⟨_,e,_,hc⟩:=hr.2 (by omega)
        cases e
        have:=hc (k + 1) (.string l[k]) (by simp [hlt])
        simpa [Addr.add,Nat.add_assoc,Nat.add_comm 1 k] using this
       have hlk:l[k].size≤maxLen:=hl _ (by simp)
       have hle:=lcpN_le_left (lcpB s (l.take k)).data.toList l[k].data.toList
       simp only [Array.length_toList,ByteArray.size_data] at hle
       clear hr
       go_wp2_with (go_at_call 108; refine (front_any _ _ _ hsz hlk).mono ?_; rintro e w' ⟨rfl,HB2⟩)
       go_roundw
       case rel =>
        have e1:lcpB s (l.take (k + 1)) = (lcpB s (l.take k)).extract 0 (lcpN (lcpB s (l.take k)).data.toList l[k].data.toList):=by
         rw [List.take_succ_eq_append_getElem hlt,lcpB_snoc]
        exact ⟨k + 1,by omega,by go_num,by rw [e1],by rw [e1]; simp only [ByteArray.size_extract]; omega,below_then HB HB2⟩
       case measure => simp [intOf]; omega)
   ·have e1:l.take k = l:=List.take_of_length_le (by omega)
    rw [e1] at hsz ⊢
    go_wp2
    go_ret
    exact ⟨rfl,HB⟩
end Go.Proofs.YtcondkihpmmnnaaGreatDoor
namespace Go.Proofs.YtcondkihpmmnnaaGreatDoor
open Go.RowKit Go.Sort
def pureOp:Op→Bool
 | .move _ | .assign _ | .load _ _ | .build _ _ | .binOp _ _ _ _ _ | .unOp _ _ _ | .convert _ _ _ | .fieldAddr _ _ _ | .field _ _ _ | .indexAddr _ _ _ | .index _ _ _ | .extract _ _ | .nilCheck _ | .lookup _ _ _ _ => true
 | _ => false
theorem run_value {P:Program} (s:Sem Value) (w:World):((do pure (Next.value (← s))):Sem Next).run P w = (s.run P w).andThen fun x w' => .ok (.value x) w':=by
 simp only [Sem.run_bind,Sem.run_pure]
theorem bind_ok {P:Program} {α β:Type} {m:Sem α} {k:α→Sem β} {w w':World} {r:β} (h:(m >>= k).run P w = .ok r w'):∃ a w1,(k a).run P w1 = .ok r w':=by
 rw [Sem.run_bind] at h
 cases hm:m.run P w with
 | ok a w1 =>
  rw [hm] at h
  exact ⟨a,w1,h⟩
 | halt x w1 =>
  rw [hm] at h
  simp [Result.andThen] at h
theorem pure_value {P:Program} {o:Oper} (hp:pureOp o.op = true) (e:Operand→Value) (w w':World) (r:Next) (h:(execOp e o).run P w = .ok r w'):∃ v,r = .value v:=by
 have key:∀ s:Sem Value,((do pure (Next.value (← s))):Sem Next).run P w = .ok r w'→∃ v,r = .value v:=fun s hs => by
  rw [run_value] at hs
  cases hr:s.run P w with
  | ok x w1 =>
   rw [hr] at hs
   simp only [Result.andThen_ok,Result.ok.injEq] at hs
   exact ⟨x,hs.1.symm⟩
  | halt x w1 =>
   rw [hr] at hs
   simp [Result.andThen] at hs
 have key2:∀ (W:World) (u:Value),((pure (Next.value u)):Sem Next).run P W = .ok r w'→∃ v,r = .value v:=fun W u hu => by
  simp only [Sem.run_pure,Result.ok.injEq] at hu
  exact ⟨_,hu.1.symm⟩
 unfold execOp at h
 cases ho:o.op <;> rw [ho] at hp h <;> first | exact key2 _ _ h | exact key _ h | (exfalso; revert hp; simp [pureOp]; done) | skip
 dsimp only at h
 split at h
 ·simp [go_sem] at h
 ·simp [go_sem] at h
 ·simp [go_sem] at h
 ·split at h
  ·simp [go_sem] at h
  ·obtain ⟨_,_,h⟩:=bind_ok h
   obtain ⟨_,_,h⟩:=bind_ok h
   split at h
   ·obtain ⟨_,_,h⟩:=bind_ok h
    exact key2 _ _ h
   ·exact key2 _ _ h
  ·exact key2 _ _ h
 ·exact key2 _ _ h
section
variable {P:Program} {ops:Array Oper} {md:Region.Mode} {S:World→Prop}
theorem yieldsIf_of_quiet {o:Oper} {v:Value} {a:Act} (hp:pureOp o.op = true) (h:YieldsIn P ops S o v a):YieldsIf P ops S o v a:=by
 rcases h with ⟨hw,hq⟩ | h
 ·refine .inl ⟨hw,fun w hS => ?_⟩
  have h1:=hq w hS
  unfold Oper.quietAt at h1
  cases hr:(execOp a.eval o).run P w with
  | ok r w' =>
   obtain ⟨u,rfl⟩:=pure_value hp _ _ _ _ hr
   rw [hr] at h1
   simp only [Oper.quietUpon] at h1
   rw [h1.1,h1.2]
  | halt x w' =>
   rw [hr] at h1
   simp only [Oper.quietUpon] at h1
 ·exact .inr h
def headH (P:Program) (md:Region.Mode) (ops:Array Oper) (Q:Exit→Act→World→Prop) (S:World→Prop) (n:Nat) (L:Array Bool→Act→World→Prop):Nat→Array Bool→Act→World→Prop
 | 0 => L
 | f + 1 => fun listed a w => Region.ready md ops listed≠[]∧∀ i∈Region.ready md ops listed,i < n∧wpOp P ops Q i (fun a' w' => S w'∧headH P md ops Q S n L f (listed.setIfInBounds i true) a' w') a w
variable {Q:Exit→Act→World→Prop}
theorem any_of_headH {n g:Nat} {L:Array Bool→Act→World→Prop} (hL:∀ listed a w,L listed a w→wpAny P md ops Q g listed a w) :
    ∀ (f:Nat) (listed:Array Bool) (a:Act) (w:World),headH P md ops Q S n L f listed a w→wpAny P md ops Q (f + g) listed a w
 | 0,_,_,_,h => by rw [Nat.zero_add]; exact hL _ _ _ h
 | f + 1,_,_,_,h => by
  rw [Nat.add_right_comm]
  exact ⟨fun h0 => absurd h0 h.1,fun i hi => wpOp_mono (fun _ _ h' => any_of_headH hL f _ _ _ h'.2) (h.2 i hi).2⟩
theorem headH_first {n i:Nat} {oi:Oper} {v:Value} {L:Array Bool→Act→World→Prop} (hi:ops[i]? = some oi) (hsel:∀ (j:Nat) (o:Oper) cs b,ops[j]? = some o→o.op≠.select cs b)
    (hQ:∀ c a w,Q (.panic c) (a.put oi.dst v) w→Q (.panic c) a w)
    (hs:Region.sinkB md ops n = true) (hc:Region.chainB md ops n = true) (hn:n < ops.size) (hin:i < n) (hdone:∀ listed a w,L listed a w→∀ j∈Region.ready md ops listed,n≤j) :
    ∀ (f:Nat) (listed:Array Bool) (a:Act) (w:World),HeadInv md ops n listed →
     (∀ j oj,ops[j]? = some oj→j≠i→listed.getD j true = false→(∀ e∈oj.after,Region.binds md e = true→e.on≠i)→oi.apart ops oj = true) →
     i∈Region.ready md ops listed→YieldsIf P ops S oi v a→S w →
     headH P md ops Q S n L f (listed.setIfInBounds i true) (a.put oi.dst v) w→headH P md ops Q S n L (f + 1) listed a w
 | f,listed,a,w,inv,hfree,hr,hy,hS,H => by
  have hun:=(mem_ready.1 hr).1
  refine ⟨List.ne_nil_of_mem hr,fun j hj => ⟨head_only hs hc hn inv hin hun hj,?_⟩⟩
  by_cases hji:j = i
  ·subst hji
   exact hy.wpOp hi hS ⟨hS,H⟩
  cases f with
  | zero =>
   have h1:=hdone _ _ _ H j (ready_mono hj hji)
   have h2:=head_only hs hc hn inv hin hun hj
   exact absurd h2 (by omega)
  | succ f =>
   obtain ⟨hjun,oj,hoj,hall⟩:=mem_ready.1 hj
   have hnot:∀ e∈oj.after,Region.binds md e = true→e.on≠i:=fun e he hb heq => by
    have h1:=hall e he hb
    rw [heq,getD_both hun] at h1
    cases h1
   have h2:=wpOp_putIf hoj (hfree j oj hoj hji hjun hnot) (fun cs b => hsel i oi cs b hi) (fun cs b => hsel j oj cs b hoj) hQ hy (H.2 j (ready_mono hj hji)).2
   refine wpOp_mono (fun a' w' h3 => ⟨h3.2.1,?_⟩) h2
   refine headH_first hi hsel hQ hs hc hn hin hdone f (listed.setIfInBounds j true) a' w' (inv.set hj (head_only hs hc hn inv hin hun hj)) (fun k ok hk hki hkun hno => hfree k ok hk hki ?_ hno)
    (ready_mono hr (Ne.symm hji)) h3.1 h3.2.1 (by rw [Array.setIfInBounds_comm _ _ hji]; exact h3.2.2)
   by_cases hjk:j = k
   ·subst hjk; exact hjun
   ·rw [getD_set_ne true hjk] at hkun; exact hkun
def takesB (md:Region.Mode) (ops:Array Oper) (n:Nat):List Nat→Array Bool→Bool
 | [],_ => true
 | i :: rest,listed => (match ops[i]? with | some o => pureOp o.op | none => false) && decide (i < n) && (Region.ready md ops listed).contains i && Region.free md ops listed i && takesB md ops n rest (listed.setIfInBounds i true)
def forcedB (md:Region.Mode) (ops:Array Oper) (n g:Nat):List Nat→Array Bool→Bool
 | [],listed => Region.seqB md ops g n listed
 | i :: rest,listed => decide (Region.ready md ops listed = [i]) && decide (i < n) && forcedB md ops n g rest (listed.setIfInBounds i true)
def listedBy (l:List Nat) (listed:Array Bool):Array Bool:=l.foldl (fun s i => s.setIfInBounds i true) listed
def holdB (md:Region.Mode) (ops:Array Oper) (n:Nat) (qs fs:List Nat):Bool :=
 Region.noSelect ops && decide (n < ops.size) && Region.sinkB md ops n && Region.chainB md ops n && takesB md ops n qs (Array.replicate ops.size false) &&
  forcedB md ops n (ops.size - n) fs (listedBy qs (Array.replicate ops.size false))
def wpForce (P:Program) (ops:Array Oper) (S:World→Prop) (Q:Exit→Act→World→Prop) (tail:List Oper):List Oper→Act→World→Prop
 | [],a,w => wpList P ops Q tail a w
 | o :: rest,a,w => if Region.wanted o (yielded ops a.tmps) = true then o.wp P a w (fun a' w' => S w'∧wpForce P ops S Q tail rest a' w') Q else S w∧wpForce P ops S Q tail rest (a.put o.dst undef) w
theorem wpForce_nil {tail:List Oper} {a:Act} {w:World} (h:wpList P ops Q tail a w):wpForce P ops S Q tail [] a w:=h
theorem wpForce_step {tail rest:List Oper} {o:Oper} {a:Act} {w:World} (hg:o.guard = none)
    (h:∀ K:Act→World→Prop,(∀ a' w',S w'→wpForce P ops S Q tail rest a' w'→K a' w')→o.wp P a w K Q):wpForce P ops S Q tail (o :: rest) a w:=by
 have hw:Region.wanted o (yielded ops a.tmps) = true:=by simp [Region.wanted,hg]
 unfold wpForce
 rw [if_pos hw]
 exact h _ fun a' w' h1 h2 => ⟨h1,h2⟩
theorem headH_force {n g:Nat} {tail:List Oper} (hL:(ops.toList.drop n) = tail) :
    ∀ (fs:List Nat) (lf:List Oper) (listed:Array Bool) (a:Act) (w:World),fs.map (fun i => ops[i]?) = lf.map some→forcedB md ops n g fs listed = true→wpForce P ops S Q tail lf a w →
    headH P md ops Q S n (fun listed' a' w' => Region.seqB md ops g n listed' = true∧wpList P ops Q tail a' w') fs.length listed a w
 | [],[],listed,a,w,_,hB,h => ⟨hB,h⟩
 | [],_ :: _,_,_,_,he,_,_ => by simp at he
 | _ :: _,[],_,_,_,he,_,_ => by simp at he
 | i :: fs,o :: lf,listed,a,w,he,hB,h => by
  simp only [List.map_cons,List.cons.injEq] at he
  simp only [forcedB,Bool.and_eq_true,decide_eq_true_eq] at hB
  refine ⟨by rw [hB.1.1]; simp,fun j hj => ?_⟩
  rw [hB.1.1] at hj
  obtain rfl:j = i:=by simpa using hj
  refine ⟨hB.1.2,?_⟩
  unfold wpForce at h
  unfold wpOp
  simp only [he.1]
  split
  ·rename_i hw
   rw [if_pos hw] at h
   exact .inl (Oper.wp_mono (fun a' w' h' => ⟨h'.1,headH_force hL fs lf _ a' w' he.2 hB.2 h'.2⟩) h)
  ·rename_i hw
   rw [if_neg hw] at h
   exact ⟨h.1,headH_force hL fs lf _ _ w he.2 hB.2 h.2⟩
theorem headH_take {n g m:Nat} {tail:List Oper} {Lq:Act→Prop} (hsel:Region.noSelect ops = true) (hs:Region.sinkB md ops n = true) (hc:Region.chainB md ops n = true) (hn:n < ops.size)
    (hQ:∀ c a d v w,Q (.panic c) (a.put d v) w→Q (.panic c) a w) {w:World} (hS:S w) {last:Array Bool}
    (hLq:∀ a,Lq a→headH P md ops Q S n (fun listed' a' w' => Region.seqB md ops g n listed' = true∧wpList P ops Q tail a' w') m last a w) :
    ∀ (qs:List Nat) (lq:List Oper) (listed:Array Bool) (a:Act),qs.map (fun i => ops[i]?) = lq.map some→HeadInv md ops n listed→takesB md ops n qs listed = true→listedBy qs listed = last →
    wpQuiet P ops S Lq lq a→headH P md ops Q S n (fun listed' a' w' => Region.seqB md ops g n listed' = true∧wpList P ops Q tail a' w') (qs.length + m) listed a w
 | [],[],listed,a,_,_,_,hl,h => by
  rw [List.length_nil,Nat.zero_add]
  obtain rfl:listed = last:=hl
  exact hLq a h
 | [],_ :: _,_,_,he,_,_,_,_ => by simp at he
 | _ :: _,[],_,_,he,_,_,_,_ => by simp at he
 | i :: qs,o :: lq,listed,a,he,inv,hB,hl,h => by
  simp only [List.map_cons,List.cons.injEq] at he
  simp only [takesB,he.1,Bool.and_eq_true,decide_eq_true_eq] at hB
  obtain ⟨⟨⟨⟨hp,hin⟩,hr⟩,hf⟩,hB'⟩:=hB
  have hr':i∈Region.ready md ops listed:=by simpa using hr
  obtain ⟨v,hy,hK⟩:=yieldsIn_of_qOp (C:=S) (K:=wpQuiet P ops S Lq lq) he.1 (by unfold qOp; simp only [he.1]; exact h)
  rw [show (i :: qs).length + m = (qs.length + m) + 1 by simp only [List.length_cons]; omega]
  exact headH_first he.1 (Region.noSelect_spec hsel) (fun c a w => hQ c a _ _ w) hs hc hn hin (fun _ _ _ hL => seqB_ready hL.1) _ listed a w inv (Region.free_spec he.1 hf) hr' (yieldsIf_of_quiet hp hy) hS
   (headH_take hsel hs hc hn hQ hS hLq qs lq _ _ he.2 (inv.set hr' hin) hB' hl hK)
theorem wp_region_hold {id:Nat} {a:Act} {w:World} {l:List Oper} (S:World→Prop) (n:Nat) (qs fs:List Nat) (lq lf:List Oper) (hm:P.follows .mixedOrders = true) (hB:holdB .any l.toArray n qs fs = true)
    (hlen:qs.length + fs.length = n) (hq:qs.map (fun i => l.toArray[i]?) = lq.map some) (hf:fs.map (fun i => l.toArray[i]?) = lf.map some)
    (hQ:∀ c a d v w,Q (.panic c) (a.put d v) w→Q (.panic c) a w) (hS:S w.drew)
    (h:wpQuiet P l.toArray S (fun a' => wpForce P l.toArray S Q (l.drop n) lf a' w.drew) lq a):(Code.region id l.toArray true).wp P Q a w:=by
 simp only [holdB,Bool.and_eq_true,decide_eq_true_eq] at hB
 obtain ⟨⟨⟨⟨⟨hsel,hn⟩,hs⟩,hc⟩,htk⟩,hfc⟩:=hB
 have hdl:(l.drop n).length = l.toArray.size - n:=by simp
 have inv0:HeadInv .any l.toArray n (Array.replicate l.toArray.size false) :=
  ⟨by simp,fun j oj _ hl => (by rw [getD_replicate_false] at hl; cases hl),fun t _ ht => getD_in (by simpa using ht) (getD_replicate_false _ _)⟩
 have H:=headH_take (P:=P) (S:=S) (md:=.any) (g:=l.toArray.size - n) (tail:=l.drop n) (m:=fs.length) hsel hs hc hn hQ hS (fun a' ha' => headH_force rfl fs lf _ a' _ hf hfc ha') qs lq _ a hq inv0 htk rfl h
 refine wp_region_any hm ?_
 have:=any_of_headH (P:=P) (S:=S) (g:=l.toArray.size - n) (fun listed a' w' hL => by
  have:=wpAny_of_seq (md:=.any) (Q':=Q) (l.drop n) n listed a' w' (fun j => by simp [List.getElem?_drop]) (by rw [hdl]; exact hL.1) hL.2
  rwa [hdl] at this) _ _ _ _ H
 have hn':n < l.toArray.size:=hn
 rw [hlen,show n + (l.toArray.size - n) = l.toArray.size by omega] at this
 exact this
def pickOps (l:List Oper):List Nat→List Oper
 | [] => []
 | i :: is => match l[i]? with
  | some o => o :: pickOps l is
  | none => pickOps l is
theorem pickOps_map (l:List Oper):∀ is:List Nat,(is.all fun i => decide (i < l.length)) = true→is.map (fun i => l.toArray[i]?) = (pickOps l is).map some
 | [],_ => rfl
 | i :: is,h => by
  simp only [List.all_cons,Bool.and_eq_true,decide_eq_true_eq] at h
  have e:l[i]? = some (l[i]'h.1):=List.getElem?_eq_getElem h.1
  have e2:l.toArray[i]? = some (l[i]'h.1):=by simp [h.1]
  rw [List.map_cons,e2,pickOps_map l is h.2]
  simp only [pickOps,e,List.map_cons]
theorem wp_region_hold_below {id:Nat} {a:Act} {w:World} {l:List Oper} (n:Nat) (qs fs:List Nat) (hm:P.follows .mixedOrders = true) (hB:holdB .any l.toArray n qs fs = true)
    (hlen:qs.length + fs.length = n) (hin:((qs ++ fs).all fun i => decide (i < l.length)) = true)
    (h:wpQuiet P l.toArray (fun w' => ∃ p:Regrown,w' = grow (redrawn w p.d) p.os) (fun a' => wpForce P l.toArray (fun w' => ∃ p:Regrown,w' = grow (redrawn w p.d) p.os) (NoPanic Q) (l.drop n) (pickOps l fs) a' w.drew) (pickOps l qs) a) :
    (Code.region id l.toArray true).wp P Q a w:=by
 rw [List.all_append,Bool.and_eq_true] at hin
 refine wp_region_noPanic ?_
 exact wp_region_hold (fun w' => ∃ p:Regrown,w' = grow (redrawn w p.d) p.os) n qs fs _ _ hm hB hlen (pickOps_map l qs hin.1) (pickOps_map l fs hin.2) (fun _ _ _ _ _ h => h) ⟨⟨w.drawn + 1,#[]⟩,by rw [grow_empty]; rfl⟩ h
end
end Go.Proofs.YtcondkihpmmnnaaGreatDoor
namespace Go.Proofs.YtcondkihpmmnnaaGreatDoor
open Go.RowKit
theorem u64_info:(Tryz.prog.info? 56).isSome = true:=by kernel_rfl
theorem u64_cells:Tryz.prog.cellsOf 56 = 1:=by kernel_rfl
theorem equalIn_int (w:World) (d:Nat) {t:TypeId} {k:IntKind} (ht:Tryz.prog.underlying t = some (.int k)) (a b:Int) :
    (Op.equalIn (d + 1) t (.int k a) (.int k b)).run Tryz.prog w = .ok (a == b) w:=by
 simp [Op.equalIn,run_underlying ht]
theorem equalIn_words (w:World) (d:Nat) {T:TypeId} (hT:Tryz.prog.underlying T = some (.array 4 56)) (a0 a1 a2 a3 b0 b1 b2 b3:Int) :
    (Op.equalIn (d + 2) T (.agg #[.int .u64 a0,.int .u64 a1,.int .u64 a2,.int .u64 a3]) (.agg #[.int .u64 b0,.int .u64 b1,.int .u64 b2,.int .u64 b3])).run Tryz.prog w = .ok (a0 == b0 && (a1 == b1 && (a2 == b2 && a3 == b3))) w:=by
 obtain ⟨i,hi⟩:=Option.isSome_iff_exists.1 u64_info
 rw [run_equalIn_array w (d + 1) _ _ hT hi,u64_cells]
 have hr:List.range 4 = [0,1,2,3]:=rfl
 rw [hr]
 have p0:∀ x y z u:Int,(part 56 #[.int .u64 x,.int .u64 y,.int .u64 z,.int .u64 u] 0).run Tryz.prog w = .ok (.int .u64 x) w:=fun x y z u => by kernel_rfl
 have p1:∀ x y z u:Int,(part 56 #[.int .u64 x,.int .u64 y,.int .u64 z,.int .u64 u] 1).run Tryz.prog w = .ok (.int .u64 y) w:=fun x y z u => by kernel_rfl
 have p2:∀ x y z u:Int,(part 56 #[.int .u64 x,.int .u64 y,.int .u64 z,.int .u64 u] 2).run Tryz.prog w = .ok (.int .u64 z) w:=fun x y z u => by kernel_rfl
 have p3:∀ x y z u:Int,(part 56 #[.int .u64 x,.int .u64 y,.int .u64 z,.int .u64 u] 3).run Tryz.prog w = .ok (.int .u64 u) w:=fun x y z u => by kernel_rfl
 cases h0:a0 == b0 <;> cases h1:a1 == b1 <;> cases h2:a2 == b2 <;> cases h3:a3 == b3 <;> simp [Op.eqItems,p0,p1,p2,p3,equalIn_int w d Tryz.underlying56,h0,h1,h2,h3]
theorem eql_words (w:World) (a0 a1 a2 a3 b0 b1 b2 b3:Int) :
    (binOp .eql 58 (.agg #[.int .u64 a0,.int .u64 a1,.int .u64 a2,.int .u64 a3]) (.agg #[.int .u64 b0,.int .u64 b1,.int .u64 b2,.int .u64 b3])).run Tryz.prog w = .ok (.bool (a0 == b0 && (a1 == b1 && (a2 == b2 && a3 == b3)))) w:=by
 simp only [binOp]
 simp [Op.equal,Op.maxDepth,equalIn_words w 9998 Tryz.underlying58]
theorem neq_words (w:World) (a0 a1 a2 a3 b0 b1 b2 b3:Int) :
    (binOp .neq 58 (.agg #[.int .u64 a0,.int .u64 a1,.int .u64 a2,.int .u64 a3]) (.agg #[.int .u64 b0,.int .u64 b1,.int .u64 b2,.int .u64 b3])).run Tryz.prog w = .ok (.bool (!(a0 == b0 && (a1 == b1 && (a2 == b2 && a3 == b3))))) w:=by
 simp only [binOp]
 simp [Op.equal,Op.maxDepth,equalIn_words w 9998 Tryz.underlying58]
theorem equalIn_text (w:World) (d:Nat) (x y:ByteArray):(Op.equalIn (d + 1) 9 (.string x) (.string y)).run Tryz.prog w = .ok (decide (x = y)) w:=by
 have e:(x == y) = decide (x = y):=by
  rw [Bool.eq_iff_iff,decide_eq_true_eq,beq_toListBytes,beq_iff_eq]
  constructor
  ·intro h
   rw [Lib.toList_data,Lib.toList_data] at h
   exact ByteArray.ext (Array.toList_inj.1 h)
  ·rintro rfl; rfl
 simp [Op.equalIn,run_underlying Tryz.underlying9,e]
theorem equalIn_bool (w:World) (d:Nat) (x y:Bool):(Op.equalIn (d + 1) 4 (.bool x) (.bool y)).run Tryz.prog w = .ok (x == y) w:=by
 simp [Op.equalIn,run_underlying Tryz.underlying4]
theorem equalIn_tip (w:World) (d:Nat) (x y:Tp):(Op.equalIn (d + 2) 54 (.agg (encT x).toArray) (.agg (encT y).toArray)).run Tryz.prog w = .ok (decide (x = y)) w:=by
 obtain ⟨a,s⟩:=x
 obtain ⟨b,t⟩:=y
 show (Op.equalIn (d + 2) 54 (.agg #[.int .i64 a,.string s]) (.agg #[.int .i64 b,.string t])).run Tryz.prog w = _
 rw [run_equalIn_struct w (d + 1) _ _ _ (by kernel_rfl) (by kernel_rfl)]
 have hf:(Tryz.prog.fieldsOf 54).toList.map (fun f => (f.name,f.type,f.offset)) = [("State",3,0),("Out",9,1)]:=by kernel_rfl
 rcases hx:(Tryz.prog.fieldsOf 54).toList with _ | ⟨f0,_ | ⟨f1,_ | ⟨f2,r⟩⟩⟩ <;> rw [hx] at hf <;> simp at hf
 obtain ⟨⟨n0,t0,o0⟩,n1,t1,o1⟩:=hf
 have p0:∀ (a:Int) (s:ByteArray),(part 3 #[.int .i64 a,.string s] 0).run Tryz.prog w = .ok (.int .i64 a) w:=fun a s => by kernel_rfl
 have p1:∀ (a:Int) (s:ByteArray),(part 9 #[.int .i64 a,.string s] 1).run Tryz.prog w = .ok (.string s) w:=fun a s => by kernel_rfl
 cases h0:a == b <;> cases h1:decide (s = t) <;> simp [Op.eqFields,n0,n1,t0,t1,o0,o1,p0,p1,equalIn_int w d Tryz.underlying3,equalIn_text w d,h0,h1] <;> simp_all
theorem eql_tip (w:World) (x y:Tp):(binOp .eql 54 (.agg (encT x).toArray) (.agg (encT y).toArray)).run Tryz.prog w = .ok (.bool (decide (x = y))) w:=by
 rw [run_eql_struct,equalIn_tip w 9998]; rfl
theorem neq_tip (w:World) (x y:Tp):(binOp .neq 54 (.agg (encT x).toArray) (.agg (encT y).toArray)).run Tryz.prog w = .ok (.bool (!decide (x = y))) w:=by
 rw [run_neq_struct,equalIn_tip w 9998]; rfl
theorem equalIn_arc (w:World) (d:Nat) (x y:Ar):(Op.equalIn (d + 3) 61 (.agg (encA x).toArray) (.agg (encA y).toArray)).run Tryz.prog w = .ok (decide (x = y)) w:=by
 obtain ⟨a,b,⟨u0,u1,u2,u3⟩,s,c⟩:=x
 obtain ⟨a',b',⟨v0,v1,v2,v3⟩,s',c'⟩:=y
 show (Op.equalIn (d + 3) 61 (.agg #[.int .i64 a,.int .i64 b,.int .u64 (u0:Int),.int .u64 (u1:Int),.int .u64 (u2:Int),.int .u64 (u3:Int),.string s,.bool c]) (.agg #[.int .i64 a',.int .i64 b',.int .u64 (v0:Int),.int .u64 (v1:Int),.int .u64 (v2:Int),.int .u64 (v3:Int),.string s',.bool c'])).run Tryz.prog w = _
 rw [run_equalIn_struct w (d + 2) _ _ _ (by kernel_rfl) (by kernel_rfl)]
 have hf:(Tryz.prog.fieldsOf 61).toList.map (fun f => (f.name,f.type,f.offset)) = [("From",3,0),("To",3,1),("Set",58,2),("Out",9,6),("Copy",4,7)]:=by kernel_rfl
 rcases hx:(Tryz.prog.fieldsOf 61).toList with _ | ⟨f0,_ | ⟨f1,_ | ⟨f2,_ | ⟨f3,_ | ⟨f4,_ | ⟨f5,r⟩⟩⟩⟩⟩⟩ <;> rw [hx] at hf <;> simp at hf
 obtain ⟨⟨n0,t0,o0⟩,⟨n1,t1,o1⟩,⟨n2,t2,o2⟩,⟨n3,t3,o3⟩,n4,t4,o4⟩:=hf
 have p0:∀ (a b u0 u1 u2 u3:Int) (s:ByteArray) (c:Bool),(part 3 #[.int .i64 a,.int .i64 b,.int .u64 u0,.int .u64 u1,.int .u64 u2,.int .u64 u3,.string s,.bool c] 0).run Tryz.prog w = .ok (.int .i64 a) w:=fun a b u0 u1 u2 u3 s c => by kernel_rfl
 have p1:∀ (a b u0 u1 u2 u3:Int) (s:ByteArray) (c:Bool),(part 3 #[.int .i64 a,.int .i64 b,.int .u64 u0,.int .u64 u1,.int .u64 u2,.int .u64 u3,.string s,.bool c] 1).run Tryz.prog w = .ok (.int .i64 b) w:=fun a b u0 u1 u2 u3 s c => by kernel_rfl
 have p2:∀ (a b u0 u1 u2 u3:Int) (s:ByteArray) (c:Bool),(part 58 #[.int .i64 a,.int .i64 b,.int .u64 u0,.int .u64 u1,.int .u64 u2,.int .u64 u3,.string s,.bool c] 2).run Tryz.prog w = .ok (.agg #[.int .u64 u0,.int .u64 u1,.int .u64 u2,.int .u64 u3]) w:=fun a b u0 u1 u2 u3 s c => by kernel_rfl
 have p3:∀ (a b u0 u1 u2 u3:Int) (s:ByteArray) (c:Bool),(part 9 #[.int .i64 a,.int .i64 b,.int .u64 u0,.int .u64 u1,.int .u64 u2,.int .u64 u3,.string s,.bool c] 6).run Tryz.prog w = .ok (.string s) w:=fun a b u0 u1 u2 u3 s c => by kernel_rfl
 have p4:∀ (a b u0 u1 u2 u3:Int) (s:ByteArray) (c:Bool),(part 4 #[.int .i64 a,.int .i64 b,.int .u64 u0,.int .u64 u1,.int .u64 u2,.int .u64 u3,.string s,.bool c] 7).run Tryz.prog w = .ok (.bool c) w:=fun a b u0 u1 u2 u3 s c => by kernel_rfl
 have ew:=equalIn_words w d Tryz.underlying58 (u0:Int) u1 u2 u3 v0 v1 v2 v3
 generalize hW:((u0:Int) == v0 && ((u1:Int) == v1 && ((u2:Int) == v2 && (u3:Int) == v3))) = W at ew
 have hW2:W = (decide ((⟨u0,u1,u2,u3⟩:St) = ⟨v0,v1,v2,v3⟩)):=by
  rw [← hW,Bool.eq_iff_iff]
  simp [Int.ofNat_inj]
 have hE:(decide ((⟨a,b,⟨u0,u1,u2,u3⟩,s,c⟩:Ar) = ⟨a',b',⟨v0,v1,v2,v3⟩,s',c'⟩)) = ((a == a') && ((b == b') && (W && (decide (s = s') && (c == c'))))):=by
  rw [hW2,Bool.eq_iff_iff]
  simp
 rw [hE]
 clear hE hW2 hW
 have es:=equalIn_text w (d + 1) s s'
 generalize decide (s = s') = D at *
 cases h0:a == a' <;> cases h1:b == b' <;> cases W <;> cases D <;> cases h4:c == c' <;> simp [Op.eqFields,n0,n1,n2,n3,n4,t0,t1,t2,t3,t4,o0,o1,o2,o3,o4,p0,p1,p2,p3,p4,equalIn_int w (d + 1) Tryz.underlying3,es,equalIn_bool w (d + 1),ew,h0,h1,h4]
theorem eql_arc (w:World) (x y:Ar):(binOp .eql 61 (.agg (encA x).toArray) (.agg (encA y).toArray)).run Tryz.prog w = .ok (.bool (decide (x = y))) w:=by
 rw [run_eql_struct,equalIn_arc w 9997]; rfl
theorem neq_arc (w:World) (x y:Ar):(binOp .neq 61 (.agg (encA x).toArray) (.agg (encA y).toArray)).run Tryz.prog w = .ok (.bool (!decide (x = y))) w:=by
 rw [run_neq_struct,equalIn_arc w 9997]; rfl
end Go.Proofs.YtcondkihpmmnnaaGreatDoor
