/- Lemmas, part 3 of 39. No condition. -/
import Derived.Shelf.SlGeneric
import Derived.Shelf.Strings.BuilderK
import Derived.Shelf.Small.Strs
import Derived.Shelf.Strconv.Itoa3
import Derived.Shelf.SlSortCmp.NoneTotal
import Derived.Shelf.SlicesE.Clone
import Derived.Test.YtcondkihpmmnnaaGreatDoorProg
import Derived.Test.YtcondkihpmmnnaaGreatDoorUniqueP01
import Derived.Test.YtcondkihpmmnnaaGreatDoorUniqueP02
namespace Go.Proofs
open Go.Shelf
def Tryz.lays169_ren:Go.Shelf.Ren:=⟨fun | 169 => 30 | n => n,fun | 70 => 80 | 9 => 9 | 0 => 0 | 72 => 83 | 37 => 81 | 127 => 137 | 3 => 3 | 5 => 5 | n => n,fun | n => n⟩
theorem Tryz.lays169:Go.Proofs.Lays.n169 Tryz.prog Tryz.lays169_ren:={
 mixed:=by kernel_rfl
 f169:=Tryz.func30.trans (congrArg some (by kernel_rfl))
 t0:=Tryz.underlying0
 a0:=Tryz.isAgg0
 z0:=Tryz.sizeOf0
 v0:=Tryz.zeroValue0
 t3:=Tryz.underlying3
 a3:=Tryz.isAgg3
 z3:=Tryz.sizeOf3
 v3:=Tryz.zeroValue3
 t9:=Tryz.underlying9
 a9:=Tryz.isAgg9
 z9:=Tryz.sizeOf9
 v9:=Tryz.zeroValue9
 t37:=Tryz.underlying81
 a37:=Tryz.isAgg81
 z37:=Tryz.sizeOf81
 v37:=Tryz.zeroValue81
 t70:=Tryz.underlying80
 a70:=Tryz.isAgg80
 z70:=Tryz.sizeOf80
 v70:=Tryz.zeroValue80
 t72:=Tryz.underlying83
 a72:=Tryz.isAgg83
 z72:=Tryz.sizeOf83
 v72:=Tryz.zeroValue83
 t127:=Tryz.underlying137
 a127:=Tryz.isAgg137
 z127:=Tryz.sizeOf137
 v127:=Tryz.zeroValue137 }
theorem Tryz.Builder_Extra_169:Builder.Extra Tryz.prog Tryz.lays169_ren:={
 sizeBuilder:=by kernel_rfl
 liesBuilder:=by kernel_rfl
 t5:=Tryz.underlying5
 a5:=Tryz.isAgg5
 z5:=Tryz.sizeOf5
 v5:=Tryz.zeroValue5
 infoByte:=by kernel_rfl
 cellsByte:=by kernel_rfl
 sizeByte:=by kernel_rfl
 neB5:=by decide }
def Tryz.lays106_ren:Go.Shelf.Ren:=⟨fun | 106 => 84 | 213 => 115 | 265 => 140 | n => n,fun | 9 => 9 | 3 => 3 | n => n,fun | n => n⟩
theorem Tryz.lays106:Go.Proofs.Lays.n106 Tryz.prog Tryz.lays106_ren:={
 mixed:=by kernel_rfl
 f106:=Tryz.func84.trans (congrArg some (by kernel_rfl))
 f213:=Tryz.func115.trans (congrArg some (by kernel_rfl))
 f265:=Tryz.func140.trans (congrArg some (by kernel_rfl))
 t3:=Tryz.underlying3
 a3:=Tryz.isAgg3
 z3:=Tryz.sizeOf3
 v3:=Tryz.zeroValue3
 t9:=Tryz.underlying9
 a9:=Tryz.isAgg9
 z9:=Tryz.sizeOf9
 v9:=Tryz.zeroValue9 }
open Go.RowKit in
theorem Tryz.strings_Compare (a b:ByteArray) (w:World) :
    Calls Tryz.prog 84 #[.string a,.string b] w fun e w' => e = .returned (.int .i64 (Lib.compareBytes a.data.toList b.data.toList))∧w' = w:=Any.strings_Compare Tryz.lays106 a b w
open Go.RowKit in
theorem Tryz.Builder_String_any_k (B b:Nat) (l:List UInt8) (w:World) (h:Lib.IsBuilderF 83 5 B b (Lib.byteCells l) w) (hBw:B≤w.heap.size) :
    Calls Tryz.prog 30 #[.pointer (some ⟨b,0,none⟩)] w fun e w' => e = .returned (.string ⟨l.toArray⟩)∧(Lib.IsBuilderF 83 5 B b (Lib.byteCells l) w'∧Below B w w'∧Lib.OthersKept 5 (some b) w w'):=Any.Builder_String_any_k Tryz.lays169 Tryz.Builder_Extra_169 B b l w h hBw
def Tryz.laysM171_ren:Go.Shelf.Ren:=⟨fun | 171 => 103 | 243 => 122 | 246 => 151 | 283 => 162 | 284 => 163 | 285 => 164 | 286 => 165 | 129 => 139 | 317 => 168 | 318 => 169 | 319 => 170 | 320 => 171 | 337 => 172 | 338 => 152 | n => n,fun | 3 => 3 | 9 => 9 | 2 => 2 | 4 => 4 | 171 => 244 | 0 => 0 | 53 => 56 | 37 => 81 | 5 => 5 | 173 => 246 | 212 => 254 | 51 => 227 | 20 => 20 | 213 => 255 | 46 => 149 | 232 => 256 | 233 => 248 | n => n,fun | 17 => 2 | 18 => 3 | 19 => 1 | n => n⟩
theorem Tryz.laysM171:Go.Proofs.LaysM.n171 Tryz.prog Tryz.laysM171_ren:={
 mixed:=by kernel_rfl
 f129:=Tryz.func139.trans (congrArg some (by kernel_rfl))
 f171:=Tryz.func103.trans (congrArg some (by kernel_rfl))
 f243:=Tryz.func122.trans (congrArg some (by kernel_rfl))
 f246:=Tryz.func151.trans (congrArg some (by kernel_rfl))
 f283:=Tryz.func162.trans (congrArg some (by kernel_rfl))
 f284:=Tryz.func163.trans (congrArg some (by kernel_rfl))
 f285:=Tryz.func164.trans (congrArg some (by kernel_rfl))
 f286:=Tryz.func165.trans (congrArg some (by kernel_rfl))
 f317:=Tryz.func168.trans (congrArg some (by kernel_rfl))
 f318:=Tryz.func169.trans (congrArg some (by kernel_rfl))
 f319:=Tryz.func170.trans (congrArg some (by kernel_rfl))
 f320:=Tryz.func171.trans (congrArg some (by kernel_rfl))
 f337:=Tryz.func172.trans (congrArg some (by kernel_rfl))
 f338:=Tryz.func152.trans (congrArg some (by kernel_rfl))
 t0:=Tryz.underlying0
 a0:=Tryz.isAgg0
 z0:=Tryz.sizeOf0
 v0:=Tryz.zeroValue0
 t2:=Tryz.underlying2
 a2:=Tryz.isAgg2
 z2:=Tryz.sizeOf2
 v2:=Tryz.zeroValue2
 t3:=Tryz.underlying3
 a3:=Tryz.isAgg3
 z3:=Tryz.sizeOf3
 v3:=Tryz.zeroValue3
 t4:=Tryz.underlying4
 a4:=Tryz.isAgg4
 z4:=Tryz.sizeOf4
 v4:=Tryz.zeroValue4
 t5:=Tryz.underlying5
 a5:=Tryz.isAgg5
 z5:=Tryz.sizeOf5
 v5:=Tryz.zeroValue5
 t9:=Tryz.underlying9
 a9:=Tryz.isAgg9
 z9:=Tryz.sizeOf9
 v9:=Tryz.zeroValue9
 t20:=Tryz.underlying20
 a20:=Tryz.isAgg20
 z20:=Tryz.sizeOf20
 v20:=Tryz.zeroValue20
 t37:=Tryz.underlying81
 a37:=Tryz.isAgg81
 z37:=Tryz.sizeOf81
 v37:=Tryz.zeroValue81
 t46:=Tryz.underlying149
 a46:=Tryz.isAgg149
 z46:=Tryz.sizeOf149
 v46:=Tryz.zeroValue149
 t51:=Tryz.underlying227
 a51:=Tryz.isAgg227
 z51:=Tryz.sizeOf227
 v51:=Tryz.zeroValue227
 t53:=Tryz.underlying56
 a53:=Tryz.isAgg56
 z53:=Tryz.sizeOf56
 v53:=Tryz.zeroValue56
 t171:=Tryz.underlying244
 a171:=Tryz.isAgg244
 z171:=Tryz.sizeOf244
 v171:=Tryz.zeroValue244
 t173:=Tryz.underlying246
 a173:=Tryz.isAgg246
 z173:=Tryz.sizeOf246
 v173:=Tryz.zeroValue246
 t212:=Tryz.underlying254
 a212:=Tryz.isAgg254
 z212:=Tryz.sizeOf254
 v212:=Tryz.zeroValue254
 t213:=Tryz.underlying255
 a213:=Tryz.isAgg255
 z213:=Tryz.sizeOf255
 t232:=Tryz.underlying256
 a232:=Tryz.isAgg256
 z232:=Tryz.sizeOf256
 v232:=Tryz.zeroValue256
 t233:=Tryz.underlying248
 a233:=Tryz.isAgg248
 z233:=Tryz.sizeOf248
 v233:=Tryz.zeroValue248
 g17:=by kernel_rfl
 g18:=by kernel_rfl
 g19:=by kernel_rfl
 i0:=by kernel_rfl
 i2:=by kernel_rfl
 i3:=by kernel_rfl
 i4:=by kernel_rfl
 i5:=by kernel_rfl
 i9:=by kernel_rfl
 i20:=by kernel_rfl
 i37:=by kernel_rfl
 i46:=by kernel_rfl
 i51:=by kernel_rfl
 i53:=by kernel_rfl
 i171:=by kernel_rfl
 i173:=by kernel_rfl
 i212:=by kernel_rfl
 i232:=by kernel_rfl
 i233:=by kernel_rfl
 m17:=by kernel_rfl
 m18:=by kernel_rfl
 m19:=by kernel_rfl }
open Go.RowKit Go.Sort Go.Lib in
theorem Tryz.strconv_Itoa (n:Int) (h0:-9223372036854775808≤n) (h1:n≤9223372036854775807) (w:World) (htab:Lib.TabIs Tryz.prog w "internal/strconv.uint64pow10" .u64 Lib.pow10Tab) :
    Calls Tryz.prog 103 #[.int .i64 n] w fun e w' => e = .returned (.string ⟨(Lib.itoa n).toArray⟩)∧∃ k os,w' = grow (w.drewN k) os:=Any.strconv_Itoa Tryz.laysM171 n h0 h1 w htab
def Tryz.sortTip_ren:Go.Shelf.Ren:=⟨fun | 6 => 80 | 15 => 113 | 14 => 112 | 28 => 138 | 29 => 139 | 20 => 130 | 21 => 131 | 22 => 132 | 23 => 133 | 24 => 134 | 25 => 135 | 26 => 136 | 27 => 137 | 46 => 154 | 47 => 155 | 48 => 156 | 49 => 157 | 50 => 158 | 57 => 166 | n => n,fun | 22 => 29 | 24 => 54 | 25 => 117 | 3 => 3 | 39 => 149 | 0 => 0 | 53 => 227 | 55 => 56 | 4 => 4 | 46 => 221 | 45 => 220 | 50 => 179 | 5 => 5 | 9 => 9 | 66 => 236 | 70 => 240 | 76 => 249 | 77 => 250 | n => n,fun | n => n⟩
theorem Tryz.sortTip:Go.Proofs.SlLaysF0.n6 Tryz.prog Tryz.sortTip_ren:={
 mixed:=by kernel_rfl
 f6:=⟨Tryz.f80.name,by decide,Tryz.func80.trans (congrArg some (by kernel_rfl))⟩
 f14:=⟨Tryz.f112.name,by decide,Tryz.func112.trans (congrArg some (by kernel_rfl))⟩
 f15:=Tryz.func113.trans (congrArg some (by kernel_rfl))
 f20:=⟨Tryz.f130.name,by decide,Tryz.func130.trans (congrArg some (by kernel_rfl))⟩
 f21:=⟨Tryz.f131.name,by decide,Tryz.func131.trans (congrArg some (by kernel_rfl))⟩
 f22:=⟨Tryz.f132.name,by decide,Tryz.func132.trans (congrArg some (by kernel_rfl))⟩
 f23:=⟨Tryz.f133.name,by decide,Tryz.func133.trans (congrArg some (by kernel_rfl))⟩
 f24:=⟨Tryz.f134.name,by decide,Tryz.func134.trans (congrArg some (by kernel_rfl))⟩
 f25:=⟨Tryz.f135.name,by decide,Tryz.func135.trans (congrArg some (by kernel_rfl))⟩
 f26:=⟨Tryz.f136.name,by decide,Tryz.func136.trans (congrArg some (by kernel_rfl))⟩
 f27:=⟨Tryz.f137.name,by decide,Tryz.func137.trans (congrArg some (by kernel_rfl))⟩
 f28:=Tryz.func138.trans (congrArg some (by kernel_rfl))
 f29:=Tryz.func139.trans (congrArg some (by kernel_rfl))
 f46:=⟨Tryz.f154.name,by decide,Tryz.func154.trans (congrArg some (by kernel_rfl))⟩
 f47:=Tryz.func155.trans (congrArg some (by kernel_rfl))
 f48:=Tryz.func156.trans (congrArg some (by kernel_rfl))
 f49:=⟨Tryz.f157.name,by decide,Tryz.func157.trans (congrArg some (by kernel_rfl))⟩
 f50:=⟨Tryz.f158.name,by decide,Tryz.func158.trans (congrArg some (by kernel_rfl))⟩
 f57:=⟨Tryz.f166.name,by decide,Tryz.func166.trans (congrArg some (by kernel_rfl))⟩
 t0:=Tryz.underlying0
 a0:=Tryz.isAgg0
 z0:=Tryz.sizeOf0
 v0:=Tryz.zeroValue0
 t3:=Tryz.underlying3
 a3:=Tryz.isAgg3
 z3:=Tryz.sizeOf3
 v3:=Tryz.zeroValue3
 t4:=Tryz.underlying4
 a4:=Tryz.isAgg4
 z4:=Tryz.sizeOf4
 v4:=Tryz.zeroValue4
 t5:=Tryz.underlying5
 a5:=Tryz.isAgg5
 z5:=Tryz.sizeOf5
 v5:=Tryz.zeroValue5
 t9:=Tryz.underlying9
 a9:=Tryz.isAgg9
 z9:=Tryz.sizeOf9
 v9:=Tryz.zeroValue9
 t22:=Tryz.underlying29
 a22:=Tryz.isAgg29
 z22:=Tryz.sizeOf29
 v22:=Tryz.zeroValue29
 t25:=Tryz.underlying117
 a25:=Tryz.isAgg117
 z25:=Tryz.sizeOf117
 v25:=Tryz.zeroValue117
 t39:=Tryz.underlying149
 a39:=Tryz.isAgg149
 z39:=Tryz.sizeOf149
 v39:=Tryz.zeroValue149
 t45:=Tryz.underlying220
 a45:=Tryz.isAgg220
 z45:=Tryz.sizeOf220
 v45:=Tryz.zeroValue220
 t46:=Tryz.underlying221
 a46:=Tryz.isAgg221
 z46:=Tryz.sizeOf221
 v46:=Tryz.zeroValue221
 t50:=Tryz.underlying179
 a50:=Tryz.isAgg179
 z50:=Tryz.sizeOf179
 v50:=Tryz.zeroValue179
 t53:=Tryz.underlying227
 a53:=Tryz.isAgg227
 z53:=Tryz.sizeOf227
 v53:=Tryz.zeroValue227
 t55:=Tryz.underlying56
 a55:=Tryz.isAgg56
 z55:=Tryz.sizeOf56
 v55:=Tryz.zeroValue56
 t66:=Tryz.underlying236
 a66:=Tryz.isAgg236
 z66:=Tryz.sizeOf236
 v66:=Tryz.zeroValue236
 t70:=Tryz.underlying240
 a70:=Tryz.isAgg240
 z70:=Tryz.sizeOf240
 v70:=Tryz.zeroValue240
 t76:=Tryz.underlying249
 a76:=Tryz.isAgg249
 z76:=Tryz.sizeOf249
 v76:=Tryz.zeroValue249
 t77:=Tryz.underlying250
 a77:=Tryz.isAgg250
 z77:=Tryz.sizeOf250
 v77:=Tryz.zeroValue250 }
def Tryz.sortArc_ren:Go.Shelf.Ren:=⟨fun | 6 => 86 | 15 => 113 | 14 => 116 | 28 => 138 | 29 => 139 | 20 => 141 | 21 => 142 | 22 => 143 | 23 => 144 | 24 => 145 | 25 => 146 | 26 => 147 | 27 => 148 | 46 => 159 | 47 => 155 | 48 => 156 | 49 => 160 | 50 => 161 | 57 => 167 | n => n,fun | 22 => 30 | 24 => 61 | 25 => 119 | 3 => 3 | 39 => 149 | 0 => 0 | 53 => 227 | 55 => 56 | 4 => 4 | 46 => 221 | 45 => 220 | 50 => 179 | 5 => 5 | 9 => 9 | 66 => 236 | 70 => 240 | 76 => 249 | 77 => 250 | n => n,fun | n => n⟩
theorem Tryz.sortArc:Go.Proofs.SlLaysF0.n6 Tryz.prog Tryz.sortArc_ren:={
 mixed:=by kernel_rfl
 f6:=⟨Tryz.f86.name,by decide,Tryz.func86.trans (congrArg some (by kernel_rfl))⟩
 f14:=⟨Tryz.f116.name,by decide,Tryz.func116.trans (congrArg some (by kernel_rfl))⟩
 f15:=Tryz.func113.trans (congrArg some (by kernel_rfl))
 f20:=⟨Tryz.f141.name,by decide,Tryz.func141.trans (congrArg some (by kernel_rfl))⟩
 f21:=⟨Tryz.f142.name,by decide,Tryz.func142.trans (congrArg some (by kernel_rfl))⟩
 f22:=⟨Tryz.f143.name,by decide,Tryz.func143.trans (congrArg some (by kernel_rfl))⟩
 f23:=⟨Tryz.f144.name,by decide,Tryz.func144.trans (congrArg some (by kernel_rfl))⟩
 f24:=⟨Tryz.f145.name,by decide,Tryz.func145.trans (congrArg some (by kernel_rfl))⟩
 f25:=⟨Tryz.f146.name,by decide,Tryz.func146.trans (congrArg some (by kernel_rfl))⟩
 f26:=⟨Tryz.f147.name,by decide,Tryz.func147.trans (congrArg some (by kernel_rfl))⟩
 f27:=⟨Tryz.f148.name,by decide,Tryz.func148.trans (congrArg some (by kernel_rfl))⟩
 f28:=Tryz.func138.trans (congrArg some (by kernel_rfl))
 f29:=Tryz.func139.trans (congrArg some (by kernel_rfl))
 f46:=⟨Tryz.f159.name,by decide,Tryz.func159.trans (congrArg some (by kernel_rfl))⟩
 f47:=Tryz.func155.trans (congrArg some (by kernel_rfl))
 f48:=Tryz.func156.trans (congrArg some (by kernel_rfl))
 f49:=⟨Tryz.f160.name,by decide,Tryz.func160.trans (congrArg some (by kernel_rfl))⟩
 f50:=⟨Tryz.f161.name,by decide,Tryz.func161.trans (congrArg some (by kernel_rfl))⟩
 f57:=⟨Tryz.f167.name,by decide,Tryz.func167.trans (congrArg some (by kernel_rfl))⟩
 t0:=Tryz.underlying0
 a0:=Tryz.isAgg0
 z0:=Tryz.sizeOf0
 v0:=Tryz.zeroValue0
 t3:=Tryz.underlying3
 a3:=Tryz.isAgg3
 z3:=Tryz.sizeOf3
 v3:=Tryz.zeroValue3
 t4:=Tryz.underlying4
 a4:=Tryz.isAgg4
 z4:=Tryz.sizeOf4
 v4:=Tryz.zeroValue4
 t5:=Tryz.underlying5
 a5:=Tryz.isAgg5
 z5:=Tryz.sizeOf5
 v5:=Tryz.zeroValue5
 t9:=Tryz.underlying9
 a9:=Tryz.isAgg9
 z9:=Tryz.sizeOf9
 v9:=Tryz.zeroValue9
 t22:=Tryz.underlying30
 a22:=Tryz.isAgg30
 z22:=Tryz.sizeOf30
 v22:=Tryz.zeroValue30
 t25:=Tryz.underlying119
 a25:=Tryz.isAgg119
 z25:=Tryz.sizeOf119
 v25:=Tryz.zeroValue119
 t39:=Tryz.underlying149
 a39:=Tryz.isAgg149
 z39:=Tryz.sizeOf149
 v39:=Tryz.zeroValue149
 t45:=Tryz.underlying220
 a45:=Tryz.isAgg220
 z45:=Tryz.sizeOf220
 v45:=Tryz.zeroValue220
 t46:=Tryz.underlying221
 a46:=Tryz.isAgg221
 z46:=Tryz.sizeOf221
 v46:=Tryz.zeroValue221
 t50:=Tryz.underlying179
 a50:=Tryz.isAgg179
 z50:=Tryz.sizeOf179
 v50:=Tryz.zeroValue179
 t53:=Tryz.underlying227
 a53:=Tryz.isAgg227
 z53:=Tryz.sizeOf227
 v53:=Tryz.zeroValue227
 t55:=Tryz.underlying56
 a55:=Tryz.isAgg56
 z55:=Tryz.sizeOf56
 v55:=Tryz.zeroValue56
 t66:=Tryz.underlying236
 a66:=Tryz.isAgg236
 z66:=Tryz.sizeOf236
 v66:=Tryz.zeroValue236
 t70:=Tryz.underlying240
 a70:=Tryz.isAgg240
 z70:=Tryz.sizeOf240
 v70:=Tryz.zeroValue240
 t76:=Tryz.underlying249
 a76:=Tryz.isAgg249
 z76:=Tryz.sizeOf249
 v76:=Tryz.zeroValue249
 t77:=Tryz.underlying250
 a77:=Tryz.isAgg250
 z77:=Tryz.sizeOf250
 v77:=Tryz.zeroValue250 }
end Go.Proofs
namespace Go.Proofs.YtcondkihpmmnnaaGreatDoor
open Go.RowKit
def lcpN:List UInt8→List UInt8→Nat
 | a :: l,b :: m => if a = b then lcpN l m + 1 else 0
 | _,_ => 0
theorem lcpN_le_left:∀ (a b:List UInt8),lcpN a b≤a.length
 | [],_ => by simp [lcpN]
 | _ :: _,[] => by simp [lcpN]
 | x :: l,y :: m => by
  have:=lcpN_le_left l m
  unfold lcpN; split <;> simp <;> omega
theorem lcpN_eq:∀ (a b:List UInt8) (i:Nat),i≤a.length→i≤b.length→(∀ j,j < i→a[j]? = b[j]?)→(∀ (h:i < a.length) (h':i < b.length),a[i]≠b[i])→lcpN a b = i
 | [],_,i,h,_,_,_ => by simp at h; subst h; simp [lcpN]
 | _ :: _,[],i,_,h,_,_ => by simp at h; subst h; simp [lcpN]
 | x :: l,y :: m,0,_,_,_,hn => by
  have:=hn (by simp) (by simp)
  simp at this
  simp [lcpN,this]
 | x :: l,y :: m,i + 1,ha,hb,he,hn => by
  have h0:=he 0 (by omega)
  simp at h0
  have:=lcpN_eq l m i (by simpa using ha) (by simpa using hb) (fun j hj => by simpa using he (j + 1) (by omega)) (fun h h' e => hn (by simpa using h) (by simpa using h') (by simpa using e))
  simp [lcpN,h0,this]
set_option maxHeartbeats 400000 in
theorem front_any (a b:ByteArray) (w:World) (ha:a.size≤maxLen) (hb:b.size≤maxLen) :
    Calls Tryz.prog 108 #[.string a,.string b] w (Gives (.int .i64 (lcpN a.data.toList b.data.toList)) w):=by
 unfold maxLen at ha hb
 go_enter Tryz.func108,Tryz.ntmps108
 go_wp2
 all_goals
  go_loopw [6,13] (fun _ i wr => ∃ k:Nat,k≤a.size∧k≤b.size∧i = .int .i64 k∧(∀ j,j < k→a.data.toList[j]? = b.data.toList[j]?)∧Below w.heap.size w wr) (fun _ i _ => a.size - (intOf i).toNat)
  case atStart => exact ⟨0,by omega,by omega,rfl,by omega,Below.refl _ _⟩
  case round =>
   obtain ⟨k,hk,hk2,rfl,HE,HB⟩:=hrel
   have H:=Lib.hid HE; clear HE
   by_cases hlt:k < a.size∧k < b.size
   ·obtain ⟨h1,h2⟩:=hlt
    go_wp2
    go_quiet (fail)
    go_wp2
    ·go_ret
     refine ⟨?_,below_drewN HB _⟩
     have hne:a[k]≠b[k]:=by rename_i h; exact fun e => by simp [e] at h
     rw [lcpN_eq a.data.toList b.data.toList k (by simpa using hk) (by simpa using hk2) H.out (fun _ _ => hne)]; rfl
    ·have he:a[k] = b[k]:=by rename_i h; exact u8_eq (by simpa using h)
     go_roundw
     case rel => exact ⟨k + 1,by omega,by omega,by go_num,fun j hj => by
      rcases Nat.lt_succ_iff_lt_or_eq.1 hj with h | rfl
      ·exact H.out j h
      ·exact (get_some a j h1).trans (he ▸ (get_some b j h2).symm),below_drewN HB _⟩
     case measure => simp [intOf]; omega
   ·go_wp2
    go_ret
    refine ⟨?_,HB⟩
    rw [lcpN_eq a.data.toList b.data.toList k (by simpa using hk) (by simpa using hk2) H.out (fun h h' => absurd ⟨by simpa using h,by simpa using h'⟩ hlt)]
    simp; omega
def lcpB (s:ByteArray) (l:List ByteArray):ByteArray:=l.foldl (fun s t => s.extract 0 (lcpN s.data.toList t.data.toList)) s
theorem lcpB_snoc (s:ByteArray) (l:List ByteArray) (x:ByteArray):lcpB s (l ++ [x]) = (lcpB s l).extract 0 (lcpN (lcpB s l).data.toList x.data.toList):=by
 simp [lcpB]
set_option maxHeartbeats 400000 in
theorem lcp_cons (A:Option Addr) (c:Nat) (s:ByteArray) (l:List ByteArray) (w:World) (HR:Reads w w.heap.size 1 A (l.length + 1) ((s :: l).map Value.string)) (hl:∀ x∈s :: l,x.size≤maxLen) (hc:l.length + 1≤c) (hm:c≤maxLen) :
    Calls Tryz.prog 94 #[.slice A (l.length + 1:Nat) c] w (Gives (.string (lcpB s l)) w):=by
 obtain ⟨ad,u,rfl,_,hx,hcell⟩:=HR.at_ (k:=0) (by omega)
 simp only [List.map_cons,List.getElem?_cons_zero,Option.some.injEq] at hx
 subst hx
 have hc0:w.cell? ad = some (.string s):=by simpa [Addr.add] using hcell
 have hs0:s.size≤maxLen:=hl s (by simp)
 clear hcell
 unfold maxLen at hm
 go_enter Tryz.func94,Tryz.ntmps94
 have hz:(((l.length:Nat):Int) + 1 == 0) = false:=by rw [beq_eq_false_iff_ne]; omega
 go_wp2
 all_goals
  go_loopw [3,5,15] (fun x _ i wr => ∃ k:Nat,k≤l.length∧i = .int .i64 k∧x = .string (lcpB s (l.take k))∧(lcpB s (l.take k)).size≤maxLen∧Below w.heap.size w wr) (fun _ _ i _ => l.length - (intOf i).toNat)
  case atStart => exact ⟨0,by omega,rfl,by simp [lcpB],by simpa [lcpB] using hs0,Below.refl _ _⟩
  case round =>
   obtain ⟨k,hk,rfl,rfl,hsz,HB⟩:=hrel
   by_cases hlt:k < l.length
   ·first
    | (exfalso; omega)
    | (have hr:=HR.below HB
       have hck:wr.cell? ⟨ad.block,ad.off + 1 + k,none⟩ = some (.string l[k]):=by
        obtain ⟨_,e,_,hc⟩:=hr.2 (by omega)
        cases e
        have:=hc (k + 1) (.string l[k]) (by simp [hlt])
        simpa [Addr.add,Nat.add_assoc,Nat.add_comm 1 k] using this
       have hlk:l[k].size≤maxLen:=hl _ (by simp)
       have hle:=lcpN_le_left (lcpB s (l.take k)).data.toList l[k].data.toList
       simp only [Array.length_toList,ByteArray.size_data] at hle
       clear hr
       go_wp2_with (go_at_call 108; refine (front_any _ _ _ hsz hlk).mono ?_; rintro e w' ⟨rfl,HB2⟩)
       go_roundw
       case rel =>
        have e1:lcpB s (l.take (k + 1)) = (lcpB s (l.take k)).extract 0 (lcpN (lcpB s (l.take k)).data.toList l[k].data.toList):=by
         rw [List.take_succ_eq_append_getElem hlt,lcpB_snoc]
        exact ⟨k + 1,by omega,by go_num,by rw [e1],by rw [e1]; simp only [ByteArray.size_extract]; omega,below_then HB HB2⟩
       case measure => simp [intOf]; omega)
   ·have e1:l.take k = l:=List.take_of_length_le (by omega)
    rw [e1] at hsz ⊢
    go_wp2
    go_ret
    exact ⟨rfl,HB⟩
end Go.Proofs.YtcondkihpmmnnaaGreatDoor
namespace Go.Proofs.YtcondkihpmmnnaaGreatDoor
open Go.RowKit Go.Sort
set_option maxRecDepth 100000 in
set_option maxHeartbeats 8000000 in
theorem row_any (Z:List Int) (O:List ByteArray) (A A':Option Addr) (n n' c c' B s:Nat) (w:World) (HR0:Reads w B 1 A n (Z.map (Value.int .i64))) (HR0':Reads w B 1 A' n' (O.map Value.string)) (hB:B≤w.heap.size)
    (hs:s≤maxLen) (hn:n≤maxLen) (hn':n'≤maxLen) (hO:∀ x∈O,x.size≤maxLen) :
    Calls Tryz.prog 47 #[.slice A n c,.slice A' n' c',.int .i64 s] w (Gives (.bool (rowB Z O s)) w):=by
 have HR:=HR0.more hB
 have HR':=HR0'.more hB
 clear HR0 HR0'
 have l1:Z.length = n:=by have:=HR.1; simpa using this
 have l2:O.length = n':=by have:=HR'.1; simpa using this
 unfold maxLen at hs hn hn'
 rcases Decidable.em (n≠256) with h1 | h1
 ·have e:rowB Z O s = false:=by unfold rowB; rw [l1,decide_eq_false h1]; rfl
  rw [e]
  go_enter Tryz.func47,Tryz.ntmps47
  go_wp2
  go_ret
  exact ⟨rfl,Below.refl _ _⟩
 rcases Decidable.em (n'≠256) with h2 | h2
 ·have e:rowB Z O s = false:=by unfold rowB; rw [l2,decide_eq_false h2]; simp
  rw [e]
  have h1:n = 256:=by omega
  subst h1
  go_enter Tryz.func47,Tryz.ntmps47
  go_wp2
  go_ret
  exact ⟨rfl,Below.refl _ _⟩
 have h1:n = 256:=by omega
 have h2:n' = 256:=by omega
 subst h1
 subst h2
 go_enter Tryz.func47,Tryz.ntmps47
 go_wp2
 go_loopw [19] (fun i wr => ∃ k:Nat,k≤256∧i = .int .i64 k∧Below w.heap.size w wr∧(List.range k).all (fun b => entB (Z.getD b 0) (O.getD b ByteArray.empty) s) = true) (fun i _ => 256 - (intOf i).toNat)
 case atStart => exact ⟨0,by omega,rfl,Below.refl _ _,rfl⟩
 case round =>
  obtain ⟨k,hk,rfl,HB,ha⟩:=hrel
  have hsz:=HB.size
  by_cases hlt:k < 256
  ·have hi1:(0:Int)≤(k:Int):=by omega
   have hi2:(k:Int) < (256:Int):=by omega
   obtain ⟨g,o,rfl,hgB,c0⟩:=cell_at (d:=0) (HR.below HB) k hlt
   obtain ⟨g',o',rfl,hgB',d0⟩:=cell_at (d:=ByteArray.empty) (HR'.below HB) k hlt
   have hbad:entB (Z.getD k 0) (O.getD k ByteArray.empty) s = false→rowB Z O s = false:=fun h => by
    unfold rowB; rw [range_all_false hlt h,Bool.and_false]
   have hgood:entB (Z.getD k 0) (O.getD k ByteArray.empty) s = true→(List.range (k + 1)).all (fun b => entB (Z.getD b 0) (O.getD b ByteArray.empty) s) = true:=fun h => by
    rw [List.range_succ,List.all_append,ha]; simpa using h
   have hq:(O.getD k ByteArray.empty).size≤9223372036854775807:=by
    have:=hO (O.getD k ByteArray.empty) (by rw [List.getD_eq_getElem?_getD,List.getElem?_eq_getElem (by omega)]; exact List.getElem_mem _)
    unfold maxLen at this; omega
   generalize Z.getD k 0 = z at *
   generalize O.getD k ByteArray.empty = q at *
   clear ha hO
   have Hb:=Lib.hid hbad; clear hbad
   have Hg:=Lib.hid hgood; clear hgood
   by_cases a1:z < -1
   ·go_wp2
    go_ret
    refine ⟨?_,HB⟩
    rw [Hb.out (by unfold entB; simp; omega)]
    rfl
   by_cases a2:(s:Int)≤z
   ·go_wp2
    go_ret
    refine ⟨?_,HB⟩
    rw [Hb.out (by unfold entB; simp; omega)]
    rfl
   by_cases a3:(4096:Int) < (q.size:Int)
   ·go_wp2
    go_ret
    refine ⟨?_,HB⟩
    rw [Hb.out (by unfold entB; simp; omega)]
    rfl
   by_cases a4:z = -1
   ·by_cases a5:q = ByteArray.empty
    ·subst a4
     subst a5
     go_wp2
     go_roundw
     case rel => exact ⟨k + 1,by omega,by go_num,HB,Hg.out (by unfold entB; simp; omega)⟩
     case measure => simp [intOf]; omega
    ·subst a4
     have a6:q.toList.isEmpty = false:=by
      rw [Lib.toList_data,← Bool.not_eq_true]
      intro h
      exact a5 (ByteArray.ext (Array.toList_eq_nil_iff.1 (List.isEmpty_iff.1 h)))
     go_wp2
     go_ret
     refine ⟨?_,HB⟩
     rw [Hb.out (by unfold entB; simp; intro _ _ h; exact a5 (by simpa using h))]
     rfl
   ·go_wp2
    go_roundw
    case rel => exact ⟨k + 1,by omega,by go_num,HB,Hg.out (by unfold entB; simp; omega)⟩
    case measure => simp [intOf]; omega
  ·have e:k = 256:=by omega
   subst e
   have er:rowB Z O s = true:=by unfold rowB; rw [l1,l2,ha]; rfl
   go_wp2
   go_ret
   refine ⟨?_,HB⟩
   rw [er]
   rfl
end Go.Proofs.YtcondkihpmmnnaaGreatDoor
