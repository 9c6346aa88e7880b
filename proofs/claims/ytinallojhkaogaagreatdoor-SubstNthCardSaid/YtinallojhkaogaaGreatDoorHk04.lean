/- The texts Shelf. -/
import Derived.Shelf.Strings.Builder1
import Derived.Shelf.Strings.Builder2
import Derived.Shelf.Strings.OnBuilder
import Derived.Shelf.Small.Strs
import Derived.Shelf.Strings.BuilderF
import Derived.Shelf.Strings.BuilderK
import Derived.Shelf.Strconv.Atoi
import Derived.Shelf.Strconv.Itoa0
import Derived.Shelf.Strconv.Itoa1
import Derived.Shelf.LaysM
import Derived.Shelf.Strconv.Itoa2
import Derived.Shelf.Strconv.Itoa3
import Derived.Shelf.Strconv.AtoiErrFast
import Derived.Shelf.Strconv.ParseIntEmpty
import Derived.Shelf.Strconv.AtoiFail
import Derived.Shelf.Strconv.Clone
import Derived.Shelf.Strconv.SyntaxError
import Derived.Shelf.LaysC
import Derived.Shelf.Strconv.ToError
import Derived.Shelf.Strconv.Lower
import Derived.Shelf.Strconv.ParseUint10
import Derived.Shelf.Strconv.ParseUint10Empty
import Derived.Shelf.Strconv.ParseUint10Any
import Derived.Shelf.Strconv.ParseInt10
import Derived.Shelf.Strconv.AtoiLong
import Derived.Shelf.Strconv.AtoiInnerAll
import Derived.Shelf.Strconv.RangeError
import Derived.Shelf.Strconv.ToErrorRange
import Derived.Shelf.Strconv.AtoiAll
import Derived.Shelf.Strings.Search1
import Derived.Shelf.Strings.Search2
import Derived.Shelf.Strings.Search3
import Derived.Shelf.Strings.Cut
import Derived.Shelf.Strings.Count
import Derived.Shelf.Strings.Shaped
import Derived.Shelf.Strings.Prefix
import Derived.Shelf.Slices.Turned
import Derived.Test.YtinallojhkaogaaGreatDoorProg
namespace Go.Proofs
open Go.Shelf
def Tryz.lays169_ren:Go.Shelf.Ren:=⟨fun | 169=>58 | n=>n,fun | 70=>95 | 9=>9 | 0=>0 | 72=>98 | 37=>96 | 127=>132 | 3=>3 | 5=>5 | n=>n,fun | n=>n⟩
theorem Tryz.lays169:Go.Proofs.Lays.n169 Tryz.prog Tryz.lays169_ren:={
  mixed:=by kernel_rfl
  f169:=Tryz.func58.trans (congrArg some (by kernel_rfl))
  t0:=Tryz.underlying0
  a0:=Tryz.isAgg0
  z0:=Tryz.sizeOf0
  v0:=Tryz.zeroValue0
  t3:=Tryz.underlying3
  a3:=Tryz.isAgg3
  z3:=Tryz.sizeOf3
  v3:=Tryz.zeroValue3
  t9:=Tryz.underlying9
  a9:=Tryz.isAgg9
  z9:=Tryz.sizeOf9
  v9:=Tryz.zeroValue9
  t37:=Tryz.underlying96
  a37:=Tryz.isAgg96
  z37:=Tryz.sizeOf96
  v37:=Tryz.zeroValue96
  t70:=Tryz.underlying95
  a70:=Tryz.isAgg95
  z70:=Tryz.sizeOf95
  v70:=Tryz.zeroValue95
  t72:=Tryz.underlying98
  a72:=Tryz.isAgg98
  z72:=Tryz.sizeOf98
  v72:=Tryz.zeroValue98
  t127:=Tryz.underlying132
  a127:=Tryz.isAgg132
  z127:=Tryz.sizeOf132
  v127:=Tryz.zeroValue132 }
theorem Tryz.Builder_Extra_169:Builder.Extra Tryz.prog Tryz.lays169_ren:={
  sizeBuilder:=by kernel_rfl
  liesBuilder:=by kernel_rfl
  t5:=Tryz.underlying5
  a5:=Tryz.isAgg5
  z5:=Tryz.sizeOf5
  v5:=Tryz.zeroValue5
  infoByte:=by kernel_rfl
  cellsByte:=by kernel_rfl
  sizeByte:=by kernel_rfl
  neB5:=by decide }
def Tryz.lays156_ren:Go.Shelf.Ren:=⟨fun | 156=>91 | 165=>119 | 166=>55 | 169=>58 | 240=>80 | 241=>147 | 276=>106 | 277=>174 | n=>n,fun | 31=>133 | 9=>9 | 3=>3 | 4=>4 | 0=>0 | 20=>20 | 72=>98 | 76=>101 | 70=>95 | 37=>96 | 75=>100 | 127=>132 | 164=>179 | 5=>5 | 80=>104 | n=>n,fun | n=>n⟩
theorem Tryz.lays156:Go.Proofs.Lays.n156 Tryz.prog Tryz.lays156_ren:={
  mixed:=by kernel_rfl
  f156:=Tryz.func91.trans (congrArg some (by kernel_rfl))
  f165:=Tryz.func119.trans (congrArg some (by kernel_rfl))
  f166:=Tryz.func55.trans (congrArg some (by kernel_rfl))
  f169:=Tryz.func58.trans (congrArg some (by kernel_rfl))
  f240:=Tryz.func80.trans (congrArg some (by kernel_rfl))
  f241:=Tryz.func147.trans (congrArg some (by kernel_rfl))
  f276:=Tryz.func106.trans (congrArg some (by kernel_rfl))
  f277:=Tryz.func174.trans (congrArg some (by kernel_rfl))
  t0:=Tryz.underlying0
  a0:=Tryz.isAgg0
  z0:=Tryz.sizeOf0
  v0:=Tryz.zeroValue0
  t3:=Tryz.underlying3
  a3:=Tryz.isAgg3
  z3:=Tryz.sizeOf3
  v3:=Tryz.zeroValue3
  t4:=Tryz.underlying4
  a4:=Tryz.isAgg4
  z4:=Tryz.sizeOf4
  v4:=Tryz.zeroValue4
  t9:=Tryz.underlying9
  a9:=Tryz.isAgg9
  z9:=Tryz.sizeOf9
  v9:=Tryz.zeroValue9
  t20:=Tryz.underlying20
  a20:=Tryz.isAgg20
  z20:=Tryz.sizeOf20
  v20:=Tryz.zeroValue20
  t31:=Tryz.underlying133
  a31:=Tryz.isAgg133
  z31:=Tryz.sizeOf133
  v31:=Tryz.zeroValue133
  t37:=Tryz.underlying96
  a37:=Tryz.isAgg96
  z37:=Tryz.sizeOf96
  v37:=Tryz.zeroValue96
  t70:=Tryz.underlying95
  a70:=Tryz.isAgg95
  z70:=Tryz.sizeOf95
  v70:=Tryz.zeroValue95
  t72:=Tryz.underlying98
  a72:=Tryz.isAgg98
  z72:=Tryz.sizeOf98
  v72:=Tryz.zeroValue98
  t75:=Tryz.underlying100
  a75:=Tryz.isAgg100
  z75:=Tryz.sizeOf100
  v75:=Tryz.zeroValue100
  t76:=Tryz.underlying101
  a76:=Tryz.isAgg101
  z76:=Tryz.sizeOf101
  v76:=Tryz.zeroValue101
  t127:=Tryz.underlying132
  a127:=Tryz.isAgg132
  z127:=Tryz.sizeOf132
  v127:=Tryz.zeroValue132
  t164:=Tryz.underlying179
  a164:=Tryz.isAgg179
  z164:=Tryz.sizeOf179
  v164:=Tryz.zeroValue179 }
theorem Tryz.Builder_Extra_156:Builder.Extra Tryz.prog Tryz.lays156_ren:={
  sizeBuilder:=by kernel_rfl
  liesBuilder:=by kernel_rfl
  t5:=Tryz.underlying5
  a5:=Tryz.isAgg5
  z5:=Tryz.sizeOf5
  v5:=Tryz.zeroValue5
  infoByte:=by kernel_rfl
  cellsByte:=by kernel_rfl
  sizeByte:=by kernel_rfl
  neB5:=by decide }
open Go.RowKit in
theorem Tryz.strings_Join_none (a:Option Addr) (c:Nat) (sep:ByteArray) (w:World) :
    Calls Tryz.prog 91 #[.slice a 0 c,.string sep] w fun e w'=>e = .returned (.string ⟨#[]⟩) ∧ w' = w:=Any.strings_Join_none Tryz.lays156 Tryz.Builder_Extra_156 a c sep w
open Go.RowKit in
theorem Tryz.strings_Join (bk o c:Nat) (xs:List ByteArray) (sep:ByteArray) (w:World) (hcells:∀ (j:Nat) x,xs[j]? = some x → w.cell? ⟨bk,o + j,none⟩ = some (.string x)) (hbk:bk < w.heap.size) (hN:xs.length ≤ 140737488355328) (hcap:xs.length ≤ c) (hlen:(Lib.join (xs.map (·.data.toList)) sep.data.toList).length ≤ 140737488355328) :
    Calls Tryz.prog 91 #[.slice (some ⟨bk,o,none⟩) xs.length c,.string sep] w fun e w'=>e = .returned (.string ⟨(Lib.join (xs.map (·.data.toList)) sep.data.toList).toArray⟩) ∧ Below w.heap.size w w':=Any.strings_Join Tryz.lays156 Tryz.Builder_Extra_156 bk o c xs sep w hcells hbk hN hcap hlen
def Tryz.lays137_ren:Go.Shelf.Ren:=⟨fun | 137=>60 | 217=>81 | 266=>107 | n=>n,fun | 9=>9 | 5=>5 | 3=>3 | n=>n,fun | n=>n⟩
theorem Tryz.lays137:Go.Proofs.Lays.n137 Tryz.prog Tryz.lays137_ren:={
  mixed:=by kernel_rfl
  f137:=Tryz.func60.trans (congrArg some (by kernel_rfl))
  f217:=Tryz.func81.trans (congrArg some (by kernel_rfl))
  f266:=Tryz.func107.trans (congrArg some (by kernel_rfl))
  t3:=Tryz.underlying3
  a3:=Tryz.isAgg3
  z3:=Tryz.sizeOf3
  v3:=Tryz.zeroValue3
  t5:=Tryz.underlying5
  a5:=Tryz.isAgg5
  z5:=Tryz.sizeOf5
  v5:=Tryz.zeroValue5
  t9:=Tryz.underlying9
  a9:=Tryz.isAgg9
  z9:=Tryz.sizeOf9
  v9:=Tryz.zeroValue9 }
open Go.RowKit in
theorem Tryz.strings_IndexByte (s:ByteArray) (c:Int) (w:World) :
    Calls Tryz.prog 60 #[.string s,.int .u8 c] w fun e w'=>e = .returned (.int .i64 (Lib.indexByte s.data.toList c.toNat.toUInt8)) ∧ w' = w:=Any.strings_IndexByte Tryz.lays137 s c w
open Go.RowKit in
theorem Tryz.Builder_String_any_k (B b:Nat) (l:List UInt8) (w:World) (h:Lib.IsBuilderF 98 5 B b (Lib.byteCells l) w) (hBw:B ≤ w.heap.size) :
    Calls Tryz.prog 58 #[.pointer (some ⟨b,0,none⟩)] w fun e w'=>e = .returned (.string ⟨l.toArray⟩) ∧ (Lib.IsBuilderF 98 5 B b (Lib.byteCells l) w' ∧ Below B w w' ∧ Lib.OthersKept 5 (some b) w w'):=Any.Builder_String_any_k Tryz.lays169 Tryz.Builder_Extra_169 B b l w h hBw
def Tryz.laysM171_ren:Go.Shelf.Ren:=⟨fun | 171=>64 | 243=>84 | 246=>111 | 283=>139 | 284=>140 | 285=>141 | 286=>142 | 129=>162 | 317=>161 | 318=>163 | 319=>164 | 320=>165 | 337=>186 | 338=>150 | n=>n,fun | 3=>3 | 9=>9 | 2=>2 | 4=>4 | 171=>218 | 0=>0 | 53=>68 | 37=>96 | 5=>5 | 173=>221 | 212=>253 | 51=>137 | 20=>20 | 213=>254 | 46=>227 | 232=>286 | 233=>266 | n=>n,fun | 17=>1 | 18=>5 | 19=>2 | n=>n⟩
theorem Tryz.laysM171:Go.Proofs.LaysM.n171 Tryz.prog Tryz.laysM171_ren:={
  mixed:=by kernel_rfl
  f129:=Tryz.func162.trans (congrArg some (by kernel_rfl))
  f171:=Tryz.func64.trans (congrArg some (by kernel_rfl))
  f243:=Tryz.func84.trans (congrArg some (by kernel_rfl))
  f246:=Tryz.func111.trans (congrArg some (by kernel_rfl))
  f283:=Tryz.func139.trans (congrArg some (by kernel_rfl))
  f284:=Tryz.func140.trans (congrArg some (by kernel_rfl))
  f285:=Tryz.func141.trans (congrArg some (by kernel_rfl))
  f286:=Tryz.func142.trans (congrArg some (by kernel_rfl))
  f317:=Tryz.func161.trans (congrArg some (by kernel_rfl))
  f318:=Tryz.func163.trans (congrArg some (by kernel_rfl))
  f319:=Tryz.func164.trans (congrArg some (by kernel_rfl))
  f320:=Tryz.func165.trans (congrArg some (by kernel_rfl))
  f337:=Tryz.func186.trans (congrArg some (by kernel_rfl))
  f338:=Tryz.func150.trans (congrArg some (by kernel_rfl))
  t0:=Tryz.underlying0
  a0:=Tryz.isAgg0
  z0:=Tryz.sizeOf0
  v0:=Tryz.zeroValue0
  t2:=Tryz.underlying2
  a2:=Tryz.isAgg2
  z2:=Tryz.sizeOf2
  v2:=Tryz.zeroValue2
  t3:=Tryz.underlying3
  a3:=Tryz.isAgg3
  z3:=Tryz.sizeOf3
  v3:=Tryz.zeroValue3
  t4:=Tryz.underlying4
  a4:=Tryz.isAgg4
  z4:=Tryz.sizeOf4
  v4:=Tryz.zeroValue4
  t5:=Tryz.underlying5
  a5:=Tryz.isAgg5
  z5:=Tryz.sizeOf5
  v5:=Tryz.zeroValue5
  t9:=Tryz.underlying9
  a9:=Tryz.isAgg9
  z9:=Tryz.sizeOf9
  v9:=Tryz.zeroValue9
  t20:=Tryz.underlying20
  a20:=Tryz.isAgg20
  z20:=Tryz.sizeOf20
  v20:=Tryz.zeroValue20
  t37:=Tryz.underlying96
  a37:=Tryz.isAgg96
  z37:=Tryz.sizeOf96
  v37:=Tryz.zeroValue96
  t46:=Tryz.underlying227
  a46:=Tryz.isAgg227
  z46:=Tryz.sizeOf227
  v46:=Tryz.zeroValue227
  t51:=Tryz.underlying137
  a51:=Tryz.isAgg137
  z51:=Tryz.sizeOf137
  v51:=Tryz.zeroValue137
  t53:=Tryz.underlying68
  a53:=Tryz.isAgg68
  z53:=Tryz.sizeOf68
  v53:=Tryz.zeroValue68
  t171:=Tryz.underlying218
  a171:=Tryz.isAgg218
  z171:=Tryz.sizeOf218
  v171:=Tryz.zeroValue218
  t173:=Tryz.underlying221
  a173:=Tryz.isAgg221
  z173:=Tryz.sizeOf221
  v173:=Tryz.zeroValue221
  t212:=Tryz.underlying253
  a212:=Tryz.isAgg253
  z212:=Tryz.sizeOf253
  v212:=Tryz.zeroValue253
  t213:=Tryz.underlying254
  a213:=Tryz.isAgg254
  z213:=Tryz.sizeOf254
  t232:=Tryz.underlying286
  a232:=Tryz.isAgg286
  z232:=Tryz.sizeOf286
  v232:=Tryz.zeroValue286
  t233:=Tryz.underlying266
  a233:=Tryz.isAgg266
  z233:=Tryz.sizeOf266
  v233:=Tryz.zeroValue266
  g17:=by kernel_rfl
  g18:=by kernel_rfl
  g19:=by kernel_rfl
  i0:=by kernel_rfl
  i2:=by kernel_rfl
  i3:=by kernel_rfl
  i4:=by kernel_rfl
  i5:=by kernel_rfl
  i9:=by kernel_rfl
  i20:=by kernel_rfl
  i37:=by kernel_rfl
  i46:=by kernel_rfl
  i51:=by kernel_rfl
  i53:=by kernel_rfl
  i171:=by kernel_rfl
  i173:=by kernel_rfl
  i212:=by kernel_rfl
  i232:=by kernel_rfl
  i233:=by kernel_rfl
  m17:=by kernel_rfl
  m18:=by kernel_rfl
  m19:=by kernel_rfl }
open Go.RowKit Go.Sort Go.Lib in
theorem Tryz.strconv_Itoa (n:Int) (h0:-9223372036854775808 ≤ n) (h1:n ≤ 9223372036854775807) (w:World) (htab:Lib.TabIs Tryz.prog w "internal/strconv.uint64pow10" .u64 Lib.pow10Tab) :
    Calls Tryz.prog 64 #[.int .i64 n] w fun e w'=>e = .returned (.string ⟨(Lib.itoa n).toArray⟩) ∧ ∃ k os,w' = grow (w.drewN k) os:=Any.strconv_Itoa Tryz.laysM171 n h0 h1 w htab
def Tryz.laysC245_ren:Go.Shelf.Ren:=⟨fun | 245=>145 | 279=>169 | 280=>170 | 281=>171 | 282=>172 | 316=>188 | 171=>64 | 205=>189 | 243=>84 | 246=>111 | 283=>139 | 284=>140 | 285=>141 | 286=>142 | 129=>162 | 317=>161 | 318=>163 | 319=>164 | 320=>165 | 337=>186 | 338=>150 | n=>n,fun | 9=>9 | 3=>3 | 75=>100 | 167=>257 | 4=>4 | 168=>260 | 210=>281 | 37=>96 | 0=>0 | 127=>132 | 145=>289 | 143=>287 | 2=>2 | 171=>218 | 53=>68 | 5=>5 | 173=>221 | 212=>253 | 51=>137 | 20=>20 | 213=>254 | 46=>227 | 232=>286 | 233=>266 | 80=>104 | n=>n,fun | 15=>3 | 16=>4 | 17=>1 | 18=>5 | 19=>2 | n=>n⟩
theorem Tryz.laysC245:Go.Proofs.LaysC.n245 Tryz.prog Tryz.laysC245_ren:={
  mixed:=by kernel_rfl
  f129:=Tryz.func162.trans (congrArg some (by kernel_rfl))
  f171:=Tryz.func64.trans (congrArg some (by kernel_rfl))
  f205:=Tryz.func189.trans (congrArg some (by kernel_rfl))
  f243:=Tryz.func84.trans (congrArg some (by kernel_rfl))
  f245:=Tryz.func145.trans (congrArg some (by kernel_rfl))
  f246:=Tryz.func111.trans (congrArg some (by kernel_rfl))
  f279:=Tryz.func169.trans (congrArg some (by kernel_rfl))
  f280:=Tryz.func170.trans (congrArg some (by kernel_rfl))
  f281:=Tryz.func171.trans (congrArg some (by kernel_rfl))
  f282:=Tryz.func172.trans (congrArg some (by kernel_rfl))
  f283:=Tryz.func139.trans (congrArg some (by kernel_rfl))
  f284:=Tryz.func140.trans (congrArg some (by kernel_rfl))
  f285:=Tryz.func141.trans (congrArg some (by kernel_rfl))
  f286:=Tryz.func142.trans (congrArg some (by kernel_rfl))
  f316:=Tryz.func188.trans (congrArg some (by kernel_rfl))
  f317:=Tryz.func161.trans (congrArg some (by kernel_rfl))
  f318:=Tryz.func163.trans (congrArg some (by kernel_rfl))
  f319:=Tryz.func164.trans (congrArg some (by kernel_rfl))
  f320:=Tryz.func165.trans (congrArg some (by kernel_rfl))
  f337:=Tryz.func186.trans (congrArg some (by kernel_rfl))
  f338:=Tryz.func150.trans (congrArg some (by kernel_rfl))
  t0:=Tryz.underlying0
  a0:=Tryz.isAgg0
  z0:=Tryz.sizeOf0
  v0:=Tryz.zeroValue0
  t2:=Tryz.underlying2
  a2:=Tryz.isAgg2
  z2:=Tryz.sizeOf2
  v2:=Tryz.zeroValue2
  t3:=Tryz.underlying3
  a3:=Tryz.isAgg3
  z3:=Tryz.sizeOf3
  v3:=Tryz.zeroValue3
  t4:=Tryz.underlying4
  a4:=Tryz.isAgg4
  z4:=Tryz.sizeOf4
  v4:=Tryz.zeroValue4
  t5:=Tryz.underlying5
  a5:=Tryz.isAgg5
  z5:=Tryz.sizeOf5
  v5:=Tryz.zeroValue5
  t9:=Tryz.underlying9
  a9:=Tryz.isAgg9
  z9:=Tryz.sizeOf9
  v9:=Tryz.zeroValue9
  t20:=Tryz.underlying20
  a20:=Tryz.isAgg20
  z20:=Tryz.sizeOf20
  v20:=Tryz.zeroValue20
  t37:=Tryz.underlying96
  a37:=Tryz.isAgg96
  z37:=Tryz.sizeOf96
  v37:=Tryz.zeroValue96
  t46:=Tryz.underlying227
  a46:=Tryz.isAgg227
  z46:=Tryz.sizeOf227
  v46:=Tryz.zeroValue227
  t51:=Tryz.underlying137
  a51:=Tryz.isAgg137
  z51:=Tryz.sizeOf137
  v51:=Tryz.zeroValue137
  t53:=Tryz.underlying68
  a53:=Tryz.isAgg68
  z53:=Tryz.sizeOf68
  v53:=Tryz.zeroValue68
  t75:=Tryz.underlying100
  a75:=Tryz.isAgg100
  z75:=Tryz.sizeOf100
  v75:=Tryz.zeroValue100
  t127:=Tryz.underlying132
  a127:=Tryz.isAgg132
  z127:=Tryz.sizeOf132
  v127:=Tryz.zeroValue132
  t143:=Tryz.underlying287
  a143:=Tryz.isAgg287
  z143:=Tryz.sizeOf287
  v143:=Tryz.zeroValue287
  t145:=Tryz.underlying289
  a145:=Tryz.isAgg289
  z145:=Tryz.sizeOf289
  v145:=Tryz.zeroValue289
  t167:=Tryz.underlying257
  a167:=Tryz.isAgg257
  z167:=Tryz.sizeOf257
  v167:=Tryz.zeroValue257
  t168:=Tryz.underlying260
  a168:=Tryz.isAgg260
  z168:=Tryz.sizeOf260
  v168:=Tryz.zeroValue260
  t171:=Tryz.underlying218
  a171:=Tryz.isAgg218
  z171:=Tryz.sizeOf218
  v171:=Tryz.zeroValue218
  t173:=Tryz.underlying221
  a173:=Tryz.isAgg221
  z173:=Tryz.sizeOf221
  v173:=Tryz.zeroValue221
  t210:=Tryz.underlying281
  a210:=Tryz.isAgg281
  z210:=Tryz.sizeOf281
  v210:=Tryz.zeroValue281
  t212:=Tryz.underlying253
  a212:=Tryz.isAgg253
  z212:=Tryz.sizeOf253
  v212:=Tryz.zeroValue253
  t213:=Tryz.underlying254
  a213:=Tryz.isAgg254
  z213:=Tryz.sizeOf254
  t232:=Tryz.underlying286
  a232:=Tryz.isAgg286
  z232:=Tryz.sizeOf286
  v232:=Tryz.zeroValue286
  t233:=Tryz.underlying266
  a233:=Tryz.isAgg266
  z233:=Tryz.sizeOf266
  v233:=Tryz.zeroValue266
  g15:=by kernel_rfl
  g16:=by kernel_rfl
  g17:=by kernel_rfl
  g18:=by kernel_rfl
  g19:=by kernel_rfl
  t80:=Tryz.underlying104
  a80:=Tryz.isAgg104
  z80:=Tryz.sizeOf104
  v80:=Tryz.zeroValue104
  i0:=by kernel_rfl
  i2:=by kernel_rfl
  i3:=by kernel_rfl
  i4:=by kernel_rfl
  i5:=by kernel_rfl
  i9:=by kernel_rfl
  i20:=by kernel_rfl
  i37:=by kernel_rfl
  i46:=by kernel_rfl
  i51:=by kernel_rfl
  i53:=by kernel_rfl
  i75:=by kernel_rfl
  i80:=by kernel_rfl
  i127:=by kernel_rfl
  i143:=by kernel_rfl
  i145:=by kernel_rfl
  i167:=by kernel_rfl
  i168:=by kernel_rfl
  i171:=by kernel_rfl
  i173:=by kernel_rfl
  i210:=by kernel_rfl
  i212:=by kernel_rfl
  i232:=by kernel_rfl
  i233:=by kernel_rfl
  m15:=by kernel_rfl
  m16:=by kernel_rfl
  m17:=by kernel_rfl
  m18:=by kernel_rfl
  m19:=by kernel_rfl
  c0:=by kernel_rfl
  c2:=by kernel_rfl
  c3:=by kernel_rfl
  c4:=by kernel_rfl
  c5:=by kernel_rfl
  c9:=by kernel_rfl
  c20:=by kernel_rfl
  c37:=by kernel_rfl
  c46:=by kernel_rfl
  c51:=by kernel_rfl
  c53:=by kernel_rfl
  c75:=by kernel_rfl
  c80:=by kernel_rfl
  c127:=by kernel_rfl
  c143:=by kernel_rfl
  c145:=by kernel_rfl
  c167:=by kernel_rfl
  c168:=by kernel_rfl
  c171:=by kernel_rfl
  c173:=by kernel_rfl
  c210:=by kernel_rfl
  c212:=by kernel_rfl
  c213:=by kernel_rfl
  c232:=by kernel_rfl
  c233:=by kernel_rfl }
open Go.RowKit in
theorem Tryz.strconv_toError_syntax (fn s:ByteArray) (base bits:Int) (ev:Value) (w:World) (hlim:s.size ≤ 281474976710656) (hv:w.cell? ⟨3,0,none⟩ = some ev) (hev:ev = .nilIface ∨ ∃ te pe,ev = .iface te pe) :
    Calls Tryz.prog 145 #[.string fn,.string s,.int .i64 base,.int .i64 bits,.iface 257 (.int .i64 2)] w fun e w'=>∃ N,e = .returned (.iface 260 (.pointer (some ⟨N,0,none⟩))) ∧ w.heap.size ≤ N ∧ w'.heap[N]? = some (.cells #[.string fn,.string s,ev] 281 (0,0)) ∧ Below w.heap.size w w':=Any.strconv_toError_syntax Tryz.laysC245 fn s base bits ev w hlim hv hev
def Tryz.lays321_ren:Go.Shelf.Ren:=⟨fun | 321=>167 | n=>n,fun | 5=>5 | n=>n,fun | n=>n⟩
theorem Tryz.lays321:Go.Proofs.Lays.n321 Tryz.prog Tryz.lays321_ren:={
  mixed:=by kernel_rfl
  f321:=Tryz.func167.trans (congrArg some (by kernel_rfl))
  t5:=Tryz.underlying5
  a5:=Tryz.isAgg5
  z5:=Tryz.sizeOf5
  v5:=Tryz.zeroValue5 }
open Go.RowKit in
theorem Tryz.internal_strconv_lower (c:Int) (w:World) :
    Calls Tryz.prog 167 #[.int .u8 c] w fun e w'=>e = .returned (.int .u8 (bits .or .u8 c 32)) ∧ w' = w:=Any.internal_strconv_lower Tryz.lays321 c w
def Tryz.laysC172_ren:Go.Shelf.Ren:=⟨fun | 172=>116 | 244=>146 | 245=>145 | 247=>173 | 279=>169 | 280=>170 | 281=>171 | 282=>172 | 287=>144 | 316=>188 | 171=>64 | 205=>189 | 321=>167 | 322=>168 | 243=>84 | 246=>111 | 283=>139 | 284=>140 | 285=>141 | 286=>142 | 129=>162 | 317=>161 | 318=>163 | 319=>164 | 320=>165 | 337=>186 | 338=>150 | n=>n,fun | 9=>9 | 3=>3 | 75=>100 | 76=>101 | 4=>4 | 5=>5 | 167=>257 | 37=>96 | 0=>0 | 85=>263 | 2=>2 | 168=>260 | 53=>68 | 175=>184 | 46=>227 | 210=>281 | 127=>132 | 145=>289 | 143=>287 | 21=>21 | 171=>218 | 173=>221 | 212=>253 | 51=>137 | 20=>20 | 213=>254 | 232=>286 | 233=>266 | 80=>104 | n=>n,fun | 15=>3 | 16=>4 | 17=>1 | 18=>5 | 19=>2 | n=>n⟩
theorem Tryz.laysC172:Go.Proofs.LaysC.n172 Tryz.prog Tryz.laysC172_ren:={
  mixed:=by kernel_rfl
  f129:=Tryz.func162.trans (congrArg some (by kernel_rfl))
  f171:=Tryz.func64.trans (congrArg some (by kernel_rfl))
  f172:=Tryz.func116.trans (congrArg some (by kernel_rfl))
  f205:=Tryz.func189.trans (congrArg some (by kernel_rfl))
  f243:=Tryz.func84.trans (congrArg some (by kernel_rfl))
  f244:=Tryz.func146.trans (congrArg some (by kernel_rfl))
  f245:=Tryz.func145.trans (congrArg some (by kernel_rfl))
  f246:=Tryz.func111.trans (congrArg some (by kernel_rfl))
  f247:=Tryz.func173.trans (congrArg some (by kernel_rfl))
  f279:=Tryz.func169.trans (congrArg some (by kernel_rfl))
  f280:=Tryz.func170.trans (congrArg some (by kernel_rfl))
  f281:=Tryz.func171.trans (congrArg some (by kernel_rfl))
  f282:=Tryz.func172.trans (congrArg some (by kernel_rfl))
  f283:=Tryz.func139.trans (congrArg some (by kernel_rfl))
  f284:=Tryz.func140.trans (congrArg some (by kernel_rfl))
  f285:=Tryz.func141.trans (congrArg some (by kernel_rfl))
  f286:=Tryz.func142.trans (congrArg some (by kernel_rfl))
  f287:=Tryz.func144.trans (congrArg some (by kernel_rfl))
  f316:=Tryz.func188.trans (congrArg some (by kernel_rfl))
  f317:=Tryz.func161.trans (congrArg some (by kernel_rfl))
  f318:=Tryz.func163.trans (congrArg some (by kernel_rfl))
  f319:=Tryz.func164.trans (congrArg some (by kernel_rfl))
  f320:=Tryz.func165.trans (congrArg some (by kernel_rfl))
  f321:=Tryz.func167.trans (congrArg some (by kernel_rfl))
  f322:=Tryz.func168.trans (congrArg some (by kernel_rfl))
  f337:=Tryz.func186.trans (congrArg some (by kernel_rfl))
  f338:=Tryz.func150.trans (congrArg some (by kernel_rfl))
  t0:=Tryz.underlying0
  a0:=Tryz.isAgg0
  z0:=Tryz.sizeOf0
  v0:=Tryz.zeroValue0
  t2:=Tryz.underlying2
  a2:=Tryz.isAgg2
  z2:=Tryz.sizeOf2
  v2:=Tryz.zeroValue2
  t3:=Tryz.underlying3
  a3:=Tryz.isAgg3
  z3:=Tryz.sizeOf3
  v3:=Tryz.zeroValue3
  t4:=Tryz.underlying4
  a4:=Tryz.isAgg4
  z4:=Tryz.sizeOf4
  v4:=Tryz.zeroValue4
  t5:=Tryz.underlying5
  a5:=Tryz.isAgg5
  z5:=Tryz.sizeOf5
  v5:=Tryz.zeroValue5
  t9:=Tryz.underlying9
  a9:=Tryz.isAgg9
  z9:=Tryz.sizeOf9
  v9:=Tryz.zeroValue9
  t20:=Tryz.underlying20
  a20:=Tryz.isAgg20
  z20:=Tryz.sizeOf20
  v20:=Tryz.zeroValue20
  t21:=Tryz.underlying21
  a21:=Tryz.isAgg21
  z21:=Tryz.sizeOf21
  v21:=Tryz.zeroValue21
  t37:=Tryz.underlying96
  a37:=Tryz.isAgg96
  z37:=Tryz.sizeOf96
  v37:=Tryz.zeroValue96
  t46:=Tryz.underlying227
  a46:=Tryz.isAgg227
  z46:=Tryz.sizeOf227
  v46:=Tryz.zeroValue227
  t51:=Tryz.underlying137
  a51:=Tryz.isAgg137
  z51:=Tryz.sizeOf137
  v51:=Tryz.zeroValue137
  t53:=Tryz.underlying68
  a53:=Tryz.isAgg68
  z53:=Tryz.sizeOf68
  v53:=Tryz.zeroValue68
  t75:=Tryz.underlying100
  a75:=Tryz.isAgg100
  z75:=Tryz.sizeOf100
  v75:=Tryz.zeroValue100
  t76:=Tryz.underlying101
  a76:=Tryz.isAgg101
  z76:=Tryz.sizeOf101
  v76:=Tryz.zeroValue101
  t85:=Tryz.underlying263
  a85:=Tryz.isAgg263
  z85:=Tryz.sizeOf263
  v85:=Tryz.zeroValue263
  t127:=Tryz.underlying132
  a127:=Tryz.isAgg132
  z127:=Tryz.sizeOf132
  v127:=Tryz.zeroValue132
  t143:=Tryz.underlying287
  a143:=Tryz.isAgg287
  z143:=Tryz.sizeOf287
  v143:=Tryz.zeroValue287
  t145:=Tryz.underlying289
  a145:=Tryz.isAgg289
  z145:=Tryz.sizeOf289
  v145:=Tryz.zeroValue289
  t167:=Tryz.underlying257
  a167:=Tryz.isAgg257
  z167:=Tryz.sizeOf257
  v167:=Tryz.zeroValue257
  t168:=Tryz.underlying260
  a168:=Tryz.isAgg260
  z168:=Tryz.sizeOf260
  v168:=Tryz.zeroValue260
  t171:=Tryz.underlying218
  a171:=Tryz.isAgg218
  z171:=Tryz.sizeOf218
  v171:=Tryz.zeroValue218
  t173:=Tryz.underlying221
  a173:=Tryz.isAgg221
  z173:=Tryz.sizeOf221
  v173:=Tryz.zeroValue221
  t175:=Tryz.underlying184
  a175:=Tryz.isAgg184
  z175:=Tryz.sizeOf184
  v175:=Tryz.zeroValue184
  t210:=Tryz.underlying281
  a210:=Tryz.isAgg281
  z210:=Tryz.sizeOf281
  v210:=Tryz.zeroValue281
  t212:=Tryz.underlying253
  a212:=Tryz.isAgg253
  z212:=Tryz.sizeOf253
  v212:=Tryz.zeroValue253
  t213:=Tryz.underlying254
  a213:=Tryz.isAgg254
  z213:=Tryz.sizeOf254
  t232:=Tryz.underlying286
  a232:=Tryz.isAgg286
  z232:=Tryz.sizeOf286
  v232:=Tryz.zeroValue286
  t233:=Tryz.underlying266
  a233:=Tryz.isAgg266
  z233:=Tryz.sizeOf266
  v233:=Tryz.zeroValue266
  g15:=by kernel_rfl
  g16:=by kernel_rfl
  g17:=by kernel_rfl
  g18:=by kernel_rfl
  g19:=by kernel_rfl
  t80:=Tryz.underlying104
  a80:=Tryz.isAgg104
  z80:=Tryz.sizeOf104
  v80:=Tryz.zeroValue104
  i0:=by kernel_rfl
  i2:=by kernel_rfl
  i3:=by kernel_rfl
  i4:=by kernel_rfl
  i5:=by kernel_rfl
  i9:=by kernel_rfl
  i20:=by kernel_rfl
  i21:=by kernel_rfl
  i37:=by kernel_rfl
  i46:=by kernel_rfl
  i51:=by kernel_rfl
  i53:=by kernel_rfl
  i75:=by kernel_rfl
  i76:=by kernel_rfl
  i80:=by kernel_rfl
  i85:=by kernel_rfl
  i127:=by kernel_rfl
  i143:=by kernel_rfl
  i145:=by kernel_rfl
  i167:=by kernel_rfl
  i168:=by kernel_rfl
  i171:=by kernel_rfl
  i173:=by kernel_rfl
  i175:=by kernel_rfl
  i210:=by kernel_rfl
  i212:=by kernel_rfl
  i232:=by kernel_rfl
  i233:=by kernel_rfl
  m15:=by kernel_rfl
  m16:=by kernel_rfl
  m17:=by kernel_rfl
  m18:=by kernel_rfl
  m19:=by kernel_rfl
  c0:=by kernel_rfl
  c2:=by kernel_rfl
  c3:=by kernel_rfl
  c4:=by kernel_rfl
  c5:=by kernel_rfl
  c9:=by kernel_rfl
  c20:=by kernel_rfl
  c21:=by kernel_rfl
  c37:=by kernel_rfl
  c46:=by kernel_rfl
  c51:=by kernel_rfl
  c53:=by kernel_rfl
  c75:=by kernel_rfl
  c76:=by kernel_rfl
  c80:=by kernel_rfl
  c85:=by kernel_rfl
  c127:=by kernel_rfl
  c143:=by kernel_rfl
  c145:=by kernel_rfl
  c167:=by kernel_rfl
  c168:=by kernel_rfl
  c171:=by kernel_rfl
  c173:=by kernel_rfl
  c175:=by kernel_rfl
  c210:=by kernel_rfl
  c212:=by kernel_rfl
  c213:=by kernel_rfl
  c232:=by kernel_rfl
  c233:=by kernel_rfl }
open Go.RowKit in
theorem Tryz.strconv_Atoi_ok (s:ByteArray) (hmax:s.size ≤ 9223372036854775806) (v:Int) (h:Lib.atoiAll s.data.toList = .ok v) (w:World) :
    Calls Tryz.prog 116 #[.string s] w fun e w'=>e = .returned (.tuple #[.int .i64 v,.nilIface]) ∧ (w' = w ∨ ∃ t,w' = Lib.bytesWorld w 5 t):=Any.strconv_Atoi_ok Tryz.laysC172 s hmax v h w
open Go.RowKit in
theorem Tryz.strconv_Atoi_syntax (s:ByteArray) (hlim:s.size ≤ 281474976710656) (h:Lib.atoiAll s.data.toList = .syntax) (ev:Value) (w:World) (hv:w.cell? ⟨3,0,none⟩ = some ev) (hev:ev = .nilIface ∨ ∃ te pe,ev = .iface te pe) :
    Calls Tryz.prog 116 #[.string s] w fun e w'=>∃ N,e = .returned (.tuple #[.int .i64 (0),.iface 260 (.pointer (some ⟨N,0,none⟩))]) ∧ w.heap.size ≤ N ∧ w'.heap[N]? = some (.cells #[.string ⟨#[65,116,111,105]⟩,.string s,ev] 281 (0,0)) ∧ Below w.heap.size w w':=Any.strconv_Atoi_syntax Tryz.laysC172 s hlim h ev w hv hev
open Go.RowKit in
theorem Tryz.strconv_Atoi_range (s:ByteArray) (hlim:s.size ≤ 281474976710656) (h:Lib.atoiAll s.data.toList = .range) (ev:Value) (w:World) (hv:w.cell? ⟨4,0,none⟩ = some ev) (hev:ev = .nilIface ∨ ∃ te pe,ev = .iface te pe) :
    Calls Tryz.prog 116 #[.string s] w fun e w'=>∃ N,e = .returned (.tuple #[.int .i64 (Lib.atoiSat s.data.toList),.iface 260 (.pointer (some ⟨N,0,none⟩))]) ∧ w.heap.size ≤ N ∧ w'.heap[N]? = some (.cells #[.string ⟨#[65,116,111,105]⟩,.string s,ev] 281 (0,0)) ∧ Below w.heap.size w w':=Any.strconv_Atoi_range Tryz.laysC172 s hlim h ev w hv hev
def Tryz.lays219_ren:Go.Shelf.Ren:=⟨fun | 219=>187 | 217=>81 | 225=>197 | 224=>198 | 267=>199 | 266=>107 | 314=>200 | n=>n,fun | 9=>9 | 3=>3 | 4=>4 | 5=>5 | 46=>227 | 146=>290 | 51=>137 | n=>n,fun | 1=>0 | n=>n⟩
theorem Tryz.lays219:Go.Proofs.Lays.n219 Tryz.prog Tryz.lays219_ren:={
  mixed:=by kernel_rfl
  f217:=Tryz.func81.trans (congrArg some (by kernel_rfl))
  f219:=Tryz.func187.trans (congrArg some (by kernel_rfl))
  f224:=Tryz.func198.trans (congrArg some (by kernel_rfl))
  f225:=Tryz.func197.trans (congrArg some (by kernel_rfl))
  f266:=Tryz.func107.trans (congrArg some (by kernel_rfl))
  f267:=Tryz.func199.trans (congrArg some (by kernel_rfl))
  f314:=Tryz.func200.trans (congrArg some (by kernel_rfl))
  t3:=Tryz.underlying3
  a3:=Tryz.isAgg3
  z3:=Tryz.sizeOf3
  v3:=Tryz.zeroValue3
  t4:=Tryz.underlying4
  a4:=Tryz.isAgg4
  z4:=Tryz.sizeOf4
  v4:=Tryz.zeroValue4
  t5:=Tryz.underlying5
  a5:=Tryz.isAgg5
  z5:=Tryz.sizeOf5
  v5:=Tryz.zeroValue5
  t9:=Tryz.underlying9
  a9:=Tryz.isAgg9
  z9:=Tryz.sizeOf9
  v9:=Tryz.zeroValue9
  t46:=Tryz.underlying227
  a46:=Tryz.isAgg227
  z46:=Tryz.sizeOf227
  v46:=Tryz.zeroValue227
  t51:=Tryz.underlying137
  a51:=Tryz.isAgg137
  z51:=Tryz.sizeOf137
  v51:=Tryz.zeroValue137
  t146:=Tryz.underlying290
  a146:=Tryz.isAgg290
  z146:=Tryz.sizeOf290
  v146:=Tryz.zeroValue290
  g1:=by kernel_rfl }
open Go.RowKit Go.Lib in
theorem Tryz.stringslite_Index_one (s:ByteArray) (c:UInt8) (w:World) :
    Calls Tryz.prog 187 #[.string s,.string ⟨#[c]⟩] w fun e w'=>e = .returned (.int .i64 (Lib.indexByte s.data.toList c)) ∧ w' = w:=Any.stringslite_Index_one Tryz.lays219 s c w
def Tryz.lays107_ren:Go.Shelf.Ren:=⟨fun | 107=>152 | 108=>175 | n=>n,fun | 28=>41 | 3=>3 | 4=>4 | 0=>0 | n=>n,fun | n=>n⟩
theorem Tryz.lays107:Go.Proofs.Lays.n107 Tryz.prog Tryz.lays107_ren:={
  mixed:=by kernel_rfl
  f107:=Tryz.func152.trans (congrArg some (by kernel_rfl))
  f108:=Tryz.func175.trans (congrArg some (by kernel_rfl))
  t0:=Tryz.underlying0
  a0:=Tryz.isAgg0
  z0:=Tryz.sizeOf0
  v0:=Tryz.zeroValue0
  t3:=Tryz.underlying3
  a3:=Tryz.isAgg3
  z3:=Tryz.sizeOf3
  v3:=Tryz.zeroValue3
  t4:=Tryz.underlying4
  a4:=Tryz.isAgg4
  z4:=Tryz.sizeOf4
  v4:=Tryz.zeroValue4
  t28:=Tryz.underlying41
  a28:=Tryz.isAgg41
  z28:=Tryz.sizeOf41
  v28:=Tryz.zeroValue41 }
open Go.Lib in
theorem Tryz.slices_Contains_int (b off n c:Nat) (zs:List Int) (x:Int) (w:World) (hz:n ≤ zs.length) (hbig:n ≤ 9223372036854775807) (hc:∀ j,j < zs.length → w.cell? ⟨b,off + j,none⟩ = some (.int .i64 (zs.getD j 0))) :
    Calls Tryz.prog 152 #[.slice (some ⟨b,off,none⟩) n c,.int .i64 x] w fun e w'=>e = .returned (.bool ((zs.take n).contains x)) ∧ w' = w:=Any.slices_Contains_int Tryz.lays107 b off n c zs x w hz hbig hc
end Go.Proofs
