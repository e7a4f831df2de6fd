import Derived.Shelf.Strings.Trim
import Derived.Shelf.Small.Utf8
import Derived.Shelf.Small.Bits
import Derived.Shelf.Small.Strs
import Derived.Shelf.Strconv.Itoa0
import Derived.Shelf.Strings.Search1
import Derived.Shelf.Strings.Search2
import Derived.Shelf.Strings.Cut
import Derived.Shelf.LaysM
import Derived.Shelf.Strings.Shaped
import Derived.Shelf.Strings.Runes
import Derived.Shelf.Strings.AsciiSet
import Derived.Shelf.Unicode.DecodeSlow
import Derived.Shelf.Unicode.DecodeAny
import Derived.Shelf.Slices.Turned
import Derived.Ground.Names2Prog
import Derived.Shelf.Slices.Clone
import Derived.Ground.SlgnProg
import Derived.Shelf.SlicesE.Clone
import Derived.Ground.SlgfProg
import Derived.Shelf.SlicesE.IndexFunc
import Derived.Ground.SlgmProg
import Derived.Shelf.SortM.Plain
import Derived.Shelf.SortM.SortNone
import Derived.Test.YtkoaogkknnelaaaGreatDoorProg
namespace Go.Proofs
open Go.Shelf
def Tryz.lays161_ren:Go.Shelf.Ren:=⟨fun|161=>208|231=>242|227=>243|233=>244|235=>245|228=>270|197=>271|151=>272|260=>288|152=>289|137=>301|119=>302|224=>286|225=>285|217=>284|266=>299|n=>n,fun|9=>9|4=>4|3=>3|5=>5|117=>264|116=>263|0=>0|124=>267|105=>280|21=>21|119=>292|46=>184|139=>295|138=>294|n=>n,fun|3=>1|4=>2|n=>n⟩
theorem Tryz.lays161:Go.Proofs.Lays.n161 Tryz.prog Tryz.lays161_ren:={
 mixed:=by kernel_rfl
 f119:=Tryz.func302.trans (congrArg some (by kernel_rfl))
 f137:=Tryz.func301.trans (congrArg some (by kernel_rfl))
 f151:=Tryz.func272.trans (congrArg some (by kernel_rfl))
 f152:=Tryz.func289.trans (congrArg some (by kernel_rfl))
 f161:=Tryz.func208.trans (congrArg some (by kernel_rfl))
 f197:=Tryz.func271.trans (congrArg some (by kernel_rfl))
 f217:=Tryz.func284.trans (congrArg some (by kernel_rfl))
 f224:=Tryz.func286.trans (congrArg some (by kernel_rfl))
 f225:=Tryz.func285.trans (congrArg some (by kernel_rfl))
 f227:=Tryz.func243.trans (congrArg some (by kernel_rfl))
 f228:=Tryz.func270.trans (congrArg some (by kernel_rfl))
 f231:=Tryz.func242.trans (congrArg some (by kernel_rfl))
 f233:=Tryz.func244.trans (congrArg some (by kernel_rfl))
 f235:=Tryz.func245.trans (congrArg some (by kernel_rfl))
 f260:=Tryz.func288.trans (congrArg some (by kernel_rfl))
 f266:=Tryz.func299.trans (congrArg some (by kernel_rfl))
 t0:=Tryz.underlying0
 a0:=Tryz.isAgg0
 z0:=Tryz.sizeOf0
 v0:=Tryz.zeroValue0
 t3:=Tryz.underlying3
 a3:=Tryz.isAgg3
 z3:=Tryz.sizeOf3
 v3:=Tryz.zeroValue3
 t4:=Tryz.underlying4
 a4:=Tryz.isAgg4
 z4:=Tryz.sizeOf4
 v4:=Tryz.zeroValue4
 t5:=Tryz.underlying5
 a5:=Tryz.isAgg5
 z5:=Tryz.sizeOf5
 v5:=Tryz.zeroValue5
 t9:=Tryz.underlying9
 a9:=Tryz.isAgg9
 z9:=Tryz.sizeOf9
 v9:=Tryz.zeroValue9
 t21:=Tryz.underlying21
 a21:=Tryz.isAgg21
 z21:=Tryz.sizeOf21
 v21:=Tryz.zeroValue21
 t46:=Tryz.underlying184
 a46:=Tryz.isAgg184
 z46:=Tryz.sizeOf184
 v46:=Tryz.zeroValue184
 t105:=Tryz.underlying280
 a105:=Tryz.isAgg280
 z105:=Tryz.sizeOf280
 v105:=Tryz.zeroValue280
 t116:=Tryz.underlying263
 a116:=Tryz.isAgg263
 z116:=Tryz.sizeOf263
 t117:=Tryz.underlying264
 a117:=Tryz.isAgg264
 z117:=Tryz.sizeOf264
 v117:=Tryz.zeroValue264
 t119:=Tryz.underlying292
 a119:=Tryz.isAgg292
 z119:=Tryz.sizeOf292
 t124:=Tryz.underlying267
 a124:=Tryz.isAgg267
 z124:=Tryz.sizeOf267
 v124:=Tryz.zeroValue267
 t138:=Tryz.underlying294
 a138:=Tryz.isAgg294
 z138:=Tryz.sizeOf294
 v138:=Tryz.zeroValue294
 t139:=Tryz.underlying295
 a139:=Tryz.isAgg295
 z139:=Tryz.sizeOf295
 v139:=Tryz.zeroValue295
 g3:=by kernel_rfl
 g4:=by kernel_rfl }
open Go.RowKit in
theorem Tryz.strings_TrimLeft_one (s:ByteArray) (c:UInt8) (hc:c.toNat<128) (w:World):
  Calls Tryz.prog 208 #[.string s,.string ⟨#[c]⟩] w fun e w'=>e= .returned (.string ⟨(Lib.trimLeftB s.data.toList c).toArray⟩)∧w'=w:=Any.strings_TrimLeft_one Tryz.lays161 s c hc w
def Tryz.lays160_ren:Go.Shelf.Ren:=⟨fun|160=>210|232=>247|231=>242|227=>243|234=>248|233=>244|236=>249|235=>245|228=>270|271=>273|151=>272|197=>271|120=>290|152=>289|260=>288|137=>301|119=>302|224=>286|225=>285|217=>284|266=>299|n=>n,fun|9=>9|4=>4|3=>3|5=>5|117=>264|116=>263|0=>0|124=>267|21=>21|105=>280|46=>184|119=>292|139=>295|138=>294|n=>n,fun|3=>1|4=>2|n=>n⟩
theorem Tryz.lays160:Go.Proofs.Lays.n160 Tryz.prog Tryz.lays160_ren:={
 mixed:=by kernel_rfl
 f119:=Tryz.func302.trans (congrArg some (by kernel_rfl))
 f120:=Tryz.func290.trans (congrArg some (by kernel_rfl))
 f137:=Tryz.func301.trans (congrArg some (by kernel_rfl))
 f151:=Tryz.func272.trans (congrArg some (by kernel_rfl))
 f152:=Tryz.func289.trans (congrArg some (by kernel_rfl))
 f160:=Tryz.func210.trans (congrArg some (by kernel_rfl))
 f197:=Tryz.func271.trans (congrArg some (by kernel_rfl))
 f217:=Tryz.func284.trans (congrArg some (by kernel_rfl))
 f224:=Tryz.func286.trans (congrArg some (by kernel_rfl))
 f225:=Tryz.func285.trans (congrArg some (by kernel_rfl))
 f227:=Tryz.func243.trans (congrArg some (by kernel_rfl))
 f228:=Tryz.func270.trans (congrArg some (by kernel_rfl))
 f231:=Tryz.func242.trans (congrArg some (by kernel_rfl))
 f232:=Tryz.func247.trans (congrArg some (by kernel_rfl))
 f233:=Tryz.func244.trans (congrArg some (by kernel_rfl))
 f234:=Tryz.func248.trans (congrArg some (by kernel_rfl))
 f235:=Tryz.func245.trans (congrArg some (by kernel_rfl))
 f236:=Tryz.func249.trans (congrArg some (by kernel_rfl))
 f260:=Tryz.func288.trans (congrArg some (by kernel_rfl))
 f266:=Tryz.func299.trans (congrArg some (by kernel_rfl))
 f271:=Tryz.func273.trans (congrArg some (by kernel_rfl))
 t0:=Tryz.underlying0
 a0:=Tryz.isAgg0
 z0:=Tryz.sizeOf0
 v0:=Tryz.zeroValue0
 t3:=Tryz.underlying3
 a3:=Tryz.isAgg3
 z3:=Tryz.sizeOf3
 v3:=Tryz.zeroValue3
 t4:=Tryz.underlying4
 a4:=Tryz.isAgg4
 z4:=Tryz.sizeOf4
 v4:=Tryz.zeroValue4
 t5:=Tryz.underlying5
 a5:=Tryz.isAgg5
 z5:=Tryz.sizeOf5
 v5:=Tryz.zeroValue5
 t9:=Tryz.underlying9
 a9:=Tryz.isAgg9
 z9:=Tryz.sizeOf9
 v9:=Tryz.zeroValue9
 t21:=Tryz.underlying21
 a21:=Tryz.isAgg21
 z21:=Tryz.sizeOf21
 v21:=Tryz.zeroValue21
 t46:=Tryz.underlying184
 a46:=Tryz.isAgg184
 z46:=Tryz.sizeOf184
 v46:=Tryz.zeroValue184
 t105:=Tryz.underlying280
 a105:=Tryz.isAgg280
 z105:=Tryz.sizeOf280
 v105:=Tryz.zeroValue280
 t116:=Tryz.underlying263
 a116:=Tryz.isAgg263
 z116:=Tryz.sizeOf263
 t117:=Tryz.underlying264
 a117:=Tryz.isAgg264
 z117:=Tryz.sizeOf264
 v117:=Tryz.zeroValue264
 t119:=Tryz.underlying292
 a119:=Tryz.isAgg292
 z119:=Tryz.sizeOf292
 t124:=Tryz.underlying267
 a124:=Tryz.isAgg267
 z124:=Tryz.sizeOf267
 v124:=Tryz.zeroValue267
 t138:=Tryz.underlying294
 a138:=Tryz.isAgg294
 z138:=Tryz.sizeOf294
 v138:=Tryz.zeroValue294
 t139:=Tryz.underlying295
 a139:=Tryz.isAgg295
 z139:=Tryz.sizeOf295
 v139:=Tryz.zeroValue295
 g3:=by kernel_rfl
 g4:=by kernel_rfl }
def Tryz.lays128_ren:Go.Shelf.Ren:=⟨fun|128=>178|n=>n,fun|51=>183|3=>3|4=>4|46=>184|5=>5|9=>9|n=>n,fun|n=>n⟩
theorem Tryz.lays128:Go.Proofs.Lays.n128 Tryz.prog Tryz.lays128_ren:={
 mixed:=by kernel_rfl
 f128:=Tryz.func178.trans (congrArg some (by kernel_rfl))
 t3:=Tryz.underlying3
 a3:=Tryz.isAgg3
 z3:=Tryz.sizeOf3
 v3:=Tryz.zeroValue3
 t4:=Tryz.underlying4
 a4:=Tryz.isAgg4
 z4:=Tryz.sizeOf4
 v4:=Tryz.zeroValue4
 t5:=Tryz.underlying5
 a5:=Tryz.isAgg5
 z5:=Tryz.sizeOf5
 v5:=Tryz.zeroValue5
 t9:=Tryz.underlying9
 a9:=Tryz.isAgg9
 z9:=Tryz.sizeOf9
 v9:=Tryz.zeroValue9
 t46:=Tryz.underlying184
 a46:=Tryz.isAgg184
 z46:=Tryz.sizeOf184
 v46:=Tryz.zeroValue184
 t51:=Tryz.underlying183
 a51:=Tryz.isAgg183
 z51:=Tryz.sizeOf183
 v51:=Tryz.zeroValue183 }
theorem Tryz.bits_Len32 (x:Int) (w:World) (h0:0≤x) (h1:x≤4294967295):
  Calls Tryz.prog 178 #[.int .u32 x] w fun e w'=>e= .returned (.int .i64 (Lib.bitLen x.toNat))∧w'=w:=Any.bits_Len32 Tryz.lays128 x w h0 h1
def Tryz.lays133_ren:Go.Shelf.Ren:=⟨fun|133=>292|128=>178|n=>n,fun|51=>183|3=>3|4=>4|46=>184|5=>5|9=>9|n=>n,fun|n=>n⟩
theorem Tryz.lays133:Go.Proofs.Lays.n133 Tryz.prog Tryz.lays133_ren:={
 mixed:=by kernel_rfl
 f128:=Tryz.func178.trans (congrArg some (by kernel_rfl))
 f133:=Tryz.func292.trans (congrArg some (by kernel_rfl))
 t3:=Tryz.underlying3
 a3:=Tryz.isAgg3
 z3:=Tryz.sizeOf3
 v3:=Tryz.zeroValue3
 t4:=Tryz.underlying4
 a4:=Tryz.isAgg4
 z4:=Tryz.sizeOf4
 v4:=Tryz.zeroValue4
 t5:=Tryz.underlying5
 a5:=Tryz.isAgg5
 z5:=Tryz.sizeOf5
 v5:=Tryz.zeroValue5
 t9:=Tryz.underlying9
 a9:=Tryz.isAgg9
 z9:=Tryz.sizeOf9
 v9:=Tryz.zeroValue9
 t46:=Tryz.underlying184
 a46:=Tryz.isAgg184
 z46:=Tryz.sizeOf184
 v46:=Tryz.zeroValue184
 t51:=Tryz.underlying183
 a51:=Tryz.isAgg183
 z51:=Tryz.sizeOf183
 v51:=Tryz.zeroValue183 }
theorem Tryz.bits_LeadingZeros32 (x:Int) (w:World) (h0:0≤x) (h1:x≤4294967295):
  Calls Tryz.prog 292 #[.int .u32 x] w fun e w'=>e= .returned (.int .i64 (32-(Lib.bitLen x.toNat:Int)))∧w'=w:=Any.bits_LeadingZeros32 Tryz.lays133 x w h0 h1
def Tryz.laysM145_ren:Go.Shelf.Ren:=⟨fun|145=>207|220=>241|219=>269|217=>284|225=>285|224=>286|267=>287|266=>299|314=>300|n=>n,fun|9=>9|4=>4|59=>219|3=>3|5=>5|46=>184|146=>290|51=>183|n=>n,fun|1=>0|n=>n⟩
theorem Tryz.laysM145:Go.Proofs.LaysM.n145 Tryz.prog Tryz.laysM145_ren:={
 mixed:=by kernel_rfl
 f145:=Tryz.func207.trans (congrArg some (by kernel_rfl))
 f217:=Tryz.func284.trans (congrArg some (by kernel_rfl))
 f219:=Tryz.func269.trans (congrArg some (by kernel_rfl))
 f220:=Tryz.func241.trans (congrArg some (by kernel_rfl))
 f224:=Tryz.func286.trans (congrArg some (by kernel_rfl))
 f225:=Tryz.func285.trans (congrArg some (by kernel_rfl))
 f266:=Tryz.func299.trans (congrArg some (by kernel_rfl))
 f267:=Tryz.func287.trans (congrArg some (by kernel_rfl))
 f314:=Tryz.func300.trans (congrArg some (by kernel_rfl))
 t3:=Tryz.underlying3
 a3:=Tryz.isAgg3
 z3:=Tryz.sizeOf3
 v3:=Tryz.zeroValue3
 t4:=Tryz.underlying4
 a4:=Tryz.isAgg4
 z4:=Tryz.sizeOf4
 v4:=Tryz.zeroValue4
 t5:=Tryz.underlying5
 a5:=Tryz.isAgg5
 z5:=Tryz.sizeOf5
 v5:=Tryz.zeroValue5
 t9:=Tryz.underlying9
 a9:=Tryz.isAgg9
 z9:=Tryz.sizeOf9
 v9:=Tryz.zeroValue9
 t46:=Tryz.underlying184
 a46:=Tryz.isAgg184
 z46:=Tryz.sizeOf184
 v46:=Tryz.zeroValue184
 t51:=Tryz.underlying183
 a51:=Tryz.isAgg183
 z51:=Tryz.sizeOf183
 v51:=Tryz.zeroValue183
 t59:=Tryz.underlying219
 a59:=Tryz.isAgg219
 z59:=Tryz.sizeOf219
 v59:=Tryz.zeroValue219
 t146:=Tryz.underlying290
 a146:=Tryz.isAgg290
 z146:=Tryz.sizeOf290
 v146:=Tryz.zeroValue290
 g1:=by kernel_rfl
 i3:=by kernel_rfl
 i4:=by kernel_rfl
 i5:=by kernel_rfl
 i9:=by kernel_rfl
 i46:=by kernel_rfl
 i51:=by kernel_rfl
 i59:=by kernel_rfl
 i146:=by kernel_rfl
 m1:=by kernel_rfl
 s1_3:=fun w h=>Go.Proofs.cell_of_shapedOpen_int (zero:= #[.int .i64 0]) (t:=3) h (of_decide_eq_true (by kernel_rfl)) (by kernel_rfl) rfl (by kernel_rfl) (by kernel_rfl) Tryz.underlying3 }
end Go.Proofs
