/-
  Contracts of the code that the law reaches, and plain laws. Conditions: as each says.
-/
import Derived.Shelf.Strings.Builder1
import Derived.Shelf.Strings.Builder2
import Derived.Shelf.Small.Strs
import Derived.Shelf.Strings.BuilderF
import Derived.Shelf.Strings.BuilderK
import Derived.Shelf.Strings.Search1
import Derived.Shelf.Strings.Search2
import Derived.Shelf.Strings.Search3
import Derived.Shelf.Strings.Cut
import Derived.Shelf.Strings.Count
import Derived.Shelf.LaysM
import Derived.Shelf.Strings.Shaped
import Derived.Shelf.Sort.Plain
import Derived.Shelf.Strings.Split
import Derived.Shelf.Strings.Replace
import Derived.Shelf.Strings.SplitShaped
import Derived.Shelf.Slices.In.SortNone
import Derived.Test.YtadamccojdocbaaGreatDoorProg
set_option linter.all false
set_option maxHeartbeats 40000000
set_option maxRecDepth 100000
section
namespace Go.Proofs
open Go.Shelf
def Tryz.lays137_ren:Go.Shelf.Ren:=⟨fun|137=>183|217=>224|266=>257|n=>n,fun|9=>9|5=>5|3=>3|n=>n,fun|n=>n⟩
theorem Tryz.lays137:Go.Proofs.Lays.n137 Tryz.prog Tryz.lays137_ren:={
 mixed:=by kernel_rfl
 f137:=Tryz.func183.trans (congrArg some (by kernel_rfl))
 f217:=Tryz.func224.trans (congrArg some (by kernel_rfl))
 f266:=Tryz.func257.trans (congrArg some (by kernel_rfl))
 t3:=Tryz.underlying3
 a3:=Tryz.isAgg3
 z3:=Tryz.sizeOf3
 v3:=Tryz.zeroValue3
 t5:=Tryz.underlying5
 a5:=Tryz.isAgg5
 z5:=Tryz.sizeOf5
 v5:=Tryz.zeroValue5
 t9:=Tryz.underlying9
 a9:=Tryz.isAgg9
 z9:=Tryz.sizeOf9
 v9:=Tryz.zeroValue9 }
open Go.RowKit in
theorem Tryz.strings_IndexByte (s:ByteArray) (c:Int) (w:World):
  Calls Tryz.prog 183 #[.string s,.int .u8 c] w fun e w'=>e= .returned (.int .i64 (Lib.indexByte s.data.toList c.toNat.toUInt8))/\w'=w:=Any.strings_IndexByte Tryz.lays137 s c w
def Tryz.lays219_ren:Go.Shelf.Ren:=⟨fun|219=>204|217=>224|225=>231|224=>232|267=>233|266=>257|314=>260|n=>n,fun|9=>9|3=>3|4=>4|5=>5|46=>163|146=>260|51=>60|n=>n,fun|1=>0|n=>n⟩
def Tryz.lays144_ren:Go.Shelf.Ren:=⟨fun|144=>92|143=>148|219=>204|217=>224|225=>231|224=>232|267=>233|266=>257|314=>260|n=>n,fun|9=>9|4=>4|3=>3|5=>5|46=>163|146=>260|51=>60|n=>n,fun|1=>0|n=>n⟩
theorem Tryz.lays144:Go.Proofs.Lays.n144 Tryz.prog Tryz.lays144_ren:={
 mixed:=by kernel_rfl
 f143:=Tryz.func148.trans (congrArg some (by kernel_rfl))
 f144:=Tryz.func92.trans (congrArg some (by kernel_rfl))
 f217:=Tryz.func224.trans (congrArg some (by kernel_rfl))
 f219:=Tryz.func204.trans (congrArg some (by kernel_rfl))
 f224:=Tryz.func232.trans (congrArg some (by kernel_rfl))
 f225:=Tryz.func231.trans (congrArg some (by kernel_rfl))
 f266:=Tryz.func257.trans (congrArg some (by kernel_rfl))
 f267:=Tryz.func233.trans (congrArg some (by kernel_rfl))
 f314:=Tryz.func260.trans (congrArg some (by kernel_rfl))
 t3:=Tryz.underlying3
 a3:=Tryz.isAgg3
 z3:=Tryz.sizeOf3
 v3:=Tryz.zeroValue3
 t4:=Tryz.underlying4
 a4:=Tryz.isAgg4
 z4:=Tryz.sizeOf4
 v4:=Tryz.zeroValue4
 t5:=Tryz.underlying5
 a5:=Tryz.isAgg5
 z5:=Tryz.sizeOf5
 v5:=Tryz.zeroValue5
 t9:=Tryz.underlying9
 a9:=Tryz.isAgg9
 z9:=Tryz.sizeOf9
 v9:=Tryz.zeroValue9
 t46:=Tryz.underlying163
 a46:=Tryz.isAgg163
 z46:=Tryz.sizeOf163
 v46:=Tryz.zeroValue163
 t51:=Tryz.underlying60
 a51:=Tryz.isAgg60
 z51:=Tryz.sizeOf60
 v51:=Tryz.zeroValue60
 t146:=Tryz.underlying260
 a146:=Tryz.isAgg260
 z146:=Tryz.sizeOf260
 v146:=Tryz.zeroValue260
 g1:=by kernel_rfl }
open Go.RowKit Go.Lib in
theorem Tryz.strings_Contains (s sub:ByteArray) (m:Int) (w:World) (hs:s.size<4294967281) (hm:w.cell? ⟨0,0,none⟩=some (.int .i64 m)):
  Calls Tryz.prog 92 #[.string s,.string sub] w fun e w'=>e= .returned (.bool (Lib.contains s.data.toList sub.data.toList))/\w'=w:=Any.strings_Contains Tryz.lays144 s sub m w hs hm
def Tryz.lays145_ren:Go.Shelf.Ren:=⟨fun|145=>95|220=>155|219=>204|217=>224|225=>231|224=>232|267=>233|266=>257|314=>260|n=>n,fun|9=>9|4=>4|59=>138|3=>3|5=>5|46=>163|146=>260|51=>60|n=>n,fun|1=>0|n=>n⟩
theorem Tryz.lays145:Go.Proofs.Lays.n145 Tryz.prog Tryz.lays145_ren:={
 mixed:=by kernel_rfl
 f145:=Tryz.func95.trans (congrArg some (by kernel_rfl))
 f217:=Tryz.func224.trans (congrArg some (by kernel_rfl))
 f219:=Tryz.func204.trans (congrArg some (by kernel_rfl))
 f220:=Tryz.func155.trans (congrArg some (by kernel_rfl))
 f224:=Tryz.func232.trans (congrArg some (by kernel_rfl))
 f225:=Tryz.func231.trans (congrArg some (by kernel_rfl))
 f266:=Tryz.func257.trans (congrArg some (by kernel_rfl))
 f267:=Tryz.func233.trans (congrArg some (by kernel_rfl))
 f314:=Tryz.func260.trans (congrArg some (by kernel_rfl))
 t3:=Tryz.underlying3
 a3:=Tryz.isAgg3
 z3:=Tryz.sizeOf3
 v3:=Tryz.zeroValue3
 t4:=Tryz.underlying4
 a4:=Tryz.isAgg4
 z4:=Tryz.sizeOf4
 v4:=Tryz.zeroValue4
 t5:=Tryz.underlying5
 a5:=Tryz.isAgg5
 z5:=Tryz.sizeOf5
 v5:=Tryz.zeroValue5
 t9:=Tryz.underlying9
 a9:=Tryz.isAgg9
 z9:=Tryz.sizeOf9
 v9:=Tryz.zeroValue9
 t46:=Tryz.underlying163
 a46:=Tryz.isAgg163
 z46:=Tryz.sizeOf163
 v46:=Tryz.zeroValue163
 t51:=Tryz.underlying60
 a51:=Tryz.isAgg60
 z51:=Tryz.sizeOf60
 v51:=Tryz.zeroValue60
 t59:=Tryz.underlying138
 a59:=Tryz.isAgg138
 z59:=Tryz.sizeOf138
 v59:=Tryz.zeroValue138
 t146:=Tryz.underlying260
 a146:=Tryz.isAgg260
 z146:=Tryz.sizeOf260
 v146:=Tryz.zeroValue260
 g1:=by kernel_rfl }
open Go.RowKit Go.Lib in
theorem Tryz.strings_Cut (s sep:ByteArray) (m:Int) (w:World) (hs:s.size<4294967281) (hm:w.cell? ⟨0,0,none⟩=some (.int .i64 m)):
  Calls Tryz.prog 95 #[.string s,.string sep] w fun e w'=>e= .returned (.tuple #[.string ⟨(Lib.cut s.data.toList sep.data.toList).1.toArray⟩,.string ⟨(Lib.cut s.data.toList sep.data.toList).2.1.toArray⟩,.bool (Lib.cut s.data.toList sep.data.toList).2.2])/\∃ n,w'=w.drewN n:=Any.strings_Cut Tryz.lays145 s sep m w hs hm
def Tryz.lays221_ren:Go.Shelf.Ren:=⟨fun|221=>181|268=>223|138=>149|143=>148|195=>205|197=>152|218=>206|219=>204|260=>209|217=>224|225=>231|224=>232|267=>233|266=>257|314=>260|n=>n,fun|9=>9|3=>3|31=>164|4=>4|0=>0|105=>194|21=>21|5=>5|46=>163|119=>240|139=>243|138=>242|146=>260|51=>60|n=>n,fun|1=>0|3=>1|4=>2|n=>n⟩
def Tryz.lays146_ren:Go.Shelf.Ren:=⟨fun|146=>128|221=>181|268=>223|138=>149|143=>148|195=>205|197=>152|218=>206|219=>204|260=>209|217=>224|225=>231|224=>232|267=>233|266=>257|314=>260|n=>n,fun|9=>9|31=>164|3=>3|4=>4|0=>0|105=>194|21=>21|5=>5|46=>163|119=>240|139=>243|138=>242|146=>260|51=>60|n=>n,fun|1=>0|3=>1|4=>2|n=>n⟩
theorem Tryz.lays146:Go.Proofs.Lays.n146 Tryz.prog Tryz.lays146_ren:={
 mixed:=by kernel_rfl
 f138:=Tryz.func149.trans (congrArg some (by kernel_rfl))
 f143:=Tryz.func148.trans (congrArg some (by kernel_rfl))
 f146:=Tryz.func128.trans (congrArg some (by kernel_rfl))
 f195:=Tryz.func205.trans (congrArg some (by kernel_rfl))
 f197:=Tryz.func152.trans (congrArg some (by kernel_rfl))
 f217:=Tryz.func224.trans (congrArg some (by kernel_rfl))
 f218:=Tryz.func206.trans (congrArg some (by kernel_rfl))
 f219:=Tryz.func204.trans (congrArg some (by kernel_rfl))
 f221:=Tryz.func181.trans (congrArg some (by kernel_rfl))
 f224:=Tryz.func232.trans (congrArg some (by kernel_rfl))
 f225:=Tryz.func231.trans (congrArg some (by kernel_rfl))
 f260:=Tryz.func209.trans (congrArg some (by kernel_rfl))
 f266:=Tryz.func257.trans (congrArg some (by kernel_rfl))
 f267:=Tryz.func233.trans (congrArg some (by kernel_rfl))
 f268:=Tryz.func223.trans (congrArg some (by kernel_rfl))
 f314:=Tryz.func260.trans (congrArg some (by kernel_rfl))
 t0:=Tryz.underlying0
 a0:=Tryz.isAgg0
 z0:=Tryz.sizeOf0
 v0:=Tryz.zeroValue0
 t3:=Tryz.underlying3
 a3:=Tryz.isAgg3
 z3:=Tryz.sizeOf3
 v3:=Tryz.zeroValue3
 t4:=Tryz.underlying4
 a4:=Tryz.isAgg4
 z4:=Tryz.sizeOf4
 v4:=Tryz.zeroValue4
 t5:=Tryz.underlying5
 a5:=Tryz.isAgg5
 z5:=Tryz.sizeOf5
 v5:=Tryz.zeroValue5
 t9:=Tryz.underlying9
 a9:=Tryz.isAgg9
 z9:=Tryz.sizeOf9
 v9:=Tryz.zeroValue9
 t21:=Tryz.underlying21
 a21:=Tryz.isAgg21
 z21:=Tryz.sizeOf21
 v21:=Tryz.zeroValue21
 t31:=Tryz.underlying164
 a31:=Tryz.isAgg164
 z31:=Tryz.sizeOf164
 v31:=Tryz.zeroValue164
 t46:=Tryz.underlying163
 a46:=Tryz.isAgg163
 z46:=Tryz.sizeOf163
 v46:=Tryz.zeroValue163
 t51:=Tryz.underlying60
 a51:=Tryz.isAgg60
 z51:=Tryz.sizeOf60
 v51:=Tryz.zeroValue60
 t105:=Tryz.underlying194
 a105:=Tryz.isAgg194
 z105:=Tryz.sizeOf194
 v105:=Tryz.zeroValue194
 t119:=Tryz.underlying240
 a119:=Tryz.isAgg240
 z119:=Tryz.sizeOf240
 t138:=Tryz.underlying242
 a138:=Tryz.isAgg242
 z138:=Tryz.sizeOf242
 v138:=Tryz.zeroValue242
 t139:=Tryz.underlying243
 a139:=Tryz.isAgg243
 z139:=Tryz.sizeOf243
 v139:=Tryz.zeroValue243
 t146:=Tryz.underlying260
 a146:=Tryz.isAgg260
 z146:=Tryz.sizeOf260
 v146:=Tryz.zeroValue260
 g1:=by kernel_rfl
 g3:=by kernel_rfl
 g4:=by kernel_rfl }
open Go.RowKit Go.Lib in
theorem Tryz.strings_Split (s sep:ByteArray) (m:Int) (w:World) (hs:s.size<4294967281) (hm:w.cell? ⟨0,0,none⟩=some (.int .i64 m)) (h1:1<=sep.size):
  Calls Tryz.prog 128 #[.string s,.string sep] w fun e w'=>
   e= .returned (.slice (some ⟨w.heap.size,0,none⟩) (Lib.countB s sep+1) (Lib.countB s sep+1))/\w'=w.alloc (.cells ((Lib.splitB sep 0 (Lib.countB s sep) s).map Value.string).toArray 9):=Any.strings_Split Tryz.lays146 (by kernel_rfl) s sep m w hs hm h1
def Tryz.lays154_ren:Go.Shelf.Ren:=⟨fun|154=>93|138=>149|165=>150|143=>148|166=>151|197=>152|169=>153|195=>205|218=>206|240=>207|241=>208|219=>204|260=>209|276=>234|277=>235|217=>224|225=>231|224=>232|267=>233|266=>257|314=>260|n=>n,fun|9=>9|3=>3|4=>4|72=>188|0=>0|76=>192|105=>194|21=>21|5=>5|70=>185|20=>20|37=>186|75=>191|127=>224|164=>237|46=>163|119=>240|139=>243|138=>242|146=>260|51=>60|80=>196|n=>n,fun|1=>0|3=>1|4=>2|n=>n⟩
theorem Tryz.lays154:Go.Proofs.Lays.n154 Tryz.prog Tryz.lays154_ren:={
 mixed:=by kernel_rfl
 f138:=Tryz.func149.trans (congrArg some (by kernel_rfl))
 f143:=Tryz.func148.trans (congrArg some (by kernel_rfl))
 f154:=Tryz.func93.trans (congrArg some (by kernel_rfl))
 f165:=Tryz.func150.trans (congrArg some (by kernel_rfl))
 f166:=Tryz.func151.trans (congrArg some (by kernel_rfl))
 f169:=Tryz.func153.trans (congrArg some (by kernel_rfl))
 f195:=Tryz.func205.trans (congrArg some (by kernel_rfl))
 f197:=Tryz.func152.trans (congrArg some (by kernel_rfl))
 f217:=Tryz.func224.trans (congrArg some (by kernel_rfl))
 f218:=Tryz.func206.trans (congrArg some (by kernel_rfl))
 f219:=Tryz.func204.trans (congrArg some (by kernel_rfl))
 f224:=Tryz.func232.trans (congrArg some (by kernel_rfl))
 f225:=Tryz.func231.trans (congrArg some (by kernel_rfl))
 f240:=Tryz.func207.trans (congrArg some (by kernel_rfl))
 f241:=Tryz.func208.trans (congrArg some (by kernel_rfl))
 f260:=Tryz.func209.trans (congrArg some (by kernel_rfl))
 f266:=Tryz.func257.trans (congrArg some (by kernel_rfl))
 f267:=Tryz.func233.trans (congrArg some (by kernel_rfl))
 f276:=Tryz.func234.trans (congrArg some (by kernel_rfl))
 f277:=Tryz.func235.trans (congrArg some (by kernel_rfl))
 f314:=Tryz.func260.trans (congrArg some (by kernel_rfl))
 t0:=Tryz.underlying0
 a0:=Tryz.isAgg0
 z0:=Tryz.sizeOf0
 v0:=Tryz.zeroValue0
 t3:=Tryz.underlying3
 a3:=Tryz.isAgg3
 z3:=Tryz.sizeOf3
 v3:=Tryz.zeroValue3
 t4:=Tryz.underlying4
 a4:=Tryz.isAgg4
 z4:=Tryz.sizeOf4
 v4:=Tryz.zeroValue4
 t5:=Tryz.underlying5
 a5:=Tryz.isAgg5
 z5:=Tryz.sizeOf5
 v5:=Tryz.zeroValue5
 t9:=Tryz.underlying9
 a9:=Tryz.isAgg9
 z9:=Tryz.sizeOf9
 v9:=Tryz.zeroValue9
 t20:=Tryz.underlying20
 a20:=Tryz.isAgg20
 z20:=Tryz.sizeOf20
 v20:=Tryz.zeroValue20
 t21:=Tryz.underlying21
 a21:=Tryz.isAgg21
 z21:=Tryz.sizeOf21
 v21:=Tryz.zeroValue21
 t37:=Tryz.underlying186
 a37:=Tryz.isAgg186
 z37:=Tryz.sizeOf186
 v37:=Tryz.zeroValue186
 t46:=Tryz.underlying163
 a46:=Tryz.isAgg163
 z46:=Tryz.sizeOf163
 v46:=Tryz.zeroValue163
 t51:=Tryz.underlying60
 a51:=Tryz.isAgg60
 z51:=Tryz.sizeOf60
 v51:=Tryz.zeroValue60
 t70:=Tryz.underlying185
 a70:=Tryz.isAgg185
 z70:=Tryz.sizeOf185
 v70:=Tryz.zeroValue185
 t72:=Tryz.underlying188
 a72:=Tryz.isAgg188
 z72:=Tryz.sizeOf188
 v72:=Tryz.zeroValue188
 t75:=Tryz.underlying191
 a75:=Tryz.isAgg191
 z75:=Tryz.sizeOf191
 v75:=Tryz.zeroValue191
 t76:=Tryz.underlying192
 a76:=Tryz.isAgg192
 z76:=Tryz.sizeOf192
 v76:=Tryz.zeroValue192
 t105:=Tryz.underlying194
 a105:=Tryz.isAgg194
 z105:=Tryz.sizeOf194
 v105:=Tryz.zeroValue194
 t119:=Tryz.underlying240
 a119:=Tryz.isAgg240
 z119:=Tryz.sizeOf240
 t127:=Tryz.underlying224
 a127:=Tryz.isAgg224
 z127:=Tryz.sizeOf224
 v127:=Tryz.zeroValue224
 t138:=Tryz.underlying242
 a138:=Tryz.isAgg242
 z138:=Tryz.sizeOf242
 v138:=Tryz.zeroValue242
 t139:=Tryz.underlying243
 a139:=Tryz.isAgg243
 z139:=Tryz.sizeOf243
 v139:=Tryz.zeroValue243
 t146:=Tryz.underlying260
 a146:=Tryz.isAgg260
 z146:=Tryz.sizeOf260
 v146:=Tryz.zeroValue260
 t164:=Tryz.underlying237
 a164:=Tryz.isAgg237
 z164:=Tryz.sizeOf237
 v164:=Tryz.zeroValue237
 g1:=by kernel_rfl
 g3:=by kernel_rfl
 g4:=by kernel_rfl }
theorem Tryz.Builder_Extra_154:Builder.Extra Tryz.prog Tryz.lays154_ren:={
 sizeBuilder:=by kernel_rfl
 liesBuilder:=by kernel_rfl
 t5:=Tryz.underlying5
 a5:=Tryz.isAgg5
 z5:=Tryz.sizeOf5
 v5:=Tryz.zeroValue5
 infoByte:=by kernel_rfl
 cellsByte:=by kernel_rfl
 sizeByte:=by kernel_rfl
 neB5:=by decide }
open Go.RowKit Go.Lib in
theorem Tryz.strings_Replace (s old new:ByteArray) (n:Int) (m:Int) (w:World) (hs:s.size<4294967281) (hm:w.cell? ⟨0,0,none⟩=some (.int .i64 m)) (h1:1<=old.size) (hlen:s.size+Lib.countB s old*new.size<=140737488355328):
  Calls Tryz.prog 93 #[.string s,.string old,.string new,.int .i64 n] w fun e w'=>
   e= .returned (.string ⟨(Lib.replace s.data.toList old.data.toList new.data.toList n).toArray⟩)/\Below w.heap.size w w':=Any.strings_Replace Tryz.lays154 Tryz.Builder_Extra_154 s old new n m w hs hm h1 hlen
end Go.Proofs
end
