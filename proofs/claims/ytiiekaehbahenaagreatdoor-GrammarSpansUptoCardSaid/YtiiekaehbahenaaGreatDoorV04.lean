/-
  Contracts of the code that the law reaches, and plain laws. Conditions: as each says.
-/
import Derived.Shelf.Strings.Builder1
import Derived.Shelf.Strings.Builder2
import Derived.Shelf.Strings.OnBuilder
import Derived.Shelf.Small.Bits
import Derived.Shelf.Small.Strs
import Derived.Shelf.Strings.BuilderF
import Derived.Shelf.Strings.BuilderK
import Derived.Shelf.Strings.Builder2Cap
import Derived.Shelf.Strconv.Itoa0
import Derived.Shelf.Strings.Search1
import Derived.Shelf.Strings.Search2
import Derived.Shelf.Strings.Search3
import Derived.Shelf.Strings.Cut
import Derived.Shelf.Strings.Count
import Derived.Shelf.LaysM
import Derived.Shelf.Strings.Shaped
import Derived.Shelf.Strings.Split
import Derived.Shelf.Strings.Fold
import Derived.Shelf.Strings.SplitShaped
import Derived.Shelf.Unicode.Decode
import Derived.Shelf.Strings.RuneCount
import Derived.Shelf.Strings.Explode
import Derived.Shelf.Bits.Mul64
import Derived.Shelf.Strings.BuilderCap
import Derived.Test.YtiiekaehbahenaaGreatDoorProg
set_option linter.all false
set_option maxHeartbeats 40000000
set_option maxRecDepth 100000
section
namespace Go.Proofs
open Go.Shelf
def Tryz.lays169_ren:Go.Shelf.Ren:=⟨fun|169=>54|n=>n,fun|70=>96|9=>9|0=>0|72=>98|37=>44|127=>144|3=>3|5=>5|n=>n,fun|n=>n⟩
theorem Tryz.lays169:Go.Proofs.Lays.n169 Tryz.prog Tryz.lays169_ren:={
 mixed:=by kernel_rfl
 f169:=Tryz.func54.trans (congrArg some (by kernel_rfl))
 t0:=Tryz.underlying0
 a0:=Tryz.isAgg0
 z0:=Tryz.sizeOf0
 v0:=Tryz.zeroValue0
 t3:=Tryz.underlying3
 a3:=Tryz.isAgg3
 z3:=Tryz.sizeOf3
 v3:=Tryz.zeroValue3
 t9:=Tryz.underlying9
 a9:=Tryz.isAgg9
 z9:=Tryz.sizeOf9
 v9:=Tryz.zeroValue9
 t37:=Tryz.underlying44
 a37:=Tryz.isAgg44
 z37:=Tryz.sizeOf44
 v37:=Tryz.zeroValue44
 t70:=Tryz.underlying96
 a70:=Tryz.isAgg96
 z70:=Tryz.sizeOf96
 v70:=Tryz.zeroValue96
 t72:=Tryz.underlying98
 a72:=Tryz.isAgg98
 z72:=Tryz.sizeOf98
 v72:=Tryz.zeroValue98
 t127:=Tryz.underlying144
 a127:=Tryz.isAgg144
 z127:=Tryz.sizeOf144
 v127:=Tryz.zeroValue144 }
theorem Tryz.Builder_Extra_169:Builder.Extra Tryz.prog Tryz.lays169_ren:={
 sizeBuilder:=by kernel_rfl
 liesBuilder:=by kernel_rfl
 t5:=Tryz.underlying5
 a5:=Tryz.isAgg5
 z5:=Tryz.sizeOf5
 v5:=Tryz.zeroValue5
 infoByte:=by kernel_rfl
 cellsByte:=by kernel_rfl
 sizeByte:=by kernel_rfl
 neB5:=by decide }
open Go.RowKit in
theorem Tryz.Builder_String (B b:Nat) (l:List UInt8) (w:World) (h:Lib.IsBuilder 98 5 B b (Lib.byteCells l) w) (h0:l≠[]):
  Calls Tryz.prog 54 #[.pointer (some ⟨b,0,none⟩)] w fun e w'=>e= .returned (.string ⟨l.toArray⟩)/\Below B w w':=Any.Builder_String Tryz.lays169 Tryz.Builder_Extra_169 B b l w h h0
open Go.RowKit in
theorem Tryz.Builder_String_empty (B b:Nat) (w:World) (h:Lib.IsBuilder 98 5 B b [] w) (hBw:B<=w.heap.size):
  Calls Tryz.prog 54 #[.pointer (some ⟨b,0,none⟩)] w fun e w'=>e= .returned (.string ⟨#[]⟩)/\Below B w w':=Any.Builder_String_empty Tryz.lays169 Tryz.Builder_Extra_169 B b w h hBw
open Go.RowKit in
theorem Tryz.Builder_String_any (B b:Nat) (l:List UInt8) (w:World) (h:Lib.IsBuilder 98 5 B b (Lib.byteCells l) w) (hBw:B<=w.heap.size):
  Calls Tryz.prog 54 #[.pointer (some ⟨b,0,none⟩)] w fun e w'=>e= .returned (.string ⟨l.toArray⟩)/\Below B w w':=Any.Builder_String_any Tryz.lays169 Tryz.Builder_Extra_169 B b l w h hBw
def Tryz.lays241_ren:Go.Shelf.Ren:=⟨fun|241=>92|277=>120|n=>n,fun|70=>96|3=>3|0=>0|72=>98|37=>44|5=>5|n=>n,fun|n=>n⟩
theorem Tryz.lays241:Go.Proofs.Lays.n241 Tryz.prog Tryz.lays241_ren:={
 mixed:=by kernel_rfl
 f241:=Tryz.func92.trans (congrArg some (by kernel_rfl))
 f277:=Tryz.func120.trans (congrArg some (by kernel_rfl))
 t0:=Tryz.underlying0
 a0:=Tryz.isAgg0
 z0:=Tryz.sizeOf0
 v0:=Tryz.zeroValue0
 t3:=Tryz.underlying3
 a3:=Tryz.isAgg3
 z3:=Tryz.sizeOf3
 v3:=Tryz.zeroValue3
 t37:=Tryz.underlying44
 a37:=Tryz.isAgg44
 z37:=Tryz.sizeOf44
 v37:=Tryz.zeroValue44
 t70:=Tryz.underlying96
 a70:=Tryz.isAgg96
 z70:=Tryz.sizeOf96
 v70:=Tryz.zeroValue96
 t72:=Tryz.underlying98
 a72:=Tryz.isAgg98
 z72:=Tryz.sizeOf98
 v72:=Tryz.zeroValue98 }
theorem Tryz.Builder_Extra_241:Builder.Extra Tryz.prog Tryz.lays241_ren:={
 sizeBuilder:=by kernel_rfl
 liesBuilder:=by kernel_rfl
 t5:=Tryz.underlying5
 a5:=Tryz.isAgg5
 z5:=Tryz.sizeOf5
 v5:=Tryz.zeroValue5
 infoByte:=by kernel_rfl
 cellsByte:=by kernel_rfl
 sizeByte:=by kernel_rfl
 neB5:=by decide }
open Go.RowKit in
theorem Tryz.Builder_grow_fresh (B b n:Nat) (w:World) (hB:B<=b) (hbk:w.heap[b]?=some (.cells #[.pointer (some ⟨b,0,none⟩),.slice none 0 0] 98 (0,0))) (hBw:B<=w.heap.size) (hn:n<=281474976710656):
  Calls Tryz.prog 92 #[.pointer (some ⟨b,0,none⟩),.int .i64 n] w fun e w'=>e= .returned (.tuple #[])/\(Lib.BuilderAt 98 5 B b (.pointer (some ⟨b,0,none⟩)) [] w'/\Below B w w'):=Any.Builder_grow_fresh Tryz.lays241 Tryz.Builder_Extra_241 B b n w hB hbk hBw hn
def Tryz.lays165_ren:Go.Shelf.Ren:=⟨fun|165=>51|240=>91|241=>92|276=>119|277=>120|n=>n,fun|70=>96|3=>3|0=>0|4=>4|9=>9|20=>20|72=>98|37=>44|164=>170|5=>5|n=>n,fun|n=>n⟩
theorem Tryz.lays165:Go.Proofs.Lays.n165 Tryz.prog Tryz.lays165_ren:={
 mixed:=by kernel_rfl
 f165:=Tryz.func51.trans (congrArg some (by kernel_rfl))
 f240:=Tryz.func91.trans (congrArg some (by kernel_rfl))
 f241:=Tryz.func92.trans (congrArg some (by kernel_rfl))
 f276:=Tryz.func119.trans (congrArg some (by kernel_rfl))
 f277:=Tryz.func120.trans (congrArg some (by kernel_rfl))
 t0:=Tryz.underlying0
 a0:=Tryz.isAgg0
 z0:=Tryz.sizeOf0
 v0:=Tryz.zeroValue0
 t3:=Tryz.underlying3
 a3:=Tryz.isAgg3
 z3:=Tryz.sizeOf3
 v3:=Tryz.zeroValue3
 t4:=Tryz.underlying4
 a4:=Tryz.isAgg4
 z4:=Tryz.sizeOf4
 v4:=Tryz.zeroValue4
 t9:=Tryz.underlying9
 a9:=Tryz.isAgg9
 z9:=Tryz.sizeOf9
 v9:=Tryz.zeroValue9
 t20:=Tryz.underlying20
 a20:=Tryz.isAgg20
 z20:=Tryz.sizeOf20
 v20:=Tryz.zeroValue20
 t37:=Tryz.underlying44
 a37:=Tryz.isAgg44
 z37:=Tryz.sizeOf44
 v37:=Tryz.zeroValue44
 t70:=Tryz.underlying96
 a70:=Tryz.isAgg96
 z70:=Tryz.sizeOf96
 v70:=Tryz.zeroValue96
 t72:=Tryz.underlying98
 a72:=Tryz.isAgg98
 z72:=Tryz.sizeOf98
 v72:=Tryz.zeroValue98
 t164:=Tryz.underlying170
 a164:=Tryz.isAgg170
 z164:=Tryz.sizeOf170
 v164:=Tryz.zeroValue170 }
theorem Tryz.Builder_Extra_165:Builder.Extra Tryz.prog Tryz.lays165_ren:={
 sizeBuilder:=by kernel_rfl
 liesBuilder:=by kernel_rfl
 t5:=Tryz.underlying5
 a5:=Tryz.isAgg5
 z5:=Tryz.sizeOf5
 v5:=Tryz.zeroValue5
 infoByte:=by kernel_rfl
 cellsByte:=by kernel_rfl
 sizeByte:=by kernel_rfl
 neB5:=by decide }
open Go.RowKit in
theorem Tryz.Builder_Grow_fresh (B b n:Nat) (w:World) (hB:B<=b) (hbk:w.heap[b]?=some (.cells #[.pointer none,.slice none 0 0] 98 (0,0))) (hBw:B<=w.heap.size) (hn:n<=281474976710656):
  Calls Tryz.prog 51 #[.pointer (some ⟨b,0,none⟩),.int .i64 n] w fun e w'=>e= .returned (.tuple #[])/\(Lib.BuilderAt 98 5 B b (.pointer (some ⟨b,0,none⟩)) [] w'/\Below B w w'):=Any.Builder_Grow_fresh Tryz.lays165 Tryz.Builder_Extra_165 B b n w hB hbk hBw hn
def Tryz.lays159_ren:Go.Shelf.Ren:=⟨fun|159=>28|165=>51|166=>52|167=>53|169=>54|230=>55|204=>56|240=>91|241=>92|197=>93|118=>94|168=>95|270=>96|262=>97|276=>119|277=>120|260=>121|242=>122|313=>123|278=>138|274=>136|275=>137|n=>n,fun|9=>9|4=>4|3=>3|5=>5|72=>98|0=>0|76=>102|75=>101|107=>107|70=>96|20=>20|37=>44|127=>144|21=>21|105=>145|164=>170|162=>176|203=>174|119=>200|46=>154|139=>203|138=>202|51=>204|160=>197|208=>213|206=>211|80=>105|n=>n,fun|13=>0|3=>4|4=>5|n=>n⟩
theorem Tryz.lays159:Go.Proofs.Lays.n159 Tryz.prog Tryz.lays159_ren:={
 mixed:=by kernel_rfl
 f118:=Tryz.func94.trans (congrArg some (by kernel_rfl))
 f159:=Tryz.func28.trans (congrArg some (by kernel_rfl))
 f165:=Tryz.func51.trans (congrArg some (by kernel_rfl))
 f166:=Tryz.func52.trans (congrArg some (by kernel_rfl))
 f167:=Tryz.func53.trans (congrArg some (by kernel_rfl))
 f168:=Tryz.func95.trans (congrArg some (by kernel_rfl))
 f169:=Tryz.func54.trans (congrArg some (by kernel_rfl))
 f197:=Tryz.func93.trans (congrArg some (by kernel_rfl))
 f204:=Tryz.func56.trans (congrArg some (by kernel_rfl))
 f230:=Tryz.func55.trans (congrArg some (by kernel_rfl))
 f240:=Tryz.func91.trans (congrArg some (by kernel_rfl))
 f241:=Tryz.func92.trans (congrArg some (by kernel_rfl))
 f242:=Tryz.func122.trans (congrArg some (by kernel_rfl))
 f260:=Tryz.func121.trans (congrArg some (by kernel_rfl))
 f262:=Tryz.func97.trans (congrArg some (by kernel_rfl))
 f270:=Tryz.func96.trans (congrArg some (by kernel_rfl))
 f274:=Tryz.func136.trans (congrArg some (by kernel_rfl))
 f275:=Tryz.func137.trans (congrArg some (by kernel_rfl))
 f276:=Tryz.func119.trans (congrArg some (by kernel_rfl))
 f277:=Tryz.func120.trans (congrArg some (by kernel_rfl))
 f278:=Tryz.func138.trans (congrArg some (by kernel_rfl))
 f313:=Tryz.func123.trans (congrArg some (by kernel_rfl))
 t0:=Tryz.underlying0
 a0:=Tryz.isAgg0
 z0:=Tryz.sizeOf0
 v0:=Tryz.zeroValue0
 t3:=Tryz.underlying3
 a3:=Tryz.isAgg3
 z3:=Tryz.sizeOf3
 v3:=Tryz.zeroValue3
 t4:=Tryz.underlying4
 a4:=Tryz.isAgg4
 z4:=Tryz.sizeOf4
 v4:=Tryz.zeroValue4
 t5:=Tryz.underlying5
 a5:=Tryz.isAgg5
 z5:=Tryz.sizeOf5
 v5:=Tryz.zeroValue5
 t9:=Tryz.underlying9
 a9:=Tryz.isAgg9
 z9:=Tryz.sizeOf9
 v9:=Tryz.zeroValue9
 t20:=Tryz.underlying20
 a20:=Tryz.isAgg20
 z20:=Tryz.sizeOf20
 v20:=Tryz.zeroValue20
 t21:=Tryz.underlying21
 a21:=Tryz.isAgg21
 z21:=Tryz.sizeOf21
 v21:=Tryz.zeroValue21
 t37:=Tryz.underlying44
 a37:=Tryz.isAgg44
 z37:=Tryz.sizeOf44
 v37:=Tryz.zeroValue44
 t46:=Tryz.underlying154
 a46:=Tryz.isAgg154
 z46:=Tryz.sizeOf154
 v46:=Tryz.zeroValue154
 t51:=Tryz.underlying204
 a51:=Tryz.isAgg204
 z51:=Tryz.sizeOf204
 v51:=Tryz.zeroValue204
 t70:=Tryz.underlying96
 a70:=Tryz.isAgg96
 z70:=Tryz.sizeOf96
 v70:=Tryz.zeroValue96
 t72:=Tryz.underlying98
 a72:=Tryz.isAgg98
 z72:=Tryz.sizeOf98
 v72:=Tryz.zeroValue98
 t75:=Tryz.underlying101
 a75:=Tryz.isAgg101
 z75:=Tryz.sizeOf101
 v75:=Tryz.zeroValue101
 t76:=Tryz.underlying102
 a76:=Tryz.isAgg102
 z76:=Tryz.sizeOf102
 v76:=Tryz.zeroValue102
 t105:=Tryz.underlying145
 a105:=Tryz.isAgg145
 z105:=Tryz.sizeOf145
 v105:=Tryz.zeroValue145
 t107:=Tryz.underlying107
 a107:=Tryz.isAgg107
 z107:=Tryz.sizeOf107
 v107:=Tryz.zeroValue107
 t119:=Tryz.underlying200
 a119:=Tryz.isAgg200
 z119:=Tryz.sizeOf200
 t127:=Tryz.underlying144
 a127:=Tryz.isAgg144
 z127:=Tryz.sizeOf144
 v127:=Tryz.zeroValue144
 t138:=Tryz.underlying202
 a138:=Tryz.isAgg202
 z138:=Tryz.sizeOf202
 v138:=Tryz.zeroValue202
 t139:=Tryz.underlying203
 a139:=Tryz.isAgg203
 z139:=Tryz.sizeOf203
 v139:=Tryz.zeroValue203
 t160:=Tryz.underlying197
 a160:=Tryz.isAgg197
 z160:=Tryz.sizeOf197
 v160:=Tryz.zeroValue197
 t162:=Tryz.underlying176
 a162:=Tryz.isAgg176
 z162:=Tryz.sizeOf176
 v162:=Tryz.zeroValue176
 t164:=Tryz.underlying170
 a164:=Tryz.isAgg170
 z164:=Tryz.sizeOf170
 v164:=Tryz.zeroValue170
 t203:=Tryz.underlying174
 a203:=Tryz.isAgg174
 z203:=Tryz.sizeOf174
 v203:=Tryz.zeroValue174
 t206:=Tryz.underlying211
 a206:=Tryz.isAgg211
 z206:=Tryz.sizeOf211
 v206:=Tryz.zeroValue211
 t208:=Tryz.underlying213
 a208:=Tryz.isAgg213
 z208:=Tryz.sizeOf213
 v208:=Tryz.zeroValue213
 g3:=by kernel_rfl
 g4:=by kernel_rfl
 g13:=by kernel_rfl }
theorem Tryz.Builder_Extra_159:Builder.Extra Tryz.prog Tryz.lays159_ren:={
 sizeBuilder:=by kernel_rfl
 liesBuilder:=by kernel_rfl
 t5:=Tryz.underlying5
 a5:=Tryz.isAgg5
 z5:=Tryz.sizeOf5
 v5:=Tryz.zeroValue5
 infoByte:=by kernel_rfl
 cellsByte:=by kernel_rfl
 sizeByte:=by kernel_rfl
 neB5:=by decide }
open Go.RowKit in
theorem Tryz.strings_ToLower_ascii (s:ByteArray) (w:World) (hs:s.size<=140737488355328) (hascii:∀ (j:Nat) (b:UInt8),s.data.toList[j]?=some b->b.toNat<128):
  Calls Tryz.prog 28 #[.string s] w fun e w'=>e= .returned (.string ⟨(Lib.toLowerA s.data.toList).toArray⟩)/\Below w.heap.size w w':=Any.strings_ToLower_ascii Tryz.lays159 Tryz.Builder_Extra_159 s w hs hascii
def Tryz.lays134_ren:Go.Shelf.Ren:=⟨fun|134=>149|129=>154|n=>n,fun|53=>110|3=>3|4=>4|46=>154|5=>5|9=>9|n=>n,fun|n=>n⟩
theorem Tryz.lays134:Go.Proofs.Lays.n134 Tryz.prog Tryz.lays134_ren:={
 mixed:=by kernel_rfl
 f129:=Tryz.func154.trans (congrArg some (by kernel_rfl))
 f134:=Tryz.func149.trans (congrArg some (by kernel_rfl))
 t3:=Tryz.underlying3
 a3:=Tryz.isAgg3
 z3:=Tryz.sizeOf3
 v3:=Tryz.zeroValue3
 t4:=Tryz.underlying4
 a4:=Tryz.isAgg4
 z4:=Tryz.sizeOf4
 v4:=Tryz.zeroValue4
 t5:=Tryz.underlying5
 a5:=Tryz.isAgg5
 z5:=Tryz.sizeOf5
 v5:=Tryz.zeroValue5
 t9:=Tryz.underlying9
 a9:=Tryz.isAgg9
 z9:=Tryz.sizeOf9
 v9:=Tryz.zeroValue9
 t46:=Tryz.underlying154
 a46:=Tryz.isAgg154
 z46:=Tryz.sizeOf154
 v46:=Tryz.zeroValue154
 t53:=Tryz.underlying110
 a53:=Tryz.isAgg110
 z53:=Tryz.sizeOf110
 v53:=Tryz.zeroValue110 }
theorem Tryz.bits_LeadingZeros64 (x:Int) (w:World) (h0:0<=x) (h1:x<=18446744073709551615):
  Calls Tryz.prog 149 #[.int .u64 x] w fun e w'=>e= .returned (.int .i64 (64 - (Lib.bitLen x.toNat:Int)))/\w'=w:=Any.bits_LeadingZeros64 Tryz.lays134 x w h0 h1
def Tryz.lays137_ren:Go.Shelf.Ren:=⟨fun|137=>29|217=>57|266=>98|n=>n,fun|9=>9|5=>5|3=>3|n=>n,fun|n=>n⟩
theorem Tryz.lays137:Go.Proofs.Lays.n137 Tryz.prog Tryz.lays137_ren:={
 mixed:=by kernel_rfl
 f137:=Tryz.func29.trans (congrArg some (by kernel_rfl))
 f217:=Tryz.func57.trans (congrArg some (by kernel_rfl))
 f266:=Tryz.func98.trans (congrArg some (by kernel_rfl))
 t3:=Tryz.underlying3
 a3:=Tryz.isAgg3
 z3:=Tryz.sizeOf3
 v3:=Tryz.zeroValue3
 t5:=Tryz.underlying5
 a5:=Tryz.isAgg5
 z5:=Tryz.sizeOf5
 v5:=Tryz.zeroValue5
 t9:=Tryz.underlying9
 a9:=Tryz.isAgg9
 z9:=Tryz.sizeOf9
 v9:=Tryz.zeroValue9 }
open Go.RowKit in
theorem Tryz.strings_IndexByte (s:ByteArray) (c:Int) (w:World):
  Calls Tryz.prog 29 #[.string s,.int .u8 c] w fun e w'=>e= .returned (.int .i64 (Lib.indexByte s.data.toList c.toNat.toUInt8))/\w'=w:=Any.strings_IndexByte Tryz.lays137 s c w
open Go.RowKit in
theorem Tryz.Builder_String_f (B b:Nat) (l:List UInt8) (w:World) (h:Lib.IsBuilderF 98 5 B b (Lib.byteCells l) w) (h0:l≠[]):
  Calls Tryz.prog 54 #[.pointer (some ⟨b,0,none⟩)] w fun e w'=>e= .returned (.string ⟨l.toArray⟩)/\(Lib.IsBuilderF 98 5 B b (Lib.byteCells l) w'/\Below B w w'):=Any.Builder_String_f Tryz.lays169 Tryz.Builder_Extra_169 B b l w h h0
open Go.RowKit in
theorem Tryz.Builder_String_empty_f (B b:Nat) (w:World) (h:Lib.IsBuilderF 98 5 B b [] w) (hBw:B<=w.heap.size):
  Calls Tryz.prog 54 #[.pointer (some ⟨b,0,none⟩)] w fun e w'=>e= .returned (.string ⟨#[]⟩)/\(Lib.IsBuilderF 98 5 B b [] w'/\Below B w w'):=Any.Builder_String_empty_f Tryz.lays169 Tryz.Builder_Extra_169 B b w h hBw
open Go.RowKit in
theorem Tryz.Builder_String_any_f (B b:Nat) (l:List UInt8) (w:World) (h:Lib.IsBuilderF 98 5 B b (Lib.byteCells l) w) (hBw:B<=w.heap.size):
  Calls Tryz.prog 54 #[.pointer (some ⟨b,0,none⟩)] w fun e w'=>e= .returned (.string ⟨l.toArray⟩)/\(Lib.IsBuilderF 98 5 B b (Lib.byteCells l) w'/\Below B w w'):=Any.Builder_String_any_f Tryz.lays169 Tryz.Builder_Extra_169 B b l w h hBw
open Go.RowKit in
theorem Tryz.Builder_String_k (B b:Nat) (l:List UInt8) (w:World) (h:Lib.IsBuilderF 98 5 B b (Lib.byteCells l) w) (h0:l≠[]):
  Calls Tryz.prog 54 #[.pointer (some ⟨b,0,none⟩)] w fun e w'=>e= .returned (.string ⟨l.toArray⟩)/\(Lib.IsBuilderF 98 5 B b (Lib.byteCells l) w'/\Below B w w'/\Lib.OthersKept 5 (some b) w w'):=Any.Builder_String_k Tryz.lays169 Tryz.Builder_Extra_169 B b l w h h0
open Go.RowKit in
theorem Tryz.Builder_String_empty_k (B b:Nat) (w:World) (h:Lib.IsBuilderF 98 5 B b [] w) (hBw:B<=w.heap.size):
  Calls Tryz.prog 54 #[.pointer (some ⟨b,0,none⟩)] w fun e w'=>e= .returned (.string ⟨#[]⟩)/\(Lib.IsBuilderF 98 5 B b [] w'/\Below B w w'/\Lib.OthersKept 5 (some b) w w'):=Any.Builder_String_empty_k Tryz.lays169 Tryz.Builder_Extra_169 B b w h hBw
open Go.RowKit in
theorem Tryz.Builder_String_any_k (B b:Nat) (l:List UInt8) (w:World) (h:Lib.IsBuilderF 98 5 B b (Lib.byteCells l) w) (hBw:B<=w.heap.size):
  Calls Tryz.prog 54 #[.pointer (some ⟨b,0,none⟩)] w fun e w'=>e= .returned (.string ⟨l.toArray⟩)/\(Lib.IsBuilderF 98 5 B b (Lib.byteCells l) w'/\Below B w w'/\Lib.OthersKept 5 (some b) w w'):=Any.Builder_String_any_k Tryz.lays169 Tryz.Builder_Extra_169 B b l w h hBw
open Go.RowKit in
theorem Tryz.Builder_grow_fresh_cap (B b n:Nat) (w:World) (hB:B<=b) (hbk:w.heap[b]?=some (.cells #[.pointer (some ⟨b,0,none⟩),.slice none 0 0] 98 (0,0))) (hBw:B<=w.heap.size) (hn:n<=281474976710656):
  Calls Tryz.prog 92 #[.pointer (some ⟨b,0,none⟩),.int .i64 n] w fun e w'=>e= .returned (.tuple #[])/\(Lib.BuilderAt 98 5 B b (.pointer (some ⟨b,0,none⟩)) [] w'/\Below B w w')/\∃ p cap,w'.cell? ⟨b,1,none⟩=some (.slice p 0 cap)/\n<=cap:=Any.Builder_grow_fresh_cap Tryz.lays241 Tryz.Builder_Extra_241 B b n w hB hbk hBw hn
open Go.RowKit in
theorem Tryz.Builder_Grow_fresh_cap (B b n:Nat) (w:World) (hB:B<=b) (hbk:w.heap[b]?=some (.cells #[.pointer none,.slice none 0 0] 98 (0,0))) (hBw:B<=w.heap.size) (hn:n<=281474976710656):
  Calls Tryz.prog 51 #[.pointer (some ⟨b,0,none⟩),.int .i64 n] w fun e w'=>e= .returned (.tuple #[])/\(Lib.BuilderAt 98 5 B b (.pointer (some ⟨b,0,none⟩)) [] w'/\Below B w w')/\∃ p cap,w'.cell? ⟨b,1,none⟩=some (.slice p 0 cap)/\n<=cap:=Any.Builder_Grow_fresh_cap Tryz.lays165 Tryz.Builder_Extra_165 B b n w hB hbk hBw hn
def Tryz.lays129_ren:Go.Shelf.Ren:=⟨fun|129=>154|n=>n,fun|53=>110|3=>3|4=>4|46=>154|5=>5|9=>9|n=>n,fun|n=>n⟩
theorem Tryz.lays129:Go.Proofs.Lays.n129 Tryz.prog Tryz.lays129_ren:={
 mixed:=by kernel_rfl
 f129:=Tryz.func154.trans (congrArg some (by kernel_rfl))
 t3:=Tryz.underlying3
 a3:=Tryz.isAgg3
 z3:=Tryz.sizeOf3
 v3:=Tryz.zeroValue3
 t4:=Tryz.underlying4
 a4:=Tryz.isAgg4
 z4:=Tryz.sizeOf4
 v4:=Tryz.zeroValue4
 t5:=Tryz.underlying5
 a5:=Tryz.isAgg5
 z5:=Tryz.sizeOf5
 v5:=Tryz.zeroValue5
 t9:=Tryz.underlying9
 a9:=Tryz.isAgg9
 z9:=Tryz.sizeOf9
 v9:=Tryz.zeroValue9
 t46:=Tryz.underlying154
 a46:=Tryz.isAgg154
 z46:=Tryz.sizeOf154
 v46:=Tryz.zeroValue154
 t53:=Tryz.underlying110
 a53:=Tryz.isAgg110
 z53:=Tryz.sizeOf110
 v53:=Tryz.zeroValue110 }
theorem Tryz.bits_Len64 (x:Int) (w:World) (h0:0<=x) (h1:x<=18446744073709551615):
  Calls Tryz.prog 154 #[.int .u64 x] w fun e w'=>e= .returned (.int .i64 (Lib.bitLen x.toNat))/\w'=w:=Any.bits_Len64 Tryz.lays129 x w h0 h1
def Tryz.lays217_ren:Go.Shelf.Ren:=⟨fun|217=>57|266=>98|n=>n,fun|9=>9|5=>5|3=>3|n=>n,fun|n=>n⟩
theorem Tryz.lays217:Go.Proofs.Lays.n217 Tryz.prog Tryz.lays217_ren:={
 mixed:=by kernel_rfl
 f217:=Tryz.func57.trans (congrArg some (by kernel_rfl))
 f266:=Tryz.func98.trans (congrArg some (by kernel_rfl))
 t3:=Tryz.underlying3
 a3:=Tryz.isAgg3
 z3:=Tryz.sizeOf3
 v3:=Tryz.zeroValue3
 t5:=Tryz.underlying5
 a5:=Tryz.isAgg5
 z5:=Tryz.sizeOf5
 v5:=Tryz.zeroValue5
 t9:=Tryz.underlying9
 a9:=Tryz.isAgg9
 z9:=Tryz.sizeOf9
 v9:=Tryz.zeroValue9 }
open Go.RowKit Go.Lib in
theorem Tryz.stringslite_IndexByte (s:ByteArray) (c:Int) (w:World):
  Calls Tryz.prog 57 #[.string s,.int .u8 c] w fun e w'=>e= .returned (.int .i64 (Lib.indexByte s.data.toList c.toNat.toUInt8))/\w'=w:=Any.stringslite_IndexByte Tryz.lays217 s c w
def Tryz.lays224_ren:Go.Shelf.Ren:=⟨fun|224=>143|n=>n,fun|3=>3|n=>n,fun|n=>n⟩
theorem Tryz.lays224:Go.Proofs.Lays.n224 Tryz.prog Tryz.lays224_ren:={
 mixed:=by kernel_rfl
 f224:=Tryz.func143.trans (congrArg some (by kernel_rfl))
 t3:=Tryz.underlying3
 a3:=Tryz.isAgg3
 z3:=Tryz.sizeOf3
 v3:=Tryz.zeroValue3 }
open Go.RowKit Go.Lib in
theorem Tryz.bytealg_Cutover (n:Int) (h0:0<=n) (h1:n<4611686018427387904) (w:World):
  Calls Tryz.prog 143 #[.int .i64 n] w fun e w'=>e= .returned (.int .i64 ((n+16) / 8))/\w'=w:=Any.bytealg_Cutover Tryz.lays224 n h0 h1 w
def Tryz.lays314_ren:Go.Shelf.Ren:=⟨fun|314=>151|n=>n,fun|9=>9|51=>204|3=>3|4=>4|5=>5|46=>154|n=>n,fun|n=>n⟩
theorem Tryz.lays314:Go.Proofs.Lays.n314 Tryz.prog Tryz.lays314_ren:={
 mixed:=by kernel_rfl
 f314:=Tryz.func151.trans (congrArg some (by kernel_rfl))
 t3:=Tryz.underlying3
 a3:=Tryz.isAgg3
 z3:=Tryz.sizeOf3
 v3:=Tryz.zeroValue3
 t4:=Tryz.underlying4
 a4:=Tryz.isAgg4
 z4:=Tryz.sizeOf4
 v4:=Tryz.zeroValue4
 t5:=Tryz.underlying5
 a5:=Tryz.isAgg5
 z5:=Tryz.sizeOf5
 v5:=Tryz.zeroValue5
 t9:=Tryz.underlying9
 a9:=Tryz.isAgg9
 z9:=Tryz.sizeOf9
 v9:=Tryz.zeroValue9
 t46:=Tryz.underlying154
 a46:=Tryz.isAgg154
 z46:=Tryz.sizeOf154
 v46:=Tryz.zeroValue154
 t51:=Tryz.underlying204
 a51:=Tryz.isAgg204
 z51:=Tryz.sizeOf204
 v51:=Tryz.zeroValue204 }
open Go.RowKit Go.Lib in
theorem Tryz.bytealg_hashStr (sep:ByteArray) (hs:sep.size<4294967281) (w:World):
  Calls Tryz.prog 151 #[.string sep] w fun e w'=>e= .returned (.tuple #[.int .u32 (RK.H sep.data.toList % 4294967296),.int .u32 (16777619 ^ sep.size % 4294967296)])/\w'=w:=Any.bytealg_hashStr Tryz.lays314 sep hs w
def Tryz.lays267_ren:Go.Shelf.Ren:=⟨fun|267=>144|314=>151|n=>n,fun|9=>9|3=>3|146=>216|51=>204|4=>4|5=>5|46=>154|n=>n,fun|n=>n⟩
theorem Tryz.lays267:Go.Proofs.Lays.n267 Tryz.prog Tryz.lays267_ren:={
 mixed:=by kernel_rfl
 f267:=Tryz.func144.trans (congrArg some (by kernel_rfl))
 f314:=Tryz.func151.trans (congrArg some (by kernel_rfl))
 t3:=Tryz.underlying3
 a3:=Tryz.isAgg3
 z3:=Tryz.sizeOf3
 v3:=Tryz.zeroValue3
 t4:=Tryz.underlying4
 a4:=Tryz.isAgg4
 z4:=Tryz.sizeOf4
 v4:=Tryz.zeroValue4
 t5:=Tryz.underlying5
 a5:=Tryz.isAgg5
 z5:=Tryz.sizeOf5
 v5:=Tryz.zeroValue5
 t9:=Tryz.underlying9
 a9:=Tryz.isAgg9
 z9:=Tryz.sizeOf9
 v9:=Tryz.zeroValue9
 t46:=Tryz.underlying154
 a46:=Tryz.isAgg154
 z46:=Tryz.sizeOf154
 v46:=Tryz.zeroValue154
 t51:=Tryz.underlying204
 a51:=Tryz.isAgg204
 z51:=Tryz.sizeOf204
 v51:=Tryz.zeroValue204
 t146:=Tryz.underlying216
 a146:=Tryz.isAgg216
 z146:=Tryz.sizeOf216
 v146:=Tryz.zeroValue216 }
open Go.RowKit Go.Lib in
theorem Tryz.bytealg_IndexRabinKarp (s sep:ByteArray) (h1:1<=sep.size) (h2:sep.size<=s.size) (hs:s.size<4294967281) (w:World):
  Calls Tryz.prog 144 #[.string s,.string sep] w fun e w'=>e= .returned (.int .i64 (Lib.index s.data.toList sep.data.toList))/\w'=w:=Any.bytealg_IndexRabinKarp Tryz.lays267 s sep h1 h2 hs w
def Tryz.lays219_ren:Go.Shelf.Ren:=⟨fun|219=>132|217=>57|225=>142|224=>143|267=>144|266=>98|314=>151|n=>n,fun|9=>9|3=>3|4=>4|5=>5|46=>154|146=>216|51=>204|n=>n,fun|1=>1|n=>n⟩
theorem Tryz.lays219:Go.Proofs.Lays.n219 Tryz.prog Tryz.lays219_ren:={
 mixed:=by kernel_rfl
 f217:=Tryz.func57.trans (congrArg some (by kernel_rfl))
 f219:=Tryz.func132.trans (congrArg some (by kernel_rfl))
 f224:=Tryz.func143.trans (congrArg some (by kernel_rfl))
 f225:=Tryz.func142.trans (congrArg some (by kernel_rfl))
 f266:=Tryz.func98.trans (congrArg some (by kernel_rfl))
 f267:=Tryz.func144.trans (congrArg some (by kernel_rfl))
 f314:=Tryz.func151.trans (congrArg some (by kernel_rfl))
 t3:=Tryz.underlying3
 a3:=Tryz.isAgg3
 z3:=Tryz.sizeOf3
 v3:=Tryz.zeroValue3
 t4:=Tryz.underlying4
 a4:=Tryz.isAgg4
 z4:=Tryz.sizeOf4
 v4:=Tryz.zeroValue4
 t5:=Tryz.underlying5
 a5:=Tryz.isAgg5
 z5:=Tryz.sizeOf5
 v5:=Tryz.zeroValue5
 t9:=Tryz.underlying9
 a9:=Tryz.isAgg9
 z9:=Tryz.sizeOf9
 v9:=Tryz.zeroValue9
 t46:=Tryz.underlying154
 a46:=Tryz.isAgg154
 z46:=Tryz.sizeOf154
 v46:=Tryz.zeroValue154
 t51:=Tryz.underlying204
 a51:=Tryz.isAgg204
 z51:=Tryz.sizeOf204
 v51:=Tryz.zeroValue204
 t146:=Tryz.underlying216
 a146:=Tryz.isAgg216
 z146:=Tryz.sizeOf216
 v146:=Tryz.zeroValue216
 g1:=by kernel_rfl }
open Go.RowKit Go.Lib in
theorem Tryz.stringslite_Index_one (s:ByteArray) (c:UInt8) (w:World):
  Calls Tryz.prog 132 #[.string s,.string ⟨#[c]⟩] w fun e w'=>e= .returned (.int .i64 (Lib.indexByte s.data.toList c))/\w'=w:=Any.stringslite_Index_one Tryz.lays219 s c w
open Go.RowKit Go.Lib in
theorem Tryz.stringslite_Index (s sub:ByteArray) (m:Int) (w:World) (hs:s.size<4294967281) (hm:w.cell? ⟨1,0,none⟩=some (.int .i64 m)):
  Calls Tryz.prog 132 #[.string s,.string sub] w fun e w'=>e= .returned (.int .i64 (Lib.index s.data.toList sub.data.toList))/\w'=w:=Any.stringslite_Index Tryz.lays219 s sub m w hs hm
def Tryz.lays143_ren:Go.Shelf.Ren:=⟨fun|143=>148|219=>132|217=>57|225=>142|224=>143|267=>144|266=>98|314=>151|n=>n,fun|9=>9|3=>3|4=>4|5=>5|46=>154|146=>216|51=>204|n=>n,fun|1=>1|n=>n⟩
theorem Tryz.lays143:Go.Proofs.Lays.n143 Tryz.prog Tryz.lays143_ren:={
 mixed:=by kernel_rfl
 f143:=Tryz.func148.trans (congrArg some (by kernel_rfl))
 f217:=Tryz.func57.trans (congrArg some (by kernel_rfl))
 f219:=Tryz.func132.trans (congrArg some (by kernel_rfl))
 f224:=Tryz.func143.trans (congrArg some (by kernel_rfl))
 f225:=Tryz.func142.trans (congrArg some (by kernel_rfl))
 f266:=Tryz.func98.trans (congrArg some (by kernel_rfl))
 f267:=Tryz.func144.trans (congrArg some (by kernel_rfl))
 f314:=Tryz.func151.trans (congrArg some (by kernel_rfl))
 t3:=Tryz.underlying3
 a3:=Tryz.isAgg3
 z3:=Tryz.sizeOf3
 v3:=Tryz.zeroValue3
 t4:=Tryz.underlying4
 a4:=Tryz.isAgg4
 z4:=Tryz.sizeOf4
 v4:=Tryz.zeroValue4
 t5:=Tryz.underlying5
 a5:=Tryz.isAgg5
 z5:=Tryz.sizeOf5
 v5:=Tryz.zeroValue5
 t9:=Tryz.underlying9
 a9:=Tryz.isAgg9
 z9:=Tryz.sizeOf9
 v9:=Tryz.zeroValue9
 t46:=Tryz.underlying154
 a46:=Tryz.isAgg154
 z46:=Tryz.sizeOf154
 v46:=Tryz.zeroValue154
 t51:=Tryz.underlying204
 a51:=Tryz.isAgg204
 z51:=Tryz.sizeOf204
 v51:=Tryz.zeroValue204
 t146:=Tryz.underlying216
 a146:=Tryz.isAgg216
 z146:=Tryz.sizeOf216
 v146:=Tryz.zeroValue216
 g1:=by kernel_rfl }
open Go.RowKit Go.Lib in
theorem Tryz.strings_Index_one (s:ByteArray) (c:UInt8) (w:World):
  Calls Tryz.prog 148 #[.string s,.string ⟨#[c]⟩] w fun e w'=>e= .returned (.int .i64 (Lib.indexByte s.data.toList c))/\w'=w:=Any.strings_Index_one Tryz.lays143 s c w
open Go.RowKit Go.Lib in
theorem Tryz.strings_Index (s sub:ByteArray) (m:Int) (w:World) (hs:s.size<4294967281) (hm:w.cell? ⟨1,0,none⟩=some (.int .i64 m)):
  Calls Tryz.prog 148 #[.string s,.string sub] w fun e w'=>e= .returned (.int .i64 (Lib.index s.data.toList sub.data.toList))/\w'=w:=Any.strings_Index Tryz.lays143 s sub m w hs hm
def Tryz.lays220_ren:Go.Shelf.Ren:=⟨fun|220=>112|219=>132|217=>57|225=>142|224=>143|267=>144|266=>98|314=>151|n=>n,fun|9=>9|4=>4|3=>3|5=>5|46=>154|146=>216|51=>204|n=>n,fun|1=>1|n=>n⟩
theorem Tryz.lays220:Go.Proofs.Lays.n220 Tryz.prog Tryz.lays220_ren:={
 mixed:=by kernel_rfl
 f217:=Tryz.func57.trans (congrArg some (by kernel_rfl))
 f219:=Tryz.func132.trans (congrArg some (by kernel_rfl))
 f220:=Tryz.func112.trans (congrArg some (by kernel_rfl))
 f224:=Tryz.func143.trans (congrArg some (by kernel_rfl))
 f225:=Tryz.func142.trans (congrArg some (by kernel_rfl))
 f266:=Tryz.func98.trans (congrArg some (by kernel_rfl))
 f267:=Tryz.func144.trans (congrArg some (by kernel_rfl))
 f314:=Tryz.func151.trans (congrArg some (by kernel_rfl))
 t3:=Tryz.underlying3
 a3:=Tryz.isAgg3
 z3:=Tryz.sizeOf3
 v3:=Tryz.zeroValue3
 t4:=Tryz.underlying4
 a4:=Tryz.isAgg4
 z4:=Tryz.sizeOf4
 v4:=Tryz.zeroValue4
 t5:=Tryz.underlying5
 a5:=Tryz.isAgg5
 z5:=Tryz.sizeOf5
 v5:=Tryz.zeroValue5
 t9:=Tryz.underlying9
 a9:=Tryz.isAgg9
 z9:=Tryz.sizeOf9
 v9:=Tryz.zeroValue9
 t46:=Tryz.underlying154
 a46:=Tryz.isAgg154
 z46:=Tryz.sizeOf154
 v46:=Tryz.zeroValue154
 t51:=Tryz.underlying204
 a51:=Tryz.isAgg204
 z51:=Tryz.sizeOf204
 v51:=Tryz.zeroValue204
 t146:=Tryz.underlying216
 a146:=Tryz.isAgg216
 z146:=Tryz.sizeOf216
 v146:=Tryz.zeroValue216
 g1:=by kernel_rfl }
open Go.RowKit Go.Lib in
theorem Tryz.stringslite_Cut (s sep:ByteArray) (m:Int) (w:World) (hs:s.size<4294967281) (hm:w.cell? ⟨1,0,none⟩=some (.int .i64 m)):
  Calls Tryz.prog 112 #[.string s,.string sep] w fun e w'=>e= .returned (.tuple #[.string ⟨(Lib.cut s.data.toList sep.data.toList).1.toArray⟩,.string ⟨(Lib.cut s.data.toList sep.data.toList).2.1.toArray⟩,.bool (Lib.cut s.data.toList sep.data.toList).2.2])/\∃ n,w'=w.drewN n:=Any.stringslite_Cut Tryz.lays220 s sep m w hs hm
def Tryz.lays145_ren:Go.Shelf.Ren:=⟨fun|145=>83|220=>112|219=>132|217=>57|225=>142|224=>143|267=>144|266=>98|314=>151|n=>n,fun|9=>9|4=>4|59=>136|3=>3|5=>5|46=>154|146=>216|51=>204|n=>n,fun|1=>1|n=>n⟩
theorem Tryz.lays145:Go.Proofs.Lays.n145 Tryz.prog Tryz.lays145_ren:={
 mixed:=by kernel_rfl
 f145:=Tryz.func83.trans (congrArg some (by kernel_rfl))
 f217:=Tryz.func57.trans (congrArg some (by kernel_rfl))
 f219:=Tryz.func132.trans (congrArg some (by kernel_rfl))
 f220:=Tryz.func112.trans (congrArg some (by kernel_rfl))
 f224:=Tryz.func143.trans (congrArg some (by kernel_rfl))
 f225:=Tryz.func142.trans (congrArg some (by kernel_rfl))
 f266:=Tryz.func98.trans (congrArg some (by kernel_rfl))
 f267:=Tryz.func144.trans (congrArg some (by kernel_rfl))
 f314:=Tryz.func151.trans (congrArg some (by kernel_rfl))
 t3:=Tryz.underlying3
 a3:=Tryz.isAgg3
 z3:=Tryz.sizeOf3
 v3:=Tryz.zeroValue3
 t4:=Tryz.underlying4
 a4:=Tryz.isAgg4
 z4:=Tryz.sizeOf4
 v4:=Tryz.zeroValue4
 t5:=Tryz.underlying5
 a5:=Tryz.isAgg5
 z5:=Tryz.sizeOf5
 v5:=Tryz.zeroValue5
 t9:=Tryz.underlying9
 a9:=Tryz.isAgg9
 z9:=Tryz.sizeOf9
 v9:=Tryz.zeroValue9
 t46:=Tryz.underlying154
 a46:=Tryz.isAgg154
 z46:=Tryz.sizeOf154
 v46:=Tryz.zeroValue154
 t51:=Tryz.underlying204
 a51:=Tryz.isAgg204
 z51:=Tryz.sizeOf204
 v51:=Tryz.zeroValue204
 t59:=Tryz.underlying136
 a59:=Tryz.isAgg136
 z59:=Tryz.sizeOf136
 v59:=Tryz.zeroValue136
 t146:=Tryz.underlying216
 a146:=Tryz.isAgg216
 z146:=Tryz.sizeOf216
 v146:=Tryz.zeroValue216
 g1:=by kernel_rfl }
open Go.RowKit Go.Lib in
theorem Tryz.strings_Cut (s sep:ByteArray) (m:Int) (w:World) (hs:s.size<4294967281) (hm:w.cell? ⟨1,0,none⟩=some (.int .i64 m)):
  Calls Tryz.prog 83 #[.string s,.string sep] w fun e w'=>e= .returned (.tuple #[.string ⟨(Lib.cut s.data.toList sep.data.toList).1.toArray⟩,.string ⟨(Lib.cut s.data.toList sep.data.toList).2.1.toArray⟩,.bool (Lib.cut s.data.toList sep.data.toList).2.2])/\∃ n,w'=w.drewN n:=Any.strings_Cut Tryz.lays145 s sep m w hs hm
def Tryz.lays138_ren:Go.Shelf.Ren:=⟨fun|138=>147|195=>152|218=>153|143=>148|219=>132|217=>57|225=>142|224=>143|267=>144|266=>98|314=>151|n=>n,fun|9=>9|3=>3|4=>4|5=>5|0=>0|46=>154|146=>216|51=>204|n=>n,fun|1=>1|n=>n⟩
theorem Tryz.lays138:Go.Proofs.Lays.n138 Tryz.prog Tryz.lays138_ren:={
 mixed:=by kernel_rfl
 f138:=Tryz.func147.trans (congrArg some (by kernel_rfl))
 f143:=Tryz.func148.trans (congrArg some (by kernel_rfl))
 f195:=Tryz.func152.trans (congrArg some (by kernel_rfl))
 f217:=Tryz.func57.trans (congrArg some (by kernel_rfl))
 f218:=Tryz.func153.trans (congrArg some (by kernel_rfl))
 f219:=Tryz.func132.trans (congrArg some (by kernel_rfl))
 f224:=Tryz.func143.trans (congrArg some (by kernel_rfl))
 f225:=Tryz.func142.trans (congrArg some (by kernel_rfl))
 f266:=Tryz.func98.trans (congrArg some (by kernel_rfl))
 f267:=Tryz.func144.trans (congrArg some (by kernel_rfl))
 f314:=Tryz.func151.trans (congrArg some (by kernel_rfl))
 t0:=Tryz.underlying0
 a0:=Tryz.isAgg0
 z0:=Tryz.sizeOf0
 v0:=Tryz.zeroValue0
 t3:=Tryz.underlying3
 a3:=Tryz.isAgg3
 z3:=Tryz.sizeOf3
 v3:=Tryz.zeroValue3
 t4:=Tryz.underlying4
 a4:=Tryz.isAgg4
 z4:=Tryz.sizeOf4
 v4:=Tryz.zeroValue4
 t5:=Tryz.underlying5
 a5:=Tryz.isAgg5
 z5:=Tryz.sizeOf5
 v5:=Tryz.zeroValue5
 t9:=Tryz.underlying9
 a9:=Tryz.isAgg9
 z9:=Tryz.sizeOf9
 v9:=Tryz.zeroValue9
 t46:=Tryz.underlying154
 a46:=Tryz.isAgg154
 z46:=Tryz.sizeOf154
 v46:=Tryz.zeroValue154
 t51:=Tryz.underlying204
 a51:=Tryz.isAgg204
 z51:=Tryz.sizeOf204
 v51:=Tryz.zeroValue204
 t146:=Tryz.underlying216
 a146:=Tryz.isAgg216
 z146:=Tryz.sizeOf216
 v146:=Tryz.zeroValue216
 g1:=by kernel_rfl }
open Go.RowKit Go.Lib in
theorem Tryz.strings_Count_one (s:ByteArray) (c:UInt8) (w:World):
  Calls Tryz.prog 147 #[.string s,.string ⟨#[c]⟩] w fun e w'=>e= .returned (.int .i64 (Lib.countByte s.data.toList c))/\w'=w:=Any.strings_Count_one Tryz.lays138 s c w
open Go.RowKit Go.Lib in
theorem Tryz.strings_Count (s sub:ByteArray) (m:Int) (w:World) (hs:s.size<4294967281) (hm:w.cell? ⟨1,0,none⟩=some (.int .i64 m)) (h2:2<=sub.size):
  Calls Tryz.prog 147 #[.string s,.string sub] w fun e w'=>e= .returned (.int .i64 (Lib.countB s sub))/\w'=w:=Any.strings_Count Tryz.lays138 s sub m w hs hm h2
def Tryz.laysM219_ren:Go.Shelf.Ren:=⟨fun|219=>132|217=>57|225=>142|224=>143|267=>144|266=>98|314=>151|n=>n,fun|9=>9|3=>3|4=>4|5=>5|46=>154|146=>216|51=>204|n=>n,fun|1=>1|n=>n⟩
theorem Tryz.laysM219:Go.Proofs.LaysM.n219 Tryz.prog Tryz.laysM219_ren:={
 mixed:=by kernel_rfl
 f217:=Tryz.func57.trans (congrArg some (by kernel_rfl))
 f219:=Tryz.func132.trans (congrArg some (by kernel_rfl))
 f224:=Tryz.func143.trans (congrArg some (by kernel_rfl))
 f225:=Tryz.func142.trans (congrArg some (by kernel_rfl))
 f266:=Tryz.func98.trans (congrArg some (by kernel_rfl))
 f267:=Tryz.func144.trans (congrArg some (by kernel_rfl))
 f314:=Tryz.func151.trans (congrArg some (by kernel_rfl))
 t3:=Tryz.underlying3
 a3:=Tryz.isAgg3
 z3:=Tryz.sizeOf3
 v3:=Tryz.zeroValue3
 t4:=Tryz.underlying4
 a4:=Tryz.isAgg4
 z4:=Tryz.sizeOf4
 v4:=Tryz.zeroValue4
 t5:=Tryz.underlying5
 a5:=Tryz.isAgg5
 z5:=Tryz.sizeOf5
 v5:=Tryz.zeroValue5
 t9:=Tryz.underlying9
 a9:=Tryz.isAgg9
 z9:=Tryz.sizeOf9
 v9:=Tryz.zeroValue9
 t46:=Tryz.underlying154
 a46:=Tryz.isAgg154
 z46:=Tryz.sizeOf154
 v46:=Tryz.zeroValue154
 t51:=Tryz.underlying204
 a51:=Tryz.isAgg204
 z51:=Tryz.sizeOf204
 v51:=Tryz.zeroValue204
 t146:=Tryz.underlying216
 a146:=Tryz.isAgg216
 z146:=Tryz.sizeOf216
 v146:=Tryz.zeroValue216
 g1:=by kernel_rfl
 i3:=by kernel_rfl
 i4:=by kernel_rfl
 i5:=by kernel_rfl
 i9:=by kernel_rfl
 i46:=by kernel_rfl
 i51:=by kernel_rfl
 i146:=by kernel_rfl
 m1:=by kernel_rfl
 s1_3:=fun w h=>Go.Proofs.cell_of_shapedOpen_int (zero:=#[.int .i64 0]) (t:=3) h (of_decide_eq_true (by kernel_rfl)) (by kernel_rfl) rfl (by kernel_rfl) (by kernel_rfl) Tryz.underlying3 }
open Go.RowKit Go.Lib in
theorem Tryz.stringslite_Index_shaped (s sub:ByteArray) (w:World) (h:w.ShapedOpen Tryz.prog) (hs:s.size<4294967281):
  Calls Tryz.prog 132 #[.string s,.string sub] w fun e w'=>e= .returned (.int .i64 (Lib.index s.data.toList sub.data.toList))/\w'=w:=Any.stringslite_Index_shaped Tryz.laysM219 s sub w h hs
def Tryz.laysM143_ren:Go.Shelf.Ren:=⟨fun|143=>148|219=>132|217=>57|225=>142|224=>143|267=>144|266=>98|314=>151|n=>n,fun|9=>9|3=>3|4=>4|5=>5|46=>154|146=>216|51=>204|n=>n,fun|1=>1|n=>n⟩
theorem Tryz.laysM143:Go.Proofs.LaysM.n143 Tryz.prog Tryz.laysM143_ren:={
 mixed:=by kernel_rfl
 f143:=Tryz.func148.trans (congrArg some (by kernel_rfl))
 f217:=Tryz.func57.trans (congrArg some (by kernel_rfl))
 f219:=Tryz.func132.trans (congrArg some (by kernel_rfl))
 f224:=Tryz.func143.trans (congrArg some (by kernel_rfl))
 f225:=Tryz.func142.trans (congrArg some (by kernel_rfl))
 f266:=Tryz.func98.trans (congrArg some (by kernel_rfl))
 f267:=Tryz.func144.trans (congrArg some (by kernel_rfl))
 f314:=Tryz.func151.trans (congrArg some (by kernel_rfl))
 t3:=Tryz.underlying3
 a3:=Tryz.isAgg3
 z3:=Tryz.sizeOf3
 v3:=Tryz.zeroValue3
 t4:=Tryz.underlying4
 a4:=Tryz.isAgg4
 z4:=Tryz.sizeOf4
 v4:=Tryz.zeroValue4
 t5:=Tryz.underlying5
 a5:=Tryz.isAgg5
 z5:=Tryz.sizeOf5
 v5:=Tryz.zeroValue5
 t9:=Tryz.underlying9
 a9:=Tryz.isAgg9
 z9:=Tryz.sizeOf9
 v9:=Tryz.zeroValue9
 t46:=Tryz.underlying154
 a46:=Tryz.isAgg154
 z46:=Tryz.sizeOf154
 v46:=Tryz.zeroValue154
 t51:=Tryz.underlying204
 a51:=Tryz.isAgg204
 z51:=Tryz.sizeOf204
 v51:=Tryz.zeroValue204
 t146:=Tryz.underlying216
 a146:=Tryz.isAgg216
 z146:=Tryz.sizeOf216
 v146:=Tryz.zeroValue216
 g1:=by kernel_rfl
 i3:=by kernel_rfl
 i4:=by kernel_rfl
 i5:=by kernel_rfl
 i9:=by kernel_rfl
 i46:=by kernel_rfl
 i51:=by kernel_rfl
 i146:=by kernel_rfl
 m1:=by kernel_rfl
 s1_3:=fun w h=>Go.Proofs.cell_of_shapedOpen_int (zero:=#[.int .i64 0]) (t:=3) h (of_decide_eq_true (by kernel_rfl)) (by kernel_rfl) rfl (by kernel_rfl) (by kernel_rfl) Tryz.underlying3 }
open Go.RowKit Go.Lib in
theorem Tryz.strings_Index_shaped (s sub:ByteArray) (w:World) (h:w.ShapedOpen Tryz.prog) (hs:s.size<4294967281):
  Calls Tryz.prog 148 #[.string s,.string sub] w fun e w'=>e= .returned (.int .i64 (Lib.index s.data.toList sub.data.toList))/\w'=w:=Any.strings_Index_shaped Tryz.laysM143 s sub w h hs
def Tryz.laysM220_ren:Go.Shelf.Ren:=⟨fun|220=>112|219=>132|217=>57|225=>142|224=>143|267=>144|266=>98|314=>151|n=>n,fun|9=>9|4=>4|3=>3|5=>5|46=>154|146=>216|51=>204|n=>n,fun|1=>1|n=>n⟩
theorem Tryz.laysM220:Go.Proofs.LaysM.n220 Tryz.prog Tryz.laysM220_ren:={
 mixed:=by kernel_rfl
 f217:=Tryz.func57.trans (congrArg some (by kernel_rfl))
 f219:=Tryz.func132.trans (congrArg some (by kernel_rfl))
 f220:=Tryz.func112.trans (congrArg some (by kernel_rfl))
 f224:=Tryz.func143.trans (congrArg some (by kernel_rfl))
 f225:=Tryz.func142.trans (congrArg some (by kernel_rfl))
 f266:=Tryz.func98.trans (congrArg some (by kernel_rfl))
 f267:=Tryz.func144.trans (congrArg some (by kernel_rfl))
 f314:=Tryz.func151.trans (congrArg some (by kernel_rfl))
 t3:=Tryz.underlying3
 a3:=Tryz.isAgg3
 z3:=Tryz.sizeOf3
 v3:=Tryz.zeroValue3
 t4:=Tryz.underlying4
 a4:=Tryz.isAgg4
 z4:=Tryz.sizeOf4
 v4:=Tryz.zeroValue4
 t5:=Tryz.underlying5
 a5:=Tryz.isAgg5
 z5:=Tryz.sizeOf5
 v5:=Tryz.zeroValue5
 t9:=Tryz.underlying9
 a9:=Tryz.isAgg9
 z9:=Tryz.sizeOf9
 v9:=Tryz.zeroValue9
 t46:=Tryz.underlying154
 a46:=Tryz.isAgg154
 z46:=Tryz.sizeOf154
 v46:=Tryz.zeroValue154
 t51:=Tryz.underlying204
 a51:=Tryz.isAgg204
 z51:=Tryz.sizeOf204
 v51:=Tryz.zeroValue204
 t146:=Tryz.underlying216
 a146:=Tryz.isAgg216
 z146:=Tryz.sizeOf216
 v146:=Tryz.zeroValue216
 g1:=by kernel_rfl
 i3:=by kernel_rfl
 i4:=by kernel_rfl
 i5:=by kernel_rfl
 i9:=by kernel_rfl
 i46:=by kernel_rfl
 i51:=by kernel_rfl
 i146:=by kernel_rfl
 m1:=by kernel_rfl
 s1_3:=fun w h=>Go.Proofs.cell_of_shapedOpen_int (zero:=#[.int .i64 0]) (t:=3) h (of_decide_eq_true (by kernel_rfl)) (by kernel_rfl) rfl (by kernel_rfl) (by kernel_rfl) Tryz.underlying3 }
open Go.RowKit Go.Lib in
theorem Tryz.stringslite_Cut_shaped (s sep:ByteArray) (w:World) (h:w.ShapedOpen Tryz.prog) (hs:s.size<4294967281):
  Calls Tryz.prog 112 #[.string s,.string sep] w fun e w'=>e= .returned (.tuple #[.string ⟨(Lib.cut s.data.toList sep.data.toList).1.toArray⟩,.string ⟨(Lib.cut s.data.toList sep.data.toList).2.1.toArray⟩,.bool (Lib.cut s.data.toList sep.data.toList).2.2])/\∃ n,w'=w.drewN n:=Any.stringslite_Cut_shaped Tryz.laysM220 s sep w h hs
def Tryz.laysM145_ren:Go.Shelf.Ren:=⟨fun|145=>83|220=>112|219=>132|217=>57|225=>142|224=>143|267=>144|266=>98|314=>151|n=>n,fun|9=>9|4=>4|59=>136|3=>3|5=>5|46=>154|146=>216|51=>204|n=>n,fun|1=>1|n=>n⟩
theorem Tryz.laysM145:Go.Proofs.LaysM.n145 Tryz.prog Tryz.laysM145_ren:={
 mixed:=by kernel_rfl
 f145:=Tryz.func83.trans (congrArg some (by kernel_rfl))
 f217:=Tryz.func57.trans (congrArg some (by kernel_rfl))
 f219:=Tryz.func132.trans (congrArg some (by kernel_rfl))
 f220:=Tryz.func112.trans (congrArg some (by kernel_rfl))
 f224:=Tryz.func143.trans (congrArg some (by kernel_rfl))
 f225:=Tryz.func142.trans (congrArg some (by kernel_rfl))
 f266:=Tryz.func98.trans (congrArg some (by kernel_rfl))
 f267:=Tryz.func144.trans (congrArg some (by kernel_rfl))
 f314:=Tryz.func151.trans (congrArg some (by kernel_rfl))
 t3:=Tryz.underlying3
 a3:=Tryz.isAgg3
 z3:=Tryz.sizeOf3
 v3:=Tryz.zeroValue3
 t4:=Tryz.underlying4
 a4:=Tryz.isAgg4
 z4:=Tryz.sizeOf4
 v4:=Tryz.zeroValue4
 t5:=Tryz.underlying5
 a5:=Tryz.isAgg5
 z5:=Tryz.sizeOf5
 v5:=Tryz.zeroValue5
 t9:=Tryz.underlying9
 a9:=Tryz.isAgg9
 z9:=Tryz.sizeOf9
 v9:=Tryz.zeroValue9
 t46:=Tryz.underlying154
 a46:=Tryz.isAgg154
 z46:=Tryz.sizeOf154
 v46:=Tryz.zeroValue154
 t51:=Tryz.underlying204
 a51:=Tryz.isAgg204
 z51:=Tryz.sizeOf204
 v51:=Tryz.zeroValue204
 t59:=Tryz.underlying136
 a59:=Tryz.isAgg136
 z59:=Tryz.sizeOf136
 v59:=Tryz.zeroValue136
 t146:=Tryz.underlying216
 a146:=Tryz.isAgg216
 z146:=Tryz.sizeOf216
 v146:=Tryz.zeroValue216
 g1:=by kernel_rfl
 i3:=by kernel_rfl
 i4:=by kernel_rfl
 i5:=by kernel_rfl
 i9:=by kernel_rfl
 i46:=by kernel_rfl
 i51:=by kernel_rfl
 i59:=by kernel_rfl
 i146:=by kernel_rfl
 m1:=by kernel_rfl
 s1_3:=fun w h=>Go.Proofs.cell_of_shapedOpen_int (zero:=#[.int .i64 0]) (t:=3) h (of_decide_eq_true (by kernel_rfl)) (by kernel_rfl) rfl (by kernel_rfl) (by kernel_rfl) Tryz.underlying3 }
open Go.RowKit Go.Lib in
theorem Tryz.strings_Cut_shaped (s sep:ByteArray) (w:World) (h:w.ShapedOpen Tryz.prog) (hs:s.size<4294967281):
  Calls Tryz.prog 83 #[.string s,.string sep] w fun e w'=>e= .returned (.tuple #[.string ⟨(Lib.cut s.data.toList sep.data.toList).1.toArray⟩,.string ⟨(Lib.cut s.data.toList sep.data.toList).2.1.toArray⟩,.bool (Lib.cut s.data.toList sep.data.toList).2.2])/\∃ n,w'=w.drewN n:=Any.strings_Cut_shaped Tryz.laysM145 s sep w h hs
def Tryz.laysM138_ren:Go.Shelf.Ren:=⟨fun|138=>147|195=>152|218=>153|143=>148|219=>132|217=>57|225=>142|224=>143|267=>144|266=>98|314=>151|n=>n,fun|9=>9|3=>3|4=>4|5=>5|0=>0|46=>154|146=>216|51=>204|n=>n,fun|1=>1|n=>n⟩
theorem Tryz.laysM138:Go.Proofs.LaysM.n138 Tryz.prog Tryz.laysM138_ren:={
 mixed:=by kernel_rfl
 f138:=Tryz.func147.trans (congrArg some (by kernel_rfl))
 f143:=Tryz.func148.trans (congrArg some (by kernel_rfl))
 f195:=Tryz.func152.trans (congrArg some (by kernel_rfl))
 f217:=Tryz.func57.trans (congrArg some (by kernel_rfl))
 f218:=Tryz.func153.trans (congrArg some (by kernel_rfl))
 f219:=Tryz.func132.trans (congrArg some (by kernel_rfl))
 f224:=Tryz.func143.trans (congrArg some (by kernel_rfl))
 f225:=Tryz.func142.trans (congrArg some (by kernel_rfl))
 f266:=Tryz.func98.trans (congrArg some (by kernel_rfl))
 f267:=Tryz.func144.trans (congrArg some (by kernel_rfl))
 f314:=Tryz.func151.trans (congrArg some (by kernel_rfl))
 t0:=Tryz.underlying0
 a0:=Tryz.isAgg0
 z0:=Tryz.sizeOf0
 v0:=Tryz.zeroValue0
 t3:=Tryz.underlying3
 a3:=Tryz.isAgg3
 z3:=Tryz.sizeOf3
 v3:=Tryz.zeroValue3
 t4:=Tryz.underlying4
 a4:=Tryz.isAgg4
 z4:=Tryz.sizeOf4
 v4:=Tryz.zeroValue4
 t5:=Tryz.underlying5
 a5:=Tryz.isAgg5
 z5:=Tryz.sizeOf5
 v5:=Tryz.zeroValue5
 t9:=Tryz.underlying9
 a9:=Tryz.isAgg9
 z9:=Tryz.sizeOf9
 v9:=Tryz.zeroValue9
 t46:=Tryz.underlying154
 a46:=Tryz.isAgg154
 z46:=Tryz.sizeOf154
 v46:=Tryz.zeroValue154
 t51:=Tryz.underlying204
 a51:=Tryz.isAgg204
 z51:=Tryz.sizeOf204
 v51:=Tryz.zeroValue204
 t146:=Tryz.underlying216
 a146:=Tryz.isAgg216
 z146:=Tryz.sizeOf216
 v146:=Tryz.zeroValue216
 g1:=by kernel_rfl
 i0:=by kernel_rfl
 i3:=by kernel_rfl
 i4:=by kernel_rfl
 i5:=by kernel_rfl
 i9:=by kernel_rfl
 i46:=by kernel_rfl
 i51:=by kernel_rfl
 i146:=by kernel_rfl
 m1:=by kernel_rfl
 s1_3:=fun w h=>Go.Proofs.cell_of_shapedOpen_int (zero:=#[.int .i64 0]) (t:=3) h (of_decide_eq_true (by kernel_rfl)) (by kernel_rfl) rfl (by kernel_rfl) (by kernel_rfl) Tryz.underlying3 }
open Go.RowKit Go.Lib in
theorem Tryz.strings_Count_shaped (s sub:ByteArray) (w:World) (h:w.ShapedOpen Tryz.prog) (hs:s.size<4294967281) (h2:2<=sub.size):
  Calls Tryz.prog 147 #[.string s,.string sub] w fun e w'=>e= .returned (.int .i64 (Lib.countB s sub))/\w'=w:=Any.strings_Count_shaped Tryz.laysM138 s sub w h hs h2
open Go.RowKit Go.Lib in
theorem Tryz.strings_Count_any (s sep:ByteArray) (m:Int) (w:World) (hs:s.size<4294967281) (hm:w.cell? ⟨1,0,none⟩=some (.int .i64 m)) (h1:1<=sep.size):
  Calls Tryz.prog 147 #[.string s,.string sep] w fun e w'=>e= .returned (.int .i64 (Lib.countB s sep))/\w'=w:=Any.strings_Count_any Tryz.lays138 s sep m w hs hm h1
def Tryz.lays221_ren:Go.Shelf.Ren:=⟨fun|221=>135|268=>146|138=>147|143=>148|195=>152|197=>93|218=>153|219=>132|260=>121|217=>57|225=>142|224=>143|267=>144|266=>98|314=>151|n=>n,fun|9=>9|3=>3|31=>127|4=>4|0=>0|105=>145|21=>21|5=>5|46=>154|119=>200|139=>203|138=>202|146=>216|51=>204|n=>n,fun|1=>1|3=>4|4=>5|n=>n⟩
theorem Tryz.lays221:Go.Proofs.Lays.n221 Tryz.prog Tryz.lays221_ren:={
 mixed:=by kernel_rfl
 f138:=Tryz.func147.trans (congrArg some (by kernel_rfl))
 f143:=Tryz.func148.trans (congrArg some (by kernel_rfl))
 f195:=Tryz.func152.trans (congrArg some (by kernel_rfl))
 f197:=Tryz.func93.trans (congrArg some (by kernel_rfl))
 f217:=Tryz.func57.trans (congrArg some (by kernel_rfl))
 f218:=Tryz.func153.trans (congrArg some (by kernel_rfl))
 f219:=Tryz.func132.trans (congrArg some (by kernel_rfl))
 f221:=Tryz.func135.trans (congrArg some (by kernel_rfl))
 f224:=Tryz.func143.trans (congrArg some (by kernel_rfl))
 f225:=Tryz.func142.trans (congrArg some (by kernel_rfl))
 f260:=Tryz.func121.trans (congrArg some (by kernel_rfl))
 f266:=Tryz.func98.trans (congrArg some (by kernel_rfl))
 f267:=Tryz.func144.trans (congrArg some (by kernel_rfl))
 f268:=Tryz.func146.trans (congrArg some (by kernel_rfl))
 f314:=Tryz.func151.trans (congrArg some (by kernel_rfl))
 t0:=Tryz.underlying0
 a0:=Tryz.isAgg0
 z0:=Tryz.sizeOf0
 v0:=Tryz.zeroValue0
 t3:=Tryz.underlying3
 a3:=Tryz.isAgg3
 z3:=Tryz.sizeOf3
 v3:=Tryz.zeroValue3
 t4:=Tryz.underlying4
 a4:=Tryz.isAgg4
 z4:=Tryz.sizeOf4
 v4:=Tryz.zeroValue4
 t5:=Tryz.underlying5
 a5:=Tryz.isAgg5
 z5:=Tryz.sizeOf5
 v5:=Tryz.zeroValue5
 t9:=Tryz.underlying9
 a9:=Tryz.isAgg9
 z9:=Tryz.sizeOf9
 v9:=Tryz.zeroValue9
 t21:=Tryz.underlying21
 a21:=Tryz.isAgg21
 z21:=Tryz.sizeOf21
 v21:=Tryz.zeroValue21
 t31:=Tryz.underlying127
 a31:=Tryz.isAgg127
 z31:=Tryz.sizeOf127
 v31:=Tryz.zeroValue127
 t46:=Tryz.underlying154
 a46:=Tryz.isAgg154
 z46:=Tryz.sizeOf154
 v46:=Tryz.zeroValue154
 t51:=Tryz.underlying204
 a51:=Tryz.isAgg204
 z51:=Tryz.sizeOf204
 v51:=Tryz.zeroValue204
 t105:=Tryz.underlying145
 a105:=Tryz.isAgg145
 z105:=Tryz.sizeOf145
 v105:=Tryz.zeroValue145
 t119:=Tryz.underlying200
 a119:=Tryz.isAgg200
 z119:=Tryz.sizeOf200
 t138:=Tryz.underlying202
 a138:=Tryz.isAgg202
 z138:=Tryz.sizeOf202
 v138:=Tryz.zeroValue202
 t139:=Tryz.underlying203
 a139:=Tryz.isAgg203
 z139:=Tryz.sizeOf203
 v139:=Tryz.zeroValue203
 t146:=Tryz.underlying216
 a146:=Tryz.isAgg216
 z146:=Tryz.sizeOf216
 v146:=Tryz.zeroValue216
 g1:=by kernel_rfl
 g3:=by kernel_rfl
 g4:=by kernel_rfl }
open Go.RowKit Go.Lib in
theorem Tryz.strings_genSplit (s sep:ByteArray) (sv:Nat) (n:Int) (N:Nat) (m:Int) (w:World) (hs:s.size<4294967281) (hm:w.cell? ⟨1,0,none⟩=some (.int .i64 m)) (h1:1<=sep.size) (hsv:sv<=sep.size) (hn0:n≠0) (hn63:n<=9223372036854775807) (hN:(N:Int)=min (if n<0 then (Lib.countB s sep:Int)+1 else n) ((s.size:Int)+1)):
  Calls Tryz.prog 135 #[.string s,.string sep,.int .i64 sv,.int .i64 n] w fun e w'=>
   e= .returned (.slice (some ⟨w.heap.size,0,none⟩) (Lib.splitB sep sv (N - 1) s).length N)/\w'=w.alloc (.cells (Lib.cellsOf (Lib.splitB sep sv (N - 1) s) N) 9):=Any.strings_genSplit Tryz.lays221 (by kernel_rfl) s sep sv n N m w hs hm h1 hsv hn0 hn63 hN
def Tryz.lays146_ren:Go.Shelf.Ren:=⟨fun|146=>117|221=>135|268=>146|138=>147|143=>148|195=>152|197=>93|218=>153|219=>132|260=>121|217=>57|225=>142|224=>143|267=>144|266=>98|314=>151|n=>n,fun|9=>9|31=>127|3=>3|4=>4|0=>0|105=>145|21=>21|5=>5|46=>154|119=>200|139=>203|138=>202|146=>216|51=>204|n=>n,fun|1=>1|3=>4|4=>5|n=>n⟩
theorem Tryz.lays146:Go.Proofs.Lays.n146 Tryz.prog Tryz.lays146_ren:={
 mixed:=by kernel_rfl
 f138:=Tryz.func147.trans (congrArg some (by kernel_rfl))
 f143:=Tryz.func148.trans (congrArg some (by kernel_rfl))
 f146:=Tryz.func117.trans (congrArg some (by kernel_rfl))
 f195:=Tryz.func152.trans (congrArg some (by kernel_rfl))
 f197:=Tryz.func93.trans (congrArg some (by kernel_rfl))
 f217:=Tryz.func57.trans (congrArg some (by kernel_rfl))
 f218:=Tryz.func153.trans (congrArg some (by kernel_rfl))
 f219:=Tryz.func132.trans (congrArg some (by kernel_rfl))
 f221:=Tryz.func135.trans (congrArg some (by kernel_rfl))
 f224:=Tryz.func143.trans (congrArg some (by kernel_rfl))
 f225:=Tryz.func142.trans (congrArg some (by kernel_rfl))
 f260:=Tryz.func121.trans (congrArg some (by kernel_rfl))
 f266:=Tryz.func98.trans (congrArg some (by kernel_rfl))
 f267:=Tryz.func144.trans (congrArg some (by kernel_rfl))
 f268:=Tryz.func146.trans (congrArg some (by kernel_rfl))
 f314:=Tryz.func151.trans (congrArg some (by kernel_rfl))
 t0:=Tryz.underlying0
 a0:=Tryz.isAgg0
 z0:=Tryz.sizeOf0
 v0:=Tryz.zeroValue0
 t3:=Tryz.underlying3
 a3:=Tryz.isAgg3
 z3:=Tryz.sizeOf3
 v3:=Tryz.zeroValue3
 t4:=Tryz.underlying4
 a4:=Tryz.isAgg4
 z4:=Tryz.sizeOf4
 v4:=Tryz.zeroValue4
 t5:=Tryz.underlying5
 a5:=Tryz.isAgg5
 z5:=Tryz.sizeOf5
 v5:=Tryz.zeroValue5
 t9:=Tryz.underlying9
 a9:=Tryz.isAgg9
 z9:=Tryz.sizeOf9
 v9:=Tryz.zeroValue9
 t21:=Tryz.underlying21
 a21:=Tryz.isAgg21
 z21:=Tryz.sizeOf21
 v21:=Tryz.zeroValue21
 t31:=Tryz.underlying127
 a31:=Tryz.isAgg127
 z31:=Tryz.sizeOf127
 v31:=Tryz.zeroValue127
 t46:=Tryz.underlying154
 a46:=Tryz.isAgg154
 z46:=Tryz.sizeOf154
 v46:=Tryz.zeroValue154
 t51:=Tryz.underlying204
 a51:=Tryz.isAgg204
 z51:=Tryz.sizeOf204
 v51:=Tryz.zeroValue204
 t105:=Tryz.underlying145
 a105:=Tryz.isAgg145
 z105:=Tryz.sizeOf145
 v105:=Tryz.zeroValue145
 t119:=Tryz.underlying200
 a119:=Tryz.isAgg200
 z119:=Tryz.sizeOf200
 t138:=Tryz.underlying202
 a138:=Tryz.isAgg202
 z138:=Tryz.sizeOf202
 v138:=Tryz.zeroValue202
 t139:=Tryz.underlying203
 a139:=Tryz.isAgg203
 z139:=Tryz.sizeOf203
 v139:=Tryz.zeroValue203
 t146:=Tryz.underlying216
 a146:=Tryz.isAgg216
 z146:=Tryz.sizeOf216
 v146:=Tryz.zeroValue216
 g1:=by kernel_rfl
 g3:=by kernel_rfl
 g4:=by kernel_rfl }
open Go.RowKit Go.Lib in
theorem Tryz.strings_Split (s sep:ByteArray) (m:Int) (w:World) (hs:s.size<4294967281) (hm:w.cell? ⟨1,0,none⟩=some (.int .i64 m)) (h1:1<=sep.size):
  Calls Tryz.prog 117 #[.string s,.string sep] w fun e w'=>
   e= .returned (.slice (some ⟨w.heap.size,0,none⟩) (Lib.countB s sep+1) (Lib.countB s sep+1))/\w'=w.alloc (.cells ((Lib.splitB sep 0 (Lib.countB s sep) s).map Value.string).toArray 9):=Any.strings_Split Tryz.lays146 (by kernel_rfl) s sep m w hs hm h1
def Tryz.lays164_ren:Go.Shelf.Ren:=⟨fun|164=>88|197=>93|239=>118|260=>121|274=>136|275=>137|n=>n,fun|9=>9|4=>4|3=>3|5=>5|0=>0|21=>21|105=>145|156=>193|49=>192|157=>194|46=>154|159=>196|162=>176|160=>197|119=>200|139=>203|138=>202|208=>213|51=>204|206=>211|n=>n,fun|11=>2|12=>3|13=>0|3=>4|4=>5|n=>n⟩
theorem Tryz.lays164:Go.Proofs.Lays.n164 Tryz.prog Tryz.lays164_ren:={
 mixed:=by kernel_rfl
 f164:=Tryz.func88.trans (congrArg some (by kernel_rfl))
 f197:=Tryz.func93.trans (congrArg some (by kernel_rfl))
 f239:=Tryz.func118.trans (congrArg some (by kernel_rfl))
 f260:=Tryz.func121.trans (congrArg some (by kernel_rfl))
 f274:=Tryz.func136.trans (congrArg some (by kernel_rfl))
 f275:=Tryz.func137.trans (congrArg some (by kernel_rfl))
 t0:=Tryz.underlying0
 a0:=Tryz.isAgg0
 z0:=Tryz.sizeOf0
 v0:=Tryz.zeroValue0
 t3:=Tryz.underlying3
 a3:=Tryz.isAgg3
 z3:=Tryz.sizeOf3
 v3:=Tryz.zeroValue3
 t4:=Tryz.underlying4
 a4:=Tryz.isAgg4
 z4:=Tryz.sizeOf4
 v4:=Tryz.zeroValue4
 t5:=Tryz.underlying5
 a5:=Tryz.isAgg5
 z5:=Tryz.sizeOf5
 v5:=Tryz.zeroValue5
 t9:=Tryz.underlying9
 a9:=Tryz.isAgg9
 z9:=Tryz.sizeOf9
 v9:=Tryz.zeroValue9
 t21:=Tryz.underlying21
 a21:=Tryz.isAgg21
 z21:=Tryz.sizeOf21
 v21:=Tryz.zeroValue21
 t46:=Tryz.underlying154
 a46:=Tryz.isAgg154
 z46:=Tryz.sizeOf154
 v46:=Tryz.zeroValue154
 t49:=Tryz.underlying192
 a49:=Tryz.isAgg192
 z49:=Tryz.sizeOf192
 v49:=Tryz.zeroValue192
 t51:=Tryz.underlying204
 a51:=Tryz.isAgg204
 z51:=Tryz.sizeOf204
 v51:=Tryz.zeroValue204
 t105:=Tryz.underlying145
 a105:=Tryz.isAgg145
 z105:=Tryz.sizeOf145
 v105:=Tryz.zeroValue145
 t119:=Tryz.underlying200
 a119:=Tryz.isAgg200
 z119:=Tryz.sizeOf200
 t138:=Tryz.underlying202
 a138:=Tryz.isAgg202
 z138:=Tryz.sizeOf202
 v138:=Tryz.zeroValue202
 t139:=Tryz.underlying203
 a139:=Tryz.isAgg203
 z139:=Tryz.sizeOf203
 v139:=Tryz.zeroValue203
 t156:=Tryz.underlying193
 a156:=Tryz.isAgg193
 z156:=Tryz.sizeOf193
 t157:=Tryz.underlying194
 a157:=Tryz.isAgg194
 z157:=Tryz.sizeOf194
 v157:=Tryz.zeroValue194
 t159:=Tryz.underlying196
 a159:=Tryz.isAgg196
 z159:=Tryz.sizeOf196
 v159:=Tryz.zeroValue196
 t160:=Tryz.underlying197
 a160:=Tryz.isAgg197
 z160:=Tryz.sizeOf197
 v160:=Tryz.zeroValue197
 t162:=Tryz.underlying176
 a162:=Tryz.isAgg176
 z162:=Tryz.sizeOf176
 v162:=Tryz.zeroValue176
 t206:=Tryz.underlying211
 a206:=Tryz.isAgg211
 z206:=Tryz.sizeOf211
 v206:=Tryz.zeroValue211
 t208:=Tryz.underlying213
 a208:=Tryz.isAgg213
 z208:=Tryz.sizeOf213
 v208:=Tryz.zeroValue213
 g3:=by kernel_rfl
 g4:=by kernel_rfl
 g11:=by kernel_rfl
 g12:=by kernel_rfl
 g13:=by kernel_rfl }
open Go.RowKit Go.Lib in
theorem Tryz.strings_EqualFold (s t:ByteArray) (w:World) (hs:s.size<4294967281) (has:∀ (j:Nat) b,s.data.toList[j]?=some b->b.toNat<128) (hat:∀ (j:Nat) b,t.data.toList[j]?=some b->b.toNat<128):
  Calls Tryz.prog 88 #[.string s,.string t] w fun e w'=>e= .returned (.bool (Lib.equalFold s.data.toList t.data.toList))/\w'=w:=Any.strings_EqualFold Tryz.lays164 s t w hs has hat
def Tryz.laysM146_ren:Go.Shelf.Ren:=⟨fun|146=>117|221=>135|268=>146|138=>147|143=>148|195=>152|197=>93|218=>153|219=>132|260=>121|217=>57|225=>142|224=>143|267=>144|266=>98|314=>151|n=>n,fun|9=>9|31=>127|3=>3|4=>4|0=>0|105=>145|21=>21|5=>5|46=>154|119=>200|139=>203|138=>202|146=>216|51=>204|n=>n,fun|1=>1|3=>4|4=>5|n=>n⟩
theorem Tryz.laysM146:Go.Proofs.LaysM.n146 Tryz.prog Tryz.laysM146_ren:={
 mixed:=by kernel_rfl
 f138:=Tryz.func147.trans (congrArg some (by kernel_rfl))
 f143:=Tryz.func148.trans (congrArg some (by kernel_rfl))
 f146:=Tryz.func117.trans (congrArg some (by kernel_rfl))
 f195:=Tryz.func152.trans (congrArg some (by kernel_rfl))
 f197:=Tryz.func93.trans (congrArg some (by kernel_rfl))
 f217:=Tryz.func57.trans (congrArg some (by kernel_rfl))
 f218:=Tryz.func153.trans (congrArg some (by kernel_rfl))
 f219:=Tryz.func132.trans (congrArg some (by kernel_rfl))
 f221:=Tryz.func135.trans (congrArg some (by kernel_rfl))
 f224:=Tryz.func143.trans (congrArg some (by kernel_rfl))
 f225:=Tryz.func142.trans (congrArg some (by kernel_rfl))
 f260:=Tryz.func121.trans (congrArg some (by kernel_rfl))
 f266:=Tryz.func98.trans (congrArg some (by kernel_rfl))
 f267:=Tryz.func144.trans (congrArg some (by kernel_rfl))
 f268:=Tryz.func146.trans (congrArg some (by kernel_rfl))
 f314:=Tryz.func151.trans (congrArg some (by kernel_rfl))
 t0:=Tryz.underlying0
 a0:=Tryz.isAgg0
 z0:=Tryz.sizeOf0
 v0:=Tryz.zeroValue0
 t3:=Tryz.underlying3
 a3:=Tryz.isAgg3
 z3:=Tryz.sizeOf3
 v3:=Tryz.zeroValue3
 t4:=Tryz.underlying4
 a4:=Tryz.isAgg4
 z4:=Tryz.sizeOf4
 v4:=Tryz.zeroValue4
 t5:=Tryz.underlying5
 a5:=Tryz.isAgg5
 z5:=Tryz.sizeOf5
 v5:=Tryz.zeroValue5
 t9:=Tryz.underlying9
 a9:=Tryz.isAgg9
 z9:=Tryz.sizeOf9
 v9:=Tryz.zeroValue9
 t21:=Tryz.underlying21
 a21:=Tryz.isAgg21
 z21:=Tryz.sizeOf21
 v21:=Tryz.zeroValue21
 t31:=Tryz.underlying127
 a31:=Tryz.isAgg127
 z31:=Tryz.sizeOf127
 v31:=Tryz.zeroValue127
 t46:=Tryz.underlying154
 a46:=Tryz.isAgg154
 z46:=Tryz.sizeOf154
 v46:=Tryz.zeroValue154
 t51:=Tryz.underlying204
 a51:=Tryz.isAgg204
 z51:=Tryz.sizeOf204
 v51:=Tryz.zeroValue204
 t105:=Tryz.underlying145
 a105:=Tryz.isAgg145
 z105:=Tryz.sizeOf145
 v105:=Tryz.zeroValue145
 t119:=Tryz.underlying200
 a119:=Tryz.isAgg200
 z119:=Tryz.sizeOf200
 t138:=Tryz.underlying202
 a138:=Tryz.isAgg202
 z138:=Tryz.sizeOf202
 v138:=Tryz.zeroValue202
 t139:=Tryz.underlying203
 a139:=Tryz.isAgg203
 z139:=Tryz.sizeOf203
 v139:=Tryz.zeroValue203
 t146:=Tryz.underlying216
 a146:=Tryz.isAgg216
 z146:=Tryz.sizeOf216
 v146:=Tryz.zeroValue216
 g1:=by kernel_rfl
 g3:=by kernel_rfl
 g4:=by kernel_rfl
 i0:=by kernel_rfl
 i3:=by kernel_rfl
 i4:=by kernel_rfl
 i5:=by kernel_rfl
 i9:=by kernel_rfl
 i21:=by kernel_rfl
 i31:=by kernel_rfl
 i46:=by kernel_rfl
 i51:=by kernel_rfl
 i105:=by kernel_rfl
 i138:=by kernel_rfl
 i139:=by kernel_rfl
 i146:=by kernel_rfl
 m1:=by kernel_rfl
 s1_3:=fun w h=>Go.Proofs.cell_of_shapedOpen_int (zero:=#[.int .i64 0]) (t:=3) h (of_decide_eq_true (by kernel_rfl)) (by kernel_rfl) rfl (by kernel_rfl) (by kernel_rfl) Tryz.underlying3
 m3:=by kernel_rfl
 m4:=by kernel_rfl }
open Go.RowKit Go.Lib in
theorem Tryz.strings_Split_shaped (s sep:ByteArray) (w:World) (h:w.ShapedOpen Tryz.prog) (hs:s.size<4294967281) (h1:1<=sep.size):
  Calls Tryz.prog 117 #[.string s,.string sep] w fun e w'=>
   e= .returned (.slice (some ⟨w.heap.size,0,none⟩) (Lib.countB s sep+1) (Lib.countB s sep+1))/\w'=w.alloc (.cells ((Lib.splitB sep 0 (Lib.countB s sep) s).map Value.string).toArray 9):=Any.strings_Split_shaped Tryz.laysM146 s sep w h hs h1
def Tryz.lays197_ren:Go.Shelf.Ren:=⟨fun|197=>93|260=>121|n=>n,fun|9=>9|21=>21|3=>3|4=>4|5=>5|105=>145|119=>200|0=>0|46=>154|139=>203|138=>202|n=>n,fun|3=>4|4=>5|n=>n⟩
theorem Tryz.lays197:Go.Proofs.Lays.n197 Tryz.prog Tryz.lays197_ren:={
 mixed:=by kernel_rfl
 f197:=Tryz.func93.trans (congrArg some (by kernel_rfl))
 f260:=Tryz.func121.trans (congrArg some (by kernel_rfl))
 t0:=Tryz.underlying0
 a0:=Tryz.isAgg0
 z0:=Tryz.sizeOf0
 v0:=Tryz.zeroValue0
 t3:=Tryz.underlying3
 a3:=Tryz.isAgg3
 z3:=Tryz.sizeOf3
 v3:=Tryz.zeroValue3
 t4:=Tryz.underlying4
 a4:=Tryz.isAgg4
 z4:=Tryz.sizeOf4
 v4:=Tryz.zeroValue4
 t5:=Tryz.underlying5
 a5:=Tryz.isAgg5
 z5:=Tryz.sizeOf5
 v5:=Tryz.zeroValue5
 t9:=Tryz.underlying9
 a9:=Tryz.isAgg9
 z9:=Tryz.sizeOf9
 v9:=Tryz.zeroValue9
 t21:=Tryz.underlying21
 a21:=Tryz.isAgg21
 z21:=Tryz.sizeOf21
 v21:=Tryz.zeroValue21
 t46:=Tryz.underlying154
 a46:=Tryz.isAgg154
 z46:=Tryz.sizeOf154
 v46:=Tryz.zeroValue154
 t105:=Tryz.underlying145
 a105:=Tryz.isAgg145
 z105:=Tryz.sizeOf145
 v105:=Tryz.zeroValue145
 t119:=Tryz.underlying200
 a119:=Tryz.isAgg200
 z119:=Tryz.sizeOf200
 t138:=Tryz.underlying202
 a138:=Tryz.isAgg202
 z138:=Tryz.sizeOf202
 v138:=Tryz.zeroValue202
 t139:=Tryz.underlying203
 a139:=Tryz.isAgg203
 z139:=Tryz.sizeOf203
 v139:=Tryz.zeroValue203
 g3:=by kernel_rfl
 g4:=by kernel_rfl }
open Go.RowKit Go.Lib in
theorem Tryz.utf8_DecodeRuneInString_ascii (s:ByteArray) (x:UInt8) (w:World) (h0:s.data.toList[0]?=some x) (hx:x.toNat<128):
  Calls Tryz.prog 93 #[.string s] w fun e w'=>e= .returned (.tuple #[.int .i32 x.toNat,.int .i64 1])/\w'=w:=Any.utf8_DecodeRuneInString_ascii Tryz.lays197 s x w h0 hx
def Tryz.lays195_ren:Go.Shelf.Ren:=⟨fun|195=>152|n=>n,fun|9=>9|3=>3|0=>0|4=>4|n=>n,fun|n=>n⟩
theorem Tryz.lays195:Go.Proofs.Lays.n195 Tryz.prog Tryz.lays195_ren:={
 mixed:=by kernel_rfl
 f195:=Tryz.func152.trans (congrArg some (by kernel_rfl))
 t0:=Tryz.underlying0
 a0:=Tryz.isAgg0
 z0:=Tryz.sizeOf0
 v0:=Tryz.zeroValue0
 t3:=Tryz.underlying3
 a3:=Tryz.isAgg3
 z3:=Tryz.sizeOf3
 v3:=Tryz.zeroValue3
 t4:=Tryz.underlying4
 a4:=Tryz.isAgg4
 z4:=Tryz.sizeOf4
 v4:=Tryz.zeroValue4
 t9:=Tryz.underlying9
 a9:=Tryz.isAgg9
 z9:=Tryz.sizeOf9
 v9:=Tryz.zeroValue9 }
open Go.RowKit Go.Lib in
theorem Tryz.utf8_RuneCountInString_ascii (s:ByteArray) (w:World) (hs:s.size<4294967281) (hascii:∀ (j:Nat) b,s.data.toList[j]?=some b->b.toNat<128):
  Calls Tryz.prog 152 #[.string s] w fun e w'=>e= .returned (.int .i64 s.size)/\w'=w.iter s s.size:=Any.utf8_RuneCountInString_ascii Tryz.lays195 s w hs hascii
def Tryz.lays268_ren:Go.Shelf.Ren:=⟨fun|268=>146|195=>152|197=>93|260=>121|n=>n,fun|9=>9|3=>3|31=>127|4=>4|105=>145|21=>21|0=>0|5=>5|119=>200|46=>154|139=>203|138=>202|n=>n,fun|3=>4|4=>5|n=>n⟩
theorem Tryz.lays268:Go.Proofs.Lays.n268 Tryz.prog Tryz.lays268_ren:={
 mixed:=by kernel_rfl
 f195:=Tryz.func152.trans (congrArg some (by kernel_rfl))
 f197:=Tryz.func93.trans (congrArg some (by kernel_rfl))
 f260:=Tryz.func121.trans (congrArg some (by kernel_rfl))
 f268:=Tryz.func146.trans (congrArg some (by kernel_rfl))
 t0:=Tryz.underlying0
 a0:=Tryz.isAgg0
 z0:=Tryz.sizeOf0
 v0:=Tryz.zeroValue0
 t3:=Tryz.underlying3
 a3:=Tryz.isAgg3
 z3:=Tryz.sizeOf3
 v3:=Tryz.zeroValue3
 t4:=Tryz.underlying4
 a4:=Tryz.isAgg4
 z4:=Tryz.sizeOf4
 v4:=Tryz.zeroValue4
 t5:=Tryz.underlying5
 a5:=Tryz.isAgg5
 z5:=Tryz.sizeOf5
 v5:=Tryz.zeroValue5
 t9:=Tryz.underlying9
 a9:=Tryz.isAgg9
 z9:=Tryz.sizeOf9
 v9:=Tryz.zeroValue9
 t21:=Tryz.underlying21
 a21:=Tryz.isAgg21
 z21:=Tryz.sizeOf21
 v21:=Tryz.zeroValue21
 t31:=Tryz.underlying127
 a31:=Tryz.isAgg127
 z31:=Tryz.sizeOf127
 v31:=Tryz.zeroValue127
 t46:=Tryz.underlying154
 a46:=Tryz.isAgg154
 z46:=Tryz.sizeOf154
 v46:=Tryz.zeroValue154
 t105:=Tryz.underlying145
 a105:=Tryz.isAgg145
 z105:=Tryz.sizeOf145
 v105:=Tryz.zeroValue145
 t119:=Tryz.underlying200
 a119:=Tryz.isAgg200
 z119:=Tryz.sizeOf200
 t138:=Tryz.underlying202
 a138:=Tryz.isAgg202
 z138:=Tryz.sizeOf202
 v138:=Tryz.zeroValue202
 t139:=Tryz.underlying203
 a139:=Tryz.isAgg203
 z139:=Tryz.sizeOf203
 v139:=Tryz.zeroValue203
 g3:=by kernel_rfl
 g4:=by kernel_rfl }
open Go.RowKit Go.Lib in
theorem Tryz.strings_explode_all (s:ByteArray) (n:Int) (w:World) (hn:n<0) (hs:s.size<4294967281) (hascii:∀ (j:Nat) b,s.data.toList[j]?=some b->b.toNat<128):
  Calls Tryz.prog 146 #[.string s,.int .i64 n] w fun e w'=>
   e= .returned (.slice (some ⟨(w.iter s s.size).heap.size,0,none⟩) s.size s.size)/\w'=(w.iter s s.size).alloc (.cells ((Lib.charsB s).map Value.string).toArray 9):=Any.strings_explode_all Tryz.lays268 (by kernel_rfl) s n w hn hs hascii
open Go.RowKit Go.Lib in
theorem Tryz.strings_genSplit_chars (s sep:ByteArray) (sv n:Int) (w:World) (h0:sep.size=0) (hn:n<0) (hs:s.size<4294967281) (hascii:∀ (j:Nat) b,s.data.toList[j]?=some b->b.toNat<128):
  Calls Tryz.prog 135 #[.string s,.string sep,.int .i64 sv,.int .i64 n] w fun e w'=>
   e= .returned (.slice (some ⟨(w.iter s s.size).heap.size,0,none⟩) s.size s.size)/\w'=(w.iter s s.size).alloc (.cells ((Lib.charsB s).map Value.string).toArray 9):=Any.strings_genSplit_chars Tryz.lays221 (by kernel_rfl) s sep sv n w h0 hn hs hascii
open Go.RowKit Go.Lib in
theorem Tryz.strings_Split_chars (s sep:ByteArray) (w:World) (h0:sep.size=0) (hs:s.size<4294967281) (hascii:∀ (j:Nat) b,s.data.toList[j]?=some b->b.toNat<128):
  Calls Tryz.prog 117 #[.string s,.string sep] w fun e w'=>
   e= .returned (.slice (some ⟨(w.iter s s.size).heap.size,0,none⟩) s.size s.size)/\w'=(w.iter s s.size).alloc (.cells ((Lib.charsB s).map Value.string).toArray 9):=Any.strings_Split_chars Tryz.lays146 (by kernel_rfl) s sep w h0 hs hascii
def Tryz.lays264_ren:Go.Shelf.Ren:=⟨fun|264=>127|n=>n,fun|53=>110|46=>154|n=>n,fun|n=>n⟩
theorem Tryz.lays264:Go.Proofs.Lays.n264 Tryz.prog Tryz.lays264_ren:={
 mixed:=by kernel_rfl
 f264:=Tryz.func127.trans (congrArg some (by kernel_rfl))
 t46:=Tryz.underlying154
 a46:=Tryz.isAgg154
 z46:=Tryz.sizeOf154
 v46:=Tryz.zeroValue154
 t53:=Tryz.underlying110
 a53:=Tryz.isAgg110
 z53:=Tryz.sizeOf110
 v53:=Tryz.zeroValue110 }
open Go.RowKit Go.Lib in
theorem Tryz.bits_Mul64 (x y:Nat) (hx:x<18446744073709551616) (hy:y<18446744073709551616) (w:World):
  Calls Tryz.prog 127 #[.int .u64 x,.int .u64 y] w fun e w'=>e= .returned (.tuple #[.int .u64 ((x*y / 18446744073709551616:Nat):Int),.int .u64 ((x*y % 18446744073709551616:Nat):Int)])/\w'=w:=Any.bits_Mul64 Tryz.lays264 x y hx hy w
end Go.Proofs
end
