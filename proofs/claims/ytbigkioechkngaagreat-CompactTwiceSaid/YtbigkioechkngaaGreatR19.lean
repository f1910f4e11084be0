/- The proof, part 20. -/
import Derived.Shelf.Strings.Builder1
import Derived.Shelf.Strings.Builder2
import Derived.Shelf.Small.Bits
import Derived.Shelf.Strings.BuilderF
import Derived.Shelf.Strings.BuilderK
import Derived.Shelf.Strings.Builder2Cap
import Derived.Shelf.Strconv.Itoa0
import Derived.Shelf.Strings.Prefix
import Derived.Shelf.Bits.Mul64
import Derived.Shelf.Strings.Repeat
import Derived.Shelf.Strings.BuilderCap
import Derived.Ground.Names2Prog
import Derived.Shelf.Slices.Clone
import Derived.Ground.SlgnProg
import Derived.Shelf.SlicesE.Clone
import Derived.Test.YtbigkioechkngaaGreatProg
import Derived.Test.YtbigkioechkngaaGreatR0
set_option maxRecDepth 100000
set_option maxHeartbeats 8000000
namespace Go.Proofs
open Go.Shelf
def Tryz.xY:Go.Shelf.Ren:=⟨fun|105=>82|212=>129|99=>130|165=>131|166=>132|170=>133|169=>134|263=>166|264=>167|206=>168|240=>169|241=>170|276=>201|277=>202|n=>n,fun|9=>9|3=>3|4=>4|20=>20|0=>0|46=>168|109=>169|5=>5|72=>174|76=>178|51=>210|146=>211|53=>213|148=>214|70=>172|37=>112|75=>177|127=>216|164=>247|80=>143|n=>n,fun|n=>n⟩
theorem Tryz.Ws:Go.Proofs.Lays.n105 Tryz.prog Tryz.xY:={
 mixed:=by kernel_rfl
 f99:=Tryz.func130.trans (congrArg some (by kernel_rfl))
 f105:=Tryz.func82.trans (congrArg some (by kernel_rfl))
 f165:=Tryz.func131.trans (congrArg some (by kernel_rfl))
 f166:=Tryz.func132.trans (congrArg some (by kernel_rfl))
 f169:=Tryz.func134.trans (congrArg some (by kernel_rfl))
 f170:=Tryz.func133.trans (congrArg some (by kernel_rfl))
 f206:=Tryz.func168.trans (congrArg some (by kernel_rfl))
 f212:=Tryz.func129.trans (congrArg some (by kernel_rfl))
 f240:=Tryz.func169.trans (congrArg some (by kernel_rfl))
 f241:=Tryz.func170.trans (congrArg some (by kernel_rfl))
 f263:=Tryz.func166.trans (congrArg some (by kernel_rfl))
 f264:=Tryz.func167.trans (congrArg some (by kernel_rfl))
 f276:=Tryz.func201.trans (congrArg some (by kernel_rfl))
 f277:=Tryz.func202.trans (congrArg some (by kernel_rfl))
 t0:=Tryz.underlying0
 a0:=Tryz.isAgg0
 z0:=Tryz.sizeOf0
 v0:=Tryz.zeroValue0
 t3:=Tryz.underlying3
 a3:=Tryz.isAgg3
 z3:=Tryz.sizeOf3
 v3:=Tryz.zeroValue3
 t4:=Tryz.underlying4
 a4:=Tryz.isAgg4
 z4:=Tryz.sizeOf4
 v4:=Tryz.zeroValue4
 t5:=Tryz.underlying5
 a5:=Tryz.isAgg5
 z5:=Tryz.sizeOf5
 v5:=Tryz.zeroValue5
 t9:=Tryz.underlying9
 a9:=Tryz.isAgg9
 z9:=Tryz.sizeOf9
 v9:=Tryz.zeroValue9
 t20:=Tryz.underlying20
 a20:=Tryz.isAgg20
 z20:=Tryz.sizeOf20
 v20:=Tryz.zeroValue20
 t37:=Tryz.underlying112
 a37:=Tryz.isAgg112
 z37:=Tryz.sizeOf112
 v37:=Tryz.zeroValue112
 t46:=Tryz.underlying168
 a46:=Tryz.isAgg168
 z46:=Tryz.sizeOf168
 v46:=Tryz.zeroValue168
 t51:=Tryz.underlying210
 a51:=Tryz.isAgg210
 z51:=Tryz.sizeOf210
 v51:=Tryz.zeroValue210
 t53:=Tryz.underlying213
 a53:=Tryz.isAgg213
 z53:=Tryz.sizeOf213
 v53:=Tryz.zeroValue213
 t70:=Tryz.underlying172
 a70:=Tryz.isAgg172
 z70:=Tryz.sizeOf172
 v70:=Tryz.zeroValue172
 t72:=Tryz.underlying174
 a72:=Tryz.isAgg174
 z72:=Tryz.sizeOf174
 v72:=Tryz.zeroValue174
 t75:=Tryz.underlying177
 a75:=Tryz.isAgg177
 z75:=Tryz.sizeOf177
 v75:=Tryz.zeroValue177
 t76:=Tryz.underlying178
 a76:=Tryz.isAgg178
 z76:=Tryz.sizeOf178
 v76:=Tryz.zeroValue178
 t109:=Tryz.underlying169
 a109:=Tryz.isAgg169
 z109:=Tryz.sizeOf169
 v109:=Tryz.zeroValue169
 t127:=Tryz.underlying216
 a127:=Tryz.isAgg216
 z127:=Tryz.sizeOf216
 v127:=Tryz.zeroValue216
 t146:=Tryz.underlying211
 a146:=Tryz.isAgg211
 z146:=Tryz.sizeOf211
 v146:=Tryz.zeroValue211
 t148:=Tryz.underlying214
 a148:=Tryz.isAgg214
 z148:=Tryz.sizeOf214
 v148:=Tryz.zeroValue214
 t164:=Tryz.underlying247
 a164:=Tryz.isAgg247
 z164:=Tryz.sizeOf247
 v164:=Tryz.zeroValue247}
theorem Tryz.uU:Builder.Extra Tryz.prog Tryz.xY:={
 sizeBuilder:=by kernel_rfl
 liesBuilder:=by kernel_rfl
 t5:=Tryz.underlying5
 a5:=Tryz.isAgg5
 z5:=Tryz.sizeOf5
 v5:=Tryz.zeroValue5
 infoByte:=by kernel_rfl
 cellsByte:=by kernel_rfl
 sizeByte:=by kernel_rfl
 neB5:=by decide}
open Go.RowKit Go.Lib in
theorem Tryz.strings_Repeat (s:ByteArray) (c:Nat) (w:World) (hc:c≤9223372036854775807) (hlen:s.size*c≤140737488355328) :
 Calls Tryz.prog 82 #[.string s,.int .i64 c] w fun e w'=>e=.returned (.string ⟨(Lib.repeatL s.data.toList c).toArray⟩)∧Below w.heap.size w w':=Any.strings_Repeat Tryz.Ws Tryz.uU s c w hc hlen
end Go.Proofs
