/- Contracts of library functions at this program, as the evaluator wants them; what is known of package variables. No condition beyond those that each lemma states. -/
import Derived.Test.YtcbdldlphpjmbaaGreatDoorW5
import Derived.Test.YtcbdldlphpjmbaaGreatDoorRows
import Derived.Lib.LaidTab
import Derived.HandedShaped
import Derived.KernelRfl
import Derived.Lib.IndexMore
import Derived.Lib.ItoaNum
import Derived.Lib.Strings
import Derived.Lib.Join
import Derived.Lib.AtoiTie
import Derived.Lib.AtoiAllCases
import Derived.Lib.Split
import Derived.Shelf.Strconv.Itoa3
import Derived.WalkSmall
import Derived.Shelf.Strings.OnBuilder
import Derived.Shelf.Small.Wraps
import Derived.Shelf.Strings.Cut
import Derived.Shelf.Strings.Split
import Derived.Shelf.Strconv.AtoiAll
import Derived.BigCall
import Derived.WalkKit
import Derived.Laws.Pointers
import Derived.Laws.Small
set_option linter.unusedVariables false
set_option linter.unusedSimpArgs false
set_option maxRecDepth 100000
namespace Go.Proofs
open Go.Shelf
def Tryz.laysM171_ren:Ren:=⟨fun|171=>75|243=>134|246=>203|283=>265|284=>266|285=>267|286=>268|129=>312|317=>311|318=>313|319=>314|320=>315|337=>335|338=>336|n=>n,fun|3=>3|9=>9|2=>2|4=>4|171=>236|0=>0|53=>217|37=>28|5=>5|173=>239|212=>271|51=>272|20=>20|213=>273|46=>132|232=>291|233=>292|n=>n,fun|17=>3|18=>6|19=>7|n=>n⟩
theorem Tryz.laysM171:LaysM.n171 Tryz.prog Tryz.laysM171_ren:={
 mixed:=by kernel_rfl
 f129:=Tryz.func312.trans (congrArg some (by kernel_rfl))
 f171:=Tryz.func75.trans (congrArg some (by kernel_rfl))
 f243:=Tryz.func134.trans (congrArg some (by kernel_rfl))
 f246:=Tryz.func203.trans (congrArg some (by kernel_rfl))
 f283:=Tryz.func265.trans (congrArg some (by kernel_rfl))
 f284:=Tryz.func266.trans (congrArg some (by kernel_rfl))
 f285:=Tryz.func267.trans (congrArg some (by kernel_rfl))
 f286:=Tryz.func268.trans (congrArg some (by kernel_rfl))
 f317:=Tryz.func311.trans (congrArg some (by kernel_rfl))
 f318:=Tryz.func313.trans (congrArg some (by kernel_rfl))
 f319:=Tryz.func314.trans (congrArg some (by kernel_rfl))
 f320:=Tryz.func315.trans (congrArg some (by kernel_rfl))
 f337:=Tryz.func335.trans (congrArg some (by kernel_rfl))
 f338:=Tryz.func336.trans (congrArg some (by kernel_rfl))
 t0:=Tryz.underlying0
 a0:=Tryz.isAgg0
 z0:=Tryz.sizeOf0
 v0:=Tryz.zeroValue0
 t2:=Tryz.underlying2
 a2:=Tryz.isAgg2
 z2:=Tryz.sizeOf2
 v2:=Tryz.zeroValue2
 t3:=Tryz.underlying3
 a3:=Tryz.isAgg3
 z3:=Tryz.sizeOf3
 v3:=Tryz.zeroValue3
 t4:=Tryz.underlying4
 a4:=Tryz.isAgg4
 z4:=Tryz.sizeOf4
 v4:=Tryz.zeroValue4
 t5:=Tryz.underlying5
 a5:=Tryz.isAgg5
 z5:=Tryz.sizeOf5
 v5:=Tryz.zeroValue5
 t9:=Tryz.underlying9
 a9:=Tryz.isAgg9
 z9:=Tryz.sizeOf9
 v9:=Tryz.zeroValue9
 t20:=Tryz.underlying20
 a20:=Tryz.isAgg20
 z20:=Tryz.sizeOf20
 v20:=Tryz.zeroValue20
 t37:=Tryz.underlying28
 a37:=Tryz.isAgg28
 z37:=Tryz.sizeOf28
 v37:=Tryz.zeroValue28
 t46:=Tryz.underlying132
 a46:=Tryz.isAgg132
 z46:=Tryz.sizeOf132
 v46:=Tryz.zeroValue132
 t51:=Tryz.underlying272
 a51:=Tryz.isAgg272
 z51:=Tryz.sizeOf272
 v51:=Tryz.zeroValue272
 t53:=Tryz.underlying217
 a53:=Tryz.isAgg217
 z53:=Tryz.sizeOf217
 v53:=Tryz.zeroValue217
 t171:=Tryz.underlying236
 a171:=Tryz.isAgg236
 z171:=Tryz.sizeOf236
 v171:=Tryz.zeroValue236
 t173:=Tryz.underlying239
 a173:=Tryz.isAgg239
 z173:=Tryz.sizeOf239
 v173:=Tryz.zeroValue239
 t212:=Tryz.underlying271
 a212:=Tryz.isAgg271
 z212:=Tryz.sizeOf271
 v212:=Tryz.zeroValue271
 t213:=Tryz.underlying273
 a213:=Tryz.isAgg273
 z213:=Tryz.sizeOf273
 t232:=Tryz.underlying291
 a232:=Tryz.isAgg291
 z232:=Tryz.sizeOf291
 v232:=Tryz.zeroValue291
 t233:=Tryz.underlying292
 a233:=Tryz.isAgg292
 z233:=Tryz.sizeOf292
 v233:=Tryz.zeroValue292
 g17:=by kernel_rfl
 g18:=by kernel_rfl
 g19:=by kernel_rfl
 i0:=by kernel_rfl
 i2:=by kernel_rfl
 i3:=by kernel_rfl
 i4:=by kernel_rfl
 i5:=by kernel_rfl
 i9:=by kernel_rfl
 i20:=by kernel_rfl
 i37:=by kernel_rfl
 i46:=by kernel_rfl
 i51:=by kernel_rfl
 i53:=by kernel_rfl
 i171:=by kernel_rfl
 i173:=by kernel_rfl
 i212:=by kernel_rfl
 i232:=by kernel_rfl
 i233:=by kernel_rfl
 m17:=by kernel_rfl
 m18:=by kernel_rfl
 m19:=by kernel_rfl}
def Tryz.lays156_ren:Ren:=⟨fun|156=>136|165=>204|166=>205|169=>206|240=>269|241=>270|276=>316|277=>317|n=>n,fun|31=>58|9=>9|3=>3|4=>4|0=>0|20=>20|72=>191|76=>112|70=>189|37=>28|75=>111|127=>241|164=>275|5=>5|80=>192|n=>n,fun|n=>n⟩
theorem Tryz.lays156:Lays.n156 Tryz.prog Tryz.lays156_ren:={
 mixed:=by kernel_rfl
 f156:=Tryz.func136.trans (congrArg some (by kernel_rfl))
 f165:=Tryz.func204.trans (congrArg some (by kernel_rfl))
 f166:=Tryz.func205.trans (congrArg some (by kernel_rfl))
 f169:=Tryz.func206.trans (congrArg some (by kernel_rfl))
 f240:=Tryz.func269.trans (congrArg some (by kernel_rfl))
 f241:=Tryz.func270.trans (congrArg some (by kernel_rfl))
 f276:=Tryz.func316.trans (congrArg some (by kernel_rfl))
 f277:=Tryz.func317.trans (congrArg some (by kernel_rfl))
 t0:=Tryz.underlying0
 a0:=Tryz.isAgg0
 z0:=Tryz.sizeOf0
 v0:=Tryz.zeroValue0
 t3:=Tryz.underlying3
 a3:=Tryz.isAgg3
 z3:=Tryz.sizeOf3
 v3:=Tryz.zeroValue3
 t4:=Tryz.underlying4
 a4:=Tryz.isAgg4
 z4:=Tryz.sizeOf4
 v4:=Tryz.zeroValue4
 t9:=Tryz.underlying9
 a9:=Tryz.isAgg9
 z9:=Tryz.sizeOf9
 v9:=Tryz.zeroValue9
 t20:=Tryz.underlying20
 a20:=Tryz.isAgg20
 z20:=Tryz.sizeOf20
 v20:=Tryz.zeroValue20
 t31:=Tryz.underlying58
 a31:=Tryz.isAgg58
 z31:=Tryz.sizeOf58
 v31:=Tryz.zeroValue58
 t37:=Tryz.underlying28
 a37:=Tryz.isAgg28
 z37:=Tryz.sizeOf28
 v37:=Tryz.zeroValue28
 t70:=Tryz.underlying189
 a70:=Tryz.isAgg189
 z70:=Tryz.sizeOf189
 v70:=Tryz.zeroValue189
 t72:=Tryz.underlying191
 a72:=Tryz.isAgg191
 z72:=Tryz.sizeOf191
 v72:=Tryz.zeroValue191
 t75:=Tryz.underlying111
 a75:=Tryz.isAgg111
 z75:=Tryz.sizeOf111
 v75:=Tryz.zeroValue111
 t76:=Tryz.underlying112
 a76:=Tryz.isAgg112
 z76:=Tryz.sizeOf112
 v76:=Tryz.zeroValue112
 t127:=Tryz.underlying241
 a127:=Tryz.isAgg241
 z127:=Tryz.sizeOf241
 v127:=Tryz.zeroValue241
 t164:=Tryz.underlying275
 a164:=Tryz.isAgg275
 z164:=Tryz.sizeOf275
 v164:=Tryz.zeroValue275}
theorem Tryz.Builder_Extra_156:Builder.Extra Tryz.prog Tryz.lays156_ren:={
 sizeBuilder:=by kernel_rfl
 liesBuilder:=by kernel_rfl
 t5:=Tryz.underlying5
 a5:=Tryz.isAgg5
 z5:=Tryz.sizeOf5
 v5:=Tryz.zeroValue5
 infoByte:=by kernel_rfl
 cellsByte:=by kernel_rfl
 sizeByte:=by kernel_rfl
 neB5:=by decide}
def Tryz.lays103_ren:Ren:=⟨fun|103=>26|210=>69|206=>121|n=>n,fun|9=>9|4=>4|24=>72|3=>3|n=>n,fun|n=>n⟩
theorem Tryz.lays103:Lays.n103 Tryz.prog Tryz.lays103_ren:={
 mixed:=by kernel_rfl
 f103:=Tryz.func26.trans (congrArg some (by kernel_rfl))
 f206:=Tryz.func121.trans (congrArg some (by kernel_rfl))
 f210:=Tryz.func69.trans (congrArg some (by kernel_rfl))
 t3:=Tryz.underlying3
 a3:=Tryz.isAgg3
 z3:=Tryz.sizeOf3
 v3:=Tryz.zeroValue3
 t4:=Tryz.underlying4
 a4:=Tryz.isAgg4
 z4:=Tryz.sizeOf4
 v4:=Tryz.zeroValue4
 t9:=Tryz.underlying9
 a9:=Tryz.isAgg9
 z9:=Tryz.sizeOf9
 v9:=Tryz.zeroValue9
 t24:=Tryz.underlying72
 a24:=Tryz.isAgg72
 z24:=Tryz.sizeOf72
 v24:=Tryz.zeroValue72}
def Tryz.laysM145_ren:Ren:=⟨fun|145=>107|220=>175|219=>241|217=>293|225=>294|224=>295|267=>296|266=>332|314=>333|n=>n,fun|9=>9|4=>4|59=>133|3=>3|5=>5|46=>132|146=>286|51=>272|n=>n,fun|1=>2|n=>n⟩
theorem Tryz.laysM145:LaysM.n145 Tryz.prog Tryz.laysM145_ren:={
 mixed:=by kernel_rfl
 f145:=Tryz.func107.trans (congrArg some (by kernel_rfl))
 f217:=Tryz.func293.trans (congrArg some (by kernel_rfl))
 f219:=Tryz.func241.trans (congrArg some (by kernel_rfl))
 f220:=Tryz.func175.trans (congrArg some (by kernel_rfl))
 f224:=Tryz.func295.trans (congrArg some (by kernel_rfl))
 f225:=Tryz.func294.trans (congrArg some (by kernel_rfl))
 f266:=Tryz.func332.trans (congrArg some (by kernel_rfl))
 f267:=Tryz.func296.trans (congrArg some (by kernel_rfl))
 f314:=Tryz.func333.trans (congrArg some (by kernel_rfl))
 t3:=Tryz.underlying3
 a3:=Tryz.isAgg3
 z3:=Tryz.sizeOf3
 v3:=Tryz.zeroValue3
 t4:=Tryz.underlying4
 a4:=Tryz.isAgg4
 z4:=Tryz.sizeOf4
 v4:=Tryz.zeroValue4
 t5:=Tryz.underlying5
 a5:=Tryz.isAgg5
 z5:=Tryz.sizeOf5
 v5:=Tryz.zeroValue5
 t9:=Tryz.underlying9
 a9:=Tryz.isAgg9
 z9:=Tryz.sizeOf9
 v9:=Tryz.zeroValue9
 t46:=Tryz.underlying132
 a46:=Tryz.isAgg132
 z46:=Tryz.sizeOf132
 v46:=Tryz.zeroValue132
 t51:=Tryz.underlying272
 a51:=Tryz.isAgg272
 z51:=Tryz.sizeOf272
 v51:=Tryz.zeroValue272
 t59:=Tryz.underlying133
 a59:=Tryz.isAgg133
 z59:=Tryz.sizeOf133
 v59:=Tryz.zeroValue133
 t146:=Tryz.underlying286
 a146:=Tryz.isAgg286
 z146:=Tryz.sizeOf286
 v146:=Tryz.zeroValue286
 g1:=by kernel_rfl
 i3:=by kernel_rfl
 i4:=by kernel_rfl
 i5:=by kernel_rfl
 i9:=by kernel_rfl
 i46:=by kernel_rfl
 i51:=by kernel_rfl
 i59:=by kernel_rfl
 i146:=by kernel_rfl
 m1:=by kernel_rfl
 s1_3:=fun w h=>Go.Proofs.cell_of_shapedOpen_int (zero:= #[.int .i64 0]) (t:=3) h (of_decide_eq_true (by kernel_rfl)) (by kernel_rfl) rfl (by kernel_rfl) (by kernel_rfl) Tryz.underlying3}
def Tryz.laysM146_ren:Ren:=⟨fun|146=>44|221=>106|268=>172|138=>173|143=>174|195=>238|197=>239|218=>240|219=>241|260=>292|217=>293|225=>294|224=>295|267=>296|266=>332|314=>333|n=>n,fun|9=>9|31=>58|3=>3|4=>4|0=>0|105=>209|21=>21|5=>5|46=>132|119=>282|139=>285|138=>284|146=>286|51=>272|n=>n,fun|1=>2|3=>4|4=>5|n=>n⟩
theorem Tryz.laysM146:LaysM.n146 Tryz.prog Tryz.laysM146_ren:={
 mixed:=by kernel_rfl
 f138:=Tryz.func173.trans (congrArg some (by kernel_rfl))
 f143:=Tryz.func174.trans (congrArg some (by kernel_rfl))
 f146:=Tryz.func44.trans (congrArg some (by kernel_rfl))
 f195:=Tryz.func238.trans (congrArg some (by kernel_rfl))
 f197:=Tryz.func239.trans (congrArg some (by kernel_rfl))
 f217:=Tryz.func293.trans (congrArg some (by kernel_rfl))
 f218:=Tryz.func240.trans (congrArg some (by kernel_rfl))
 f219:=Tryz.func241.trans (congrArg some (by kernel_rfl))
 f221:=Tryz.func106.trans (congrArg some (by kernel_rfl))
 f224:=Tryz.func295.trans (congrArg some (by kernel_rfl))
 f225:=Tryz.func294.trans (congrArg some (by kernel_rfl))
 f260:=Tryz.func292.trans (congrArg some (by kernel_rfl))
 f266:=Tryz.func332.trans (congrArg some (by kernel_rfl))
 f267:=Tryz.func296.trans (congrArg some (by kernel_rfl))
 f268:=Tryz.func172.trans (congrArg some (by kernel_rfl))
 f314:=Tryz.func333.trans (congrArg some (by kernel_rfl))
 t0:=Tryz.underlying0
 a0:=Tryz.isAgg0
 z0:=Tryz.sizeOf0
 v0:=Tryz.zeroValue0
 t3:=Tryz.underlying3
 a3:=Tryz.isAgg3
 z3:=Tryz.sizeOf3
 v3:=Tryz.zeroValue3
 t4:=Tryz.underlying4
 a4:=Tryz.isAgg4
 z4:=Tryz.sizeOf4
 v4:=Tryz.zeroValue4
 t5:=Tryz.underlying5
 a5:=Tryz.isAgg5
 z5:=Tryz.sizeOf5
 v5:=Tryz.zeroValue5
 t9:=Tryz.underlying9
 a9:=Tryz.isAgg9
 z9:=Tryz.sizeOf9
 v9:=Tryz.zeroValue9
 t21:=Tryz.underlying21
 a21:=Tryz.isAgg21
 z21:=Tryz.sizeOf21
 v21:=Tryz.zeroValue21
 t31:=Tryz.underlying58
 a31:=Tryz.isAgg58
 z31:=Tryz.sizeOf58
 v31:=Tryz.zeroValue58
 t46:=Tryz.underlying132
 a46:=Tryz.isAgg132
 z46:=Tryz.sizeOf132
 v46:=Tryz.zeroValue132
 t51:=Tryz.underlying272
 a51:=Tryz.isAgg272
 z51:=Tryz.sizeOf272
 v51:=Tryz.zeroValue272
 t105:=Tryz.underlying209
 a105:=Tryz.isAgg209
 z105:=Tryz.sizeOf209
 v105:=Tryz.zeroValue209
 t119:=Tryz.underlying282
 a119:=Tryz.isAgg282
 z119:=Tryz.sizeOf282
 t138:=Tryz.underlying284
 a138:=Tryz.isAgg284
 z138:=Tryz.sizeOf284
 v138:=Tryz.zeroValue284
 t139:=Tryz.underlying285
 a139:=Tryz.isAgg285
 z139:=Tryz.sizeOf285
 v139:=Tryz.zeroValue285
 t146:=Tryz.underlying286
 a146:=Tryz.isAgg286
 z146:=Tryz.sizeOf286
 v146:=Tryz.zeroValue286
 g1:=by kernel_rfl
 g3:=by kernel_rfl
 g4:=by kernel_rfl
 i0:=by kernel_rfl
 i3:=by kernel_rfl
 i4:=by kernel_rfl
 i5:=by kernel_rfl
 i9:=by kernel_rfl
 i21:=by kernel_rfl
 i31:=by kernel_rfl
 i46:=by kernel_rfl
 i51:=by kernel_rfl
 i105:=by kernel_rfl
 i138:=by kernel_rfl
 i139:=by kernel_rfl
 i146:=by kernel_rfl
 m1:=by kernel_rfl
 s1_3:=fun w h=>Go.Proofs.cell_of_shapedOpen_int (zero:= #[.int .i64 0]) (t:=3) h (of_decide_eq_true (by kernel_rfl)) (by kernel_rfl) rfl (by kernel_rfl) (by kernel_rfl) Tryz.underlying3
 m3:=by kernel_rfl
 m4:=by kernel_rfl}
def Tryz.laysC172_ren:Ren:=⟨fun|172=>73|244=>125|245=>126|247=>184|279=>185|280=>186|281=>187|282=>188|287=>248|316=>249|171=>75|205=>250|321=>299|322=>300|243=>134|246=>203|283=>265|284=>266|285=>267|286=>268|129=>312|317=>311|318=>313|319=>314|320=>315|337=>335|338=>336|n=>n,fun|9=>9|3=>3|75=>111|76=>112|4=>4|5=>5|167=>177|37=>28|0=>0|85=>178|2=>2|168=>180|53=>217|175=>218|46=>132|210=>222|127=>241|145=>264|143=>262|21=>21|171=>236|173=>239|212=>271|51=>272|20=>20|213=>273|232=>291|233=>292|80=>192|n=>n,fun|15=>0|16=>1|17=>3|18=>6|19=>7|n=>n⟩
theorem Tryz.laysC172:LaysC.n172 Tryz.prog Tryz.laysC172_ren:={
 mixed:=by kernel_rfl
 f129:=Tryz.func312.trans (congrArg some (by kernel_rfl))
 f171:=Tryz.func75.trans (congrArg some (by kernel_rfl))
 f172:=Tryz.func73.trans (congrArg some (by kernel_rfl))
 f205:=Tryz.func250.trans (congrArg some (by kernel_rfl))
 f243:=Tryz.func134.trans (congrArg some (by kernel_rfl))
 f244:=Tryz.func125.trans (congrArg some (by kernel_rfl))
 f245:=Tryz.func126.trans (congrArg some (by kernel_rfl))
 f246:=Tryz.func203.trans (congrArg some (by kernel_rfl))
 f247:=Tryz.func184.trans (congrArg some (by kernel_rfl))
 f279:=Tryz.func185.trans (congrArg some (by kernel_rfl))
 f280:=Tryz.func186.trans (congrArg some (by kernel_rfl))
 f281:=Tryz.func187.trans (congrArg some (by kernel_rfl))
 f282:=Tryz.func188.trans (congrArg some (by kernel_rfl))
 f283:=Tryz.func265.trans (congrArg some (by kernel_rfl))
 f284:=Tryz.func266.trans (congrArg some (by kernel_rfl))
 f285:=Tryz.func267.trans (congrArg some (by kernel_rfl))
 f286:=Tryz.func268.trans (congrArg some (by kernel_rfl))
 f287:=Tryz.func248.trans (congrArg some (by kernel_rfl))
 f316:=Tryz.func249.trans (congrArg some (by kernel_rfl))
 f317:=Tryz.func311.trans (congrArg some (by kernel_rfl))
 f318:=Tryz.func313.trans (congrArg some (by kernel_rfl))
 f319:=Tryz.func314.trans (congrArg some (by kernel_rfl))
 f320:=Tryz.func315.trans (congrArg some (by kernel_rfl))
 f321:=Tryz.func299.trans (congrArg some (by kernel_rfl))
 f322:=Tryz.func300.trans (congrArg some (by kernel_rfl))
 f337:=Tryz.func335.trans (congrArg some (by kernel_rfl))
 f338:=Tryz.func336.trans (congrArg some (by kernel_rfl))
 t0:=Tryz.underlying0
 a0:=Tryz.isAgg0
 z0:=Tryz.sizeOf0
 v0:=Tryz.zeroValue0
 t2:=Tryz.underlying2
 a2:=Tryz.isAgg2
 z2:=Tryz.sizeOf2
 v2:=Tryz.zeroValue2
 t3:=Tryz.underlying3
 a3:=Tryz.isAgg3
 z3:=Tryz.sizeOf3
 v3:=Tryz.zeroValue3
 t4:=Tryz.underlying4
 a4:=Tryz.isAgg4
 z4:=Tryz.sizeOf4
 v4:=Tryz.zeroValue4
 t5:=Tryz.underlying5
 a5:=Tryz.isAgg5
 z5:=Tryz.sizeOf5
 v5:=Tryz.zeroValue5
 t9:=Tryz.underlying9
 a9:=Tryz.isAgg9
 z9:=Tryz.sizeOf9
 v9:=Tryz.zeroValue9
 t20:=Tryz.underlying20
 a20:=Tryz.isAgg20
 z20:=Tryz.sizeOf20
 v20:=Tryz.zeroValue20
 t21:=Tryz.underlying21
 a21:=Tryz.isAgg21
 z21:=Tryz.sizeOf21
 v21:=Tryz.zeroValue21
 t37:=Tryz.underlying28
 a37:=Tryz.isAgg28
 z37:=Tryz.sizeOf28
 v37:=Tryz.zeroValue28
 t46:=Tryz.underlying132
 a46:=Tryz.isAgg132
 z46:=Tryz.sizeOf132
 v46:=Tryz.zeroValue132
 t51:=Tryz.underlying272
 a51:=Tryz.isAgg272
 z51:=Tryz.sizeOf272
 v51:=Tryz.zeroValue272
 t53:=Tryz.underlying217
 a53:=Tryz.isAgg217
 z53:=Tryz.sizeOf217
 v53:=Tryz.zeroValue217
 t75:=Tryz.underlying111
 a75:=Tryz.isAgg111
 z75:=Tryz.sizeOf111
 v75:=Tryz.zeroValue111
 t76:=Tryz.underlying112
 a76:=Tryz.isAgg112
 z76:=Tryz.sizeOf112
 v76:=Tryz.zeroValue112
 t85:=Tryz.underlying178
 a85:=Tryz.isAgg178
 z85:=Tryz.sizeOf178
 v85:=Tryz.zeroValue178
 t127:=Tryz.underlying241
 a127:=Tryz.isAgg241
 z127:=Tryz.sizeOf241
 v127:=Tryz.zeroValue241
 t143:=Tryz.underlying262
 a143:=Tryz.isAgg262
 z143:=Tryz.sizeOf262
 v143:=Tryz.zeroValue262
 t145:=Tryz.underlying264
 a145:=Tryz.isAgg264
 z145:=Tryz.sizeOf264
 v145:=Tryz.zeroValue264
 t167:=Tryz.underlying177
 a167:=Tryz.isAgg177
 z167:=Tryz.sizeOf177
 v167:=Tryz.zeroValue177
 t168:=Tryz.underlying180
 a168:=Tryz.isAgg180
 z168:=Tryz.sizeOf180
 v168:=Tryz.zeroValue180
 t171:=Tryz.underlying236
 a171:=Tryz.isAgg236
 z171:=Tryz.sizeOf236
 v171:=Tryz.zeroValue236
 t173:=Tryz.underlying239
 a173:=Tryz.isAgg239
 z173:=Tryz.sizeOf239
 v173:=Tryz.zeroValue239
 t175:=Tryz.underlying218
 a175:=Tryz.isAgg218
 z175:=Tryz.sizeOf218
 v175:=Tryz.zeroValue218
 t210:=Tryz.underlying222
 a210:=Tryz.isAgg222
 z210:=Tryz.sizeOf222
 v210:=Tryz.zeroValue222
 t212:=Tryz.underlying271
 a212:=Tryz.isAgg271
 z212:=Tryz.sizeOf271
 v212:=Tryz.zeroValue271
 t213:=Tryz.underlying273
 a213:=Tryz.isAgg273
 z213:=Tryz.sizeOf273
 t232:=Tryz.underlying291
 a232:=Tryz.isAgg291
 z232:=Tryz.sizeOf291
 v232:=Tryz.zeroValue291
 t233:=Tryz.underlying292
 a233:=Tryz.isAgg292
 z233:=Tryz.sizeOf292
 v233:=Tryz.zeroValue292
 g15:=by kernel_rfl
 g16:=by kernel_rfl
 g17:=by kernel_rfl
 g18:=by kernel_rfl
 g19:=by kernel_rfl
 t80:=Tryz.underlying192
 a80:=Tryz.isAgg192
 z80:=Tryz.sizeOf192
 v80:=Tryz.zeroValue192
 i0:=by kernel_rfl
 i2:=by kernel_rfl
 i3:=by kernel_rfl
 i4:=by kernel_rfl
 i5:=by kernel_rfl
 i9:=by kernel_rfl
 i20:=by kernel_rfl
 i21:=by kernel_rfl
 i37:=by kernel_rfl
 i46:=by kernel_rfl
 i51:=by kernel_rfl
 i53:=by kernel_rfl
 i75:=by kernel_rfl
 i76:=by kernel_rfl
 i80:=by kernel_rfl
 i85:=by kernel_rfl
 i127:=by kernel_rfl
 i143:=by kernel_rfl
 i145:=by kernel_rfl
 i167:=by kernel_rfl
 i168:=by kernel_rfl
 i171:=by kernel_rfl
 i173:=by kernel_rfl
 i175:=by kernel_rfl
 i210:=by kernel_rfl
 i212:=by kernel_rfl
 i232:=by kernel_rfl
 i233:=by kernel_rfl
 m15:=by kernel_rfl
 m16:=by kernel_rfl
 m17:=by kernel_rfl
 m18:=by kernel_rfl
 m19:=by kernel_rfl
 c0:=by kernel_rfl
 c2:=by kernel_rfl
 c3:=by kernel_rfl
 c4:=by kernel_rfl
 c5:=by kernel_rfl
 c9:=by kernel_rfl
 c20:=by kernel_rfl
 c21:=by kernel_rfl
 c37:=by kernel_rfl
 c46:=by kernel_rfl
 c51:=by kernel_rfl
 c53:=by kernel_rfl
 c75:=by kernel_rfl
 c76:=by kernel_rfl
 c80:=by kernel_rfl
 c85:=by kernel_rfl
 c127:=by kernel_rfl
 c143:=by kernel_rfl
 c145:=by kernel_rfl
 c167:=by kernel_rfl
 c168:=by kernel_rfl
 c171:=by kernel_rfl
 c173:=by kernel_rfl
 c175:=by kernel_rfl
 c210:=by kernel_rfl
 c212:=by kernel_rfl
 c213:=by kernel_rfl
 c232:=by kernel_rfl
 c233:=by kernel_rfl}
end Go.Proofs
namespace Go.Tev
section
open Go Go.RowKit Go.Proofs Go.Shelf
variable {P:Program} {ρ:Ren}
theorem Znx {P:Program} {S:Fp} {w w':World} {n:String} {g:Nat} {cs:Array Value} (h:Frame S w w') (hg:P.globalNamed n=some g) (hs: ∀o,¬S g o) (hv:w.var? P n=some cs):w'.var? P n=some cs:=by
 unfold World.var? at hv⊢;rw[hg]at hv⊢;simp only[Zo]at hv⊢;have hlt:g<w.heap.size:=by
  rcases Nat.lt_or_ge g w.heap.size with e|e
  ·exact e
  ·rw[Array.getElem?_eq_none e]at hv;cases hv
 rcases h.obj g hlt with e| ⟨c,c',ty,fz,e,e',hsz,hc⟩
 ·rw[←e];exact hv
 ·rw[e]at hv;rw[e'];simp only[Zg]at hv⊢;subst hv;exact Array.ext_getElem? fun o=>hc o (hs o)
theorem Zd8 {S:Fp} {w w':World} {g:Nat} {v:Value} (h:Frame S w w') (hs: ∀o,¬S g o) (hv:w.cell? ⟨g,0,none⟩=some v):w'.cell? ⟨g,0,none⟩=some v:=by
 have hv':w.cell? (adr (g,0))=some v:=hv;rw[Up]at hv';have hlt:g<w.heap.size:=by
  rcases Nat.lt_or_ge g w.heap.size with e|e
  ·exact e
  ·rw[Array.getElem?_eq_none e]at hv';cases hv'
 show w'.cell? (adr (g,0))=some v;rw[Up];rcases h.obj g hlt with e| ⟨c,c',ty,fz,e,e',hsz,hc⟩
 ·rw[←e];exact hv'
 ·rw[e]at hv';rw[e'];exact (hc 0 (hs 0)).trans hv'
theorem ZqJ {P:Program} {w:World} {n:String} {g:Nat} {cs:Array Value} (hg:P.globalNamed n=some g) (hv:w.var? P n=some cs):g<w.heap.size:=by
 unfold World.var? at hv;rw[hg]at hv;simp only[Zo]at hv;rcases Nat.lt_or_ge g w.heap.size with e|e
 ·exact e
 ·rw[Array.getElem?_eq_none e]at hv;cases hv
theorem Zig {w:World} {g:Nat} {v:Value} (hv:w.cell? ⟨g,0,none⟩=some v):g<w.heap.size:=by
 have hv':w.cell? (adr (g,0))=some v:=hv;rw[Up]at hv';rcases Nat.lt_or_ge g w.heap.size with e|e
 ·exact e
 ·rw[Array.getElem?_eq_none e]at hv';cases hv'
theorem K9 {P:Program} {x:String×DataW Unit} {r:List (String×DataW Unit)} {w:World} (h:laidMet P (x::r) w):laidMet P r w:=by
 obtain ⟨ps,hv,hnd,hrows⟩:=h;obtain ⟨n,d⟩:=x;obtain ⟨g,t,cs,fuel,p,q,_,_,_,_,hq,rfl⟩:=hv;exact ⟨q,hq,List.Nodup.sublist (List.sublist_append_right _ _) hnd,fun b off hm=>hrows b off (List.mem_append_right _ hm)⟩
theorem Zhy {P:Program} {n nm:String} {d:DataW Unit} {r:List (String×DataW Unit)} {W:World} {g:Nat} {ti:TypeId} {ms:Array (String×TypeId)}
  (h:laidMet P ((n, .iface nm d)::r) W) (hg:P.globalNamed n=some g) (ht:(P.globals[g]?).map (·.type)=some ti) (hi:P.underlying ti=some (.interface ms)): ∃u v,W.cell? ⟨g,0,Option.none⟩=some (.iface u v):=by
 obtain ⟨ps,⟨g0,t0,cs0,f0,p0,q0,hg0,ht0,hv0,hd0,_,e0⟩,_,_⟩:=h;obtain rfl:=Option.some.inj (hg.symm.trans hg0);obtain rfl:=Option.some.inj (ht.symm.trans ht0);obtain ⟨l0⟩:=cs0;obtain ⟨f1,u,v,e,hn,h1⟩:=iface_of_trod hi hd0;have e:l0=[.iface u v]:=e;subst e;exact ⟨u,v,by simpa using World.var?_cell hg0 hv0 0⟩
theorem Zak {S:Fp} {w w':World} (h:Below w.heap.size w w'):Frame S w w':=⟨h.os,h.tape,h.output,h.size,fun b hb=> .inl (h.block b hb).symm⟩
def noF:Fp:=fun _ _=>False
theorem Zrn {w:World} {t:LT} {y:PTup [.v t]} {args:List Value} {S:Fp} {L:Nat→Prop} (h:ZG w [.v t] y args S L): ∃v S1,args=[v]∧Z1 w t y.1 v S1 L:=by
 match args,h with
 | [v],⟨S1,S2,a,b,_⟩=>exact ⟨v,S1,rfl,a⟩
 |_::_::_,⟨_,_,_,b,_⟩=>exact b.elim
theorem Zm0 {w:World} {t u:LT} {y:PTup [.v t, .v u]} {args:List Value} {S:Fp} {L:Nat→Prop} (h:ZG w [.v t, .v u] y args S L): ∃v x S1 S2,args=[v,x]∧Z1 w t y.1 v S1 L∧Z1 w u y.2.1 x S2 L:=by
 match args,h with
 |v::r,⟨S1,S2,a,b,_⟩=>
  obtain ⟨x,S3,rfl,c⟩:=Zrn (y:=y.2) b;exact ⟨v,x,S1,S3,rfl,a,c⟩
theorem ZnZ {w:World} {t:LT} {x:t.D} {v:Value} {L:Nat→Prop} (h:Z1 w t x v noF L):ZG w [.v t] (x,()) [v] noF L:=
 ⟨noF,noF,h,trivial,fun _ _ h=>h.elim,fun _ _ h=>h.elim,fun _ _ h=>h.elim⟩
theorem Zpx {w:World} {t:LT} {ts:List Ty} {x:t.D} {xs:PTup ts} {v:Value} {vs:List Value} {L:Nat→Prop} (h:Z1 w t x v noF L) (k:ZG w ts xs vs noF L):ZG w (.v t::ts) (x,xs) (v::vs) noF L:=
 ⟨noF,noF,h,k,fun _ _ h=>h.elim,fun _ _ h=>h.elim,fun _ _ h=>h.elim⟩
theorem Zdx {w w':World} {ins outs:List Ty} {r:PTup outs×BTup ins} {vs args:List Value} {e:Ending} {S:Fp} {L:Nat→Prop} (he:e= .returned (WU vs)) (ho:ZG w' outs r.1 vs noF fun _=>False)
  (hb:Z5 w w' ins r.2 args noF) (hF:Frame S w w'):
  ∃vs SO SB,ZsF .nor args vs e∧ZmX w' .nor outs r.1 vs SO (LK .nor L)∧Z5 w w' ins r.2 args SB∧Dis SO SB∧(∀b o,SO b o∨SB b o→(S b o∨w.heap.size≤b)∧b<w'.heap.size)∧Frame S w w':=
 ⟨vs,noF,noF,he,ho,hb,fun _ _ h=>h.elim,fun _ _ h=>(h.elim id id).elim,hF⟩
def ZnD:Fn:=⟨[.v (.int .i64)],[.v .str],fun y=>bif decide (-9223372036854775808≤(y.1:Int))&&decide ((y.1:Int)≤9223372036854775807)then some (((⟨(Lib.itoa y.1).toArray⟩:ByteArray),()),())else none, .nor⟩
theorem ZqL [Glb] (L:LaysM.n171 P ρ) (hE:U2 P (ρ.f 171)) (hf: ∀w,Glb.fact w→Lib.TabIs P w "internal/strconv.uint64pow10" .u64 Lib.pow10Tab):Zy P (ρ.f 171) ZnD where
 nin:=by decide
 nout:=by decide
 inOk:=by simp[ZnD,Jd,YL]
 outOk:=by simp[ZnD,Jd,YL]
 enters:=hE
 calls:=fun w y args S L0 hy hd hs hl hg hgf r hr=>by
  obtain ⟨n,_⟩:=y;obtain ⟨v,S1,rfl,hv⟩:=Zrn (y:=((n:Int),())) hy;obtain rfl:v= .int .i64 n:=hv;have hr:(bif decide (-9223372036854775808≤(n:Int))&&decide ((n:Int)≤9223372036854775807)then some (((⟨(Lib.itoa n).toArray⟩:ByteArray),()),())else none)=some r:=hr
  cases hc:decide (-9223372036854775808≤(n:Int))&&decide ((n:Int)≤9223372036854775807)with
  |false=>rw[hc]at hr;cases hr
  |true=>
   rw[hc]at hr;injection hr with hr
   subst hr;rw[Bool.and_eq_true,decide_eq_true_iff,decide_eq_true_iff]at hc;refine (Any.strconv_Itoa L n hc.1 hc.2 w (hf w hgf)).mono ?_;rintro e w' ⟨rfl,k,os,rfl⟩;have hB:Below w.heap.size w (Sort.grow (w.drewN k) os):=(below_drewN (Below.refl _ _) k).trans ⟨rfl,rfl,rfl,by simp[Sort.grow],fun b hb=>Sort.heap_grow_old _ _ hb⟩;exact Zdx (ins:=[.v (.int .i64)]) (outs:=[.v .str]) (vs:=[.string _]) rfl (ZnZ rfl) trivial (Zak hB)
def ZnE:Fn:=⟨[.v (.sl false .s), .v .str],[.v .str],fun y=>bif Nat.ble (List.length (α:=ByteArray) y.1) 140737488355328&&Nat.ble (Lib.join ((y.1:List ByteArray).map (·.data.toList)) (ByteArray.data y.2.1).toList).length 140737488355328 then some (((⟨(Lib.join ((y.1:List ByteArray).map (·.data.toList)) (ByteArray.data y.2.1).toList).toArray⟩:ByteArray),()),())else none, .nor⟩
theorem ZqM [Glb] (L:Lays.n156 P ρ) (X:Builder.Extra P ρ) (hE:U2 P (ρ.f 156)):Zy P (ρ.f 156) ZnE where
 nin:=by decide
 nout:=by decide
 inOk:=by simp[ZnE,Jd,YL]
 outOk:=by simp[ZnE,Jd,YL]
 enters:=hE
 calls:=fun w y args S L0 hy hd hs hl hg hgf r hr=>by
  obtain ⟨xs,p,_⟩:=y;obtain ⟨v,x,S1,S2,rfl,hv,hx⟩:=Zm0 (t:= .sl false .s) (y:=(xs,(p,()))) hy;obtain rfl:x= .string p:=hx;obtain ⟨a,cap,ips,rfl,hrow,hin⟩:=hv;have hr:(bif Nat.ble (List.length (α:=ByteArray) xs) 140737488355328&&Nat.ble (Lib.join ((xs:List ByteArray).map (·.data.toList)) (ByteArray.data p).toList).length 140737488355328 then _ else none)=some r:=hr
  cases hc:Nat.ble (List.length (α:=ByteArray) xs) 140737488355328&&Nat.ble (Lib.join ((xs:List ByteArray).map (·.data.toList)) (ByteArray.data p).toList).length 140737488355328 with
  |false=>rw[hc]at hr;cases hr
  |true=>
   rw[hc]at hr;injection hr with hr
   subst hr;rw[Bool.and_eq_true,Nat.ble_eq,Nat.ble_eq]at hc;have key:Calls P (ρ.f 156) #[slV a ips.q (List.length (α:=ByteArray) xs) cap, .string p] w fun e w'=>e= .returned (.string ⟨(Lib.join ((xs:List ByteArray).map (·.data.toList)) p.data.toList).toArray⟩)∧Below w.heap.size w w':=by
    by_cases h0:List.length (α:=ByteArray) xs=0
    ·obtain rfl:(xs:List ByteArray)=[]:=List.length_eq_zero_iff.1 h0;exact (Any.strings_Join_none L X (pt a ips.q) cap p w).mono fun e w' ⟨he,hw⟩=>⟨by rw[he];rfl,hw▸Below.refl _ _⟩
    ·cases a with
     |none=>
      have h1:List.length (α:=ByteArray) xs≤cap:=hrow.1;have h2:=(hrow.2.1 rfl).1;omega
     |some q=>
      obtain ⟨b,o⟩:=q;have hb:b<w.heap.size:=hl b (hin b (.inl ⟨(show 0<List.length (α:=ByteArray) xs by omega),o,rfl⟩));refine Any.strings_Join L X b o cap xs p w (fun j x hx=> ?_) hb hc.1 hrow.1 hc.2;obtain ⟨hj,rfl⟩:=List.getElem?_eq_some_iff.1 hx;have:=(hrow.2.2.1 b o rfl).1 j hj 0 (by decide);simpa [adr,E.sz,elV] using this
   refine key.mono ?_;rintro e w' ⟨rfl,hB⟩;exact Zdx (ins:=[.v (.sl false .s), .v .str]) (outs:=[.v .str]) (vs:=[.string _]) rfl (ZnZ rfl) trivial (Zak hB)
def Zbh:Fn:=⟨[.v .str, .v .str],[.v .str, .v .bool],fun y=>some (((⟨(Lib.trimPrefix (ByteArray.data y.1).toList (ByteArray.data y.2.1).toList).toArray⟩:ByteArray),(Lib.hasPrefix (ByteArray.data y.1).toList (ByteArray.data y.2.1).toList,())),()), .nor⟩
theorem ZiW [Glb] (L:Lays.n103 P ρ) (hE:U2 P (ρ.f 103)):Zy P (ρ.f 103) Zbh where
 nin:=by decide
 nout:=by decide
 inOk:=by simp[Zbh,Jd,YL]
 outOk:=by simp[Zbh,Jd,YL]
 enters:=hE
 calls:=fun w y args S L0 hy hd hs hl hg hgf r hr=>by
  obtain ⟨s,p,_⟩:=y;obtain ⟨v,x,S1,S2,rfl,hv,hx⟩:=Zm0 (y:=(s,(p,()))) hy;obtain rfl:v= .string s:=hv;obtain rfl:x= .string p:=hx;injection hr with hr
  subst hr;refine (Any.strings_CutPrefix L s p w).mono ?_;rintro e w' ⟨rfl,rfl⟩;exact Zdx (ins:=[.v .str, .v .str]) (outs:=[.v .str, .v .bool]) (vs:=[.string _, .bool _]) rfl (Zpx rfl (ZnZ rfl)) trivial (Zak (Below.refl _ _))
def Zrv:Fn:=⟨[.v .str, .v .str],[.v .str, .v .str, .v .bool],fun y=>bif Nat.blt (ByteArray.size y.1) 4294967281 then some ((((⟨(Lib.cut (ByteArray.data y.1).toList (ByteArray.data y.2.1).toList).1.toArray⟩:ByteArray),((⟨(Lib.cut (ByteArray.data y.1).toList (ByteArray.data y.2.1).toList).2.1.toArray⟩:ByteArray),((Lib.cut (ByteArray.data y.1).toList (ByteArray.data y.2.1).toList).2.2,())))),())else none, .nor⟩
theorem Zrw [Glb] (L:Lays.n145 P ρ) (hE:U2 P (ρ.f 145)) (hf: ∀w,Glb.fact w→ ∃m,w.cell? ⟨ρ.g 1,0,none⟩=some (.int .i64 m)):Zy P (ρ.f 145) Zrv where
 nin:=by decide
 nout:=by decide
 inOk:=by simp[Zrv,Jd,YL]
 outOk:=by simp[Zrv,Jd,YL]
 enters:=hE
 calls:=fun w y args S L0 hy hd hs hl hg hgf r hr=>by
  obtain ⟨s,p,_⟩:=y;obtain ⟨v,x,S1,S2,rfl,hv,hx⟩:=Zm0 (y:=(s,(p,()))) hy;obtain rfl:v= .string s:=hv;obtain rfl:x= .string p:=hx;have hr:(bif Nat.blt (ByteArray.size s) 4294967281 then _ else none)=some r:=hr
  cases hc:Nat.blt (ByteArray.size s) 4294967281 with
  |false=>rw[hc]at hr;cases hr
  |true=>
   rw[hc]at hr;injection hr with hr
   subst hr;obtain ⟨m,hm⟩:=hf w hgf;refine (Any.strings_Cut L s p m w (by simpa using hc) hm).mono ?_;rintro e w' ⟨rfl,n,rfl⟩;exact Zdx (ins:=[.v .str, .v .str]) (outs:=[.v .str, .v .str, .v .bool]) (vs:=[.string _, .string _, .bool _]) rfl (Zpx rfl (Zpx rfl (ZnZ rfl))) trivial (Zak (below_drewN (Below.refl _ _) n))
def ZjU:Fn:=⟨[.v .str, .v .str],[.v (.sl true .s)],fun y=>bif Nat.blt (ByteArray.size y.1) 4294967281&&Nat.ble 1 (ByteArray.size y.2.1)then some ((Lib.splitB y.2.1 0 (Lib.countB y.1 y.2.1) y.1,()),())else none, .nor⟩
theorem ZpN [Glb] (L:Lays.n146 P ρ) (hi9:(P.info? (ρ.t 9)).map (fun i=>(i.zero,i.size,i.bytes))=some (some (.string ByteArray.empty),1,16)) (hE:U2 P (ρ.f 146))
  (hf: ∀w,Glb.fact w→ ∃m,w.cell? ⟨ρ.g 1,0,none⟩=some (.int .i64 m)):Zy P (ρ.f 146) ZjU where
 nin:=by decide
 nout:=by decide
 inOk:=by simp[ZjU,Jd,YL]
 outOk:=by simp[ZjU,Jd,YL]
 enters:=hE
 calls:=fun w y args S L0 hy hd hs hl hg hgf r hr=>by
  obtain ⟨s,p,_⟩:=y;obtain ⟨v,x,S1,S2,rfl,hv,hx⟩:=Zm0 (y:=(s,(p,()))) hy;obtain rfl:v= .string s:=hv;obtain rfl:x= .string p:=hx;have hr:(bif Nat.blt (ByteArray.size s) 4294967281&&Nat.ble 1 (ByteArray.size p)then _ else none)=some r:=hr
  cases hc:Nat.blt (ByteArray.size s) 4294967281&&Nat.ble 1 (ByteArray.size p)with
  |false=>rw[hc]at hr;cases hr
  |true=>
   rw[hc]at hr;injection hr with hr
   subst hr;rw[Bool.and_eq_true,Nat.blt_eq,Nat.ble_eq]at hc;obtain ⟨m,hm⟩:=hf w hgf;refine (Any.strings_Split L hi9 s p m w hc.1 hm hc.2).mono ?_;rintro e w' ⟨rfl,rfl⟩;have hlen:=Lib.splitB_all p hc.2 0 _ s rfl;generalize hk:Lib.splitB p 0 (Lib.countB s p) s=l at hlen⊢;have hR:Qq (w.alloc (.cells (l.map Value.string).toArray (ρ.t 9))) true .s (some (w.heap.size,0)) (Lib.countB s p+1) l ⟨fun _=>⟨none,0,0,none⟩,none⟩:=by
    refine ⟨?_,fun h=>by (cases h),?_,trivial⟩
    ·show List.length (α:=ByteArray) l≤_;omega
    ·intro b o h;injection h with h
     injection h with h1 h2
     subst h1 h2;refine ⟨fun i hi j hj=> ?_,fun _=>Zfg _ _ _ _ ?_⟩
     ·obtain rfl:j=0:=by have:E.sz .s=1:=rfl;omega
      rw[Zd1];simp only[E.sz,Nat.mul_one,Nat.zero_add,Nat.add_zero];have hi:i<List.length (α:=ByteArray) l:=hi;simp[elV,hi]
     ·simp only[E.sz,Nat.mul_one,Nat.zero_add,List.size_toArray,List.length_map];have:List.length (α:=ByteArray) l=Lib.countB s p+1:=hlen;omega
   refine ⟨[slV (some (w.heap.size,0)) none l.length (Lib.countB s p+1)],(fun b _=>b=w.heap.size),noF,?_,?_,trivial,fun _ _ _ h=>h,?_,Zbx _ _ _⟩
   ·show Ending.returned _=Ending.returned (slV _ _ _ _);rw[hlen];rfl
   ·refine ⟨fun b _=>b=w.heap.size,noF,⟨some (w.heap.size,0),Lib.countB s p+1,⟨fun _=>⟨none,0,0,none⟩,none⟩,rfl,hR,?_⟩,trivial,fun _ _ _ h=>h,fun _ _ h=>h,fun _ _ h=>h.elim⟩;rintro b (⟨o,h⟩| ⟨h,_⟩)
    ·injection h with h
     injection h with h1 h2
     exact fun _=>h1.symm
    ·cases h
   ·rintro b o (h|h)
    ·have h:b=w.heap.size:=h;subst h;exact ⟨.inr (Nat.le_refl _),by simp⟩
    ·exact h.elim
end
end Go.Tev
namespace Go.Proofs.YtcbdldlphpjmbaaGreatDoor.Plain
open Go Go.Tev Go.RowKit Go.Proofs Go.Shelf
theorem Zsg:Tryz.prog.globalNamed "internal/strconv.uint64pow10" =some 3:=by kernel_rfl
def Um:List Nat:=[3,2,0,1]
def Zpd (w:World):Prop:=Go.Lib.TabIs Tryz.prog w "internal/strconv.uint64pow10" .u64 Go.Lib.pow10Tab∧(∃m,w.cell? ⟨2,0,Option.none⟩=some (.int .i64 m))∧(∃t p,w.cell? ⟨0,0,Option.none⟩=some (.iface t p))∧(∃t p,w.cell? ⟨1,0,Option.none⟩=some (.iface t p))
instance glbV:Glb:=⟨fun b=>b∈Um,Zpd,fun S w w' hF hs h=>by
 obtain ⟨h0,h1,h2,h3⟩:=h;exact ⟨Znx hF Zsg (fun o=>hs _ o (by unfold Um;simp)) h0,(let ⟨m,hm⟩:=h1;⟨m,Zd8 hF (fun o=>hs _ o (by unfold Um;simp)) hm⟩),(let ⟨t,p,hm⟩:=h2;⟨t,p,Zd8 hF (fun o=>hs _ o (by unfold Um;simp)) hm⟩),(let ⟨t,p,hm⟩:=h3;⟨t,p,Zd8 hF (fun o=>hs _ o (by unfold Um;simp)) hm⟩)⟩⟩
theorem Zrq {w:World} (h:Glb.fact w): ∀b,Glb.blk b→b<w.heap.size:=by
 intro b hb;have h:Zpd w:=h;obtain ⟨h0,h1,h2,h3⟩:=h;have hb:b∈Um:=hb;unfold Um at hb;simp only[List.mem_cons,List.mem_nil_iff,or_false]at hb;rcases hb with rfl|rfl|rfl|rfl
 ·exact ZqJ Zsg h0
 ·exact (let ⟨m,hm⟩:=h1;Zig hm)
 ·exact (let ⟨t,p,hm⟩:=h2;Zig hm)
 ·exact (let ⟨t,p,hm⟩:=h3;Zig hm)
theorem ZqF {W:World} (hsh:W.ShapedOpen Tryz.prog) (h:laidMet Tryz.prog [("math/bits.deBruijn32tab",Go.Proofs.YtcbdldlphpjmbaaGreatDoor.Rows.laid_math_bits_deBruijn32tab),("math/bits.deBruijn64tab",Go.Proofs.YtcbdldlphpjmbaaGreatDoor.Rows.laid_math_bits_deBruijn64tab),("internal/strconv.uint64pow10",Go.Proofs.YtcbdldlphpjmbaaGreatDoor.Rows.laid_internal_strconv_uint64pow10),("unicode/utf8.acceptRanges",Go.Proofs.YtcbdldlphpjmbaaGreatDoor.Rows.laid_unicode_utf8_acceptRanges),("strconv.ErrRange",Go.Proofs.YtcbdldlphpjmbaaGreatDoor.Rows.laid_strconv_ErrRange),("strconv.ErrSyntax",Go.Proofs.YtcbdldlphpjmbaaGreatDoor.Rows.laid_strconv_ErrSyntax),("unicode/utf8.first",Go.Proofs.YtcbdldlphpjmbaaGreatDoor.Rows.laid_unicode_utf8_first)] W):Glb.fact W:=by
 have e:(Go.Proofs.YtcbdldlphpjmbaaGreatDoor.Rows.laid_internal_strconv_uint64pow10:DataW Unit)=Go.Lib.tabData .u64 Go.Lib.pow10Tab:=by kernel_rfl
 have h0:=(K9 (K9 h));rw[e]at h0;have a0:=Go.Lib.tabIs_of_head (t:=271) (e:=217) (n:=20) Zsg (by kernel_rfl) (by kernel_rfl) (by kernel_rfl) (by kernel_rfl) (by kernel_rfl) h0;have a1:=Tryz.laysM146.s1_3 W hsh;have b0: ∃t p,W.cell? ⟨0,0,Option.none⟩=some (.iface t p):=Zhy (K9 (K9 (K9 (K9 (K9 h))))) (by kernel_rfl) (by kernel_rfl) Tryz.underlying111;have b1: ∃t p,W.cell? ⟨1,0,Option.none⟩=some (.iface t p):=Zhy (K9 (K9 (K9 (K9 h)))) (by kernel_rfl) (by kernel_rfl) Tryz.underlying111;exact ⟨a0,a1,b0,b1⟩
theorem Zsj:Zy Tryz.prog 75 ZnD:=ZqL Tryz.laysM171 ⟨Tryz.f75,Tryz.func75,by kernel_rfl,by kernel_rfl⟩ (fun w h=>h.1)
theorem Zsl:Zy Tryz.prog 136 ZnE:=ZqM Tryz.lays156 Tryz.Builder_Extra_156 ⟨Tryz.f136,Tryz.func136,by kernel_rfl,by kernel_rfl⟩
theorem Zl9:Zy Tryz.prog 26 Zbh:=ZiW Tryz.lays103 ⟨Tryz.f26,Tryz.func26,by kernel_rfl,by kernel_rfl⟩
theorem ZsR:Zy Tryz.prog 107 Zrv:=Zrw {Tryz.laysM145 with} ⟨Tryz.f107,Tryz.func107,by kernel_rfl,by kernel_rfl⟩ (fun w h=>h.2.1)
theorem splitK:Zy Tryz.prog 44 ZjU:=ZpN {Tryz.laysM146 with} (by kernel_rfl) ⟨Tryz.f44,Tryz.func44,by kernel_rfl,by kernel_rfl⟩ (fun w h=>h.2.1)
def J2 (l:List UInt8) (most:Int):Int×Bool:=match Go.Lib.atoiAll l with
 | .ok v=>if 0≤v∧v≤most∧Go.Lib.itoa v=l then (v,true)else (0,false)
 |_=>(0,false)
def ZpF:Tev.Fn:=⟨[.v .str, .v (.int .i64)],[.v (.int .i64), .v .bool],fun y=>bif Nat.ble (ByteArray.size y.1) 281474976710656 then some (((J2 (ByteArray.data y.1).toList y.2.1).1,((J2 (ByteArray.data y.1).toList y.2.1).2,())),())else none, .nor⟩
theorem ZoY (s:ByteArray) (w:World) (hs:s.size≤281474976710656) (h:Glb.fact w):Calls Tryz.prog 73 #[.string s] w fun e w'=>(∃v er,e= .returned (.tuple #[.int .i64 v,er])∧(-9223372036854775808≤v∧v≤9223372036854775807)∧
  ((Go.Lib.atoiAll s.data.toList= .ok v∧er= .nilIface)∨((∀u,Go.Lib.atoiAll s.data.toList≠ .ok u)∧ ∃t p,er= .iface t p)))∧Below w.heap.size w w':=by
 have h:Zpd w:=h;obtain ⟨ts,ps,hS⟩:=h.2.2.1;obtain ⟨tr,pr,hR⟩:=h.2.2.2;cases ha:Go.Lib.atoiAll s.data.toList with
 |ok v=>
  refine (Any.strconv_Atoi_ok Tryz.laysC172 s (by omega) v ha w).mono ?_;rintro e w' ⟨rfl,hw⟩;refine ⟨⟨v,_,rfl,Go.Lib.atoiAll_bounds ha, .inl ⟨rfl,rfl⟩⟩,?_⟩;rcases hw with rfl| ⟨t,rfl⟩
  ·exact Below.refl _ _
  ·exact Go.Lib.bytesWorld_below _ _ _
 |range=>
  refine (Any.strconv_Atoi_range Tryz.laysC172 s hs ha _ w hR (.inr ⟨_,_,rfl⟩)).mono ?_;rintro e w' ⟨N,rfl,_,_,hb⟩;exact ⟨⟨_,_,rfl,Go.Lib.atoiSat_bounds _, .inr ⟨fun u hu=>(by cases hu),_,_,rfl⟩⟩,hb⟩
 |_=>
  refine (Any.strconv_Atoi_syntax Tryz.laysC172 s hs ha _ w hS (.inr ⟨_,_,rfl⟩)).mono ?_;rintro e w' ⟨N,rfl,_,_,hb⟩;exact ⟨⟨0,_,rfl,by omega, .inr ⟨fun u hu=>(by cases hu),_,_,rfl⟩⟩,hb⟩
theorem Zma (v:Int) (h0: -9223372036854775808≤v) (h1:v≤9223372036854775807) (w:World) (h:Glb.fact w):Calls Tryz.prog 31 #[.int .i64 v] w fun e w'=>e= .returned (.string ⟨(Go.Lib.itoa v).toArray⟩)∧Below w.heap.size w w':=by
 have h:Zpd w:=h;have c:Calls Tryz.prog 75 #[.int .i64 v] w _:=Any.strconv_Itoa Tryz.laysM171 v h0 h1 w h.1
 go_enter Tryz.func31,Tryz.ntmps31
 go_wp2_with (go_at_call 75;refine c.mono ?_;rintro e w' ⟨rfl,k,os,rfl⟩)
 go_ret;exact ⟨rfl,(below_drewN (Below.refl _ _) k).trans ⟨rfl,rfl,rfl,by simp[Sort.grow],fun b hb=>Sort.heap_grow_old _ _ hb⟩⟩
theorem ZjJ {P:Program} (w:World) {ti:TypeId} {ms:Array (String×TypeId)} (hi:P.underlying ti=some (.interface ms)):(binOp .neq ti .nilIface .nilIface).run P w= .ok (.bool false) w:=by
 have h: ∀d:Nat,(Op.equalIn (d+1) ti .nilIface .nilIface).run P w= .ok true w:=fun d=>by simp[Op.equalIn,run_underlying hi]
 simp only[binOp];simp[Op.equal,Op.maxDepth,h 9999]
theorem Zep {P:Program} (w:World) {ti:TypeId} {ms:Array (String×TypeId)} (tp:TypeId) (v:Value) (hi:P.underlying ti=some (.interface ms)):(binOp .neq ti (.iface tp v) .nilIface).run P w= .ok (.bool true) w:=by
 have h: ∀d:Nat,(Op.equalIn (d+1) ti (.iface tp v) .nilIface).run P w= .ok false w:=fun d=>by simp[Op.equalIn,run_underlying hi]
 simp only[binOp];simp[Op.equal,Op.maxDepth,h 9999]
theorem Zg2 {P:Program} (w:World) (t:TypeId) (x:Operand) (c:Value):(eqGuard .neq t x (.const c) .nilIface .nilIface).run P w= .ok () w:=by
 simp[eqGuard]
theorem Zgp {P:Program} (w:World) (t tp:TypeId) (x y:Operand) (v:Value):(eqGuard .neq t x y (.iface tp v) .nilIface).run P w= .ok () w:=by
 simp[eqGuard]
set_option maxRecDepth 100000 in
theorem Zgl (s:ByteArray) (most:Int) (w:World) (hs:s.size≤281474976710656) (h:Glb.fact w):Calls Tryz.prog 29 #[.string s, .int .i64 most] w fun e w'=>e= .returned (.tuple #[.int .i64 (J2 s.data.toList most).1, .bool (J2 s.data.toList most).2])∧Below w.heap.size w w':=by
 have ca:=ZoY s w hs h
 go_enter Tryz.func29,Tryz.ntmps29
 go_wp2_with (go_at_call 73;refine ca.mono ?_;rintro e W1 ⟨⟨v,er,rfl,⟨hv0,hv1⟩,hr⟩,hb⟩)
 have hf1:Glb.fact W1:=Glb.stay noF w W1 (Zak hb) (fun _ _ _ h=>h) h;rcases hr with ⟨ho,rfl⟩| ⟨hn,t,p,rfl⟩
 ·have cd:=Zma v hv0 hv1 W1 hf1;rw[Zg2,Result.andThen_ok,ZjJ W1 Tryz.underlying111]
  go_wp2_with (first| (go_at_call 31;refine cd.mono ?_;rintro e W2 ⟨rfl,hb2⟩)|go_in)
  ·rename_i g0 g1 g2;have e:J2 s.data.toList most=(0,false):=by
    unfold J2;rw[ho];dsimp only;rw[Zc];rintro ⟨_,_,h⟩;rw[h,ByteArray.toList_eq,beq_self_eq_true]at g2;cases g2
   go_ret2;rw[e];exact ⟨rfl,hb.trans (hb2.mono hb.size)⟩
  ·rename_i g0 g1 g2;have e:J2 s.data.toList most=(v,true):=by
    unfold J2;rw[ho];dsimp only;rw[Ze];refine ⟨g0,g1,?_⟩;rw[Bool.not_eq_false',ByteArray.toList_eq,beq_iff_eq]at g2;exact g2
   go_ret2;rw[e];exact ⟨rfl,hb.trans (hb2.mono hb.size)⟩
  ·rename_i g0 g1;have e:J2 s.data.toList most=(0,false):=by
    unfold J2;rw[ho];dsimp only;rw[Zc];rintro ⟨_,_,_⟩;omega
   go_ret2;rw[e];exact ⟨rfl,hb⟩
  ·rename_i g0;have e:J2 s.data.toList most=(0,false):=by
    unfold J2;rw[ho];dsimp only;rw[Zc];rintro ⟨_,_,_⟩;omega
   go_ret2;rw[e];exact ⟨rfl,hb⟩
 ·rw[Zgp,Result.andThen_ok,Zep W1 t p Tryz.underlying111];go_wp2;have e:J2 s.data.toList most=(0,false):=by
   unfold J2;cases ha:Go.Lib.atoiAll s.data.toList with
   |ok u=>exact absurd ha (hn u)
   |range=>rfl
   |_=>rfl
  go_ret2;rw[e];exact ⟨rfl,hb⟩
theorem Zsu:Zy Tryz.prog 29 ZpF where
 nin:=by decide
 nout:=by decide
 inOk:=by simp[ZpF,Jd,YL]
 outOk:=by simp[ZpF,Jd,YL]
 enters:=⟨Tryz.f29,Tryz.func29,by kernel_rfl,by kernel_rfl⟩
 calls:=fun w y args S L0 hy hd hs hl hg hgf r hr=>by
  obtain ⟨s,most,_⟩:=y;obtain ⟨v,x,S1,S2,rfl,hv,hx⟩:=Zm0 (t:= .str) (u:= .int .i64) (y:=(s,(most,()))) hy;obtain rfl:v= .string s:=hv;obtain rfl:x= .int .i64 most:=hx;have hr:(bif Nat.ble (ByteArray.size s) 281474976710656 then _ else none)=some r:=hr
  cases hc:Nat.ble (ByteArray.size s) 281474976710656 with
  |false=>rw[hc]at hr;cases hr
  |true=>
   rw[hc]at hr;injection hr with hr
   subst hr;rw[Nat.ble_eq]at hc;refine (Zgl s most w hc hgf).mono ?_;rintro e w' ⟨rfl,hb⟩;exact Zdx (ins:=[.v .str, .v (.int .i64)]) (outs:=[.v (.int .i64), .v .bool]) (vs:=[.int .i64 _, .bool _]) rfl (Zpx rfl (ZnZ rfl)) trivial (Zak hb)
end Go.Proofs.YtcbdldlphpjmbaaGreatDoor.Plain
