/- Contracts of library functions at this program, as the evaluator wants them; what is known of package variables. No condition beyond those that each lemma states. -/
import Derived.Test.YtmlahgmhbdpkjaaGreatDoorW5
import Derived.Test.YtmlahgmhbdpkjaaGreatDoorRows
import Derived.Lib.LaidTab
import Derived.HandedShaped
import Derived.KernelRfl
import Derived.Lib.IndexMore
import Derived.Lib.ItoaNum
import Derived.Lib.Strings
import Derived.Lib.Join
import Derived.Lib.AtoiTie
import Derived.Lib.AtoiAllCases
import Derived.Lib.Split
import Derived.Shelf.Strconv.Itoa3
import Derived.WalkSmall
import Derived.Shelf.Small.Wraps
import Derived.Shelf.Strings.Cut
import Derived.Shelf.Strings.Split
import Derived.Shelf.Strconv.AtoiAll
import Derived.BigCall
import Derived.WalkKit
import Derived.Laws.Pointers
import Derived.Laws.Small
set_option linter.unusedVariables false
set_option linter.unusedSimpArgs false
set_option maxRecDepth 100000
namespace Go.Proofs
open Go.Shelf
def Tryz.laysM171_ren:Ren:=⟨fun|171=>134|243=>170|246=>202|283=>221|284=>222|285=>223|286=>224|129=>242|317=>241|318=>243|319=>244|320=>245|337=>262|338=>263|n=>n,fun|3=>3|9=>9|2=>2|4=>4|171=>213|0=>0|53=>193|37=>53|5=>5|173=>216|212=>238|51=>218|20=>20|213=>239|46=>143|232=>262|233=>263|n=>n,fun|17=>5|18=>6|19=>7|n=>n⟩
theorem Tryz.laysM171:LaysM.n171 Tryz.prog Tryz.laysM171_ren:={
 mixed:=by kernel_rfl
 f129:=Tryz.func242.trans (congrArg some (by kernel_rfl))
 f171:=Tryz.func134.trans (congrArg some (by kernel_rfl))
 f243:=Tryz.func170.trans (congrArg some (by kernel_rfl))
 f246:=Tryz.func202.trans (congrArg some (by kernel_rfl))
 f283:=Tryz.func221.trans (congrArg some (by kernel_rfl))
 f284:=Tryz.func222.trans (congrArg some (by kernel_rfl))
 f285:=Tryz.func223.trans (congrArg some (by kernel_rfl))
 f286:=Tryz.func224.trans (congrArg some (by kernel_rfl))
 f317:=Tryz.func241.trans (congrArg some (by kernel_rfl))
 f318:=Tryz.func243.trans (congrArg some (by kernel_rfl))
 f319:=Tryz.func244.trans (congrArg some (by kernel_rfl))
 f320:=Tryz.func245.trans (congrArg some (by kernel_rfl))
 f337:=Tryz.func262.trans (congrArg some (by kernel_rfl))
 f338:=Tryz.func263.trans (congrArg some (by kernel_rfl))
 t0:=Tryz.underlying0
 a0:=Tryz.isAgg0
 z0:=Tryz.sizeOf0
 v0:=Tryz.zeroValue0
 t2:=Tryz.underlying2
 a2:=Tryz.isAgg2
 z2:=Tryz.sizeOf2
 v2:=Tryz.zeroValue2
 t3:=Tryz.underlying3
 a3:=Tryz.isAgg3
 z3:=Tryz.sizeOf3
 v3:=Tryz.zeroValue3
 t4:=Tryz.underlying4
 a4:=Tryz.isAgg4
 z4:=Tryz.sizeOf4
 v4:=Tryz.zeroValue4
 t5:=Tryz.underlying5
 a5:=Tryz.isAgg5
 z5:=Tryz.sizeOf5
 v5:=Tryz.zeroValue5
 t9:=Tryz.underlying9
 a9:=Tryz.isAgg9
 z9:=Tryz.sizeOf9
 v9:=Tryz.zeroValue9
 t20:=Tryz.underlying20
 a20:=Tryz.isAgg20
 z20:=Tryz.sizeOf20
 v20:=Tryz.zeroValue20
 t37:=Tryz.underlying53
 a37:=Tryz.isAgg53
 z37:=Tryz.sizeOf53
 v37:=Tryz.zeroValue53
 t46:=Tryz.underlying143
 a46:=Tryz.isAgg143
 z46:=Tryz.sizeOf143
 v46:=Tryz.zeroValue143
 t51:=Tryz.underlying218
 a51:=Tryz.isAgg218
 z51:=Tryz.sizeOf218
 v51:=Tryz.zeroValue218
 t53:=Tryz.underlying193
 a53:=Tryz.isAgg193
 z53:=Tryz.sizeOf193
 v53:=Tryz.zeroValue193
 t171:=Tryz.underlying213
 a171:=Tryz.isAgg213
 z171:=Tryz.sizeOf213
 v171:=Tryz.zeroValue213
 t173:=Tryz.underlying216
 a173:=Tryz.isAgg216
 z173:=Tryz.sizeOf216
 v173:=Tryz.zeroValue216
 t212:=Tryz.underlying238
 a212:=Tryz.isAgg238
 z212:=Tryz.sizeOf238
 v212:=Tryz.zeroValue238
 t213:=Tryz.underlying239
 a213:=Tryz.isAgg239
 z213:=Tryz.sizeOf239
 t232:=Tryz.underlying262
 a232:=Tryz.isAgg262
 z232:=Tryz.sizeOf262
 v232:=Tryz.zeroValue262
 t233:=Tryz.underlying263
 a233:=Tryz.isAgg263
 z233:=Tryz.sizeOf263
 v233:=Tryz.zeroValue263
 g17:=by kernel_rfl
 g18:=by kernel_rfl
 g19:=by kernel_rfl
 i0:=by kernel_rfl
 i2:=by kernel_rfl
 i3:=by kernel_rfl
 i4:=by kernel_rfl
 i5:=by kernel_rfl
 i9:=by kernel_rfl
 i20:=by kernel_rfl
 i37:=by kernel_rfl
 i46:=by kernel_rfl
 i51:=by kernel_rfl
 i53:=by kernel_rfl
 i171:=by kernel_rfl
 i173:=by kernel_rfl
 i212:=by kernel_rfl
 i232:=by kernel_rfl
 i233:=by kernel_rfl
 m17:=by kernel_rfl
 m18:=by kernel_rfl
 m19:=by kernel_rfl}
def Tryz.lays103_ren:Ren:=⟨fun|103=>42|210=>86|206=>131|n=>n,fun|9=>9|4=>4|24=>79|3=>3|n=>n,fun|n=>n⟩
theorem Tryz.lays103:Lays.n103 Tryz.prog Tryz.lays103_ren:={
 mixed:=by kernel_rfl
 f103:=Tryz.func42.trans (congrArg some (by kernel_rfl))
 f206:=Tryz.func131.trans (congrArg some (by kernel_rfl))
 f210:=Tryz.func86.trans (congrArg some (by kernel_rfl))
 t3:=Tryz.underlying3
 a3:=Tryz.isAgg3
 z3:=Tryz.sizeOf3
 v3:=Tryz.zeroValue3
 t4:=Tryz.underlying4
 a4:=Tryz.isAgg4
 z4:=Tryz.sizeOf4
 v4:=Tryz.zeroValue4
 t9:=Tryz.underlying9
 a9:=Tryz.isAgg9
 z9:=Tryz.sizeOf9
 v9:=Tryz.zeroValue9
 t24:=Tryz.underlying79
 a24:=Tryz.isAgg79
 z24:=Tryz.sizeOf79
 v24:=Tryz.zeroValue79}
def Tryz.laysM145_ren:Ren:=⟨fun|145=>89|220=>135|219=>171|217=>203|225=>204|224=>205|267=>206|266=>225|314=>226|n=>n,fun|9=>9|4=>4|59=>120|3=>3|5=>5|46=>143|146=>219|51=>218|n=>n,fun|1=>2|n=>n⟩
theorem Tryz.laysM145:LaysM.n145 Tryz.prog Tryz.laysM145_ren:={
 mixed:=by kernel_rfl
 f145:=Tryz.func89.trans (congrArg some (by kernel_rfl))
 f217:=Tryz.func203.trans (congrArg some (by kernel_rfl))
 f219:=Tryz.func171.trans (congrArg some (by kernel_rfl))
 f220:=Tryz.func135.trans (congrArg some (by kernel_rfl))
 f224:=Tryz.func205.trans (congrArg some (by kernel_rfl))
 f225:=Tryz.func204.trans (congrArg some (by kernel_rfl))
 f266:=Tryz.func225.trans (congrArg some (by kernel_rfl))
 f267:=Tryz.func206.trans (congrArg some (by kernel_rfl))
 f314:=Tryz.func226.trans (congrArg some (by kernel_rfl))
 t3:=Tryz.underlying3
 a3:=Tryz.isAgg3
 z3:=Tryz.sizeOf3
 v3:=Tryz.zeroValue3
 t4:=Tryz.underlying4
 a4:=Tryz.isAgg4
 z4:=Tryz.sizeOf4
 v4:=Tryz.zeroValue4
 t5:=Tryz.underlying5
 a5:=Tryz.isAgg5
 z5:=Tryz.sizeOf5
 v5:=Tryz.zeroValue5
 t9:=Tryz.underlying9
 a9:=Tryz.isAgg9
 z9:=Tryz.sizeOf9
 v9:=Tryz.zeroValue9
 t46:=Tryz.underlying143
 a46:=Tryz.isAgg143
 z46:=Tryz.sizeOf143
 v46:=Tryz.zeroValue143
 t51:=Tryz.underlying218
 a51:=Tryz.isAgg218
 z51:=Tryz.sizeOf218
 v51:=Tryz.zeroValue218
 t59:=Tryz.underlying120
 a59:=Tryz.isAgg120
 z59:=Tryz.sizeOf120
 v59:=Tryz.zeroValue120
 t146:=Tryz.underlying219
 a146:=Tryz.isAgg219
 z146:=Tryz.sizeOf219
 v146:=Tryz.zeroValue219
 g1:=by kernel_rfl
 i3:=by kernel_rfl
 i4:=by kernel_rfl
 i5:=by kernel_rfl
 i9:=by kernel_rfl
 i46:=by kernel_rfl
 i51:=by kernel_rfl
 i59:=by kernel_rfl
 i146:=by kernel_rfl
 m1:=by kernel_rfl
 s1_3:=fun w h=>Go.Proofs.cell_of_shapedOpen_int (zero:= #[.int .i64 0]) (t:=3) h (of_decide_eq_true (by kernel_rfl)) (by kernel_rfl) rfl (by kernel_rfl) (by kernel_rfl) Tryz.underlying3}
def Tryz.laysM146_ren:Ren:=⟨fun|146=>85|221=>130|268=>162|138=>163|143=>164|195=>196|197=>197|218=>198|219=>171|260=>218|217=>203|225=>204|224=>205|267=>206|266=>225|314=>226|n=>n,fun|9=>9|31=>77|3=>3|4=>4|0=>0|105=>190|21=>21|5=>5|46=>143|119=>233|139=>236|138=>235|146=>219|51=>218|n=>n,fun|1=>2|3=>3|4=>4|n=>n⟩
theorem Tryz.laysM146:LaysM.n146 Tryz.prog Tryz.laysM146_ren:={
 mixed:=by kernel_rfl
 f138:=Tryz.func163.trans (congrArg some (by kernel_rfl))
 f143:=Tryz.func164.trans (congrArg some (by kernel_rfl))
 f146:=Tryz.func85.trans (congrArg some (by kernel_rfl))
 f195:=Tryz.func196.trans (congrArg some (by kernel_rfl))
 f197:=Tryz.func197.trans (congrArg some (by kernel_rfl))
 f217:=Tryz.func203.trans (congrArg some (by kernel_rfl))
 f218:=Tryz.func198.trans (congrArg some (by kernel_rfl))
 f219:=Tryz.func171.trans (congrArg some (by kernel_rfl))
 f221:=Tryz.func130.trans (congrArg some (by kernel_rfl))
 f224:=Tryz.func205.trans (congrArg some (by kernel_rfl))
 f225:=Tryz.func204.trans (congrArg some (by kernel_rfl))
 f260:=Tryz.func218.trans (congrArg some (by kernel_rfl))
 f266:=Tryz.func225.trans (congrArg some (by kernel_rfl))
 f267:=Tryz.func206.trans (congrArg some (by kernel_rfl))
 f268:=Tryz.func162.trans (congrArg some (by kernel_rfl))
 f314:=Tryz.func226.trans (congrArg some (by kernel_rfl))
 t0:=Tryz.underlying0
 a0:=Tryz.isAgg0
 z0:=Tryz.sizeOf0
 v0:=Tryz.zeroValue0
 t3:=Tryz.underlying3
 a3:=Tryz.isAgg3
 z3:=Tryz.sizeOf3
 v3:=Tryz.zeroValue3
 t4:=Tryz.underlying4
 a4:=Tryz.isAgg4
 z4:=Tryz.sizeOf4
 v4:=Tryz.zeroValue4
 t5:=Tryz.underlying5
 a5:=Tryz.isAgg5
 z5:=Tryz.sizeOf5
 v5:=Tryz.zeroValue5
 t9:=Tryz.underlying9
 a9:=Tryz.isAgg9
 z9:=Tryz.sizeOf9
 v9:=Tryz.zeroValue9
 t21:=Tryz.underlying21
 a21:=Tryz.isAgg21
 z21:=Tryz.sizeOf21
 v21:=Tryz.zeroValue21
 t31:=Tryz.underlying77
 a31:=Tryz.isAgg77
 z31:=Tryz.sizeOf77
 v31:=Tryz.zeroValue77
 t46:=Tryz.underlying143
 a46:=Tryz.isAgg143
 z46:=Tryz.sizeOf143
 v46:=Tryz.zeroValue143
 t51:=Tryz.underlying218
 a51:=Tryz.isAgg218
 z51:=Tryz.sizeOf218
 v51:=Tryz.zeroValue218
 t105:=Tryz.underlying190
 a105:=Tryz.isAgg190
 z105:=Tryz.sizeOf190
 v105:=Tryz.zeroValue190
 t119:=Tryz.underlying233
 a119:=Tryz.isAgg233
 z119:=Tryz.sizeOf233
 t138:=Tryz.underlying235
 a138:=Tryz.isAgg235
 z138:=Tryz.sizeOf235
 v138:=Tryz.zeroValue235
 t139:=Tryz.underlying236
 a139:=Tryz.isAgg236
 z139:=Tryz.sizeOf236
 v139:=Tryz.zeroValue236
 t146:=Tryz.underlying219
 a146:=Tryz.isAgg219
 z146:=Tryz.sizeOf219
 v146:=Tryz.zeroValue219
 g1:=by kernel_rfl
 g3:=by kernel_rfl
 g4:=by kernel_rfl
 i0:=by kernel_rfl
 i3:=by kernel_rfl
 i4:=by kernel_rfl
 i5:=by kernel_rfl
 i9:=by kernel_rfl
 i21:=by kernel_rfl
 i31:=by kernel_rfl
 i46:=by kernel_rfl
 i51:=by kernel_rfl
 i105:=by kernel_rfl
 i138:=by kernel_rfl
 i139:=by kernel_rfl
 i146:=by kernel_rfl
 m1:=by kernel_rfl
 s1_3:=fun w h=>Go.Proofs.cell_of_shapedOpen_int (zero:= #[.int .i64 0]) (t:=3) h (of_decide_eq_true (by kernel_rfl)) (by kernel_rfl) rfl (by kernel_rfl) (by kernel_rfl) Tryz.underlying3
 m3:=by kernel_rfl
 m4:=by kernel_rfl}
def Tryz.laysC172_ren:Ren:=⟨fun|172=>87|244=>132|245=>133|247=>165|279=>166|280=>167|281=>168|282=>169|287=>199|316=>200|171=>134|205=>201|321=>219|322=>220|243=>170|246=>202|283=>221|284=>222|285=>223|286=>224|129=>242|317=>241|318=>243|319=>244|320=>245|337=>262|338=>263|n=>n,fun|9=>9|3=>3|75=>116|76=>117|4=>4|5=>5|167=>169|37=>53|0=>0|85=>170|2=>2|168=>172|53=>193|175=>194|46=>143|210=>198|127=>209|145=>212|143=>210|21=>21|171=>213|173=>216|212=>238|51=>218|20=>20|213=>239|232=>262|233=>263|80=>264|n=>n,fun|15=>0|16=>1|17=>5|18=>6|19=>7|n=>n⟩
theorem Tryz.laysC172:LaysC.n172 Tryz.prog Tryz.laysC172_ren:={
 mixed:=by kernel_rfl
 f129:=Tryz.func242.trans (congrArg some (by kernel_rfl))
 f171:=Tryz.func134.trans (congrArg some (by kernel_rfl))
 f172:=Tryz.func87.trans (congrArg some (by kernel_rfl))
 f205:=Tryz.func201.trans (congrArg some (by kernel_rfl))
 f243:=Tryz.func170.trans (congrArg some (by kernel_rfl))
 f244:=Tryz.func132.trans (congrArg some (by kernel_rfl))
 f245:=Tryz.func133.trans (congrArg some (by kernel_rfl))
 f246:=Tryz.func202.trans (congrArg some (by kernel_rfl))
 f247:=Tryz.func165.trans (congrArg some (by kernel_rfl))
 f279:=Tryz.func166.trans (congrArg some (by kernel_rfl))
 f280:=Tryz.func167.trans (congrArg some (by kernel_rfl))
 f281:=Tryz.func168.trans (congrArg some (by kernel_rfl))
 f282:=Tryz.func169.trans (congrArg some (by kernel_rfl))
 f283:=Tryz.func221.trans (congrArg some (by kernel_rfl))
 f284:=Tryz.func222.trans (congrArg some (by kernel_rfl))
 f285:=Tryz.func223.trans (congrArg some (by kernel_rfl))
 f286:=Tryz.func224.trans (congrArg some (by kernel_rfl))
 f287:=Tryz.func199.trans (congrArg some (by kernel_rfl))
 f316:=Tryz.func200.trans (congrArg some (by kernel_rfl))
 f317:=Tryz.func241.trans (congrArg some (by kernel_rfl))
 f318:=Tryz.func243.trans (congrArg some (by kernel_rfl))
 f319:=Tryz.func244.trans (congrArg some (by kernel_rfl))
 f320:=Tryz.func245.trans (congrArg some (by kernel_rfl))
 f321:=Tryz.func219.trans (congrArg some (by kernel_rfl))
 f322:=Tryz.func220.trans (congrArg some (by kernel_rfl))
 f337:=Tryz.func262.trans (congrArg some (by kernel_rfl))
 f338:=Tryz.func263.trans (congrArg some (by kernel_rfl))
 t0:=Tryz.underlying0
 a0:=Tryz.isAgg0
 z0:=Tryz.sizeOf0
 v0:=Tryz.zeroValue0
 t2:=Tryz.underlying2
 a2:=Tryz.isAgg2
 z2:=Tryz.sizeOf2
 v2:=Tryz.zeroValue2
 t3:=Tryz.underlying3
 a3:=Tryz.isAgg3
 z3:=Tryz.sizeOf3
 v3:=Tryz.zeroValue3
 t4:=Tryz.underlying4
 a4:=Tryz.isAgg4
 z4:=Tryz.sizeOf4
 v4:=Tryz.zeroValue4
 t5:=Tryz.underlying5
 a5:=Tryz.isAgg5
 z5:=Tryz.sizeOf5
 v5:=Tryz.zeroValue5
 t9:=Tryz.underlying9
 a9:=Tryz.isAgg9
 z9:=Tryz.sizeOf9
 v9:=Tryz.zeroValue9
 t20:=Tryz.underlying20
 a20:=Tryz.isAgg20
 z20:=Tryz.sizeOf20
 v20:=Tryz.zeroValue20
 t21:=Tryz.underlying21
 a21:=Tryz.isAgg21
 z21:=Tryz.sizeOf21
 v21:=Tryz.zeroValue21
 t37:=Tryz.underlying53
 a37:=Tryz.isAgg53
 z37:=Tryz.sizeOf53
 v37:=Tryz.zeroValue53
 t46:=Tryz.underlying143
 a46:=Tryz.isAgg143
 z46:=Tryz.sizeOf143
 v46:=Tryz.zeroValue143
 t51:=Tryz.underlying218
 a51:=Tryz.isAgg218
 z51:=Tryz.sizeOf218
 v51:=Tryz.zeroValue218
 t53:=Tryz.underlying193
 a53:=Tryz.isAgg193
 z53:=Tryz.sizeOf193
 v53:=Tryz.zeroValue193
 t75:=Tryz.underlying116
 a75:=Tryz.isAgg116
 z75:=Tryz.sizeOf116
 v75:=Tryz.zeroValue116
 t76:=Tryz.underlying117
 a76:=Tryz.isAgg117
 z76:=Tryz.sizeOf117
 v76:=Tryz.zeroValue117
 t85:=Tryz.underlying170
 a85:=Tryz.isAgg170
 z85:=Tryz.sizeOf170
 v85:=Tryz.zeroValue170
 t127:=Tryz.underlying209
 a127:=Tryz.isAgg209
 z127:=Tryz.sizeOf209
 v127:=Tryz.zeroValue209
 t143:=Tryz.underlying210
 a143:=Tryz.isAgg210
 z143:=Tryz.sizeOf210
 v143:=Tryz.zeroValue210
 t145:=Tryz.underlying212
 a145:=Tryz.isAgg212
 z145:=Tryz.sizeOf212
 v145:=Tryz.zeroValue212
 t167:=Tryz.underlying169
 a167:=Tryz.isAgg169
 z167:=Tryz.sizeOf169
 v167:=Tryz.zeroValue169
 t168:=Tryz.underlying172
 a168:=Tryz.isAgg172
 z168:=Tryz.sizeOf172
 v168:=Tryz.zeroValue172
 t171:=Tryz.underlying213
 a171:=Tryz.isAgg213
 z171:=Tryz.sizeOf213
 v171:=Tryz.zeroValue213
 t173:=Tryz.underlying216
 a173:=Tryz.isAgg216
 z173:=Tryz.sizeOf216
 v173:=Tryz.zeroValue216
 t175:=Tryz.underlying194
 a175:=Tryz.isAgg194
 z175:=Tryz.sizeOf194
 v175:=Tryz.zeroValue194
 t210:=Tryz.underlying198
 a210:=Tryz.isAgg198
 z210:=Tryz.sizeOf198
 v210:=Tryz.zeroValue198
 t212:=Tryz.underlying238
 a212:=Tryz.isAgg238
 z212:=Tryz.sizeOf238
 v212:=Tryz.zeroValue238
 t213:=Tryz.underlying239
 a213:=Tryz.isAgg239
 z213:=Tryz.sizeOf239
 t232:=Tryz.underlying262
 a232:=Tryz.isAgg262
 z232:=Tryz.sizeOf262
 v232:=Tryz.zeroValue262
 t233:=Tryz.underlying263
 a233:=Tryz.isAgg263
 z233:=Tryz.sizeOf263
 v233:=Tryz.zeroValue263
 g15:=by kernel_rfl
 g16:=by kernel_rfl
 g17:=by kernel_rfl
 g18:=by kernel_rfl
 g19:=by kernel_rfl
 t80:=Tryz.underlying264
 a80:=Tryz.isAgg264
 z80:=Tryz.sizeOf264
 v80:=Tryz.zeroValue264
 i0:=by kernel_rfl
 i2:=by kernel_rfl
 i3:=by kernel_rfl
 i4:=by kernel_rfl
 i5:=by kernel_rfl
 i9:=by kernel_rfl
 i20:=by kernel_rfl
 i21:=by kernel_rfl
 i37:=by kernel_rfl
 i46:=by kernel_rfl
 i51:=by kernel_rfl
 i53:=by kernel_rfl
 i75:=by kernel_rfl
 i76:=by kernel_rfl
 i80:=by kernel_rfl
 i85:=by kernel_rfl
 i127:=by kernel_rfl
 i143:=by kernel_rfl
 i145:=by kernel_rfl
 i167:=by kernel_rfl
 i168:=by kernel_rfl
 i171:=by kernel_rfl
 i173:=by kernel_rfl
 i175:=by kernel_rfl
 i210:=by kernel_rfl
 i212:=by kernel_rfl
 i232:=by kernel_rfl
 i233:=by kernel_rfl
 m15:=by kernel_rfl
 m16:=by kernel_rfl
 m17:=by kernel_rfl
 m18:=by kernel_rfl
 m19:=by kernel_rfl
 c0:=by kernel_rfl
 c2:=by kernel_rfl
 c3:=by kernel_rfl
 c4:=by kernel_rfl
 c5:=by kernel_rfl
 c9:=by kernel_rfl
 c20:=by kernel_rfl
 c21:=by kernel_rfl
 c37:=by kernel_rfl
 c46:=by kernel_rfl
 c51:=by kernel_rfl
 c53:=by kernel_rfl
 c75:=by kernel_rfl
 c76:=by kernel_rfl
 c80:=by kernel_rfl
 c85:=by kernel_rfl
 c127:=by kernel_rfl
 c143:=by kernel_rfl
 c145:=by kernel_rfl
 c167:=by kernel_rfl
 c168:=by kernel_rfl
 c171:=by kernel_rfl
 c173:=by kernel_rfl
 c175:=by kernel_rfl
 c210:=by kernel_rfl
 c212:=by kernel_rfl
 c213:=by kernel_rfl
 c232:=by kernel_rfl
 c233:=by kernel_rfl}
end Go.Proofs
namespace Go.Tev
section
open Go Go.RowKit Go.Proofs Go.Shelf
variable {P:Program} {ρ:Ren}
theorem Zrx {P:Program} {S:Fp} {w w':World} {n:String} {g:Nat} {cs:Array Value} (h:Frame S w w') (hg:P.globalNamed n=some g) (hs: ∀o,¬S g o) (hv:w.var? P n=some cs):w'.var? P n=some cs:=by
 unfold World.var? at hv⊢
 rw[hg]at hv⊢
 simp only[Option.bind_some]at hv⊢
 have hlt:g<w.heap.size:=by
  rcases Nat.lt_or_ge g w.heap.size with e|e
  ·exact e
  ·rw[Array.getElem?_eq_none e]at hv;cases hv
 rcases h.obj g hlt with e| ⟨c,c',ty,fz,e,e',hsz,hc⟩
 ·rw[←e];exact hv
 ·rw[e]at hv
  rw[e']
  simp only[Option.some.injEq]at hv⊢
  subst hv
  exact Array.ext_getElem? fun o=>hc o (hs o)
theorem ZhE {S:Fp} {w w':World} {g:Nat} {v:Value} (h:Frame S w w') (hs: ∀o,¬S g o) (hv:w.cell? ⟨g,0,none⟩=some v):w'.cell? ⟨g,0,none⟩=some v:=by
 have hv':w.cell? (adr (g,0))=some v:=hv
 rw[Zgt]at hv'
 have hlt:g<w.heap.size:=by
  rcases Nat.lt_or_ge g w.heap.size with e|e
  ·exact e
  ·rw[Array.getElem?_eq_none e]at hv';cases hv'
 show w'.cell? (adr (g,0))=some v
 rw[Zgt]
 rcases h.obj g hlt with e| ⟨c,c',ty,fz,e,e',hsz,hc⟩
 ·rw[←e];exact hv'
 ·rw[e]at hv'
  rw[e']
  exact (hc 0 (hs 0)).trans hv'
theorem Zuv {P:Program} {w:World} {n:String} {g:Nat} {cs:Array Value} (hg:P.globalNamed n=some g) (hv:w.var? P n=some cs):g<w.heap.size:=by
 unfold World.var? at hv
 rw[hg]at hv
 simp only[Option.bind_some]at hv
 rcases Nat.lt_or_ge g w.heap.size with e|e
 ·exact e
 ·rw[Array.getElem?_eq_none e]at hv;cases hv
theorem ZlV {w:World} {g:Nat} {v:Value} (hv:w.cell? ⟨g,0,none⟩=some v):g<w.heap.size:=by
 have hv':w.cell? (adr (g,0))=some v:=hv
 rw[Zgt]at hv'
 rcases Nat.lt_or_ge g w.heap.size with e|e
 ·exact e
 ·rw[Array.getElem?_eq_none e]at hv';cases hv'
theorem ZbR {P:Program} {x:String×DataW Unit} {r:List (String×DataW Unit)} {w:World} (h:laidMet P (x::r) w):laidMet P r w:=by
 obtain ⟨ps,hv,hnd,hrows⟩:=h
 obtain ⟨n,d⟩:=x
 obtain ⟨g,t,cs,fuel,p,q,_,_,_,_,hq,rfl⟩:=hv
 exact ⟨q,hq,List.Nodup.sublist (List.sublist_append_right _ _) hnd,fun b off hm=>hrows b off (List.mem_append_right _ hm)⟩
theorem Zlh {P:Program} {n nm:String} {d:DataW Unit} {r:List (String×DataW Unit)} {W:World} {g:Nat} {ti:TypeId} {ms:Array (String×TypeId)}
  (h:laidMet P ((n, .iface nm d)::r) W) (hg:P.globalNamed n=some g) (ht:(P.globals[g]?).map (·.type)=some ti) (hi:P.underlying ti=some (.interface ms)): ∃u v,W.cell? ⟨g,0,Option.none⟩=some (.iface u v):=by
 obtain ⟨ps,⟨g0,t0,cs0,f0,p0,q0,hg0,ht0,hv0,hd0,_,e0⟩,_,_⟩:=h
 obtain rfl:=Option.some.inj (hg.symm.trans hg0)
 obtain rfl:=Option.some.inj (ht.symm.trans ht0)
 obtain ⟨l0⟩:=cs0
 obtain ⟨f1,u,v,e,hn,h1⟩:=iface_of_trod hi hd0
 have e:l0=[.iface u v]:=e
 subst e
 exact ⟨u,v,by simpa using World.var?_cell hg0 hv0 0⟩
theorem Zdy {S:Fp} {w w':World} (h:Below w.heap.size w w'):Frame S w w':=⟨h.os,h.tape,h.output,h.size,fun b hb=> .inl (h.block b hb).symm⟩
def noF:Fp:=fun _ _=>False
theorem Zvc {w:World} {t:LT} {y:PTup [.v t]} {args:List Value} {S:Fp} {L:Nat→Prop} (h:Zam w [.v t] y args S L): ∃v S1,args=[v]∧Za7 w t y.1 v S1 L:=by
 match args,h with
 | [v],⟨S1,S2,a,b,_⟩=>exact ⟨v,S1,rfl,a⟩
 |_::_::_,⟨_,_,_,b,_⟩=>exact b.elim
theorem ZsK {w:World} {t u:LT} {y:PTup [.v t, .v u]} {args:List Value} {S:Fp} {L:Nat→Prop} (h:Zam w [.v t, .v u] y args S L): ∃v x S1 S2,args=[v,x]∧Za7 w t y.1 v S1 L∧Za7 w u y.2.1 x S2 L:=by
 match args,h with
 |v::r,⟨S1,S2,a,b,_⟩=>
  obtain ⟨x,S3,rfl,c⟩:=Zvc (y:=y.2) b
  exact ⟨v,x,S1,S3,rfl,a,c⟩
theorem Ztl {w:World} {t:LT} {x:t.D} {v:Value} {L:Nat→Prop} (h:Za7 w t x v noF L):Zam w [.v t] (x,()) [v] noF L:=
 ⟨noF,noF,h,trivial,fun _ _ h=>h.elim,fun _ _ h=>h.elim,fun _ _ h=>h.elim⟩
theorem Ztm {w:World} {t:LT} {ts:List Ty} {x:t.D} {xs:PTup ts} {v:Value} {vs:List Value} {L:Nat→Prop} (h:Za7 w t x v noF L) (k:Zam w ts xs vs noF L):Zam w (.v t::ts) (x,xs) (v::vs) noF L:=
 ⟨noF,noF,h,k,fun _ _ h=>h.elim,fun _ _ h=>h.elim,fun _ _ h=>h.elim⟩
theorem ZiJ {w w':World} {ins outs:List Ty} {r:PTup outs×BTup ins} {vs args:List Value} {e:Ending} {S:Fp} {L:Nat→Prop} (he:e= .returned (Zor vs)) (ho:Zam w' outs r.1 vs noF fun _=>False)
  (hb:Zar w w' ins r.2 args noF) (hF:Frame S w w'):
  ∃vs SO SB,RetK .nor args vs e∧ZtN w' .nor outs r.1 vs SO (LK .nor L)∧Zar w w' ins r.2 args SB∧Dis SO SB∧(∀b o,SO b o∨SB b o→(S b o∨w.heap.size≤b)∧b<w'.heap.size)∧Frame S w w':=
 ⟨vs,noF,noF,he,ho,hb,fun _ _ h=>h.elim,fun _ _ h=>(h.elim id id).elim,hF⟩
def ZrC:Fn:=⟨[.v (.int .i64)],[.v .str],fun y=>bif decide (-9223372036854775808≤(y.1:Int))&&decide ((y.1:Int)≤9223372036854775807)then some (((⟨(Lib.itoa y.1).toArray⟩:ByteArray),()),())else none, .nor⟩
theorem Zux [Glb] (L:LaysM.n171 P ρ) (hE:Zmw P (ρ.f 171)) (hf: ∀w,Glb.fact w→Lib.TabIs P w "internal/strconv.uint64pow10" .u64 Lib.pow10Tab):Zal P (ρ.f 171) ZrC where
 nin:=by decide
 nout:=by decide
 inOk:=by simp[ZrC,Zcy,tyOk]
 outOk:=by simp[ZrC,Zcy,tyOk]
 enters:=hE
 calls:=fun w y args S L0 hy hd hs hl hg hgf r hr=>by
  obtain ⟨n,_⟩:=y
  obtain ⟨v,S1,rfl,hv⟩:=Zvc (y:=((n:Int),())) hy
  obtain rfl:v= .int .i64 n:=hv
  have hr:(bif decide (-9223372036854775808≤(n:Int))&&decide ((n:Int)≤9223372036854775807)then some (((⟨(Lib.itoa n).toArray⟩:ByteArray),()),())else none)=some r:=hr
  cases hc:decide (-9223372036854775808≤(n:Int))&&decide ((n:Int)≤9223372036854775807)with
  |false=>rw[hc]at hr;cases hr
  |true=>
   rw[hc]at hr
   injection hr with hr
   subst hr
   rw[Bool.and_eq_true,decide_eq_true_iff,decide_eq_true_iff]at hc
   refine (Any.strconv_Itoa L n hc.1 hc.2 w (hf w hgf)).mono ?_
   rintro e w' ⟨rfl,k,os,rfl⟩
   have hB:Below w.heap.size w (Sort.grow (w.drewN k) os):=(below_drewN (Below.refl _ _) k).trans ⟨rfl,rfl,rfl,by simp[Sort.grow],fun b hb=>Sort.heap_grow_old _ _ hb⟩
   exact ZiJ (ins:=[.v (.int .i64)]) (outs:=[.v .str]) (vs:=[.string _]) rfl (Ztl rfl) trivial (Zdy hB)
def Zel:Fn:=⟨[.v .str, .v .str],[.v .str, .v .bool],fun y=>some (((⟨(Lib.trimPrefix (ByteArray.data y.1).toList (ByteArray.data y.2.1).toList).toArray⟩:ByteArray),(Lib.hasPrefix (ByteArray.data y.1).toList (ByteArray.data y.2.1).toList,())),()), .nor⟩
theorem ZmL [Glb] (L:Lays.n103 P ρ) (hE:Zmw P (ρ.f 103)):Zal P (ρ.f 103) Zel where
 nin:=by decide
 nout:=by decide
 inOk:=by simp[Zel,Zcy,tyOk]
 outOk:=by simp[Zel,Zcy,tyOk]
 enters:=hE
 calls:=fun w y args S L0 hy hd hs hl hg hgf r hr=>by
  obtain ⟨s,p,_⟩:=y
  obtain ⟨v,x,S1,S2,rfl,hv,hx⟩:=ZsK (y:=(s,(p,()))) hy
  obtain rfl:v= .string s:=hv
  obtain rfl:x= .string p:=hx
  injection hr with hr
  subst hr
  refine (Any.strings_CutPrefix L s p w).mono ?_
  rintro e w' ⟨rfl,rfl⟩
  exact ZiJ (ins:=[.v .str, .v .str]) (outs:=[.v .str, .v .bool]) (vs:=[.string _, .bool _]) rfl (Ztm rfl (Ztl rfl)) trivial (Zdy (Below.refl _ _))
def cutF:Fn:=⟨[.v .str, .v .str],[.v .str, .v .str, .v .bool],fun y=>bif Nat.blt (ByteArray.size y.1) 4294967281 then some ((((⟨(Lib.cut (ByteArray.data y.1).toList (ByteArray.data y.2.1).toList).1.toArray⟩:ByteArray),((⟨(Lib.cut (ByteArray.data y.1).toList (ByteArray.data y.2.1).toList).2.1.toArray⟩:ByteArray),((Lib.cut (ByteArray.data y.1).toList (ByteArray.data y.2.1).toList).2.2,())))),())else none, .nor⟩
theorem Zvh [Glb] (L:Lays.n145 P ρ) (hE:Zmw P (ρ.f 145)) (hf: ∀w,Glb.fact w→ ∃m,w.cell? ⟨ρ.g 1,0,none⟩=some (.int .i64 m)):Zal P (ρ.f 145) cutF where
 nin:=by decide
 nout:=by decide
 inOk:=by simp[cutF,Zcy,tyOk]
 outOk:=by simp[cutF,Zcy,tyOk]
 enters:=hE
 calls:=fun w y args S L0 hy hd hs hl hg hgf r hr=>by
  obtain ⟨s,p,_⟩:=y
  obtain ⟨v,x,S1,S2,rfl,hv,hx⟩:=ZsK (y:=(s,(p,()))) hy
  obtain rfl:v= .string s:=hv
  obtain rfl:x= .string p:=hx
  have hr:(bif Nat.blt (ByteArray.size s) 4294967281 then _ else none)=some r:=hr
  cases hc:Nat.blt (ByteArray.size s) 4294967281 with
  |false=>rw[hc]at hr;cases hr
  |true=>
   rw[hc]at hr
   injection hr with hr
   subst hr
   obtain ⟨m,hm⟩:=hf w hgf
   refine (Any.strings_Cut L s p m w (by simpa using hc) hm).mono ?_
   rintro e w' ⟨rfl,n,rfl⟩
   exact ZiJ (ins:=[.v .str, .v .str]) (outs:=[.v .str, .v .str, .v .bool]) (vs:=[.string _, .string _, .bool _]) rfl (Ztm rfl (Ztm rfl (Ztl rfl))) trivial (Zdy (below_drewN (Below.refl _ _) n))
def ZnE:Fn:=⟨[.v .str, .v .str],[.v (.sl true .s)],fun y=>bif Nat.blt (ByteArray.size y.1) 4294967281&&Nat.ble 1 (ByteArray.size y.2.1)then some ((Lib.splitB y.2.1 0 (Lib.countB y.1 y.2.1) y.1,()),())else none, .nor⟩
theorem ZtD [Glb] (L:Lays.n146 P ρ) (hi9:(P.info? (ρ.t 9)).map (fun i=>(i.zero,i.size,i.bytes))=some (some (.string ByteArray.empty),1,16)) (hE:Zmw P (ρ.f 146))
  (hf: ∀w,Glb.fact w→ ∃m,w.cell? ⟨ρ.g 1,0,none⟩=some (.int .i64 m)):Zal P (ρ.f 146) ZnE where
 nin:=by decide
 nout:=by decide
 inOk:=by simp[ZnE,Zcy,tyOk]
 outOk:=by simp[ZnE,Zcy,tyOk]
 enters:=hE
 calls:=fun w y args S L0 hy hd hs hl hg hgf r hr=>by
  obtain ⟨s,p,_⟩:=y
  obtain ⟨v,x,S1,S2,rfl,hv,hx⟩:=ZsK (y:=(s,(p,()))) hy
  obtain rfl:v= .string s:=hv
  obtain rfl:x= .string p:=hx
  have hr:(bif Nat.blt (ByteArray.size s) 4294967281&&Nat.ble 1 (ByteArray.size p)then _ else none)=some r:=hr
  cases hc:Nat.blt (ByteArray.size s) 4294967281&&Nat.ble 1 (ByteArray.size p)with
  |false=>rw[hc]at hr;cases hr
  |true=>
   rw[hc]at hr
   injection hr with hr
   subst hr
   rw[Bool.and_eq_true,Nat.blt_eq,Nat.ble_eq]at hc
   obtain ⟨m,hm⟩:=hf w hgf
   refine (Any.strings_Split L hi9 s p m w hc.1 hm hc.2).mono ?_
   rintro e w' ⟨rfl,rfl⟩
   have hlen:=Lib.splitB_all p hc.2 0 _ s rfl
   generalize hk:Lib.splitB p 0 (Lib.countB s p) s=l at hlen⊢
   have hR:Zby (w.alloc (.cells (l.map Value.string).toArray (ρ.t 9))) true .s (some (w.heap.size,0)) (Lib.countB s p+1) l ⟨fun _=>⟨none,0,0,none⟩,none⟩:=by
    refine ⟨?_,fun h=>by (cases h),?_,trivial⟩
    ·show List.length (α:=ByteArray) l≤_
     omega
    ·intro b o h
     injection h with h
     injection h with h1 h2
     subst h1 h2
     refine ⟨fun i hi j hj=> ?_,fun _=>ZiX _ _ _ _ ?_⟩
     ·obtain rfl:j=0:=by have:E.sz .s=1:=rfl;omega
      rw[Zhv]
      simp only[E.sz,Nat.mul_one,Nat.zero_add,Nat.add_zero]
      have hi:i<List.length (α:=ByteArray) l:=hi
      simp[elV,hi]
     ·simp only[E.sz,Nat.mul_one,Nat.zero_add,List.size_toArray,List.length_map]
      have:List.length (α:=ByteArray) l=Lib.countB s p+1:=hlen
      omega
   refine ⟨[slV (some (w.heap.size,0)) none l.length (Lib.countB s p+1)],(fun b _=>b=w.heap.size),noF,?_,?_,trivial,fun _ _ _ h=>h,?_,ZeN _ _ _⟩
   ·show Ending.returned _=Ending.returned (slV _ _ _ _)
    rw[hlen];rfl
   ·refine ⟨fun b _=>b=w.heap.size,noF,⟨some (w.heap.size,0),Lib.countB s p+1,⟨fun _=>⟨none,0,0,none⟩,none⟩,rfl,hR,?_⟩,trivial,fun _ _ _ h=>h,fun _ _ h=>h,fun _ _ h=>h.elim⟩
    rintro b (⟨o,h⟩| ⟨h,_⟩)
    ·injection h with h
     injection h with h1 h2
     exact fun _=>h1.symm
    ·cases h
   ·rintro b o (h|h)
    ·have h:b=w.heap.size:=h
     subst h
     exact ⟨.inr (Nat.le_refl _),by simp⟩
    ·exact h.elim
end
end Go.Tev
namespace Go.Proofs.YtmlahgmhbdpkjaaGreatDoor.Plain
open Go Go.Tev Go.RowKit Go.Proofs Go.Shelf
theorem gPow:Tryz.prog.globalNamed "internal/strconv.uint64pow10" =some 5:=by kernel_rfl
def blks:List Nat:=[5,2,0,1]
def Zs6 (w:World):Prop:=Go.Lib.TabIs Tryz.prog w "internal/strconv.uint64pow10" .u64 Go.Lib.pow10Tab∧(∃m,w.cell? ⟨2,0,Option.none⟩=some (.int .i64 m))∧(∃t p,w.cell? ⟨0,0,Option.none⟩=some (.iface t p))∧(∃t p,w.cell? ⟨1,0,Option.none⟩=some (.iface t p))
instance glbV:Glb:=⟨fun b=>b∈blks,Zs6,fun S w w' hF hs h=>by
 obtain ⟨h0,h1,h2,h3⟩:=h
 exact ⟨Zrx hF gPow (fun o=>hs _ o (by unfold blks;simp)) h0,(let ⟨m,hm⟩:=h1;⟨m,ZhE hF (fun o=>hs _ o (by unfold blks;simp)) hm⟩),(let ⟨t,p,hm⟩:=h2;⟨t,p,ZhE hF (fun o=>hs _ o (by unfold blks;simp)) hm⟩),(let ⟨t,p,hm⟩:=h3;⟨t,p,ZhE hF (fun o=>hs _ o (by unfold blks;simp)) hm⟩)⟩⟩
theorem Zve {w:World} (h:Glb.fact w): ∀b,Glb.blk b→b<w.heap.size:=by
 intro b hb
 have h:Zs6 w:=h
 obtain ⟨h0,h1,h2,h3⟩:=h
 have hb:b∈blks:=hb
 unfold blks at hb
 simp only[List.mem_cons,List.mem_nil_iff,or_false]at hb
 rcases hb with rfl|rfl|rfl|rfl
 ·exact Zuv gPow h0
 ·exact (let ⟨m,hm⟩:=h1;ZlV hm)
 ·exact (let ⟨t,p,hm⟩:=h2;ZlV hm)
 ·exact (let ⟨t,p,hm⟩:=h3;ZlV hm)
theorem Zur {W:World} (hsh:W.ShapedOpen Tryz.prog) (h:laidMet Tryz.prog [("math/bits.deBruijn32tab",Go.Proofs.YtmlahgmhbdpkjaaGreatDoor.Rows.laid_math_bits_deBruijn32tab),("math/bits.deBruijn64tab",Go.Proofs.YtmlahgmhbdpkjaaGreatDoor.Rows.laid_math_bits_deBruijn64tab),("internal/strconv.uint64pow10",Go.Proofs.YtmlahgmhbdpkjaaGreatDoor.Rows.laid_internal_strconv_uint64pow10),("unicode/utf8.acceptRanges",Go.Proofs.YtmlahgmhbdpkjaaGreatDoor.Rows.laid_unicode_utf8_acceptRanges),("strconv.ErrRange",Go.Proofs.YtmlahgmhbdpkjaaGreatDoor.Rows.laid_strconv_ErrRange),("strconv.ErrSyntax",Go.Proofs.YtmlahgmhbdpkjaaGreatDoor.Rows.laid_strconv_ErrSyntax),("unicode/utf8.first",Go.Proofs.YtmlahgmhbdpkjaaGreatDoor.Rows.laid_unicode_utf8_first)] W):Glb.fact W:=by
 have e:(Go.Proofs.YtmlahgmhbdpkjaaGreatDoor.Rows.laid_internal_strconv_uint64pow10:DataW Unit)=Go.Lib.tabData .u64 Go.Lib.pow10Tab:=by kernel_rfl
 have h0:=(ZbR (ZbR h))
 rw[e]at h0
 have a0:=Go.Lib.tabIs_of_head (t:=238) (e:=193) (n:=20) gPow (by kernel_rfl) (by kernel_rfl) (by kernel_rfl) (by kernel_rfl) (by kernel_rfl) h0
 have a1:=Tryz.laysM146.s1_3 W hsh
 have b0: ∃t p,W.cell? ⟨0,0,Option.none⟩=some (.iface t p):=Zlh (ZbR (ZbR (ZbR (ZbR (ZbR h))))) (by kernel_rfl) (by kernel_rfl) Tryz.underlying116
 have b1: ∃t p,W.cell? ⟨1,0,Option.none⟩=some (.iface t p):=Zlh (ZbR (ZbR (ZbR (ZbR h)))) (by kernel_rfl) (by kernel_rfl) Tryz.underlying116
 exact ⟨a0,a1,b0,b1⟩
theorem ZvS:Zal Tryz.prog 134 ZrC:=Zux Tryz.laysM171 ⟨Tryz.f134,Tryz.func134,by kernel_rfl,by kernel_rfl⟩ (fun w h=>h.1)
theorem Zp6:Zal Tryz.prog 42 Zel:=ZmL Tryz.lays103 ⟨Tryz.f42,Tryz.func42,by kernel_rfl,by kernel_rfl⟩
theorem cutK:Zal Tryz.prog 89 cutF:=Zvh {Tryz.laysM145 with} ⟨Tryz.f89,Tryz.func89,by kernel_rfl,by kernel_rfl⟩ (fun w h=>h.2.1)
theorem splitK:Zal Tryz.prog 85 ZnE:=ZtD {Tryz.laysM146 with} (by kernel_rfl) ⟨Tryz.f85,Tryz.func85,by kernel_rfl,by kernel_rfl⟩ (fun w h=>h.2.1)
def numR (l:List UInt8) (most:Int):Int×Bool:=match Go.Lib.atoiAll l with
 | .ok v=>if 0≤v∧v≤most∧Go.Lib.itoa v=l then (v,true)else (0,false)
 |_=>(0,false)
def Ztv:Tev.Fn:=⟨[.v .str, .v (.int .i64)],[.v (.int .i64), .v .bool],fun y=>bif Nat.ble (ByteArray.size y.1) 281474976710656 then some (((numR (ByteArray.data y.1).toList y.2.1).1,((numR (ByteArray.data y.1).toList y.2.1).2,())),())else none, .nor⟩
theorem ZsL (s:ByteArray) (w:World) (hs:s.size≤281474976710656) (h:Glb.fact w):Calls Tryz.prog 87 #[.string s] w fun e w'=>(∃v er,e= .returned (.tuple #[.int .i64 v,er])∧(-9223372036854775808≤v∧v≤9223372036854775807)∧
  ((Go.Lib.atoiAll s.data.toList= .ok v∧er= .nilIface)∨((∀u,Go.Lib.atoiAll s.data.toList≠ .ok u)∧ ∃t p,er= .iface t p)))∧Below w.heap.size w w':=by
 have h:Zs6 w:=h
 obtain ⟨ts,ps,hS⟩:=h.2.2.1
 obtain ⟨tr,pr,hR⟩:=h.2.2.2
 cases ha:Go.Lib.atoiAll s.data.toList with
 |ok v=>
  refine (Any.strconv_Atoi_ok Tryz.laysC172 s (by omega) v ha w).mono ?_
  rintro e w' ⟨rfl,hw⟩
  refine ⟨⟨v,_,rfl,Go.Lib.atoiAll_bounds ha, .inl ⟨rfl,rfl⟩⟩,?_⟩
  rcases hw with rfl| ⟨t,rfl⟩
  ·exact Below.refl _ _
  ·exact Go.Lib.bytesWorld_below _ _ _
 |range=>
  refine (Any.strconv_Atoi_range Tryz.laysC172 s hs ha _ w hR (.inr ⟨_,_,rfl⟩)).mono ?_
  rintro e w' ⟨N,rfl,_,_,hb⟩
  exact ⟨⟨_,_,rfl,Go.Lib.atoiSat_bounds _, .inr ⟨fun u hu=>(by cases hu),_,_,rfl⟩⟩,hb⟩
 |_=>
  refine (Any.strconv_Atoi_syntax Tryz.laysC172 s hs ha _ w hS (.inr ⟨_,_,rfl⟩)).mono ?_
  rintro e w' ⟨N,rfl,_,_,hb⟩
  exact ⟨⟨0,_,rfl,by omega, .inr ⟨fun u hu=>(by cases hu),_,_,rfl⟩⟩,hb⟩
theorem Zp8 (v:Int) (h0: -9223372036854775808≤v) (h1:v≤9223372036854775807) (w:World) (h:Glb.fact w):Calls Tryz.prog 88 #[.int .i64 v] w fun e w'=>e= .returned (.string ⟨(Go.Lib.itoa v).toArray⟩)∧Below w.heap.size w w':=by
 have h:Zs6 w:=h
 have c:Calls Tryz.prog 134 #[.int .i64 v] w _:=Any.strconv_Itoa Tryz.laysM171 v h0 h1 w h.1
 go_enter Tryz.func88,Tryz.ntmps88
 go_wp2_with (go_at_call 134;refine c.mono ?_;rintro e w' ⟨rfl,k,os,rfl⟩)
 go_ret
 exact ⟨rfl,(below_drewN (Below.refl _ _) k).trans ⟨rfl,rfl,rfl,by simp[Sort.grow],fun b hb=>Sort.heap_grow_old _ _ hb⟩⟩
theorem Znq {P:Program} (w:World) {ti:TypeId} {ms:Array (String×TypeId)} (hi:P.underlying ti=some (.interface ms)):(binOp .neq ti .nilIface .nilIface).run P w= .ok (.bool false) w:=by
 have h: ∀d:Nat,(Op.equalIn (d+1) ti .nilIface .nilIface).run P w= .ok true w:=fun d=>by simp[Op.equalIn,run_underlying hi]
 simp only[binOp]
 simp[Op.equal,Op.maxDepth,h 9999]
theorem ZhY {P:Program} (w:World) {ti:TypeId} {ms:Array (String×TypeId)} (tp:TypeId) (v:Value) (hi:P.underlying ti=some (.interface ms)):(binOp .neq ti (.iface tp v) .nilIface).run P w= .ok (.bool true) w:=by
 have h: ∀d:Nat,(Op.equalIn (d+1) ti (.iface tp v) .nilIface).run P w= .ok false w:=fun d=>by simp[Op.equalIn,run_underlying hi]
 simp only[binOp]
 simp[Op.equal,Op.maxDepth,h 9999]
theorem ZkJ {P:Program} (w:World) (t:TypeId) (x:Operand) (c:Value):(eqGuard .neq t x (.const c) .nilIface .nilIface).run P w= .ok () w:=by
 simp[eqGuard]
theorem Zj3 {P:Program} (w:World) (t tp:TypeId) (x y:Operand) (v:Value):(eqGuard .neq t x y (.iface tp v) .nilIface).run P w= .ok () w:=by
 simp[eqGuard]
set_option maxRecDepth 100000 in
theorem ZjX (s:ByteArray) (most:Int) (w:World) (hs:s.size≤281474976710656) (h:Glb.fact w):Calls Tryz.prog 43 #[.string s, .int .i64 most] w fun e w'=>e= .returned (.tuple #[.int .i64 (numR s.data.toList most).1, .bool (numR s.data.toList most).2])∧Below w.heap.size w w':=by
 have ca:=ZsL s w hs h
 go_enter Tryz.func43,Tryz.ntmps43
 go_wp2_with (go_at_call 87;refine ca.mono ?_;rintro e W1 ⟨⟨v,er,rfl,⟨hv0,hv1⟩,hr⟩,hb⟩)
 have hf1:Glb.fact W1:=Glb.stay noF w W1 (Zdy hb) (fun _ _ _ h=>h) h
 rcases hr with ⟨ho,rfl⟩| ⟨hn,t,p,rfl⟩
 ·have cd:=Zp8 v hv0 hv1 W1 hf1
  rw[ZkJ,Result.andThen_ok,Znq W1 Tryz.underlying116]
  go_wp2_with (first| (go_at_call 88;refine cd.mono ?_;rintro e W2 ⟨rfl,hb2⟩)|go_in)
  ·rename_i g0 g1 g2
   have e:numR s.data.toList most=(0,false):=by
    unfold numR
    rw[ho]
    dsimp only
    rw[if_neg]
    rintro ⟨_,_,h⟩
    rw[h,ByteArray.toList_eq,beq_self_eq_true]at g2
    cases g2
   go_ret2
   rw[e]
   exact ⟨rfl,hb.trans (hb2.mono hb.size)⟩
  ·rename_i g0 g1 g2
   have e:numR s.data.toList most=(v,true):=by
    unfold numR
    rw[ho]
    dsimp only
    rw[if_pos]
    refine ⟨g0,g1,?_⟩
    rw[Bool.not_eq_false',ByteArray.toList_eq,beq_iff_eq]at g2
    exact g2
   go_ret2
   rw[e]
   exact ⟨rfl,hb.trans (hb2.mono hb.size)⟩
  ·rename_i g0 g1
   have e:numR s.data.toList most=(0,false):=by
    unfold numR
    rw[ho]
    dsimp only
    rw[if_neg]
    rintro ⟨_,_,_⟩
    omega
   go_ret2
   rw[e]
   exact ⟨rfl,hb⟩
  ·rename_i g0
   have e:numR s.data.toList most=(0,false):=by
    unfold numR
    rw[ho]
    dsimp only
    rw[if_neg]
    rintro ⟨_,_,_⟩
    omega
   go_ret2
   rw[e]
   exact ⟨rfl,hb⟩
 ·rw[Zj3,Result.andThen_ok,ZhY W1 t p Tryz.underlying116]
  go_wp2
  have e:numR s.data.toList most=(0,false):=by
   unfold numR
   cases ha:Go.Lib.atoiAll s.data.toList with
   |ok u=>exact absurd ha (hn u)
   |range=>rfl
   |_=>rfl
  go_ret2
  rw[e]
  exact ⟨rfl,hb⟩
theorem ZvY:Zal Tryz.prog 43 Ztv where
 nin:=by decide
 nout:=by decide
 inOk:=by simp[Ztv,Zcy,tyOk]
 outOk:=by simp[Ztv,Zcy,tyOk]
 enters:=⟨Tryz.f43,Tryz.func43,by kernel_rfl,by kernel_rfl⟩
 calls:=fun w y args S L0 hy hd hs hl hg hgf r hr=>by
  obtain ⟨s,most,_⟩:=y
  obtain ⟨v,x,S1,S2,rfl,hv,hx⟩:=ZsK (t:= .str) (u:= .int .i64) (y:=(s,(most,()))) hy
  obtain rfl:v= .string s:=hv
  obtain rfl:x= .int .i64 most:=hx
  have hr:(bif Nat.ble (ByteArray.size s) 281474976710656 then _ else none)=some r:=hr
  cases hc:Nat.ble (ByteArray.size s) 281474976710656 with
  |false=>rw[hc]at hr;cases hr
  |true=>
   rw[hc]at hr
   injection hr with hr
   subst hr
   rw[Nat.ble_eq]at hc
   refine (ZjX s most w hc hgf).mono ?_
   rintro e w' ⟨rfl,hb⟩
   exact ZiJ (ins:=[.v .str, .v (.int .i64)]) (outs:=[.v (.int .i64), .v .bool]) (vs:=[.int .i64 _, .bool _]) rfl (Ztm rfl (Ztl rfl)) trivial (Zdy hb)
end Go.Proofs.YtmlahgmhbdpkjaaGreatDoor.Plain
