/- Contracts of library functions at this program, as the evaluator wants them; what is known of package variables. No condition beyond those that each lemma states. -/
import Derived.Test.YtleidaafbhojfaaGreatDoorW5
import Derived.Test.YtleidaafbhojfaaGreatDoorRows
import Derived.Lib.LaidTab
import Derived.HandedShaped
import Derived.KernelRfl
import Derived.Lib.IndexMore
import Derived.Lib.ItoaNum
import Derived.Lib.Strings
import Derived.Lib.Join
import Derived.Lib.AtoiTie
import Derived.Lib.AtoiAllCases
import Derived.Shelf.Strconv.Itoa3
import Derived.WalkSmall
import Derived.Shelf.Strings.OnBuilder
import Derived.Shelf.Small.Wraps
import Derived.Shelf.Strconv.AtoiAll
import Derived.BigCall
import Derived.WalkKit
import Derived.Laws.Pointers
import Derived.Laws.Small
set_option linter.unusedVariables false
set_option linter.unusedSimpArgs false
set_option maxRecDepth 100000
namespace Go.Proofs
open Go.Shelf
def Tryz.laysM171_ren:Ren:=⟨fun|171=>122|243=>203|246=>267|283=>329|284=>330|285=>331|286=>332|129=>364|317=>363|318=>365|319=>366|320=>367|337=>378|338=>379|n=>n,fun|3=>3|9=>9|2=>2|4=>4|171=>291|0=>0|53=>278|37=>67|5=>5|173=>294|212=>315|51=>316|20=>20|213=>317|46=>253|232=>325|233=>326|n=>n,fun|17=>2|18=>4|19=>5|n=>n⟩
theorem Tryz.laysM171:LaysM.n171 Tryz.prog Tryz.laysM171_ren:={
 mixed:=by kernel_rfl
 f129:=Tryz.func364.trans (congrArg some (by kernel_rfl))
 f171:=Tryz.func122.trans (congrArg some (by kernel_rfl))
 f243:=Tryz.func203.trans (congrArg some (by kernel_rfl))
 f246:=Tryz.func267.trans (congrArg some (by kernel_rfl))
 f283:=Tryz.func329.trans (congrArg some (by kernel_rfl))
 f284:=Tryz.func330.trans (congrArg some (by kernel_rfl))
 f285:=Tryz.func331.trans (congrArg some (by kernel_rfl))
 f286:=Tryz.func332.trans (congrArg some (by kernel_rfl))
 f317:=Tryz.func363.trans (congrArg some (by kernel_rfl))
 f318:=Tryz.func365.trans (congrArg some (by kernel_rfl))
 f319:=Tryz.func366.trans (congrArg some (by kernel_rfl))
 f320:=Tryz.func367.trans (congrArg some (by kernel_rfl))
 f337:=Tryz.func378.trans (congrArg some (by kernel_rfl))
 f338:=Tryz.func379.trans (congrArg some (by kernel_rfl))
 t0:=Tryz.underlying0
 a0:=Tryz.isAgg0
 z0:=Tryz.sizeOf0
 v0:=Tryz.zeroValue0
 t2:=Tryz.underlying2
 a2:=Tryz.isAgg2
 z2:=Tryz.sizeOf2
 v2:=Tryz.zeroValue2
 t3:=Tryz.underlying3
 a3:=Tryz.isAgg3
 z3:=Tryz.sizeOf3
 v3:=Tryz.zeroValue3
 t4:=Tryz.underlying4
 a4:=Tryz.isAgg4
 z4:=Tryz.sizeOf4
 v4:=Tryz.zeroValue4
 t5:=Tryz.underlying5
 a5:=Tryz.isAgg5
 z5:=Tryz.sizeOf5
 v5:=Tryz.zeroValue5
 t9:=Tryz.underlying9
 a9:=Tryz.isAgg9
 z9:=Tryz.sizeOf9
 v9:=Tryz.zeroValue9
 t20:=Tryz.underlying20
 a20:=Tryz.isAgg20
 z20:=Tryz.sizeOf20
 v20:=Tryz.zeroValue20
 t37:=Tryz.underlying67
 a37:=Tryz.isAgg67
 z37:=Tryz.sizeOf67
 v37:=Tryz.zeroValue67
 t46:=Tryz.underlying253
 a46:=Tryz.isAgg253
 z46:=Tryz.sizeOf253
 v46:=Tryz.zeroValue253
 t51:=Tryz.underlying316
 a51:=Tryz.isAgg316
 z51:=Tryz.sizeOf316
 v51:=Tryz.zeroValue316
 t53:=Tryz.underlying278
 a53:=Tryz.isAgg278
 z53:=Tryz.sizeOf278
 v53:=Tryz.zeroValue278
 t171:=Tryz.underlying291
 a171:=Tryz.isAgg291
 z171:=Tryz.sizeOf291
 v171:=Tryz.zeroValue291
 t173:=Tryz.underlying294
 a173:=Tryz.isAgg294
 z173:=Tryz.sizeOf294
 v173:=Tryz.zeroValue294
 t212:=Tryz.underlying315
 a212:=Tryz.isAgg315
 z212:=Tryz.sizeOf315
 v212:=Tryz.zeroValue315
 t213:=Tryz.underlying317
 a213:=Tryz.isAgg317
 z213:=Tryz.sizeOf317
 t232:=Tryz.underlying325
 a232:=Tryz.isAgg325
 z232:=Tryz.sizeOf325
 v232:=Tryz.zeroValue325
 t233:=Tryz.underlying326
 a233:=Tryz.isAgg326
 z233:=Tryz.sizeOf326
 v233:=Tryz.zeroValue326
 g17:=by kernel_rfl
 g18:=by kernel_rfl
 g19:=by kernel_rfl
 i0:=by kernel_rfl
 i2:=by kernel_rfl
 i3:=by kernel_rfl
 i4:=by kernel_rfl
 i5:=by kernel_rfl
 i9:=by kernel_rfl
 i20:=by kernel_rfl
 i37:=by kernel_rfl
 i46:=by kernel_rfl
 i51:=by kernel_rfl
 i53:=by kernel_rfl
 i171:=by kernel_rfl
 i173:=by kernel_rfl
 i212:=by kernel_rfl
 i232:=by kernel_rfl
 i233:=by kernel_rfl
 m17:=by kernel_rfl
 m18:=by kernel_rfl
 m19:=by kernel_rfl}
def Tryz.lays156_ren:Ren:=⟨fun|156=>204|165=>268|166=>269|169=>270|240=>333|241=>334|276=>368|277=>369|n=>n,fun|31=>78|9=>9|3=>3|4=>4|0=>0|20=>20|72=>243|76=>149|70=>241|37=>67|75=>148|127=>296|164=>319|5=>5|80=>244|n=>n,fun|n=>n⟩
theorem Tryz.lays156:Lays.n156 Tryz.prog Tryz.lays156_ren:={
 mixed:=by kernel_rfl
 f156:=Tryz.func204.trans (congrArg some (by kernel_rfl))
 f165:=Tryz.func268.trans (congrArg some (by kernel_rfl))
 f166:=Tryz.func269.trans (congrArg some (by kernel_rfl))
 f169:=Tryz.func270.trans (congrArg some (by kernel_rfl))
 f240:=Tryz.func333.trans (congrArg some (by kernel_rfl))
 f241:=Tryz.func334.trans (congrArg some (by kernel_rfl))
 f276:=Tryz.func368.trans (congrArg some (by kernel_rfl))
 f277:=Tryz.func369.trans (congrArg some (by kernel_rfl))
 t0:=Tryz.underlying0
 a0:=Tryz.isAgg0
 z0:=Tryz.sizeOf0
 v0:=Tryz.zeroValue0
 t3:=Tryz.underlying3
 a3:=Tryz.isAgg3
 z3:=Tryz.sizeOf3
 v3:=Tryz.zeroValue3
 t4:=Tryz.underlying4
 a4:=Tryz.isAgg4
 z4:=Tryz.sizeOf4
 v4:=Tryz.zeroValue4
 t9:=Tryz.underlying9
 a9:=Tryz.isAgg9
 z9:=Tryz.sizeOf9
 v9:=Tryz.zeroValue9
 t20:=Tryz.underlying20
 a20:=Tryz.isAgg20
 z20:=Tryz.sizeOf20
 v20:=Tryz.zeroValue20
 t31:=Tryz.underlying78
 a31:=Tryz.isAgg78
 z31:=Tryz.sizeOf78
 v31:=Tryz.zeroValue78
 t37:=Tryz.underlying67
 a37:=Tryz.isAgg67
 z37:=Tryz.sizeOf67
 v37:=Tryz.zeroValue67
 t70:=Tryz.underlying241
 a70:=Tryz.isAgg241
 z70:=Tryz.sizeOf241
 v70:=Tryz.zeroValue241
 t72:=Tryz.underlying243
 a72:=Tryz.isAgg243
 z72:=Tryz.sizeOf243
 v72:=Tryz.zeroValue243
 t75:=Tryz.underlying148
 a75:=Tryz.isAgg148
 z75:=Tryz.sizeOf148
 v75:=Tryz.zeroValue148
 t76:=Tryz.underlying149
 a76:=Tryz.isAgg149
 z76:=Tryz.sizeOf149
 v76:=Tryz.zeroValue149
 t127:=Tryz.underlying296
 a127:=Tryz.isAgg296
 z127:=Tryz.sizeOf296
 v127:=Tryz.zeroValue296
 t164:=Tryz.underlying319
 a164:=Tryz.isAgg319
 z164:=Tryz.sizeOf319
 v164:=Tryz.zeroValue319}
theorem Tryz.Builder_Extra_156:Builder.Extra Tryz.prog Tryz.lays156_ren:={
 sizeBuilder:=by kernel_rfl
 liesBuilder:=by kernel_rfl
 t5:=Tryz.underlying5
 a5:=Tryz.isAgg5
 z5:=Tryz.sizeOf5
 v5:=Tryz.zeroValue5
 infoByte:=by kernel_rfl
 cellsByte:=by kernel_rfl
 sizeByte:=by kernel_rfl
 neB5:=by decide}
def Tryz.lays103_ren:Ren:=⟨fun|103=>39|210=>116|206=>190|n=>n,fun|9=>9|4=>4|24=>94|3=>3|n=>n,fun|n=>n⟩
theorem Tryz.lays103:Lays.n103 Tryz.prog Tryz.lays103_ren:={
 mixed:=by kernel_rfl
 f103:=Tryz.func39.trans (congrArg some (by kernel_rfl))
 f206:=Tryz.func190.trans (congrArg some (by kernel_rfl))
 f210:=Tryz.func116.trans (congrArg some (by kernel_rfl))
 t3:=Tryz.underlying3
 a3:=Tryz.isAgg3
 z3:=Tryz.sizeOf3
 v3:=Tryz.zeroValue3
 t4:=Tryz.underlying4
 a4:=Tryz.isAgg4
 z4:=Tryz.sizeOf4
 v4:=Tryz.zeroValue4
 t9:=Tryz.underlying9
 a9:=Tryz.isAgg9
 z9:=Tryz.sizeOf9
 v9:=Tryz.zeroValue9
 t24:=Tryz.underlying94
 a24:=Tryz.isAgg94
 z24:=Tryz.sizeOf94
 v24:=Tryz.zeroValue94}
def Tryz.laysC172_ren:Ren:=⟨fun|172=>120|244=>194|245=>195|247=>249|279=>250|280=>251|281=>252|282=>253|287=>310|316=>311|171=>122|205=>312|321=>351|322=>352|243=>203|246=>267|283=>329|284=>330|285=>331|286=>332|129=>364|317=>363|318=>365|319=>366|320=>367|337=>378|338=>379|n=>n,fun|9=>9|3=>3|75=>148|76=>149|4=>4|5=>5|167=>230|37=>67|0=>0|85=>231|2=>2|168=>233|53=>278|175=>279|46=>253|210=>283|127=>296|145=>313|143=>311|21=>21|171=>291|173=>294|212=>315|51=>316|20=>20|213=>317|232=>325|233=>326|80=>244|n=>n,fun|15=>0|16=>1|17=>2|18=>4|19=>5|n=>n⟩
theorem Tryz.laysC172:LaysC.n172 Tryz.prog Tryz.laysC172_ren:={
 mixed:=by kernel_rfl
 f129:=Tryz.func364.trans (congrArg some (by kernel_rfl))
 f171:=Tryz.func122.trans (congrArg some (by kernel_rfl))
 f172:=Tryz.func120.trans (congrArg some (by kernel_rfl))
 f205:=Tryz.func312.trans (congrArg some (by kernel_rfl))
 f243:=Tryz.func203.trans (congrArg some (by kernel_rfl))
 f244:=Tryz.func194.trans (congrArg some (by kernel_rfl))
 f245:=Tryz.func195.trans (congrArg some (by kernel_rfl))
 f246:=Tryz.func267.trans (congrArg some (by kernel_rfl))
 f247:=Tryz.func249.trans (congrArg some (by kernel_rfl))
 f279:=Tryz.func250.trans (congrArg some (by kernel_rfl))
 f280:=Tryz.func251.trans (congrArg some (by kernel_rfl))
 f281:=Tryz.func252.trans (congrArg some (by kernel_rfl))
 f282:=Tryz.func253.trans (congrArg some (by kernel_rfl))
 f283:=Tryz.func329.trans (congrArg some (by kernel_rfl))
 f284:=Tryz.func330.trans (congrArg some (by kernel_rfl))
 f285:=Tryz.func331.trans (congrArg some (by kernel_rfl))
 f286:=Tryz.func332.trans (congrArg some (by kernel_rfl))
 f287:=Tryz.func310.trans (congrArg some (by kernel_rfl))
 f316:=Tryz.func311.trans (congrArg some (by kernel_rfl))
 f317:=Tryz.func363.trans (congrArg some (by kernel_rfl))
 f318:=Tryz.func365.trans (congrArg some (by kernel_rfl))
 f319:=Tryz.func366.trans (congrArg some (by kernel_rfl))
 f320:=Tryz.func367.trans (congrArg some (by kernel_rfl))
 f321:=Tryz.func351.trans (congrArg some (by kernel_rfl))
 f322:=Tryz.func352.trans (congrArg some (by kernel_rfl))
 f337:=Tryz.func378.trans (congrArg some (by kernel_rfl))
 f338:=Tryz.func379.trans (congrArg some (by kernel_rfl))
 t0:=Tryz.underlying0
 a0:=Tryz.isAgg0
 z0:=Tryz.sizeOf0
 v0:=Tryz.zeroValue0
 t2:=Tryz.underlying2
 a2:=Tryz.isAgg2
 z2:=Tryz.sizeOf2
 v2:=Tryz.zeroValue2
 t3:=Tryz.underlying3
 a3:=Tryz.isAgg3
 z3:=Tryz.sizeOf3
 v3:=Tryz.zeroValue3
 t4:=Tryz.underlying4
 a4:=Tryz.isAgg4
 z4:=Tryz.sizeOf4
 v4:=Tryz.zeroValue4
 t5:=Tryz.underlying5
 a5:=Tryz.isAgg5
 z5:=Tryz.sizeOf5
 v5:=Tryz.zeroValue5
 t9:=Tryz.underlying9
 a9:=Tryz.isAgg9
 z9:=Tryz.sizeOf9
 v9:=Tryz.zeroValue9
 t20:=Tryz.underlying20
 a20:=Tryz.isAgg20
 z20:=Tryz.sizeOf20
 v20:=Tryz.zeroValue20
 t21:=Tryz.underlying21
 a21:=Tryz.isAgg21
 z21:=Tryz.sizeOf21
 v21:=Tryz.zeroValue21
 t37:=Tryz.underlying67
 a37:=Tryz.isAgg67
 z37:=Tryz.sizeOf67
 v37:=Tryz.zeroValue67
 t46:=Tryz.underlying253
 a46:=Tryz.isAgg253
 z46:=Tryz.sizeOf253
 v46:=Tryz.zeroValue253
 t51:=Tryz.underlying316
 a51:=Tryz.isAgg316
 z51:=Tryz.sizeOf316
 v51:=Tryz.zeroValue316
 t53:=Tryz.underlying278
 a53:=Tryz.isAgg278
 z53:=Tryz.sizeOf278
 v53:=Tryz.zeroValue278
 t75:=Tryz.underlying148
 a75:=Tryz.isAgg148
 z75:=Tryz.sizeOf148
 v75:=Tryz.zeroValue148
 t76:=Tryz.underlying149
 a76:=Tryz.isAgg149
 z76:=Tryz.sizeOf149
 v76:=Tryz.zeroValue149
 t85:=Tryz.underlying231
 a85:=Tryz.isAgg231
 z85:=Tryz.sizeOf231
 v85:=Tryz.zeroValue231
 t127:=Tryz.underlying296
 a127:=Tryz.isAgg296
 z127:=Tryz.sizeOf296
 v127:=Tryz.zeroValue296
 t143:=Tryz.underlying311
 a143:=Tryz.isAgg311
 z143:=Tryz.sizeOf311
 v143:=Tryz.zeroValue311
 t145:=Tryz.underlying313
 a145:=Tryz.isAgg313
 z145:=Tryz.sizeOf313
 v145:=Tryz.zeroValue313
 t167:=Tryz.underlying230
 a167:=Tryz.isAgg230
 z167:=Tryz.sizeOf230
 v167:=Tryz.zeroValue230
 t168:=Tryz.underlying233
 a168:=Tryz.isAgg233
 z168:=Tryz.sizeOf233
 v168:=Tryz.zeroValue233
 t171:=Tryz.underlying291
 a171:=Tryz.isAgg291
 z171:=Tryz.sizeOf291
 v171:=Tryz.zeroValue291
 t173:=Tryz.underlying294
 a173:=Tryz.isAgg294
 z173:=Tryz.sizeOf294
 v173:=Tryz.zeroValue294
 t175:=Tryz.underlying279
 a175:=Tryz.isAgg279
 z175:=Tryz.sizeOf279
 v175:=Tryz.zeroValue279
 t210:=Tryz.underlying283
 a210:=Tryz.isAgg283
 z210:=Tryz.sizeOf283
 v210:=Tryz.zeroValue283
 t212:=Tryz.underlying315
 a212:=Tryz.isAgg315
 z212:=Tryz.sizeOf315
 v212:=Tryz.zeroValue315
 t213:=Tryz.underlying317
 a213:=Tryz.isAgg317
 z213:=Tryz.sizeOf317
 t232:=Tryz.underlying325
 a232:=Tryz.isAgg325
 z232:=Tryz.sizeOf325
 v232:=Tryz.zeroValue325
 t233:=Tryz.underlying326
 a233:=Tryz.isAgg326
 z233:=Tryz.sizeOf326
 v233:=Tryz.zeroValue326
 g15:=by kernel_rfl
 g16:=by kernel_rfl
 g17:=by kernel_rfl
 g18:=by kernel_rfl
 g19:=by kernel_rfl
 t80:=Tryz.underlying244
 a80:=Tryz.isAgg244
 z80:=Tryz.sizeOf244
 v80:=Tryz.zeroValue244
 i0:=by kernel_rfl
 i2:=by kernel_rfl
 i3:=by kernel_rfl
 i4:=by kernel_rfl
 i5:=by kernel_rfl
 i9:=by kernel_rfl
 i20:=by kernel_rfl
 i21:=by kernel_rfl
 i37:=by kernel_rfl
 i46:=by kernel_rfl
 i51:=by kernel_rfl
 i53:=by kernel_rfl
 i75:=by kernel_rfl
 i76:=by kernel_rfl
 i80:=by kernel_rfl
 i85:=by kernel_rfl
 i127:=by kernel_rfl
 i143:=by kernel_rfl
 i145:=by kernel_rfl
 i167:=by kernel_rfl
 i168:=by kernel_rfl
 i171:=by kernel_rfl
 i173:=by kernel_rfl
 i175:=by kernel_rfl
 i210:=by kernel_rfl
 i212:=by kernel_rfl
 i232:=by kernel_rfl
 i233:=by kernel_rfl
 m15:=by kernel_rfl
 m16:=by kernel_rfl
 m17:=by kernel_rfl
 m18:=by kernel_rfl
 m19:=by kernel_rfl
 c0:=by kernel_rfl
 c2:=by kernel_rfl
 c3:=by kernel_rfl
 c4:=by kernel_rfl
 c5:=by kernel_rfl
 c9:=by kernel_rfl
 c20:=by kernel_rfl
 c21:=by kernel_rfl
 c37:=by kernel_rfl
 c46:=by kernel_rfl
 c51:=by kernel_rfl
 c53:=by kernel_rfl
 c75:=by kernel_rfl
 c76:=by kernel_rfl
 c80:=by kernel_rfl
 c85:=by kernel_rfl
 c127:=by kernel_rfl
 c143:=by kernel_rfl
 c145:=by kernel_rfl
 c167:=by kernel_rfl
 c168:=by kernel_rfl
 c171:=by kernel_rfl
 c173:=by kernel_rfl
 c175:=by kernel_rfl
 c210:=by kernel_rfl
 c212:=by kernel_rfl
 c213:=by kernel_rfl
 c232:=by kernel_rfl
 c233:=by kernel_rfl}
end Go.Proofs
namespace Go.Tev
section
open Go Go.RowKit Go.Proofs Go.Shelf
variable {P:Program} {ρ:Ren}
theorem Znu {P:Program} {S:Fp} {w w':World} {n:String} {g:Nat} {cs:Array Value} (h:Frame S w w') (hg:P.globalNamed n=some g) (hs: ∀o,¬S g o) (hv:w.var? P n=some cs):w'.var? P n=some cs:=by
 unfold World.var? at hv⊢
 rw[hg]at hv⊢
 simp only[Option.bind_some]at hv⊢
 have hlt:g<w.heap.size:=by
  rcases Nat.lt_or_ge g w.heap.size with e|e
  ·exact e
  ·rw[Array.getElem?_eq_none e]at hv;cases hv
 rcases h.obj g hlt with e| ⟨c,c',ty,fz,e,e',hsz,hc⟩
 ·rw[←e];exact hv
 ·rw[e]at hv
  rw[e']
  simp only[Option.some.injEq]at hv⊢
  subst hv
  exact Array.ext_getElem? fun o=>hc o (hs o)
theorem Zg3 {S:Fp} {w w':World} {g:Nat} {v:Value} (h:Frame S w w') (hs: ∀o,¬S g o) (hv:w.cell? ⟨g,0,none⟩=some v):w'.cell? ⟨g,0,none⟩=some v:=by
 have hv':w.cell? (adr (g,0))=some v:=hv
 rw[Ui]at hv'
 have hlt:g<w.heap.size:=by
  rcases Nat.lt_or_ge g w.heap.size with e|e
  ·exact e
  ·rw[Array.getElem?_eq_none e]at hv';cases hv'
 show w'.cell? (adr (g,0))=some v
 rw[Ui]
 rcases h.obj g hlt with e| ⟨c,c',ty,fz,e,e',hsz,hc⟩
 ·rw[←e];exact hv'
 ·rw[e]at hv'
  rw[e']
  exact (hc 0 (hs 0)).trans hv'
theorem ZqH {P:Program} {w:World} {n:String} {g:Nat} {cs:Array Value} (hg:P.globalNamed n=some g) (hv:w.var? P n=some cs):g<w.heap.size:=by
 unfold World.var? at hv
 rw[hg]at hv
 simp only[Option.bind_some]at hv
 rcases Nat.lt_or_ge g w.heap.size with e|e
 ·exact e
 ·rw[Array.getElem?_eq_none e]at hv;cases hv
theorem Zk5 {w:World} {g:Nat} {v:Value} (hv:w.cell? ⟨g,0,none⟩=some v):g<w.heap.size:=by
 have hv':w.cell? (adr (g,0))=some v:=hv
 rw[Ui]at hv'
 rcases Nat.lt_or_ge g w.heap.size with e|e
 ·exact e
 ·rw[Array.getElem?_eq_none e]at hv';cases hv'
theorem Wd {P:Program} {x:String×DataW Unit} {r:List (String×DataW Unit)} {w:World} (h:laidMet P (x::r) w):laidMet P r w:=by
 obtain ⟨ps,hv,hnd,hrows⟩:=h
 obtain ⟨n,d⟩:=x
 obtain ⟨g,t,cs,fuel,p,q,_,_,_,_,hq,rfl⟩:=hv
 exact ⟨q,hq,List.Nodup.sublist (List.sublist_append_right _ _) hnd,fun b off hm=>hrows b off (List.mem_append_right _ hm)⟩
theorem Zhe {P:Program} {n nm:String} {d:DataW Unit} {r:List (String×DataW Unit)} {W:World} {g:Nat} {ti:TypeId} {ms:Array (String×TypeId)}
  (h:laidMet P ((n, .iface nm d)::r) W) (hg:P.globalNamed n=some g) (ht:(P.globals[g]?).map (·.type)=some ti) (hi:P.underlying ti=some (.interface ms)): ∃u v,W.cell? ⟨g,0,Option.none⟩=some (.iface u v):=by
 obtain ⟨ps,⟨g0,t0,cs0,f0,p0,q0,hg0,ht0,hv0,hd0,_,e0⟩,_,_⟩:=h
 obtain rfl:=Option.some.inj (hg.symm.trans hg0)
 obtain rfl:=Option.some.inj (ht.symm.trans ht0)
 obtain ⟨l0⟩:=cs0
 obtain ⟨f1,u,v,e,hn,h1⟩:=iface_of_trod hi hd0
 have e:l0=[.iface u v]:=e
 subst e
 exact ⟨u,v,by simpa using World.var?_cell hg0 hv0 0⟩
theorem ZaF {S:Fp} {w w':World} (h:Below w.heap.size w w'):Frame S w w':=⟨h.os,h.tape,h.output,h.size,fun b hb=> .inl (h.block b hb).symm⟩
def noF:Fp:=fun _ _=>False
theorem Zrp {w:World} {t:LT} {y:PTup [.v t]} {args:List Value} {S:Fp} {L:Nat→Prop} (h:Zx w [.v t] y args S L): ∃v S1,args=[v]∧ZR w t y.1 v S1 L:=by
 match args,h with
 | [v],⟨S1,S2,a,b,_⟩=>exact ⟨v,S1,rfl,a⟩
 |_::_::_,⟨_,_,_,b,_⟩=>exact b.elim
theorem Zqh {w:World} {t u:LT} {y:PTup [.v t, .v u]} {args:List Value} {S:Fp} {L:Nat→Prop} (h:Zx w [.v t, .v u] y args S L): ∃v x S1 S2,args=[v,x]∧ZR w t y.1 v S1 L∧ZR w u y.2.1 x S2 L:=by
 match args,h with
 |v::r,⟨S1,S2,a,b,_⟩=>
  obtain ⟨x,S3,rfl,c⟩:=Zrp (y:=y.2) b
  exact ⟨v,x,S1,S3,rfl,a,c⟩
theorem ZpB {w:World} {t:LT} {x:t.D} {v:Value} {L:Nat→Prop} (h:ZR w t x v noF L):Zx w [.v t] (x,()) [v] noF L:=
 ⟨noF,noF,h,trivial,fun _ _ h=>h.elim,fun _ _ h=>h.elim,fun _ _ h=>h.elim⟩
theorem ZrU {w:World} {t:LT} {ts:List Ty} {x:t.D} {xs:PTup ts} {v:Value} {vs:List Value} {L:Nat→Prop} (h:ZR w t x v noF L) (k:Zx w ts xs vs noF L):Zx w (.v t::ts) (x,xs) (v::vs) noF L:=
 ⟨noF,noF,h,k,fun _ _ h=>h.elim,fun _ _ h=>h.elim,fun _ _ h=>h.elim⟩
theorem ZeO {w w':World} {ins outs:List Ty} {r:PTup outs×BTup ins} {vs args:List Value} {e:Ending} {S:Fp} {L:Nat→Prop} (he:e= .returned (WY vs)) (ho:Zx w' outs r.1 vs noF fun _=>False)
  (hb:ZW w w' ins r.2 args noF) (hF:Frame S w w'):
  ∃vs SO SB,ZsL .nor args vs e∧ZmQ w' .nor outs r.1 vs SO (LK .nor L)∧ZW w w' ins r.2 args SB∧Dis SO SB∧(∀b o,SO b o∨SB b o→(S b o∨w.heap.size≤b)∧b<w'.heap.size)∧Frame S w w':=
 ⟨vs,noF,noF,he,ho,hb,fun _ _ h=>h.elim,fun _ _ h=>(h.elim id id).elim,hF⟩
def Znz:Fn:=⟨[.v (.int .i64)],[.v .str],fun y=>bif decide (-9223372036854775808≤(y.1:Int))&&decide ((y.1:Int)≤9223372036854775807)then some (((⟨(Lib.itoa y.1).toArray⟩:ByteArray),()),())else none, .nor⟩
theorem ZqJ [Glb] (L:LaysM.n171 P ρ) (hE:ZkV P (ρ.f 171)) (hf: ∀w,Glb.fact w→Lib.TabIs P w "internal/strconv.uint64pow10" .u64 Lib.pow10Tab):Zr P (ρ.f 171) Znz where
 nin:=by decide
 nout:=by decide
 inOk:=by simp[Znz,JA,Xy]
 outOk:=by simp[Znz,JA,Xy]
 enters:=hE
 calls:=fun w y args S L0 hy hd hs hl hg hgf r hr=>by
  obtain ⟨n,_⟩:=y
  obtain ⟨v,S1,rfl,hv⟩:=Zrp (y:=((n:Int),())) hy
  obtain rfl:v= .int .i64 n:=hv
  have hr:(bif decide (-9223372036854775808≤(n:Int))&&decide ((n:Int)≤9223372036854775807)then some (((⟨(Lib.itoa n).toArray⟩:ByteArray),()),())else none)=some r:=hr
  cases hc:decide (-9223372036854775808≤(n:Int))&&decide ((n:Int)≤9223372036854775807)with
  |false=>rw[hc]at hr;cases hr
  |true=>
   rw[hc]at hr
   injection hr with hr
   subst hr
   rw[Bool.and_eq_true,decide_eq_true_iff,decide_eq_true_iff]at hc
   refine (Any.strconv_Itoa L n hc.1 hc.2 w (hf w hgf)).mono ?_
   rintro e w' ⟨rfl,k,os,rfl⟩
   have hB:Below w.heap.size w (Sort.grow (w.drewN k) os):=(below_drewN (Below.refl _ _) k).trans ⟨rfl,rfl,rfl,by simp[Sort.grow],fun b hb=>Sort.heap_grow_old _ _ hb⟩
   exact ZeO (ins:=[.v (.int .i64)]) (outs:=[.v .str]) (vs:=[.string _]) rfl (ZpB rfl) trivial (ZaF hB)
def ZnA:Fn:=⟨[.v (.sl false .s), .v .str],[.v .str],fun y=>bif Nat.ble (List.length (α:=ByteArray) y.1) 140737488355328&&Nat.ble (Lib.join ((y.1:List ByteArray).map (·.data.toList)) (ByteArray.data y.2.1).toList).length 140737488355328 then some (((⟨(Lib.join ((y.1:List ByteArray).map (·.data.toList)) (ByteArray.data y.2.1).toList).toArray⟩:ByteArray),()),())else none, .nor⟩
theorem ZqK [Glb] (L:Lays.n156 P ρ) (X:Builder.Extra P ρ) (hE:ZkV P (ρ.f 156)):Zr P (ρ.f 156) ZnA where
 nin:=by decide
 nout:=by decide
 inOk:=by simp[ZnA,JA,Xy]
 outOk:=by simp[ZnA,JA,Xy]
 enters:=hE
 calls:=fun w y args S L0 hy hd hs hl hg hgf r hr=>by
  obtain ⟨xs,p,_⟩:=y
  obtain ⟨v,x,S1,S2,rfl,hv,hx⟩:=Zqh (t:= .sl false .s) (y:=(xs,(p,()))) hy
  obtain rfl:x= .string p:=hx
  obtain ⟨a,cap,ips,rfl,hrow,hin⟩:=hv
  have hr:(bif Nat.ble (List.length (α:=ByteArray) xs) 140737488355328&&Nat.ble (Lib.join ((xs:List ByteArray).map (·.data.toList)) (ByteArray.data p).toList).length 140737488355328 then _ else none)=some r:=hr
  cases hc:Nat.ble (List.length (α:=ByteArray) xs) 140737488355328&&Nat.ble (Lib.join ((xs:List ByteArray).map (·.data.toList)) (ByteArray.data p).toList).length 140737488355328 with
  |false=>rw[hc]at hr;cases hr
  |true=>
   rw[hc]at hr
   injection hr with hr
   subst hr
   rw[Bool.and_eq_true,Nat.ble_eq,Nat.ble_eq]at hc
   have key:Calls P (ρ.f 156) #[slV a ips.q (List.length (α:=ByteArray) xs) cap, .string p] w fun e w'=>e= .returned (.string ⟨(Lib.join ((xs:List ByteArray).map (·.data.toList)) p.data.toList).toArray⟩)∧Below w.heap.size w w':=by
    by_cases h0:List.length (α:=ByteArray) xs=0
    ·obtain rfl:(xs:List ByteArray)=[]:=List.length_eq_zero_iff.1 h0
     exact (Any.strings_Join_none L X (pt a ips.q) cap p w).mono fun e w' ⟨he,hw⟩=>⟨by rw[he];rfl,hw▸Below.refl _ _⟩
    ·cases a with
     |none=>
      have h1:List.length (α:=ByteArray) xs≤cap:=hrow.1
      have h2:=(hrow.2.1 rfl).1
      omega
     |some q=>
      obtain ⟨b,o⟩:=q
      have hb:b<w.heap.size:=hl b (hin b (.inl ⟨(show 0<List.length (α:=ByteArray) xs by omega),o,rfl⟩))
      refine Any.strings_Join L X b o cap xs p w (fun j x hx=> ?_) hb hc.1 hrow.1 hc.2
      obtain ⟨hj,rfl⟩:=List.getElem?_eq_some_iff.1 hx
      have:=(hrow.2.2.1 b o rfl).1 j hj 0 (by decide)
      simpa [adr,E.sz,elV] using this
   refine key.mono ?_
   rintro e w' ⟨rfl,hB⟩
   exact ZeO (ins:=[.v (.sl false .s), .v .str]) (outs:=[.v .str]) (vs:=[.string _]) rfl (ZpB rfl) trivial (ZaF hB)
def Za3:Fn:=⟨[.v .str, .v .str],[.v .str, .v .bool],fun y=>some (((⟨(Lib.trimPrefix (ByteArray.data y.1).toList (ByteArray.data y.2.1).toList).toArray⟩:ByteArray),(Lib.hasPrefix (ByteArray.data y.1).toList (ByteArray.data y.2.1).toList,())),()), .nor⟩
theorem ZiQ [Glb] (L:Lays.n103 P ρ) (hE:ZkV P (ρ.f 103)):Zr P (ρ.f 103) Za3 where
 nin:=by decide
 nout:=by decide
 inOk:=by simp[Za3,JA,Xy]
 outOk:=by simp[Za3,JA,Xy]
 enters:=hE
 calls:=fun w y args S L0 hy hd hs hl hg hgf r hr=>by
  obtain ⟨s,p,_⟩:=y
  obtain ⟨v,x,S1,S2,rfl,hv,hx⟩:=Zqh (y:=(s,(p,()))) hy
  obtain rfl:v= .string s:=hv
  obtain rfl:x= .string p:=hx
  injection hr with hr
  subst hr
  refine (Any.strings_CutPrefix L s p w).mono ?_
  rintro e w' ⟨rfl,rfl⟩
  exact ZeO (ins:=[.v .str, .v .str]) (outs:=[.v .str, .v .bool]) (vs:=[.string _, .bool _]) rfl (ZrU rfl (ZpB rfl)) trivial (ZaF (Below.refl _ _))
end
end Go.Tev
namespace Go.Proofs.YtleidaafbhojfaaGreatDoor.Plain
open Go Go.Tev Go.RowKit Go.Proofs Go.Shelf
theorem Zsm:Tryz.prog.globalNamed "internal/strconv.uint64pow10" =some 2:=by kernel_rfl
def UX:List Nat:=[2,0,1]
def Zpe (w:World):Prop:=Go.Lib.TabIs Tryz.prog w "internal/strconv.uint64pow10" .u64 Go.Lib.pow10Tab∧(∃t p,w.cell? ⟨0,0,Option.none⟩=some (.iface t p))∧(∃t p,w.cell? ⟨1,0,Option.none⟩=some (.iface t p))
instance glbV:Glb:=⟨fun b=>b∈UX,Zpe,fun S w w' hF hs h=>by
 obtain ⟨h0,h1,h2⟩:=h
 exact ⟨Znu hF Zsm (fun o=>hs _ o (by unfold UX;simp)) h0,(let ⟨t,p,hm⟩:=h1;⟨t,p,Zg3 hF (fun o=>hs _ o (by unfold UX;simp)) hm⟩),(let ⟨t,p,hm⟩:=h2;⟨t,p,Zg3 hF (fun o=>hs _ o (by unfold UX;simp)) hm⟩)⟩⟩
theorem Zrs {w:World} (h:Glb.fact w): ∀b,Glb.blk b→b<w.heap.size:=by
 intro b hb
 have h:Zpe w:=h
 obtain ⟨h0,h1,h2⟩:=h
 have hb:b∈UX:=hb
 unfold UX at hb
 simp only[List.mem_cons,List.mem_nil_iff,or_false]at hb
 rcases hb with rfl|rfl|rfl
 ·exact ZqH Zsm h0
 ·exact (let ⟨t,p,hm⟩:=h1;Zk5 hm)
 ·exact (let ⟨t,p,hm⟩:=h2;Zk5 hm)
theorem ZqD {W:World} (hsh:W.ShapedOpen Tryz.prog) (h:laidMet Tryz.prog [("math/bits.deBruijn32tab",Go.Proofs.YtleidaafbhojfaaGreatDoor.Rows.laid_math_bits_deBruijn32tab),("math/bits.deBruijn64tab",Go.Proofs.YtleidaafbhojfaaGreatDoor.Rows.laid_math_bits_deBruijn64tab),("internal/strconv.uint64pow10",Go.Proofs.YtleidaafbhojfaaGreatDoor.Rows.laid_internal_strconv_uint64pow10),("strconv.ErrRange",Go.Proofs.YtleidaafbhojfaaGreatDoor.Rows.laid_strconv_ErrRange),("strconv.ErrSyntax",Go.Proofs.YtleidaafbhojfaaGreatDoor.Rows.laid_strconv_ErrSyntax)] W):Glb.fact W:=by
 have e:(Go.Proofs.YtleidaafbhojfaaGreatDoor.Rows.laid_internal_strconv_uint64pow10:DataW Unit)=Go.Lib.tabData .u64 Go.Lib.pow10Tab:=by kernel_rfl
 have h0:=(Wd (Wd h))
 rw[e]at h0
 have a0:=Go.Lib.tabIs_of_head (t:=315) (e:=278) (n:=20) Zsm (by kernel_rfl) (by kernel_rfl) (by kernel_rfl) (by kernel_rfl) (by kernel_rfl) h0
 have b0: ∃t p,W.cell? ⟨0,0,Option.none⟩=some (.iface t p):=Zhe (Wd (Wd (Wd (Wd h)))) (by kernel_rfl) (by kernel_rfl) Tryz.underlying148
 have b1: ∃t p,W.cell? ⟨1,0,Option.none⟩=some (.iface t p):=Zhe (Wd (Wd (Wd h))) (by kernel_rfl) (by kernel_rfl) Tryz.underlying148
 exact ⟨a0,b0,b1⟩
theorem Zsp:Zr Tryz.prog 122 Znz:=ZqJ Tryz.laysM171 ⟨Tryz.f122,Tryz.func122,by kernel_rfl,by kernel_rfl⟩ (fun w h=>h.1)
theorem Zsr:Zr Tryz.prog 204 ZnA:=ZqK Tryz.lays156 Tryz.Builder_Extra_156 ⟨Tryz.f204,Tryz.func204,by kernel_rfl,by kernel_rfl⟩
theorem ZlW:Zr Tryz.prog 39 Za3:=ZiQ Tryz.lays103 ⟨Tryz.f39,Tryz.func39,by kernel_rfl,by kernel_rfl⟩
def Yo (l:List UInt8) (most:Int):Int×Bool:=match Go.Lib.atoiAll l with
 | .ok v=>if 0≤v∧v≤most∧Go.Lib.itoa v=l then (v,true)else (0,false)
 |_=>(0,false)
def ZpK:Tev.Fn:=⟨[.v .str, .v (.int .i64)],[.v (.int .i64), .v .bool],fun y=>bif Nat.ble (ByteArray.size y.1) 281474976710656 then some (((Yo (ByteArray.data y.1).toList y.2.1).1,((Yo (ByteArray.data y.1).toList y.2.1).2,())),())else none, .nor⟩
theorem ZoX (s:ByteArray) (w:World) (hs:s.size≤281474976710656) (h:Glb.fact w):Calls Tryz.prog 120 #[.string s] w fun e w'=>(∃v er,e= .returned (.tuple #[.int .i64 v,er])∧(-9223372036854775808≤v∧v≤9223372036854775807)∧
  ((Go.Lib.atoiAll s.data.toList= .ok v∧er= .nilIface)∨((∀u,Go.Lib.atoiAll s.data.toList≠ .ok u)∧ ∃t p,er= .iface t p)))∧Below w.heap.size w w':=by
 have h:Zpe w:=h
 obtain ⟨ts,ps,hS⟩:=h.2.1
 obtain ⟨tr,pr,hR⟩:=h.2.2
 cases ha:Go.Lib.atoiAll s.data.toList with
 |ok v=>
  refine (Any.strconv_Atoi_ok Tryz.laysC172 s (by omega) v ha w).mono ?_
  rintro e w' ⟨rfl,hw⟩
  refine ⟨⟨v,_,rfl,Go.Lib.atoiAll_bounds ha, .inl ⟨rfl,rfl⟩⟩,?_⟩
  rcases hw with rfl| ⟨t,rfl⟩
  ·exact Below.refl _ _
  ·exact Go.Lib.bytesWorld_below _ _ _
 |range=>
  refine (Any.strconv_Atoi_range Tryz.laysC172 s hs ha _ w hR (.inr ⟨_,_,rfl⟩)).mono ?_
  rintro e w' ⟨N,rfl,_,_,hb⟩
  exact ⟨⟨_,_,rfl,Go.Lib.atoiSat_bounds _, .inr ⟨fun u hu=>(by cases hu),_,_,rfl⟩⟩,hb⟩
 |_=>
  refine (Any.strconv_Atoi_syntax Tryz.laysC172 s hs ha _ w hS (.inr ⟨_,_,rfl⟩)).mono ?_
  rintro e w' ⟨N,rfl,_,_,hb⟩
  exact ⟨⟨0,_,rfl,by omega, .inr ⟨fun u hu=>(by cases hu),_,_,rfl⟩⟩,hb⟩
theorem ZlX (v:Int) (h0: -9223372036854775808≤v) (h1:v≤9223372036854775807) (w:World) (h:Glb.fact w):Calls Tryz.prog 44 #[.int .i64 v] w fun e w'=>e= .returned (.string ⟨(Go.Lib.itoa v).toArray⟩)∧Below w.heap.size w w':=by
 have h:Zpe w:=h
 have c:Calls Tryz.prog 122 #[.int .i64 v] w _:=Any.strconv_Itoa Tryz.laysM171 v h0 h1 w h.1
 go_enter Tryz.func44,Tryz.ntmps44
 go_wp2_with (go_at_call 122;refine c.mono ?_;rintro e w' ⟨rfl,k,os,rfl⟩)
 go_ret
 exact ⟨rfl,(below_drewN (Below.refl _ _) k).trans ⟨rfl,rfl,rfl,by simp[Sort.grow],fun b hb=>Sort.heap_grow_old _ _ hb⟩⟩
theorem ZjE {P:Program} (w:World) {ti:TypeId} {ms:Array (String×TypeId)} (hi:P.underlying ti=some (.interface ms)):(binOp .neq ti .nilIface .nilIface).run P w= .ok (.bool false) w:=by
 have h: ∀d:Nat,(Op.equalIn (d+1) ti .nilIface .nilIface).run P w= .ok true w:=fun d=>by simp[Op.equalIn,run_underlying hi]
 simp only[binOp]
 simp[Op.equal,Op.maxDepth,h 9999]
theorem Zd9 {P:Program} (w:World) {ti:TypeId} {ms:Array (String×TypeId)} (tp:TypeId) (v:Value) (hi:P.underlying ti=some (.interface ms)):(binOp .neq ti (.iface tp v) .nilIface).run P w= .ok (.bool true) w:=by
 have h: ∀d:Nat,(Op.equalIn (d+1) ti (.iface tp v) .nilIface).run P w= .ok false w:=fun d=>by simp[Op.equalIn,run_underlying hi]
 simp only[binOp]
 simp[Op.equal,Op.maxDepth,h 9999]
theorem ZgJ {P:Program} (w:World) (t:TypeId) (x:Operand) (c:Value):(eqGuard .neq t x (.const c) .nilIface .nilIface).run P w= .ok () w:=by
 simp[eqGuard]
theorem Zf5 {P:Program} (w:World) (t tp:TypeId) (x y:Operand) (v:Value):(eqGuard .neq t x y (.iface tp v) .nilIface).run P w= .ok () w:=by
 simp[eqGuard]
set_option maxRecDepth 100000 in
theorem Zf1 (s:ByteArray) (most:Int) (w:World) (hs:s.size≤281474976710656) (h:Glb.fact w):Calls Tryz.prog 42 #[.string s, .int .i64 most] w fun e w'=>e= .returned (.tuple #[.int .i64 (Yo s.data.toList most).1, .bool (Yo s.data.toList most).2])∧Below w.heap.size w w':=by
 have ca:=ZoX s w hs h
 go_enter Tryz.func42,Tryz.ntmps42
 go_wp2_with (go_at_call 120;refine ca.mono ?_;rintro e W1 ⟨⟨v,er,rfl,⟨hv0,hv1⟩,hr⟩,hb⟩)
 have hf1:Glb.fact W1:=Glb.stay noF w W1 (ZaF hb) (fun _ _ _ h=>h) h
 rcases hr with ⟨ho,rfl⟩| ⟨hn,t,p,rfl⟩
 ·have cd:=ZlX v hv0 hv1 W1 hf1
  rw[ZgJ,Result.andThen_ok,ZjE W1 Tryz.underlying148]
  go_wp2_with (first| (go_at_call 44;refine cd.mono ?_;rintro e W2 ⟨rfl,hb2⟩)|go_in)
  ·rename_i g0 g1 g2
   have e:Yo s.data.toList most=(0,false):=by
    unfold Yo
    rw[ho]
    dsimp only
    rw[if_neg]
    rintro ⟨_,_,h⟩
    rw[h,ByteArray.toList_eq,beq_self_eq_true]at g2
    cases g2
   go_ret2
   rw[e]
   exact ⟨rfl,hb.trans (hb2.mono hb.size)⟩
  ·rename_i g0 g1 g2
   have e:Yo s.data.toList most=(v,true):=by
    unfold Yo
    rw[ho]
    dsimp only
    rw[if_pos]
    refine ⟨g0,g1,?_⟩
    rw[Bool.not_eq_false',ByteArray.toList_eq,beq_iff_eq]at g2
    exact g2
   go_ret2
   rw[e]
   exact ⟨rfl,hb.trans (hb2.mono hb.size)⟩
  ·rename_i g0 g1
   have e:Yo s.data.toList most=(0,false):=by
    unfold Yo
    rw[ho]
    dsimp only
    rw[if_neg]
    rintro ⟨_,_,_⟩
    omega
   go_ret2
   rw[e]
   exact ⟨rfl,hb⟩
  ·rename_i g0
   have e:Yo s.data.toList most=(0,false):=by
    unfold Yo
    rw[ho]
    dsimp only
    rw[if_neg]
    rintro ⟨_,_,_⟩
    omega
   go_ret2
   rw[e]
   exact ⟨rfl,hb⟩
 ·rw[Zf5,Result.andThen_ok,Zd9 W1 t p Tryz.underlying148]
  go_wp2
  have e:Yo s.data.toList most=(0,false):=by
   unfold Yo
   cases ha:Go.Lib.atoiAll s.data.toList with
   |ok u=>exact absurd ha (hn u)
   |range=>rfl
   |_=>rfl
  go_ret2
  rw[e]
  exact ⟨rfl,hb⟩
theorem Zsz:Zr Tryz.prog 42 ZpK where
 nin:=by decide
 nout:=by decide
 inOk:=by simp[ZpK,JA,Xy]
 outOk:=by simp[ZpK,JA,Xy]
 enters:=⟨Tryz.f42,Tryz.func42,by kernel_rfl,by kernel_rfl⟩
 calls:=fun w y args S L0 hy hd hs hl hg hgf r hr=>by
  obtain ⟨s,most,_⟩:=y
  obtain ⟨v,x,S1,S2,rfl,hv,hx⟩:=Zqh (t:= .str) (u:= .int .i64) (y:=(s,(most,()))) hy
  obtain rfl:v= .string s:=hv
  obtain rfl:x= .int .i64 most:=hx
  have hr:(bif Nat.ble (ByteArray.size s) 281474976710656 then _ else none)=some r:=hr
  cases hc:Nat.ble (ByteArray.size s) 281474976710656 with
  |false=>rw[hc]at hr;cases hr
  |true=>
   rw[hc]at hr
   injection hr with hr
   subst hr
   rw[Nat.ble_eq]at hc
   refine (Zf1 s most w hc hgf).mono ?_
   rintro e w' ⟨rfl,hb⟩
   exact ZeO (ins:=[.v .str, .v (.int .i64)]) (outs:=[.v (.int .i64), .v .bool]) (vs:=[.int .i64 _, .bool _]) rfl (ZrU rfl (ZpB rfl)) trivial (ZaF hb)
end Go.Proofs.YtleidaafbhojfaaGreatDoor.Plain
