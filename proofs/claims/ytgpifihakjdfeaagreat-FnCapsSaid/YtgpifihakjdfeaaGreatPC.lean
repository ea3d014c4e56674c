/- Plain laws of the printed functions: UnitI, ExecI, TimeI, WaitI. No condition beyond those that each lemma states. -/
import Derived.Test.YtgpifihakjdfeaaGreatPB
set_option linter.unusedVariables false
set_option linter.unusedSimpArgs false
namespace Go.Proofs.YtgpifihakjdfeaaGreat.Plain
open Go Go.Tev
theorem tdiv_nn {a b:Int} (h:0≤a):Int.tdiv a b=a/b:=Int.tdiv_eq_ediv_of_nonneg h
theorem dotI {s at':Int} (ha:0≤at'∧at'≤48) (hs:0≤s∧s≤255):Int.tmod (wI ((wI ((Int.tmod at' 8)+s))+(wI (Int.tdiv at' 8)))) 16=(at'%8+s+at'/8)%16:=by
 rw[tmod_nn ha.1,tdiv_nn ha.1,wI_id (x:=at'%8+s) (by omega) (by omega),wI_id (x:=at'/8) (by omega) (by omega),wI_id (by omega) (by omega),tmod_nn (by omega)]
theorem dot_ok (p:PpuM) (hs:0≤p.scroll∧p.scroll≤255) (h1:p.table.length=16) (a:Int) (ha:0≤a∧a≤48):r243 (p.t,(a,()))=some ((dotN p a,()),()):=by
 unfold r243 m243 dotN
 simp only[lenI_def,PpuM.t]
 rw[dotI ha hs,leI_t (by omega),ltI_t (by omega)]
 rfl
theorem dots_len {p:PpuM} (h:PpuP p):p.dots.length≤48:=by
 have h2:=h.dots
 split at h2<;>omega
theorem tickP_1 {p:PpuM} (c:p.T%64<48):tickP p={p with T:=p.T+1,dots:=p.dots++[dotN p (p.T%64)]}∧frameP p=[]∧asksP p=false∧toldP p=false:=by
 unfold tickP frameP asksP toldP
 rw[if_pos c,if_neg (by omega),decide_eq_false (by omega)]
 exact ⟨rfl,rfl,rfl,rfl⟩
theorem tickP_2 {p:PpuM} (c:p.T%64=48):tickP p={p with T:=p.T+1,blank:=true,dots:=[]}∧frameP p=p.dots∧asksP p=ltI 127 p.ctrl∧toldP p=true:=by
 unfold tickP frameP asksP toldP
 rw[if_neg (by omega),if_pos c,if_pos c,decide_eq_true c]
 exact ⟨rfl,rfl,rfl,rfl⟩
theorem tickP_3 {p:PpuM} (c:p.T%64=63):tickP p={p with T:=p.T+1,blank:=false}∧frameP p=[]∧asksP p=false∧toldP p=false:=by
 unfold tickP frameP asksP toldP
 rw[if_neg (by omega),if_neg (by omega),if_pos c,if_neg (by omega),decide_eq_false (by omega)]
 exact ⟨rfl,rfl,rfl,rfl⟩
theorem tickP_4 {p:PpuM} (c: ¬p.T%64<48) (c2:p.T%64≠48) (c3:p.T%64≠63):tickP p={p with T:=p.T+1}∧frameP p=[]∧asksP p=false∧toldP p=false:=by
 unfold tickP frameP asksP toldP
 rw[if_neg c,if_neg c2,if_neg c3,if_neg c2,decide_eq_false c2]
 exact ⟨rfl,rfl,rfl,rfl⟩
theorem tick_ok (p:PpuM) (h:PpuP p) (ht:p.T<20000):r203 (p.t,())=some ((toldP p,(frameP p,(asksP p,()))),((tickP p).t,())):=by
 have h1:=h.t
 have hd:=dots_len h
 have hm:Int.tmod p.T 64=p.T%64:=tmod_nn h1.1
 have hw:wI (p.T+1)=p.T+1:=wI_id (by omega) (by omega)
 unfold r203 m203
 show (bif ltI (Int.tmod p.T 64) 48 then _ else bif eqI (Int.tmod p.T 64) 48 then _ else bif eqI (Int.tmod p.T 64) 63 then _ else _)=_
 rw[hm]
 by_cases c1:p.T%64<48
 ·obtain ⟨e1,e2,e3,e4⟩:=tickP_1 c1
  rw[ltI_t c1,cond_true,e1,e2,e3,e4]
  have hdt:=dot_ok {p with T:=p.T+1} h.scroll h.len (p.T%64) (by omega)
  rw[←hw,←hm]at hdt
  refine bind_step hdt ?_
  show (bif leN (p.dots.length+1) (E.most .i)then some (_,(((wI (p.T+1)),_),_))else none)=_
  rw[leN_t (by simp only[E.most];omega),hw,hm]
  rfl
 rw[ltI_f c1,cond_false]
 by_cases c2:p.T%64=48
 ·obtain ⟨e1,e2,e3,e4⟩:=tickP_2 c2
  rw[eqI_t c2,cond_true,e1,e2,e3,e4]
  show some (_,(((wI (p.T+1)),_),_))=_
  rw[hw];rfl
 rw[eqI_f c2,cond_false]
 by_cases c3:p.T%64=63
 ·obtain ⟨e1,e2,e3,e4⟩:=tickP_3 c3
  rw[eqI_t c3,cond_true,e1,e2,e3,e4]
  show some (_,(((wI (p.T+1)),_),_))=_
  rw[hw];rfl
 ·obtain ⟨e1,e2,e3,e4⟩:=tickP_4 c1 c2 c3
  rw[eqI_f c3,cond_false,e1,e2,e3,e4]
  show some (_,(((wI (p.T+1)),_),_))=_
  rw[hw];rfl
theorem write_ok (p:PpuM) (h:PpuP p) (reg v:Int):r184 (p.t,(reg,(v,())))=some ((),((writeP p reg v).t,())):=by
 have ha:=h.addr
 have hl:=h.len
 unfold r184 m184 writeP r221 m221
 simp only[implByte_ok,Option.bind_some,lenI_def,PpuM.t]
 rw[tmod_nn (show 0≤v%256 by omega),tmod_nn (show 0≤v%256 by omega),wI_id (x:=p.addr+1) (by omega) (by omega),tmod_nn (show 0≤p.addr+1 by omega),leI_t ha.1,ltI_t (by omega)]
 by_cases c:reg=0
 ·rw[eqI_t c,if_pos c];rfl
 rw[eqI_f c,if_neg c,cond_false]
 by_cases c:reg=1
 ·rw[eqI_t c,if_pos c];rfl
 rw[eqI_f c,if_neg c,cond_false]
 by_cases c:reg=3
 ·rw[eqI_t c,if_pos c];rfl
 rw[eqI_f c,if_neg c,cond_false]
 by_cases c:reg=4
 ·rw[eqI_t c,if_pos c];rfl
 rw[eqI_f c,if_neg c,cond_false]
 by_cases c:reg=5
 ·rw[eqI_t c,if_pos c];rfl
 rw[eqI_f c,if_neg c,cond_false]
theorem read_ok (p:PpuM) (h:PpuP p) (reg:Int):r172 (p.t,(reg,()))=some ((readPV p reg,()),((readP p reg).t,())):=by
 have ha:=h.addr
 have hl:=h.len
 have hf:=flagN_range p.blank
 unfold r172 m172 readP readPV r221 m221
 simp only[flag_ok,Option.bind_some,lenI_def,PpuM.t]
 rw[wI_id (x:=p.addr+1) (by omega) (by omega),tmod_nn (show 0≤p.addr+1 by omega),leI_t ha.1,ltI_t (by omega),wI_id (x:=128*flagN p.blank) (by omega) (by omega)]
 by_cases c:reg=2
 ·rw[eqI_t c,if_pos c,if_pos c];rfl
 rw[eqI_f c,if_neg c,if_neg c,cond_false]
 by_cases c:reg=4
 ·rw[eqI_t c,if_pos c,if_pos c];rfl
 rw[eqI_f c,if_neg c,if_neg c,cond_false]
theorem apuTick_ok (a:ApuM) (h:ApuP a) (ht:a.T<20000):r204 (a.t,())=some ((sampleA a,(toldA a,())),((tickA a).t,())):=by
 obtain ⟨t,p,c,b,l,asks,irq⟩:=a
 have ht:t<20000:=ht
 obtain ⟨h1,h2,h3,h4,h5⟩:=h
 have h1:0≤t∧t≤20000:=h1
 have h3:0≤c∧c≤255:=h3
 have h4:0≤b∧b≤1:=h4
 have h5:0≤l∧l≤31:=h5
 unfold r204 m204 tickA sampleA toldA beatA countA ApuM.t
 simp only
 rw[tmod_nn h1.1,tmod_nn h1.1,wI_id (x:=t+1) (by omega) (by omega),wI_id (x:=1-b) (by omega) (by omega),wI_id (x:=l-1) (by omega) (by omega),wI_id (x:=c-1) (by omega) (by omega),wI_id (x:=8*(1-b)) (by omega) (by omega),wI_id (x:=8*b) (by omega) (by omega)]
 by_cases c0:c=0
 ·rw[eqI_t c0,if_pos c0]
  by_cases l0:0<l
  ·rw[ltI_t l0,if_pos l0]
   by_cases t32:t%32=0
   ·rw[eqI_t t32,eqI_f (show t%16≠15 by omega)]
    simp only[cond_true,cond_false,t32,l0,true_and,if_true,show¬t%16=15 by omega,false_and,if_false,Bool.not_false]
    cases irq<;>cases eqI (l-1) 0<;>rfl
   ·rw[eqI_f t32]
    simp only[cond_true,cond_false,t32,false_and,if_false]
    by_cases t16:t%16=15
    ·rw[eqI_t t16,eqI_f (show l≠0 by omega)]
     simp only[cond_true,cond_false,Bool.not_true,t16,true_and,ne_eq,show¬l=0 by omega,not_false_eq_true,if_true]
    ·rw[eqI_f t16]
     simp only[cond_true,cond_false,Bool.not_false,t16,false_and,if_false]
  ·rw[ltI_f l0,if_neg l0]
   have l0':l=0:=by omega
   subst l0'
   by_cases t32:t%32=0
   ·rw[eqI_t t32,eqI_f (show t%16≠15 by omega)]
    simp only[cond_true,cond_false,Bool.not_false,t32,true_and,show¬t%16=15 by omega,false_and,if_false,Int.lt_irrefl]
   ·rw[eqI_f t32]
    by_cases t16:t%16=15
    ·rw[eqI_t t16,eqI_t (show (0:Int)=0 from rfl)]
     simp only[cond_true,cond_false,Bool.not_true,t32,t16,true_and,ne_eq,not_true_eq_false,false_and,and_false,if_false]
    ·rw[eqI_f t16]
     simp only[cond_true,cond_false,Bool.not_false,t32,t16,false_and,if_false]
 ·rw[eqI_f c0,if_neg c0]
  by_cases l0:0<l
  ·rw[ltI_t l0]
   by_cases t32:t%32=0
   ·rw[eqI_t t32,eqI_f (show t%16≠15 by omega)]
    simp only[cond_true,cond_false,t32,l0,true_and,if_true,show¬t%16=15 by omega,false_and,if_false,Bool.not_false]
    cases irq<;>cases eqI (l-1) 0<;>rfl
   ·rw[eqI_f t32]
    simp only[cond_true,cond_false,t32,false_and,if_false]
    by_cases t16:t%16=15
    ·rw[eqI_t t16,eqI_f (show l≠0 by omega)]
     simp only[cond_true,cond_false,Bool.not_true,t16,true_and,ne_eq,show¬l=0 by omega,not_false_eq_true,if_true]
    ·rw[eqI_f t16]
     simp only[cond_true,cond_false,Bool.not_false,t16,false_and,if_false]
  ·rw[ltI_f l0]
   have l0':l=0:=by omega
   subst l0'
   by_cases t32:t%32=0
   ·rw[eqI_t t32,eqI_f (show t%16≠15 by omega)]
    simp only[cond_true,cond_false,Bool.not_false,t32,true_and,show¬t%16=15 by omega,false_and,if_false,Int.lt_irrefl]
   ·rw[eqI_f t32]
    by_cases t16:t%16=15
    ·rw[eqI_t t16,eqI_t (show (0:Int)=0 from rfl)]
     simp only[cond_true,cond_false,Bool.not_true,t32,t16,true_and,ne_eq,not_true_eq_false,false_and,and_false,if_false]
    ·rw[eqI_f t16]
     simp only[cond_true,cond_false,Bool.not_false,t32,t16,false_and,if_false]
theorem implApuWrite_ok (a:ApuM) (h:ApuP a) (reg v:Int):r185 (a.t,(reg,(v,())))=some (((writeA a reg v).t,()),()):=by
 unfold r185 m185 writeA
 refine bind_step (by rw[implApuOk_ok a.t,apuOk_iff.2 h]) ?_
 simp only[Bool.not_true,cond_false,implByte_ok,Option.bind_some,ApuM.t]
 rw[tmod_nn (show 0≤v%256 by omega),tmod_nn (show 0≤v%256 by omega)]
 by_cases c:reg=0
 ·rw[eqI_t c,if_pos c];rfl
 rw[eqI_f c,if_neg c,cond_false]
 by_cases c:reg=1
 ·rw[eqI_t c,if_pos c];rfl
 rw[eqI_f c,if_neg c,cond_false]
 by_cases c:reg=2
 ·rw[eqI_t c,if_pos c]
  cases a.irq<;>rfl
 rw[eqI_f c,if_neg c,cond_false]
 by_cases c:reg=3
 ·rw[eqI_t c,if_pos c];rfl
 rw[eqI_f c,if_neg c,cond_false]
theorem implApuRead_ok (a:ApuM) (h:ApuP a) (reg:Int):r173 (a.t,(reg,()))=some (((readA a reg).t,(readAV a reg,())),()):=by
 unfold r173 m173 readA readAV
 have f1:=flagN_range a.irq
 have f2:=flagN_range (ltI 0 a.len)
 by_cases c:reg=2
 ·rw[neI_f c,if_pos c,if_pos c]
  refine bind_step (by rw[implApuOk_ok a.t,apuOk_iff.2 h]) ?_
  simp only[Bool.not_true,cond_false,flag_ok,Option.bind_some,ApuM.t]
  rw[wI_id (x:=128*flagN a.irq) (by omega) (by omega),wI_id (x:=128*flagN a.irq+flagN (ltI 0 a.len)) (by omega) (by omega)]
 ·rw[neI_t c,if_neg c,if_neg c];rfl
theorem eqI_out {n:Int} (h: ¬(0≤n∧n≤29)): ∀c:Int,0≤c→c≤29→eqI n c=false:=fun c h0 h1=>eqI_f (by omega)
theorem isReckon_out {n:Int} (h: ¬(0≤n∧n≤29)):isReckon n=false:=decide_eq_false (by omega)
theorem isTurn_out {n:Int} (h: ¬(0≤n∧n≤29)):isTurn n=false:=decide_eq_false (by omega)
theorem reckonT_out {n:Int} (h:isReckon n=false) (c:CpuM) (arg v:Int):reckonT c n arg v=c:=by
 have h: ¬(n=1∨n=2∨n=14∨n=4∨n=29∨n=5∨n=6∨n=7∨n=8∨n=9):=of_decide_eq_false h
 unfold reckonT
 rw[if_neg (by omega),if_neg (by omega),if_neg (by omega),if_neg (by omega),if_neg (by omega),if_neg (by omega),if_neg (by omega),if_neg (by omega),if_neg (by omega)]
theorem turnT_out {n:Int} (h:isTurn n=false) (c:CpuM):turnT c n=c:=by
 have h: ¬(n=10∨n=11∨n=12∨n=13∨n=25∨n=26∨n=27∨n=28):=of_decide_eq_false h
 unfold turnT
 rw[if_neg (by omega),if_neg (by omega),if_neg (by omega),if_neg (by omega),if_neg (by omega),if_neg (by omega),if_neg (by omega),if_neg (by omega)]
theorem subS_true (a b:Int):subS a b true=a%256-b%256:=by unfold subS flagN;simp
theorem cpiT_eq (c:CpuM) (b:Int):cpiT c b={c with z:=eqI (subS c.a b true%256%256) 0,n:=ltI 127 (subS c.a b true%256%256),c:=leI 0 (subS c.a b true)}:=by
 unfold cpiT
 rw[subS_true,Int.emod_emod]
 have:leI (b%256) (c.a%256)=leI 0 (c.a%256-b%256):=by
  by_cases h:b%256≤c.a%256
  ·rw[leI_t h,leI_t (by omega)]
  ·rw[leI_f h,leI_f (by omega)]
 rw[this]
theorem reckon_ok (c:CpuM) (op arg v:Int):r248 (c.t,((op,(arg,())),(v,())))=some ((isReckon op,()),((reckonT c op arg v).t,())):=by
 by_cases h:0≤op∧op≤29
 ·unfold r248 m248
  rcases ops_cases h with rfl|rfl|rfl|rfl|rfl|rfl|rfl|rfl|rfl|rfl|rfl|rfl|rfl|rfl|rfl|rfl|rfl|rfl|rfl|rfl|rfl|rfl|rfl|rfl|rfl|rfl|rfl|rfl|rfl|rfl<;>simp only[eqI_d,Int.reduceEq,decide_true,decide_false,cond_true,cond_false]
  ·rfl
  ·exact bind_step (implSetA_ok c arg) rfl
  ·exact bind_step (implSetA_ok c v) rfl
  ·rfl
  ·exact bind_step (implAdd8_ok (c.a,(arg,(c.c,())))) (bind_step (implSetA_ok c (addS c.a arg c.c%256)) rfl)
  ·exact bind_step (implSub8_ok (c.a,(arg,(c.c,())))) (bind_step (implSetA_ok c (subS c.a arg c.c%256)) rfl)
  ·exact bind_step (implSetA_ok c (bAnd .i64 c.a arg)) rfl
  ·exact bind_step (implSetA_ok c (bOr .i64 c.a arg)) rfl
  ·exact bind_step (implSetA_ok c (bXor .i64 c.a arg)) rfl
  ·rw[show reckonT c 9 arg v=cpiT c arg from rfl,cpiT_eq]
   exact bind_step (implSub8_ok (c.a,(arg,(true,())))) (bind_step (implSigns_ok (subS c.a arg true%256,())) rfl)
  ·rfl
  ·rfl
  ·rfl
  ·rfl
  ·exact bind_step (implSetA_ok c v) rfl
  ·rfl
  ·rfl
  ·rfl
  ·rfl
  ·rfl
  ·rfl
  ·rfl
  ·rfl
  ·rfl
  ·rfl
  ·rfl
  ·rfl
  ·rfl
  ·rfl
  ·exact bind_step (implAdd8_ok (c.a,(v,(c.c,())))) (bind_step (implSetA_ok c (addS c.a v c.c%256)) rfl)
 ·have e:=eqI_out h
  unfold r248 m248
  rw[isReckon_out h,reckonT_out (isReckon_out h)]
  simp[e]
theorem turn_ok (c:CpuM) (op arg:Int) (hc:CpuP c):r249 (c.t,((op,(arg,())),()))=some ((isTurn op,()),((turnT c op).t,())):=by
 have hx:=hc.x
 by_cases h:0≤op∧op≤29
 ·unfold r249 m249
  rcases ops_cases h with rfl|rfl|rfl|rfl|rfl|rfl|rfl|rfl|rfl|rfl|rfl|rfl|rfl|rfl|rfl|rfl|rfl|rfl|rfl|rfl|rfl|rfl|rfl|rfl|rfl|rfl|rfl|rfl|rfl|rfl<;>simp only[eqI_d,Int.reduceEq,decide_true,decide_false,cond_true,cond_false]
  ·rfl
  ·rfl
  ·rfl
  ·rfl
  ·rfl
  ·rfl
  ·rfl
  ·rfl
  ·rfl
  ·rfl
  ·exact bind_step (implSetX_ok c c.a) rfl
  ·exact bind_step (implSetA_ok c c.x) rfl
  ·have e:wI (c.x+1)=c.x+1:=wI_id (by omega) (by omega)
   have k:=implSetX_ok c (c.x+1)
   rw[←e]at k
   refine bind_step k ?_
   rw[e];rfl
  ·have e:wI (c.x-1)=c.x-1:=wI_id (by omega) (by omega)
   have k:=implSetX_ok c (c.x-1)
   rw[←e]at k
   refine bind_step k ?_
   rw[e];rfl
  ·rfl
  ·rfl
  ·rfl
  ·rfl
  ·rfl
  ·rfl
  ·rfl
  ·rfl
  ·rfl
  ·rfl
  ·rfl
  ·rfl
  ·rfl
  ·rfl
  ·rfl
  ·rfl
 ·have e:=eqI_out h
  unfold r249 m249
  rw[isTurn_out h,turnT_out (isTurn_out h)]
  simp[e]
theorem back_ok (x:MemM) (c:CpuM) (h:RamP x) (hc:CpuP c):r273 (x.t,(c.t,()))=some ((),(x.t,((backC x c).t,()))):=by
 unfold r273 m273
 exact bind_step (implPull_ok x c h hc) (bind_step (implPull_ok x (pullC c) h (pullC_P hc)) (bind_step (implJoin_ok (pullV x c,(pullV x (pullC c),()))) rfl))
theorem pushPc_ok (x:MemM) (c:CpuM) (h:RamP x) (hc:CpuP c):r244 (x.t,(c.t,()))=some ((),((pushPcM x c).t,((pushPcC c).t,()))):=by
 unfold r244 m244
 refine bind_step (implPush_ok x c (shr8 c.pc) h hc) (bind_step (implPush_ok (pushM x c (shr8 c.pc)) (pushC c) c.pc (pushM_P h _ _) (pushC_P hc)) rfl)
theorem flow_ok (x:MemM) (c:CpuM) (op arg:Int) (h:RamP x) (hc:CpuP c):r250 (x.t,(c.t,((op,(arg,())),())))=some ((),((flowM x c op).t,((flowC x c op arg).t,()))):=by
 unfold r250 m250
 refine bind_step (implAddr_ok (arg,())) ?_
 by_cases ho:0≤op∧op≤29
 ·rcases ops_cases ho with rfl|rfl|rfl|rfl|rfl|rfl|rfl|rfl|rfl|rfl|rfl|rfl|rfl|rfl|rfl|rfl|rfl|rfl|rfl|rfl|rfl|rfl|rfl|rfl|rfl|rfl|rfl|rfl|rfl|rfl<;>simp only[eqI_d,Int.reduceEq,decide_true,decide_false,cond_true,cond_false]
  ·rfl
  ·rfl
  ·rfl
  ·rfl
  ·rfl
  ·rfl
  ·rfl
  ·rfl
  ·rfl
  ·rfl
  ·rfl
  ·rfl
  ·rfl
  ·rfl
  ·rfl
  ·rfl
  ·obtain ⟨a,x',s,pc,z,n,cc,i⟩:=c
   cases z<;>rfl
  ·obtain ⟨a,x',s,pc,z,n,cc,i⟩:=c
   cases z<;>rfl
  ·obtain ⟨a,x',s,pc,z,n,cc,i⟩:=c
   cases cc<;>rfl
  ·rfl
  ·exact bind_step (pushPc_ok x c h hc) rfl
  ·exact bind_step (back_ok x c h hc) rfl
  ·exact bind_step (implPush_ok x c c.a h hc) rfl
  ·exact bind_step (implPull_ok x c h hc) (bind_step (implSetA_ok (pullC c) (pullV x c)) rfl)
  ·exact bind_step (implPull_ok x c h hc) (bind_step (implWithFlags_ok (pullC c) (pullV x c)) (bind_step (back_ok x (wfT (pullC c) (pullV x c)) h (wfT_P (pullC_P hc))) rfl))
  ·rfl
  ·rfl
  ·rfl
  ·rfl
  ·rfl
 ·have e:=eqI_out ho
  have e1:flowM x c op=x:=by
   unfold flowM
   rw[if_neg (by omega),if_neg (by omega)]
  have e2:flowC x c op arg=c:=by
   unfold flowC
   rw[if_neg (by omega),if_neg (by omega),if_neg (by omega),if_neg (by omega),if_neg (by omega),if_neg (by omega),if_neg (by omega),if_neg (by omega),if_neg (by omega)]
  rw[e1,e2]
  simp[e]
theorem hpc_eq {c:CpuM} (hc:CpuP c) (op:Int):wI (c.pc+opLenN op)=c.pc+opLenN op:=by
 have:=opLenN_b op
 have:=hc.pc
 exact wI_id (by omega) (by omega)
theorem flowM_not {op:Int} (h:(isReckon op||isTurn op)=true) (x:MemM) (c:CpuM):flowM x c op=x:=by
 have h:(op=1∨op=2∨op=14∨op=4∨op=29∨op=5∨op=6∨op=7∨op=8∨op=9)∨(op=10∨op=11∨op=12∨op=13∨op=25∨op=26∨op=27∨op=28):=by
  rw[Bool.or_eq_true]at h
  exact h.imp of_decide_eq_true of_decide_eq_true
 unfold flowM
 rw[if_neg (by omega),if_neg (by omega)]
theorem exec_ok (x:MemM) (c:CpuM) (op arg v:Int) (h:RamP x) (hc:CpuP c) (hv:0≤v∧v≤255):r212 (x.t,(c.t,((op,(arg,())),(v,()))))=some ((),((execM x c op).t,((execC x c op arg v).t,()))):=by
 unfold r212 m212
 have hp:=stepPc_P (op:=op) hc
 have ev:v%256=v:=by omega
 have k1:r109 (wI (c.pc+opLenN op),())=some (((c.pc+opLenN op)%65536,()),()):=by
  rw[implAddr_ok (wI (c.pc+opLenN op),()),hpc_eq hc]
 have k2:r225 (v,())=some ((v,()),()):=by
  rw[implByte_ok (v,())]
  show some ((v%256,()),())=_
  rw[ev]
 refine bind_step (implOpLen_ok (op,())) (bind_step k1 (bind_step k2 (bind_step (reckon_ok (stepPc c op) op arg v) ?_)))
 unfold execM execC
 cases hr:isReckon op with
 |true=>
  rw[flowM_not (by rw[hr];rfl)]
  rfl
 |false=>
  rw[reckonT_out hr]
  refine bind_step (turn_ok (stepPc c op) op arg hp) ?_
  cases ht:isTurn op with
  |true=>
   rw[flowM_not (by rw[ht,Bool.or_true])]
   rfl
  |false=>
   rw[turnT_out ht]
   exact bind_step (flow_ok x (stepPc c op) op arg h hp) rfl
theorem enter_ok (x:MemM) (c:CpuM) (to:Int) (h:RamP x) (hc:CpuP c):r210 (x.t,(c.t,(to,())))=some ((),((enterM x c).t,((enterC c to).t,()))):=by
 unfold r210 m210
 exact bind_step (pushPc_ok x c h hc) (bind_step (implFlags_ok (pushPcC c)) (bind_step (implPush_ok (pushPcM x c) (pushPcC c) (flagsT (pushPcC c)) (pushPcM_P h) (pushPcC_P hc)) rfl))
theorem peek_1 {f:List (List Int)} {x:MemM} {pc:Int} (h:MemP f x) (hp:0≤pc∧pc≤65535) (k:Int) (hk:k=1∨k=2):r175 ((f,()),(x.t,(wI (pc+k),())))=some ((peekT f x (pc+k),()),()):=by
 rw[wI_id (by omega) (by omega)]
 exact implPeek1_ok f x (pc+k) h
theorem fetch_ok (f:List (List Int)) (x:MemM) (pc:Int) (h:MemP f x) (hp:0≤pc∧pc≤65535):r149 ((f,()),(x.t,(pc,())))=some (((opT f x pc,(argT f x pc,())),()),()):=by
 unfold r149 m149
 refine bind_step (implPeek1_ok f x pc h) (bind_step (implOpLen_ok (peekT f x pc,())) ?_)
 show (bif eqI (opLenN (peekT f x pc)) 2 then _ else bif eqI (opLenN (peekT f x pc)) 3 then _ else _)=_
 unfold argT opT
 by_cases c2:opLenN (peekT f x pc)=2
 ·rw[eqI_t c2,if_pos c2]
  exact bind_step (peek_1 h hp 1 (.inl rfl)) rfl
 rw[eqI_f c2,if_neg c2,cond_false]
 by_cases c3:opLenN (peekT f x pc)=3
 ·rw[eqI_t c3,if_pos c3]
  exact bind_step (peek_1 h hp 1 (.inl rfl)) (bind_step (peek_1 h hp 2 (.inr rfl)) (bind_step (implJoin_ok (peekT f x (pc+1),(peekT f x (pc+2),()))) rfl))
 ·rw[eqI_f c3,if_neg c3];rfl
theorem opAcc_cases (op:Int):opAccN op=0∨opAccN op=1∨opAccN op=2:=by
 unfold opAccN
 split
 ·exact .inr (.inl rfl)
 split
 ·exact .inr (.inr rfl)
 ·exact .inl rfl
theorem implAccess_ok (op arg:Int) (c:CpuM) (hc:CpuP c) (ha:0≤arg∧arg≤65535):r211 ((op,(arg,())),(c.t,()))=some ((opAccN op,(accA op arg c.x,(accV op c.a,()))),()):=by
 have hx:=hc.x
 have e:wI (arg+c.x)=arg+c.x:=wI_id (by omega) (by omega)
 have k:r109 (wI (arg+c.x),())=some (((arg+c.x)%65536,()),()):=by rw[implAddr_ok (wI (arg+c.x),()),e]
 unfold r211 m211
 refine bind_step (implOpAccess_ok (op,())) (bind_step (implAddr_ok (arg,())) ?_)
 show (bif eqI op 14 then _ else bif eqI op 15 then _ else bif eqI (opAccN op) 1 then _ else bif eqI (opAccN op) 2 then _ else _)=_
 unfold accA accV
 by_cases c1:op=14
 ·subst c1
  rw[eqI_t rfl,cond_true]
  exact bind_step k rfl
 by_cases c2:op=15
 ·subst c2
  rw[eqI_f (show (15:Int)≠14 by decide),eqI_t rfl,cond_true,cond_false]
  refine bind_step k ?_
  simp only[show opAccN 15=2 from rfl,eqI_d,Int.reduceEq,decide_true,decide_false,cond_true,cond_false]
  exact bind_step (implByte_ok (c.a,())) rfl
 rw[eqI_f c1,eqI_f c2,cond_false,cond_false,if_neg (c:=op=14∨op=15) (by omega)]
 rcases opAcc_cases op with o|o|o<;>rw[o]<;>simp only[eqI_d,Int.reduceEq,decide_true,decide_false,cond_true,cond_false]
 ·rfl
 ·rfl
 ·exact bind_step (implByte_ok (c.a,())) rfl
theorem mxI_0 {t:Int} (h:0≤t):mxI t 0=t:=by unfold mxI;rw[if_neg (by omega)]
theorem implFrameOf_ok (t:Int) (ht:0≤t∧t≤20000):r255 (t,())=some ((t/64,()),()):=by
 unfold r255 m255
 show some ((wI (Int.tdiv (mxI t 0) 64),()),())=_
 rw[mxI_0 ht.1,tdiv_nn ht.1,wI_id (by omega) (by omega)]
theorem implPadAt_ok (l:List Int) (t:Int) (h:PadsP l) (ht:0≤t∧t≤20000):r222 (l,(t,()))=some ((padAt l t,()),()):=by
 have hl:=h.len
 unfold r222 m222 padAt
 refine bind_step (by rw[implPadsOk_ok l (by omega),padsOk_iff.2 h]) ?_
 show (bif eqI (l.length:Int) 0 then _ else _)=_
 by_cases h0:l.length=0
 ·rw[eqI_t (by omega),if_pos h0];rfl
 rw[eqI_f (by omega),if_neg h0,cond_false]
 refine bind_step (implFrameOf_ok t ht) ?_
 have hm:Int.tmod (t/64) (l.length:Int)=(t/64)% (l.length:Int):=tmod_nn (by omega)
 have b0:=Int.emod_nonneg (t/64) (show (l.length:Int)≠0 by omega)
 have b1:=Int.emod_lt_of_pos (t/64) (show 0< (l.length:Int) by omega)
 show (bif neI (l.length:Int) 0 then (bif leI 0 (Int.tmod (t/64) (l.length:Int))then (bif ltI (Int.tmod (t/64) (l.length:Int)) (l.length:Int)then some ((rdE .i l (Int.tmod (t/64) (l.length:Int)),()),())else none)else none)else none)=_
 rw[neI_t (by omega),hm,leI_t b0,ltI_t b1]
 rfl
theorem implPadWrite_ok (x:PadM) (l:List Int) (t v:Int) (h:PadsP l) (ht:0≤t∧t≤20000):r186 (x.t,(l,(t,(v,()))))=some (((writeD x l t v).t,()),()):=by
 unfold r186 m186 writeD
 show (bif eqI (bAnd .i64 v 1) 1 then (r222 (l,(t,()))).bind (fun r0=>some (((eqI (bAnd .i64 v 1) 1,r0.1),()),()))else bif x.held then (r222 (l,(t,()))).bind (fun r0=>some (((eqI (bAnd .i64 v 1) 1,r0.1),()),()))else some (((eqI (bAnd .i64 v 1) 1,(x.shift,())),()),()))=_
 rw[bAnd_1,implPadAt_ok l t h ht]
 cases eqI (v%2) 1<;>cases x.held<;>rfl
theorem fdiv_2 (x:Int):Int.fdiv x ((2:Int)^(Min.min (Int.toNat (1:Int)) (64:Nat)))=x/2:=Int.fdiv_eq_ediv_of_nonneg x (by decide)
theorem implPadRead_ok (x:PadM) (l:List Int) (t:Int) (h:PadsP l) (ht:0≤t∧t≤20000):r174 (x.t,(l,(t,())))=some (((readD x l t).t,(readDV x l t,())),()):=by
 unfold r174 m174 readD readDV
 show (bif x.held then (r222 (l,(t,()))).bind (fun r0=>some (((true,r0.1),(bAnd .i64 r0.1.1 1,())),()))else some (((false,(Int.fdiv x.shift ((2:Int)^(Min.min (Int.toNat (1:Int)) (64:Nat))),())),(bAnd .i64 x.shift 1,())),()))=_
 rw[implPadAt_ok l t h ht,fdiv_2,bAnd_1]
 cases x.held
 ·rfl
 ·show some (((true,(padAt l t,())),(bAnd .i64 (padAt l t) 1,())),())=_
  rw[bAnd_1];rfl
theorem timeOf_ok (t:Int) (ht:0≤t∧t≤20000):r254 (t,())=some ((t,()),()):=by
 unfold r254 m254
 show some ((mnI (mxI t 0) 20000,()),())=_
 rw[mxI_0 ht.1]
 unfold mnI
 rw[if_neg (by omega)]
theorem cyclesAhead_ok (t rest by':Int) (ht:0≤t∧t≤20000) (hr:0≤rest∧rest<by') (hb:by'=32∨by'=64):r193 (t,(rest,(by',())))=some (((t+(by'-1-rest))/by',()),()):=by
 unfold r193 m193
 show (bif neI by' 0 then some ((wI (Int.tdiv (wI (wI (wI (t+by')-1)-rest)) by'),()),())else none)=_
 rw[neI_t (by omega),wI_id (x:=t+by') (by omega) (by omega),wI_id (x:=t+by'-1) (by omega) (by omega),wI_id (x:=t+by'-1-rest) (by omega) (by omega),tdiv_nn (by omega),show t+by'-1-rest=t+(by'-1-rest) by omega]
 rcases hb with rfl|rfl
 ·rw[wI_id (by omega) (by omega)];rfl
 ·rw[wI_id (by omega) (by omega)];rfl
theorem implBeatIn_ok (a b:Int) (ha:0≤a∧a≤20000) (hb:0≤b∧b≤20000):r217 (a,(b,()))=some ((beatN a b,()),()):=by
 unfold r217 m217 r220 m220
 exact bind_step (bind_step (timeOf_ok a ha) (bind_step (cyclesAhead_ok a 0 32 ha (by decide) (.inl rfl)) (bind_step (timeOf_ok b hb) (bind_step (cyclesAhead_ok b 0 32 hb (by decide) (.inl rfl)) rfl)))) rfl
theorem implBlankIn_ok (a b:Int) (ha:0≤a∧a≤20000) (hb:0≤b∧b≤20000):r171 (a,(b,()))=some ((blankN a b,()),()):=by
 unfold r171 m171 r220 m220
 exact bind_step (bind_step (timeOf_ok a ha) (bind_step (cyclesAhead_ok a 48 64 ha (by decide) (.inr rfl)) (bind_step (timeOf_ok b hb) (bind_step (cyclesAhead_ok b 48 64 hb (by decide) (.inr rfl)) rfl)))) rfl
theorem due_len {l:List Rc} {t:Int} (h:due l t=true):0<l.length:=by
 obtain ⟨e,_⟩:=due_cons h
 rw[e];simp
theorem next_due (cap t:Int) (l:List Rc) (h:due l t=true):r202 ((cap,(l,())),(t,()))=some ((((headR l).1,((headR l).2.1,((headR l).2.2,()))),(true,())),((cap,(l.tail,())),())):=by
 obtain ⟨e,e1⟩:=due_cons h
 have hl:=due_len h
 unfold r202 m202
 have hd:rdE .t l (0:Int)=headR l:=by rw[e];rfl
 have ht:List.drop (Int.toNat (1:Int)) l=l.tail:=by rw[e];rfl
 show (bif eqI (l.length:Int) 0 then _ else bif ltI 0 (l.length:Int)then (bif neI (rdE .t l (0:Int)).1 t then _ else bif ltI 0 (l.length:Int)then (bif leI 1 (l.length:Int)then some ((((rdE .t l (0:Int)).1,((rdE .t l (0:Int)).2.1,((rdE .t l (0:Int)).2.2,()))),(true,())),((cap,(List.drop (Int.toNat (1:Int)) l,())),()))else none)else none)else none)=_
 rw[eqI_f (by omega),ltI_t (by omega),leI_t (by omega),hd,ht,neI_f e1]
 rfl
theorem next_not (cap t:Int) (l:List Rc) (h:due l t=false):r202 ((cap,(l,())),(t,()))=some ((((0:Int),((0:Int),((0:Int),()))),(false,())),((cap,(l,())),())):=by
 unfold r202 m202
 cases l with
 |nil=>rfl
 |cons x l=>
  have h:x.1≠t:=by simpa [due] using h
  show (bif eqI ((x::l).length:Int) 0 then _ else bif ltI 0 ((x::l).length:Int)then (bif neI x.1 t then _ else _)else none)=_
  rw[eqI_f (by simp only[List.length_cons];omega),ltI_t (by simp only[List.length_cons];omega),neI_t h]
  rfl
theorem stop_iff {t mark:Int}:leI (mnI mark 20000) t= !decide (t<mark∧t<20000):=by
 unfold mnI
 split
 ·by_cases h:t<mark∧t<20000
  ·rw[leI_f (by omega),decide_eq_true h];rfl
  ·rw[leI_t (by omega),decide_eq_false h];rfl
 ·by_cases h:t<mark∧t<20000
  ·rw[leI_f (by omega),decide_eq_true h];rfl
  ·rw[leI_t (by omega),decide_eq_false h];rfl
theorem frames_small {w:PicM} (h:PicP w):w.frames.length≤1000:=by
 have h1:=h.ppu.t
 have h2:=h.frn
 unfold framesN at h2
 omega
theorem samples_small {w:SndM} (h:SndP w):w.samples.length≤2000:=by
 have h1:=h.apu.t
 have h2:=h.sam
 omega
theorem writeP_dots (p:PpuM) (reg v:Int):(writeP p reg v).dots=p.dots:=by
 unfold writeP
 repeat' split
 all_goals rfl
theorem tickP_table (p:PpuM):(tickP p).table=p.table:=by
 unfold tickP
 repeat' split
 all_goals rfl
theorem readP_rows (p:PpuM) (reg:Int):(readP p reg).table=p.table∧(readP p reg).dots=p.dots:=by
 unfold readP
 repeat' split
 all_goals exact ⟨rfl,rfl⟩
theorem picStep_ok (w:PicM) (mark:Int) (h:PicP w):r134 (w.t,(mark,()))=some (((stepPic w mark).isSome,()),(((stepPic w mark).getD w).t,())):=by
 have hf:=frames_small h
 unfold r134 m134 stepPic
 cases hd:due w.list w.ppu.T with
 |true=>
  rw[if_pos rfl]
  refine bind_step (next_due w.cap w.ppu.T w.list hd) (bind_step (write_ok w.ppu h.ppu (headR w.list).2.1 (headR w.list).2.2) ?_)
  have e:=writeP_dots w.ppu (headR w.list).2.1 (headR w.list).2.2
  generalize writeP w.ppu (headR w.list).2.1 (headR w.list).2.2=q at e⊢
  obtain ⟨T,c,s,ad,pal,bl,tb,ds⟩:=q
  have e:ds=w.ppu.dots:=e
  subst e
  rfl
 |false=>
  rw[if_neg (by simp)]
  refine bind_step (next_not w.cap w.ppu.T w.list hd) ?_
  show (bif leI (mnI mark 20000) w.ppu.T then _ else _)=_
  rw[stop_iff]
  by_cases hm:w.ppu.T<mark∧w.ppu.T<20000
  ·rw[decide_eq_true hm,if_pos hm]
   refine bind_step (tick_ok w.ppu h.ppu hm.2) ?_
   have e:=tickP_table w.ppu
   generalize tickP w.ppu=q at e⊢
   obtain ⟨T,c,s,ad,pal,bl,tb,ds⟩:=q
   have e:tb=w.ppu.table:=e
   subst e
   cases ht:toldP w.ppu with
   |true=>
    show (bif leN (w.frames.length+1) (E.most .n)then _ else none)=_
    rw[leN_t (by simp only[E.most];omega)]
    rfl
   |false=>rfl
  ·rw[decide_eq_false hm,if_neg hm]
   rfl
theorem sndStep_ok (w:SndM) (mark:Int) (h:SndP w):r135 (w.t,(mark,()))=some (((stepSnd w mark).isSome,()),(((stepSnd w mark).getD w).t,())):=by
 have hf:=samples_small h
 unfold r135 m135 stepSnd
 cases hd:due w.list w.apu.T with
 |true=>
  rw[if_pos rfl]
  exact bind_step (next_due w.cap w.apu.T w.list hd) (bind_step (implApuWrite_ok w.apu h.apu (headR w.list).2.1 (headR w.list).2.2) rfl)
 |false=>
  rw[if_neg (by simp)]
  refine bind_step (next_not w.cap w.apu.T w.list hd) ?_
  show (bif leI (mnI mark 20000) w.apu.T then _ else _)=_
  rw[stop_iff]
  by_cases hm:w.apu.T<mark∧w.apu.T<20000
  ·rw[decide_eq_true hm,if_pos hm]
   refine bind_step (apuTick_ok w.apu h.apu hm.2) ?_
   cases ht:toldA w.apu with
   |true=>
    show (bif leN (w.samples.length+1) (E.most .i)then _ else none)=_
    rw[leN_t (by simp only[E.most];omega)]
    rfl
   |false=>rfl
  ·rw[decide_eq_false hm,if_neg hm]
   rfl
theorem picCatch_loop (mark:Int): ∀(k:Nat) (w:PicM),PicP w→leftPic w<k→n145_0 r134 k (mark,()) (w.t,()) ()=some (Sum.inl (),((caughtPic w mark).t,()))
 |0,_,_,h=>absurd h (by omega)
 |k+1,w,h,hk=>by
  show (r134 (w.t,(mark,()))).bind _=_
  refine bind_step (picStep_ok w mark h) ?_
  cases hs:stepPic w mark with
  |none=>rw[caughtPic_none hs];rfl
  |some v=>
   rw[caughtPic_some h hs]
   exact picCatch_loop mark k v (stepPic_P h hs).1 (by have:=leftPic_lt h hs;omega)
theorem sndCatch_loop (mark:Int): ∀(k:Nat) (w:SndM),SndP w→leftSnd w<k→n146_0 r135 k (mark,()) (w.t,()) ()=some (Sum.inl (),((caughtSnd w mark).t,()))
 |0,_,_,h=>absurd h (by omega)
 |k+1,w,h,hk=>by
  show (r135 (w.t,(mark,()))).bind _=_
  refine bind_step (sndStep_ok w mark h) ?_
  cases hs:stepSnd w mark with
  |none=>rw[caughtSnd_none hs];rfl
  |some v=>
   rw[caughtSnd_some h hs]
   exact sndCatch_loop mark k v (stepSnd_P h hs).1 (by have:=leftSnd_lt h hs;omega)
theorem leftPic_fuel {w:PicM} (h:PicP w):leftPic w<fuel:=by
 have:=fuel_big
 have h1:=h.ppu.t
 have h2:=h.ring.len
 have h3:=h.ring.c1
 unfold leftPic
 omega
theorem leftSnd_fuel {w:SndM} (h:SndP w):leftSnd w<fuel:=by
 have:=fuel_big
 have h1:=h.apu.t
 have h2:=h.ring.len
 have h3:=h.ring.c1
 unfold leftSnd
 omega
theorem picCatch_ok (w:PicM) (mark:Int) (h:PicP w):r145 (w.t,(mark,()))=some ((),((caughtPic w mark).t,())):=by
 unfold r145 m145 L145_0
 exact bind_step (picCatch_loop mark fuel w h (leftPic_fuel h)) rfl
theorem sndCatch_ok (w:SndM) (mark:Int) (h:SndP w):r146 (w.t,(mark,()))=some ((),((caughtSnd w mark).t,())):=by
 unfold r146 m146 L146_0
 exact bind_step (sndCatch_loop mark fuel w h (leftSnd_fuel h)) rfl
theorem over_ok (s:SplitM) (n:Int) (ht:0≤s.T∧s.T≤20000) (hn:0≤n∧n≤7):r216 (s.t,(n,()))=some ((overN s n,()),()):=by
 unfold r216 m216 overN
 show (bif ltI 20000 (wI (s.T+n))then _ else _)=_
 rw[wI_id (by omega) (by omega)]
 by_cases h:20000<s.T+n
 ·rw[ltI_t h,if_pos h];rfl
 ·rw[ltI_f h,if_neg h];rfl
theorem known_b {s:SplitM} (h:SplitP s):0≤s.knownAt∧s.knownAt≤20000:=by
 have:=h.known
 have:=h.t
 omega
theorem mustAsk_ok (s:SplitM) (h:SplitP s):r166 (s.t,())=some ((mustM s,()),()):=by
 unfold r166 m166 mustM
 show (bif !s.nmi then (bif !s.cpu.i then (r217 (s.knownAt,(s.T,()))).bind _ else _)else _)=_
 rw[implBeatIn_ok _ _ (known_b h) h.t]
 cases s.nmi<;>cases s.cpu.i<;>rfl
theorem isAsked_ok (s:SplitM) (h:SplitP s):r169 (s.t,())=some ((askM s,()),()):=by
 unfold r169 m169 askM
 refine bind_step (implBeatIn_ok _ _ (known_b h) h.t) ?_
 show (bif beatN s.knownAt s.T then (bif s.snd.apu.irq then some ((!s.cpu.i,()),())else _)else bif s.known then some ((!s.cpu.i,()),())else _)=_
 cases beatN s.knownAt s.T<;>cases s.snd.apu.irq<;>cases s.known<;>rfl
def waitO (s:SplitM):Int:=
 if opAccN (opS s)=1∧(rgT (adrS s)).1=2∧picUpM s=false then 1 else if opAccN (opS s)=1∧(rgT (adrS s)).1=3∧sndUpM s=false then 2
 else if opAccN (opS s)=2∧(rgT (adrS s)).1=2∧s.pic.cap≤(s.pic.list.length:Int)then 3 else if opAccN (opS s)=2∧(rgT (adrS s)).1=3∧s.snd.cap≤(s.snd.list.length:Int)then 4
 else overN s (opCycN (opS s))
theorem waitM_eq (s:SplitM):waitM s=if s.nmi then overN s 7 else if mustM s&& !sndUpM s then 2 else if askM s then overN s 7 else waitO s:=rfl
theorem arg_b {s:SplitM} (h:SplitP s):0≤argS s∧argS s≤65535:=argT_b h.mem _
theorem cyc_b (s:SplitM):0≤opCycN (opS s)∧opCycN (opS s)≤7:=by have:=opCycN_b (opS s);omega
def pick4 {T:Type} (k1 k2 g2 g3 c1 c2:Bool) (P S:(Bool→Option T)→Option T) (a b c d e:Option T):Option T:=
 let t4:=bif k2 then (bif g3 then (bif c2 then d else e)else e)else e
 let t3:=bif k2 then (bif g2 then (bif c1 then c else t4)else t4)else t4
 let t2:=bif k1 then (bif g3 then S (fun u=>bif !u then b else t3)else t3)else t3
 bif k1 then (bif g2 then P (fun u=>bif !u then a else t2)else t2)else t2
theorem implTail (s:SplitM) (h:SplitP s):pick4 (eqI (opAccN (opS s)) 1) (eqI (opAccN (opS s)) 2) (eqI (rgT (adrS s)).1 2) (eqI (rgT (adrS s)).1 3) (leI s.pic.cap (s.pic.list.length:Int)) (leI s.snd.cap (s.snd.list.length:Int))
  (fun f=>(r86 (s.t,())).bind fun r=>f r.1.1) (fun f=>(r87 (s.t,())).bind fun r=>f r.1.1) (some (((1:Int),()),())) (some (((2:Int),()),())) (some (((3:Int),()),())) (some (((4:Int),()),()))
  ((r150 (opS s,())).bind fun r8=>(r216 (s.t,r8.1)).bind fun r9=>some ((r9.1:PTup o216),()))=(some (((waitO s,()),())):Option (PTup o216×Unit)):=by
 have e:((r150 (opS s,())).bind fun r8=>(r216 (s.t,r8.1)).bind fun r9=>some ((r9.1:PTup o216),()))=(some ((overN s (opCycN (opS s)),()),()):Option (PTup o216×Unit)):=
  bind_step (implOpCycles_ok (opS s,())) (bind_step (over_ok s (opCycN (opS s)) h.t (cyc_b s)) rfl)
 rw[e]
 have ep:r86 (s.t,())=some ((picUpM s,()),()):=pictureCaught_ok s.t
 have es:r87 (s.t,())=some ((sndUpM s,()),()):=soundCaught_ok s.t
 unfold waitO pick4
 rw[ep,es]
 have l1:=h.pic.ring.len
 have l2:=h.snd.ring.len
 have q1:(leI s.pic.cap (s.pic.list.length:Int))=decide (s.pic.cap≤(s.pic.list.length:Int)):=by
  by_cases hq:s.pic.cap≤(s.pic.list.length:Int)
  ·rw[decide_eq_true hq];exact leI_t hq
  ·rw[decide_eq_false hq];exact leI_f hq
 have q2:(leI s.snd.cap (s.snd.list.length:Int))=decide (s.snd.cap≤(s.snd.list.length:Int)):=by
  by_cases hq:s.snd.cap≤(s.snd.list.length:Int)
  ·rw[decide_eq_true hq];exact leI_t hq
  ·rw[decide_eq_false hq];exact leI_f hq
 rw[q1,q2]
 generalize (rgT (adrS s)).1=g
 rcases opAcc_cases (opS s)with o|o|o<;>rw[o]
 ·rfl
 ·by_cases g2:g=2
  ·subst g2
   cases picUpM s<;>rfl
  ·by_cases g3:g=3
   ·subst g3
    cases sndUpM s<;>rfl
   ·rw[eqI_f g2,eqI_f g3,if_neg (fun x=>g2 x.2.1),if_neg (fun x=>g3 x.2.1),if_neg (fun x=>g2 x.2.1),if_neg (fun x=>g3 x.2.1)]
    rfl
 ·by_cases g2:g=2
  ·subst g2
   by_cases hq:s.pic.cap≤(s.pic.list.length:Int)
   ·rw[decide_eq_true hq,if_neg (fun x=>absurd x.1 (by decide)),if_neg (fun x=>absurd x.1 (by decide)),if_pos ⟨rfl,rfl,hq⟩];rfl
   ·rw[decide_eq_false hq,if_neg (fun x=>absurd x.1 (by decide)),if_neg (fun x=>absurd x.1 (by decide)),if_neg (fun x=>hq x.2.2),if_neg (fun x=>absurd x.2.1 (by decide))];rfl
  ·by_cases g3:g=3
   ·subst g3
    by_cases hq:s.snd.cap≤(s.snd.list.length:Int)
    ·rw[decide_eq_true hq,if_neg (fun x=>absurd x.1 (by decide)),if_neg (fun x=>absurd x.1 (by decide)),if_neg (fun x=>absurd x.2.1 (by decide)),if_pos ⟨rfl,rfl,hq⟩];rfl
    ·rw[decide_eq_false hq,if_neg (fun x=>absurd x.1 (by decide)),if_neg (fun x=>absurd x.1 (by decide)),if_neg (fun x=>absurd x.2.1 (by decide)),if_neg (fun x=>hq x.2.2)];rfl
   ·rw[eqI_f g2,eqI_f g3,if_neg (fun x=>g2 x.2.1),if_neg (fun x=>g3 x.2.1),if_neg (fun x=>g2 x.2.1),if_neg (fun x=>g3 x.2.1)]
    rfl
theorem wait_ok (s:SplitM) (h:SplitP s):r165 (s.t,())=some ((waitM s,()),()):=by
 unfold r165 m165
 rw[waitM_eq]
 show (bif s.nmi then _ else _)=_
 cases hn:s.nmi with
 |true=>exact bind_step (over_ok s 7 h.t (by decide)) rfl
 |false=>
  rw[cond_false,if_neg (by simp)]
  refine bind_step (mustAsk_ok s h) ?_
  cases hm:mustM s with
  |false=>
   refine bind_step (isAsked_ok s h) ?_
   rw[Bool.false_and,if_neg (by simp)]
   cases ha:askM s with
   |true=>exact bind_step (over_ok s 7 h.t (by decide)) rfl
   |false=>exact bind_step (fetch_ok s.img s.mem s.cpu.pc h.mem h.cpu.pc) (bind_step (implAccess_ok (opS s) (argS s) s.cpu h.cpu (arg_b h)) (bind_step (implRegion_ok (adrS s,())) (implTail s h)))
  |true=>
   refine bind_step (soundCaught_ok s.t) ?_
   show (bif !sndUpM s then _ else _)=_
   rw[Bool.true_and]
   cases hs:sndUpM s with
   |false=>rfl
   |true=>
    refine bind_step (isAsked_ok s h) ?_
    rw[if_neg (by simp)]
    cases ha:askM s with
    |true=>exact bind_step (over_ok s 7 h.t (by decide)) rfl
    |false=>exact bind_step (fetch_ok s.img s.mem s.cpu.pc h.mem h.cpu.pc) (bind_step (implAccess_ok (opS s) (argS s) s.cpu h.cpu (arg_b h)) (bind_step (implRegion_ok (adrS s,())) (implTail s h)))

end Go.Proofs.YtgpifihakjdfeaaGreat.Plain
