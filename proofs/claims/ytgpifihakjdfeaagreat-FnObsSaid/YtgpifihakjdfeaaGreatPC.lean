/- Plain laws of the printed functions: UnitI, ExecI, TimeI. No condition beyond those that each lemma states. -/
import Derived.Test.YtgpifihakjdfeaaGreatPB
set_option linter.unusedVariables false
set_option linter.unusedSimpArgs false
namespace Go.Proofs.YtgpifihakjdfeaaGreat.Plain
open Go Go.Tev
theorem tdiv_nn {a b:Int} (h:0≤a):Int.tdiv a b=a/b:=Int.tdiv_eq_ediv_of_nonneg h
theorem dotI {s at':Int} (ha:0≤at'∧at'≤48) (hs:0≤s∧s≤255):Int.tmod (wI ((wI ((Int.tmod at' 8)+s))+(wI (Int.tdiv at' 8)))) 16=(at'%8+s+at'/8)%16:=by
 rw[tmod_nn ha.1,tdiv_nn ha.1,wI_id (x:=at'%8+s) (by omega) (by omega),wI_id (x:=at'/8) (by omega) (by omega),wI_id (by omega) (by omega),tmod_nn (by omega)]
theorem l8Dot_ok (p:PpuM) (h:PpuP p) (a:Int) (ha:0≤a∧a≤48):r240 (p.t,(a,()))=some ((dotN p a,()),()):=by
 have h1:=h.len
 unfold r240 m240 dotN
 simp only[lenI_def,PpuM.t]
 rw[dotI ha h.scroll,leI_t (by omega),ltI_t (by omega)]
 rfl
theorem dots_len {p:PpuM} (h:PpuP p):p.dots.length≤48:=by
 have h2:=h.dots
 split at h2<;>omega
theorem tickP_1 {p:PpuM} (c:p.T%64<48):tickP p={p with T:=p.T+1,dots:=p.dots++[dotN p (p.T%64)]}∧frameP p=[]∧asksP p=false∧toldP p=false:=by
 unfold tickP frameP asksP toldP
 rw[if_pos c,if_neg (by omega),decide_eq_false (by omega)]
 exact ⟨rfl,rfl,rfl,rfl⟩
theorem tickP_2 {p:PpuM} (c:p.T%64=48):tickP p={p with T:=p.T+1,blank:=true,dots:=[]}∧frameP p=p.dots∧asksP p=ltI 127 p.ctrl∧toldP p=true:=by
 unfold tickP frameP asksP toldP
 rw[if_neg (by omega),if_pos c,if_pos c,decide_eq_true c]
 exact ⟨rfl,rfl,rfl,rfl⟩
theorem tickP_3 {p:PpuM} (c:p.T%64=63):tickP p={p with T:=p.T+1,blank:=false}∧frameP p=[]∧asksP p=false∧toldP p=false:=by
 unfold tickP frameP asksP toldP
 rw[if_neg (by omega),if_neg (by omega),if_pos c,if_neg (by omega),decide_eq_false (by omega)]
 exact ⟨rfl,rfl,rfl,rfl⟩
theorem tickP_4 {p:PpuM} (c: ¬p.T%64<48) (c2:p.T%64≠48) (c3:p.T%64≠63):tickP p={p with T:=p.T+1}∧frameP p=[]∧asksP p=false∧toldP p=false:=by
 unfold tickP frameP asksP toldP
 rw[if_neg c,if_neg c2,if_neg c3,if_neg c2,decide_eq_false c2]
 exact ⟨rfl,rfl,rfl,rfl⟩
theorem l8Tick_ok (p:PpuM) (h:PpuP p) (ht:p.T<20000):r197 (p.t,())=some (((tickP p).t,(frameP p,(asksP p,()))),()):=by
 have h1:=h.t
 have hd:=dots_len h
 unfold r197 m197
 refine bind_step (l8Copy_ok p.t h.s) ?_
 show (bif eqI p.T 20000 then _ else bif ltI (Int.tmod p.T 64) 48 then _ else bif eqI (Int.tmod p.T 64) 48 then _ else bif eqI (Int.tmod p.T 64) 63 then _ else _)=_
 have hm:Int.tmod p.T 64=p.T%64:=tmod_nn h1.1
 have hw:wI (p.T+1)=p.T+1:=wI_id (by omega) (by omega)
 rw[eqI_f (show p.T≠20000 by omega),cond_false,hm]
 by_cases c1:p.T%64<48
 ·obtain ⟨e1,e2,e3,_⟩:=tickP_1 c1
  rw[ltI_t c1,cond_true,e1,e2,e3]
  refine bind_step (l8Dot_ok p h (Int.tmod p.T 64) (by omega)) ?_
  show (bif leN (p.dots.length+1) (E.most .i)then some ((((wI (p.T+1)),_),_),_)else none)=_
  rw[leN_t (by simp only[E.most];omega),hw,hm]
  rfl
 rw[ltI_f c1,cond_false]
 by_cases c2:p.T%64=48
 ·obtain ⟨e1,e2,e3,_⟩:=tickP_2 c2
  rw[eqI_t c2,cond_true,e1,e2,e3]
  show (bif leN (0+p.dots.length) (E.most .i)then some ((((wI (p.T+1)),_),_),_)else none)=_
  rw[leN_t (by simp only[E.most];omega),hw]
  rfl
 rw[eqI_f c2,cond_false]
 by_cases c3:p.T%64=63
 ·obtain ⟨e1,e2,e3,_⟩:=tickP_3 c3
  rw[eqI_t c3,cond_true,e1,e2,e3]
  show some ((((wI (p.T+1)),_),_),_)=_
  rw[hw];rfl
 ·obtain ⟨e1,e2,e3,_⟩:=tickP_4 c1 c2 c3
  rw[eqI_f c3,cond_false,e1,e2,e3]
  show some ((((wI (p.T+1)),_),_),_)=_
  rw[hw];rfl
theorem specPpuWrite_ok (p:PpuM) (h:PpuP p) (reg v:Int):r188 (p.t,(reg,(v,())))=some (((writeP p reg v).t,()),()):=by
 have ha:=h.addr
 have hl:=h.len
 unfold r188 m188 writeP
 refine bind_step (l8Copy_ok p.t h.s) (bind_step (by rw[specPpuOk_ok p.t h.s,ppuOk_iff.2 h]) ?_)
 simp only[Bool.not_true,cond_false,specByte_ok,Option.bind_some,lenI_def,PpuM.t]
 rw[tmod_nn (show 0≤v%256 by omega),tmod_nn (show 0≤v%256 by omega),wI_id (x:=p.addr+1) (by omega) (by omega),tmod_nn (show 0≤p.addr+1 by omega),leI_t ha.1,ltI_t (by omega)]
 by_cases c:reg=0
 ·rw[eqI_t c,if_pos c];rfl
 rw[eqI_f c,if_neg c,cond_false]
 by_cases c:reg=1
 ·rw[eqI_t c,if_pos c];rfl
 rw[eqI_f c,if_neg c,cond_false]
 by_cases c:reg=3
 ·rw[eqI_t c,if_pos c];rfl
 rw[eqI_f c,if_neg c,cond_false]
 by_cases c:reg=4
 ·rw[eqI_t c,if_pos c];rfl
 rw[eqI_f c,if_neg c,cond_false]
 by_cases c:reg=5
 ·rw[eqI_t c,if_pos c];rfl
 rw[eqI_f c,if_neg c,cond_false]
theorem specPpuRead_ok (p:PpuM) (h:PpuP p) (reg:Int):r177 (p.t,(reg,()))=some (((readP p reg).t,(readPV p reg,())),()):=by
 have ha:=h.addr
 have hl:=h.len
 have hf:=flagN_range p.blank
 unfold r177 m177 readP readPV
 refine bind_step (l8Copy_ok p.t h.s) (bind_step (by rw[specPpuOk_ok p.t h.s,ppuOk_iff.2 h]) ?_)
 simp only[Bool.not_true,cond_false,l1Bit_ok,Option.bind_some,lenI_def,PpuM.t]
 rw[wI_id (x:=p.addr+1) (by omega) (by omega),tmod_nn (show 0≤p.addr+1 by omega),leI_t ha.1,ltI_t (by omega),wI_id (x:=128*flagN p.blank) (by omega) (by omega)]
 by_cases c:reg=2
 ·rw[eqI_t c,if_pos c,if_pos c];rfl
 rw[eqI_f c,if_neg c,if_neg c,cond_false]
 by_cases c:reg=4
 ·rw[eqI_t c,if_pos c,if_pos c];rfl
 rw[eqI_f c,if_neg c,if_neg c,cond_false]
theorem l10Tick_ok (a:ApuM) (h:ApuP a) (ht:a.T<20000):r198 (a.t,())=some (((tickA a).t,(sampleA a,(toldA a,()))),()):=by
 obtain ⟨t,p,c,b,l,asks,irq⟩:=a
 have ht:t<20000:=ht
 obtain ⟨h1,h2,h3,h4,h5⟩:=h
 have h1:0≤t∧t≤20000:=h1
 have h3:0≤c∧c≤255:=h3
 have h4:0≤b∧b≤1:=h4
 have h5:0≤l∧l≤31:=h5
 unfold r198 m198 tickA sampleA toldA beatA countA ApuM.t
 simp only
 rw[eqI_f (show t≠20000 by omega),cond_false,tmod_nn h1.1,tmod_nn h1.1,wI_id (x:=t+1) (by omega) (by omega),wI_id (x:=1-b) (by omega) (by omega),wI_id (x:=l-1) (by omega) (by omega),wI_id (x:=c-1) (by omega) (by omega),wI_id (x:=8*(1-b)) (by omega) (by omega),wI_id (x:=8*b) (by omega) (by omega)]
 by_cases c0:c=0
 ·rw[eqI_t c0,if_pos c0]
  by_cases l0:0<l
  ·rw[ltI_t l0,if_pos l0]
   by_cases t32:t%32=0
   ·rw[eqI_t t32,eqI_f (show t%16≠15 by omega)]
    simp only[cond_true,cond_false,t32,l0,true_and,if_true,show¬t%16=15 by omega,false_and,if_false]
    cases irq<;>cases eqI (l-1) 0<;>rfl
   ·rw[eqI_f t32]
    simp only[cond_true,cond_false,t32,false_and,if_false]
    by_cases t16:t%16=15
    ·rw[eqI_t t16]
     simp only[cond_true,t16,true_and,ne_eq,show¬l=0 by omega,not_false_eq_true,if_true]
    ·rw[eqI_f t16]
     simp only[cond_false,t16,false_and,if_false]
  ·rw[ltI_f l0,if_neg l0]
   have l0':l=0:=by omega
   subst l0'
   by_cases t32:t%32=0
   ·rw[eqI_t t32,eqI_f (show t%16≠15 by omega)]
    simp only[cond_true,cond_false,t32,true_and,show¬t%16=15 by omega,false_and,if_false,Int.lt_irrefl]
   ·rw[eqI_f t32]
    by_cases t16:t%16=15
    ·rw[eqI_t t16]
     simp only[cond_true,cond_false,t32,t16,true_and,ne_eq,not_true_eq_false,false_and,and_false,if_false]
    ·rw[eqI_f t16]
     simp only[cond_true,cond_false,t32,t16,false_and,if_false]
 ·rw[eqI_f c0,if_neg c0]
  by_cases l0:0<l
  ·rw[ltI_t l0]
   by_cases t32:t%32=0
   ·rw[eqI_t t32,eqI_f (show t%16≠15 by omega)]
    simp only[cond_true,cond_false,t32,l0,true_and,if_true,show¬t%16=15 by omega,false_and,if_false]
    cases irq<;>cases eqI (l-1) 0<;>rfl
   ·rw[eqI_f t32]
    simp only[cond_true,cond_false,t32,false_and,if_false]
    by_cases t16:t%16=15
    ·rw[eqI_t t16]
     simp only[cond_true,t16,true_and,ne_eq,show¬l=0 by omega,not_false_eq_true,if_true]
    ·rw[eqI_f t16]
     simp only[cond_false,t16,false_and,if_false]
  ·rw[ltI_f l0]
   have l0':l=0:=by omega
   subst l0'
   by_cases t32:t%32=0
   ·rw[eqI_t t32,eqI_f (show t%16≠15 by omega)]
    simp only[cond_true,cond_false,t32,true_and,show¬t%16=15 by omega,false_and,if_false,Int.lt_irrefl]
   ·rw[eqI_f t32]
    by_cases t16:t%16=15
    ·rw[eqI_t t16]
     simp only[cond_true,cond_false,t32,t16,true_and,ne_eq,not_true_eq_false,false_and,and_false,if_false]
    ·rw[eqI_f t16]
     simp only[cond_true,cond_false,t32,t16,false_and,if_false]
theorem specApuWrite_ok (a:ApuM) (h:ApuP a) (reg v:Int):r189 (a.t,(reg,(v,())))=some (((writeA a reg v).t,()),()):=by
 unfold r189 m189 writeA
 refine bind_step (by rw[specApuOk_ok a.t,apuOk_iff.2 h]) ?_
 simp only[Bool.not_true,cond_false,specByte_ok,Option.bind_some,ApuM.t]
 rw[tmod_nn (show 0≤v%256 by omega),tmod_nn (show 0≤v%256 by omega)]
 by_cases c:reg=0
 ·rw[eqI_t c,if_pos c];rfl
 rw[eqI_f c,if_neg c,cond_false]
 by_cases c:reg=1
 ·rw[eqI_t c,if_pos c];rfl
 rw[eqI_f c,if_neg c,cond_false]
 by_cases c:reg=2
 ·rw[eqI_t c,if_pos c]
  cases a.irq<;>rfl
 rw[eqI_f c,if_neg c,cond_false]
 by_cases c:reg=3
 ·rw[eqI_t c,if_pos c];rfl
 rw[eqI_f c,if_neg c,cond_false]
theorem specApuRead_ok (a:ApuM) (h:ApuP a) (reg:Int):r178 (a.t,(reg,()))=some (((readA a reg).t,(readAV a reg,())),()):=by
 unfold r178 m178 readA readAV
 refine bind_step (by rw[specApuOk_ok a.t,apuOk_iff.2 h]) ?_
 have f1:=flagN_range a.irq
 have f2:=flagN_range (ltI 0 a.len)
 simp only[Bool.not_true,cond_false,l1Bit_ok,Option.bind_some,ApuM.t]
 rw[wI_id (x:=128*flagN a.irq) (by omega) (by omega),wI_id (x:=128*flagN a.irq+flagN (ltI 0 a.len)) (by omega) (by omega)]
 by_cases c:reg=2
 ·rw[neI_f c,if_pos c,if_pos c];rfl
 ·rw[neI_t c,if_neg c,if_neg c];rfl
theorem eqI_out {n:Int} (h: ¬(0≤n∧n≤29)): ∀c:Int,0≤c→c≤29→eqI n c=false:=fun c h0 h1=>eqI_f (by omega)
theorem isReckon_out {n:Int} (h: ¬(0≤n∧n≤29)):isReckon n=false:=decide_eq_false (by omega)
theorem isTurn_out {n:Int} (h: ¬(0≤n∧n≤29)):isTurn n=false:=decide_eq_false (by omega)
theorem hpc_eq {c:CpuM} (hc:CpuP c) (op:Int):wI (c.pc+opLenN op)=c.pc+opLenN op:=by
 have:=opLenN_b op
 have:=hc.pc
 exact wI_id (by omega) (by omega)
def isAlu (op:Int):Bool:=decide (op=1∨op=2∨op=14∨op=4∨op=29∨op=5∨op=6∨op=7∨op=8∨op=9∨op=10∨op=11∨op=12∨op=13)
def aluT (c:CpuM) (op arg v:Int):CpuM:=if isReckon op then reckonT c op arg v else if isAlu op then turnT c op else c
theorem setAT_mod {c:CpuM} {u v:Int} (h:u%256=v%256):setAT c u=setAT c v:=by unfold setAT;rw[h]
theorem l7Add_ok (c:CpuM) (v:Int):r276 (c.t,(v,()))=some (((addT c v).t,()),()):=by
 unfold r276 m276
 exact bind_step (specAdd8_ok (c.a,(v,(c.c,())))) (bind_step (specSetA_ok c (addS c.a v c.c%256)) rfl)
theorem l7Alu_6 (c:CpuM) (arg v:Int) (hc:CpuP c):r261 (c.t,(((6:Int),(arg,())),(v,())))=some (((aluT c 6 arg v).t,(isAlu 6,())),()):=by
 have hx:=hc.x
 unfold r261 m261
 dsimp only
 rw[eqI_f (show (6:Int)≠1 by decide),cond_false,eqI_f (show (6:Int)≠2 by decide),cond_false,eqI_f (show (6:Int)≠14 by decide),cond_false,eqI_f (show (6:Int)≠4 by decide),cond_false,eqI_f (show (6:Int)≠29 by decide),cond_false,eqI_f (show (6:Int)≠5 by decide),cond_false,eqI_t (show (6:Int)=6 from rfl),cond_true]
 rw[show aluT c 6 arg v=setAT c (bAnd .i64 c.a arg) by simp[aluT,reckonT,isReckon],show isAlu 6=true from rfl,setAT_mod (bAnd_mask c.a arg).symm]
 exact bind_step (specByte_ok (c.a,())) (bind_step (specByte_ok (arg,())) (bind_step (specSetA_ok c (bAnd .i64 (c.a%256) (arg%256))) rfl))
theorem l7Alu_7 (c:CpuM) (arg v:Int) (hc:CpuP c):r261 (c.t,(((7:Int),(arg,())),(v,())))=some (((aluT c 7 arg v).t,(isAlu 7,())),()):=by
 have hx:=hc.x
 unfold r261 m261
 dsimp only
 rw[eqI_f (show (7:Int)≠1 by decide),cond_false,eqI_f (show (7:Int)≠2 by decide),cond_false,eqI_f (show (7:Int)≠14 by decide),cond_false,eqI_f (show (7:Int)≠4 by decide),cond_false,eqI_f (show (7:Int)≠29 by decide),cond_false,eqI_f (show (7:Int)≠5 by decide),cond_false,eqI_f (show (7:Int)≠6 by decide),cond_false,eqI_t (show (7:Int)=7 from rfl),cond_true]
 rw[show aluT c 7 arg v=setAT c (bOr .i64 c.a arg) by simp[aluT,reckonT,isReckon],show isAlu 7=true from rfl,setAT_mod (bOr_mask c.a arg).symm]
 exact bind_step (specByte_ok (c.a,())) (bind_step (specByte_ok (arg,())) (bind_step (specSetA_ok c (bOr .i64 (c.a%256) (arg%256))) rfl))
theorem l7Alu_8 (c:CpuM) (arg v:Int) (hc:CpuP c):r261 (c.t,(((8:Int),(arg,())),(v,())))=some (((aluT c 8 arg v).t,(isAlu 8,())),()):=by
 have hx:=hc.x
 unfold r261 m261
 dsimp only
 rw[eqI_f (show (8:Int)≠1 by decide),cond_false,eqI_f (show (8:Int)≠2 by decide),cond_false,eqI_f (show (8:Int)≠14 by decide),cond_false,eqI_f (show (8:Int)≠4 by decide),cond_false,eqI_f (show (8:Int)≠29 by decide),cond_false,eqI_f (show (8:Int)≠5 by decide),cond_false,eqI_f (show (8:Int)≠6 by decide),cond_false,eqI_f (show (8:Int)≠7 by decide),cond_false,eqI_t (show (8:Int)=8 from rfl),cond_true]
 rw[show aluT c 8 arg v=setAT c (bXor .i64 c.a arg) by simp[aluT,reckonT,isReckon],show isAlu 8=true from rfl,setAT_mod (bXor_mask c.a arg).symm]
 exact bind_step (specByte_ok (c.a,())) (bind_step (specByte_ok (arg,())) (bind_step (specSetA_ok c (bXor .i64 (c.a%256) (arg%256))) rfl))
theorem l7Alu_9 (c:CpuM) (arg v:Int) (hc:CpuP c):r261 (c.t,(((9:Int),(arg,())),(v,())))=some (((aluT c 9 arg v).t,(isAlu 9,())),()):=by
 have hx:=hc.x
 unfold r261 m261
 dsimp only
 rw[eqI_f (show (9:Int)≠1 by decide),cond_false,eqI_f (show (9:Int)≠2 by decide),cond_false,eqI_f (show (9:Int)≠14 by decide),cond_false,eqI_f (show (9:Int)≠4 by decide),cond_false,eqI_f (show (9:Int)≠29 by decide),cond_false,eqI_f (show (9:Int)≠5 by decide),cond_false,eqI_f (show (9:Int)≠6 by decide),cond_false,eqI_f (show (9:Int)≠7 by decide),cond_false,eqI_f (show (9:Int)≠8 by decide),cond_false,eqI_t (show (9:Int)=9 from rfl),cond_true]
 have e:wI (c.a%256-arg%256)=c.a%256-arg%256:=wI_id (by omega) (by omega)
 have k:r278 (wI (c.a%256-arg%256),())=some ((eqI ((c.a%256-arg%256)%256) 0,(ltI 127 ((c.a%256-arg%256)%256),())),()):=by rw[e];exact specSigns_ok (c.a%256-arg%256,())
 rw[show aluT c 9 arg v=cpiT c arg by simp[aluT,reckonT,isReckon],show isAlu 9=true from rfl]
 exact bind_step (specByte_ok (c.a,())) (bind_step (specByte_ok (arg,())) (bind_step k (bind_step (specByte_ok (c.a,())) (bind_step (specByte_ok (arg,())) rfl))))
theorem l7Alu_12 (c:CpuM) (arg v:Int) (hc:CpuP c):r261 (c.t,(((12:Int),(arg,())),(v,())))=some (((aluT c 12 arg v).t,(isAlu 12,())),()):=by
 have hx:=hc.x
 unfold r261 m261
 simp only[eqI_d,Int.reduceEq,decide_true,decide_false,cond_true,cond_false]
 have e:wI (c.x%256+1)=c.x+1:=by rw[wI_id (by omega) (by omega)];omega
 have k:r279 (c.t,(wI (c.x%256+1),()))=some (((setXT c (c.x+1)).t,()),()):=by rw[e];exact specSetX_ok c (c.x+1)
 rw[show aluT c 12 arg v=setXT c (c.x+1)from rfl,show isAlu 12=true from rfl]
 exact bind_step (specByte_ok (c.x,())) (bind_step k rfl)
theorem l7Alu_13 (c:CpuM) (arg v:Int) (hc:CpuP c):r261 (c.t,(((13:Int),(arg,())),(v,())))=some (((aluT c 13 arg v).t,(isAlu 13,())),()):=by
 have hx:=hc.x
 unfold r261 m261
 simp only[eqI_d,Int.reduceEq,decide_true,decide_false,cond_true,cond_false]
 have e:wI (c.x%256-1)=c.x-1:=by rw[wI_id (by omega) (by omega)];omega
 have k:r279 (c.t,(wI (c.x%256-1),()))=some (((setXT c (c.x-1)).t,()),()):=by rw[e];exact specSetX_ok c (c.x-1)
 rw[show aluT c 13 arg v=setXT c (c.x-1)from rfl,show isAlu 13=true from rfl]
 exact bind_step (specByte_ok (c.x,())) (bind_step k rfl)
theorem l7Alu_ok (c:CpuM) (op arg v:Int) (hc:CpuP c):r261 (c.t,((op,(arg,())),(v,())))=some (((aluT c op arg v).t,(isAlu op,())),()):=by
 by_cases h:0≤op∧op≤29
 ·rcases ops_cases h with rfl|rfl|rfl|rfl|rfl|rfl|rfl|rfl|rfl|rfl|rfl|rfl|rfl|rfl|rfl|rfl|rfl|rfl|rfl|rfl|rfl|rfl|rfl|rfl|rfl|rfl|rfl|rfl|rfl|rfl
  ·unfold r261 m261
   simp only[eqI_d,Int.reduceEq,decide_true,decide_false,cond_true,cond_false]
   rfl
  ·unfold r261 m261
   simp only[eqI_d,Int.reduceEq,decide_true,decide_false,cond_true,cond_false]
   exact bind_step (specSetA_ok c arg) rfl
  ·unfold r261 m261
   simp only[eqI_d,Int.reduceEq,decide_true,decide_false,cond_true,cond_false]
   exact bind_step (specSetA_ok c v) rfl
  ·unfold r261 m261
   simp only[eqI_d,Int.reduceEq,decide_true,decide_false,cond_true,cond_false]
   rfl
  ·unfold r261 m261
   simp only[eqI_d,Int.reduceEq,decide_true,decide_false,cond_true,cond_false]
   exact bind_step (l7Add_ok c arg) rfl
  ·unfold r261 m261
   simp only[eqI_d,Int.reduceEq,decide_true,decide_false,cond_true,cond_false]
   exact bind_step (specSub8_ok (c.a,(arg,(c.c,())))) (bind_step (specSetA_ok c (subS c.a arg c.c%256)) rfl)
  ·exact l7Alu_6 c arg v hc
  ·exact l7Alu_7 c arg v hc
  ·exact l7Alu_8 c arg v hc
  ·exact l7Alu_9 c arg v hc
  ·unfold r261 m261
   simp only[eqI_d,Int.reduceEq,decide_true,decide_false,cond_true,cond_false]
   exact bind_step (specSetX_ok c c.a) rfl
  ·unfold r261 m261
   simp only[eqI_d,Int.reduceEq,decide_true,decide_false,cond_true,cond_false]
   exact bind_step (specSetA_ok c c.x) rfl
  ·exact l7Alu_12 c arg v hc
  ·exact l7Alu_13 c arg v hc
  ·unfold r261 m261
   simp only[eqI_d,Int.reduceEq,decide_true,decide_false,cond_true,cond_false]
   exact bind_step (specSetA_ok c v) rfl
  ·unfold r261 m261
   simp only[eqI_d,Int.reduceEq,decide_true,decide_false,cond_true,cond_false]
   rfl
  ·unfold r261 m261
   simp only[eqI_d,Int.reduceEq,decide_true,decide_false,cond_true,cond_false]
   rfl
  ·unfold r261 m261
   simp only[eqI_d,Int.reduceEq,decide_true,decide_false,cond_true,cond_false]
   rfl
  ·unfold r261 m261
   simp only[eqI_d,Int.reduceEq,decide_true,decide_false,cond_true,cond_false]
   rfl
  ·unfold r261 m261
   simp only[eqI_d,Int.reduceEq,decide_true,decide_false,cond_true,cond_false]
   rfl
  ·unfold r261 m261
   simp only[eqI_d,Int.reduceEq,decide_true,decide_false,cond_true,cond_false]
   rfl
  ·unfold r261 m261
   simp only[eqI_d,Int.reduceEq,decide_true,decide_false,cond_true,cond_false]
   rfl
  ·unfold r261 m261
   simp only[eqI_d,Int.reduceEq,decide_true,decide_false,cond_true,cond_false]
   rfl
  ·unfold r261 m261
   simp only[eqI_d,Int.reduceEq,decide_true,decide_false,cond_true,cond_false]
   rfl
  ·unfold r261 m261
   simp only[eqI_d,Int.reduceEq,decide_true,decide_false,cond_true,cond_false]
   rfl
  ·unfold r261 m261
   simp only[eqI_d,Int.reduceEq,decide_true,decide_false,cond_true,cond_false]
   rfl
  ·unfold r261 m261
   simp only[eqI_d,Int.reduceEq,decide_true,decide_false,cond_true,cond_false]
   rfl
  ·unfold r261 m261
   simp only[eqI_d,Int.reduceEq,decide_true,decide_false,cond_true,cond_false]
   rfl
  ·unfold r261 m261
   simp only[eqI_d,Int.reduceEq,decide_true,decide_false,cond_true,cond_false]
   rfl
  ·unfold r261 m261
   simp only[eqI_d,Int.reduceEq,decide_true,decide_false,cond_true,cond_false]
   exact bind_step (l7Add_ok c v) rfl
 ·have e:=eqI_out h
  have ea:isAlu op=false:=decide_eq_false (by omega)
  unfold r261 m261 aluT
  rw[isReckon_out h,ea]
  simp[e]
theorem l7Back_ok (x:MemM) (c:CpuM) (h:RamP x) (hc:CpuP c):r262 (x.t,(c.t,()))=some (((backC x c).t,()),()):=by
 unfold r262 m262
 exact bind_step (specPull_ok x c h hc) (bind_step (specPull_ok x (pullC c) h (pullC_P hc)) (bind_step (specJoin_ok (pullV x c,(pullV x (pullC c),()))) rfl))
theorem specExec_ok (x:MemM) (c:CpuM) (op arg v:Int) (h:RamP x) (hc:CpuP c):r238 (x.t,(c.t,((op,(arg,())),(v,()))))=some (((execM x c op).t,((execC x c op arg v).t,())),()):=by
 unfold r238 m238
 have hp:=stepPc_P (op:=op) hc
 have k1:r223 (wI (c.pc+opLenN op),())=some (((c.pc+opLenN op)%65536,()),()):=by
  rw[specAddr_ok (wI (c.pc+opLenN op),()),hpc_eq hc]
 refine bind_step (l6Copy_t x h.len) (bind_step (specOpLen_ok (op,())) (bind_step k1 (bind_step (l7Alu_ok (stepPc c op) op arg v hp) ?_)))
 unfold execM execC
 have hz: ∀{a b:CpuM},a=b→a.z=b.z:=fun h=>by rw[h]
 by_cases ho:0≤op∧op≤29
 ·rcases ops_cases ho with rfl|rfl|rfl|rfl|rfl|rfl|rfl|rfl|rfl|rfl|rfl|rfl|rfl|rfl|rfl|rfl|rfl|rfl|rfl|rfl|rfl|rfl|rfl|rfl|rfl|rfl|rfl|rfl|rfl|rfl<;>simp only[eqI_d,Int.reduceEq,decide_true,decide_false,cond_true,cond_false]
  ·rfl
  ·rfl
  ·rfl
  ·rfl
  ·rfl
  ·rfl
  ·rfl
  ·rfl
  ·rfl
  ·rfl
  ·rfl
  ·rfl
  ·rfl
  ·rfl
  ·rfl
  ·rfl
  ·rw[show isAlu 16=false from rfl,cond_false]
   obtain ⟨a,x',s,pc,z,n,cc,i⟩:=c
   cases z<;>simp only[CpuM.t,Bool.not_false,Bool.not_true,cond_true,cond_false]
   ·exact bind_step (specAddr_ok (arg,())) rfl
   ·rfl
  ·rw[show isAlu 17=false from rfl,cond_false]
   obtain ⟨a,x',s,pc,z,n,cc,i⟩:=c
   cases z<;>simp only[CpuM.t,Bool.not_false,Bool.not_true,cond_true,cond_false]
   ·rfl
   ·exact bind_step (specAddr_ok (arg,())) rfl
  ·rw[show isAlu 18=false from rfl,cond_false]
   obtain ⟨a,x',s,pc,z,n,cc,i⟩:=c
   cases cc<;>simp only[CpuM.t,Bool.not_false,Bool.not_true,cond_true,cond_false]
   ·rfl
   ·exact bind_step (specAddr_ok (arg,())) rfl
  ·rw[show isAlu 19=false from rfl,cond_false]
   exact bind_step (specAddr_ok (arg,())) rfl
  ·rw[show isAlu 20=false from rfl,cond_false]
   exact bind_step (specPush_ok x (stepPc c 20) (shr8 (stepPc c 20).pc) h hp) (bind_step (specPush_ok (pushM x (stepPc c 20) (shr8 (stepPc c 20).pc)) (pushC (stepPc c 20)) (stepPc c 20).pc (pushM_P h _ _) (pushC_P hp)) (bind_step (specAddr_ok (arg,())) rfl))
  ·rw[show isAlu 21=false from rfl,cond_false]
   exact bind_step (l7Back_ok x (stepPc c 21) h hp) rfl
  ·rw[show isAlu 22=false from rfl,cond_false]
   exact bind_step (specPush_ok x (stepPc c 22) (stepPc c 22).a h hp) rfl
  ·rw[show isAlu 23=false from rfl,cond_false]
   exact bind_step (specPull_ok x (stepPc c 23) h hp) (bind_step (specSetA_ok (pullC (stepPc c 23)) (pullV x (stepPc c 23))) rfl)
  ·rw[show isAlu 24=false from rfl,cond_false]
   exact bind_step (specPull_ok x (stepPc c 24) h hp) (bind_step (specWithFlags_ok (pullC (stepPc c 24)) (pullV x (stepPc c 24))) (bind_step (l7Back_ok x (wfT (pullC (stepPc c 24)) (pullV x (stepPc c 24))) h (wfT_P (pullC_P hp))) rfl))
  ·rfl
  ·rfl
  ·rfl
  ·rfl
  ·rfl
 ·have e:=eqI_out ho
  have ea:isAlu op=false:=decide_eq_false (by omega)
  have e1:flowM x (stepPc c op) op=x:=by
   unfold flowM
   rw[if_neg (by omega),if_neg (by omega)]
  have e2:flowC x (stepPc c op) op arg=stepPc c op:=by
   unfold flowC
   rw[if_neg (by omega),if_neg (by omega),if_neg (by omega),if_neg (by omega),if_neg (by omega),if_neg (by omega),if_neg (by omega),if_neg (by omega),if_neg (by omega)]
  rw[e1,e2,isReckon_out ho,isTurn_out ho,ea]
  simp[e]
  rfl
theorem vec_peek {f:List (List Int)} {x y:MemM} {v:Int} (hv:65530≤v∧v≤65535):peekT f x v=peekT f y v:=by
 have e:(rgT v).1=6:=by
  unfold rgT
  simp only
  rw[show v%65536=v by omega,if_neg (by omega),if_neg (by omega),if_neg (by omega),if_neg (by omega),if_neg (by omega),if_neg (by omega)]
 unfold peekT
 rw[e,if_neg (by decide),if_neg (by decide),if_pos rfl,if_neg (by decide),if_neg (by decide)]
theorem vec_same {f:List (List Int)} {x y:MemM} {v:Int} (hv:65530≤v∧v≤65534):vecN f x v=vecN f y v:=by
 unfold vecN
 rw[vec_peek (x:=x) (y:=y) (v:=v) (by omega),vec_peek (x:=x) (y:=y) (v:=v+1) (by omega)]
theorem specEnter_ok (f:List (List Int)) (x:MemM) (c:CpuM) (v:Int) (h:MemP f x) (hc:CpuP c) (hv:65530≤v∧v≤65534):
  r234 ((f,()),(x.t,(c.t,(v,()))))=some (((enterM x c).t,((enterC c (vecN f x v)).t,())),()):=by
 have hm:MemP f (enterM x c):=h.of_ram (enterM_P h.ram) rfl
 have e:wI (v+1)=v+1:=wI_id (by omega) (by omega)
 have k:=specPeek_ok f (enterM x c) (v+1) hm
 rw[←e]at k
 unfold r234 m234
 refine bind_step (l6Copy_t x h.ram.len) (bind_step (specFlags_ok c) (bind_step (specPush_ok x c (shr8 c.pc) h.ram hc) (bind_step (specPush_ok (pushM x c (shr8 c.pc)) (pushC c) c.pc (pushM_P h.ram _ _) (pushC_P hc))
  (bind_step (specPush_ok (pushPcM x c) (pushPcC c) (flagsT c) (pushPcM_P h.ram) (pushPcC_P hc)) (bind_step (specPeek_ok f (enterM x c) v hm) (bind_step k (bind_step (specJoin_ok (peekT f (enterM x c) v,(peekT f (enterM x c) (wI (v+1)),()))) ?_)))))))
 rw[vec_same (x:=x) (y:=enterM x c) hv]
 unfold vecN
 rw[e]
 rfl
theorem peek_2 {f:List (List Int)} {x:MemM} {pc:Int} (h:MemP f x) (hp:0≤pc∧pc≤65535) (k:Int) (hk:k=1∨k=2):r164 ((f,()),(x.t,(wI (pc+k),())))=some ((peekT f x (pc+k),()),()):=by
 rw[wI_id (by omega) (by omega)]
 exact specPeek_ok f x (pc+k) h
theorem specFetch_ok (f:List (List Int)) (x:MemM) (pc:Int) (h:MemP f x) (hp:0≤pc∧pc≤65535):r230 ((f,()),(x.t,(pc,())))=some (((opT f x pc,(argT f x pc,())),()),()):=by
 unfold r230 m230
 refine bind_step (specPeek_ok f x pc h) (bind_step (specOpLen_ok (peekT f x pc,())) ?_)
 show (bif eqI (opLenN (peekT f x pc)) 2 then _ else bif eqI (opLenN (peekT f x pc)) 3 then _ else _)=_
 unfold argT opT
 by_cases c2:opLenN (peekT f x pc)=2
 ·rw[eqI_t c2,if_pos c2]
  exact bind_step (peek_2 h hp 1 (.inl rfl)) rfl
 rw[eqI_f c2,if_neg c2,cond_false]
 by_cases c3:opLenN (peekT f x pc)=3
 ·rw[eqI_t c3,if_pos c3]
  exact bind_step (peek_2 h hp 1 (.inl rfl)) (bind_step (peek_2 h hp 2 (.inr rfl)) (bind_step (specJoin_ok (peekT f x (pc+1),(peekT f x (pc+2),()))) rfl))
 ·rw[eqI_f c3,if_neg c3];rfl
theorem opAcc_cases (op:Int):opAccN op=0∨opAccN op=1∨opAccN op=2:=by
 unfold opAccN
 split
 ·exact .inr (.inl rfl)
 split
 ·exact .inr (.inr rfl)
 ·exact .inl rfl
theorem specAccess_ok (op arg:Int) (c:CpuM) (hc:CpuP c) (ha:0≤arg∧arg≤65535):r231 ((op,(arg,())),(c.t,()))=some ((opAccN op,(accA op arg c.x,(accV op c.a,()))),()):=by
 have hx:=hc.x
 have e:wI (arg+c.x)=arg+c.x:=wI_id (by omega) (by omega)
 have k:r223 (wI (arg+c.x),())=some (((arg+c.x)%65536,()),()):=by rw[specAddr_ok (wI (arg+c.x),()),e]
 unfold r231 m231
 refine bind_step (specOpAccess_ok (op,())) ?_
 show (bif eqI (opAccN op) 0 then _ else bif eqI op 14 then _ else bif eqI op 15 then _ else bif eqI (opAccN op) 1 then _ else _)=_
 unfold accA accV
 by_cases c1:op=14
 ·subst c1
  rw[show opAccN 14=1 from rfl,eqI_f (show (1:Int)≠0 by decide),eqI_t (show (14:Int)=14 from rfl),cond_true,cond_false,eqI_t (show (1:Int)=1 from rfl),cond_true]
  exact bind_step k rfl
 by_cases c2:op=15
 ·subst c2
  rw[show opAccN 15=2 from rfl,eqI_f (show (2:Int)≠0 by decide),eqI_f (show (15:Int)≠14 by decide),eqI_t (show (15:Int)=15 from rfl),cond_true,cond_false,cond_false,eqI_f (show (2:Int)≠1 by decide),cond_false]
  exact bind_step k (bind_step (specByte_ok (c.a,())) rfl)
 rw[eqI_f c1,eqI_f c2,cond_false,cond_false,if_neg (c:=op=14∨op=15) (by omega)]
 rcases opAcc_cases op with o|o|o<;>rw[o]<;>simp only[eqI_d,Int.reduceEq,decide_true,decide_false,cond_true,cond_false]
 ·rfl
 ·exact bind_step (specAddr_ok (arg,())) rfl
 ·exact bind_step (specAddr_ok (arg,())) (bind_step (specByte_ok (c.a,())) rfl)
theorem l1Max_ok (a b:Int):r265 (a,(b,()))=some ((if b<a then a else b,()),()):=by
 unfold r265 m265
 show (bif ltI b a then _ else _)=_
 by_cases h:b<a
 ·rw[ltI_t h,if_pos h];rfl
 ·rw[ltI_f h,if_neg h];rfl
theorem l1Min_ok (a b:Int):r158 (a,(b,()))=some ((if a<b then a else b,()),()):=by
 unfold r158 m158
 show (bif ltI a b then _ else _)=_
 by_cases h:a<b
 ·rw[ltI_t h,if_pos h];rfl
 ·rw[ltI_f h,if_neg h];rfl
theorem l1Max_0 {t:Int} (h:0≤t):r265 (t,((0:Int),()))=some ((t,()),()):=by
 rw[l1Max_ok]
 by_cases h0:0<t
 ·rw[if_pos h0]
 ·rw[if_neg h0,show t=0 by omega]
theorem specFrameOf_ok (t:Int) (ht:0≤t∧t≤20000):r256 (t,())=some ((t/64,()),()):=by
 unfold r256 m256
 refine bind_step (l1Max_0 ht.1) ?_
 show some ((wI (Int.tdiv t 64),()),())=_
 rw[tdiv_nn ht.1,wI_id (by omega) (by omega)]
theorem specPadAt_ok (l:List Int) (t:Int) (h:PadsP l) (ht:0≤t∧t≤20000):r224 (l,(t,()))=some ((padAt l t,()),()):=by
 have hl:=h.len
 unfold r224 m224 padAt
 refine bind_step (by rw[specPadsOk_ok l (by omega),padsOk_iff.2 h]) ?_
 show (bif eqI (l.length:Int) 0 then _ else _)=_
 by_cases h0:l.length=0
 ·rw[eqI_t (by omega),if_pos h0];rfl
 rw[eqI_f (by omega),if_neg h0,cond_false]
 refine bind_step (specFrameOf_ok t ht) ?_
 have hm:Int.tmod (t/64) (l.length:Int)=(t/64)% (l.length:Int):=tmod_nn (by omega)
 have b0:=Int.emod_nonneg (t/64) (show (l.length:Int)≠0 by omega)
 have b1:=Int.emod_lt_of_pos (t/64) (show 0< (l.length:Int) by omega)
 show (bif neI (l.length:Int) 0 then (bif leI 0 (Int.tmod (t/64) (l.length:Int))then (bif ltI (Int.tmod (t/64) (l.length:Int)) (l.length:Int)then some ((rdE .i l (Int.tmod (t/64) (l.length:Int)),()),())else none)else none)else none)=_
 rw[neI_t (by omega),hm,leI_t b0,ltI_t b1]
 rfl
theorem specPadWrite_ok (x:PadM) (l:List Int) (t v:Int) (h:PadsP l) (ht:0≤t∧t≤20000):r190 (x.t,(l,(t,(v,()))))=some (((writeD x l t v).t,()),()):=by
 unfold r190 m190 writeD
 show (bif x.held then (r224 (l,(t,()))).bind (fun r0=>some (((eqI (bAnd .i64 v 1) 1,r0.1),()),()))else bif eqI (bAnd .i64 v 1) 1 then (r224 (l,(t,()))).bind (fun r0=>some (((eqI (bAnd .i64 v 1) 1,r0.1),()),()))else some (((eqI (bAnd .i64 v 1) 1,(x.shift,())),()),()))=_
 rw[bAnd_1,specPadAt_ok l t h ht]
 cases eqI (v%2) 1<;>cases x.held<;>rfl
theorem fdiv_2 (x:Int):Int.fdiv x ((2:Int)^(Min.min (Int.toNat (1:Int)) (64:Nat)))=x/2:=Int.fdiv_eq_ediv_of_nonneg x (by decide)
theorem specPadRead_ok (x:PadM) (l:List Int) (t:Int) (h:PadsP l) (ht:0≤t∧t≤20000):r179 (x.t,(l,(t,())))=some (((readD x l t).t,(readDV x l t,())),()):=by
 unfold r179 m179 readD readDV
 show (bif x.held then (r224 (l,(t,()))).bind (fun r0=>some (((x.held,r0.1),(bAnd .i64 r0.1.1 1,())),()))else some (((x.held,(Int.fdiv x.shift ((2:Int)^(Min.min (Int.toNat (1:Int)) (64:Nat))),())),(bAnd .i64 x.shift 1,())),()))=_
 rw[specPadAt_ok l t h ht,fdiv_2,bAnd_1]
 cases x.held
 ·rfl
 ·show some (((true,(padAt l t,())),(bAnd .i64 (padAt l t) 1,())),())=_
  rw[bAnd_1];rfl

end Go.Proofs.YtgpifihakjdfeaaGreat.Plain
