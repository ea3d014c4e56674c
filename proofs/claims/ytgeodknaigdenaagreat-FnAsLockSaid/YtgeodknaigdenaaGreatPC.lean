/- Plain laws of the printed functions: UnitI, ExecI, TimeI, WaitI. No condition beyond those that each lemma states. -/
import Derived.Test.YtgeodknaigdenaaGreatPB
set_option linter.unusedVariables false
set_option linter.unusedSimpArgs false
namespace Go.Proofs.YtgeodknaigdenaaGreat.Plain
open Go Go.Tev
theorem tdiv_nn {a b:Int} (h:0≤a):Int.tdiv a b=a/b:=Int.tdiv_eq_ediv_of_nonneg h
theorem dotI {s at':Int} (ha:0≤at'∧at'≤48) (hs:0≤s∧s≤255):Int.tmod (wI ((wI ((Int.tmod at' 8)+s))+(wI (Int.tdiv at' 8)))) 16=(at'%8+s+at'/8)%16:=by
 rw[tmod_nn ha.1,tdiv_nn ha.1,wI_id (x:=at'%8+s) (by omega) (by omega),wI_id (x:=at'/8) (by omega) (by omega),wI_id (by omega) (by omega),tmod_nn (by omega)]
theorem l8Dot_ok (p:PpuM) (h:PpuP p) (a:Int) (ha:0≤a∧a≤48):r300 (p.t,(a,()))=some ((dotN p a,()),()):=by
 have h1:=h.len
 unfold r300 m300 dotN
 simp only[lenI_def,PpuM.t]
 rw[dotI ha h.scroll,leI_t (by omega),ltI_t (by omega)]
 rfl
theorem dots_len {p:PpuM} (h:PpuP p):p.dots.length≤48:=by
 have h2:=h.dots
 split at h2<;>omega
theorem tickP_1 {p:PpuM} (c:p.T%64<48):tickP p={p with T:=p.T+1,dots:=p.dots++[dotN p (p.T%64)]}∧frameP p=[]∧asksP p=false∧toldP p=false:=by
 unfold tickP frameP asksP toldP
 rw[if_pos c,if_neg (by omega),decide_eq_false (by omega)]
 exact ⟨rfl,rfl,rfl,rfl⟩
theorem tickP_2 {p:PpuM} (c:p.T%64=48):tickP p={p with T:=p.T+1,blank:=true,dots:=[]}∧frameP p=p.dots∧asksP p=ltI 127 p.ctrl∧toldP p=true:=by
 unfold tickP frameP asksP toldP
 rw[if_neg (by omega),if_pos c,if_pos c,decide_eq_true c]
 exact ⟨rfl,rfl,rfl,rfl⟩
theorem tickP_3 {p:PpuM} (c:p.T%64=63):tickP p={p with T:=p.T+1,blank:=false}∧frameP p=[]∧asksP p=false∧toldP p=false:=by
 unfold tickP frameP asksP toldP
 rw[if_neg (by omega),if_neg (by omega),if_pos c,if_neg (by omega),decide_eq_false (by omega)]
 exact ⟨rfl,rfl,rfl,rfl⟩
theorem tickP_4 {p:PpuM} (c: ¬p.T%64<48) (c2:p.T%64≠48) (c3:p.T%64≠63):tickP p={p with T:=p.T+1}∧frameP p=[]∧asksP p=false∧toldP p=false:=by
 unfold tickP frameP asksP toldP
 rw[if_neg c,if_neg c2,if_neg c3,if_neg c2,decide_eq_false c2]
 exact ⟨rfl,rfl,rfl,rfl⟩
theorem l8Tick_ok (p:PpuM) (h:PpuP p) (ht:p.T<20000):r242 (p.t,())=some (((tickP p).t,(frameP p,(asksP p,()))),()):=by
 have h1:=h.t
 have hd:=dots_len h
 unfold r242 m242
 refine bind_step (l8Copy_ok p.t h.s) ?_
 show (bif eqI p.T 20000 then _ else bif ltI (Int.tmod p.T 64) 48 then _ else bif eqI (Int.tmod p.T 64) 48 then _ else bif eqI (Int.tmod p.T 64) 63 then _ else _)=_
 have hm:Int.tmod p.T 64=p.T%64:=tmod_nn h1.1
 have hw:wI (p.T+1)=p.T+1:=wI_id (by omega) (by omega)
 rw[eqI_f (show p.T≠20000 by omega),cond_false,hm]
 by_cases c1:p.T%64<48
 ·obtain ⟨e1,e2,e3,_⟩:=tickP_1 c1
  rw[ltI_t c1,cond_true,e1,e2,e3]
  refine bind_step (l8Dot_ok p h (Int.tmod p.T 64) (by omega)) ?_
  show (bif leN (p.dots.length+1) (E.most .i)then some ((((wI (p.T+1)),_),_),_)else none)=_
  rw[leN_t (by simp only[E.most];omega),hw,hm]
  rfl
 rw[ltI_f c1,cond_false]
 by_cases c2:p.T%64=48
 ·obtain ⟨e1,e2,e3,_⟩:=tickP_2 c2
  rw[eqI_t c2,cond_true,e1,e2,e3]
  show (bif leN (0+p.dots.length) (E.most .i)then some ((((wI (p.T+1)),_),_),_)else none)=_
  rw[leN_t (by simp only[E.most];omega),hw]
  rfl
 rw[eqI_f c2,cond_false]
 by_cases c3:p.T%64=63
 ·obtain ⟨e1,e2,e3,_⟩:=tickP_3 c3
  rw[eqI_t c3,cond_true,e1,e2,e3]
  show some ((((wI (p.T+1)),_),_),_)=_
  rw[hw];rfl
 ·obtain ⟨e1,e2,e3,_⟩:=tickP_4 c1 c2 c3
  rw[eqI_f c3,cond_false,e1,e2,e3]
  show some ((((wI (p.T+1)),_),_),_)=_
  rw[hw];rfl
theorem specPpuWrite_ok (p:PpuM) (h:PpuP p) (reg v:Int):r241 (p.t,(reg,(v,())))=some (((writeP p reg v).t,()),()):=by
 have ha:=h.addr
 have hl:=h.len
 unfold r241 m241 writeP
 refine bind_step (l8Copy_ok p.t h.s) (bind_step (by rw[specPpuOk_ok p.t h.s,ppuOk_iff.2 h]) ?_)
 simp only[Bool.not_true,cond_false,specByte_ok,Option.bind_some,lenI_def,PpuM.t]
 rw[tmod_nn (show 0≤v%256 by omega),tmod_nn (show 0≤v%256 by omega),wI_id (x:=p.addr+1) (by omega) (by omega),tmod_nn (show 0≤p.addr+1 by omega),leI_t ha.1,ltI_t (by omega)]
 by_cases c:reg=0
 ·rw[eqI_t c,if_pos c];rfl
 rw[eqI_f c,if_neg c,cond_false]
 by_cases c:reg=1
 ·rw[eqI_t c,if_pos c];rfl
 rw[eqI_f c,if_neg c,cond_false]
 by_cases c:reg=3
 ·rw[eqI_t c,if_pos c];rfl
 rw[eqI_f c,if_neg c,cond_false]
 by_cases c:reg=4
 ·rw[eqI_t c,if_pos c];rfl
 rw[eqI_f c,if_neg c,cond_false]
 by_cases c:reg=5
 ·rw[eqI_t c,if_pos c];rfl
 rw[eqI_f c,if_neg c,cond_false]
theorem specPpuRead_ok (p:PpuM) (h:PpuP p) (reg:Int):r286 (p.t,(reg,()))=some (((readP p reg).t,(readPV p reg,())),()):=by
 have ha:=h.addr
 have hl:=h.len
 have hf:=flagN_range p.blank
 unfold r286 m286 readP readPV
 refine bind_step (l8Copy_ok p.t h.s) (bind_step (by rw[specPpuOk_ok p.t h.s,ppuOk_iff.2 h]) ?_)
 simp only[Bool.not_true,cond_false,l1Bit_ok,Option.bind_some,lenI_def,PpuM.t]
 rw[wI_id (x:=p.addr+1) (by omega) (by omega),tmod_nn (show 0≤p.addr+1 by omega),leI_t ha.1,ltI_t (by omega),wI_id (x:=128*flagN p.blank) (by omega) (by omega)]
 by_cases c:reg=2
 ·rw[eqI_t c,if_pos c,if_pos c];rfl
 rw[eqI_f c,if_neg c,if_neg c,cond_false]
 by_cases c:reg=4
 ·rw[eqI_t c,if_pos c,if_pos c];rfl
 rw[eqI_f c,if_neg c,if_neg c,cond_false]
theorem l10Tick_ok (a:ApuM) (h:ApuP a) (ht:a.T<20000):r244 (a.t,())=some (((tickA a).t,(sampleA a,(toldA a,()))),()):=by
 obtain ⟨t,p,c,b,l,asks,irq⟩:=a
 have ht:t<20000:=ht
 obtain ⟨h1,h2,h3,h4,h5⟩:=h
 have h1:0≤t∧t≤20000:=h1
 have h3:0≤c∧c≤255:=h3
 have h4:0≤b∧b≤1:=h4
 have h5:0≤l∧l≤31:=h5
 unfold r244 m244 tickA sampleA toldA beatA countA ApuM.t
 simp only
 rw[eqI_f (show t≠20000 by omega),cond_false,tmod_nn h1.1,tmod_nn h1.1,wI_id (x:=t+1) (by omega) (by omega),wI_id (x:=1-b) (by omega) (by omega),wI_id (x:=l-1) (by omega) (by omega),wI_id (x:=c-1) (by omega) (by omega),wI_id (x:=8*(1-b)) (by omega) (by omega),wI_id (x:=8*b) (by omega) (by omega)]
 by_cases c0:c=0
 ·rw[eqI_t c0,if_pos c0]
  by_cases l0:0<l
  ·rw[ltI_t l0,if_pos l0]
   by_cases t32:t%32=0
   ·rw[eqI_t t32,eqI_f (show t%16≠15 by omega)]
    simp only[cond_true,cond_false,t32,l0,true_and,if_true,show¬t%16=15 by omega,false_and,if_false]
    cases irq<;>cases eqI (l-1) 0<;>rfl
   ·rw[eqI_f t32]
    simp only[cond_true,cond_false,t32,false_and,if_false]
    by_cases t16:t%16=15
    ·rw[eqI_t t16]
     simp only[cond_true,t16,true_and,ne_eq,show¬l=0 by omega,not_false_eq_true,if_true]
    ·rw[eqI_f t16]
     simp only[cond_false,t16,false_and,if_false]
  ·rw[ltI_f l0,if_neg l0]
   have l0':l=0:=by omega
   subst l0'
   by_cases t32:t%32=0
   ·rw[eqI_t t32,eqI_f (show t%16≠15 by omega)]
    simp only[cond_true,cond_false,t32,true_and,show¬t%16=15 by omega,false_and,if_false,Int.lt_irrefl]
   ·rw[eqI_f t32]
    by_cases t16:t%16=15
    ·rw[eqI_t t16]
     simp only[cond_true,cond_false,t32,t16,true_and,ne_eq,not_true_eq_false,false_and,and_false,if_false]
    ·rw[eqI_f t16]
     simp only[cond_true,cond_false,t32,t16,false_and,if_false]
 ·rw[eqI_f c0,if_neg c0]
  by_cases l0:0<l
  ·rw[ltI_t l0]
   by_cases t32:t%32=0
   ·rw[eqI_t t32,eqI_f (show t%16≠15 by omega)]
    simp only[cond_true,cond_false,t32,l0,true_and,if_true,show¬t%16=15 by omega,false_and,if_false]
    cases irq<;>cases eqI (l-1) 0<;>rfl
   ·rw[eqI_f t32]
    simp only[cond_true,cond_false,t32,false_and,if_false]
    by_cases t16:t%16=15
    ·rw[eqI_t t16]
     simp only[cond_true,t16,true_and,ne_eq,show¬l=0 by omega,not_false_eq_true,if_true]
    ·rw[eqI_f t16]
     simp only[cond_false,t16,false_and,if_false]
  ·rw[ltI_f l0]
   have l0':l=0:=by omega
   subst l0'
   by_cases t32:t%32=0
   ·rw[eqI_t t32,eqI_f (show t%16≠15 by omega)]
    simp only[cond_true,cond_false,t32,true_and,show¬t%16=15 by omega,false_and,if_false,Int.lt_irrefl]
   ·rw[eqI_f t32]
    by_cases t16:t%16=15
    ·rw[eqI_t t16]
     simp only[cond_true,cond_false,t32,t16,true_and,ne_eq,not_true_eq_false,false_and,and_false,if_false]
    ·rw[eqI_f t16]
     simp only[cond_true,cond_false,t32,t16,false_and,if_false]
theorem specApuWrite_ok (a:ApuM) (h:ApuP a) (reg v:Int):r243 (a.t,(reg,(v,())))=some (((writeA a reg v).t,()),()):=by
 unfold r243 m243 writeA
 refine bind_step (by rw[specApuOk_ok a.t,apuOk_iff.2 h]) ?_
 simp only[Bool.not_true,cond_false,specByte_ok,Option.bind_some,ApuM.t]
 rw[tmod_nn (show 0≤v%256 by omega),tmod_nn (show 0≤v%256 by omega)]
 by_cases c:reg=0
 ·rw[eqI_t c,if_pos c];rfl
 rw[eqI_f c,if_neg c,cond_false]
 by_cases c:reg=1
 ·rw[eqI_t c,if_pos c];rfl
 rw[eqI_f c,if_neg c,cond_false]
 by_cases c:reg=2
 ·rw[eqI_t c,if_pos c]
  cases a.irq<;>rfl
 rw[eqI_f c,if_neg c,cond_false]
 by_cases c:reg=3
 ·rw[eqI_t c,if_pos c];rfl
 rw[eqI_f c,if_neg c,cond_false]
theorem specApuRead_ok (a:ApuM) (h:ApuP a) (reg:Int):r287 (a.t,(reg,()))=some (((readA a reg).t,(readAV a reg,())),()):=by
 unfold r287 m287 readA readAV
 refine bind_step (by rw[specApuOk_ok a.t,apuOk_iff.2 h]) ?_
 have f1:=flagN_range a.irq
 have f2:=flagN_range (ltI 0 a.len)
 simp only[Bool.not_true,cond_false,l1Bit_ok,Option.bind_some,ApuM.t]
 rw[wI_id (x:=128*flagN a.irq) (by omega) (by omega),wI_id (x:=128*flagN a.irq+flagN (ltI 0 a.len)) (by omega) (by omega)]
 by_cases c:reg=2
 ·rw[neI_f c,if_pos c,if_pos c];rfl
 ·rw[neI_t c,if_neg c,if_neg c];rfl
theorem eqI_out {n:Int} (h: ¬(0≤n∧n≤29)): ∀c:Int,0≤c→c≤29→eqI n c=false:=fun c h0 h1=>eqI_f (by omega)
theorem isReckon_out {n:Int} (h: ¬(0≤n∧n≤29)):isReckon n=false:=decide_eq_false (by omega)
theorem isTurn_out {n:Int} (h: ¬(0≤n∧n≤29)):isTurn n=false:=decide_eq_false (by omega)
theorem hpc_eq {c:CpuM} (hc:CpuP c) (op:Int):wI (c.pc+opLenN op)=c.pc+opLenN op:=by
 have:=opLenN_b op
 have:=hc.pc
 exact wI_id (by omega) (by omega)
def isAlu (op:Int):Bool:=decide (op=1∨op=2∨op=14∨op=4∨op=29∨op=5∨op=6∨op=7∨op=8∨op=9∨op=10∨op=11∨op=12∨op=13)
def aluT (c:CpuM) (op arg v:Int):CpuM:=if isReckon op then reckonT c op arg v else if isAlu op then turnT c op else c
theorem setAT_mod {c:CpuM} {u v:Int} (h:u%256=v%256):setAT c u=setAT c v:=by unfold setAT;rw[h]
theorem l7Add_ok (c:CpuM) (v:Int):r321 (c.t,(v,()))=some (((addT c v).t,()),()):=by
 unfold r321 m321
 exact bind_step (specAdd8_ok (c.a,(v,(c.c,())))) (bind_step (specSetA_ok c (addS c.a v c.c%256)) rfl)
theorem l7Alu_6 (c:CpuM) (arg v:Int) (hc:CpuP c):r292 (c.t,(((6:Int),(arg,())),(v,())))=some (((aluT c 6 arg v).t,(isAlu 6,())),()):=by
 have hx:=hc.x
 unfold r292 m292
 dsimp only
 rw[eqI_f (show (6:Int)≠1 by decide),cond_false,eqI_f (show (6:Int)≠2 by decide),cond_false,eqI_f (show (6:Int)≠14 by decide),cond_false,eqI_f (show (6:Int)≠4 by decide),cond_false,eqI_f (show (6:Int)≠29 by decide),cond_false,eqI_f (show (6:Int)≠5 by decide),cond_false,eqI_t (show (6:Int)=6 from rfl),cond_true]
 rw[show aluT c 6 arg v=setAT c (bAnd .i64 c.a arg) by simp[aluT,reckonT,isReckon],show isAlu 6=true from rfl,setAT_mod (bAnd_mask c.a arg).symm]
 exact bind_step (specByte_ok (c.a,())) (bind_step (specByte_ok (arg,())) (bind_step (specSetA_ok c (bAnd .i64 (c.a%256) (arg%256))) rfl))
theorem l7Alu_7 (c:CpuM) (arg v:Int) (hc:CpuP c):r292 (c.t,(((7:Int),(arg,())),(v,())))=some (((aluT c 7 arg v).t,(isAlu 7,())),()):=by
 have hx:=hc.x
 unfold r292 m292
 dsimp only
 rw[eqI_f (show (7:Int)≠1 by decide),cond_false,eqI_f (show (7:Int)≠2 by decide),cond_false,eqI_f (show (7:Int)≠14 by decide),cond_false,eqI_f (show (7:Int)≠4 by decide),cond_false,eqI_f (show (7:Int)≠29 by decide),cond_false,eqI_f (show (7:Int)≠5 by decide),cond_false,eqI_f (show (7:Int)≠6 by decide),cond_false,eqI_t (show (7:Int)=7 from rfl),cond_true]
 rw[show aluT c 7 arg v=setAT c (bOr .i64 c.a arg) by simp[aluT,reckonT,isReckon],show isAlu 7=true from rfl,setAT_mod (bOr_mask c.a arg).symm]
 exact bind_step (specByte_ok (c.a,())) (bind_step (specByte_ok (arg,())) (bind_step (specSetA_ok c (bOr .i64 (c.a%256) (arg%256))) rfl))
theorem l7Alu_8 (c:CpuM) (arg v:Int) (hc:CpuP c):r292 (c.t,(((8:Int),(arg,())),(v,())))=some (((aluT c 8 arg v).t,(isAlu 8,())),()):=by
 have hx:=hc.x
 unfold r292 m292
 dsimp only
 rw[eqI_f (show (8:Int)≠1 by decide),cond_false,eqI_f (show (8:Int)≠2 by decide),cond_false,eqI_f (show (8:Int)≠14 by decide),cond_false,eqI_f (show (8:Int)≠4 by decide),cond_false,eqI_f (show (8:Int)≠29 by decide),cond_false,eqI_f (show (8:Int)≠5 by decide),cond_false,eqI_f (show (8:Int)≠6 by decide),cond_false,eqI_f (show (8:Int)≠7 by decide),cond_false,eqI_t (show (8:Int)=8 from rfl),cond_true]
 rw[show aluT c 8 arg v=setAT c (bXor .i64 c.a arg) by simp[aluT,reckonT,isReckon],show isAlu 8=true from rfl,setAT_mod (bXor_mask c.a arg).symm]
 exact bind_step (specByte_ok (c.a,())) (bind_step (specByte_ok (arg,())) (bind_step (specSetA_ok c (bXor .i64 (c.a%256) (arg%256))) rfl))
theorem l7Alu_9 (c:CpuM) (arg v:Int) (hc:CpuP c):r292 (c.t,(((9:Int),(arg,())),(v,())))=some (((aluT c 9 arg v).t,(isAlu 9,())),()):=by
 have hx:=hc.x
 unfold r292 m292
 dsimp only
 rw[eqI_f (show (9:Int)≠1 by decide),cond_false,eqI_f (show (9:Int)≠2 by decide),cond_false,eqI_f (show (9:Int)≠14 by decide),cond_false,eqI_f (show (9:Int)≠4 by decide),cond_false,eqI_f (show (9:Int)≠29 by decide),cond_false,eqI_f (show (9:Int)≠5 by decide),cond_false,eqI_f (show (9:Int)≠6 by decide),cond_false,eqI_f (show (9:Int)≠7 by decide),cond_false,eqI_f (show (9:Int)≠8 by decide),cond_false,eqI_t (show (9:Int)=9 from rfl),cond_true]
 have e:wI (c.a%256-arg%256)=c.a%256-arg%256:=wI_id (by omega) (by omega)
 have k:r323 (wI (c.a%256-arg%256),())=some ((eqI ((c.a%256-arg%256)%256) 0,(ltI 127 ((c.a%256-arg%256)%256),())),()):=by rw[e];exact specSigns_ok (c.a%256-arg%256,())
 rw[show aluT c 9 arg v=cpiT c arg by simp[aluT,reckonT,isReckon],show isAlu 9=true from rfl]
 exact bind_step (specByte_ok (c.a,())) (bind_step (specByte_ok (arg,())) (bind_step k (bind_step (specByte_ok (c.a,())) (bind_step (specByte_ok (arg,())) rfl))))
theorem l7Alu_12 (c:CpuM) (arg v:Int) (hc:CpuP c):r292 (c.t,(((12:Int),(arg,())),(v,())))=some (((aluT c 12 arg v).t,(isAlu 12,())),()):=by
 have hx:=hc.x
 unfold r292 m292
 simp only[eqI_d,Int.reduceEq,decide_true,decide_false,cond_true,cond_false]
 have e:wI (c.x%256+1)=c.x+1:=by rw[wI_id (by omega) (by omega)];omega
 have k:r324 (c.t,(wI (c.x%256+1),()))=some (((setXT c (c.x+1)).t,()),()):=by rw[e];exact specSetX_ok c (c.x+1)
 rw[show aluT c 12 arg v=setXT c (c.x+1)from rfl,show isAlu 12=true from rfl]
 exact bind_step (specByte_ok (c.x,())) (bind_step k rfl)
theorem l7Alu_13 (c:CpuM) (arg v:Int) (hc:CpuP c):r292 (c.t,(((13:Int),(arg,())),(v,())))=some (((aluT c 13 arg v).t,(isAlu 13,())),()):=by
 have hx:=hc.x
 unfold r292 m292
 simp only[eqI_d,Int.reduceEq,decide_true,decide_false,cond_true,cond_false]
 have e:wI (c.x%256-1)=c.x-1:=by rw[wI_id (by omega) (by omega)];omega
 have k:r324 (c.t,(wI (c.x%256-1),()))=some (((setXT c (c.x-1)).t,()),()):=by rw[e];exact specSetX_ok c (c.x-1)
 rw[show aluT c 13 arg v=setXT c (c.x-1)from rfl,show isAlu 13=true from rfl]
 exact bind_step (specByte_ok (c.x,())) (bind_step k rfl)
theorem l7Alu_ok (c:CpuM) (op arg v:Int) (hc:CpuP c):r292 (c.t,((op,(arg,())),(v,())))=some (((aluT c op arg v).t,(isAlu op,())),()):=by
 by_cases h:0≤op∧op≤29
 ·rcases ops_cases h with rfl|rfl|rfl|rfl|rfl|rfl|rfl|rfl|rfl|rfl|rfl|rfl|rfl|rfl|rfl|rfl|rfl|rfl|rfl|rfl|rfl|rfl|rfl|rfl|rfl|rfl|rfl|rfl|rfl|rfl
  ·unfold r292 m292
   simp only[eqI_d,Int.reduceEq,decide_true,decide_false,cond_true,cond_false]
   rfl
  ·unfold r292 m292
   simp only[eqI_d,Int.reduceEq,decide_true,decide_false,cond_true,cond_false]
   exact bind_step (specSetA_ok c arg) rfl
  ·unfold r292 m292
   simp only[eqI_d,Int.reduceEq,decide_true,decide_false,cond_true,cond_false]
   exact bind_step (specSetA_ok c v) rfl
  ·unfold r292 m292
   simp only[eqI_d,Int.reduceEq,decide_true,decide_false,cond_true,cond_false]
   rfl
  ·unfold r292 m292
   simp only[eqI_d,Int.reduceEq,decide_true,decide_false,cond_true,cond_false]
   exact bind_step (l7Add_ok c arg) rfl
  ·unfold r292 m292
   simp only[eqI_d,Int.reduceEq,decide_true,decide_false,cond_true,cond_false]
   exact bind_step (specSub8_ok (c.a,(arg,(c.c,())))) (bind_step (specSetA_ok c (subS c.a arg c.c%256)) rfl)
  ·exact l7Alu_6 c arg v hc
  ·exact l7Alu_7 c arg v hc
  ·exact l7Alu_8 c arg v hc
  ·exact l7Alu_9 c arg v hc
  ·unfold r292 m292
   simp only[eqI_d,Int.reduceEq,decide_true,decide_false,cond_true,cond_false]
   exact bind_step (specSetX_ok c c.a) rfl
  ·unfold r292 m292
   simp only[eqI_d,Int.reduceEq,decide_true,decide_false,cond_true,cond_false]
   exact bind_step (specSetA_ok c c.x) rfl
  ·exact l7Alu_12 c arg v hc
  ·exact l7Alu_13 c arg v hc
  ·unfold r292 m292
   simp only[eqI_d,Int.reduceEq,decide_true,decide_false,cond_true,cond_false]
   exact bind_step (specSetA_ok c v) rfl
  ·unfold r292 m292
   simp only[eqI_d,Int.reduceEq,decide_true,decide_false,cond_true,cond_false]
   rfl
  ·unfold r292 m292
   simp only[eqI_d,Int.reduceEq,decide_true,decide_false,cond_true,cond_false]
   rfl
  ·unfold r292 m292
   simp only[eqI_d,Int.reduceEq,decide_true,decide_false,cond_true,cond_false]
   rfl
  ·unfold r292 m292
   simp only[eqI_d,Int.reduceEq,decide_true,decide_false,cond_true,cond_false]
   rfl
  ·unfold r292 m292
   simp only[eqI_d,Int.reduceEq,decide_true,decide_false,cond_true,cond_false]
   rfl
  ·unfold r292 m292
   simp only[eqI_d,Int.reduceEq,decide_true,decide_false,cond_true,cond_false]
   rfl
  ·unfold r292 m292
   simp only[eqI_d,Int.reduceEq,decide_true,decide_false,cond_true,cond_false]
   rfl
  ·unfold r292 m292
   simp only[eqI_d,Int.reduceEq,decide_true,decide_false,cond_true,cond_false]
   rfl
  ·unfold r292 m292
   simp only[eqI_d,Int.reduceEq,decide_true,decide_false,cond_true,cond_false]
   rfl
  ·unfold r292 m292
   simp only[eqI_d,Int.reduceEq,decide_true,decide_false,cond_true,cond_false]
   rfl
  ·unfold r292 m292
   simp only[eqI_d,Int.reduceEq,decide_true,decide_false,cond_true,cond_false]
   rfl
  ·unfold r292 m292
   simp only[eqI_d,Int.reduceEq,decide_true,decide_false,cond_true,cond_false]
   rfl
  ·unfold r292 m292
   simp only[eqI_d,Int.reduceEq,decide_true,decide_false,cond_true,cond_false]
   rfl
  ·unfold r292 m292
   simp only[eqI_d,Int.reduceEq,decide_true,decide_false,cond_true,cond_false]
   rfl
  ·unfold r292 m292
   simp only[eqI_d,Int.reduceEq,decide_true,decide_false,cond_true,cond_false]
   exact bind_step (l7Add_ok c v) rfl
 ·have e:=eqI_out h
  have ea:isAlu op=false:=decide_eq_false (by omega)
  unfold r292 m292 aluT
  rw[isReckon_out h,ea]
  simp[e]
theorem l7Back_ok (x:MemM) (c:CpuM) (h:RamP x) (hc:CpuP c):r293 (x.t,(c.t,()))=some (((backC x c).t,()),()):=by
 unfold r293 m293
 exact bind_step (specPull_ok x c h hc) (bind_step (specPull_ok x (pullC c) h (pullC_P hc)) (bind_step (specJoin_ok (pullV x c,(pullV x (pullC c),()))) rfl))
theorem specExec_ok (x:MemM) (c:CpuM) (op arg v:Int) (h:RamP x) (hc:CpuP c):r237 (x.t,(c.t,((op,(arg,())),(v,()))))=some (((execM x c op).t,((execC x c op arg v).t,())),()):=by
 unfold r237 m237
 have hp:=stepPc_P (op:=op) hc
 have k1:r271 (wI (c.pc+opLenN op),())=some (((c.pc+opLenN op)%65536,()),()):=by
  rw[specAddr_ok (wI (c.pc+opLenN op),()),hpc_eq hc]
 refine bind_step (l6Copy_t x h.len) (bind_step (specOpLen_ok (op,())) (bind_step k1 (bind_step (l7Alu_ok (stepPc c op) op arg v hp) ?_)))
 unfold execM execC
 have hz: ∀{a b:CpuM},a=b→a.z=b.z:=fun h=>by rw[h]
 by_cases ho:0≤op∧op≤29
 ·rcases ops_cases ho with rfl|rfl|rfl|rfl|rfl|rfl|rfl|rfl|rfl|rfl|rfl|rfl|rfl|rfl|rfl|rfl|rfl|rfl|rfl|rfl|rfl|rfl|rfl|rfl|rfl|rfl|rfl|rfl|rfl|rfl<;>simp only[eqI_d,Int.reduceEq,decide_true,decide_false,cond_true,cond_false]
  ·rfl
  ·rfl
  ·rfl
  ·rfl
  ·rfl
  ·rfl
  ·rfl
  ·rfl
  ·rfl
  ·rfl
  ·rfl
  ·rfl
  ·rfl
  ·rfl
  ·rfl
  ·rfl
  ·rw[show isAlu 16=false from rfl,cond_false]
   obtain ⟨a,x',s,pc,z,n,cc,i⟩:=c
   cases z<;>simp only[CpuM.t,Bool.not_false,Bool.not_true,cond_true,cond_false]
   ·exact bind_step (specAddr_ok (arg,())) rfl
   ·rfl
  ·rw[show isAlu 17=false from rfl,cond_false]
   obtain ⟨a,x',s,pc,z,n,cc,i⟩:=c
   cases z<;>simp only[CpuM.t,Bool.not_false,Bool.not_true,cond_true,cond_false]
   ·rfl
   ·exact bind_step (specAddr_ok (arg,())) rfl
  ·rw[show isAlu 18=false from rfl,cond_false]
   obtain ⟨a,x',s,pc,z,n,cc,i⟩:=c
   cases cc<;>simp only[CpuM.t,Bool.not_false,Bool.not_true,cond_true,cond_false]
   ·rfl
   ·exact bind_step (specAddr_ok (arg,())) rfl
  ·rw[show isAlu 19=false from rfl,cond_false]
   exact bind_step (specAddr_ok (arg,())) rfl
  ·rw[show isAlu 20=false from rfl,cond_false]
   exact bind_step (specPush_ok x (stepPc c 20) (shr8 (stepPc c 20).pc) h hp) (bind_step (specPush_ok (pushM x (stepPc c 20) (shr8 (stepPc c 20).pc)) (pushC (stepPc c 20)) (stepPc c 20).pc (pushM_P h _ _) (pushC_P hp)) (bind_step (specAddr_ok (arg,())) rfl))
  ·rw[show isAlu 21=false from rfl,cond_false]
   exact bind_step (l7Back_ok x (stepPc c 21) h hp) rfl
  ·rw[show isAlu 22=false from rfl,cond_false]
   exact bind_step (specPush_ok x (stepPc c 22) (stepPc c 22).a h hp) rfl
  ·rw[show isAlu 23=false from rfl,cond_false]
   exact bind_step (specPull_ok x (stepPc c 23) h hp) (bind_step (specSetA_ok (pullC (stepPc c 23)) (pullV x (stepPc c 23))) rfl)
  ·rw[show isAlu 24=false from rfl,cond_false]
   exact bind_step (specPull_ok x (stepPc c 24) h hp) (bind_step (specWithFlags_ok (pullC (stepPc c 24)) (pullV x (stepPc c 24))) (bind_step (l7Back_ok x (wfT (pullC (stepPc c 24)) (pullV x (stepPc c 24))) h (wfT_P (pullC_P hp))) rfl))
  ·rfl
  ·rfl
  ·rfl
  ·rfl
  ·rfl
 ·have e:=eqI_out ho
  have ea:isAlu op=false:=decide_eq_false (by omega)
  have e1:flowM x (stepPc c op) op=x:=by
   unfold flowM
   rw[if_neg (by omega),if_neg (by omega)]
  have e2:flowC x (stepPc c op) op arg=stepPc c op:=by
   unfold flowC
   rw[if_neg (by omega),if_neg (by omega),if_neg (by omega),if_neg (by omega),if_neg (by omega),if_neg (by omega),if_neg (by omega),if_neg (by omega),if_neg (by omega)]
  rw[e1,e2,isReckon_out ho,isTurn_out ho,ea]
  simp[e]
  rfl
theorem vec_peek {f:List (List Int)} {x y:MemM} {v:Int} (hv:65530≤v∧v≤65535):peekT f x v=peekT f y v:=by
 have e:(rgT v).1=6:=by
  unfold rgT
  simp only
  rw[show v%65536=v by omega,if_neg (by omega),if_neg (by omega),if_neg (by omega),if_neg (by omega),if_neg (by omega),if_neg (by omega)]
 unfold peekT
 rw[e,if_neg (by decide),if_neg (by decide),if_pos rfl,if_neg (by decide),if_neg (by decide)]
theorem vec_same {f:List (List Int)} {x y:MemM} {v:Int} (hv:65530≤v∧v≤65534):vecN f x v=vecN f y v:=by
 unfold vecN
 rw[vec_peek (x:=x) (y:=y) (v:=v) (by omega),vec_peek (x:=x) (y:=y) (v:=v+1) (by omega)]
theorem specEnter_ok (f:List (List Int)) (x:MemM) (c:CpuM) (v:Int) (h:MemP f x) (hc:CpuP c) (hv:65530≤v∧v≤65534):
  r233 ((f,()),(x.t,(c.t,(v,()))))=some (((enterM x c).t,((enterC c (vecN f x v)).t,())),()):=by
 have hm:MemP f (enterM x c):=h.of_ram (enterM_P h.ram) rfl
 have e:wI (v+1)=v+1:=wI_id (by omega) (by omega)
 have k:=specPeek_ok f (enterM x c) (v+1) hm
 rw[←e]at k
 unfold r233 m233
 refine bind_step (l6Copy_t x h.ram.len) (bind_step (specFlags_ok c) (bind_step (specPush_ok x c (shr8 c.pc) h.ram hc) (bind_step (specPush_ok (pushM x c (shr8 c.pc)) (pushC c) c.pc (pushM_P h.ram _ _) (pushC_P hc))
  (bind_step (specPush_ok (pushPcM x c) (pushPcC c) (flagsT c) (pushPcM_P h.ram) (pushPcC_P hc)) (bind_step (specPeek_ok f (enterM x c) v hm) (bind_step k (bind_step (specJoin_ok (peekT f (enterM x c) v,(peekT f (enterM x c) (wI (v+1)),()))) ?_)))))))
 rw[vec_same (x:=x) (y:=enterM x c) hv]
 unfold vecN
 rw[e]
 rfl
theorem peek_2 {f:List (List Int)} {x:MemM} {pc:Int} (h:MemP f x) (hp:0≤pc∧pc≤65535) (k:Int) (hk:k=1∨k=2):r267 ((f,()),(x.t,(wI (pc+k),())))=some ((peekT f x (pc+k),()),()):=by
 rw[wI_id (by omega) (by omega)]
 exact specPeek_ok f x (pc+k) h
theorem specFetch_ok (f:List (List Int)) (x:MemM) (pc:Int) (h:MemP f x) (hp:0≤pc∧pc≤65535):r210 ((f,()),(x.t,(pc,())))=some (((opT f x pc,(argT f x pc,())),()),()):=by
 unfold r210 m210
 refine bind_step (specPeek_ok f x pc h) (bind_step (specOpLen_ok (peekT f x pc,())) ?_)
 show (bif eqI (opLenN (peekT f x pc)) 2 then _ else bif eqI (opLenN (peekT f x pc)) 3 then _ else _)=_
 unfold argT opT
 by_cases c2:opLenN (peekT f x pc)=2
 ·rw[eqI_t c2,if_pos c2]
  exact bind_step (peek_2 h hp 1 (.inl rfl)) rfl
 rw[eqI_f c2,if_neg c2,cond_false]
 by_cases c3:opLenN (peekT f x pc)=3
 ·rw[eqI_t c3,if_pos c3]
  exact bind_step (peek_2 h hp 1 (.inl rfl)) (bind_step (peek_2 h hp 2 (.inr rfl)) (bind_step (specJoin_ok (peekT f x (pc+1),(peekT f x (pc+2),()))) rfl))
 ·rw[eqI_f c3,if_neg c3];rfl
theorem opAcc_cases (op:Int):opAccN op=0∨opAccN op=1∨opAccN op=2:=by
 unfold opAccN
 split
 ·exact .inr (.inl rfl)
 split
 ·exact .inr (.inr rfl)
 ·exact .inl rfl
theorem specAccess_ok (op arg:Int) (c:CpuM) (hc:CpuP c) (ha:0≤arg∧arg≤65535):r211 ((op,(arg,())),(c.t,()))=some ((opAccN op,(accA op arg c.x,(accV op c.a,()))),()):=by
 have hx:=hc.x
 have e:wI (arg+c.x)=arg+c.x:=wI_id (by omega) (by omega)
 have k:r271 (wI (arg+c.x),())=some (((arg+c.x)%65536,()),()):=by rw[specAddr_ok (wI (arg+c.x),()),e]
 unfold r211 m211
 refine bind_step (specOpAccess_ok (op,())) ?_
 show (bif eqI (opAccN op) 0 then _ else bif eqI op 14 then _ else bif eqI op 15 then _ else bif eqI (opAccN op) 1 then _ else _)=_
 unfold accA accV
 by_cases c1:op=14
 ·subst c1
  rw[show opAccN 14=1 from rfl,eqI_f (show (1:Int)≠0 by decide),eqI_t (show (14:Int)=14 from rfl),cond_true,cond_false,eqI_t (show (1:Int)=1 from rfl),cond_true]
  exact bind_step k rfl
 by_cases c2:op=15
 ·subst c2
  rw[show opAccN 15=2 from rfl,eqI_f (show (2:Int)≠0 by decide),eqI_f (show (15:Int)≠14 by decide),eqI_t (show (15:Int)=15 from rfl),cond_true,cond_false,cond_false,eqI_f (show (2:Int)≠1 by decide),cond_false]
  exact bind_step k (bind_step (specByte_ok (c.a,())) rfl)
 rw[eqI_f c1,eqI_f c2,cond_false,cond_false,if_neg (c:=op=14∨op=15) (by omega)]
 rcases opAcc_cases op with o|o|o<;>rw[o]<;>simp only[eqI_d,Int.reduceEq,decide_true,decide_false,cond_true,cond_false]
 ·rfl
 ·exact bind_step (specAddr_ok (arg,())) rfl
 ·exact bind_step (specAddr_ok (arg,())) (bind_step (specByte_ok (c.a,())) rfl)
theorem l1Max_ok (a b:Int):r168 (a,(b,()))=some ((if b<a then a else b,()),()):=by
 unfold r168 m168
 show (bif ltI b a then _ else _)=_
 by_cases h:b<a
 ·rw[ltI_t h,if_pos h];rfl
 ·rw[ltI_f h,if_neg h];rfl
theorem l1Min_ok (a b:Int):r158 (a,(b,()))=some ((if a<b then a else b,()),()):=by
 unfold r158 m158
 show (bif ltI a b then _ else _)=_
 by_cases h:a<b
 ·rw[ltI_t h,if_pos h];rfl
 ·rw[ltI_f h,if_neg h];rfl
theorem l1Max_0 {t:Int} (h:0≤t):r168 (t,((0:Int),()))=some ((t,()),()):=by
 rw[l1Max_ok]
 by_cases h0:0<t
 ·rw[if_pos h0]
 ·rw[if_neg h0,show t=0 by omega]
theorem specFrameOf_ok (t:Int) (ht:0≤t∧t≤20000):r338 (t,())=some ((t/64,()),()):=by
 unfold r338 m338
 refine bind_step (l1Max_0 ht.1) ?_
 show some ((wI (Int.tdiv t 64),()),())=_
 rw[tdiv_nn ht.1,wI_id (by omega) (by omega)]
theorem specPadAt_ok (l:List Int) (t:Int) (h:PadsP l) (ht:0≤t∧t≤20000):r320 (l,(t,()))=some ((padAt l t,()),()):=by
 have hl:=h.len
 unfold r320 m320 padAt
 refine bind_step (by rw[specPadsOk_ok l (by omega),padsOk_iff.2 h]) ?_
 show (bif eqI (l.length:Int) 0 then _ else _)=_
 by_cases h0:l.length=0
 ·rw[eqI_t (by omega),if_pos h0];rfl
 rw[eqI_f (by omega),if_neg h0,cond_false]
 refine bind_step (specFrameOf_ok t ht) ?_
 have hm:Int.tmod (t/64) (l.length:Int)=(t/64)% (l.length:Int):=tmod_nn (by omega)
 have b0:=Int.emod_nonneg (t/64) (show (l.length:Int)≠0 by omega)
 have b1:=Int.emod_lt_of_pos (t/64) (show 0< (l.length:Int) by omega)
 show (bif neI (l.length:Int) 0 then (bif leI 0 (Int.tmod (t/64) (l.length:Int))then (bif ltI (Int.tmod (t/64) (l.length:Int)) (l.length:Int)then some ((rdE .i l (Int.tmod (t/64) (l.length:Int)),()),())else none)else none)else none)=_
 rw[neI_t (by omega),hm,leI_t b0,ltI_t b1]
 rfl
theorem specPadWrite_ok (x:PadM) (l:List Int) (t v:Int) (h:PadsP l) (ht:0≤t∧t≤20000):r290 (x.t,(l,(t,(v,()))))=some (((writeD x l t v).t,()),()):=by
 unfold r290 m290 writeD
 show (bif x.held then (r320 (l,(t,()))).bind (fun r0=>some (((eqI (bAnd .i64 v 1) 1,r0.1),()),()))else bif eqI (bAnd .i64 v 1) 1 then (r320 (l,(t,()))).bind (fun r0=>some (((eqI (bAnd .i64 v 1) 1,r0.1),()),()))else some (((eqI (bAnd .i64 v 1) 1,(x.shift,())),()),()))=_
 rw[bAnd_1,specPadAt_ok l t h ht]
 cases eqI (v%2) 1<;>cases x.held<;>rfl
theorem fdiv_2 (x:Int):Int.fdiv x ((2:Int)^(Min.min (Int.toNat (1:Int)) (64:Nat)))=x/2:=Int.fdiv_eq_ediv_of_nonneg x (by decide)
theorem specPadRead_ok (x:PadM) (l:List Int) (t:Int) (h:PadsP l) (ht:0≤t∧t≤20000):r288 (x.t,(l,(t,())))=some (((readD x l t).t,(readDV x l t,())),()):=by
 unfold r288 m288 readD readDV
 show (bif x.held then (r320 (l,(t,()))).bind (fun r0=>some (((x.held,r0.1),(bAnd .i64 r0.1.1 1,())),()))else some (((x.held,(Int.fdiv x.shift ((2:Int)^(Min.min (Int.toNat (1:Int)) (64:Nat))),())),(bAnd .i64 x.shift 1,())),()))=_
 rw[specPadAt_ok l t h ht,fdiv_2,bAnd_1]
 cases x.held
 ·rfl
 ·show some (((true,(padAt l t,())),(bAnd .i64 (padAt l t) 1,())),())=_
  rw[bAnd_1];rfl
theorem l9In_ok (a b rest by':Int) (ha:0≤a∧a≤20000) (hb:0≤b∧b≤20000) (hr:0≤rest∧rest<by') (hy:by'=32∨by'=64):
  r238 (a,(b,(rest,(by',()))))=some ((if b≤a then false else decide (a+(rest-a%by'+by')%by'<b),()),()):=by
 unfold r238 m238
 refine bind_step (l1Max_0 ha.1) (bind_step (y:=((b,()),())) ?_ ?_)
 ·show r158 (b,((20000:Int),()))=_
  rw[l1Min_ok]
  by_cases h:b<20000
  ·rw[if_pos h]
  ·rw[if_neg h,show b=20000 by omega]
 show (bif leI b a then _ else bif neI by' 0 then (bif neI by' 0 then some ((ltI (wI (a+Int.tmod (wI (wI (rest-Int.tmod a by')+by')) by')) b,()),())else none)else none)=_
 by_cases h:b≤a
 ·rw[leI_t h,if_pos h];rfl
 have hm:=Int.emod_nonneg a (show by'≠0 by omega)
 have hm2:=Int.emod_lt_of_pos a (show 0<by' by omega)
 have hm3:=Int.emod_lt_of_pos (rest-a%by'+by') (show 0<by' by omega)
 have hm4:=Int.emod_nonneg (rest-a%by'+by') (show by'≠0 by omega)
 rw[leI_f h,if_neg h,neI_t (by omega),tmod_nn ha.1,wI_id (x:=rest-a%by') (by omega) (by omega),wI_id (x:=rest-a%by'+by') (by omega) (by omega),tmod_nn (by omega),wI_id (by omega) (by omega)]
 rfl
theorem specBeatIn_ok (a b:Int) (ha:0≤a∧a≤20000) (hb:0≤b∧b≤20000):r208 (a,(b,()))=some ((beatN a b,()),()):=by
 unfold r208 m208
 refine bind_step (l9In_ok a b 0 32 ha hb (by decide) (.inl rfl)) ?_
 have:(if b≤a then false else decide (a+(0-a%32+32)%32<b))=beatN a b:=by
  unfold beatN
  split
  ·exact (decide_eq_false (by omega)).symm
  ·by_cases h:a+(0-a%32+32)%32<b
   ·rw[decide_eq_true h];exact (decide_eq_true (by omega)).symm
   ·rw[decide_eq_false h];exact (decide_eq_false (by omega)).symm
 rw[this]
theorem specBlankIn_ok (a b:Int) (ha:0≤a∧a≤20000) (hb:0≤b∧b≤20000):r161 (a,(b,()))=some ((blankN a b,()),()):=by
 unfold r161 m161
 refine bind_step (l9In_ok a b 48 64 ha hb (by decide) (.inr rfl)) ?_
 have:(if b≤a then false else decide (a+(48-a%64+64)%64<b))=blankN a b:=by
  unfold blankN
  split
  ·exact (decide_eq_false (by omega)).symm
  ·by_cases h:a+(48-a%64+64)%64<b
   ·rw[decide_eq_true h];exact (decide_eq_true (by omega)).symm
   ·rw[decide_eq_false h];exact (decide_eq_false (by omega)).symm
 rw[this]
theorem frames_small {w:PicM} (h:PicP w):w.frames.length≤1000:=by
 have h1:=h.ppu.t
 have h2:=h.frn
 unfold framesN at h2
 omega
theorem samples_small {w:SndM} (h:SndP w):w.samples.length≤2000:=by
 have h1:=h.apu.t
 have h2:=h.sam
 omega
theorem tickP_table (p:PpuM):(tickP p).table=p.table:=by
 unfold tickP
 repeat' split
 all_goals rfl
theorem told_tmod {t:Int} (h:0≤t):eqI (Int.tmod t 64) 48=decide (t%64=48):=by rw[tmod_nn h,eqI_d]
theorem l14Pic_tick (w:PicM) (mark:Int) (h:PicP w) (hd:due w.list w.ppu.T=false):(bif leI mark w.ppu.T then some ((w.t,(false,())),())else bif eqI w.ppu.T 20000 then some ((w.t,(false,())),())else (r242 (w.ppu.t,())).bind fun r0=>
  bif (eqI (Int.tmod w.ppu.T (64:Int)) (48:Int))then (bif (leN (w.frames.length+1) (E.most .n))then (some (((r0.1.1.1,(r0.1.1.2.1,(r0.1.1.2.2.1,(r0.1.1.2.2.2.1,(r0.1.1.2.2.2.2.1,(r0.1.1.2.2.2.2.2.1,(r0.1.1.2.2.2.2.2.2.1,(r0.1.1.2.2.2.2.2.2.2.1,(w.cap,(w.list,((w.frames++[r0.1.2.1]),()))))))))))),(true,())),()))
   else none)
  else some (((r0.1.1.1,(r0.1.1.2.1,(r0.1.1.2.2.1,(r0.1.1.2.2.2.1,(r0.1.1.2.2.2.2.1,(r0.1.1.2.2.2.2.2.1,(r0.1.1.2.2.2.2.2.2.1,(r0.1.1.2.2.2.2.2.2.2.1,(w.cap,(w.list,(w.frames,()))))))))))),(true,())),()))=some (((((stepPic w mark).getD w).t),((stepPic w mark).isSome,())),()):=by
 have hf:=frames_small h
 have ht:=h.ppu.t
 unfold stepPic
 rw[hd,if_neg (by simp)]
 by_cases hm:w.ppu.T<mark∧w.ppu.T<20000
 ·rw[if_pos hm,leI_f (by omega),eqI_f (by omega),cond_false,cond_false]
  refine bind_step (l8Tick_ok w.ppu h.ppu hm.2) ?_
  rw[told_tmod ht.1]
  cases hto:toldP w.ppu with
  |true=>
   rw[show decide (w.ppu.T%64=48)=true from hto,leN_t (by simp only[E.most];omega)]
   rfl
  |false=>
   rw[show decide (w.ppu.T%64=48)=false from hto]
   rfl
 ·rw[if_neg hm]
  by_cases h1:mark≤w.ppu.T
  ·rw[leI_t h1];rfl
  ·rw[leI_f h1,eqI_t (by omega)];rfl
theorem l14Pic_ok (w:PicM) (mark:Int) (h:PicP w):r163 (w.t,(mark,()))=some ((((stepPic w mark).getD w).t,((stepPic w mark).isSome,())),()):=by
 have hl:=h.ring.len
 have hc:=h.ring.c1
 unfold r163 m163
 show (bif ltI 0 (w.list.length:Int)then (bif ltI 0 (w.list.length:Int)then (bif eqI (rdE .t w.list (0:Int)).1 w.ppu.T then _ else _)else none)else _)=_
 by_cases h0:w.list.length=0
 ·rw[ltI_f (by omega),cond_false]
  refine l14Pic_tick w mark h ?_
  rw[List.eq_nil_of_length_eq_zero h0];rfl
 rw[ltI_t (by omega),cond_true,cond_true]
 cases hd:due w.list w.ppu.T with
 |true=>
  obtain ⟨e,e1⟩:=due_cons hd
  have hd0:rdE .t w.list (0:Int)=headR w.list:=by rw[e];rfl
  have htl:List.drop (Int.toNat (1:Int)) w.list=w.list.tail:=by rw[e];rfl
  rw[hd0,eqI_t e1,cond_true]
  show (bif ltI 0 (w.list.length:Int)then (bif leI 1 (w.list.length:Int)then (bif leN (0+(List.drop (Int.toNat (1:Int)) w.list).length) (E.most .t)then _ else none)else none)else none)=_
  rw[ltI_t (by omega),leI_t (by omega),htl,leN_t (by simp only[E.most,List.length_tail];omega)]
  rw[cond_true,cond_true,cond_true]
  have hw:=specPpuWrite_ok w.ppu h.ppu (headR w.list).2.1 (headR w.list).2.2
  rw[←hd0]at hw
  refine bind_step hw ?_
  unfold stepPic
  rw[hd,if_pos rfl,hd0]
  show some (((_,(_,(_,(_,(_,(_,(_,(_,(w.cap,(([]++List.drop (Int.toNat (1:Int)) w.list),_)))))))))),(true,())),())=_
  rw[htl]
  rfl
 |false=>
  have hne:(rdE .t w.list (0:Int)).1≠w.ppu.T:=by
   obtain ⟨x,l,e⟩: ∃x l,w.list=x::l:=by
    cases hw:w.list with
    |nil=>rw[hw]at h0;exact absurd rfl h0
    |cons x l=>exact ⟨x,l,rfl⟩
   rw[e]at hd⊢
   have hd: ¬x.1=w.ppu.T:=by simpa [due] using hd
   exact hd
  rw[eqI_f hne,cond_false]
  exact l14Pic_tick w mark h hd
theorem l14Snd_tick (w:SndM) (mark:Int) (h:SndP w) (hd:due w.list w.apu.T=false):(bif leI mark w.apu.T then some ((w.t,(false,())),())else bif eqI w.apu.T 20000 then some ((w.t,(false,())),())else (r244 (w.apu.t,())).bind fun r0=>
  bif r0.1.2.2.1 then (bif (leN (w.samples.length+1) (E.most .i))then (some (((r0.1.1.1,(r0.1.1.2.1,(r0.1.1.2.2.1,(r0.1.1.2.2.2.1,(r0.1.1.2.2.2.2.1,(r0.1.1.2.2.2.2.2.1,(r0.1.1.2.2.2.2.2.2.1,(w.cap,(w.list,((w.samples++[r0.1.2.1]),())))))))))),(true,())),()))
   else none)
  else some (((r0.1.1.1,(r0.1.1.2.1,(r0.1.1.2.2.1,(r0.1.1.2.2.2.1,(r0.1.1.2.2.2.2.1,(r0.1.1.2.2.2.2.2.1,(r0.1.1.2.2.2.2.2.2.1,(w.cap,(w.list,(w.samples,())))))))))),(true,())),()))=some (((((stepSnd w mark).getD w).t),((stepSnd w mark).isSome,())),()):=by
 have hf:=samples_small h
 have ht:=h.apu.t
 unfold stepSnd
 rw[hd,if_neg (by simp)]
 by_cases hm:w.apu.T<mark∧w.apu.T<20000
 ·rw[if_pos hm,leI_f (by omega),eqI_f (by omega),cond_false,cond_false]
  refine bind_step (l10Tick_ok w.apu h.apu hm.2) ?_
  cases hto:toldA w.apu with
  |true=>
   rw[leN_t (by simp only[E.most];omega)]
   rfl
  |false=>rfl
 ·rw[if_neg hm]
  by_cases h1:mark≤w.apu.T
  ·rw[leI_t h1];rfl
  ·rw[leI_f h1,eqI_t (by omega)];rfl
theorem l14Snd_ok (w:SndM) (mark:Int) (h:SndP w):r164 (w.t,(mark,()))=some ((((stepSnd w mark).getD w).t,((stepSnd w mark).isSome,())),()):=by
 have hl:=h.ring.len
 have hc:=h.ring.c1
 unfold r164 m164
 show (bif ltI 0 (w.list.length:Int)then (bif ltI 0 (w.list.length:Int)then (bif eqI (rdE .t w.list (0:Int)).1 w.apu.T then _ else _)else none)else _)=_
 by_cases h0:w.list.length=0
 ·rw[ltI_f (by omega),cond_false]
  refine l14Snd_tick w mark h ?_
  rw[List.eq_nil_of_length_eq_zero h0];rfl
 rw[ltI_t (by omega),cond_true,cond_true]
 cases hd:due w.list w.apu.T with
 |true=>
  obtain ⟨e,e1⟩:=due_cons hd
  have hd0:rdE .t w.list (0:Int)=headR w.list:=by rw[e];rfl
  have htl:List.drop (Int.toNat (1:Int)) w.list=w.list.tail:=by rw[e];rfl
  rw[hd0,eqI_t e1,cond_true]
  show (bif ltI 0 (w.list.length:Int)then (bif leI 1 (w.list.length:Int)then (bif leN (0+(List.drop (Int.toNat (1:Int)) w.list).length) (E.most .t)then _ else none)else none)else none)=_
  rw[ltI_t (by omega),leI_t (by omega),htl,leN_t (by simp only[E.most,List.length_tail];omega)]
  rw[cond_true,cond_true,cond_true]
  have hw:=specApuWrite_ok w.apu h.apu (headR w.list).2.1 (headR w.list).2.2
  rw[←hd0]at hw
  refine bind_step hw ?_
  unfold stepSnd
  rw[hd,if_pos rfl,hd0]
  show some (((_,(_,(_,(_,(_,(_,(_,(w.cap,(([]++List.drop (Int.toNat (1:Int)) w.list),_))))))))),(true,())),())=_
  rw[htl]
  rfl
 |false=>
  have hne:(rdE .t w.list (0:Int)).1≠w.apu.T:=by
   obtain ⟨x,l,e⟩: ∃x l,w.list=x::l:=by
    cases hw:w.list with
    |nil=>rw[hw]at h0;exact absurd rfl h0
    |cons x l=>exact ⟨x,l,rfl⟩
   rw[e]at hd⊢
   have hd: ¬x.1=w.apu.T:=by simpa [due] using hd
   exact hd
  rw[eqI_f hne,cond_false]
  exact l14Snd_tick w mark h hd
theorem leftPic_fuel {w:PicM} (h:PicP w):leftPic w<fuel:=by
 have:=fuel_big
 have h1:=h.ppu.t
 have h2:=h.ring.len
 have h3:=h.ring.c1
 unfold leftPic
 omega
theorem specPicCatch_loop (mark:Int): ∀(k:Nat) (w:PicM),PicP w→leftPic w+1<k→n131_0 r122 r163 r197 k (mark,()) (w.t,()) (true,())=some (Sum.inl (false,()),((caughtPic w mark).t,()))
 |0,_,_,h=>absurd h (by omega)
 |k+1,w,h,hk=>by
  show (r163 (w.t,(mark,()))).bind _=_
  refine bind_step (l14Pic_ok w mark h) ?_
  cases hs:stepPic w mark with
  |none=>
   rw[caughtPic_none hs]
   obtain ⟨j,rfl⟩: ∃j,k=j+1:=⟨k-1,by omega⟩
   rfl
  |some v=>
   rw[caughtPic_some h hs]
   exact specPicCatch_loop mark k v (stepPic_P h hs).1 (by have:=leftPic_lt h hs;omega)
theorem specSndCatch_loop (mark:Int): ∀(k:Nat) (w:SndM),SndP w→leftSnd w+1<k→n132_0 r123 r164 r198 k (mark,()) (w.t,()) (true,())=some (Sum.inl (false,()),((caughtSnd w mark).t,()))
 |0,_,_,h=>absurd h (by omega)
 |k+1,w,h,hk=>by
  show (r164 (w.t,(mark,()))).bind _=_
  refine bind_step (l14Snd_ok w mark h) ?_
  cases hs:stepSnd w mark with
  |none=>
   rw[caughtSnd_none hs]
   obtain ⟨j,rfl⟩: ∃j,k=j+1:=⟨k-1,by omega⟩
   rfl
  |some v=>
   rw[caughtSnd_some h hs]
   exact specSndCatch_loop mark k v (stepSnd_P h hs).1 (by have:=leftSnd_lt h hs;omega)
theorem l14Picture_ok (w:PicM) (h:PicP w):r197 (w.t,())=some ((w.t,()),()):=by
 have hs:=h.s
 unfold r197 m197
 exact bind_step (l8Copy_ok w.ppu.t h.ppu.s) (bind_step (l13Copy_ok (w.cap,(w.list,())) hs.2.1) (bind_step (l12List_ok w.frames hs.2.2) rfl))
theorem l14Sound_ok (w:SndM) (h:SndP w):r198 (w.t,())=some ((w.t,()),()):=by
 have hs:=h.s
 have hl:w.samples.length≤4398046511104:=hs.2
 unfold r198 m198
 refine bind_step (l13Copy_ok (w.cap,(w.list,())) hs.1) ?_
 show (bif leN (0+w.samples.length) (E.most .i)then _ else none)=_
 rw[leN_t (by simp only[E.most];omega)]
 rfl
theorem specPictureCatch_ok (w:PicM) (mark:Int) (h:PicP w):r131 (w.t,(mark,()))=some (((caughtPic w mark).t,()),()):=by
 unfold r131 m131 L131_0
 have hf:=fuel_big
 have hok:r122 (w.t,())=some ((true,()),()):=by rw[specPictureOk_ok w.t h.s,picOk_iff.2 h]
 refine bind_step hok (bind_step (l14Picture_ok w h) (bind_step (specPicCatch_loop mark fuel w h (by have:=leftPic_fuel h;have h1:=h.ppu.t;have h2:=h.ring.len;have h3:=h.ring.c1;unfold leftPic;omega)) rfl))
theorem specSoundCatch_ok (w:SndM) (mark:Int) (h:SndP w):r132 (w.t,(mark,()))=some (((caughtSnd w mark).t,()),()):=by
 unfold r132 m132 L132_0
 have hf:=fuel_big
 have hok:r123 (w.t,())=some ((true,()),()):=by rw[specSoundOk_ok w.t h.s,sndOk_iff.2 h]
 refine bind_step hok (bind_step (l14Sound_ok w h) (bind_step (specSndCatch_loop mark fuel w h (by have h1:=h.apu.t;have h2:=h.ring.len;have h3:=h.ring.c1;unfold leftSnd;omega)) rfl))
theorem l15Over_ok (s:SplitM) (n:Int) (ht:0≤s.T∧s.T≤20000) (hn:0≤n∧n≤7):r207 (s.t,(n,()))=some ((overN s n,()),()):=by
 unfold r207 m207 overN
 show (bif ltI 20000 (wI (s.T+n))then _ else _)=_
 rw[wI_id (by omega) (by omega)]
 by_cases h:20000<s.T+n
 ·rw[ltI_t h,if_pos h];rfl
 ·rw[ltI_f h,if_neg h];rfl
theorem known_b {s:SplitM} (h:SplitP s):0≤s.knownAt∧s.knownAt≤20000:=by
 have:=h.known
 have:=h.t
 omega
theorem l15Asks_ok (s:SplitM) (h:SplitP s):r209 (s.t,())=some (((if beatN s.knownAt s.T then s.snd.apu.irq else s.known),()),()):=by
 unfold r209 m209
 refine bind_step (specBeatIn_ok _ _ (known_b h) h.t) ?_
 show (bif beatN s.knownAt s.T then some ((s.snd.apu.irq,()),())else some ((s.known,()),()))=_
 cases beatN s.knownAt s.T<;>rfl
def waitO (s:SplitM):Int:=
 if opAccN (opS s)=1∧(rgT (adrS s)).1=2∧picUpM s=false then 1 else if opAccN (opS s)=1∧(rgT (adrS s)).1=3∧sndUpM s=false then 2
 else if opAccN (opS s)=2∧(rgT (adrS s)).1=2∧s.pic.cap≤(s.pic.list.length:Int)then 3 else if opAccN (opS s)=2∧(rgT (adrS s)).1=3∧s.snd.cap≤(s.snd.list.length:Int)then 4
 else overN s (opCycN (opS s))
theorem waitM_eq (s:SplitM):waitM s=if s.nmi then overN s 7 else if mustM s&& !sndUpM s then 2 else if askM s then overN s 7 else waitO s:=rfl
theorem arg_b {s:SplitM} (h:SplitP s):0≤argS s∧argS s≤65535:=argT_b h.mem _
theorem cyc_b (s:SplitM):0≤opCycN (opS s)∧opCycN (opS s)≤7:=by have:=opCycN_b (opS s);omega
def pick4 {T:Type} (k1 k2 g2 g3 c1 c2:Bool) (P S:(Bool→Option T)→Option T) (a b c d e:Option T):Option T:=
 let t4:=bif k2 then (bif g3 then (bif c2 then d else e)else e)else e
 let t3:=bif k2 then (bif g2 then (bif c1 then c else t4)else t4)else t4
 let t2:=bif k1 then (bif g3 then S (fun u=>bif !u then b else t3)else t3)else t3
 bif k1 then (bif g2 then P (fun u=>bif !u then a else t2)else t2)else t2
theorem specTail (s:SplitM) (h:SplitP s):pick4 (eqI (opAccN (opS s)) 1) (eqI (opAccN (opS s)) 2) (eqI (rgT (adrS s)).1 2) (eqI (rgT (adrS s)).1 3) (eqI (s.pic.list.length:Int) s.pic.cap) (eqI (s.snd.list.length:Int) s.snd.cap)
  (fun f=>(r109 (s.t,())).bind fun r=>f r.1.1) (fun f=>(r110 (s.t,())).bind fun r=>f r.1.1) (some (((1:Int),()),())) (some (((2:Int),()),())) (some (((3:Int),()),())) (some (((4:Int),()),()))
  ((r213 (opS s,())).bind fun r8=>(r207 (s.t,r8.1)).bind fun r9=>some ((r9.1:PTup o207),()))=(some (((waitO s,()),())):Option (PTup o207×Unit)):=by
 have e:((r213 (opS s,())).bind fun r8=>(r207 (s.t,r8.1)).bind fun r9=>some ((r9.1:PTup o207),()))=(some ((overN s (opCycN (opS s)),()),()):Option (PTup o207×Unit)):=
  bind_step (specOpCycles_ok (opS s,())) (bind_step (l15Over_ok s (opCycN (opS s)) h.t (cyc_b s)) rfl)
 rw[e]
 have ep:r109 (s.t,())=some ((picUpM s,()),()):=l15PictureUp_ok s.t
 have es:r110 (s.t,())=some ((sndUpM s,()),()):=l15SoundUp_ok s.t
 unfold waitO pick4
 rw[ep,es]
 have l1:=h.pic.ring.len
 have l2:=h.snd.ring.len
 have q1:(eqI (s.pic.list.length:Int) s.pic.cap)=decide (s.pic.cap≤(s.pic.list.length:Int)):=by
  by_cases hq:s.pic.cap≤(s.pic.list.length:Int)
  ·rw[decide_eq_true hq];exact eqI_t (by omega)
  ·rw[decide_eq_false hq];exact eqI_f (by omega)
 have q2:(eqI (s.snd.list.length:Int) s.snd.cap)=decide (s.snd.cap≤(s.snd.list.length:Int)):=by
  by_cases hq:s.snd.cap≤(s.snd.list.length:Int)
  ·rw[decide_eq_true hq];exact eqI_t (by omega)
  ·rw[decide_eq_false hq];exact eqI_f (by omega)
 rw[q1,q2]
 generalize (rgT (adrS s)).1=g
 rcases opAcc_cases (opS s)with o|o|o<;>rw[o]
 ·rfl
 ·by_cases g2:g=2
  ·subst g2
   cases picUpM s<;>rfl
  ·by_cases g3:g=3
   ·subst g3
    cases sndUpM s<;>rfl
   ·rw[eqI_f g2,eqI_f g3,if_neg (fun x=>g2 x.2.1),if_neg (fun x=>g3 x.2.1),if_neg (fun x=>g2 x.2.1),if_neg (fun x=>g3 x.2.1)]
    rfl
 ·by_cases g2:g=2
  ·subst g2
   by_cases hq:s.pic.cap≤(s.pic.list.length:Int)
   ·rw[decide_eq_true hq,if_neg (fun x=>absurd x.1 (by decide)),if_neg (fun x=>absurd x.1 (by decide)),if_pos ⟨rfl,rfl,hq⟩];rfl
   ·rw[decide_eq_false hq,if_neg (fun x=>absurd x.1 (by decide)),if_neg (fun x=>absurd x.1 (by decide)),if_neg (fun x=>hq x.2.2),if_neg (fun x=>absurd x.2.1 (by decide))];rfl
  ·by_cases g3:g=3
   ·subst g3
    by_cases hq:s.snd.cap≤(s.snd.list.length:Int)
    ·rw[decide_eq_true hq,if_neg (fun x=>absurd x.1 (by decide)),if_neg (fun x=>absurd x.1 (by decide)),if_neg (fun x=>absurd x.2.1 (by decide)),if_pos ⟨rfl,rfl,hq⟩];rfl
    ·rw[decide_eq_false hq,if_neg (fun x=>absurd x.1 (by decide)),if_neg (fun x=>absurd x.1 (by decide)),if_neg (fun x=>absurd x.2.1 (by decide)),if_neg (fun x=>hq x.2.2)];rfl
   ·rw[eqI_f g2,eqI_f g3,if_neg (fun x=>g2 x.2.1),if_neg (fun x=>g3 x.2.1),if_neg (fun x=>g2 x.2.1),if_neg (fun x=>g3 x.2.1)]
    rfl
theorem l15Wait_ok (s:SplitM) (h:SplitP s):r143 (s.t,())=some ((waitM s,()),()):=by
 unfold r143 m143
 rw[waitM_eq]
 show (bif s.nmi then _ else bif !s.cpu.i then _ else _)=_
 cases hn:s.nmi with
 |true=>exact bind_step (l15Over_ok s 7 h.t (by decide)) rfl
 |false=>
  rw[cond_false,if_neg (by simp)]
  have em:mustM s=(!s.cpu.i&&beatN s.knownAt s.T):=by unfold mustM;rw[hn];rfl
  have ea:askM s=((if beatN s.knownAt s.T then s.snd.apu.irq else s.known)&& !s.cpu.i):=rfl
  rw[em,ea]
  cases hi:s.cpu.i with
  |true=>
   rw[show (!true&&beatN s.knownAt s.T)=false from rfl,Bool.false_and,if_neg (by simp),show (!true)=false from rfl,Bool.and_false,if_neg (by simp)]
   exact bind_step (specFetch_ok s.img s.mem s.cpu.pc h.mem h.cpu.pc) (bind_step (specAccess_ok (opS s) (argS s) s.cpu h.cpu (arg_b h)) (bind_step (specRegion_ok (adrS s,())) (specTail s h)))
  |false=>
   refine bind_step (specBeatIn_ok _ _ (known_b h) h.t) ?_
   rw[show (!false)=true from rfl,Bool.true_and,Bool.and_true]
   show (bif beatN s.knownAt s.T then _ else _)=_
   cases hb:beatN s.knownAt s.T with
   |false=>
    have k:=l15Asks_ok s h
    rw[hb]at k
    refine bind_step k ?_
    rw[Bool.false_and,if_neg (by simp),if_neg (by simp)]
    cases hk:s.known with
    |true=>exact bind_step (l15Over_ok s 7 h.t (by decide)) rfl
    |false=>exact bind_step (specFetch_ok s.img s.mem s.cpu.pc h.mem h.cpu.pc) (bind_step (specAccess_ok (opS s) (argS s) s.cpu h.cpu (arg_b h)) (bind_step (specRegion_ok (adrS s,())) (specTail s h)))
   |true=>
    refine bind_step (l15SoundUp_ok s.t) ?_
    show (bif !sndUpM s then _ else _)=_
    rw[Bool.true_and]
    cases hs:sndUpM s with
    |false=>rfl
    |true=>
     have k:=l15Asks_ok s h
     rw[hb,if_pos rfl]at k
     refine bind_step k ?_
     simp only[if_true,Bool.not_true,Bool.false_eq_true,if_false]
     cases hk:s.snd.apu.irq with
     |true=>exact bind_step (l15Over_ok s 7 h.t (by decide)) rfl
     |false=>exact bind_step (specFetch_ok s.img s.mem s.cpu.pc h.mem h.cpu.pc) (bind_step (specAccess_ok (opS s) (argS s) s.cpu h.cpu (arg_b h)) (bind_step (specRegion_ok (adrS s,())) (specTail s h)))

end Go.Proofs.YtgeodknaigdenaaGreat.Plain
