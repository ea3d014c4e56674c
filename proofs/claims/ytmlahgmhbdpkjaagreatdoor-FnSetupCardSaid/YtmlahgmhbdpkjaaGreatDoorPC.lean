/- Plain laws of the printed functions: UnitI, ExecI, TimeI, WaitI. No condition beyond those that each lemma states. -/
import Derived.Test.YtmlahgmhbdpkjaaGreatDoorPB
set_option linter.unusedVariables false
set_option linter.unusedSimpArgs false
namespace Go.Proofs.YtmlahgmhbdpkjaaGreatDoor.Plain
open Go Go.Tev
theorem Zkh {a b:Int} (h:0≤a):Int.tdiv a b=a/b:=Int.tdiv_eq_ediv_of_nonneg h
theorem dotI {s at':Int} (ha:0≤at'∧at'≤48) (hs:0≤s∧s≤255):Int.tmod (wI ((wI ((Int.tmod at' 8)+s))+(wI (Int.tdiv at' 8)))) 16=(at'%8+s+at'/8)%16:=by
 rw[Za8 ha.1,Zkh ha.1,Zau (x:=at'%8+s) (by omega) (by omega),Zau (x:=at'/8) (by omega) (by omega),Zau (by omega) (by omega),Za8 (by omega)]
theorem Zvl (p:PpuM) (hs:0≤p.scroll∧p.scroll≤255) (h1:p.table.length=16) (a:Int) (ha:0≤a∧a≤48):r257 (p.t,(a,()))=some ((dotN p a,()),()):=by
 unfold r257 m257 dotN
 simp only[Zab,PpuM.t]
 rw[dotI ha hs,Zao (by omega),Zaj (by omega)]
 rfl
theorem Zs1 {p:PpuM} (h:PpuP p):p.dots.length≤48:=by
 have h2:=h.dots
 split at h2<;>omega
theorem Zu1 {p:PpuM} (c:p.T%64<48):Zc8 p={p with T:=p.T+1,dots:=p.dots++[dotN p (p.T%64)]}∧Zcn p=[]∧ZiY p=false∧Zdl p=false:=by
 unfold Zc8 Zcn ZiY Zdl
 rw[if_pos c,if_neg (by omega),decide_eq_false (by omega)]
 exact ⟨rfl,rfl,rfl,rfl⟩
theorem Zu2 {p:PpuM} (c:p.T%64=48):Zc8 p={p with T:=p.T+1,blank:=true,dots:=[]}∧Zcn p=p.dots∧ZiY p=ltI 127 p.ctrl∧Zdl p=true:=by
 unfold Zc8 Zcn ZiY Zdl
 rw[if_neg (by omega),if_pos c,if_pos c,decide_eq_true c]
 exact ⟨rfl,rfl,rfl,rfl⟩
theorem Zu3 {p:PpuM} (c:p.T%64=63):Zc8 p={p with T:=p.T+1,blank:=false}∧Zcn p=[]∧ZiY p=false∧Zdl p=false:=by
 unfold Zc8 Zcn ZiY Zdl
 rw[if_neg (by omega),if_neg (by omega),if_pos c,if_neg (by omega),decide_eq_false (by omega)]
 exact ⟨rfl,rfl,rfl,rfl⟩
theorem Zu4 {p:PpuM} (c: ¬p.T%64<48) (c2:p.T%64≠48) (c3:p.T%64≠63):Zc8 p={p with T:=p.T+1}∧Zcn p=[]∧ZiY p=false∧Zdl p=false:=by
 unfold Zc8 Zcn ZiY Zdl
 rw[if_neg c,if_neg c2,if_neg c3,if_neg c2,decide_eq_false c2]
 exact ⟨rfl,rfl,rfl,rfl⟩
theorem Zsz (p:PpuM) (h:PpuP p) (ht:p.T<20000):r231 (p.t,())=some ((Zdl p,(Zcn p,(ZiY p,()))),((Zc8 p).t,())):=by
 have h1:=h.t
 have hd:=Zs1 h
 have hm:Int.tmod p.T 64=p.T%64:=Za8 h1.1
 have hw:wI (p.T+1)=p.T+1:=Zau (by omega) (by omega)
 unfold r231 m231
 show (bif ltI (Int.tmod p.T 64) 48 then _ else bif eqI (Int.tmod p.T 64) 48 then _ else bif eqI (Int.tmod p.T 64) 63 then _ else _)=_
 rw[hm]
 by_cases c1:p.T%64<48
 ·obtain ⟨e1,e2,e3,e4⟩:=Zu1 c1
  rw[Zaj c1,cond_true,e1,e2,e3,e4]
  have hdt:=Zvl {p with T:=p.T+1} h.scroll h.len (p.T%64) (by omega)
  rw[←hw,←hm]at hdt
  refine Zaa hdt ?_
  show (bif leN (p.dots.length+1) (E.most .i)then some (_,(((wI (p.T+1)),_),_))else none)=_
  rw[Zc5 (by simp only[E.most];omega),hw,hm]
  rfl
 rw[ZaB c1,cond_false]
 by_cases c2:p.T%64=48
 ·obtain ⟨e1,e2,e3,e4⟩:=Zu2 c2
  rw[Zav c2,cond_true,e1,e2,e3,e4]
  show some (_,(((wI (p.T+1)),_),_))=_
  rw[hw];rfl
 rw[Zaq c2,cond_false]
 by_cases c3:p.T%64=63
 ·obtain ⟨e1,e2,e3,e4⟩:=Zu3 c3
  rw[Zav c3,cond_true,e1,e2,e3,e4]
  show some (_,(((wI (p.T+1)),_),_))=_
  rw[hw];rfl
 ·obtain ⟨e1,e2,e3,e4⟩:=Zu4 c1 c2 c3
  rw[Zaq c3,cond_false,e1,e2,e3,e4]
  show some (_,(((wI (p.T+1)),_),_))=_
  rw[hw];rfl
theorem ZpO (p:PpuM) (h:PpuP p) (reg v:Int):r234 (p.t,(reg,(v,())))=some ((),((Zcx p reg v).t,())):=by
 have ha:=h.addr
 have hl:=h.len
 unfold r234 m234 Zcx r258 m258
 simp only[ZaN,Option.bind_some,Zab,PpuM.t]
 rw[Za8 (show 0≤v%256 by omega),Za8 (show 0≤v%256 by omega),Zau (x:=p.addr+1) (by omega) (by omega),Za8 (show 0≤p.addr+1 by omega),Zao ha.1,Zaj (by omega)]
 by_cases c:reg=0
 ·rw[Zav c,if_pos c];rfl
 rw[Zaq c,if_neg c,cond_false]
 by_cases c:reg=1
 ·rw[Zav c,if_pos c];rfl
 rw[Zaq c,if_neg c,cond_false]
 by_cases c:reg=3
 ·rw[Zav c,if_pos c];rfl
 rw[Zaq c,if_neg c,cond_false]
 by_cases c:reg=4
 ·rw[Zav c,if_pos c];rfl
 rw[Zaq c,if_neg c,cond_false]
 by_cases c:reg=5
 ·rw[Zav c,if_pos c];rfl
 rw[Zaq c,if_neg c,cond_false]
theorem Zsa (p:PpuM) (h:PpuP p) (reg:Int):r249 (p.t,(reg,()))=some ((Zhf p reg,()),((Ze2 p reg).t,())):=by
 have ha:=h.addr
 have hl:=h.len
 have hf:=ZbP p.blank
 unfold r249 m249 Ze2 Zhf r258 m258
 simp only[Zjf,Option.bind_some,Zab,PpuM.t]
 rw[Zau (x:=p.addr+1) (by omega) (by omega),Za8 (show 0≤p.addr+1 by omega),Zao ha.1,Zaj (by omega),Zau (x:=128*Zde p.blank) (by omega) (by omega)]
 by_cases c:reg=2
 ·rw[Zav c,if_pos c,if_pos c];rfl
 rw[Zaq c,if_neg c,if_neg c,cond_false]
 by_cases c:reg=4
 ·rw[Zav c,if_pos c,if_pos c];rfl
 rw[Zaq c,if_neg c,if_neg c,cond_false]
theorem ZkS (a:ApuM) (h:ApuP a) (ht:a.T<20000):r232 (a.t,())=some ((ZfG a,(ZgJ a,())),((ZqU a).t,())):=by
 obtain ⟨t,p,c,b,l,asks,irq⟩:=a
 have ht:t<20000:=ht
 obtain ⟨h1,h2,h3,h4,h5⟩:=h
 have h1:0≤t∧t≤20000:=h1
 have h3:0≤c∧c≤255:=h3
 have h4:0≤b∧b≤1:=h4
 have h5:0≤l∧l≤31:=h5
 unfold r232 m232 ZqU ZfG ZgJ ZpV ZkZ ApuM.t
 simp only
 rw[Za8 h1.1,Za8 h1.1,Zau (x:=t+1) (by omega) (by omega),Zau (x:=1-b) (by omega) (by omega),Zau (x:=l-1) (by omega) (by omega),Zau (x:=c-1) (by omega) (by omega),Zau (x:=8*(1-b)) (by omega) (by omega),Zau (x:=8*b) (by omega) (by omega)]
 by_cases c0:c=0
 ·rw[Zav c0,if_pos c0]
  by_cases l0:0<l
  ·rw[Zaj l0,if_pos l0]
   by_cases t32:t%32=0
   ·rw[Zav t32,Zaq (show t%16≠15 by omega)]
    simp only[cond_true,cond_false,t32,l0,true_and,if_true,show¬t%16=15 by omega,false_and,if_false,Bool.not_false]
    cases irq<;>cases eqI (l-1) 0<;>rfl
   ·rw[Zaq t32]
    simp only[cond_true,cond_false,t32,false_and,if_false]
    by_cases t16:t%16=15
    ·rw[Zav t16,Zaq (show l≠0 by omega)]
     simp only[cond_true,cond_false,Bool.not_true,t16,true_and,ne_eq,show¬l=0 by omega,not_false_eq_true,if_true]
    ·rw[Zaq t16]
     simp only[cond_true,cond_false,Bool.not_false,t16,false_and,if_false]
  ·rw[ZaB l0,if_neg l0]
   have l0':l=0:=by omega
   subst l0'
   by_cases t32:t%32=0
   ·rw[Zav t32,Zaq (show t%16≠15 by omega)]
    simp only[cond_true,cond_false,Bool.not_false,t32,true_and,show¬t%16=15 by omega,false_and,if_false,Int.lt_irrefl]
   ·rw[Zaq t32]
    by_cases t16:t%16=15
    ·rw[Zav t16,Zav (show (0:Int)=0 from rfl)]
     simp only[cond_true,cond_false,Bool.not_true,t32,t16,true_and,ne_eq,not_true_eq_false,false_and,and_false,if_false]
    ·rw[Zaq t16]
     simp only[cond_true,cond_false,Bool.not_false,t32,t16,false_and,if_false]
 ·rw[Zaq c0,if_neg c0]
  by_cases l0:0<l
  ·rw[Zaj l0]
   by_cases t32:t%32=0
   ·rw[Zav t32,Zaq (show t%16≠15 by omega)]
    simp only[cond_true,cond_false,t32,l0,true_and,if_true,show¬t%16=15 by omega,false_and,if_false,Bool.not_false]
    cases irq<;>cases eqI (l-1) 0<;>rfl
   ·rw[Zaq t32]
    simp only[cond_true,cond_false,t32,false_and,if_false]
    by_cases t16:t%16=15
    ·rw[Zav t16,Zaq (show l≠0 by omega)]
     simp only[cond_true,cond_false,Bool.not_true,t16,true_and,ne_eq,show¬l=0 by omega,not_false_eq_true,if_true]
    ·rw[Zaq t16]
     simp only[cond_true,cond_false,Bool.not_false,t16,false_and,if_false]
  ·rw[ZaB l0]
   have l0':l=0:=by omega
   subst l0'
   by_cases t32:t%32=0
   ·rw[Zav t32,Zaq (show t%16≠15 by omega)]
    simp only[cond_true,cond_false,Bool.not_false,t32,true_and,show¬t%16=15 by omega,false_and,if_false,Int.lt_irrefl]
   ·rw[Zaq t32]
    by_cases t16:t%16=15
    ·rw[Zav t16,Zav (show (0:Int)=0 from rfl)]
     simp only[cond_true,cond_false,Bool.not_true,t32,t16,true_and,ne_eq,not_true_eq_false,false_and,and_false,if_false]
    ·rw[Zaq t16]
     simp only[cond_true,cond_false,Bool.not_false,t32,t16,false_and,if_false]
theorem Zfp (a:ApuM) (h:ApuP a) (reg v:Int):r235 (a.t,(reg,(v,())))=some (((Zgo a reg v).t,()),()):=by
 unfold r235 m235 Zgo
 refine Zaa (by rw[ZdT a.t,Zeg.2 h]) ?_
 simp only[Bool.not_true,cond_false,ZaN,Option.bind_some,ApuM.t]
 rw[Za8 (show 0≤v%256 by omega),Za8 (show 0≤v%256 by omega)]
 by_cases c:reg=0
 ·rw[Zav c,if_pos c];rfl
 rw[Zaq c,if_neg c,cond_false]
 by_cases c:reg=1
 ·rw[Zav c,if_pos c];rfl
 rw[Zaq c,if_neg c,cond_false]
 by_cases c:reg=2
 ·rw[Zav c,if_pos c]
  cases a.irq<;>rfl
 rw[Zaq c,if_neg c,cond_false]
 by_cases c:reg=3
 ·rw[Zav c,if_pos c];rfl
 rw[Zaq c,if_neg c,cond_false]
theorem Zge (a:ApuM) (h:ApuP a) (reg:Int):r250 (a.t,(reg,()))=some (((Zhd a reg).t,(Zgl a reg,())),()):=by
 unfold r250 m250 Zhd Zgl
 have f1:=ZbP a.irq
 have f2:=ZbP (ltI 0 a.len)
 by_cases c:reg=2
 ·rw[ZdJ c,if_pos c,if_pos c]
  refine Zaa (by rw[ZdT a.t,Zeg.2 h]) ?_
  simp only[Bool.not_true,cond_false,Zjf,Option.bind_some,ApuM.t]
  rw[Zau (x:=128*Zde a.irq) (by omega) (by omega),Zau (x:=128*Zde a.irq+Zde (ltI 0 a.len)) (by omega) (by omega)]
 ·rw[Zdh c,if_neg c,if_neg c];rfl
theorem Zn1 {n:Int} (h: ¬(0≤n∧n≤29)): ∀c:Int,0≤c→c≤29→eqI n c=false:=fun c h0 h1=>Zaq (by omega)
theorem Zii {n:Int} (h: ¬(0≤n∧n≤29)):ZfV n=false:=decide_eq_false (by omega)
theorem Zle {n:Int} (h: ¬(0≤n∧n≤29)):Zld n=false:=decide_eq_false (by omega)
theorem ZjZ {n:Int} (h:ZfV n=false) (c:CpuM) (arg v:Int):ZgE c n arg v=c:=by
 have h: ¬(n=1∨n=2∨n=14∨n=4∨n=29∨n=5∨n=6∨n=7∨n=8∨n=9):=of_decide_eq_false h
 unfold ZgE
 rw[if_neg (by omega),if_neg (by omega),if_neg (by omega),if_neg (by omega),if_neg (by omega),if_neg (by omega),if_neg (by omega),if_neg (by omega),if_neg (by omega)]
theorem ZnO {n:Int} (h:Zld n=false) (c:CpuM):ZqV c n=c:=by
 have h: ¬(n=10∨n=11∨n=12∨n=13∨n=25∨n=26∨n=27∨n=28):=of_decide_eq_false h
 unfold ZqV
 rw[if_neg (by omega),if_neg (by omega),if_neg (by omega),if_neg (by omega),if_neg (by omega),if_neg (by omega),if_neg (by omega),if_neg (by omega)]
theorem Zss (a b:Int):subS a b true=a%256-b%256:=by unfold subS Zde;simp
theorem Zuk (c:CpuM) (b:Int):cpiT c b={c with z:=eqI (subS c.a b true%256%256) 0,n:=ltI 127 (subS c.a b true%256%256),c:=leI 0 (subS c.a b true)}:=by
 unfold cpiT
 rw[Zss,Int.emod_emod]
 have:leI (b%256) (c.a%256)=leI 0 (c.a%256-b%256):=by
  by_cases h:b%256≤c.a%256
  ·rw[Zao h,Zao (by omega)]
  ·rw[Zf5 h,Zf5 (by omega)]
 rw[this]
theorem Zsc (c:CpuM) (op arg v:Int):r254 (c.t,((op,(arg,())),(v,())))=some ((ZfV op,()),((ZgE c op arg v).t,())):=by
 by_cases h:0≤op∧op≤29
 ·unfold r254 m254
  rcases Zct h with rfl|rfl|rfl|rfl|rfl|rfl|rfl|rfl|rfl|rfl|rfl|rfl|rfl|rfl|rfl|rfl|rfl|rfl|rfl|rfl|rfl|rfl|rfl|rfl|rfl|rfl|rfl|rfl|rfl|rfl<;>simp only[ZgU,Int.reduceEq,decide_true,decide_false,cond_true,cond_false]
  ·rfl
  ·exact Zaa (Zbo c arg) rfl
  ·exact Zaa (Zbo c v) rfl
  ·rfl
  ·exact Zaa (Zjn (c.a,(arg,(c.c,())))) (Zaa (Zbo c (addS c.a arg c.c%256)) rfl)
  ·exact Zaa (Zjx (c.a,(arg,(c.c,())))) (Zaa (Zbo c (subS c.a arg c.c%256)) rfl)
  ·exact Zaa (Zbo c (bAnd .i64 c.a arg)) rfl
  ·exact Zaa (Zbo c (bOr .i64 c.a arg)) rfl
  ·exact Zaa (Zbo c (bXor .i64 c.a arg)) rfl
  ·rw[show ZgE c 9 arg v=cpiT c arg from rfl,Zuk]
   exact Zaa (Zjx (c.a,(arg,(true,())))) (Zaa (Zft (subS c.a arg true%256,())) rfl)
  ·rfl
  ·rfl
  ·rfl
  ·rfl
  ·exact Zaa (Zbo c v) rfl
  ·rfl
  ·rfl
  ·rfl
  ·rfl
  ·rfl
  ·rfl
  ·rfl
  ·rfl
  ·rfl
  ·rfl
  ·rfl
  ·rfl
  ·rfl
  ·rfl
  ·exact Zaa (Zjn (c.a,(v,(c.c,())))) (Zaa (Zbo c (addS c.a v c.c%256)) rfl)
 ·have e:=Zn1 h
  unfold r254 m254
  rw[Zii h,ZjZ (Zii h)]
  simp[e]
theorem Zu7 (c:CpuM) (op arg:Int) (hc:CpuP c):r255 (c.t,((op,(arg,())),()))=some ((Zld op,()),((ZqV c op).t,())):=by
 have hx:=hc.x
 by_cases h:0≤op∧op≤29
 ·unfold r255 m255
  rcases Zct h with rfl|rfl|rfl|rfl|rfl|rfl|rfl|rfl|rfl|rfl|rfl|rfl|rfl|rfl|rfl|rfl|rfl|rfl|rfl|rfl|rfl|rfl|rfl|rfl|rfl|rfl|rfl|rfl|rfl|rfl<;>simp only[ZgU,Int.reduceEq,decide_true,decide_false,cond_true,cond_false]
  ·rfl
  ·rfl
  ·rfl
  ·rfl
  ·rfl
  ·rfl
  ·rfl
  ·rfl
  ·rfl
  ·rfl
  ·exact Zaa (Zgx c c.a) rfl
  ·exact Zaa (Zbo c c.x) rfl
  ·have e:wI (c.x+1)=c.x+1:=Zau (by omega) (by omega)
   have k:=Zgx c (c.x+1)
   rw[←e]at k
   refine Zaa k ?_
   rw[e];rfl
  ·have e:wI (c.x-1)=c.x-1:=Zau (by omega) (by omega)
   have k:=Zgx c (c.x-1)
   rw[←e]at k
   refine Zaa k ?_
   rw[e];rfl
  ·rfl
  ·rfl
  ·rfl
  ·rfl
  ·rfl
  ·rfl
  ·rfl
  ·rfl
  ·rfl
  ·rfl
  ·rfl
  ·rfl
  ·rfl
  ·rfl
  ·rfl
  ·rfl
 ·have e:=Zn1 h
  unfold r255 m255
  rw[Zle h,ZnO (Zle h)]
  simp[e]
theorem Zq3 (x:MemM) (c:CpuM) (h:RamP x) (hc:CpuP c):r271 (x.t,(c.t,()))=some ((),(x.t,((ZsN x c).t,()))):=by
 unfold r271 m271
 exact Zaa (ZeR x c h hc) (Zaa (ZeR x (ZhU c) h (ZhV hc)) (Zaa (ZcE (ZjP x c,(ZjP x (ZhU c),()))) rfl))
theorem Znk (x:MemM) (c:CpuM) (h:RamP x) (hc:CpuP c):r246 (x.t,(c.t,()))=some ((),((ZhW x c).t,((ZfA c).t,()))):=by
 unfold r246 m246
 refine Zaa (ZeS x c (shr8 c.pc) h hc) (Zaa (ZeS (Zmb x c (shr8 c.pc)) (Zma c) c.pc (ZjR h _ _) (ZjQ hc)) rfl)
theorem Zuu (x:MemM) (c:CpuM) (op arg:Int) (h:RamP x) (hc:CpuP c):r256 (x.t,(c.t,((op,(arg,())),())))=some ((),((ZlS x c op).t,((Zqf x c op arg).t,()))):=by
 unfold r256 m256
 refine Zaa (Zdz (arg,())) ?_
 by_cases ho:0≤op∧op≤29
 ·rcases Zct ho with rfl|rfl|rfl|rfl|rfl|rfl|rfl|rfl|rfl|rfl|rfl|rfl|rfl|rfl|rfl|rfl|rfl|rfl|rfl|rfl|rfl|rfl|rfl|rfl|rfl|rfl|rfl|rfl|rfl|rfl<;>simp only[ZgU,Int.reduceEq,decide_true,decide_false,cond_true,cond_false]
  ·rfl
  ·rfl
  ·rfl
  ·rfl
  ·rfl
  ·rfl
  ·rfl
  ·rfl
  ·rfl
  ·rfl
  ·rfl
  ·rfl
  ·rfl
  ·rfl
  ·rfl
  ·rfl
  ·obtain ⟨a,x',s,pc,z,n,cc,i⟩:=c
   cases z<;>rfl
  ·obtain ⟨a,x',s,pc,z,n,cc,i⟩:=c
   cases z<;>rfl
  ·obtain ⟨a,x',s,pc,z,n,cc,i⟩:=c
   cases cc<;>rfl
  ·rfl
  ·exact Zaa (Znk x c h hc) rfl
  ·exact Zaa (Zq3 x c h hc) rfl
  ·exact Zaa (ZeS x c c.a h hc) rfl
  ·exact Zaa (ZeR x c h hc) (Zaa (Zbo (ZhU c) (ZjP x c)) rfl)
  ·exact Zaa (ZeR x c h hc) (Zaa (Ziz (ZhU c) (ZjP x c)) (Zaa (Zq3 x (wfT (ZhU c) (ZjP x c)) h (ZvN (ZhV hc))) rfl))
  ·rfl
  ·rfl
  ·rfl
  ·rfl
  ·rfl
 ·have e:=Zn1 ho
  have e1:ZlS x c op=x:=by
   unfold ZlS
   rw[if_neg (by omega),if_neg (by omega)]
  have e2:Zqf x c op arg=c:=by
   unfold Zqf
   rw[if_neg (by omega),if_neg (by omega),if_neg (by omega),if_neg (by omega),if_neg (by omega),if_neg (by omega),if_neg (by omega),if_neg (by omega),if_neg (by omega)]
  rw[e1,e2]
  simp[e]
theorem Zvr {c:CpuM} (hc:CpuP c) (op:Int):wI (c.pc+ZaP op)=c.pc+ZaP op:=by
 have:=Ztk op
 have:=hc.pc
 exact Zau (by omega) (by omega)
theorem ZmU {op:Int} (h:(ZfV op||Zld op)=true) (x:MemM) (c:CpuM):ZlS x c op=x:=by
 have h:(op=1∨op=2∨op=14∨op=4∨op=29∨op=5∨op=6∨op=7∨op=8∨op=9)∨(op=10∨op=11∨op=12∨op=13∨op=25∨op=26∨op=27∨op=28):=by
  rw[Bool.or_eq_true]at h
  exact h.imp of_decide_eq_true of_decide_eq_true
 unfold ZlS
 rw[if_neg (by omega),if_neg (by omega)]
theorem ZhC (x:MemM) (c:CpuM) (op arg v:Int) (h:RamP x) (hc:CpuP c) (hv:0≤v∧v≤255):r230 (x.t,(c.t,((op,(arg,())),(v,()))))=some ((),((Zn2 x c op).t,((Zqb x c op arg v).t,()))):=by
 unfold r230 m230
 have hp:=ZiR (op:=op) hc
 have ev:v%256=v:=by omega
 have k1:r216 (wI (c.pc+ZaP op),())=some (((c.pc+ZaP op)%65536,()),()):=by
  rw[Zdz (wI (c.pc+ZaP op),()),Zvr hc]
 have k2:r194 (v,())=some ((v,()),()):=by
  rw[ZaN (v,())]
  show some ((v%256,()),())=_
  rw[ev]
 refine Zaa (ZdV (op,())) (Zaa k1 (Zaa k2 (Zaa (Zsc (Zis c op) op arg v) ?_)))
 unfold Zn2 Zqb
 cases hr:ZfV op with
 |true=>
  rw[ZmU (by rw[hr];rfl)]
  rfl
 |false=>
  rw[ZjZ hr]
  refine Zaa (Zu7 (Zis c op) op arg hp) ?_
  cases ht:Zld op with
  |true=>
   rw[ZmU (by rw[ht,Bool.or_true])]
   rfl
  |false=>
   rw[ZnO ht]
   exact Zaa (Zuu x (Zis c op) op arg h hp) rfl
theorem ZoV (x:MemM) (c:CpuM) (to:Int) (h:RamP x) (hc:CpuP c):r227 (x.t,(c.t,(to,())))=some ((),((Zk4 x c).t,((ZoU c to).t,()))):=by
 unfold r227 m227
 exact Zaa (Znk x c h hc) (Zaa (ZmY (ZfA c)) (Zaa (ZeS (ZhW x c) (ZfA c) (ZoY (ZfA c)) (ZjT h) (ZjS hc)) rfl))
theorem ZrZ {f:List (List Int)} {x:MemM} {pc:Int} (h:MemP f x) (hp:0≤pc∧pc≤65535) (k:Int) (hk:k=1∨k=2):r195 ((f,()),(x.t,(wI (pc+k),())))=some ((Zbx f x (pc+k),()),()):=by
 rw[Zau (by omega) (by omega)]
 exact Zbt f x (pc+k) h
theorem ZfS (f:List (List Int)) (x:MemM) (pc:Int) (h:MemP f x) (hp:0≤pc∧pc≤65535):r186 ((f,()),(x.t,(pc,())))=some (((opT f x pc,(argT f x pc,())),()),()):=by
 unfold r186 m186
 refine Zaa (Zbt f x pc h) (Zaa (ZdV (Zbx f x pc,())) ?_)
 show (bif eqI (ZaP (Zbx f x pc)) 2 then _ else bif eqI (ZaP (Zbx f x pc)) 3 then _ else _)=_
 unfold argT opT
 by_cases c2:ZaP (Zbx f x pc)=2
 ·rw[Zav c2,if_pos c2]
  exact Zaa (ZrZ h hp 1 (.inl rfl)) rfl
 rw[Zaq c2,if_neg c2,cond_false]
 by_cases c3:ZaP (Zbx f x pc)=3
 ·rw[Zav c3,if_pos c3]
  exact Zaa (ZrZ h hp 1 (.inl rfl)) (Zaa (ZrZ h hp 2 (.inr rfl)) (Zaa (ZcE (Zbx f x (pc+1),(Zbx f x (pc+2),()))) rfl))
 ·rw[Zaq c3,if_neg c3];rfl
theorem ZjK (op:Int):ZaX op=0∨ZaX op=1∨ZaX op=2:=by
 unfold ZaX
 split
 ·exact .inr (.inl rfl)
 split
 ·exact .inr (.inr rfl)
 ·exact .inl rfl
theorem Zdf (op arg:Int) (c:CpuM) (hc:CpuP c) (ha:0≤arg∧arg≤65535):r187 ((op,(arg,())),(c.t,()))=some ((ZaX op,(accA op arg c.x,(accV op c.a,()))),()):=by
 have hx:=hc.x
 have e:wI (arg+c.x)=arg+c.x:=Zau (by omega) (by omega)
 have k:r216 (wI (arg+c.x),())=some (((arg+c.x)%65536,()),()):=by rw[Zdz (wI (arg+c.x),()),e]
 unfold r187 m187
 refine Zaa (Zjs (op,())) (Zaa (Zdz (arg,())) ?_)
 show (bif eqI op 14 then _ else bif eqI op 15 then _ else bif eqI (ZaX op) 1 then _ else bif eqI (ZaX op) 2 then _ else _)=_
 unfold accA accV
 by_cases c1:op=14
 ·subst c1
  rw[Zav rfl,cond_true]
  exact Zaa k rfl
 by_cases c2:op=15
 ·subst c2
  rw[Zaq (show (15:Int)≠14 by decide),Zav rfl,cond_true,cond_false]
  refine Zaa k ?_
  simp only[show ZaX 15=2 from rfl,ZgU,Int.reduceEq,decide_true,decide_false,cond_true,cond_false]
  exact Zaa (ZaN (c.a,())) rfl
 rw[Zaq c1,Zaq c2,cond_false,cond_false,if_neg (c:=op=14∨op=15) (by omega)]
 rcases ZjK op with o|o|o<;>rw[o]<;>simp only[ZgU,Int.reduceEq,decide_true,decide_false,cond_true,cond_false]
 ·rfl
 ·rfl
 ·exact Zaa (ZaN (c.a,())) rfl
theorem ZvA {t:Int} (h:0≤t):mxI t 0=t:=by unfold mxI;rw[if_neg (by omega)]
theorem Zkz (t:Int) (ht:0≤t∧t≤20000):r274 (t,())=some ((t/64,()),()):=by
 unfold r274 m274
 show some ((wI (Int.tdiv (mxI t 0) 64),()),())=_
 rw[ZvA ht.1,Zkh ht.1,Zau (by omega) (by omega)]
theorem Zie (l:List Int) (t:Int) (h:ZgL l) (ht:0≤t∧t≤20000):r265 (l,(t,()))=some ((ZkG l t,()),()):=by
 have hl:=h.len
 unfold r265 m265 ZkG
 refine Zaa (by rw[ZeQ l (by omega),Zdo.2 h]) ?_
 show (bif eqI (l.length:Int) 0 then _ else _)=_
 by_cases h0:l.length=0
 ·rw[Zav (by omega),if_pos h0];rfl
 rw[Zaq (by omega),if_neg h0,cond_false]
 refine Zaa (Zkz t ht) ?_
 have hm:Int.tmod (t/64) (l.length:Int)=(t/64)% (l.length:Int):=Za8 (by omega)
 have b0:=Int.emod_nonneg (t/64) (show (l.length:Int)≠0 by omega)
 have b1:=Int.emod_lt_of_pos (t/64) (show 0< (l.length:Int) by omega)
 show (bif neI (l.length:Int) 0 then (bif leI 0 (Int.tmod (t/64) (l.length:Int))then (bif ltI (Int.tmod (t/64) (l.length:Int)) (l.length:Int)then some ((rdE .i l (Int.tmod (t/64) (l.length:Int)),()),())else none)else none)else none)=_
 rw[Zdh (by omega),hm,Zao b0,Zaj b1]
 rfl
theorem Zfs (x:PadM) (l:List Int) (t v:Int) (h:ZgL l) (ht:0≤t∧t≤20000):r252 (x.t,(l,(t,(v,()))))=some (((ZlC x l t v).t,()),()):=by
 unfold r252 m252 ZlC
 show (bif eqI (bAnd .i64 v 1) 1 then (r265 (l,(t,()))).bind (fun r0=>some (((eqI (bAnd .i64 v 1) 1,r0.1),()),()))else bif x.held then (r265 (l,(t,()))).bind (fun r0=>some (((eqI (bAnd .i64 v 1) 1,r0.1),()),()))else some (((eqI (bAnd .i64 v 1) 1,(x.shift,())),()),()))=_
 rw[Zq1,Zie l t h ht]
 cases eqI (v%2) 1<;>cases x.held<;>rfl
theorem Zvo (x:Int):Int.fdiv x ((2:Int)^(Min.min (Int.toNat (1:Int)) (64:Nat)))=x/2:=Int.fdiv_eq_ediv_of_nonneg x (by decide)
theorem Zgf (x:PadM) (l:List Int) (t:Int) (h:ZgL l) (ht:0≤t∧t≤20000):r251 (x.t,(l,(t,())))=some (((ZqK x l t).t,(Zhe x l t,())),()):=by
 unfold r251 m251 ZqK Zhe
 show (bif x.held then (r265 (l,(t,()))).bind (fun r0=>some (((true,r0.1),(bAnd .i64 r0.1.1 1,())),()))else some (((false,(Int.fdiv x.shift ((2:Int)^(Min.min (Int.toNat (1:Int)) (64:Nat))),())),(bAnd .i64 x.shift 1,())),()))=_
 rw[Zie l t h ht,Zvo,Zq1]
 cases x.held
 ·rfl
 ·show some (((true,(ZkG l t,())),(bAnd .i64 (ZkG l t) 1,())),())=_
  rw[Zq1];rfl
theorem Zhp (t:Int) (ht:0≤t∧t≤20000):r261 (t,())=some ((t,()),()):=by
 unfold r261 m261
 show some ((mnI (mxI t 0) 20000,()),())=_
 rw[ZvA ht.1]
 unfold mnI
 rw[if_neg (by omega)]
theorem ZcN (t rest by':Int) (ht:0≤t∧t≤20000) (hr:0≤rest∧rest<by') (hb:by'=32∨by'=64):r139 (t,(rest,(by',())))=some (((t+(by'-1-rest))/by',()),()):=by
 unfold r139 m139
 show (bif neI by' 0 then some ((wI (Int.tdiv (wI (wI (wI (t+by')-1)-rest)) by'),()),())else none)=_
 rw[Zdh (by omega),Zau (x:=t+by') (by omega) (by omega),Zau (x:=t+by'-1) (by omega) (by omega),Zau (x:=t+by'-1-rest) (by omega) (by omega),Zkh (by omega),show t+by'-1-rest=t+(by'-1-rest) by omega]
 rcases hb with rfl|rfl
 ·rw[Zau (by omega) (by omega)];rfl
 ·rw[Zau (by omega) (by omega)];rfl
theorem ZgY (a b:Int) (ha:0≤a∧a≤20000) (hb:0≤b∧b≤20000):r214 (a,(b,()))=some ((Zkt a b,()),()):=by
 unfold r214 m214 r240 m240
 exact Zaa (Zaa (Zhp a ha) (Zaa (ZcN a 0 32 ha (by decide) (.inl rfl)) (Zaa (Zhp b hb) (Zaa (ZcN b 0 32 hb (by decide) (.inl rfl)) rfl)))) rfl
theorem Zky (a b:Int) (ha:0≤a∧a≤20000) (hb:0≤b∧b≤20000):r239 (a,(b,()))=some ((ZtP a b,()),()):=by
 unfold r239 m239 r240 m240
 exact Zaa (Zaa (Zhp a ha) (Zaa (ZcN a 48 64 ha (by decide) (.inr rfl)) (Zaa (Zhp b hb) (Zaa (ZcN b 48 64 hb (by decide) (.inr rfl)) rfl)))) rfl
theorem Zum {l:List Rc} {t:Int} (h:due l t=true):0<l.length:=by
 obtain ⟨e,_⟩:=ZiI h
 rw[e];simp
theorem Zph (cap t:Int) (l:List Rc) (h:due l t=true):r233 ((cap,(l,())),(t,()))=some ((((ZeO l).1,((ZeO l).2.1,((ZeO l).2.2,()))),(true,())),((cap,(l.tail,())),())):=by
 obtain ⟨e,e1⟩:=ZiI h
 have hl:=Zum h
 unfold r233 m233
 have hd:rdE .t l (0:Int)=ZeO l:=by rw[e];rfl
 have ht:List.drop (Int.toNat (1:Int)) l=l.tail:=by rw[e];rfl
 show (bif eqI (l.length:Int) 0 then _ else bif ltI 0 (l.length:Int)then (bif neI (rdE .t l (0:Int)).1 t then _ else bif ltI 0 (l.length:Int)then (bif leI 1 (l.length:Int)then some ((((rdE .t l (0:Int)).1,((rdE .t l (0:Int)).2.1,((rdE .t l (0:Int)).2.2,()))),(true,())),((cap,(List.drop (Int.toNat (1:Int)) l,())),()))else none)else none)else none)=_
 rw[Zaq (by omega),Zaj (by omega),Zao (by omega),hd,ht,ZdJ e1]
 rfl
theorem Zpi (cap t:Int) (l:List Rc) (h:due l t=false):r233 ((cap,(l,())),(t,()))=some ((((0:Int),((0:Int),((0:Int),()))),(false,())),((cap,(l,())),())):=by
 unfold r233 m233
 cases l with
 |nil=>rfl
 |cons x l=>
  have h:x.1≠t:=by simpa [due] using h
  show (bif eqI ((x::l).length:Int) 0 then _ else bif ltI 0 ((x::l).length:Int)then (bif neI x.1 t then _ else _)else none)=_
  rw[Zaq (by simp only[List.length_cons];omega),Zaj (by simp only[List.length_cons];omega),Zdh h]
  rfl
theorem ZpF {t mark:Int}:leI (mnI mark 20000) t= !decide (t<mark∧t<20000):=by
 unfold mnI
 split
 ·by_cases h:t<mark∧t<20000
  ·rw[Zf5 (by omega),decide_eq_true h];rfl
  ·rw[Zao (by omega),decide_eq_false h];rfl
 ·by_cases h:t<mark∧t<20000
  ·rw[Zf5 (by omega),decide_eq_true h];rfl
  ·rw[Zao (by omega),decide_eq_false h];rfl
theorem ZmV {w:PicM} (h:PicP w):w.frames.length≤1000:=by
 have h1:=h.ppu.t
 have h2:=h.frn
 unfold ZbN at h2
 omega
theorem Zmh {w:SndM} (h:SndP w):w.samples.length≤2000:=by
 have h1:=h.apu.t
 have h2:=h.sam
 omega
theorem ZgK (p:PpuM) (reg v:Int):(Zcx p reg v).dots=p.dots:=by
 unfold Zcx
 repeat' split
 all_goals rfl
theorem Ze8 (p:PpuM):(Zc8 p).table=p.table:=by
 unfold Zc8
 repeat' split
 all_goals rfl
theorem ZfZ (p:PpuM) (reg:Int):(Ze2 p reg).table=p.table∧(Ze2 p reg).dots=p.dots:=by
 unfold Ze2
 repeat' split
 all_goals exact ⟨rfl,rfl⟩
theorem Zls (w:PicM) (mark:Int) (h:PicP w):r211 (w.t,(mark,()))=some (((Za2 w mark).isSome,()),(((Za2 w mark).getD w).t,())):=by
 have hf:=ZmV h
 unfold r211 m211 Za2
 cases hd:due w.list w.ppu.T with
 |true=>
  rw[if_pos rfl]
  refine Zaa (Zph w.cap w.ppu.T w.list hd) (Zaa (ZpO w.ppu h.ppu (ZeO w.list).2.1 (ZeO w.list).2.2) ?_)
  have e:=ZgK w.ppu (ZeO w.list).2.1 (ZeO w.list).2.2
  generalize Zcx w.ppu (ZeO w.list).2.1 (ZeO w.list).2.2=q at e⊢
  obtain ⟨T,c,s,ad,pal,bl,tb,ds⟩:=q
  have e:ds=w.ppu.dots:=e
  subst e
  rfl
 |false=>
  rw[if_neg (by simp)]
  refine Zaa (Zpi w.cap w.ppu.T w.list hd) ?_
  show (bif leI (mnI mark 20000) w.ppu.T then _ else _)=_
  rw[ZpF]
  by_cases hm:w.ppu.T<mark∧w.ppu.T<20000
  ·rw[decide_eq_true hm,if_pos hm]
   refine Zaa (Zsz w.ppu h.ppu hm.2) ?_
   have e:=Ze8 w.ppu
   generalize Zc8 w.ppu=q at e⊢
   obtain ⟨T,c,s,ad,pal,bl,tb,ds⟩:=q
   have e:tb=w.ppu.table:=e
   subst e
   cases ht:Zdl w.ppu with
   |true=>
    show (bif leN (w.frames.length+1) (E.most .n)then _ else none)=_
    rw[Zc5 (by simp only[E.most];omega)]
    rfl
   |false=>rfl
  ·rw[decide_eq_false hm,if_neg hm]
   rfl
theorem Zlw (w:SndM) (mark:Int) (h:SndP w):r212 (w.t,(mark,()))=some (((Za3 w mark).isSome,()),(((Za3 w mark).getD w).t,())):=by
 have hf:=Zmh h
 unfold r212 m212 Za3
 cases hd:due w.list w.apu.T with
 |true=>
  rw[if_pos rfl]
  exact Zaa (Zph w.cap w.apu.T w.list hd) (Zaa (Zfp w.apu h.apu (ZeO w.list).2.1 (ZeO w.list).2.2) rfl)
 |false=>
  rw[if_neg (by simp)]
  refine Zaa (Zpi w.cap w.apu.T w.list hd) ?_
  show (bif leI (mnI mark 20000) w.apu.T then _ else _)=_
  rw[ZpF]
  by_cases hm:w.apu.T<mark∧w.apu.T<20000
  ·rw[decide_eq_true hm,if_pos hm]
   refine Zaa (ZkS w.apu h.apu hm.2) ?_
   cases ht:ZgJ w.apu with
   |true=>
    show (bif leN (w.samples.length+1) (E.most .i)then _ else none)=_
    rw[Zc5 (by simp only[E.most];omega)]
    rfl
   |false=>rfl
  ·rw[decide_eq_false hm,if_neg hm]
   rfl
theorem Zha (mark:Int): ∀(k:Nat) (w:PicM),PicP w→Zb0 w<k→n180_0 r211 k (mark,()) (w.t,()) ()=some (Sum.inl (),((ZaH w mark).t,()))
 |0,_,_,h=>absurd h (by omega)
 |k+1,w,h,hk=>by
  show (r211 (w.t,(mark,()))).bind _=_
  refine Zaa (Zls w mark h) ?_
  cases hs:Za2 w mark with
  |none=>rw[Zb5 hs];rfl
  |some v=>
   rw[Zga h hs]
   exact Zha mark k v (ZdG h hs).1 (by have:=Zeq h hs;omega)
theorem Zhk (mark:Int): ∀(k:Nat) (w:SndM),SndP w→Zb1 w<k→n181_0 r212 k (mark,()) (w.t,()) ()=some (Sum.inl (),((ZaI w mark).t,()))
 |0,_,_,h=>absurd h (by omega)
 |k+1,w,h,hk=>by
  show (r212 (w.t,(mark,()))).bind _=_
  refine Zaa (Zlw w mark h) ?_
  cases hs:Za3 w mark with
  |none=>rw[Zb6 hs];rfl
  |some v=>
   rw[Zgb h hs]
   exact Zhk mark k v (ZdH h hs).1 (by have:=Zer h hs;omega)
theorem Zm5 {w:PicM} (h:PicP w):Zb0 w<fuel:=by
 have:=Zat
 have h1:=h.ppu.t
 have h2:=h.ring.len
 have h3:=h.ring.c1
 unfold Zb0
 omega
theorem Zm6 {w:SndM} (h:SndP w):Zb1 w<fuel:=by
 have:=Zat
 have h1:=h.apu.t
 have h2:=h.ring.len
 have h3:=h.ring.c1
 unfold Zb1
 omega
theorem Zov (w:PicM) (mark:Int) (h:PicP w):r180 (w.t,(mark,()))=some ((),((ZaH w mark).t,())):=by
 unfold r180 m180 L180_0
 exact Zaa (Zha mark fuel w h (Zm5 h)) rfl
theorem ZoG (w:SndM) (mark:Int) (h:SndP w):r181 (w.t,(mark,()))=some ((),((ZaI w mark).t,())):=by
 unfold r181 m181 L181_0
 exact Zaa (Zhk mark fuel w h (Zm6 h)) rfl
theorem Zl9 (s:Zac) (n:Int) (ht:0≤s.T∧s.T≤20000) (hn:0≤n∧n≤7):r183 (s.t,(n,()))=some ((Zf6 s n,()),()):=by
 unfold r183 m183 Zf6
 show (bif ltI 20000 (wI (s.T+n))then _ else _)=_
 rw[Zau (by omega) (by omega)]
 by_cases h:20000<s.T+n
 ·rw[Zaj h,if_pos h];rfl
 ·rw[ZaB h,if_neg h];rfl
theorem ZrD {s:Zac} (h:Zaz s):0≤s.knownAt∧s.knownAt≤20000:=by
 have:=h.known
 have:=h.t
 omega
theorem Zlo (s:Zac) (h:Zaz s):r184 (s.t,())=some ((ZjE s,()),()):=by
 unfold r184 m184 ZjE
 show (bif !s.nmi then (bif !s.cpu.i then (r214 (s.knownAt,(s.T,()))).bind _ else _)else _)=_
 rw[ZgY _ _ (ZrD h) h.t]
 cases s.nmi<;>cases s.cpu.i<;>rfl
theorem ZfU (s:Zac) (h:Zaz s):r185 (s.t,())=some ((askM s,()),()):=by
 unfold r185 m185 askM
 refine Zaa (ZgY _ _ (ZrD h) h.t) ?_
 show (bif Zkt s.knownAt s.T then (bif s.snd.apu.irq then some ((!s.cpu.i,()),())else _)else bif s.known then some ((!s.cpu.i,()),())else _)=_
 cases Zkt s.knownAt s.T<;>cases s.snd.apu.irq<;>cases s.known<;>rfl
def Zu8 (s:Zac):Int:=
 if ZaX (opS s)=1∧(rgT (adrS s)).1=2∧Zgk s=false then 1 else if ZaX (opS s)=1∧(rgT (adrS s)).1=3∧Zd3 s=false then 2
 else if ZaX (opS s)=2∧(rgT (adrS s)).1=2∧s.pic.cap≤(s.pic.list.length:Int)then 3 else if ZaX (opS s)=2∧(rgT (adrS s)).1=3∧s.snd.cap≤(s.snd.list.length:Int)then 4
 else Zf6 s (Zba (opS s))
theorem ZtJ (s:Zac):ZdN s=if s.nmi then Zf6 s 7 else if ZjE s&& !Zd3 s then 2 else if askM s then Zf6 s 7 else Zu8 s:=rfl
theorem Zt8 {s:Zac} (h:Zaz s):0≤argS s∧argS s≤65535:=ZtO h.mem _
theorem ZvR (s:Zac):0≤Zba (opS s)∧Zba (opS s)≤7:=by have:=ZfW (opS s);omega
def ZvE {T:Type} (k1 k2 g2 g3 c1 c2:Bool) (P S:(Bool→Option T)→Option T) (a b c d e:Option T):Option T:=
 let t4:=bif k2 then (bif g3 then (bif c2 then d else e)else e)else e
 let t3:=bif k2 then (bif g2 then (bif c1 then c else t4)else t4)else t4
 let t2:=bif k1 then (bif g3 then S (fun u=>bif !u then b else t3)else t3)else t3
 bif k1 then (bif g2 then P (fun u=>bif !u then a else t2)else t2)else t2
theorem Zo2 (s:Zac) (h:Zaz s):ZvE (eqI (ZaX (opS s)) 1) (eqI (ZaX (opS s)) 2) (eqI (rgT (adrS s)).1 2) (eqI (rgT (adrS s)).1 3) (leI s.pic.cap (s.pic.list.length:Int)) (leI s.snd.cap (s.snd.list.length:Int))
  (fun f=>(r145 (s.t,())).bind fun r=>f r.1.1) (fun f=>(r146 (s.t,())).bind fun r=>f r.1.1) (some (((1:Int),()),())) (some (((2:Int),()),())) (some (((3:Int),()),())) (some (((4:Int),()),()))
  ((r189 (opS s,())).bind fun r8=>(r183 (s.t,r8.1)).bind fun r9=>some ((r9.1:PTup o183),()))=(some (((Zu8 s,()),())):Option (PTup o183×Unit)):=by
 have e:((r189 (opS s,())).bind fun r8=>(r183 (s.t,r8.1)).bind fun r9=>some ((r9.1:PTup o183),()))=(some ((Zf6 s (Zba (opS s)),()),()):Option (PTup o183×Unit)):=
  Zaa (ZbQ (opS s,())) (Zaa (Zl9 s (Zba (opS s)) h.t (ZvR s)) rfl)
 rw[e]
 have ep:r145 (s.t,())=some ((Zgk s,()),()):=Zfe s.t
 have es:r146 (s.t,())=some ((Zd3 s,()),()):=Zed s.t
 unfold Zu8 ZvE
 rw[ep,es]
 have l1:=h.pic.ring.len
 have l2:=h.snd.ring.len
 have q1:(leI s.pic.cap (s.pic.list.length:Int))=decide (s.pic.cap≤(s.pic.list.length:Int)):=by
  by_cases hq:s.pic.cap≤(s.pic.list.length:Int)
  ·rw[decide_eq_true hq];exact Zao hq
  ·rw[decide_eq_false hq];exact Zf5 hq
 have q2:(leI s.snd.cap (s.snd.list.length:Int))=decide (s.snd.cap≤(s.snd.list.length:Int)):=by
  by_cases hq:s.snd.cap≤(s.snd.list.length:Int)
  ·rw[decide_eq_true hq];exact Zao hq
  ·rw[decide_eq_false hq];exact Zf5 hq
 rw[q1,q2]
 generalize (rgT (adrS s)).1=g
 rcases ZjK (opS s)with o|o|o<;>rw[o]
 ·rfl
 ·by_cases g2:g=2
  ·subst g2
   cases Zgk s<;>rfl
  ·by_cases g3:g=3
   ·subst g3
    cases Zd3 s<;>rfl
   ·rw[Zaq g2,Zaq g3,if_neg (fun x=>g2 x.2.1),if_neg (fun x=>g3 x.2.1),if_neg (fun x=>g2 x.2.1),if_neg (fun x=>g3 x.2.1)]
    rfl
 ·by_cases g2:g=2
  ·subst g2
   by_cases hq:s.pic.cap≤(s.pic.list.length:Int)
   ·rw[decide_eq_true hq,if_neg (fun x=>absurd x.1 (by decide)),if_neg (fun x=>absurd x.1 (by decide)),if_pos ⟨rfl,rfl,hq⟩];rfl
   ·rw[decide_eq_false hq,if_neg (fun x=>absurd x.1 (by decide)),if_neg (fun x=>absurd x.1 (by decide)),if_neg (fun x=>hq x.2.2),if_neg (fun x=>absurd x.2.1 (by decide))];rfl
  ·by_cases g3:g=3
   ·subst g3
    by_cases hq:s.snd.cap≤(s.snd.list.length:Int)
    ·rw[decide_eq_true hq,if_neg (fun x=>absurd x.1 (by decide)),if_neg (fun x=>absurd x.1 (by decide)),if_neg (fun x=>absurd x.2.1 (by decide)),if_pos ⟨rfl,rfl,hq⟩];rfl
    ·rw[decide_eq_false hq,if_neg (fun x=>absurd x.1 (by decide)),if_neg (fun x=>absurd x.1 (by decide)),if_neg (fun x=>absurd x.2.1 (by decide)),if_neg (fun x=>hq x.2.2)];rfl
   ·rw[Zaq g2,Zaq g3,if_neg (fun x=>g2 x.2.1),if_neg (fun x=>g3 x.2.1),if_neg (fun x=>g2 x.2.1),if_neg (fun x=>g3 x.2.1)]
    rfl
theorem ZoP (s:Zac) (h:Zaz s):r150 (s.t,())=some ((ZdN s,()),()):=by
 unfold r150 m150
 rw[ZtJ]
 show (bif s.nmi then _ else _)=_
 cases hn:s.nmi with
 |true=>exact Zaa (Zl9 s 7 h.t (by decide)) rfl
 |false=>
  rw[cond_false,if_neg (by simp)]
  refine Zaa (Zlo s h) ?_
  cases hm:ZjE s with
  |false=>
   refine Zaa (ZfU s h) ?_
   rw[Bool.false_and,if_neg (by simp)]
   cases ha:askM s with
   |true=>exact Zaa (Zl9 s 7 h.t (by decide)) rfl
   |false=>exact Zaa (ZfS s.img s.mem s.cpu.pc h.mem h.cpu.pc) (Zaa (Zdf (opS s) (argS s) s.cpu h.cpu (Zt8 h)) (Zaa (Zbu (adrS s,())) (Zo2 s h)))
  |true=>
   refine Zaa (Zed s.t) ?_
   show (bif !Zd3 s then _ else _)=_
   rw[Bool.true_and]
   cases hs:Zd3 s with
   |false=>rfl
   |true=>
    refine Zaa (ZfU s h) ?_
    rw[if_neg (by simp)]
    cases ha:askM s with
    |true=>exact Zaa (Zl9 s 7 h.t (by decide)) rfl
    |false=>exact Zaa (ZfS s.img s.mem s.cpu.pc h.mem h.cpu.pc) (Zaa (Zdf (opS s) (argS s) s.cpu h.cpu (Zt8 h)) (Zaa (Zbu (adrS s,())) (Zo2 s h)))

end Go.Proofs.YtmlahgmhbdpkjaaGreatDoor.Plain
