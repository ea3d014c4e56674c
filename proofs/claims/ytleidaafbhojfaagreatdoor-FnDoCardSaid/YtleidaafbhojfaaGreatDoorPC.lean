/- Plain laws of the printed functions: UnitI, ExecI, TimeI, WaitI. No condition beyond those that each lemma states. -/
import Derived.Test.YtleidaafbhojfaaGreatDoorPB
set_option linter.unusedVariables false
set_option linter.unusedSimpArgs false
namespace Go.Proofs.YtleidaafbhojfaaGreatDoor.Plain
open Go Go.Tev
theorem W9 {a b:Int} (h:0≤a):Int.tdiv a b=a/b:=Int.tdiv_eq_ediv_of_nonneg h
theorem ZsN {s at':Int} (ha:0≤at'∧at'≤48) (hs:0≤s∧s≤255):Int.tmod (wI ((wI ((Int.tmod at' 8)+s))+(wI (Int.tdiv at' 8)))) 16=(at'%8+s+at'/8)%16:=by
 rw[Qt ha.1,W9 ha.1,Zj (x:=at'%8+s) (by omega) (by omega),Zj (x:=at'/8) (by omega) (by omega),Zj (by omega) (by omega),Qt (by omega)]
theorem Zpr (p:ZJ) (h:JI p) (a:Int) (ha:0≤a∧a≤48):r245 (p.t,(a,()))=some ((V5 p a,()),()):=by
 have h1:=h.len
 unfold r245 m245 V5
 simp only[Zl,ZJ.t]
 rw[ZsN ha h.scroll,Zo (by omega),Zf (by omega)]
 rfl
theorem ZrB (p:ZJ) (hs:0≤p.scroll∧p.scroll≤255) (h1:p.table.length=16) (a:Int) (ha:0≤a∧a≤48):r350 (p.t,(a,()))=some ((V5 p a,()),()):=by
 unfold r350 m350 V5
 simp only[Zl,ZJ.t]
 rw[ZsN ha hs,Zo (by omega),Zf (by omega)]
 rfl
theorem ZkY {p:ZJ} (h:JI p):p.dots.length≤48:=by
 have h2:=h.dots
 split at h2<;>omega
theorem Zoy {p:ZJ} (c:p.T%64<48):QX p={p with T:=p.T+1,dots:=p.dots++[V5 p (p.T%64)]}∧JZ p=[]∧Km p=false∧Js p=false:=by
 unfold QX JZ Km Js
 rw[if_pos c,if_neg (by omega),decide_eq_false (by omega)]
 exact ⟨rfl,rfl,rfl,rfl⟩
theorem Zoz {p:ZJ} (c:p.T%64=48):QX p={p with T:=p.T+1,blank:=true,dots:=[]}∧JZ p=p.dots∧Km p=ltI 127 p.ctrl∧Js p=true:=by
 unfold QX JZ Km Js
 rw[if_neg (by omega),if_pos c,if_pos c,decide_eq_true c]
 exact ⟨rfl,rfl,rfl,rfl⟩
theorem ZoA {p:ZJ} (c:p.T%64=63):QX p={p with T:=p.T+1,blank:=false}∧JZ p=[]∧Km p=false∧Js p=false:=by
 unfold QX JZ Km Js
 rw[if_neg (by omega),if_neg (by omega),if_pos c,if_neg (by omega),decide_eq_false (by omega)]
 exact ⟨rfl,rfl,rfl,rfl⟩
theorem ZoB {p:ZJ} (c: ¬p.T%64<48) (c2:p.T%64≠48) (c3:p.T%64≠63):QX p={p with T:=p.T+1}∧JZ p=[]∧Km p=false∧Js p=false:=by
 unfold QX JZ Km Js
 rw[if_neg c,if_neg c2,if_neg c3,if_neg c2,decide_eq_false c2]
 exact ⟨rfl,rfl,rfl,rfl⟩
theorem Zjf (p:ZJ) (h:JI p) (ht:p.T<20000):r183 (p.t,())=some (((QX p).t,(JZ p,(Km p,()))),()):=by
 have h1:=h.t
 have hd:=ZkY h
 unfold r183 m183
 refine Za (Uw p.t h.s) ?_
 show (bif eqI p.T 20000 then _ else bif ltI (Int.tmod p.T 64) 48 then _ else bif eqI (Int.tmod p.T 64) 48 then _ else bif eqI (Int.tmod p.T 64) 63 then _ else _)=_
 have hm:Int.tmod p.T 64=p.T%64:=Qt h1.1
 have hw:wI (p.T+1)=p.T+1:=Zj (by omega) (by omega)
 rw[Zd (show p.T≠20000 by omega),cond_false,hm]
 by_cases c1:p.T%64<48
 ·obtain ⟨e1,e2,e3,_⟩:=Zoy c1
  rw[Zf c1,cond_true,e1,e2,e3]
  refine Za (Zpr p h (Int.tmod p.T 64) (by omega)) ?_
  show (bif leN (p.dots.length+1) (E.most .i)then some ((((wI (p.T+1)),_),_),_)else none)=_
  rw[ZO (by simp only[E.most];omega),hw,hm]
  rfl
 rw[Zp c1,cond_false]
 by_cases c2:p.T%64=48
 ·obtain ⟨e1,e2,e3,_⟩:=Zoz c2
  rw[Zi c2,cond_true,e1,e2,e3]
  show (bif leN (0+p.dots.length) (E.most .i)then some ((((wI (p.T+1)),_),_),_)else none)=_
  rw[ZO (by simp only[E.most];omega),hw]
  rfl
 rw[Zd c2,cond_false]
 by_cases c3:p.T%64=63
 ·obtain ⟨e1,e2,e3,_⟩:=ZoA c3
  rw[Zi c3,cond_true,e1,e2,e3]
  show some ((((wI (p.T+1)),_),_),_)=_
  rw[hw];rfl
 ·obtain ⟨e1,e2,e3,_⟩:=ZoB c1 c2 c3
  rw[Zd c3,cond_false,e1,e2,e3]
  show some ((((wI (p.T+1)),_),_),_)=_
  rw[hw];rfl
theorem ZoF (p:ZJ) (h:JI p) (ht:p.T<20000):r307 (p.t,())=some ((Js p,(JZ p,(Km p,()))),((QX p).t,())):=by
 have h1:=h.t
 have hd:=ZkY h
 have hm:Int.tmod p.T 64=p.T%64:=Qt h1.1
 have hw:wI (p.T+1)=p.T+1:=Zj (by omega) (by omega)
 unfold r307 m307
 show (bif ltI (Int.tmod p.T 64) 48 then _ else bif eqI (Int.tmod p.T 64) 48 then _ else bif eqI (Int.tmod p.T 64) 63 then _ else _)=_
 rw[hm]
 by_cases c1:p.T%64<48
 ·obtain ⟨e1,e2,e3,e4⟩:=Zoy c1
  rw[Zf c1,cond_true,e1,e2,e3,e4]
  have hdt:=ZrB {p with T:=p.T+1} h.scroll h.len (p.T%64) (by omega)
  rw[←hw,←hm]at hdt
  refine Za hdt ?_
  show (bif leN (p.dots.length+1) (E.most .i)then some (_,(((wI (p.T+1)),_),_))else none)=_
  rw[ZO (by simp only[E.most];omega),hw,hm]
  rfl
 rw[Zp c1,cond_false]
 by_cases c2:p.T%64=48
 ·obtain ⟨e1,e2,e3,e4⟩:=Zoz c2
  rw[Zi c2,cond_true,e1,e2,e3,e4]
  show some (_,(((wI (p.T+1)),_),_))=_
  rw[hw];rfl
 rw[Zd c2,cond_false]
 by_cases c3:p.T%64=63
 ·obtain ⟨e1,e2,e3,e4⟩:=ZoA c3
  rw[Zi c3,cond_true,e1,e2,e3,e4]
  show some (_,(((wI (p.T+1)),_),_))=_
  rw[hw];rfl
 ·obtain ⟨e1,e2,e3,e4⟩:=ZoB c1 c2 c3
  rw[Zd c3,cond_false,e1,e2,e3,e4]
  show some (_,(((wI (p.T+1)),_),_))=_
  rw[hw];rfl
theorem Zca (p:ZJ) (h:JI p) (reg v:Int):r182 (p.t,(reg,(v,())))=some (((Je p reg v).t,()),()):=by
 have ha:=h.addr
 have hl:=h.len
 unfold r182 m182 Je
 refine Za (Uw p.t h.s) (Za (by rw[ZaW p.t h.s,WZ.2 h]) ?_)
 simp only[Bool.not_true,cond_false,Ja,Option.bind_some,Zl,ZJ.t]
 rw[Qt (show 0≤v%256 by omega),Qt (show 0≤v%256 by omega),Zj (x:=p.addr+1) (by omega) (by omega),Qt (show 0≤p.addr+1 by omega),Zo ha.1,Zf (by omega)]
 by_cases c:reg=0
 ·rw[Zi c,if_pos c];rfl
 rw[Zd c,if_neg c,cond_false]
 by_cases c:reg=1
 ·rw[Zi c,if_pos c];rfl
 rw[Zd c,if_neg c,cond_false]
 by_cases c:reg=3
 ·rw[Zi c,if_pos c];rfl
 rw[Zd c,if_neg c,cond_false]
 by_cases c:reg=4
 ·rw[Zi c,if_pos c];rfl
 rw[Zd c,if_neg c,cond_false]
 by_cases c:reg=5
 ·rw[Zi c,if_pos c];rfl
 rw[Zd c,if_neg c,cond_false]
theorem ZlN (p:ZJ) (h:JI p) (reg v:Int):r306 (p.t,(reg,(v,())))=some ((),((Je p reg v).t,())):=by
 have ha:=h.addr
 have hl:=h.len
 unfold r306 m306 Je r349 m349
 simp only[Y7,Option.bind_some,Zl,ZJ.t]
 rw[Qt (show 0≤v%256 by omega),Qt (show 0≤v%256 by omega),Zj (x:=p.addr+1) (by omega) (by omega),Qt (show 0≤p.addr+1 by omega),Zo ha.1,Zf (by omega)]
 by_cases c:reg=0
 ·rw[Zi c,if_pos c];rfl
 rw[Zd c,if_neg c,cond_false]
 by_cases c:reg=1
 ·rw[Zi c,if_pos c];rfl
 rw[Zd c,if_neg c,cond_false]
 by_cases c:reg=3
 ·rw[Zi c,if_pos c];rfl
 rw[Zd c,if_neg c,cond_false]
 by_cases c:reg=4
 ·rw[Zi c,if_pos c];rfl
 rw[Zd c,if_neg c,cond_false]
 by_cases c:reg=5
 ·rw[Zi c,if_pos c];rfl
 rw[Zd c,if_neg c,cond_false]
theorem ZcK (p:ZJ) (h:JI p) (reg:Int):r296 (p.t,(reg,()))=some (((Jq p reg).t,(Kc p reg,())),()):=by
 have ha:=h.addr
 have hl:=h.len
 have hf:=XL p.blank
 unfold r296 m296 Jq Kc
 refine Za (Uw p.t h.s) (Za (by rw[ZaW p.t h.s,WZ.2 h]) ?_)
 simp only[Bool.not_true,cond_false,Zdj,Option.bind_some,Zl,ZJ.t]
 rw[Zj (x:=p.addr+1) (by omega) (by omega),Qt (show 0≤p.addr+1 by omega),Zo ha.1,Zf (by omega),Zj (x:=128*QR p.blank) (by omega) (by omega)]
 by_cases c:reg=2
 ·rw[Zi c,if_pos c,if_pos c];rfl
 rw[Zd c,if_neg c,if_neg c,cond_false]
 by_cases c:reg=4
 ·rw[Zi c,if_pos c,if_pos c];rfl
 rw[Zd c,if_neg c,if_neg c,cond_false]
theorem Zoc (p:ZJ) (h:JI p) (reg:Int):r320 (p.t,(reg,()))=some ((Kc p reg,()),((Jq p reg).t,())):=by
 have ha:=h.addr
 have hl:=h.len
 have hf:=XL p.blank
 unfold r320 m320 Jq Kc r349 m349
 simp only[Zfn,Option.bind_some,Zl,ZJ.t]
 rw[Zj (x:=p.addr+1) (by omega) (by omega),Qt (show 0≤p.addr+1 by omega),Zo ha.1,Zf (by omega),Zj (x:=128*QR p.blank) (by omega) (by omega)]
 by_cases c:reg=2
 ·rw[Zi c,if_pos c,if_pos c];rfl
 rw[Zd c,if_neg c,if_neg c,cond_false]
 by_cases c:reg=4
 ·rw[Zi c,if_pos c,if_pos c];rfl
 rw[Zd c,if_neg c,if_neg c,cond_false]
theorem Zg9 (a:Qj) (h:Yf a) (ht:a.T<20000):r185 (a.t,())=some (((KL a).t,(KJ a,(Yd a,()))),()):=by
 obtain ⟨t,p,c,b,l,asks,irq⟩:=a
 have ht:t<20000:=ht
 obtain ⟨h1,h2,h3,h4,h5⟩:=h
 have h1:0≤t∧t≤20000:=h1
 have h3:0≤c∧c≤255:=h3
 have h4:0≤b∧b≤1:=h4
 have h5:0≤l∧l≤31:=h5
 unfold r185 m185 KL KJ Yd V2 KY Qj.t
 simp only
 rw[Zd (show t≠20000 by omega),cond_false,Qt h1.1,Qt h1.1,Zj (x:=t+1) (by omega) (by omega),Zj (x:=1-b) (by omega) (by omega),Zj (x:=l-1) (by omega) (by omega),Zj (x:=c-1) (by omega) (by omega),Zj (x:=8*(1-b)) (by omega) (by omega),Zj (x:=8*b) (by omega) (by omega)]
 by_cases c0:c=0
 ·rw[Zi c0,if_pos c0]
  by_cases l0:0<l
  ·rw[Zf l0,if_pos l0]
   by_cases t32:t%32=0
   ·rw[Zi t32,Zd (show t%16≠15 by omega)]
    simp only[cond_true,cond_false,t32,l0,true_and,if_true,show¬t%16=15 by omega,false_and,if_false]
    cases irq<;>cases eqI (l-1) 0<;>rfl
   ·rw[Zd t32]
    simp only[cond_true,cond_false,t32,false_and,if_false]
    by_cases t16:t%16=15
    ·rw[Zi t16]
     simp only[cond_true,t16,true_and,ne_eq,show¬l=0 by omega,not_false_eq_true,if_true]
    ·rw[Zd t16]
     simp only[cond_false,t16,false_and,if_false]
  ·rw[Zp l0,if_neg l0]
   have l0':l=0:=by omega
   subst l0'
   by_cases t32:t%32=0
   ·rw[Zi t32,Zd (show t%16≠15 by omega)]
    simp only[cond_true,cond_false,t32,true_and,show¬t%16=15 by omega,false_and,if_false,Int.lt_irrefl]
   ·rw[Zd t32]
    by_cases t16:t%16=15
    ·rw[Zi t16]
     simp only[cond_true,cond_false,t32,t16,true_and,ne_eq,not_true_eq_false,false_and,and_false,if_false]
    ·rw[Zd t16]
     simp only[cond_true,cond_false,t32,t16,false_and,if_false]
 ·rw[Zd c0,if_neg c0]
  by_cases l0:0<l
  ·rw[Zf l0]
   by_cases t32:t%32=0
   ·rw[Zi t32,Zd (show t%16≠15 by omega)]
    simp only[cond_true,cond_false,t32,l0,true_and,if_true,show¬t%16=15 by omega,false_and,if_false]
    cases irq<;>cases eqI (l-1) 0<;>rfl
   ·rw[Zd t32]
    simp only[cond_true,cond_false,t32,false_and,if_false]
    by_cases t16:t%16=15
    ·rw[Zi t16]
     simp only[cond_true,t16,true_and,ne_eq,show¬l=0 by omega,not_false_eq_true,if_true]
    ·rw[Zd t16]
     simp only[cond_false,t16,false_and,if_false]
  ·rw[Zp l0]
   have l0':l=0:=by omega
   subst l0'
   by_cases t32:t%32=0
   ·rw[Zi t32,Zd (show t%16≠15 by omega)]
    simp only[cond_true,cond_false,t32,true_and,show¬t%16=15 by omega,false_and,if_false,Int.lt_irrefl]
   ·rw[Zd t32]
    by_cases t16:t%16=15
    ·rw[Zi t16]
     simp only[cond_true,cond_false,t32,t16,true_and,ne_eq,not_true_eq_false,false_and,and_false,if_false]
    ·rw[Zd t16]
     simp only[cond_true,cond_false,t32,t16,false_and,if_false]
theorem ZgR (a:Qj) (h:Yf a) (ht:a.T<20000):r309 (a.t,())=some ((KJ a,(Yd a,())),((KL a).t,())):=by
 obtain ⟨t,p,c,b,l,asks,irq⟩:=a
 have ht:t<20000:=ht
 obtain ⟨h1,h2,h3,h4,h5⟩:=h
 have h1:0≤t∧t≤20000:=h1
 have h3:0≤c∧c≤255:=h3
 have h4:0≤b∧b≤1:=h4
 have h5:0≤l∧l≤31:=h5
 unfold r309 m309 KL KJ Yd V2 KY Qj.t
 simp only
 rw[Qt h1.1,Qt h1.1,Zj (x:=t+1) (by omega) (by omega),Zj (x:=1-b) (by omega) (by omega),Zj (x:=l-1) (by omega) (by omega),Zj (x:=c-1) (by omega) (by omega),Zj (x:=8*(1-b)) (by omega) (by omega),Zj (x:=8*b) (by omega) (by omega)]
 by_cases c0:c=0
 ·rw[Zi c0,if_pos c0]
  by_cases l0:0<l
  ·rw[Zf l0,if_pos l0]
   by_cases t32:t%32=0
   ·rw[Zi t32,Zd (show t%16≠15 by omega)]
    simp only[cond_true,cond_false,t32,l0,true_and,if_true,show¬t%16=15 by omega,false_and,if_false,Bool.not_false]
    cases irq<;>cases eqI (l-1) 0<;>rfl
   ·rw[Zd t32]
    simp only[cond_true,cond_false,t32,false_and,if_false]
    by_cases t16:t%16=15
    ·rw[Zi t16,Zd (show l≠0 by omega)]
     simp only[cond_true,cond_false,Bool.not_true,t16,true_and,ne_eq,show¬l=0 by omega,not_false_eq_true,if_true]
    ·rw[Zd t16]
     simp only[cond_true,cond_false,Bool.not_false,t16,false_and,if_false]
  ·rw[Zp l0,if_neg l0]
   have l0':l=0:=by omega
   subst l0'
   by_cases t32:t%32=0
   ·rw[Zi t32,Zd (show t%16≠15 by omega)]
    simp only[cond_true,cond_false,Bool.not_false,t32,true_and,show¬t%16=15 by omega,false_and,if_false,Int.lt_irrefl]
   ·rw[Zd t32]
    by_cases t16:t%16=15
    ·rw[Zi t16,Zi (show (0:Int)=0 from rfl)]
     simp only[cond_true,cond_false,Bool.not_true,t32,t16,true_and,ne_eq,not_true_eq_false,false_and,and_false,if_false]
    ·rw[Zd t16]
     simp only[cond_true,cond_false,Bool.not_false,t32,t16,false_and,if_false]
 ·rw[Zd c0,if_neg c0]
  by_cases l0:0<l
  ·rw[Zf l0]
   by_cases t32:t%32=0
   ·rw[Zi t32,Zd (show t%16≠15 by omega)]
    simp only[cond_true,cond_false,t32,l0,true_and,if_true,show¬t%16=15 by omega,false_and,if_false,Bool.not_false]
    cases irq<;>cases eqI (l-1) 0<;>rfl
   ·rw[Zd t32]
    simp only[cond_true,cond_false,t32,false_and,if_false]
    by_cases t16:t%16=15
    ·rw[Zi t16,Zd (show l≠0 by omega)]
     simp only[cond_true,cond_false,Bool.not_true,t16,true_and,ne_eq,show¬l=0 by omega,not_false_eq_true,if_true]
    ·rw[Zd t16]
     simp only[cond_true,cond_false,Bool.not_false,t16,false_and,if_false]
  ·rw[Zp l0]
   have l0':l=0:=by omega
   subst l0'
   by_cases t32:t%32=0
   ·rw[Zi t32,Zd (show t%16≠15 by omega)]
    simp only[cond_true,cond_false,Bool.not_false,t32,true_and,show¬t%16=15 by omega,false_and,if_false,Int.lt_irrefl]
   ·rw[Zd t32]
    by_cases t16:t%16=15
    ·rw[Zi t16,Zi (show (0:Int)=0 from rfl)]
     simp only[cond_true,cond_false,Bool.not_true,t32,t16,true_and,ne_eq,not_true_eq_false,false_and,and_false,if_false]
    ·rw[Zd t16]
     simp only[cond_true,cond_false,Bool.not_false,t32,t16,false_and,if_false]
theorem Zb3 (a:Qj) (h:Yf a) (reg v:Int):r184 (a.t,(reg,(v,())))=some (((J3 a reg v).t,()),()):=by
 unfold r184 m184 J3
 refine Za (by rw[ZaV a.t,WB.2 h]) ?_
 simp only[Bool.not_true,cond_false,Ja,Option.bind_some,Qj.t]
 rw[Qt (show 0≤v%256 by omega),Qt (show 0≤v%256 by omega)]
 by_cases c:reg=0
 ·rw[Zi c,if_pos c];rfl
 rw[Zd c,if_neg c,cond_false]
 by_cases c:reg=1
 ·rw[Zi c,if_pos c];rfl
 rw[Zd c,if_neg c,cond_false]
 by_cases c:reg=2
 ·rw[Zi c,if_pos c]
  cases a.irq<;>rfl
 rw[Zd c,if_neg c,cond_false]
 by_cases c:reg=3
 ·rw[Zi c,if_pos c];rfl
 rw[Zd c,if_neg c,cond_false]
theorem ZbQ (a:Qj) (h:Yf a) (reg v:Int):r308 (a.t,(reg,(v,())))=some (((J3 a reg v).t,()),()):=by
 unfold r308 m308 J3
 refine Za (by rw[ZaN a.t,WB.2 h]) ?_
 simp only[Bool.not_true,cond_false,Y7,Option.bind_some,Qj.t]
 rw[Qt (show 0≤v%256 by omega),Qt (show 0≤v%256 by omega)]
 by_cases c:reg=0
 ·rw[Zi c,if_pos c];rfl
 rw[Zd c,if_neg c,cond_false]
 by_cases c:reg=1
 ·rw[Zi c,if_pos c];rfl
 rw[Zd c,if_neg c,cond_false]
 by_cases c:reg=2
 ·rw[Zi c,if_pos c]
  cases a.irq<;>rfl
 rw[Zd c,if_neg c,cond_false]
 by_cases c:reg=3
 ·rw[Zi c,if_pos c];rfl
 rw[Zd c,if_neg c,cond_false]
theorem ZcH (a:Qj) (h:Yf a) (reg:Int):r297 (a.t,(reg,()))=some (((JM a reg).t,(YV a reg,())),()):=by
 unfold r297 m297 JM YV
 refine Za (by rw[ZaV a.t,WB.2 h]) ?_
 have f1:=XL a.irq
 have f2:=XL (ltI 0 a.len)
 simp only[Bool.not_true,cond_false,Zdj,Option.bind_some,Qj.t]
 rw[Zj (x:=128*QR a.irq) (by omega) (by omega),Zj (x:=128*QR a.irq+QR (ltI 0 a.len)) (by omega) (by omega)]
 by_cases c:reg=2
 ·rw[JU c,if_pos c,if_pos c];rfl
 ·rw[Jy c,if_neg c,if_neg c];rfl
theorem ZcB (a:Qj) (h:Yf a) (reg:Int):r321 (a.t,(reg,()))=some (((JM a reg).t,(YV a reg,())),()):=by
 unfold r321 m321 JM YV
 have f1:=XL a.irq
 have f2:=XL (ltI 0 a.len)
 by_cases c:reg=2
 ·rw[JU c,if_pos c,if_pos c]
  refine Za (by rw[ZaN a.t,WB.2 h]) ?_
  simp only[Bool.not_true,cond_false,Zfn,Option.bind_some,Qj.t]
  rw[Zj (x:=128*QR a.irq) (by omega) (by omega),Zj (x:=128*QR a.irq+QR (ltI 0 a.len)) (by omega) (by omega)]
 ·rw[Jy c,if_neg c,if_neg c];rfl
theorem Zfj {n:Int} (h: ¬(0≤n∧n≤29)): ∀c:Int,0≤c→c≤29→eqI n c=false:=fun c h0 h1=>Zd (by omega)
theorem ZaO {n:Int} (h: ¬(0≤n∧n≤29)):K3 n=false:=decide_eq_false (by omega)
theorem Zd2 {n:Int} (h: ¬(0≤n∧n≤29)):Zg8 n=false:=decide_eq_false (by omega)
theorem Zf2 {n:Int} (h:K3 n=false) (c:Zk) (arg v:Int):KH c n arg v=c:=by
 have h: ¬(n=1∨n=2∨n=14∨n=4∨n=29∨n=5∨n=6∨n=7∨n=8∨n=9):=of_decide_eq_false h
 unfold KH
 rw[if_neg (by omega),if_neg (by omega),if_neg (by omega),if_neg (by omega),if_neg (by omega),if_neg (by omega),if_neg (by omega),if_neg (by omega),if_neg (by omega)]
theorem Zj1 {n:Int} (h:Zg8 n=false) (c:Zk):UQ c n=c:=by
 have h: ¬(n=10∨n=11∨n=12∨n=13∨n=25∨n=26∨n=27∨n=28):=of_decide_eq_false h
 unfold UQ
 rw[if_neg (by omega),if_neg (by omega),if_neg (by omega),if_neg (by omega),if_neg (by omega),if_neg (by omega),if_neg (by omega),if_neg (by omega)]
theorem Zot (a b:Int):YX a b true=a%256-b%256:=by unfold YX QR;simp
theorem Zqt (c:Zk) (b:Int):Zrv c b={c with z:=eqI (YX c.a b true%256%256) 0,n:=ltI 127 (YX c.a b true%256%256),c:=leI 0 (YX c.a b true)}:=by
 unfold Zrv
 rw[Zot,Int.emod_emod]
 have:leI (b%256) (c.a%256)=leI 0 (c.a%256-b%256):=by
  by_cases h:b%256≤c.a%256
  ·rw[Zo h,Zo (by omega)]
  ·rw[YI h,YI (by omega)]
 rw[this]
theorem Zoe (c:Zk) (op arg v:Int):r325 (c.t,((op,(arg,())),(v,())))=some ((K3 op,()),((KH c op arg v).t,())):=by
 by_cases h:0≤op∧op≤29
 ·unfold r325 m325
  rcases XX h with rfl|rfl|rfl|rfl|rfl|rfl|rfl|rfl|rfl|rfl|rfl|rfl|rfl|rfl|rfl|rfl|rfl|rfl|rfl|rfl|rfl|rfl|rfl|rfl|rfl|rfl|rfl|rfl|rfl|rfl<;>simp only[Qk,Int.reduceEq,decide_true,decide_false,cond_true,cond_false]
  ·rfl
  ·exact Za (K2 c arg) rfl
  ·exact Za (K2 c v) rfl
  ·rfl
  ·exact Za (Zfu (c.a,(arg,(c.c,())))) (Za (K2 c (KU c.a arg c.c%256)) rfl)
  ·exact Za (ZfC (c.a,(arg,(c.c,())))) (Za (K2 c (YX c.a arg c.c%256)) rfl)
  ·exact Za (K2 c (ZD .i64 c.a arg)) rfl
  ·exact Za (K2 c (bOr .i64 c.a arg)) rfl
  ·exact Za (K2 c (Yh .i64 c.a arg)) rfl
  ·rw[show KH c 9 arg v=Zrv c arg from rfl,Zqt]
   exact Za (ZfC (c.a,(arg,(true,())))) (Za (ZbW (YX c.a arg true%256,())) rfl)
  ·rfl
  ·rfl
  ·rfl
  ·rfl
  ·exact Za (K2 c v) rfl
  ·rfl
  ·rfl
  ·rfl
  ·rfl
  ·rfl
  ·rfl
  ·rfl
  ·rfl
  ·rfl
  ·rfl
  ·rfl
  ·rfl
  ·rfl
  ·rfl
  ·exact Za (Zfu (c.a,(v,(c.c,())))) (Za (K2 c (KU c.a v c.c%256)) rfl)
 ·have e:=Zfj h
  unfold r325 m325
  rw[ZaO h,Zf2 (ZaO h)]
  simp[e]
theorem Zri (c:Zk) (op arg:Int) (hc:ZE c):r326 (c.t,((op,(arg,())),()))=some ((Zg8 op,()),((UQ c op).t,())):=by
 have hx:=hc.x
 by_cases h:0≤op∧op≤29
 ·unfold r326 m326
  rcases XX h with rfl|rfl|rfl|rfl|rfl|rfl|rfl|rfl|rfl|rfl|rfl|rfl|rfl|rfl|rfl|rfl|rfl|rfl|rfl|rfl|rfl|rfl|rfl|rfl|rfl|rfl|rfl|rfl|rfl|rfl<;>simp only[Qk,Int.reduceEq,decide_true,decide_false,cond_true,cond_false]
  ·rfl
  ·rfl
  ·rfl
  ·rfl
  ·rfl
  ·rfl
  ·rfl
  ·rfl
  ·rfl
  ·rfl
  ·exact Za (ZcR c c.a) rfl
  ·exact Za (K2 c c.x) rfl
  ·have e:wI (c.x+1)=c.x+1:=Zj (by omega) (by omega)
   have k:=ZcR c (c.x+1)
   rw[←e]at k
   refine Za k ?_
   rw[e];rfl
  ·have e:wI (c.x-1)=c.x-1:=Zj (by omega) (by omega)
   have k:=ZcR c (c.x-1)
   rw[←e]at k
   refine Za k ?_
   rw[e];rfl
  ·rfl
  ·rfl
  ·rfl
  ·rfl
  ·rfl
  ·rfl
  ·rfl
  ·rfl
  ·rfl
  ·rfl
  ·rfl
  ·rfl
  ·rfl
  ·rfl
  ·rfl
  ·rfl
 ·have e:=Zfj h
  unfold r326 m326
  rw[Zd2 h,Zj1 (Zd2 h)]
  simp[e]
theorem ZmY (x:Zv) (c:Zk) (h:JJ x) (hc:ZE c):r360 (x.t,(c.t,()))=some ((),(x.t,((ZmW x c).t,()))):=by
 unfold r360 m360
 exact Za (Zbk x c h hc) (Za (Zbk x (Yp c) h (W0 hc)) (Za (ZaH (Yb x c,(Yb x (Yp c),()))) rfl))
theorem Zjv (x:Zv) (c:Zk) (h:JJ x) (hc:ZE c):r317 (x.t,(c.t,()))=some ((),((UI x c).t,((Wk c).t,()))):=by
 unfold r317 m317
 refine Za (Zbl x c (shr8 c.pc) h hc) (Za (Zbl (Kb x c (shr8 c.pc)) (Ka c) c.pc (UH h _ _) (UG hc)) rfl)
theorem ZqG (x:Zv) (c:Zk) (op arg:Int) (h:JJ x) (hc:ZE c):r327 (x.t,(c.t,((op,(arg,())),())))=some ((),((K0 x c op).t,((WM x c op arg).t,()))):=by
 unfold r327 m327
 refine Za (ZaG (arg,())) ?_
 by_cases ho:0≤op∧op≤29
 ·rcases XX ho with rfl|rfl|rfl|rfl|rfl|rfl|rfl|rfl|rfl|rfl|rfl|rfl|rfl|rfl|rfl|rfl|rfl|rfl|rfl|rfl|rfl|rfl|rfl|rfl|rfl|rfl|rfl|rfl|rfl|rfl<;>simp only[Qk,Int.reduceEq,decide_true,decide_false,cond_true,cond_false]
  ·rfl
  ·rfl
  ·rfl
  ·rfl
  ·rfl
  ·rfl
  ·rfl
  ·rfl
  ·rfl
  ·rfl
  ·rfl
  ·rfl
  ·rfl
  ·rfl
  ·rfl
  ·rfl
  ·obtain ⟨a,x',s,pc,z,n,cc,i⟩:=c
   cases z<;>rfl
  ·obtain ⟨a,x',s,pc,z,n,cc,i⟩:=c
   cases z<;>rfl
  ·obtain ⟨a,x',s,pc,z,n,cc,i⟩:=c
   cases cc<;>rfl
  ·rfl
  ·exact Za (Zjv x c h hc) rfl
  ·exact Za (ZmY x c h hc) rfl
  ·exact Za (Zbl x c c.a h hc) rfl
  ·exact Za (Zbk x c h hc) (Za (K2 (Yp c) (Yb x c)) rfl)
  ·exact Za (Zbk x c h hc) (Za (ZeI (Yp c) (Yb x c)) (Za (ZmY x (wfT (Yp c) (Yb x c)) h (Zrm (W0 hc))) rfl))
  ·rfl
  ·rfl
  ·rfl
  ·rfl
  ·rfl
 ·have e:=Zfj ho
  have e1:K0 x c op=x:=by
   unfold K0
   rw[if_neg (by omega),if_neg (by omega)]
  have e2:WM x c op arg=c:=by
   unfold WM
   rw[if_neg (by omega),if_neg (by omega),if_neg (by omega),if_neg (by omega),if_neg (by omega),if_neg (by omega),if_neg (by omega),if_neg (by omega),if_neg (by omega)]
  rw[e1,e2]
  simp[e]
theorem Zp4 {c:Zk} (hc:ZE c) (op:Int):wI (c.pc+Q1 op)=c.pc+Q1 op:=by
 have:=Zpz op
 have:=hc.pc
 exact Zj (by omega) (by omega)
theorem ZiZ {op:Int} (h:(K3 op||Zg8 op)=true) (x:Zv) (c:Zk):K0 x c op=x:=by
 have h:(op=1∨op=2∨op=14∨op=4∨op=29∨op=5∨op=6∨op=7∨op=8∨op=9)∨(op=10∨op=11∨op=12∨op=13∨op=25∨op=26∨op=27∨op=28):=by
  rw[Bool.or_eq_true]at h
  exact h.imp of_decide_eq_true of_decide_eq_true
 unfold K0
 rw[if_neg (by omega),if_neg (by omega)]
theorem ZdU (x:Zv) (c:Zk) (op arg v:Int) (h:JJ x) (hc:ZE c) (hv:0≤v∧v≤255):r265 (x.t,(c.t,((op,(arg,())),(v,()))))=some ((),((V7 x c op).t,((WK x c op arg v).t,()))):=by
 unfold r265 m265
 have hp:=ZdH (op:=op) hc
 have ev:v%256=v:=by omega
 have k1:r315 (wI (c.pc+Q1 op),())=some (((c.pc+Q1 op)%65536,()),()):=by
  rw[ZaG (wI (c.pc+Q1 op),()),Zp4 hc]
 have k2:r316 (v,())=some ((v,()),()):=by
  rw[Y7 (v,())]
  show some ((v%256,()),())=_
  rw[ev]
 refine Za (Zet (op,())) (Za k1 (Za k2 (Za (Zoe (Jb c op) op arg v) ?_)))
 unfold V7 WK
 cases hr:K3 op with
 |true=>
  rw[ZiZ (by rw[hr];rfl)]
  rfl
 |false=>
  rw[Zf2 hr]
  refine Za (Zri (Jb c op) op arg hp) ?_
  cases ht:Zg8 op with
  |true=>
   rw[ZiZ (by rw[ht,Bool.or_true])]
   rfl
  |false=>
   rw[Zj1 ht]
   exact Za (ZqG x (Jb c op) op arg h hp) rfl
def JG (op:Int):Bool:=decide (op=1∨op=2∨op=14∨op=4∨op=29∨op=5∨op=6∨op=7∨op=8∨op=9∨op=10∨op=11∨op=12∨op=13)
def Yy (c:Zk) (op arg v:Int):Zk:=if K3 op then KH c op arg v else if JG op then UQ c op else c
theorem Zf7 {c:Zk} {u v:Int} (h:u%256=v%256):YD c u=YD c v:=by unfold YD;rw[h]
theorem Zlb (c:Zk) (v:Int):r345 (c.t,(v,()))=some (((Zr4 c v).t,()),()):=by
 unfold r345 m345
 exact Za (ZkH (c.a,(v,(c.c,())))) (Za (VO c (KU c.a v c.c%256)) rfl)
theorem ZqL (c:Zk) (arg v:Int) (hc:ZE c):r301 (c.t,(((6:Int),(arg,())),(v,())))=some (((Yy c 6 arg v).t,(JG 6,())),()):=by
 have hx:=hc.x
 unfold r301 m301
 dsimp only
 rw[Zd (show (6:Int)≠1 by decide),cond_false,Zd (show (6:Int)≠2 by decide),cond_false,Zd (show (6:Int)≠14 by decide),cond_false,Zd (show (6:Int)≠4 by decide),cond_false,Zd (show (6:Int)≠29 by decide),cond_false,Zd (show (6:Int)≠5 by decide),cond_false,Zi (show (6:Int)=6 from rfl),cond_true]
 rw[show Yy c 6 arg v=YD c (ZD .i64 c.a arg) by simp[Yy,KH,K3],show JG 6=true from rfl,Zf7 (ZmU c.a arg).symm]
 exact Za (Ja (c.a,())) (Za (Ja (arg,())) (Za (VO c (ZD .i64 (c.a%256) (arg%256))) rfl))
theorem ZqM (c:Zk) (arg v:Int) (hc:ZE c):r301 (c.t,(((7:Int),(arg,())),(v,())))=some (((Yy c 7 arg v).t,(JG 7,())),()):=by
 have hx:=hc.x
 unfold r301 m301
 dsimp only
 rw[Zd (show (7:Int)≠1 by decide),cond_false,Zd (show (7:Int)≠2 by decide),cond_false,Zd (show (7:Int)≠14 by decide),cond_false,Zd (show (7:Int)≠4 by decide),cond_false,Zd (show (7:Int)≠29 by decide),cond_false,Zd (show (7:Int)≠5 by decide),cond_false,Zd (show (7:Int)≠6 by decide),cond_false,Zi (show (7:Int)=7 from rfl),cond_true]
 rw[show Yy c 7 arg v=YD c (bOr .i64 c.a arg) by simp[Yy,KH,K3],show JG 7=true from rfl,Zf7 (ZoZ c.a arg).symm]
 exact Za (Ja (c.a,())) (Za (Ja (arg,())) (Za (VO c (bOr .i64 (c.a%256) (arg%256))) rfl))
theorem ZqN (c:Zk) (arg v:Int) (hc:ZE c):r301 (c.t,(((8:Int),(arg,())),(v,())))=some (((Yy c 8 arg v).t,(JG 8,())),()):=by
 have hx:=hc.x
 unfold r301 m301
 dsimp only
 rw[Zd (show (8:Int)≠1 by decide),cond_false,Zd (show (8:Int)≠2 by decide),cond_false,Zd (show (8:Int)≠14 by decide),cond_false,Zd (show (8:Int)≠4 by decide),cond_false,Zd (show (8:Int)≠29 by decide),cond_false,Zd (show (8:Int)≠5 by decide),cond_false,Zd (show (8:Int)≠6 by decide),cond_false,Zd (show (8:Int)≠7 by decide),cond_false,Zi (show (8:Int)=8 from rfl),cond_true]
 rw[show Yy c 8 arg v=YD c (Yh .i64 c.a arg) by simp[Yy,KH,K3],show JG 8=true from rfl,Zf7 (ZmV c.a arg).symm]
 exact Za (Ja (c.a,())) (Za (Ja (arg,())) (Za (VO c (Yh .i64 (c.a%256) (arg%256))) rfl))
theorem ZqO (c:Zk) (arg v:Int) (hc:ZE c):r301 (c.t,(((9:Int),(arg,())),(v,())))=some (((Yy c 9 arg v).t,(JG 9,())),()):=by
 have hx:=hc.x
 unfold r301 m301
 dsimp only
 rw[Zd (show (9:Int)≠1 by decide),cond_false,Zd (show (9:Int)≠2 by decide),cond_false,Zd (show (9:Int)≠14 by decide),cond_false,Zd (show (9:Int)≠4 by decide),cond_false,Zd (show (9:Int)≠29 by decide),cond_false,Zd (show (9:Int)≠5 by decide),cond_false,Zd (show (9:Int)≠6 by decide),cond_false,Zd (show (9:Int)≠7 by decide),cond_false,Zd (show (9:Int)≠8 by decide),cond_false,Zi (show (9:Int)=9 from rfl),cond_true]
 have e:wI (c.a%256-arg%256)=c.a%256-arg%256:=Zj (by omega) (by omega)
 have k:r347 (wI (c.a%256-arg%256),())=some ((eqI ((c.a%256-arg%256)%256) 0,(ltI 127 ((c.a%256-arg%256)%256),())),()):=by rw[e];exact Zcb (c.a%256-arg%256,())
 rw[show Yy c 9 arg v=Zrv c arg by simp[Yy,KH,K3],show JG 9=true from rfl]
 exact Za (Ja (c.a,())) (Za (Ja (arg,())) (Za k (Za (Ja (c.a,())) (Za (Ja (arg,())) rfl))))
theorem Zpo (c:Zk) (arg v:Int) (hc:ZE c):r301 (c.t,(((12:Int),(arg,())),(v,())))=some (((Yy c 12 arg v).t,(JG 12,())),()):=by
 have hx:=hc.x
 unfold r301 m301
 simp only[Qk,Int.reduceEq,decide_true,decide_false,cond_true,cond_false]
 have e:wI (c.x%256+1)=c.x+1:=by rw[Zj (by omega) (by omega)];omega
 have k:r348 (c.t,(wI (c.x%256+1),()))=some (((VJ c (c.x+1)).t,()),()):=by rw[e];exact ZcX c (c.x+1)
 rw[show Yy c 12 arg v=VJ c (c.x+1)from rfl,show JG 12=true from rfl]
 exact Za (Ja (c.x,())) (Za k rfl)
theorem Zpp (c:Zk) (arg v:Int) (hc:ZE c):r301 (c.t,(((13:Int),(arg,())),(v,())))=some (((Yy c 13 arg v).t,(JG 13,())),()):=by
 have hx:=hc.x
 unfold r301 m301
 simp only[Qk,Int.reduceEq,decide_true,decide_false,cond_true,cond_false]
 have e:wI (c.x%256-1)=c.x-1:=by rw[Zj (by omega) (by omega)];omega
 have k:r348 (c.t,(wI (c.x%256-1),()))=some (((VJ c (c.x-1)).t,()),()):=by rw[e];exact ZcX c (c.x-1)
 rw[show Yy c 13 arg v=VJ c (c.x-1)from rfl,show JG 13=true from rfl]
 exact Za (Ja (c.x,())) (Za k rfl)
theorem Zpq (c:Zk) (op arg v:Int) (hc:ZE c):r301 (c.t,((op,(arg,())),(v,())))=some (((Yy c op arg v).t,(JG op,())),()):=by
 by_cases h:0≤op∧op≤29
 ·rcases XX h with rfl|rfl|rfl|rfl|rfl|rfl|rfl|rfl|rfl|rfl|rfl|rfl|rfl|rfl|rfl|rfl|rfl|rfl|rfl|rfl|rfl|rfl|rfl|rfl|rfl|rfl|rfl|rfl|rfl|rfl
  ·unfold r301 m301
   simp only[Qk,Int.reduceEq,decide_true,decide_false,cond_true,cond_false]
   rfl
  ·unfold r301 m301
   simp only[Qk,Int.reduceEq,decide_true,decide_false,cond_true,cond_false]
   exact Za (VO c arg) rfl
  ·unfold r301 m301
   simp only[Qk,Int.reduceEq,decide_true,decide_false,cond_true,cond_false]
   exact Za (VO c v) rfl
  ·unfold r301 m301
   simp only[Qk,Int.reduceEq,decide_true,decide_false,cond_true,cond_false]
   rfl
  ·unfold r301 m301
   simp only[Qk,Int.reduceEq,decide_true,decide_false,cond_true,cond_false]
   exact Za (Zlb c arg) rfl
  ·unfold r301 m301
   simp only[Qk,Int.reduceEq,decide_true,decide_false,cond_true,cond_false]
   exact Za (ZkK (c.a,(arg,(c.c,())))) (Za (VO c (YX c.a arg c.c%256)) rfl)
  ·exact ZqL c arg v hc
  ·exact ZqM c arg v hc
  ·exact ZqN c arg v hc
  ·exact ZqO c arg v hc
  ·unfold r301 m301
   simp only[Qk,Int.reduceEq,decide_true,decide_false,cond_true,cond_false]
   exact Za (ZcX c c.a) rfl
  ·unfold r301 m301
   simp only[Qk,Int.reduceEq,decide_true,decide_false,cond_true,cond_false]
   exact Za (VO c c.x) rfl
  ·exact Zpo c arg v hc
  ·exact Zpp c arg v hc
  ·unfold r301 m301
   simp only[Qk,Int.reduceEq,decide_true,decide_false,cond_true,cond_false]
   exact Za (VO c v) rfl
  ·unfold r301 m301
   simp only[Qk,Int.reduceEq,decide_true,decide_false,cond_true,cond_false]
   rfl
  ·unfold r301 m301
   simp only[Qk,Int.reduceEq,decide_true,decide_false,cond_true,cond_false]
   rfl
  ·unfold r301 m301
   simp only[Qk,Int.reduceEq,decide_true,decide_false,cond_true,cond_false]
   rfl
  ·unfold r301 m301
   simp only[Qk,Int.reduceEq,decide_true,decide_false,cond_true,cond_false]
   rfl
  ·unfold r301 m301
   simp only[Qk,Int.reduceEq,decide_true,decide_false,cond_true,cond_false]
   rfl
  ·unfold r301 m301
   simp only[Qk,Int.reduceEq,decide_true,decide_false,cond_true,cond_false]
   rfl
  ·unfold r301 m301
   simp only[Qk,Int.reduceEq,decide_true,decide_false,cond_true,cond_false]
   rfl
  ·unfold r301 m301
   simp only[Qk,Int.reduceEq,decide_true,decide_false,cond_true,cond_false]
   rfl
  ·unfold r301 m301
   simp only[Qk,Int.reduceEq,decide_true,decide_false,cond_true,cond_false]
   rfl
  ·unfold r301 m301
   simp only[Qk,Int.reduceEq,decide_true,decide_false,cond_true,cond_false]
   rfl
  ·unfold r301 m301
   simp only[Qk,Int.reduceEq,decide_true,decide_false,cond_true,cond_false]
   rfl
  ·unfold r301 m301
   simp only[Qk,Int.reduceEq,decide_true,decide_false,cond_true,cond_false]
   rfl
  ·unfold r301 m301
   simp only[Qk,Int.reduceEq,decide_true,decide_false,cond_true,cond_false]
   rfl
  ·unfold r301 m301
   simp only[Qk,Int.reduceEq,decide_true,decide_false,cond_true,cond_false]
   rfl
  ·unfold r301 m301
   simp only[Qk,Int.reduceEq,decide_true,decide_false,cond_true,cond_false]
   exact Za (Zlb c v) rfl
 ·have e:=Zfj h
  have ea:JG op=false:=decide_eq_false (by omega)
  unfold r301 m301 Yy
  rw[ZaO h,ea]
  simp[e]
theorem Zje (x:Zv) (c:Zk) (h:JJ x) (hc:ZE c):r302 (x.t,(c.t,()))=some (((ZmW x c).t,()),()):=by
 unfold r302 m302
 exact Za (ZbB x c h hc) (Za (ZbB x (Yp c) h (W0 hc)) (Za (Zbx (Yb x c,(Yb x (Yp c),()))) rfl))
theorem Zan (x:Zv) (c:Zk) (op arg v:Int) (h:JJ x) (hc:ZE c):r244 (x.t,(c.t,((op,(arg,())),(v,()))))=some (((V7 x c op).t,((WK x c op arg v).t,())),()):=by
 unfold r244 m244
 have hp:=ZdH (op:=op) hc
 have k1:r229 (wI (c.pc+Q1 op),())=some (((c.pc+Q1 op)%65536,()),()):=by
  rw[VN (wI (c.pc+Q1 op),()),Zp4 hc]
 refine Za (Zdm x h.len) (Za (Zb7 (op,())) (Za k1 (Za (Zpq (Jb c op) op arg v hp) ?_)))
 unfold V7 WK
 have hz: ∀{a b:Zk},a=b→a.z=b.z:=fun h=>by rw[h]
 by_cases ho:0≤op∧op≤29
 ·rcases XX ho with rfl|rfl|rfl|rfl|rfl|rfl|rfl|rfl|rfl|rfl|rfl|rfl|rfl|rfl|rfl|rfl|rfl|rfl|rfl|rfl|rfl|rfl|rfl|rfl|rfl|rfl|rfl|rfl|rfl|rfl<;>simp only[Qk,Int.reduceEq,decide_true,decide_false,cond_true,cond_false]
  ·rfl
  ·rfl
  ·rfl
  ·rfl
  ·rfl
  ·rfl
  ·rfl
  ·rfl
  ·rfl
  ·rfl
  ·rfl
  ·rfl
  ·rfl
  ·rfl
  ·rfl
  ·rfl
  ·rw[show JG 16=false from rfl,cond_false]
   obtain ⟨a,x',s,pc,z,n,cc,i⟩:=c
   cases z<;>simp only[Zk.t,Bool.not_false,Bool.not_true,cond_true,cond_false]
   ·exact Za (VN (arg,())) rfl
   ·rfl
  ·rw[show JG 17=false from rfl,cond_false]
   obtain ⟨a,x',s,pc,z,n,cc,i⟩:=c
   cases z<;>simp only[Zk.t,Bool.not_false,Bool.not_true,cond_true,cond_false]
   ·rfl
   ·exact Za (VN (arg,())) rfl
  ·rw[show JG 18=false from rfl,cond_false]
   obtain ⟨a,x',s,pc,z,n,cc,i⟩:=c
   cases cc<;>simp only[Zk.t,Bool.not_false,Bool.not_true,cond_true,cond_false]
   ·rfl
   ·exact Za (VN (arg,())) rfl
  ·rw[show JG 19=false from rfl,cond_false]
   exact Za (VN (arg,())) rfl
  ·rw[show JG 20=false from rfl,cond_false]
   exact Za (Zap x (Jb c 20) (shr8 (Jb c 20).pc) h hp) (Za (Zap (Kb x (Jb c 20) (shr8 (Jb c 20).pc)) (Ka (Jb c 20)) (Jb c 20).pc (UH h _ _) (UG hp)) (Za (VN (arg,())) rfl))
  ·rw[show JG 21=false from rfl,cond_false]
   exact Za (Zje x (Jb c 21) h hp) rfl
  ·rw[show JG 22=false from rfl,cond_false]
   exact Za (Zap x (Jb c 22) (Jb c 22).a h hp) rfl
  ·rw[show JG 23=false from rfl,cond_false]
   exact Za (ZbB x (Jb c 23) h hp) (Za (VO (Yp (Jb c 23)) (Yb x (Jb c 23))) rfl)
  ·rw[show JG 24=false from rfl,cond_false]
   exact Za (ZbB x (Jb c 24) h hp) (Za (ZbL (Yp (Jb c 24)) (Yb x (Jb c 24))) (Za (Zje x (wfT (Yp (Jb c 24)) (Yb x (Jb c 24))) h (Zrm (W0 hp))) rfl))
  ·rfl
  ·rfl
  ·rfl
  ·rfl
  ·rfl
 ·have e:=Zfj ho
  have ea:JG op=false:=decide_eq_false (by omega)
  have e1:K0 x (Jb c op) op=x:=by
   unfold K0
   rw[if_neg (by omega),if_neg (by omega)]
  have e2:WM x (Jb c op) op arg=Jb c op:=by
   unfold WM
   rw[if_neg (by omega),if_neg (by omega),if_neg (by omega),if_neg (by omega),if_neg (by omega),if_neg (by omega),if_neg (by omega),if_neg (by omega),if_neg (by omega)]
  rw[e1,e2,ZaO ho,Zd2 ho,ea]
  simp[e]
  rfl
theorem Zk0 (x:Zv) (c:Zk) (to:Int) (h:JJ x) (hc:ZE c):r260 (x.t,(c.t,(to,())))=some ((),((XK x c).t,((ZiT c to).t,()))):=by
 unfold r260 m260
 exact Za (Zjv x c h hc) (Za (Zi2 (Wk c)) (Za (Zbl (UI x c) (Wk c) (Up (Wk c)) (Zdr h) (Zdq hc)) rfl))
theorem ZlH {f:List (List Int)} {x y:Zv} {v:Int} (hv:65530≤v∧v≤65535):ZI f x v=ZI f y v:=by
 have e:(rgT v).1=6:=by
  unfold rgT
  simp only
  rw[show v%65536=v by omega,if_neg (by omega),if_neg (by omega),if_neg (by omega),if_neg (by omega),if_neg (by omega),if_neg (by omega)]
 unfold ZI
 rw[e,if_neg (by decide),if_neg (by decide),if_pos rfl,if_neg (by decide),if_neg (by decide)]
theorem ZpT {f:List (List Int)} {x y:Zv} {v:Int} (hv:65530≤v∧v≤65534):Vf f x v=Vf f y v:=by
 unfold Vf
 rw[ZlH (x:=x) (y:=y) (v:=v) (by omega),ZlH (x:=x) (y:=y) (v:=v+1) (by omega)]
theorem Zau (f:List (List Int)) (x:Zv) (c:Zk) (v:Int) (h:JD f x) (hc:ZE c) (hv:65530≤v∧v≤65534):
  r240 ((f,()),(x.t,(c.t,(v,()))))=some (((XK x c).t,((ZiT c (Vf f x v)).t,())),()):=by
 have hm:JD f (XK x c):=h.of_ram (ZhU h.ram) rfl
 have e:wI (v+1)=v+1:=Zj (by omega) (by omega)
 have k:=Zao f (XK x c) (v+1) hm
 rw[←e]at k
 unfold r240 m240
 refine Za (Zdm x h.ram.len) (Za (ZjJ c) (Za (Zap x c (shr8 c.pc) h.ram hc) (Za (Zap (Kb x c (shr8 c.pc)) (Ka c) c.pc (UH h.ram _ _) (UG hc))
  (Za (Zap (UI x c) (Wk c) (Up c) (Zdr h.ram) (Zdq hc)) (Za (Zao f (XK x c) v hm) (Za k (Za (Zbx (ZI f (XK x c) v,(ZI f (XK x c) (wI (v+1)),()))) ?_)))))))
 rw[ZpT (x:=x) (y:=XK x c) hv]
 unfold Vf
 rw[e]
 rfl
theorem ZnY {f:List (List Int)} {x:Zv} {pc:Int} (h:JD f x) (hp:0≤pc∧pc≤65535) (k:Int) (hk:k=1∨k=2):r262 ((f,()),(x.t,(wI (pc+k),())))=some ((ZI f x (pc+k),()),()):=by
 rw[Zj (by omega) (by omega)]
 exact V9 f x (pc+k) h
theorem ZnZ {f:List (List Int)} {x:Zv} {pc:Int} (h:JD f x) (hp:0≤pc∧pc≤65535) (k:Int) (hk:k=1∨k=2):r225 ((f,()),(x.t,(wI (pc+k),())))=some ((ZI f x (pc+k),()),()):=by
 rw[Zj (by omega) (by omega)]
 exact Zao f x (pc+k) h
theorem Zci (f:List (List Int)) (x:Zv) (pc:Int) (h:JD f x) (hp:0≤pc∧pc≤65535):r255 ((f,()),(x.t,(pc,())))=some (((opT f x pc,(V0 f x pc,())),()),()):=by
 unfold r255 m255
 refine Za (V9 f x pc h) (Za (Zet (ZI f x pc,())) ?_)
 show (bif eqI (Q1 (ZI f x pc)) 2 then _ else bif eqI (Q1 (ZI f x pc)) 3 then _ else _)=_
 unfold V0 opT
 by_cases c2:Q1 (ZI f x pc)=2
 ·rw[Zi c2,if_pos c2]
  exact Za (ZnY h hp 1 (.inl rfl)) rfl
 rw[Zd c2,if_neg c2,cond_false]
 by_cases c3:Q1 (ZI f x pc)=3
 ·rw[Zi c3,if_pos c3]
  exact Za (ZnY h hp 1 (.inl rfl)) (Za (ZnY h hp 2 (.inr rfl)) (Za (ZaH (ZI f x (pc+1),(ZI f x (pc+2),()))) rfl))
 ·rw[Zd c3,if_neg c3];rfl
theorem Zav (f:List (List Int)) (x:Zv) (pc:Int) (h:JD f x) (hp:0≤pc∧pc≤65535):r171 ((f,()),(x.t,(pc,())))=some (((opT f x pc,(V0 f x pc,())),()),()):=by
 unfold r171 m171
 refine Za (Zao f x pc h) (Za (Zb7 (ZI f x pc,())) ?_)
 show (bif eqI (Q1 (ZI f x pc)) 2 then _ else bif eqI (Q1 (ZI f x pc)) 3 then _ else _)=_
 unfold V0 opT
 by_cases c2:Q1 (ZI f x pc)=2
 ·rw[Zi c2,if_pos c2]
  exact Za (ZnZ h hp 1 (.inl rfl)) rfl
 rw[Zd c2,if_neg c2,cond_false]
 by_cases c3:Q1 (ZI f x pc)=3
 ·rw[Zi c3,if_pos c3]
  exact Za (ZnZ h hp 1 (.inl rfl)) (Za (ZnZ h hp 2 (.inr rfl)) (Za (Zbx (ZI f x (pc+1),(ZI f x (pc+2),()))) rfl))
 ·rw[Zd c3,if_neg c3];rfl
theorem Zbq (op:Int):ZG op=0∨ZG op=1∨ZG op=2:=by
 unfold ZG
 split
 ·exact .inr (.inl rfl)
 split
 ·exact .inr (.inr rfl)
 ·exact .inl rfl
theorem Zay (op arg:Int) (c:Zk) (hc:ZE c) (ha:0≤arg∧arg≤65535):r256 ((op,(arg,())),(c.t,()))=some ((ZG op,(QQ op arg c.x,(YQ op c.a,()))),()):=by
 have hx:=hc.x
 have e:wI (arg+c.x)=arg+c.x:=Zj (by omega) (by omega)
 have k:r315 (wI (arg+c.x),())=some (((arg+c.x)%65536,()),()):=by rw[ZaG (wI (arg+c.x),()),e]
 unfold r256 m256
 refine Za (Zfy (op,())) (Za (ZaG (arg,())) ?_)
 show (bif eqI op 14 then _ else bif eqI op 15 then _ else bif eqI (ZG op) 1 then _ else bif eqI (ZG op) 2 then _ else _)=_
 unfold QQ YQ
 by_cases c1:op=14
 ·subst c1
  rw[Zi rfl,cond_true]
  exact Za k rfl
 by_cases c2:op=15
 ·subst c2
  rw[Zd (show (15:Int)≠14 by decide),Zi rfl,cond_true,cond_false]
  refine Za k ?_
  simp only[show ZG 15=2 from rfl,Qk,Int.reduceEq,decide_true,decide_false,cond_true,cond_false]
  exact Za (Y7 (c.a,())) rfl
 rw[Zd c1,Zd c2,cond_false,cond_false,if_neg (c:=op=14∨op=15) (by omega)]
 rcases Zbq op with o|o|o<;>rw[o]<;>simp only[Qk,Int.reduceEq,decide_true,decide_false,cond_true,cond_false]
 ·rfl
 ·rfl
 ·exact Za (Y7 (c.a,())) rfl
theorem Zak (op arg:Int) (c:Zk) (hc:ZE c) (ha:0≤arg∧arg≤65535):r172 ((op,(arg,())),(c.t,()))=some ((ZG op,(QQ op arg c.x,(YQ op c.a,()))),()):=by
 have hx:=hc.x
 have e:wI (arg+c.x)=arg+c.x:=Zj (by omega) (by omega)
 have k:r229 (wI (arg+c.x),())=some (((arg+c.x)%65536,()),()):=by rw[VN (wI (arg+c.x),()),e]
 unfold r172 m172
 refine Za (Zgg (op,())) ?_
 show (bif eqI (ZG op) 0 then _ else bif eqI op 14 then _ else bif eqI op 15 then _ else bif eqI (ZG op) 1 then _ else _)=_
 unfold QQ YQ
 by_cases c1:op=14
 ·subst c1
  rw[show ZG 14=1 from rfl,Zd (show (1:Int)≠0 by decide),Zi (show (14:Int)=14 from rfl),cond_true,cond_false,Zi (show (1:Int)=1 from rfl),cond_true]
  exact Za k rfl
 by_cases c2:op=15
 ·subst c2
  rw[show ZG 15=2 from rfl,Zd (show (2:Int)≠0 by decide),Zd (show (15:Int)≠14 by decide),Zi (show (15:Int)=15 from rfl),cond_true,cond_false,cond_false,Zd (show (2:Int)≠1 by decide),cond_false]
  exact Za k (Za (Ja (c.a,())) rfl)
 rw[Zd c1,Zd c2,cond_false,cond_false,if_neg (c:=op=14∨op=15) (by omega)]
 rcases Zbq op with o|o|o<;>rw[o]<;>simp only[Qk,Int.reduceEq,decide_true,decide_false,cond_true,cond_false]
 ·rfl
 ·exact Za (VN (arg,())) rfl
 ·exact Za (VN (arg,())) (Za (Ja (c.a,())) rfl)
theorem ZrR {t:Int} (h:0≤t):mxI t 0=t:=by unfold mxI;rw[if_neg (by omega)]
theorem ZgC (t:Int) (ht:0≤t∧t≤20000):r377 (t,())=some ((t/64,()),()):=by
 unfold r377 m377
 show some ((wI (Int.tdiv (mxI t 0) 64),()),())=_
 rw[ZrR ht.1,W9 ht.1,Zj (by omega) (by omega)]
theorem Zk9 (a b:Int):r106 (a,(b,()))=some ((if b<a then a else b,()),()):=by
 unfold r106 m106
 show (bif ltI b a then _ else _)=_
 by_cases h:b<a
 ·rw[Zf h,if_pos h];rfl
 ·rw[Zp h,if_neg h];rfl
theorem Zla (a b:Int):r105 (a,(b,()))=some ((if a<b then a else b,()),()):=by
 unfold r105 m105
 show (bif ltI a b then _ else _)=_
 by_cases h:a<b
 ·rw[Zf h,if_pos h];rfl
 ·rw[Zp h,if_neg h];rfl
theorem ZnB {t:Int} (h:0≤t):r106 (t,((0:Int),()))=some ((t,()),()):=by
 rw[Zk9]
 by_cases h0:0<t
 ·rw[if_pos h0]
 ·rw[if_neg h0,show t=0 by omega]
theorem ZgM (t:Int) (ht:0≤t∧t≤20000):r375 (t,())=some ((t/64,()),()):=by
 unfold r375 m375
 refine Za (ZnB ht.1) ?_
 show some ((wI (Int.tdiv t 64),()),())=_
 rw[W9 ht.1,Zj (by omega) (by omega)]
theorem Zeu (l:List Int) (t:Int) (h:J4 l) (ht:0≤t∧t≤20000):r354 (l,(t,()))=some ((Xq l t,()),()):=by
 have hl:=h.len
 unfold r354 m354 Xq
 refine Za (by rw[Zbj l (by omega),ZaC.2 h]) ?_
 show (bif eqI (l.length:Int) 0 then _ else _)=_
 by_cases h0:l.length=0
 ·rw[Zi (by omega),if_pos h0];rfl
 rw[Zd (by omega),if_neg h0,cond_false]
 refine Za (ZgC t ht) ?_
 have hm:Int.tmod (t/64) (l.length:Int)=(t/64)% (l.length:Int):=Qt (by omega)
 have b0:=Int.emod_nonneg (t/64) (show (l.length:Int)≠0 by omega)
 have b1:=Int.emod_lt_of_pos (t/64) (show 0< (l.length:Int) by omega)
 show (bif neI (l.length:Int) 0 then (bif leI 0 (Int.tmod (t/64) (l.length:Int))then (bif ltI (Int.tmod (t/64) (l.length:Int)) (l.length:Int)then some ((rdE .i l (Int.tmod (t/64) (l.length:Int)),()),())else none)else none)else none)=_
 rw[Jy (by omega),hm,Zo b0,Zf b1]
 rfl
theorem ZeD (l:List Int) (t:Int) (h:J4 l) (ht:0≤t∧t≤20000):r344 (l,(t,()))=some ((Xq l t,()),()):=by
 have hl:=h.len
 unfold r344 m344 Xq
 refine Za (by rw[ZbA l (by omega),ZaC.2 h]) ?_
 show (bif eqI (l.length:Int) 0 then _ else _)=_
 by_cases h0:l.length=0
 ·rw[Zi (by omega),if_pos h0];rfl
 rw[Zd (by omega),if_neg h0,cond_false]
 refine Za (ZgM t ht) ?_
 have hm:Int.tmod (t/64) (l.length:Int)=(t/64)% (l.length:Int):=Qt (by omega)
 have b0:=Int.emod_nonneg (t/64) (show (l.length:Int)≠0 by omega)
 have b1:=Int.emod_lt_of_pos (t/64) (show 0< (l.length:Int) by omega)
 show (bif neI (l.length:Int) 0 then (bif leI 0 (Int.tmod (t/64) (l.length:Int))then (bif ltI (Int.tmod (t/64) (l.length:Int)) (l.length:Int)then some ((rdE .i l (Int.tmod (t/64) (l.length:Int)),()),())else none)else none)else none)=_
 rw[Jy (by omega),hm,Zo b0,Zf b1]
 rfl
theorem ZbV (x:Yx) (l:List Int) (t v:Int) (h:J4 l) (ht:0≤t∧t≤20000):r323 (x.t,(l,(t,(v,()))))=some (((Ua x l t v).t,()),()):=by
 unfold r323 m323 Ua
 show (bif eqI (ZD .i64 v 1) 1 then (r354 (l,(t,()))).bind (fun r0=>some (((eqI (ZD .i64 v 1) 1,r0.1),()),()))else bif x.held then (r354 (l,(t,()))).bind (fun r0=>some (((eqI (ZD .i64 v 1) 1,r0.1),()),()))else some (((eqI (ZD .i64 v 1) 1,(x.shift,())),()),()))=_
 rw[UV,Zeu l t h ht]
 cases eqI (v%2) 1<;>cases x.held<;>rfl
theorem Zb8 (x:Yx) (l:List Int) (t v:Int) (h:J4 l) (ht:0≤t∧t≤20000):r299 (x.t,(l,(t,(v,()))))=some (((Ua x l t v).t,()),()):=by
 unfold r299 m299 Ua
 show (bif x.held then (r344 (l,(t,()))).bind (fun r0=>some (((eqI (ZD .i64 v 1) 1,r0.1),()),()))else bif eqI (ZD .i64 v 1) 1 then (r344 (l,(t,()))).bind (fun r0=>some (((eqI (ZD .i64 v 1) 1,r0.1),()),()))else some (((eqI (ZD .i64 v 1) 1,(x.shift,())),()),()))=_
 rw[UV,ZeD l t h ht]
 cases eqI (v%2) 1<;>cases x.held<;>rfl
theorem Zp3 (x:Int):Int.fdiv x ((2:Int)^(Min.min (Int.toNat (1:Int)) (64:Nat)))=x/2:=Int.fdiv_eq_ediv_of_nonneg x (by decide)
theorem ZcC (x:Yx) (l:List Int) (t:Int) (h:J4 l) (ht:0≤t∧t≤20000):r322 (x.t,(l,(t,())))=some (((W3 x l t).t,(Va x l t,())),()):=by
 unfold r322 m322 W3 Va
 show (bif x.held then (r354 (l,(t,()))).bind (fun r0=>some (((true,r0.1),(ZD .i64 r0.1.1 1,())),()))else some (((false,(Int.fdiv x.shift ((2:Int)^(Min.min (Int.toNat (1:Int)) (64:Nat))),())),(ZD .i64 x.shift 1,())),()))=_
 rw[Zeu l t h ht,Zp3,UV]
 cases x.held
 ·rfl
 ·show some (((true,(Xq l t,())),(ZD .i64 (Xq l t) 1,())),())=_
  rw[UV];rfl
theorem ZcJ (x:Yx) (l:List Int) (t:Int) (h:J4 l) (ht:0≤t∧t≤20000):r298 (x.t,(l,(t,())))=some (((W3 x l t).t,(Va x l t,())),()):=by
 unfold r298 m298 W3 Va
 show (bif x.held then (r344 (l,(t,()))).bind (fun r0=>some (((x.held,r0.1),(ZD .i64 r0.1.1 1,())),()))else some (((x.held,(Int.fdiv x.shift ((2:Int)^(Min.min (Int.toNat (1:Int)) (64:Nat))),())),(ZD .i64 x.shift 1,())),()))=_
 rw[ZeD l t h ht,Zp3,UV]
 cases x.held
 ·rfl
 ·show some (((true,(Xq l t,())),(ZD .i64 (Xq l t) 1,())),())=_
  rw[UV];rfl
theorem ZdK (t:Int) (ht:0≤t∧t≤20000):r328 (t,())=some ((t,()),()):=by
 unfold r328 m328
 show some ((mnI (mxI t 0) 20000,()),())=_
 rw[ZrR ht.1]
 unfold mnI
 rw[if_neg (by omega)]
theorem Zas (t rest by':Int) (ht:0≤t∧t≤20000) (hr:0≤rest∧rest<by') (hb:by'=32∨by'=64):r223 (t,(rest,(by',())))=some (((t+(by'-1-rest))/by',()),()):=by
 unfold r223 m223
 show (bif neI by' 0 then some ((wI (Int.tdiv (wI (wI (wI (t+by')-1)-rest)) by'),()),())else none)=_
 rw[Jy (by omega),Zj (x:=t+by') (by omega) (by omega),Zj (x:=t+by'-1) (by omega) (by omega),Zj (x:=t+by'-1-rest) (by omega) (by omega),W9 (by omega),show t+by'-1-rest=t+(by'-1-rest) by omega]
 rcases hb with rfl|rfl
 ·rw[Zj (by omega) (by omega)];rfl
 ·rw[Zj (by omega) (by omega)];rfl
theorem Zdd (a b:Int) (ha:0≤a∧a≤20000) (hb:0≤b∧b≤20000):r259 (a,(b,()))=some ((Jv a b,()),()):=by
 unfold r259 m259 r266 m266
 exact Za (Za (ZdK a ha) (Za (Zas a 0 32 ha (by decide) (.inl rfl)) (Za (ZdK b hb) (Za (Zas b 0 32 hb (by decide) (.inl rfl)) rfl)))) rfl
theorem ZgA (a b:Int) (ha:0≤a∧a≤20000) (hb:0≤b∧b≤20000):r202 (a,(b,()))=some ((Vp a b,()),()):=by
 unfold r202 m202 r266 m266
 exact Za (Za (ZdK a ha) (Za (Zas a 48 64 ha (by decide) (.inr rfl)) (Za (ZdK b hb) (Za (Zas b 48 64 hb (by decide) (.inr rfl)) rfl)))) rfl
theorem ZnG (a b rest by':Int) (ha:0≤a∧a≤20000) (hb:0≤b∧b≤20000) (hr:0≤rest∧rest<by') (hy:by'=32∨by'=64):
  r224 (a,(b,(rest,(by',()))))=some ((if b≤a then false else decide (a+(rest-a%by'+by')%by'<b),()),()):=by
 unfold r224 m224
 refine Za (ZnB ha.1) (Za (y:=((b,()),())) ?_ ?_)
 ·show r105 (b,((20000:Int),()))=_
  rw[Zla]
  by_cases h:b<20000
  ·rw[if_pos h]
  ·rw[if_neg h,show b=20000 by omega]
 show (bif leI b a then _ else bif neI by' 0 then (bif neI by' 0 then some ((ltI (wI (a+Int.tmod (wI (wI (rest-Int.tmod a by')+by')) by')) b,()),())else none)else none)=_
 by_cases h:b≤a
 ·rw[Zo h,if_pos h];rfl
 have hm:=Int.emod_nonneg a (show by'≠0 by omega)
 have hm2:=Int.emod_lt_of_pos a (show 0<by' by omega)
 have hm3:=Int.emod_lt_of_pos (rest-a%by'+by') (show 0<by' by omega)
 have hm4:=Int.emod_nonneg (rest-a%by'+by') (show by'≠0 by omega)
 rw[YI h,if_neg h,Jy (by omega),Qt ha.1,Zj (x:=rest-a%by') (by omega) (by omega),Zj (x:=rest-a%by'+by') (by omega) (by omega),Qt (by omega),Zj (by omega) (by omega)]
 rfl
theorem Zbv (a b:Int) (ha:0≤a∧a≤20000) (hb:0≤b∧b≤20000):r168 (a,(b,()))=some ((Jv a b,()),()):=by
 unfold r168 m168
 refine Za (ZnG a b 0 32 ha hb (by decide) (.inl rfl)) ?_
 have:(if b≤a then false else decide (a+(0-a%32+32)%32<b))=Jv a b:=by
  unfold Jv
  split
  ·exact (decide_eq_false (by omega)).symm
  ·by_cases h:a+(0-a%32+32)%32<b
   ·rw[decide_eq_true h];exact (decide_eq_true (by omega)).symm
   ·rw[decide_eq_false h];exact (decide_eq_false (by omega)).symm
 rw[this]
theorem ZgK (a b:Int) (ha:0≤a∧a≤20000) (hb:0≤b∧b≤20000):r181 (a,(b,()))=some ((Vp a b,()),()):=by
 unfold r181 m181
 refine Za (ZnG a b 48 64 ha hb (by decide) (.inr rfl)) ?_
 have:(if b≤a then false else decide (a+(48-a%64+64)%64<b))=Vp a b:=by
  unfold Vp
  split
  ·exact (decide_eq_false (by omega)).symm
  ·by_cases h:a+(48-a%64+64)%64<b
   ·rw[decide_eq_true h];exact (decide_eq_true (by omega)).symm
   ·rw[decide_eq_false h];exact (decide_eq_false (by omega)).symm
 rw[this]
theorem Zqx {l:List Rc} {t:Int} (h:due l t=true):0<l.length:=by
 obtain ⟨e,_⟩:=Zch h
 rw[e];simp
theorem Zln (cap t:Int) (l:List Rc) (h:due l t=true):r305 ((cap,(l,())),(t,()))=some ((((Q8 l).1,((Q8 l).2.1,((Q8 l).2.2,()))),(true,())),((cap,(l.tail,())),())):=by
 obtain ⟨e,e1⟩:=Zch h
 have hl:=Zqx h
 unfold r305 m305
 have hd:rdE .t l (0:Int)=Q8 l:=by rw[e];rfl
 have ht:List.drop (Int.toNat (1:Int)) l=l.tail:=by rw[e];rfl
 show (bif eqI (l.length:Int) 0 then _ else bif ltI 0 (l.length:Int)then (bif neI (rdE .t l (0:Int)).1 t then _ else bif ltI 0 (l.length:Int)then (bif leI 1 (l.length:Int)then some ((((rdE .t l (0:Int)).1,((rdE .t l (0:Int)).2.1,((rdE .t l (0:Int)).2.2,()))),(true,())),((cap,(List.drop (Int.toNat (1:Int)) l,())),()))else none)else none)else none)=_
 rw[Zd (by omega),Zf (by omega),Zo (by omega),hd,ht,JU e1]
 rfl
theorem Zlo (cap t:Int) (l:List Rc) (h:due l t=false):r305 ((cap,(l,())),(t,()))=some ((((0:Int),((0:Int),((0:Int),()))),(false,())),((cap,(l,())),())):=by
 unfold r305 m305
 cases l with
 |nil=>rfl
 |cons x l=>
  have h:x.1≠t:=by simpa [due] using h
  show (bif eqI ((x::l).length:Int) 0 then _ else bif ltI 0 ((x::l).length:Int)then (bif neI x.1 t then _ else _)else none)=_
  rw[Zd (by simp only[List.length_cons];omega),Zf (by simp only[List.length_cons];omega),Jy h]
  rfl
theorem ZlE {t mark:Int}:leI (mnI mark 20000) t= !decide (t<mark∧t<20000):=by
 unfold mnI
 split
 ·by_cases h:t<mark∧t<20000
  ·rw[YI (by omega),decide_eq_true h];rfl
  ·rw[Zo (by omega),decide_eq_false h];rfl
 ·by_cases h:t<mark∧t<20000
  ·rw[YI (by omega),decide_eq_true h];rfl
  ·rw[Zo (by omega),decide_eq_false h];rfl
theorem Zer {w:Z6} (h:Q4 w):w.frames.length≤1000:=by
 have h1:=h.ppu.t
 have h2:=h.frn
 unfold YA at h2
 omega
theorem Zdy {w:Z7} (h:QT w):w.samples.length≤2000:=by
 have h1:=h.apu.t
 have h2:=h.sam
 omega
theorem Zc0 (p:ZJ) (reg v:Int):(Je p reg v).dots=p.dots:=by
 unfold Je
 repeat' split
 all_goals rfl
theorem ZbF (p:ZJ):(QX p).table=p.table:=by
 unfold QX
 repeat' split
 all_goals rfl
theorem Zcs (p:ZJ) (reg:Int):(Jq p reg).table=p.table∧(Jq p reg).dots=p.dots:=by
 unfold Jq
 repeat' split
 all_goals exact ⟨rfl,rfl⟩
theorem Zhl (w:Z6) (mark:Int) (h:Q4 w):r247 (w.t,(mark,()))=some (((Z2 w mark).isSome,()),(((Z2 w mark).getD w).t,())):=by
 have hf:=Zer h
 unfold r247 m247 Z2
 cases hd:due w.list w.ppu.T with
 |true=>
  rw[if_pos rfl]
  refine Za (Zln w.cap w.ppu.T w.list hd) (Za (ZlN w.ppu h.ppu (Q8 w.list).2.1 (Q8 w.list).2.2) ?_)
  have e:=Zc0 w.ppu (Q8 w.list).2.1 (Q8 w.list).2.2
  generalize Je w.ppu (Q8 w.list).2.1 (Q8 w.list).2.2=q at e⊢
  obtain ⟨T,c,s,ad,pal,bl,tb,ds⟩:=q
  have e:ds=w.ppu.dots:=e
  subst e
  rfl
 |false=>
  rw[if_neg (by simp)]
  refine Za (Zlo w.cap w.ppu.T w.list hd) ?_
  show (bif leI (mnI mark 20000) w.ppu.T then _ else _)=_
  rw[ZlE]
  by_cases hm:w.ppu.T<mark∧w.ppu.T<20000
  ·rw[decide_eq_true hm,if_pos hm]
   refine Za (ZoF w.ppu h.ppu hm.2) ?_
   have e:=ZbF w.ppu
   generalize QX w.ppu=q at e⊢
   obtain ⟨T,c,s,ad,pal,bl,tb,ds⟩:=q
   have e:tb=w.ppu.table:=e
   subst e
   cases ht:Js w.ppu with
   |true=>
    show (bif leN (w.frames.length+1) (E.most .n)then _ else none)=_
    rw[ZO (by simp only[E.most];omega)]
    rfl
   |false=>rfl
  ·rw[decide_eq_false hm,if_neg hm]
   rfl
theorem Zht (w:Z7) (mark:Int) (h:QT w):r248 (w.t,(mark,()))=some (((Z3 w mark).isSome,()),(((Z3 w mark).getD w).t,())):=by
 have hf:=Zdy h
 unfold r248 m248 Z3
 cases hd:due w.list w.apu.T with
 |true=>
  rw[if_pos rfl]
  exact Za (Zln w.cap w.apu.T w.list hd) (Za (ZbQ w.apu h.apu (Q8 w.list).2.1 (Q8 w.list).2.2) rfl)
 |false=>
  rw[if_neg (by simp)]
  refine Za (Zlo w.cap w.apu.T w.list hd) ?_
  show (bif leI (mnI mark 20000) w.apu.T then _ else _)=_
  rw[ZlE]
  by_cases hm:w.apu.T<mark∧w.apu.T<20000
  ·rw[decide_eq_true hm,if_pos hm]
   refine Za (ZgR w.apu h.apu hm.2) ?_
   cases ht:Yd w.apu with
   |true=>
    show (bif leN (w.samples.length+1) (E.most .i)then _ else none)=_
    rw[ZO (by simp only[E.most];omega)]
    rfl
   |false=>rfl
  ·rw[decide_eq_false hm,if_neg hm]
   rfl
theorem ZoH {t:Int} (h:0≤t):eqI (Int.tmod t 64) 48=decide (t%64=48):=by rw[Qt h,Qk]
theorem ZfG (w:Z6) (mark:Int) (h:Q4 w) (hd:due w.list w.ppu.T=false):(bif leI mark w.ppu.T then some ((w.t,(false,())),())else bif eqI w.ppu.T 20000 then some ((w.t,(false,())),())else (r183 (w.ppu.t,())).bind fun r0=>
  bif (eqI (Int.tmod w.ppu.T (64:Int)) (48:Int))then (bif (leN (w.frames.length+1) (E.most .n))then (some (((r0.1.1.1,(r0.1.1.2.1,(r0.1.1.2.2.1,(r0.1.1.2.2.2.1,(r0.1.1.2.2.2.2.1,(r0.1.1.2.2.2.2.2.1,(r0.1.1.2.2.2.2.2.2.1,(r0.1.1.2.2.2.2.2.2.2.1,(w.cap,(w.list,((w.frames++[r0.1.2.1]),()))))))))))),(true,())),()))
   else none)
  else some (((r0.1.1.1,(r0.1.1.2.1,(r0.1.1.2.2.1,(r0.1.1.2.2.2.1,(r0.1.1.2.2.2.2.1,(r0.1.1.2.2.2.2.2.1,(r0.1.1.2.2.2.2.2.2.1,(r0.1.1.2.2.2.2.2.2.2.1,(w.cap,(w.list,(w.frames,()))))))))))),(true,())),()))=some (((((Z2 w mark).getD w).t),((Z2 w mark).isSome,())),()):=by
 have hf:=Zer h
 have ht:=h.ppu.t
 unfold Z2
 rw[hd,if_neg (by simp)]
 by_cases hm:w.ppu.T<mark∧w.ppu.T<20000
 ·rw[if_pos hm,YI (by omega),Zd (by omega),cond_false,cond_false]
  refine Za (Zjf w.ppu h.ppu hm.2) ?_
  rw[ZoH ht.1]
  cases hto:Js w.ppu with
  |true=>
   rw[show decide (w.ppu.T%64=48)=true from hto,ZO (by simp only[E.most];omega)]
   rfl
  |false=>
   rw[show decide (w.ppu.T%64=48)=false from hto]
   rfl
 ·rw[if_neg hm]
  by_cases h1:mark≤w.ppu.T
  ·rw[Zo h1];rfl
  ·rw[YI h1,Zi (by omega)];rfl
theorem Zi8 (w:Z6) (mark:Int) (h:Q4 w):r100 (w.t,(mark,()))=some ((((Z2 w mark).getD w).t,((Z2 w mark).isSome,())),()):=by
 have hl:=h.ring.len
 have hc:=h.ring.c1
 unfold r100 m100
 show (bif ltI 0 (w.list.length:Int)then (bif ltI 0 (w.list.length:Int)then (bif eqI (rdE .t w.list (0:Int)).1 w.ppu.T then _ else _)else none)else _)=_
 by_cases h0:w.list.length=0
 ·rw[Zp (by omega),cond_false]
  refine ZfG w mark h ?_
  rw[List.eq_nil_of_length_eq_zero h0];rfl
 rw[Zf (by omega),cond_true,cond_true]
 cases hd:due w.list w.ppu.T with
 |true=>
  obtain ⟨e,e1⟩:=Zch hd
  have hd0:rdE .t w.list (0:Int)=Q8 w.list:=by rw[e];rfl
  have htl:List.drop (Int.toNat (1:Int)) w.list=w.list.tail:=by rw[e];rfl
  rw[hd0,Zi e1,cond_true]
  show (bif ltI 0 (w.list.length:Int)then (bif leI 1 (w.list.length:Int)then (bif leN (0+(List.drop (Int.toNat (1:Int)) w.list).length) (E.most .t)then _ else none)else none)else none)=_
  rw[Zf (by omega),Zo (by omega),htl,ZO (by simp only[E.most,List.length_tail];omega)]
  rw[cond_true,cond_true,cond_true]
  have hw:=Zca w.ppu h.ppu (Q8 w.list).2.1 (Q8 w.list).2.2
  rw[←hd0]at hw
  refine Za hw ?_
  unfold Z2
  rw[hd,if_pos rfl,hd0]
  show some (((_,(_,(_,(_,(_,(_,(_,(_,(w.cap,(([]++List.drop (Int.toNat (1:Int)) w.list),_)))))))))),(true,())),())=_
  rw[htl]
  rfl
 |false=>
  have hne:(rdE .t w.list (0:Int)).1≠w.ppu.T:=by
   obtain ⟨x,l,e⟩: ∃x l,w.list=x::l:=by
    cases hw:w.list with
    |nil=>rw[hw]at h0;exact absurd rfl h0
    |cons x l=>exact ⟨x,l,rfl⟩
   rw[e]at hd⊢
   have hd: ¬x.1=w.ppu.T:=by simpa [due] using hd
   exact hd
  rw[Zd hne,cond_false]
  exact ZfG w mark h hd
theorem ZfH (w:Z7) (mark:Int) (h:QT w) (hd:due w.list w.apu.T=false):(bif leI mark w.apu.T then some ((w.t,(false,())),())else bif eqI w.apu.T 20000 then some ((w.t,(false,())),())else (r185 (w.apu.t,())).bind fun r0=>
  bif r0.1.2.2.1 then (bif (leN (w.samples.length+1) (E.most .i))then (some (((r0.1.1.1,(r0.1.1.2.1,(r0.1.1.2.2.1,(r0.1.1.2.2.2.1,(r0.1.1.2.2.2.2.1,(r0.1.1.2.2.2.2.2.1,(r0.1.1.2.2.2.2.2.2.1,(w.cap,(w.list,((w.samples++[r0.1.2.1]),())))))))))),(true,())),()))
   else none)
  else some (((r0.1.1.1,(r0.1.1.2.1,(r0.1.1.2.2.1,(r0.1.1.2.2.2.1,(r0.1.1.2.2.2.2.1,(r0.1.1.2.2.2.2.2.1,(r0.1.1.2.2.2.2.2.2.1,(w.cap,(w.list,(w.samples,())))))))))),(true,())),()))=some (((((Z3 w mark).getD w).t),((Z3 w mark).isSome,())),()):=by
 have hf:=Zdy h
 have ht:=h.apu.t
 unfold Z3
 rw[hd,if_neg (by simp)]
 by_cases hm:w.apu.T<mark∧w.apu.T<20000
 ·rw[if_pos hm,YI (by omega),Zd (by omega),cond_false,cond_false]
  refine Za (Zg9 w.apu h.apu hm.2) ?_
  cases hto:Yd w.apu with
  |true=>
   rw[ZO (by simp only[E.most];omega)]
   rfl
  |false=>rfl
 ·rw[if_neg hm]
  by_cases h1:mark≤w.apu.T
  ·rw[Zo h1];rfl
  ·rw[YI h1,Zi (by omega)];rfl
theorem Zi9 (w:Z7) (mark:Int) (h:QT w):r101 (w.t,(mark,()))=some ((((Z3 w mark).getD w).t,((Z3 w mark).isSome,())),()):=by
 have hl:=h.ring.len
 have hc:=h.ring.c1
 unfold r101 m101
 show (bif ltI 0 (w.list.length:Int)then (bif ltI 0 (w.list.length:Int)then (bif eqI (rdE .t w.list (0:Int)).1 w.apu.T then _ else _)else none)else _)=_
 by_cases h0:w.list.length=0
 ·rw[Zp (by omega),cond_false]
  refine ZfH w mark h ?_
  rw[List.eq_nil_of_length_eq_zero h0];rfl
 rw[Zf (by omega),cond_true,cond_true]
 cases hd:due w.list w.apu.T with
 |true=>
  obtain ⟨e,e1⟩:=Zch hd
  have hd0:rdE .t w.list (0:Int)=Q8 w.list:=by rw[e];rfl
  have htl:List.drop (Int.toNat (1:Int)) w.list=w.list.tail:=by rw[e];rfl
  rw[hd0,Zi e1,cond_true]
  show (bif ltI 0 (w.list.length:Int)then (bif leI 1 (w.list.length:Int)then (bif leN (0+(List.drop (Int.toNat (1:Int)) w.list).length) (E.most .t)then _ else none)else none)else none)=_
  rw[Zf (by omega),Zo (by omega),htl,ZO (by simp only[E.most,List.length_tail];omega)]
  rw[cond_true,cond_true,cond_true]
  have hw:=Zb3 w.apu h.apu (Q8 w.list).2.1 (Q8 w.list).2.2
  rw[←hd0]at hw
  refine Za hw ?_
  unfold Z3
  rw[hd,if_pos rfl,hd0]
  show some (((_,(_,(_,(_,(_,(_,(_,(w.cap,(([]++List.drop (Int.toNat (1:Int)) w.list),_))))))))),(true,())),())=_
  rw[htl]
  rfl
 |false=>
  have hne:(rdE .t w.list (0:Int)).1≠w.apu.T:=by
   obtain ⟨x,l,e⟩: ∃x l,w.list=x::l:=by
    cases hw:w.list with
    |nil=>rw[hw]at h0;exact absurd rfl h0
    |cons x l=>exact ⟨x,l,rfl⟩
   rw[e]at hd⊢
   have hd: ¬x.1=w.apu.T:=by simpa [due] using hd
   exact hd
  rw[Zd hne,cond_false]
  exact ZfH w mark h hd
theorem Zdp (mark:Int): ∀(k:Nat) (w:Z6),Q4 w→Yl w<k→n192_0 r247 k (mark,()) (w.t,()) ()=some (Sum.inl (),((Qa w mark).t,()))
 |0,_,_,h=>absurd h (by omega)
 |k+1,w,h,hk=>by
  show (r247 (w.t,(mark,()))).bind _=_
  refine Za (Zhl w mark h) ?_
  cases hs:Z2 w mark with
  |none=>rw[Kp hs];rfl
  |some v=>
   rw[Vq h hs]
   exact Zdp mark k v (Kh h hs).1 (by have:=Vx h hs;omega)
theorem ZdA (mark:Int): ∀(k:Nat) (w:Z7),QT w→Ym w<k→n193_0 r248 k (mark,()) (w.t,()) ()=some (Sum.inl (),((ZK w mark).t,()))
 |0,_,_,h=>absurd h (by omega)
 |k+1,w,h,hk=>by
  show (r248 (w.t,(mark,()))).bind _=_
  refine Za (Zht w mark h) ?_
  cases hs:Z3 w mark with
  |none=>rw[Kq hs];rfl
  |some v=>
   rw[Vr h hs]
   exact ZdA mark k v (Ki h hs).1 (by have:=Vy h hs;omega)
theorem Zey {w:Z6} (h:Q4 w):Yl w<fuel:=by
 have:=ZQ
 have h1:=h.ppu.t
 have h2:=h.ring.len
 have h3:=h.ring.c1
 unfold Yl
 omega
theorem Zjh {w:Z7} (h:QT w):Ym w<fuel:=by
 have:=ZQ
 have h1:=h.apu.t
 have h2:=h.ring.len
 have h3:=h.ring.c1
 unfold Ym
 omega
theorem Zku (w:Z6) (mark:Int) (h:Q4 w):r192 (w.t,(mark,()))=some ((),((Qa w mark).t,())):=by
 unfold r192 m192 L192_0
 exact Za (Zdp mark fuel w h (Zey h)) rfl
theorem ZkE (w:Z7) (mark:Int) (h:QT w):r193 (w.t,(mark,()))=some ((),((ZK w mark).t,())):=by
 unfold r193 m193 L193_0
 exact Za (ZdA mark fuel w h (Zjh h)) rfl
theorem Zba (mark:Int): ∀(k:Nat) (w:Z6),Q4 w→Yl w+1<k→n102_0 r72 r100 r94 k (mark,()) (w.t,()) (true,())=some (Sum.inl (false,()),((Qa w mark).t,()))
 |0,_,_,h=>absurd h (by omega)
 |k+1,w,h,hk=>by
  show (r100 (w.t,(mark,()))).bind _=_
  refine Za (Zi8 w mark h) ?_
  cases hs:Z2 w mark with
  |none=>
   rw[Kp hs]
   obtain ⟨j,rfl⟩: ∃j,k=j+1:=⟨k-1,by omega⟩
   rfl
  |some v=>
   rw[Vq h hs]
   exact Zba mark k v (Kh h hs).1 (by have:=Vx h hs;omega)
theorem Zbb (mark:Int): ∀(k:Nat) (w:Z7),QT w→Ym w+1<k→n103_0 r73 r101 r95 k (mark,()) (w.t,()) (true,())=some (Sum.inl (false,()),((ZK w mark).t,()))
 |0,_,_,h=>absurd h (by omega)
 |k+1,w,h,hk=>by
  show (r101 (w.t,(mark,()))).bind _=_
  refine Za (Zi9 w mark h) ?_
  cases hs:Z3 w mark with
  |none=>
   rw[Kq hs]
   obtain ⟨j,rfl⟩: ∃j,k=j+1:=⟨k-1,by omega⟩
   rfl
  |some v=>
   rw[Vr h hs]
   exact Zbb mark k v (Ki h hs).1 (by have:=Vy h hs;omega)
theorem Zdi (w:Z6) (h:Q4 w):r94 (w.t,())=some ((w.t,()),()):=by
 have hs:=h.s
 unfold r94 m94
 exact Za (Uw w.ppu.t h.ppu.s) (Za (Zcm (w.cap,(w.list,())) hs.2.1) (Za (Zcl w.frames hs.2.2) rfl))
theorem ZfI (w:Z7) (h:QT w):r95 (w.t,())=some ((w.t,()),()):=by
 have hs:=h.s
 have hl:w.samples.length≤4398046511104:=hs.2
 unfold r95 m95
 refine Za (Zcm (w.cap,(w.list,())) hs.1) ?_
 show (bif leN (0+w.samples.length) (E.most .i)then _ else none)=_
 rw[ZO (by simp only[E.most];omega)]
 rfl
theorem ZcW (w:Z6) (mark:Int) (h:Q4 w):r102 (w.t,(mark,()))=some (((Qa w mark).t,()),()):=by
 unfold r102 m102 L102_0
 have hf:=ZQ
 have hok:r72 (w.t,())=some ((true,()),()):=by rw[ZbK w.t h.s,ZfT.2 h]
 refine Za hok (Za (Zdi w h) (Za (Zba mark fuel w h (by have:=Zey h;have h1:=h.ppu.t;have h2:=h.ring.len;have h3:=h.ring.c1;unfold Yl;omega)) rfl))
theorem Zeh (w:Z7) (mark:Int) (h:QT w):r103 (w.t,(mark,()))=some (((ZK w mark).t,()),()):=by
 unfold r103 m103 L103_0
 have hf:=ZQ
 have hok:r73 (w.t,())=some ((true,()),()):=by rw[ZcM w.t h.s,Zga.2 h]
 refine Za hok (Za (ZfI w h) (Za (Zbb mark fuel w h (by have h1:=h.apu.t;have h2:=h.ring.len;have h3:=h.ring.c1;unfold Ym;omega)) rfl))
theorem Zim (s:Zc) (n:Int) (ht:0≤s.T∧s.T≤20000) (hn:0≤n∧n≤7):r254 (s.t,(n,()))=some ((YK s n,()),()):=by
 unfold r254 m254 YK
 show (bif ltI 20000 (wI (s.T+n))then _ else _)=_
 rw[Zj (by omega) (by omega)]
 by_cases h:20000<s.T+n
 ·rw[Zf h,if_pos h];rfl
 ·rw[Zp h,if_neg h];rfl
theorem Zco (s:Zc) (n:Int) (ht:0≤s.T∧s.T≤20000) (hn:0≤n∧n≤7):r167 (s.t,(n,()))=some ((YK s n,()),()):=by
 unfold r167 m167 YK
 show (bif ltI 20000 (wI (s.T+n))then _ else _)=_
 rw[Zj (by omega) (by omega)]
 by_cases h:20000<s.T+n
 ·rw[Zf h,if_pos h];rfl
 ·rw[Zp h,if_neg h];rfl
theorem ZfE {s:Zc} (h:Zq s):0≤s.knownAt∧s.knownAt≤20000:=by
 have:=h.known
 have:=h.t
 omega
theorem Zhi (s:Zc) (h:Zq s):r197 (s.t,())=some ((Jm s,()),()):=by
 unfold r197 m197 Jm
 show (bif !s.nmi then (bif !s.cpu.i then (r259 (s.knownAt,(s.T,()))).bind _ else _)else _)=_
 rw[Zdd _ _ (ZfE h) h.t]
 cases s.nmi<;>cases s.cpu.i<;>rfl
theorem Zck (s:Zc) (h:Zq s):r200 (s.t,())=some ((Jf s,()),()):=by
 unfold r200 m200 Jf
 refine Za (Zdd _ _ (ZfE h) h.t) ?_
 show (bif Jv s.knownAt s.T then (bif s.snd.apu.irq then some ((!s.cpu.i,()),())else _)else bif s.known then some ((!s.cpu.i,()),())else _)=_
 cases Jv s.knownAt s.T<;>cases s.snd.apu.irq<;>cases s.known<;>rfl
theorem Zhb (s:Zc) (h:Zq s):r170 (s.t,())=some (((if Jv s.knownAt s.T then s.snd.apu.irq else s.known),()),()):=by
 unfold r170 m170
 refine Za (Zbv _ _ (ZfE h) h.t) ?_
 show (bif Jv s.knownAt s.T then some ((s.snd.apu.irq,()),())else some ((s.known,()),()))=_
 cases Jv s.knownAt s.T<;>rfl
def ZoQ (s:Zc):Int:=
 if ZG (opS s)=1∧(rgT (Zz s)).1=2∧Xr s=false then 1 else if ZG (opS s)=1∧(rgT (Zz s)).1=3∧JW s=false then 2
 else if ZG (opS s)=2∧(rgT (Zz s)).1=2∧s.pic.cap≤(s.pic.list.length:Int)then 3 else if ZG (opS s)=2∧(rgT (Zz s)).1=3∧s.snd.cap≤(s.snd.list.length:Int)then 4
 else YK s (Qm (opS s))
theorem ZlI (s:Zc):QG s=if s.nmi then YK s 7 else if Jm s&& !JW s then 2 else if Jf s then YK s 7 else ZoQ s:=rfl
theorem Ug {s:Zc} (h:Zq s):0≤QN s∧QN s≤65535:=ZmS h.mem _
theorem Zry (s:Zc):0≤Qm (opS s)∧Qm (opS s)≤7:=by have:=UD (opS s);omega
def ZpE {T:Type} (k1 k2 g2 g3 c1 c2:Bool) (P S:(Bool→Option T)→Option T) (a b c d e:Option T):Option T:=
 let t4:=bif k2 then (bif g3 then (bif c2 then d else e)else e)else e
 let t3:=bif k2 then (bif g2 then (bif c1 then c else t4)else t4)else t4
 let t2:=bif k1 then (bif g3 then S (fun u=>bif !u then b else t3)else t3)else t3
 bif k1 then (bif g2 then P (fun u=>bif !u then a else t2)else t2)else t2
theorem Zk6 (s:Zc) (h:Zq s):ZpE (eqI (ZG (opS s)) 1) (eqI (ZG (opS s)) 2) (eqI (rgT (Zz s)).1 2) (eqI (rgT (Zz s)).1 3) (leI s.pic.cap (s.pic.list.length:Int)) (leI s.snd.cap (s.snd.list.length:Int))
  (fun f=>(r219 (s.t,())).bind fun r=>f r.1.1) (fun f=>(r220 (s.t,())).bind fun r=>f r.1.1) (some (((1:Int),()),())) (some (((2:Int),()),())) (some (((3:Int),()),())) (some (((4:Int),()),()))
  ((r258 (opS s,())).bind fun r8=>(r254 (s.t,r8.1)).bind fun r9=>some ((r9.1:PTup o254),()))=(some (((ZoQ s,()),())):Option (PTup o254×Unit)):=by
 have e:((r258 (opS s,())).bind fun r8=>(r254 (s.t,r8.1)).bind fun r9=>some ((r9.1:PTup o254),()))=(some ((YK s (Qm (opS s)),()),()):Option (PTup o254×Unit)):=
  Za (Zaa (opS s,())) (Za (Zim s (Qm (opS s)) h.t (Zry s)) rfl)
 rw[e]
 have ep:r219 (s.t,())=some ((Xr s,()),()):=ZbI s.t
 have es:r220 (s.t,())=some ((JW s,()),()):=ZaZ s.t
 unfold ZoQ ZpE
 rw[ep,es]
 have l1:=h.pic.ring.len
 have l2:=h.snd.ring.len
 have q1:(leI s.pic.cap (s.pic.list.length:Int))=decide (s.pic.cap≤(s.pic.list.length:Int)):=by
  by_cases hq:s.pic.cap≤(s.pic.list.length:Int)
  ·rw[decide_eq_true hq];exact Zo hq
  ·rw[decide_eq_false hq];exact YI hq
 have q2:(leI s.snd.cap (s.snd.list.length:Int))=decide (s.snd.cap≤(s.snd.list.length:Int)):=by
  by_cases hq:s.snd.cap≤(s.snd.list.length:Int)
  ·rw[decide_eq_true hq];exact Zo hq
  ·rw[decide_eq_false hq];exact YI hq
 rw[q1,q2]
 generalize (rgT (Zz s)).1=g
 rcases Zbq (opS s)with o|o|o<;>rw[o]
 ·rfl
 ·by_cases g2:g=2
  ·subst g2
   cases Xr s<;>rfl
  ·by_cases g3:g=3
   ·subst g3
    cases JW s<;>rfl
   ·rw[Zd g2,Zd g3,if_neg (fun x=>g2 x.2.1),if_neg (fun x=>g3 x.2.1),if_neg (fun x=>g2 x.2.1),if_neg (fun x=>g3 x.2.1)]
    rfl
 ·by_cases g2:g=2
  ·subst g2
   by_cases hq:s.pic.cap≤(s.pic.list.length:Int)
   ·rw[decide_eq_true hq,if_neg (fun x=>absurd x.1 (by decide)),if_neg (fun x=>absurd x.1 (by decide)),if_pos ⟨rfl,rfl,hq⟩];rfl
   ·rw[decide_eq_false hq,if_neg (fun x=>absurd x.1 (by decide)),if_neg (fun x=>absurd x.1 (by decide)),if_neg (fun x=>hq x.2.2),if_neg (fun x=>absurd x.2.1 (by decide))];rfl
  ·by_cases g3:g=3
   ·subst g3
    by_cases hq:s.snd.cap≤(s.snd.list.length:Int)
    ·rw[decide_eq_true hq,if_neg (fun x=>absurd x.1 (by decide)),if_neg (fun x=>absurd x.1 (by decide)),if_neg (fun x=>absurd x.2.1 (by decide)),if_pos ⟨rfl,rfl,hq⟩];rfl
    ·rw[decide_eq_false hq,if_neg (fun x=>absurd x.1 (by decide)),if_neg (fun x=>absurd x.1 (by decide)),if_neg (fun x=>absurd x.2.1 (by decide)),if_neg (fun x=>hq x.2.2)];rfl
   ·rw[Zd g2,Zd g3,if_neg (fun x=>g2 x.2.1),if_neg (fun x=>g3 x.2.1),if_neg (fun x=>g2 x.2.1),if_neg (fun x=>g3 x.2.1)]
    rfl
theorem Ziv (s:Zc) (h:Zq s):ZpE (eqI (ZG (opS s)) 1) (eqI (ZG (opS s)) 2) (eqI (rgT (Zz s)).1 2) (eqI (rgT (Zz s)).1 3) (eqI (s.pic.list.length:Int) s.pic.cap) (eqI (s.snd.list.length:Int) s.snd.cap)
  (fun f=>(r174 (s.t,())).bind fun r=>f r.1.1) (fun f=>(r169 (s.t,())).bind fun r=>f r.1.1) (some (((1:Int),()),())) (some (((2:Int),()),())) (some (((3:Int),()),())) (some (((4:Int),()),()))
  ((r175 (opS s,())).bind fun r8=>(r167 (s.t,r8.1)).bind fun r9=>some ((r9.1:PTup o167),()))=(some (((ZoQ s,()),())):Option (PTup o167×Unit)):=by
 have e:((r175 (opS s,())).bind fun r8=>(r167 (s.t,r8.1)).bind fun r9=>some ((r9.1:PTup o167),()))=(some ((YK s (Qm (opS s)),()),()):Option (PTup o167×Unit)):=
  Za (Zac (opS s,())) (Za (Zco s (Qm (opS s)) h.t (Zry s)) rfl)
 rw[e]
 have ep:r174 (s.t,())=some ((Xr s,()),()):=ZbY s.t
 have es:r169 (s.t,())=some ((JW s,()),()):=Zbn s.t
 unfold ZoQ ZpE
 rw[ep,es]
 have l1:=h.pic.ring.len
 have l2:=h.snd.ring.len
 have q1:(eqI (s.pic.list.length:Int) s.pic.cap)=decide (s.pic.cap≤(s.pic.list.length:Int)):=by
  by_cases hq:s.pic.cap≤(s.pic.list.length:Int)
  ·rw[decide_eq_true hq];exact Zi (by omega)
  ·rw[decide_eq_false hq];exact Zd (by omega)
 have q2:(eqI (s.snd.list.length:Int) s.snd.cap)=decide (s.snd.cap≤(s.snd.list.length:Int)):=by
  by_cases hq:s.snd.cap≤(s.snd.list.length:Int)
  ·rw[decide_eq_true hq];exact Zi (by omega)
  ·rw[decide_eq_false hq];exact Zd (by omega)
 rw[q1,q2]
 generalize (rgT (Zz s)).1=g
 rcases Zbq (opS s)with o|o|o<;>rw[o]
 ·rfl
 ·by_cases g2:g=2
  ·subst g2
   cases Xr s<;>rfl
  ·by_cases g3:g=3
   ·subst g3
    cases JW s<;>rfl
   ·rw[Zd g2,Zd g3,if_neg (fun x=>g2 x.2.1),if_neg (fun x=>g3 x.2.1),if_neg (fun x=>g2 x.2.1),if_neg (fun x=>g3 x.2.1)]
    rfl
 ·by_cases g2:g=2
  ·subst g2
   by_cases hq:s.pic.cap≤(s.pic.list.length:Int)
   ·rw[decide_eq_true hq,if_neg (fun x=>absurd x.1 (by decide)),if_neg (fun x=>absurd x.1 (by decide)),if_pos ⟨rfl,rfl,hq⟩];rfl
   ·rw[decide_eq_false hq,if_neg (fun x=>absurd x.1 (by decide)),if_neg (fun x=>absurd x.1 (by decide)),if_neg (fun x=>hq x.2.2),if_neg (fun x=>absurd x.2.1 (by decide))];rfl
  ·by_cases g3:g=3
   ·subst g3
    by_cases hq:s.snd.cap≤(s.snd.list.length:Int)
    ·rw[decide_eq_true hq,if_neg (fun x=>absurd x.1 (by decide)),if_neg (fun x=>absurd x.1 (by decide)),if_neg (fun x=>absurd x.2.1 (by decide)),if_pos ⟨rfl,rfl,hq⟩];rfl
    ·rw[decide_eq_false hq,if_neg (fun x=>absurd x.1 (by decide)),if_neg (fun x=>absurd x.1 (by decide)),if_neg (fun x=>absurd x.2.1 (by decide)),if_neg (fun x=>hq x.2.2)];rfl
   ·rw[Zd g2,Zd g3,if_neg (fun x=>g2 x.2.1),if_neg (fun x=>g3 x.2.1),if_neg (fun x=>g2 x.2.1),if_neg (fun x=>g3 x.2.1)]
    rfl
theorem ZkT (s:Zc) (h:Zq s):r196 (s.t,())=some ((QG s,()),()):=by
 unfold r196 m196
 rw[ZlI]
 show (bif s.nmi then _ else _)=_
 cases hn:s.nmi with
 |true=>exact Za (Zim s 7 h.t (by decide)) rfl
 |false=>
  rw[cond_false,if_neg (by simp)]
  refine Za (Zhi s h) ?_
  cases hm:Jm s with
  |false=>
   refine Za (Zck s h) ?_
   rw[Bool.false_and,if_neg (by simp)]
   cases ha:Jf s with
   |true=>exact Za (Zim s 7 h.t (by decide)) rfl
   |false=>exact Za (Zci s.img s.mem s.cpu.pc h.mem h.cpu.pc) (Za (Zay (opS s) (QN s) s.cpu h.cpu (Ug h)) (Za (WO (Zz s,())) (Zk6 s h)))
  |true=>
   refine Za (ZaZ s.t) ?_
   show (bif !JW s then _ else _)=_
   rw[Bool.true_and]
   cases hs:JW s with
   |false=>rfl
   |true=>
    refine Za (Zck s h) ?_
    rw[if_neg (by simp)]
    cases ha:Jf s with
    |true=>exact Za (Zim s 7 h.t (by decide)) rfl
    |false=>exact Za (Zci s.img s.mem s.cpu.pc h.mem h.cpu.pc) (Za (Zay (opS s) (QN s) s.cpu h.cpu (Ug h)) (Za (WO (Zz s,())) (Zk6 s h)))
theorem Zd4 (s:Zc) (h:Zq s):r96 (s.t,())=some ((QG s,()),()):=by
 unfold r96 m96
 rw[ZlI]
 show (bif s.nmi then _ else bif !s.cpu.i then _ else _)=_
 cases hn:s.nmi with
 |true=>exact Za (Zco s 7 h.t (by decide)) rfl
 |false=>
  rw[cond_false,if_neg (by simp)]
  have em:Jm s=(!s.cpu.i&&Jv s.knownAt s.T):=by unfold Jm;rw[hn];rfl
  have ea:Jf s=((if Jv s.knownAt s.T then s.snd.apu.irq else s.known)&& !s.cpu.i):=rfl
  rw[em,ea]
  cases hi:s.cpu.i with
  |true=>
   rw[show (!true&&Jv s.knownAt s.T)=false from rfl,Bool.false_and,if_neg (by simp),show (!true)=false from rfl,Bool.and_false,if_neg (by simp)]
   exact Za (Zav s.img s.mem s.cpu.pc h.mem h.cpu.pc) (Za (Zak (opS s) (QN s) s.cpu h.cpu (Ug h)) (Za (Wt (Zz s,())) (Ziv s h)))
  |false=>
   refine Za (Zbv _ _ (ZfE h) h.t) ?_
   rw[show (!false)=true from rfl,Bool.true_and,Bool.and_true]
   show (bif Jv s.knownAt s.T then _ else _)=_
   cases hb:Jv s.knownAt s.T with
   |false=>
    have k:=Zhb s h
    rw[hb]at k
    refine Za k ?_
    rw[Bool.false_and,if_neg (by simp),if_neg (by simp)]
    cases hk:s.known with
    |true=>exact Za (Zco s 7 h.t (by decide)) rfl
    |false=>exact Za (Zav s.img s.mem s.cpu.pc h.mem h.cpu.pc) (Za (Zak (opS s) (QN s) s.cpu h.cpu (Ug h)) (Za (Wt (Zz s,())) (Ziv s h)))
   |true=>
    refine Za (Zbn s.t) ?_
    show (bif !JW s then _ else _)=_
    rw[Bool.true_and]
    cases hs:JW s with
    |false=>rfl
    |true=>
     have k:=Zhb s h
     rw[hb,if_pos rfl]at k
     refine Za k ?_
     simp only[if_true,Bool.not_true,Bool.false_eq_true,if_false]
     cases hk:s.snd.apu.irq with
     |true=>exact Za (Zco s 7 h.t (by decide)) rfl
     |false=>exact Za (Zav s.img s.mem s.cpu.pc h.mem h.cpu.pc) (Za (Zak (opS s) (QN s) s.cpu h.cpu (Ug h)) (Za (Wt (Zz s,())) (Ziv s h)))

end Go.Proofs.YtleidaafbhojfaaGreatDoor.Plain
