/- Plain laws of the printed functions: UnitI, ExecI, TimeI, WaitI. No condition beyond those that each lemma states. -/
import Derived.Test.YtleidaafbhojfaaGreatDoorPB
set_option linter.unusedVariables false
set_option linter.unusedSimpArgs false
namespace Go.Proofs.YtleidaafbhojfaaGreatDoor.Plain
open Go Go.Tev
theorem Zir {a b:Int} (h:0≤a):Int.tdiv a b=a/b:=Int.tdiv_eq_ediv_of_nonneg h
theorem dotI {s at':Int} (ha:0≤at'∧at'≤48) (hs:0≤s∧s≤255):Int.tmod (wI ((wI ((Int.tmod at' 8)+s))+(wI (Int.tdiv at' 8)))) 16=(at'%8+s+at'/8)%16:=by
 rw[ZaJ ha.1,Zir ha.1,Zas (x:=at'%8+s) (by omega) (by omega),Zas (x:=at'/8) (by omega) (by omega),Zas (by omega) (by omega),ZaJ (by omega)]
theorem Zv7 (p:PpuM) (h:PpuP p) (a:Int) (ha:0≤a∧a≤48):r245 (p.t,(a,()))=some ((dotN p a,()),()):=by
 have h1:=h.len
 unfold r245 m245 dotN
 simp only[Zad,PpuM.t]
 rw[dotI ha h.scroll,Zay (by omega),Zaj (by omega)]
 rfl
theorem Zyd (p:PpuM) (hs:0≤p.scroll∧p.scroll≤255) (h1:p.table.length=16) (a:Int) (ha:0≤a∧a≤48):r350 (p.t,(a,()))=some ((dotN p a,()),()):=by
 unfold r350 m350 dotN
 simp only[Zad,PpuM.t]
 rw[dotI ha hs,Zay (by omega),Zaj (by omega)]
 rfl
theorem ZrB {p:PpuM} (h:PpuP p):p.dots.length≤48:=by
 have h2:=h.dots
 split at h2<;>omega
theorem Zvo {p:PpuM} (c:p.T%64<48):ZdJ p={p with T:=p.T+1,dots:=p.dots++[dotN p (p.T%64)]}∧ZcT p=[]∧Zku p=false∧Zd6 p=false:=by
 unfold ZdJ ZcT Zku Zd6
 rw[if_pos c,if_neg (by omega),decide_eq_false (by omega)]
 exact ⟨rfl,rfl,rfl,rfl⟩
theorem Zvp {p:PpuM} (c:p.T%64=48):ZdJ p={p with T:=p.T+1,blank:=true,dots:=[]}∧ZcT p=p.dots∧Zku p=ltI 127 p.ctrl∧Zd6 p=true:=by
 unfold ZdJ ZcT Zku Zd6
 rw[if_neg (by omega),if_pos c,if_pos c,decide_eq_true c]
 exact ⟨rfl,rfl,rfl,rfl⟩
theorem Zvq {p:PpuM} (c:p.T%64=63):ZdJ p={p with T:=p.T+1,blank:=false}∧ZcT p=[]∧Zku p=false∧Zd6 p=false:=by
 unfold ZdJ ZcT Zku Zd6
 rw[if_neg (by omega),if_neg (by omega),if_pos c,if_neg (by omega),decide_eq_false (by omega)]
 exact ⟨rfl,rfl,rfl,rfl⟩
theorem Zvr {p:PpuM} (c: ¬p.T%64<48) (c2:p.T%64≠48) (c3:p.T%64≠63):ZdJ p={p with T:=p.T+1}∧ZcT p=[]∧Zku p=false∧Zd6 p=false:=by
 unfold ZdJ ZcT Zku Zd6
 rw[if_neg c,if_neg c2,if_neg c3,if_neg c2,decide_eq_false c2]
 exact ⟨rfl,rfl,rfl,rfl⟩
theorem ZpB (p:PpuM) (h:PpuP p) (ht:p.T<20000):r183 (p.t,())=some (((ZdJ p).t,(ZcT p,(Zku p,()))),()):=by
 have h1:=h.t
 have hd:=ZrB h
 unfold r183 m183
 refine Zaa (Zep p.t h.s) ?_
 show (bif eqI p.T 20000 then _ else bif ltI (Int.tmod p.T 64) 48 then _ else bif eqI (Int.tmod p.T 64) 48 then _ else bif eqI (Int.tmod p.T 64) 63 then _ else _)=_
 have hm:Int.tmod p.T 64=p.T%64:=ZaJ h1.1
 have hw:wI (p.T+1)=p.T+1:=Zas (by omega) (by omega)
 rw[Zag (show p.T≠20000 by omega),cond_false,hm]
 by_cases c1:p.T%64<48
 ·obtain ⟨e1,e2,e3,_⟩:=Zvo c1
  rw[Zaj c1,cond_true,e1,e2,e3]
  refine Zaa (Zv7 p h (Int.tmod p.T 64) (by omega)) ?_
  show (bif leN (p.dots.length+1) (E.most .i)then some ((((wI (p.T+1)),_),_),_)else none)=_
  rw[Zbn (by simp only[E.most];omega),hw,hm]
  rfl
 rw[Zam c1,cond_false]
 by_cases c2:p.T%64=48
 ·obtain ⟨e1,e2,e3,_⟩:=Zvp c2
  rw[Zao c2,cond_true,e1,e2,e3]
  show (bif leN (0+p.dots.length) (E.most .i)then some ((((wI (p.T+1)),_),_),_)else none)=_
  rw[Zbn (by simp only[E.most];omega),hw]
  rfl
 rw[Zag c2,cond_false]
 by_cases c3:p.T%64=63
 ·obtain ⟨e1,e2,e3,_⟩:=Zvq c3
  rw[Zao c3,cond_true,e1,e2,e3]
  show some ((((wI (p.T+1)),_),_),_)=_
  rw[hw];rfl
 ·obtain ⟨e1,e2,e3,_⟩:=Zvr c1 c2 c3
  rw[Zag c3,cond_false,e1,e2,e3]
  show some ((((wI (p.T+1)),_),_),_)=_
  rw[hw];rfl
theorem Zvt (p:PpuM) (h:PpuP p) (ht:p.T<20000):r307 (p.t,())=some ((Zd6 p,(ZcT p,(Zku p,()))),((ZdJ p).t,())):=by
 have h1:=h.t
 have hd:=ZrB h
 have hm:Int.tmod p.T 64=p.T%64:=ZaJ h1.1
 have hw:wI (p.T+1)=p.T+1:=Zas (by omega) (by omega)
 unfold r307 m307
 show (bif ltI (Int.tmod p.T 64) 48 then _ else bif eqI (Int.tmod p.T 64) 48 then _ else bif eqI (Int.tmod p.T 64) 63 then _ else _)=_
 rw[hm]
 by_cases c1:p.T%64<48
 ·obtain ⟨e1,e2,e3,e4⟩:=Zvo c1
  rw[Zaj c1,cond_true,e1,e2,e3,e4]
  have hdt:=Zyd {p with T:=p.T+1} h.scroll h.len (p.T%64) (by omega)
  rw[←hw,←hm]at hdt
  refine Zaa hdt ?_
  show (bif leN (p.dots.length+1) (E.most .i)then some (_,(((wI (p.T+1)),_),_))else none)=_
  rw[Zbn (by simp only[E.most];omega),hw,hm]
  rfl
 rw[Zam c1,cond_false]
 by_cases c2:p.T%64=48
 ·obtain ⟨e1,e2,e3,e4⟩:=Zvp c2
  rw[Zao c2,cond_true,e1,e2,e3,e4]
  show some (_,(((wI (p.T+1)),_),_))=_
  rw[hw];rfl
 rw[Zag c2,cond_false]
 by_cases c3:p.T%64=63
 ·obtain ⟨e1,e2,e3,e4⟩:=Zvq c3
  rw[Zao c3,cond_true,e1,e2,e3,e4]
  show some (_,(((wI (p.T+1)),_),_))=_
  rw[hw];rfl
 ·obtain ⟨e1,e2,e3,e4⟩:=Zvr c1 c2 c3
  rw[Zag c3,cond_false,e1,e2,e3,e4]
  show some (_,(((wI (p.T+1)),_),_))=_
  rw[hw];rfl
theorem Zg9 (p:PpuM) (h:PpuP p) (reg v:Int):r182 (p.t,(reg,(v,())))=some (((ZcA p reg v).t,()),()):=by
 have ha:=h.addr
 have hl:=h.len
 unfold r182 m182 ZcA
 refine Zaa (Zep p.t h.s) (Zaa (by rw[ZeU p.t h.s,ZdE.2 h]) ?_)
 simp only[Bool.not_true,cond_false,Zaw,Option.bind_some,Zad,PpuM.t]
 rw[ZaJ (show 0≤v%256 by omega),ZaJ (show 0≤v%256 by omega),Zas (x:=p.addr+1) (by omega) (by omega),ZaJ (show 0≤p.addr+1 by omega),Zay ha.1,Zaj (by omega)]
 by_cases c:reg=0
 ·rw[Zao c,if_pos c];rfl
 rw[Zag c,if_neg c,cond_false]
 by_cases c:reg=1
 ·rw[Zao c,if_pos c];rfl
 rw[Zag c,if_neg c,cond_false]
 by_cases c:reg=3
 ·rw[Zao c,if_pos c];rfl
 rw[Zag c,if_neg c,cond_false]
 by_cases c:reg=4
 ·rw[Zao c,if_pos c];rfl
 rw[Zag c,if_neg c,cond_false]
 by_cases c:reg=5
 ·rw[Zao c,if_pos c];rfl
 rw[Zag c,if_neg c,cond_false]
theorem Zsr (p:PpuM) (h:PpuP p) (reg v:Int):r306 (p.t,(reg,(v,())))=some ((),((ZcA p reg v).t,())):=by
 have ha:=h.addr
 have hl:=h.len
 unfold r306 m306 ZcA r349 m349
 simp only[ZaZ,Option.bind_some,Zad,PpuM.t]
 rw[ZaJ (show 0≤v%256 by omega),ZaJ (show 0≤v%256 by omega),Zas (x:=p.addr+1) (by omega) (by omega),ZaJ (show 0≤p.addr+1 by omega),Zay ha.1,Zaj (by omega)]
 by_cases c:reg=0
 ·rw[Zao c,if_pos c];rfl
 rw[Zag c,if_neg c,cond_false]
 by_cases c:reg=1
 ·rw[Zao c,if_pos c];rfl
 rw[Zag c,if_neg c,cond_false]
 by_cases c:reg=3
 ·rw[Zao c,if_pos c];rfl
 rw[Zag c,if_neg c,cond_false]
 by_cases c:reg=4
 ·rw[Zao c,if_pos c];rfl
 rw[Zag c,if_neg c,cond_false]
 by_cases c:reg=5
 ·rw[Zao c,if_pos c];rfl
 rw[Zag c,if_neg c,cond_false]
theorem ZhZ (p:PpuM) (h:PpuP p) (reg:Int):r296 (p.t,(reg,()))=some (((Ze9 p reg).t,(ZgX p reg,())),()):=by
 have ha:=h.addr
 have hl:=h.len
 have hf:=Zbb p.blank
 unfold r296 m296 Ze9 ZgX
 refine Zaa (Zep p.t h.s) (Zaa (by rw[ZeU p.t h.s,ZdE.2 h]) ?_)
 simp only[Bool.not_true,cond_false,ZiR,Option.bind_some,Zad,PpuM.t]
 rw[Zas (x:=p.addr+1) (by omega) (by omega),ZaJ (show 0≤p.addr+1 by omega),Zay ha.1,Zaj (by omega),Zas (x:=128*Zcu p.blank) (by omega) (by omega)]
 by_cases c:reg=2
 ·rw[Zao c,if_pos c,if_pos c];rfl
 rw[Zag c,if_neg c,if_neg c,cond_false]
 by_cases c:reg=4
 ·rw[Zao c,if_pos c,if_pos c];rfl
 rw[Zag c,if_neg c,if_neg c,cond_false]
theorem Zu1 (p:PpuM) (h:PpuP p) (reg:Int):r320 (p.t,(reg,()))=some ((ZgX p reg,()),((Ze9 p reg).t,())):=by
 have ha:=h.addr
 have hl:=h.len
 have hf:=Zbb p.blank
 unfold r320 m320 Ze9 ZgX r349 m349
 simp only[Zlp,Option.bind_some,Zad,PpuM.t]
 rw[Zas (x:=p.addr+1) (by omega) (by omega),ZaJ (show 0≤p.addr+1 by omega),Zay ha.1,Zaj (by omega),Zas (x:=128*Zcu p.blank) (by omega) (by omega)]
 by_cases c:reg=2
 ·rw[Zao c,if_pos c,if_pos c];rfl
 rw[Zag c,if_neg c,if_neg c,cond_false]
 by_cases c:reg=4
 ·rw[Zao c,if_pos c,if_pos c];rfl
 rw[Zag c,if_neg c,if_neg c,cond_false]
theorem Zns (a:ApuM) (h:ApuP a) (ht:a.T<20000):r185 (a.t,())=some (((Zqk a).t,(Zf3 a,(Zgv a,()))),()):=by
 obtain ⟨t,p,c,b,l,asks,irq⟩:=a
 have ht:t<20000:=ht
 obtain ⟨h1,h2,h3,h4,h5⟩:=h
 have h1:0≤t∧t≤20000:=h1
 have h3:0≤c∧c≤255:=h3
 have h4:0≤b∧b≤1:=h4
 have h5:0≤l∧l≤31:=h5
 unfold r185 m185 Zqk Zf3 Zgv Zqv Zlc ApuM.t
 simp only
 rw[Zag (show t≠20000 by omega),cond_false,ZaJ h1.1,ZaJ h1.1,Zas (x:=t+1) (by omega) (by omega),Zas (x:=1-b) (by omega) (by omega),Zas (x:=l-1) (by omega) (by omega),Zas (x:=c-1) (by omega) (by omega),Zas (x:=8*(1-b)) (by omega) (by omega),Zas (x:=8*b) (by omega) (by omega)]
 by_cases c0:c=0
 ·rw[Zao c0,if_pos c0]
  by_cases l0:0<l
  ·rw[Zaj l0,if_pos l0]
   by_cases t32:t%32=0
   ·rw[Zao t32,Zag (show t%16≠15 by omega)]
    simp only[cond_true,cond_false,t32,l0,true_and,if_true,show¬t%16=15 by omega,false_and,if_false]
    cases irq<;>cases eqI (l-1) 0<;>rfl
   ·rw[Zag t32]
    simp only[cond_true,cond_false,t32,false_and,if_false]
    by_cases t16:t%16=15
    ·rw[Zao t16]
     simp only[cond_true,t16,true_and,ne_eq,show¬l=0 by omega,not_false_eq_true,if_true]
    ·rw[Zag t16]
     simp only[cond_false,t16,false_and,if_false]
  ·rw[Zam l0,if_neg l0]
   have l0':l=0:=by omega
   subst l0'
   by_cases t32:t%32=0
   ·rw[Zao t32,Zag (show t%16≠15 by omega)]
    simp only[cond_true,cond_false,t32,true_and,show¬t%16=15 by omega,false_and,if_false,Int.lt_irrefl]
   ·rw[Zag t32]
    by_cases t16:t%16=15
    ·rw[Zao t16]
     simp only[cond_true,cond_false,t32,t16,true_and,ne_eq,not_true_eq_false,false_and,and_false,if_false]
    ·rw[Zag t16]
     simp only[cond_true,cond_false,t32,t16,false_and,if_false]
 ·rw[Zag c0,if_neg c0]
  by_cases l0:0<l
  ·rw[Zaj l0]
   by_cases t32:t%32=0
   ·rw[Zao t32,Zag (show t%16≠15 by omega)]
    simp only[cond_true,cond_false,t32,l0,true_and,if_true,show¬t%16=15 by omega,false_and,if_false]
    cases irq<;>cases eqI (l-1) 0<;>rfl
   ·rw[Zag t32]
    simp only[cond_true,cond_false,t32,false_and,if_false]
    by_cases t16:t%16=15
    ·rw[Zao t16]
     simp only[cond_true,t16,true_and,ne_eq,show¬l=0 by omega,not_false_eq_true,if_true]
    ·rw[Zag t16]
     simp only[cond_false,t16,false_and,if_false]
  ·rw[Zam l0]
   have l0':l=0:=by omega
   subst l0'
   by_cases t32:t%32=0
   ·rw[Zao t32,Zag (show t%16≠15 by omega)]
    simp only[cond_true,cond_false,t32,true_and,show¬t%16=15 by omega,false_and,if_false,Int.lt_irrefl]
   ·rw[Zag t32]
    by_cases t16:t%16=15
    ·rw[Zao t16]
     simp only[cond_true,cond_false,t32,t16,true_and,ne_eq,not_true_eq_false,false_and,and_false,if_false]
    ·rw[Zag t16]
     simp only[cond_true,cond_false,t32,t16,false_and,if_false]
theorem Zm7 (a:ApuM) (h:ApuP a) (ht:a.T<20000):r309 (a.t,())=some ((Zf3 a,(Zgv a,())),((Zqk a).t,())):=by
 obtain ⟨t,p,c,b,l,asks,irq⟩:=a
 have ht:t<20000:=ht
 obtain ⟨h1,h2,h3,h4,h5⟩:=h
 have h1:0≤t∧t≤20000:=h1
 have h3:0≤c∧c≤255:=h3
 have h4:0≤b∧b≤1:=h4
 have h5:0≤l∧l≤31:=h5
 unfold r309 m309 Zqk Zf3 Zgv Zqv Zlc ApuM.t
 simp only
 rw[ZaJ h1.1,ZaJ h1.1,Zas (x:=t+1) (by omega) (by omega),Zas (x:=1-b) (by omega) (by omega),Zas (x:=l-1) (by omega) (by omega),Zas (x:=c-1) (by omega) (by omega),Zas (x:=8*(1-b)) (by omega) (by omega),Zas (x:=8*b) (by omega) (by omega)]
 by_cases c0:c=0
 ·rw[Zao c0,if_pos c0]
  by_cases l0:0<l
  ·rw[Zaj l0,if_pos l0]
   by_cases t32:t%32=0
   ·rw[Zao t32,Zag (show t%16≠15 by omega)]
    simp only[cond_true,cond_false,t32,l0,true_and,if_true,show¬t%16=15 by omega,false_and,if_false,Bool.not_false]
    cases irq<;>cases eqI (l-1) 0<;>rfl
   ·rw[Zag t32]
    simp only[cond_true,cond_false,t32,false_and,if_false]
    by_cases t16:t%16=15
    ·rw[Zao t16,Zag (show l≠0 by omega)]
     simp only[cond_true,cond_false,Bool.not_true,t16,true_and,ne_eq,show¬l=0 by omega,not_false_eq_true,if_true]
    ·rw[Zag t16]
     simp only[cond_true,cond_false,Bool.not_false,t16,false_and,if_false]
  ·rw[Zam l0,if_neg l0]
   have l0':l=0:=by omega
   subst l0'
   by_cases t32:t%32=0
   ·rw[Zao t32,Zag (show t%16≠15 by omega)]
    simp only[cond_true,cond_false,Bool.not_false,t32,true_and,show¬t%16=15 by omega,false_and,if_false,Int.lt_irrefl]
   ·rw[Zag t32]
    by_cases t16:t%16=15
    ·rw[Zao t16,Zao (show (0:Int)=0 from rfl)]
     simp only[cond_true,cond_false,Bool.not_true,t32,t16,true_and,ne_eq,not_true_eq_false,false_and,and_false,if_false]
    ·rw[Zag t16]
     simp only[cond_true,cond_false,Bool.not_false,t32,t16,false_and,if_false]
 ·rw[Zag c0,if_neg c0]
  by_cases l0:0<l
  ·rw[Zaj l0]
   by_cases t32:t%32=0
   ·rw[Zao t32,Zag (show t%16≠15 by omega)]
    simp only[cond_true,cond_false,t32,l0,true_and,if_true,show¬t%16=15 by omega,false_and,if_false,Bool.not_false]
    cases irq<;>cases eqI (l-1) 0<;>rfl
   ·rw[Zag t32]
    simp only[cond_true,cond_false,t32,false_and,if_false]
    by_cases t16:t%16=15
    ·rw[Zao t16,Zag (show l≠0 by omega)]
     simp only[cond_true,cond_false,Bool.not_true,t16,true_and,ne_eq,show¬l=0 by omega,not_false_eq_true,if_true]
    ·rw[Zag t16]
     simp only[cond_true,cond_false,Bool.not_false,t16,false_and,if_false]
  ·rw[Zam l0]
   have l0':l=0:=by omega
   subst l0'
   by_cases t32:t%32=0
   ·rw[Zao t32,Zag (show t%16≠15 by omega)]
    simp only[cond_true,cond_false,Bool.not_false,t32,true_and,show¬t%16=15 by omega,false_and,if_false,Int.lt_irrefl]
   ·rw[Zag t32]
    by_cases t16:t%16=15
    ·rw[Zao t16,Zao (show (0:Int)=0 from rfl)]
     simp only[cond_true,cond_false,Bool.not_true,t32,t16,true_and,ne_eq,not_true_eq_false,false_and,and_false,if_false]
    ·rw[Zag t16]
     simp only[cond_true,cond_false,Bool.not_false,t32,t16,false_and,if_false]
theorem Zg3 (a:ApuM) (h:ApuP a) (reg v:Int):r184 (a.t,(reg,(v,())))=some (((Zgs a reg v).t,()),()):=by
 unfold r184 m184 Zgs
 refine Zaa (by rw[ZeT a.t,Zdy.2 h]) ?_
 simp only[Bool.not_true,cond_false,Zaw,Option.bind_some,ApuM.t]
 rw[ZaJ (show 0≤v%256 by omega),ZaJ (show 0≤v%256 by omega)]
 by_cases c:reg=0
 ·rw[Zao c,if_pos c];rfl
 rw[Zag c,if_neg c,cond_false]
 by_cases c:reg=1
 ·rw[Zao c,if_pos c];rfl
 rw[Zag c,if_neg c,cond_false]
 by_cases c:reg=2
 ·rw[Zao c,if_pos c]
  cases a.irq<;>rfl
 rw[Zag c,if_neg c,cond_false]
 by_cases c:reg=3
 ·rw[Zao c,if_pos c];rfl
 rw[Zag c,if_neg c,cond_false]
theorem ZgF (a:ApuM) (h:ApuP a) (reg v:Int):r308 (a.t,(reg,(v,())))=some (((Zgs a reg v).t,()),()):=by
 unfold r308 m308 Zgs
 refine Zaa (by rw[ZeI a.t,Zdy.2 h]) ?_
 simp only[Bool.not_true,cond_false,ZaZ,Option.bind_some,ApuM.t]
 rw[ZaJ (show 0≤v%256 by omega),ZaJ (show 0≤v%256 by omega)]
 by_cases c:reg=0
 ·rw[Zao c,if_pos c];rfl
 rw[Zag c,if_neg c,cond_false]
 by_cases c:reg=1
 ·rw[Zao c,if_pos c];rfl
 rw[Zag c,if_neg c,cond_false]
 by_cases c:reg=2
 ·rw[Zao c,if_pos c]
  cases a.irq<;>rfl
 rw[Zag c,if_neg c,cond_false]
 by_cases c:reg=3
 ·rw[Zao c,if_pos c];rfl
 rw[Zag c,if_neg c,cond_false]
theorem ZhW (a:ApuM) (h:ApuP a) (reg:Int):r297 (a.t,(reg,()))=some (((ZgV a reg).t,(Zgm a reg,())),()):=by
 unfold r297 m297 ZgV Zgm
 refine Zaa (by rw[ZeT a.t,Zdy.2 h]) ?_
 have f1:=Zbb a.irq
 have f2:=Zbb (ltI 0 a.len)
 simp only[Bool.not_true,cond_false,ZiR,Option.bind_some,ApuM.t]
 rw[Zas (x:=128*Zcu a.irq) (by omega) (by omega),Zas (x:=128*Zcu a.irq+Zcu (ltI 0 a.len)) (by omega) (by omega)]
 by_cases c:reg=2
 ·rw[ZcN c,if_pos c,if_pos c];rfl
 ·rw[Zdg c,if_neg c,if_neg c];rfl
theorem ZhM (a:ApuM) (h:ApuP a) (reg:Int):r321 (a.t,(reg,()))=some (((ZgV a reg).t,(Zgm a reg,())),()):=by
 unfold r321 m321 ZgV Zgm
 have f1:=Zbb a.irq
 have f2:=Zbb (ltI 0 a.len)
 by_cases c:reg=2
 ·rw[ZcN c,if_pos c,if_pos c]
  refine Zaa (by rw[ZeI a.t,Zdy.2 h]) ?_
  simp only[Bool.not_true,cond_false,Zlp,Option.bind_some,ApuM.t]
  rw[Zas (x:=128*Zcu a.irq) (by omega) (by omega),Zas (x:=128*Zcu a.irq+Zcu (ltI 0 a.len)) (by omega) (by omega)]
 ·rw[Zdg c,if_neg c,if_neg c];rfl
theorem Zlh {n:Int} (h: ¬(0≤n∧n≤29)): ∀c:Int,0≤c→c≤29→eqI n c=false:=fun c h0 h1=>Zag (by omega)
theorem ZeJ {n:Int} (h: ¬(0≤n∧n≤29)):ZcV n=false:=decide_eq_false (by omega)
theorem ZjE {n:Int} (h: ¬(0≤n∧n≤29)):Znr n=false:=decide_eq_false (by omega)
theorem Zmc {n:Int} (h:ZcV n=false) (c:CpuM) (arg v:Int):ZdV c n arg v=c:=by
 have h: ¬(n=1∨n=2∨n=14∨n=4∨n=29∨n=5∨n=6∨n=7∨n=8∨n=9):=of_decide_eq_false h
 unfold ZdV
 rw[if_neg (by omega),if_neg (by omega),if_neg (by omega),if_neg (by omega),if_neg (by omega),if_neg (by omega),if_neg (by omega),if_neg (by omega),if_neg (by omega)]
theorem Zqp {n:Int} (h:Znr n=false) (c:CpuM):Zru c n=c:=by
 have h: ¬(n=10∨n=11∨n=12∨n=13∨n=25∨n=26∨n=27∨n=28):=of_decide_eq_false h
 unfold Zru
 rw[if_neg (by omega),if_neg (by omega),if_neg (by omega),if_neg (by omega),if_neg (by omega),if_neg (by omega),if_neg (by omega),if_neg (by omega)]
theorem Zvj (a b:Int):subS a b true=a%256-b%256:=by unfold subS Zcu;simp
theorem Zxe (c:CpuM) (b:Int):cpiT c b={c with z:=eqI (subS c.a b true%256%256) 0,n:=ltI 127 (subS c.a b true%256%256),c:=leI 0 (subS c.a b true)}:=by
 unfold cpiT
 rw[Zvj,Int.emod_emod]
 have:leI (b%256) (c.a%256)=leI 0 (c.a%256-b%256):=by
  by_cases h:b%256≤c.a%256
  ·rw[Zay h,Zay (by omega)]
  ·rw[ZiU h,ZiU (by omega)]
 rw[this]
theorem Zu3 (c:CpuM) (op arg v:Int):r325 (c.t,((op,(arg,())),(v,())))=some ((ZcV op,()),((ZdV c op arg v).t,())):=by
 by_cases h:0≤op∧op≤29
 ·unfold r325 m325
  rcases ZbW h with rfl|rfl|rfl|rfl|rfl|rfl|rfl|rfl|rfl|rfl|rfl|rfl|rfl|rfl|rfl|rfl|rfl|rfl|rfl|rfl|rfl|rfl|rfl|rfl|rfl|rfl|rfl|rfl|rfl|rfl<;>simp only[ZbN,Int.reduceEq,decide_true,decide_false,cond_true,cond_false]
  ·rfl
  ·exact Zaa (ZbC c arg) rfl
  ·exact Zaa (ZbC c v) rfl
  ·rfl
  ·exact Zaa (ZlB (c.a,(arg,(c.c,())))) (Zaa (ZbC c (addS c.a arg c.c%256)) rfl)
  ·exact Zaa (ZlJ (c.a,(arg,(c.c,())))) (Zaa (ZbC c (subS c.a arg c.c%256)) rfl)
  ·exact Zaa (ZbC c (bAnd .i64 c.a arg)) rfl
  ·exact Zaa (ZbC c (bOr .i64 c.a arg)) rfl
  ·exact Zaa (ZbC c (bXor .i64 c.a arg)) rfl
  ·rw[show ZdV c 9 arg v=cpiT c arg from rfl,Zxe]
   exact Zaa (ZlJ (c.a,(arg,(true,())))) (Zaa (ZgK (subS c.a arg true%256,())) rfl)
  ·rfl
  ·rfl
  ·rfl
  ·rfl
  ·exact Zaa (ZbC c v) rfl
  ·rfl
  ·rfl
  ·rfl
  ·rfl
  ·rfl
  ·rfl
  ·rfl
  ·rfl
  ·rfl
  ·rfl
  ·rfl
  ·rfl
  ·rfl
  ·rfl
  ·exact Zaa (ZlB (c.a,(v,(c.c,())))) (Zaa (ZbC c (addS c.a v c.c%256)) rfl)
 ·have e:=Zlh h
  unfold r325 m325
  rw[ZeJ h,Zmc (ZeJ h)]
  simp[e]
theorem Zx0 (c:CpuM) (op arg:Int) (hc:CpuP c):r326 (c.t,((op,(arg,())),()))=some ((Znr op,()),((Zru c op).t,())):=by
 have hx:=hc.x
 by_cases h:0≤op∧op≤29
 ·unfold r326 m326
  rcases ZbW h with rfl|rfl|rfl|rfl|rfl|rfl|rfl|rfl|rfl|rfl|rfl|rfl|rfl|rfl|rfl|rfl|rfl|rfl|rfl|rfl|rfl|rfl|rfl|rfl|rfl|rfl|rfl|rfl|rfl|rfl<;>simp only[ZbN,Int.reduceEq,decide_true,decide_false,cond_true,cond_false]
  ·rfl
  ·rfl
  ·rfl
  ·rfl
  ·rfl
  ·rfl
  ·rfl
  ·rfl
  ·rfl
  ·rfl
  ·exact Zaa (Zie c c.a) rfl
  ·exact Zaa (ZbC c c.x) rfl
  ·have e:wI (c.x+1)=c.x+1:=Zas (by omega) (by omega)
   have k:=Zie c (c.x+1)
   rw[←e]at k
   refine Zaa k ?_
   rw[e];rfl
  ·have e:wI (c.x-1)=c.x-1:=Zas (by omega) (by omega)
   have k:=Zie c (c.x-1)
   rw[←e]at k
   refine Zaa k ?_
   rw[e];rfl
  ·rfl
  ·rfl
  ·rfl
  ·rfl
  ·rfl
  ·rfl
  ·rfl
  ·rfl
  ·rfl
  ·rfl
  ·rfl
  ·rfl
  ·rfl
  ·rfl
  ·rfl
  ·rfl
 ·have e:=Zlh h
  unfold r326 m326
  rw[ZjE h,Zqp (ZjE h)]
  simp[e]
theorem ZtS (x:MemM) (c:CpuM) (h:RamP x) (hc:CpuP c):r360 (x.t,(c.t,()))=some ((),(x.t,((ZtQ x c).t,()))):=by
 unfold r360 m360
 exact Zaa (ZfQ x c h hc) (Zaa (ZfQ x (ZfC c) h (ZgT hc)) (Zaa (Zel (Ze8 x c,(Ze8 x (ZfC c),()))) rfl))
theorem ZpT (x:MemM) (c:CpuM) (h:RamP x) (hc:CpuP c):r317 (x.t,(c.t,()))=some ((),((Zil x c).t,((ZfZ c).t,()))):=by
 unfold r317 m317
 refine Zaa (ZfR x c (shr8 c.pc) h hc) (Zaa (ZfR (ZjP x c (shr8 c.pc)) (ZjO c) c.pc (Zik h _ _) (Zij hc)) rfl)
theorem Zxs (x:MemM) (c:CpuM) (op arg:Int) (h:RamP x) (hc:CpuP c):r327 (x.t,(c.t,((op,(arg,())),())))=some ((),((Zls x c op).t,((Zpk x c op arg).t,()))):=by
 unfold r327 m327
 refine Zaa (Zek (arg,())) ?_
 by_cases ho:0≤op∧op≤29
 ·rcases ZbW ho with rfl|rfl|rfl|rfl|rfl|rfl|rfl|rfl|rfl|rfl|rfl|rfl|rfl|rfl|rfl|rfl|rfl|rfl|rfl|rfl|rfl|rfl|rfl|rfl|rfl|rfl|rfl|rfl|rfl|rfl<;>simp only[ZbN,Int.reduceEq,decide_true,decide_false,cond_true,cond_false]
  ·rfl
  ·rfl
  ·rfl
  ·rfl
  ·rfl
  ·rfl
  ·rfl
  ·rfl
  ·rfl
  ·rfl
  ·rfl
  ·rfl
  ·rfl
  ·rfl
  ·rfl
  ·rfl
  ·obtain ⟨a,x',s,pc,z,n,cc,i⟩:=c
   cases z<;>rfl
  ·obtain ⟨a,x',s,pc,z,n,cc,i⟩:=c
   cases z<;>rfl
  ·obtain ⟨a,x',s,pc,z,n,cc,i⟩:=c
   cases cc<;>rfl
  ·rfl
  ·exact Zaa (ZpT x c h hc) rfl
  ·exact Zaa (ZtS x c h hc) rfl
  ·exact Zaa (ZfR x c c.a h hc) rfl
  ·exact Zaa (ZfQ x c h hc) (Zaa (ZbC (ZfC c) (Ze8 x c)) rfl)
  ·exact Zaa (ZfQ x c h hc) (Zaa (ZkA (ZfC c) (Ze8 x c)) (Zaa (ZtS x (wfT (ZfC c) (Ze8 x c)) h (Zx3 (ZgT hc))) rfl))
  ·rfl
  ·rfl
  ·rfl
  ·rfl
  ·rfl
 ·have e:=Zlh ho
  have e1:Zls x c op=x:=by
   unfold Zls
   rw[if_neg (by omega),if_neg (by omega)]
  have e2:Zpk x c op arg=c:=by
   unfold Zpk
   rw[if_neg (by omega),if_neg (by omega),if_neg (by omega),if_neg (by omega),if_neg (by omega),if_neg (by omega),if_neg (by omega),if_neg (by omega),if_neg (by omega)]
  rw[e1,e2]
  simp[e]
theorem ZwO {c:CpuM} (hc:CpuP c) (op:Int):wI (c.pc+ZbQ op)=c.pc+ZbQ op:=by
 have:=Zwf op
 have:=hc.pc
 exact Zas (by omega) (by omega)
theorem Zpl {op:Int} (h:(ZcV op||Znr op)=true) (x:MemM) (c:CpuM):Zls x c op=x:=by
 have h:(op=1∨op=2∨op=14∨op=4∨op=29∨op=5∨op=6∨op=7∨op=8∨op=9)∨(op=10∨op=11∨op=12∨op=13∨op=25∨op=26∨op=27∨op=28):=by
  rw[Bool.or_eq_true]at h
  exact h.imp of_decide_eq_true of_decide_eq_true
 unfold Zls
 rw[if_neg (by omega),if_neg (by omega)]
theorem Zjx (x:MemM) (c:CpuM) (op arg v:Int) (h:RamP x) (hc:CpuP c) (hv:0≤v∧v≤255):r265 (x.t,(c.t,((op,(arg,())),(v,()))))=some ((),((Zn8 x c op).t,((Zpf x c op arg v).t,()))):=by
 unfold r265 m265
 have hp:=Zjk (op:=op) hc
 have ev:v%256=v:=by omega
 have k1:r315 (wI (c.pc+ZbQ op),())=some (((c.pc+ZbQ op)%65536,()),()):=by
  rw[Zek (wI (c.pc+ZbQ op),()),ZwO hc]
 have k2:r316 (v,())=some ((v,()),()):=by
  rw[ZaZ (v,())]
  show some ((v%256,()),())=_
  rw[ev]
 refine Zaa (Zkd (op,())) (Zaa k1 (Zaa k2 (Zaa (Zu3 (ZbL c op) op arg v) ?_)))
 unfold Zn8 Zpf
 cases hr:ZcV op with
 |true=>
  rw[Zpl (by rw[hr];rfl)]
  rfl
 |false=>
  rw[Zmc hr]
  refine Zaa (Zx0 (ZbL c op) op arg hp) ?_
  cases ht:Znr op with
  |true=>
   rw[Zpl (by rw[ht,Bool.or_true])]
   rfl
  |false=>
   rw[Zqp ht]
   exact Zaa (Zxs x (ZbL c op) op arg h hp) rfl
def ZdS (op:Int):Bool:=decide (op=1∨op=2∨op=14∨op=4∨op=29∨op=5∨op=6∨op=7∨op=8∨op=9∨op=10∨op=11∨op=12∨op=13)
def aluT (c:CpuM) (op arg v:Int):CpuM:=if ZcV op then ZdV c op arg v else if ZdS op then Zru c op else c
theorem Zmh {c:CpuM} {u v:Int} (h:u%256=v%256):Zgu c u=Zgu c v:=by unfold Zgu;rw[h]
theorem ZrQ (c:CpuM) (v:Int):r345 (c.t,(v,()))=some (((addT c v).t,()),()):=by
 unfold r345 m345
 exact Zaa (Zri (c.a,(v,(c.c,())))) (Zaa (ZbP c (addS c.a v c.c%256)) rfl)
theorem Zxx (c:CpuM) (arg v:Int) (hc:CpuP c):r301 (c.t,(((6:Int),(arg,())),(v,())))=some (((aluT c 6 arg v).t,(ZdS 6,())),()):=by
 have hx:=hc.x
 unfold r301 m301
 dsimp only
 rw[Zag (show (6:Int)≠1 by decide),cond_false,Zag (show (6:Int)≠2 by decide),cond_false,Zag (show (6:Int)≠14 by decide),cond_false,Zag (show (6:Int)≠4 by decide),cond_false,Zag (show (6:Int)≠29 by decide),cond_false,Zag (show (6:Int)≠5 by decide),cond_false,Zao (show (6:Int)=6 from rfl),cond_true]
 rw[show aluT c 6 arg v=Zgu c (bAnd .i64 c.a arg) by simp[aluT,ZdV,ZcV],show ZdS 6=true from rfl,Zmh (ZtO c.a arg).symm]
 exact Zaa (Zaw (c.a,())) (Zaa (Zaw (arg,())) (Zaa (ZbP c (bAnd .i64 (c.a%256) (arg%256))) rfl))
theorem Zxy (c:CpuM) (arg v:Int) (hc:CpuP c):r301 (c.t,(((7:Int),(arg,())),(v,())))=some (((aluT c 7 arg v).t,(ZdS 7,())),()):=by
 have hx:=hc.x
 unfold r301 m301
 dsimp only
 rw[Zag (show (7:Int)≠1 by decide),cond_false,Zag (show (7:Int)≠2 by decide),cond_false,Zag (show (7:Int)≠14 by decide),cond_false,Zag (show (7:Int)≠4 by decide),cond_false,Zag (show (7:Int)≠29 by decide),cond_false,Zag (show (7:Int)≠5 by decide),cond_false,Zag (show (7:Int)≠6 by decide),cond_false,Zao (show (7:Int)=7 from rfl),cond_true]
 rw[show aluT c 7 arg v=Zgu c (bOr .i64 c.a arg) by simp[aluT,ZdV,ZcV],show ZdS 7=true from rfl,Zmh (ZvJ c.a arg).symm]
 exact Zaa (Zaw (c.a,())) (Zaa (Zaw (arg,())) (Zaa (ZbP c (bOr .i64 (c.a%256) (arg%256))) rfl))
theorem Zxz (c:CpuM) (arg v:Int) (hc:CpuP c):r301 (c.t,(((8:Int),(arg,())),(v,())))=some (((aluT c 8 arg v).t,(ZdS 8,())),()):=by
 have hx:=hc.x
 unfold r301 m301
 dsimp only
 rw[Zag (show (8:Int)≠1 by decide),cond_false,Zag (show (8:Int)≠2 by decide),cond_false,Zag (show (8:Int)≠14 by decide),cond_false,Zag (show (8:Int)≠4 by decide),cond_false,Zag (show (8:Int)≠29 by decide),cond_false,Zag (show (8:Int)≠5 by decide),cond_false,Zag (show (8:Int)≠6 by decide),cond_false,Zag (show (8:Int)≠7 by decide),cond_false,Zao (show (8:Int)=8 from rfl),cond_true]
 rw[show aluT c 8 arg v=Zgu c (bXor .i64 c.a arg) by simp[aluT,ZdV,ZcV],show ZdS 8=true from rfl,Zmh (ZtP c.a arg).symm]
 exact Zaa (Zaw (c.a,())) (Zaa (Zaw (arg,())) (Zaa (ZbP c (bXor .i64 (c.a%256) (arg%256))) rfl))
theorem ZxA (c:CpuM) (arg v:Int) (hc:CpuP c):r301 (c.t,(((9:Int),(arg,())),(v,())))=some (((aluT c 9 arg v).t,(ZdS 9,())),()):=by
 have hx:=hc.x
 unfold r301 m301
 dsimp only
 rw[Zag (show (9:Int)≠1 by decide),cond_false,Zag (show (9:Int)≠2 by decide),cond_false,Zag (show (9:Int)≠14 by decide),cond_false,Zag (show (9:Int)≠4 by decide),cond_false,Zag (show (9:Int)≠29 by decide),cond_false,Zag (show (9:Int)≠5 by decide),cond_false,Zag (show (9:Int)≠6 by decide),cond_false,Zag (show (9:Int)≠7 by decide),cond_false,Zag (show (9:Int)≠8 by decide),cond_false,Zao (show (9:Int)=9 from rfl),cond_true]
 have e:wI (c.a%256-arg%256)=c.a%256-arg%256:=Zas (by omega) (by omega)
 have k:r347 (wI (c.a%256-arg%256),())=some ((eqI ((c.a%256-arg%256)%256) 0,(ltI 127 ((c.a%256-arg%256)%256),())),()):=by rw[e];exact Zha (c.a%256-arg%256,())
 rw[show aluT c 9 arg v=cpiT c arg by simp[aluT,ZdV,ZcV],show ZdS 9=true from rfl]
 exact Zaa (Zaw (c.a,())) (Zaa (Zaw (arg,())) (Zaa k (Zaa (Zaw (c.a,())) (Zaa (Zaw (arg,())) rfl))))
theorem Zv4 (c:CpuM) (arg v:Int) (hc:CpuP c):r301 (c.t,(((12:Int),(arg,())),(v,())))=some (((aluT c 12 arg v).t,(ZdS 12,())),()):=by
 have hx:=hc.x
 unfold r301 m301
 simp only[ZbN,Int.reduceEq,decide_true,decide_false,cond_true,cond_false]
 have e:wI (c.x%256+1)=c.x+1:=by rw[Zas (by omega) (by omega)];omega
 have k:r348 (c.t,(wI (c.x%256+1),()))=some (((ZmX c (c.x+1)).t,()),()):=by rw[e];exact Zin c (c.x+1)
 rw[show aluT c 12 arg v=ZmX c (c.x+1)from rfl,show ZdS 12=true from rfl]
 exact Zaa (Zaw (c.x,())) (Zaa k rfl)
theorem Zv5 (c:CpuM) (arg v:Int) (hc:CpuP c):r301 (c.t,(((13:Int),(arg,())),(v,())))=some (((aluT c 13 arg v).t,(ZdS 13,())),()):=by
 have hx:=hc.x
 unfold r301 m301
 simp only[ZbN,Int.reduceEq,decide_true,decide_false,cond_true,cond_false]
 have e:wI (c.x%256-1)=c.x-1:=by rw[Zas (by omega) (by omega)];omega
 have k:r348 (c.t,(wI (c.x%256-1),()))=some (((ZmX c (c.x-1)).t,()),()):=by rw[e];exact Zin c (c.x-1)
 rw[show aluT c 13 arg v=ZmX c (c.x-1)from rfl,show ZdS 13=true from rfl]
 exact Zaa (Zaw (c.x,())) (Zaa k rfl)
theorem Zv6 (c:CpuM) (op arg v:Int) (hc:CpuP c):r301 (c.t,((op,(arg,())),(v,())))=some (((aluT c op arg v).t,(ZdS op,())),()):=by
 by_cases h:0≤op∧op≤29
 ·rcases ZbW h with rfl|rfl|rfl|rfl|rfl|rfl|rfl|rfl|rfl|rfl|rfl|rfl|rfl|rfl|rfl|rfl|rfl|rfl|rfl|rfl|rfl|rfl|rfl|rfl|rfl|rfl|rfl|rfl|rfl|rfl
  ·unfold r301 m301
   simp only[ZbN,Int.reduceEq,decide_true,decide_false,cond_true,cond_false]
   rfl
  ·unfold r301 m301
   simp only[ZbN,Int.reduceEq,decide_true,decide_false,cond_true,cond_false]
   exact Zaa (ZbP c arg) rfl
  ·unfold r301 m301
   simp only[ZbN,Int.reduceEq,decide_true,decide_false,cond_true,cond_false]
   exact Zaa (ZbP c v) rfl
  ·unfold r301 m301
   simp only[ZbN,Int.reduceEq,decide_true,decide_false,cond_true,cond_false]
   rfl
  ·unfold r301 m301
   simp only[ZbN,Int.reduceEq,decide_true,decide_false,cond_true,cond_false]
   exact Zaa (ZrQ c arg) rfl
  ·unfold r301 m301
   simp only[ZbN,Int.reduceEq,decide_true,decide_false,cond_true,cond_false]
   exact Zaa (Zrm (c.a,(arg,(c.c,())))) (Zaa (ZbP c (subS c.a arg c.c%256)) rfl)
  ·exact Zxx c arg v hc
  ·exact Zxy c arg v hc
  ·exact Zxz c arg v hc
  ·exact ZxA c arg v hc
  ·unfold r301 m301
   simp only[ZbN,Int.reduceEq,decide_true,decide_false,cond_true,cond_false]
   exact Zaa (Zin c c.a) rfl
  ·unfold r301 m301
   simp only[ZbN,Int.reduceEq,decide_true,decide_false,cond_true,cond_false]
   exact Zaa (ZbP c c.x) rfl
  ·exact Zv4 c arg v hc
  ·exact Zv5 c arg v hc
  ·unfold r301 m301
   simp only[ZbN,Int.reduceEq,decide_true,decide_false,cond_true,cond_false]
   exact Zaa (ZbP c v) rfl
  ·unfold r301 m301
   simp only[ZbN,Int.reduceEq,decide_true,decide_false,cond_true,cond_false]
   rfl
  ·unfold r301 m301
   simp only[ZbN,Int.reduceEq,decide_true,decide_false,cond_true,cond_false]
   rfl
  ·unfold r301 m301
   simp only[ZbN,Int.reduceEq,decide_true,decide_false,cond_true,cond_false]
   rfl
  ·unfold r301 m301
   simp only[ZbN,Int.reduceEq,decide_true,decide_false,cond_true,cond_false]
   rfl
  ·unfold r301 m301
   simp only[ZbN,Int.reduceEq,decide_true,decide_false,cond_true,cond_false]
   rfl
  ·unfold r301 m301
   simp only[ZbN,Int.reduceEq,decide_true,decide_false,cond_true,cond_false]
   rfl
  ·unfold r301 m301
   simp only[ZbN,Int.reduceEq,decide_true,decide_false,cond_true,cond_false]
   rfl
  ·unfold r301 m301
   simp only[ZbN,Int.reduceEq,decide_true,decide_false,cond_true,cond_false]
   rfl
  ·unfold r301 m301
   simp only[ZbN,Int.reduceEq,decide_true,decide_false,cond_true,cond_false]
   rfl
  ·unfold r301 m301
   simp only[ZbN,Int.reduceEq,decide_true,decide_false,cond_true,cond_false]
   rfl
  ·unfold r301 m301
   simp only[ZbN,Int.reduceEq,decide_true,decide_false,cond_true,cond_false]
   rfl
  ·unfold r301 m301
   simp only[ZbN,Int.reduceEq,decide_true,decide_false,cond_true,cond_false]
   rfl
  ·unfold r301 m301
   simp only[ZbN,Int.reduceEq,decide_true,decide_false,cond_true,cond_false]
   rfl
  ·unfold r301 m301
   simp only[ZbN,Int.reduceEq,decide_true,decide_false,cond_true,cond_false]
   rfl
  ·unfold r301 m301
   simp only[ZbN,Int.reduceEq,decide_true,decide_false,cond_true,cond_false]
   exact Zaa (ZrQ c v) rfl
 ·have e:=Zlh h
  have ea:ZdS op=false:=decide_eq_false (by omega)
  unfold r301 m301 aluT
  rw[ZeJ h,ea]
  simp[e]
theorem ZpA (x:MemM) (c:CpuM) (h:RamP x) (hc:CpuP c):r302 (x.t,(c.t,()))=some (((ZtQ x c).t,()),()):=by
 unfold r302 m302
 exact Zaa (Zga x c h hc) (Zaa (Zga x (ZfC c) h (ZgT hc)) (Zaa (Zf6 (Ze8 x c,(Ze8 x (ZfC c),()))) rfl))
theorem Zdm (x:MemM) (c:CpuM) (op arg v:Int) (h:RamP x) (hc:CpuP c):r244 (x.t,(c.t,((op,(arg,())),(v,()))))=some (((Zn8 x c op).t,((Zpf x c op arg v).t,())),()):=by
 unfold r244 m244
 have hp:=Zjk (op:=op) hc
 have k1:r229 (wI (c.pc+ZbQ op),())=some (((c.pc+ZbQ op)%65536,()),()):=by
  rw[ZbO (wI (c.pc+ZbQ op),()),ZwO hc]
 refine Zaa (ZiT x h.len) (Zaa (Zko (op,())) (Zaa k1 (Zaa (Zv6 (ZbL c op) op arg v hp) ?_)))
 unfold Zn8 Zpf
 have hz: ∀{a b:CpuM},a=b→a.z=b.z:=fun h=>by rw[h]
 by_cases ho:0≤op∧op≤29
 ·rcases ZbW ho with rfl|rfl|rfl|rfl|rfl|rfl|rfl|rfl|rfl|rfl|rfl|rfl|rfl|rfl|rfl|rfl|rfl|rfl|rfl|rfl|rfl|rfl|rfl|rfl|rfl|rfl|rfl|rfl|rfl|rfl<;>simp only[ZbN,Int.reduceEq,decide_true,decide_false,cond_true,cond_false]
  ·rfl
  ·rfl
  ·rfl
  ·rfl
  ·rfl
  ·rfl
  ·rfl
  ·rfl
  ·rfl
  ·rfl
  ·rfl
  ·rfl
  ·rfl
  ·rfl
  ·rfl
  ·rfl
  ·rw[show ZdS 16=false from rfl,cond_false]
   obtain ⟨a,x',s,pc,z,n,cc,i⟩:=c
   cases z<;>simp only[CpuM.t,Bool.not_false,Bool.not_true,cond_true,cond_false]
   ·exact Zaa (ZbO (arg,())) rfl
   ·rfl
  ·rw[show ZdS 17=false from rfl,cond_false]
   obtain ⟨a,x',s,pc,z,n,cc,i⟩:=c
   cases z<;>simp only[CpuM.t,Bool.not_false,Bool.not_true,cond_true,cond_false]
   ·rfl
   ·exact Zaa (ZbO (arg,())) rfl
  ·rw[show ZdS 18=false from rfl,cond_false]
   obtain ⟨a,x',s,pc,z,n,cc,i⟩:=c
   cases cc<;>simp only[CpuM.t,Bool.not_false,Bool.not_true,cond_true,cond_false]
   ·rfl
   ·exact Zaa (ZbO (arg,())) rfl
  ·rw[show ZdS 19=false from rfl,cond_false]
   exact Zaa (ZbO (arg,())) rfl
  ·rw[show ZdS 20=false from rfl,cond_false]
   exact Zaa (Zdo x (ZbL c 20) (shr8 (ZbL c 20).pc) h hp) (Zaa (Zdo (ZjP x (ZbL c 20) (shr8 (ZbL c 20).pc)) (ZjO (ZbL c 20)) (ZbL c 20).pc (Zik h _ _) (Zij hp)) (Zaa (ZbO (arg,())) rfl))
  ·rw[show ZdS 21=false from rfl,cond_false]
   exact Zaa (ZpA x (ZbL c 21) h hp) rfl
  ·rw[show ZdS 22=false from rfl,cond_false]
   exact Zaa (Zdo x (ZbL c 22) (ZbL c 22).a h hp) rfl
  ·rw[show ZdS 23=false from rfl,cond_false]
   exact Zaa (Zga x (ZbL c 23) h hp) (Zaa (ZbP (ZfC (ZbL c 23)) (Ze8 x (ZbL c 23))) rfl)
  ·rw[show ZdS 24=false from rfl,cond_false]
   exact Zaa (Zga x (ZbL c 24) h hp) (Zaa (ZkI (ZfC (ZbL c 24)) (Ze8 x (ZbL c 24))) (Zaa (ZpA x (wfT (ZfC (ZbL c 24)) (Ze8 x (ZbL c 24))) h (Zx3 (ZgT hp))) rfl))
  ·rfl
  ·rfl
  ·rfl
  ·rfl
  ·rfl
 ·have e:=Zlh ho
  have ea:ZdS op=false:=decide_eq_false (by omega)
  have e1:Zls x (ZbL c op) op=x:=by
   unfold Zls
   rw[if_neg (by omega),if_neg (by omega)]
  have e2:Zpk x (ZbL c op) op arg=ZbL c op:=by
   unfold Zpk
   rw[if_neg (by omega),if_neg (by omega),if_neg (by omega),if_neg (by omega),if_neg (by omega),if_neg (by omega),if_neg (by omega),if_neg (by omega),if_neg (by omega)]
  rw[e1,e2,ZeJ ho,ZjE ho,ea]
  simp[e]
  rfl
theorem ZrD (x:MemM) (c:CpuM) (to:Int) (h:RamP x) (hc:CpuP c):r260 (x.t,(c.t,(to,())))=some ((),((Zfo x c).t,((Zpa c to).t,()))):=by
 unfold r260 m260
 exact Zaa (ZpT x c h hc) (Zaa (Zpq (ZfZ c)) (Zaa (ZfR (Zil x c) (ZfZ c) (Zlq (ZfZ c)) (Zi6 h) (Zi5 hc)) rfl))
theorem Zsl {f:List (List Int)} {x y:MemM} {v:Int} (hv:65530≤v∧v≤65535):Zba f x v=Zba f y v:=by
 have e:(rgT v).1=6:=by
  unfold rgT
  simp only
  rw[show v%65536=v by omega,if_neg (by omega),if_neg (by omega),if_neg (by omega),if_neg (by omega),if_neg (by omega),if_neg (by omega)]
 unfold Zba
 rw[e,if_neg (by decide),if_neg (by decide),if_pos rfl,if_neg (by decide),if_neg (by decide)]
theorem ZwC {f:List (List Int)} {x y:MemM} {v:Int} (hv:65530≤v∧v≤65534):vecN f x v=vecN f y v:=by
 unfold vecN
 rw[Zsl (x:=x) (y:=y) (v:=v) (by omega),Zsl (x:=x) (y:=y) (v:=v+1) (by omega)]
theorem ZdH (f:List (List Int)) (x:MemM) (c:CpuM) (v:Int) (h:MemP f x) (hc:CpuP c) (hv:65530≤v∧v≤65534):
  r240 ((f,()),(x.t,(c.t,(v,()))))=some (((Zfo x c).t,((Zpa c (vecN f x v)).t,())),()):=by
 have hm:MemP f (Zfo x c):=h.of_ram (Zn6 h.ram) rfl
 have e:wI (v+1)=v+1:=Zas (by omega) (by omega)
 have k:=Zdn f (Zfo x c) (v+1) hm
 rw[←e]at k
 unfold r240 m240
 refine Zaa (ZiT x h.ram.len) (Zaa (Zp4 c) (Zaa (Zdo x c (shr8 c.pc) h.ram hc) (Zaa (Zdo (ZjP x c (shr8 c.pc)) (ZjO c) c.pc (Zik h.ram _ _) (Zij hc))
  (Zaa (Zdo (Zil x c) (ZfZ c) (Zlq c) (Zi6 h.ram) (Zi5 hc)) (Zaa (Zdn f (Zfo x c) v hm) (Zaa k (Zaa (Zf6 (Zba f (Zfo x c) v,(Zba f (Zfo x c) (wI (v+1)),()))) ?_)))))))
 rw[ZwC (x:=x) (y:=Zfo x c) hv]
 unfold vecN
 rw[e]
 rfl
theorem ZuN {f:List (List Int)} {x:MemM} {pc:Int} (h:MemP f x) (hp:0≤pc∧pc≤65535) (k:Int) (hk:k=1∨k=2):r262 ((f,()),(x.t,(wI (pc+k),())))=some ((Zba f x (pc+k),()),()):=by
 rw[Zas (by omega) (by omega)]
 exact ZbJ f x (pc+k) h
theorem ZuO {f:List (List Int)} {x:MemM} {pc:Int} (h:MemP f x) (hp:0≤pc∧pc≤65535) (k:Int) (hk:k=1∨k=2):r225 ((f,()),(x.t,(wI (pc+k),())))=some ((Zba f x (pc+k),()),()):=by
 rw[Zas (by omega) (by omega)]
 exact Zdn f x (pc+k) h
theorem Zhk (f:List (List Int)) (x:MemM) (pc:Int) (h:MemP f x) (hp:0≤pc∧pc≤65535):r255 ((f,()),(x.t,(pc,())))=some (((opT f x pc,(argT f x pc,())),()),()):=by
 unfold r255 m255
 refine Zaa (ZbJ f x pc h) (Zaa (Zkd (Zba f x pc,())) ?_)
 show (bif eqI (ZbQ (Zba f x pc)) 2 then _ else bif eqI (ZbQ (Zba f x pc)) 3 then _ else _)=_
 unfold argT opT
 by_cases c2:ZbQ (Zba f x pc)=2
 ·rw[Zao c2,if_pos c2]
  exact Zaa (ZuN h hp 1 (.inl rfl)) rfl
 rw[Zag c2,if_neg c2,cond_false]
 by_cases c3:ZbQ (Zba f x pc)=3
 ·rw[Zao c3,if_pos c3]
  exact Zaa (ZuN h hp 1 (.inl rfl)) (Zaa (ZuN h hp 2 (.inr rfl)) (Zaa (Zel (Zba f x (pc+1),(Zba f x (pc+2),()))) rfl))
 ·rw[Zag c3,if_neg c3];rfl
theorem ZdI (f:List (List Int)) (x:MemM) (pc:Int) (h:MemP f x) (hp:0≤pc∧pc≤65535):r171 ((f,()),(x.t,(pc,())))=some (((opT f x pc,(argT f x pc,())),()),()):=by
 unfold r171 m171
 refine Zaa (Zdn f x pc h) (Zaa (Zko (Zba f x pc,())) ?_)
 show (bif eqI (ZbQ (Zba f x pc)) 2 then _ else bif eqI (ZbQ (Zba f x pc)) 3 then _ else _)=_
 unfold argT opT
 by_cases c2:ZbQ (Zba f x pc)=2
 ·rw[Zao c2,if_pos c2]
  exact Zaa (ZuO h hp 1 (.inl rfl)) rfl
 rw[Zag c2,if_neg c2,cond_false]
 by_cases c3:ZbQ (Zba f x pc)=3
 ·rw[Zao c3,if_pos c3]
  exact Zaa (ZuO h hp 1 (.inl rfl)) (Zaa (ZuO h hp 2 (.inr rfl)) (Zaa (Zf6 (Zba f x (pc+1),(Zba f x (pc+2),()))) rfl))
 ·rw[Zag c3,if_neg c3];rfl
theorem ZfW (op:Int):ZaG op=0∨ZaG op=1∨ZaG op=2:=by
 unfold ZaG
 split
 ·exact .inr (.inl rfl)
 split
 ·exact .inr (.inr rfl)
 ·exact .inl rfl
theorem ZdZ (op arg:Int) (c:CpuM) (hc:CpuP c) (ha:0≤arg∧arg≤65535):r256 ((op,(arg,())),(c.t,()))=some ((ZaG op,(accA op arg c.x,(accV op c.a,()))),()):=by
 have hx:=hc.x
 have e:wI (arg+c.x)=arg+c.x:=Zas (by omega) (by omega)
 have k:r315 (wI (arg+c.x),())=some (((arg+c.x)%65536,()),()):=by rw[Zek (wI (arg+c.x),()),e]
 unfold r256 m256
 refine Zaa (ZlF (op,())) (Zaa (Zek (arg,())) ?_)
 show (bif eqI op 14 then _ else bif eqI op 15 then _ else bif eqI (ZaG op) 1 then _ else bif eqI (ZaG op) 2 then _ else _)=_
 unfold accA accV
 by_cases c1:op=14
 ·subst c1
  rw[Zao rfl,cond_true]
  exact Zaa k rfl
 by_cases c2:op=15
 ·subst c2
  rw[Zag (show (15:Int)≠14 by decide),Zao rfl,cond_true,cond_false]
  refine Zaa k ?_
  simp only[show ZaG 15=2 from rfl,ZbN,Int.reduceEq,decide_true,decide_false,cond_true,cond_false]
  exact Zaa (ZaZ (c.a,())) rfl
 rw[Zag c1,Zag c2,cond_false,cond_false,if_neg (c:=op=14∨op=15) (by omega)]
 rcases ZfW op with o|o|o<;>rw[o]<;>simp only[ZbN,Int.reduceEq,decide_true,decide_false,cond_true,cond_false]
 ·rfl
 ·rfl
 ·exact Zaa (ZaZ (c.a,())) rfl
theorem Zc5 (op arg:Int) (c:CpuM) (hc:CpuP c) (ha:0≤arg∧arg≤65535):r172 ((op,(arg,())),(c.t,()))=some ((ZaG op,(accA op arg c.x,(accV op c.a,()))),()):=by
 have hx:=hc.x
 have e:wI (arg+c.x)=arg+c.x:=Zas (by omega) (by omega)
 have k:r229 (wI (arg+c.x),())=some (((arg+c.x)%65536,()),()):=by rw[ZbO (wI (arg+c.x),()),e]
 unfold r172 m172
 refine Zaa (Zmr (op,())) ?_
 show (bif eqI (ZaG op) 0 then _ else bif eqI op 14 then _ else bif eqI op 15 then _ else bif eqI (ZaG op) 1 then _ else _)=_
 unfold accA accV
 by_cases c1:op=14
 ·subst c1
  rw[show ZaG 14=1 from rfl,Zag (show (1:Int)≠0 by decide),Zao (show (14:Int)=14 from rfl),cond_true,cond_false,Zao (show (1:Int)=1 from rfl),cond_true]
  exact Zaa k rfl
 by_cases c2:op=15
 ·subst c2
  rw[show ZaG 15=2 from rfl,Zag (show (2:Int)≠0 by decide),Zag (show (15:Int)≠14 by decide),Zao (show (15:Int)=15 from rfl),cond_true,cond_false,cond_false,Zag (show (2:Int)≠1 by decide),cond_false]
  exact Zaa k (Zaa (Zaw (c.a,())) rfl)
 rw[Zag c1,Zag c2,cond_false,cond_false,if_neg (c:=op=14∨op=15) (by omega)]
 rcases ZfW op with o|o|o<;>rw[o]<;>simp only[ZbN,Int.reduceEq,decide_true,decide_false,cond_true,cond_false]
 ·rfl
 ·exact Zaa (ZbO (arg,())) rfl
 ·exact Zaa (ZbO (arg,())) (Zaa (Zaw (c.a,())) rfl)
theorem Zys {t:Int} (h:0≤t):mxI t 0=t:=by unfold mxI;rw[if_neg (by omega)]
theorem ZmO (t:Int) (ht:0≤t∧t≤20000):r377 (t,())=some ((t/64,()),()):=by
 unfold r377 m377
 show some ((wI (Int.tdiv (mxI t 0) 64),()),())=_
 rw[Zys ht.1,Zir ht.1,Zas (by omega) (by omega)]
theorem ZrO (a b:Int):r106 (a,(b,()))=some ((if b<a then a else b,()),()):=by
 unfold r106 m106
 show (bif ltI b a then _ else _)=_
 by_cases h:b<a
 ·rw[Zaj h,if_pos h];rfl
 ·rw[Zam h,if_neg h];rfl
theorem ZrP (a b:Int):r105 (a,(b,()))=some ((if a<b then a else b,()),()):=by
 unfold r105 m105
 show (bif ltI a b then _ else _)=_
 by_cases h:a<b
 ·rw[Zaj h,if_pos h];rfl
 ·rw[Zam h,if_neg h];rfl
theorem Zus {t:Int} (h:0≤t):r106 (t,((0:Int),()))=some ((t,()),()):=by
 rw[ZrO]
 by_cases h0:0<t
 ·rw[if_pos h0]
 ·rw[if_neg h0,show t=0 by omega]
theorem Zm1 (t:Int) (ht:0≤t∧t≤20000):r375 (t,())=some ((t/64,()),()):=by
 unfold r375 m375
 refine Zaa (Zus ht.1) ?_
 show some ((wI (Int.tdiv t 64),()),())=_
 rw[Zir ht.1,Zas (by omega) (by omega)]
theorem Zke (l:List Int) (t:Int) (h:Zh2 l) (ht:0≤t∧t≤20000):r354 (l,(t,()))=some ((Zi3 l t,()),()):=by
 have hl:=h.len
 unfold r354 m354 Zi3
 refine Zaa (by rw[ZfP l (by omega),Zec.2 h]) ?_
 show (bif eqI (l.length:Int) 0 then _ else _)=_
 by_cases h0:l.length=0
 ·rw[Zao (by omega),if_pos h0];rfl
 rw[Zag (by omega),if_neg h0,cond_false]
 refine Zaa (ZmO t ht) ?_
 have hm:Int.tmod (t/64) (l.length:Int)=(t/64)% (l.length:Int):=ZaJ (by omega)
 have b0:=Int.emod_nonneg (t/64) (show (l.length:Int)≠0 by omega)
 have b1:=Int.emod_lt_of_pos (t/64) (show 0< (l.length:Int) by omega)
 show (bif neI (l.length:Int) 0 then (bif leI 0 (Int.tmod (t/64) (l.length:Int))then (bif ltI (Int.tmod (t/64) (l.length:Int)) (l.length:Int)then some ((rdE .i l (Int.tmod (t/64) (l.length:Int)),()),())else none)else none)else none)=_
 rw[Zdg (by omega),hm,Zay b0,Zaj b1]
 rfl
theorem Zkp (l:List Int) (t:Int) (h:Zh2 l) (ht:0≤t∧t≤20000):r344 (l,(t,()))=some ((Zi3 l t,()),()):=by
 have hl:=h.len
 unfold r344 m344 Zi3
 refine Zaa (by rw[Zf9 l (by omega),Zec.2 h]) ?_
 show (bif eqI (l.length:Int) 0 then _ else _)=_
 by_cases h0:l.length=0
 ·rw[Zao (by omega),if_pos h0];rfl
 rw[Zag (by omega),if_neg h0,cond_false]
 refine Zaa (Zm1 t ht) ?_
 have hm:Int.tmod (t/64) (l.length:Int)=(t/64)% (l.length:Int):=ZaJ (by omega)
 have b0:=Int.emod_nonneg (t/64) (show (l.length:Int)≠0 by omega)
 have b1:=Int.emod_lt_of_pos (t/64) (show 0< (l.length:Int) by omega)
 show (bif neI (l.length:Int) 0 then (bif leI 0 (Int.tmod (t/64) (l.length:Int))then (bif ltI (Int.tmod (t/64) (l.length:Int)) (l.length:Int)then some ((rdE .i l (Int.tmod (t/64) (l.length:Int)),()),())else none)else none)else none)=_
 rw[Zdg (by omega),hm,Zay b0,Zaj b1]
 rfl
theorem ZgJ (x:PadM) (l:List Int) (t v:Int) (h:Zh2 l) (ht:0≤t∧t≤20000):r323 (x.t,(l,(t,(v,()))))=some (((Zkt x l t v).t,()),()):=by
 unfold r323 m323 Zkt
 show (bif eqI (bAnd .i64 v 1) 1 then (r354 (l,(t,()))).bind (fun r0=>some (((eqI (bAnd .i64 v 1) 1,r0.1),()),()))else bif x.held then (r354 (l,(t,()))).bind (fun r0=>some (((eqI (bAnd .i64 v 1) 1,r0.1),()),()))else some (((eqI (bAnd .i64 v 1) 1,(x.shift,())),()),()))=_
 rw[Zm8,Zke l t h ht]
 cases eqI (v%2) 1<;>cases x.held<;>rfl
theorem Zg7 (x:PadM) (l:List Int) (t v:Int) (h:Zh2 l) (ht:0≤t∧t≤20000):r299 (x.t,(l,(t,(v,()))))=some (((Zkt x l t v).t,()),()):=by
 unfold r299 m299 Zkt
 show (bif x.held then (r344 (l,(t,()))).bind (fun r0=>some (((eqI (bAnd .i64 v 1) 1,r0.1),()),()))else bif eqI (bAnd .i64 v 1) 1 then (r344 (l,(t,()))).bind (fun r0=>some (((eqI (bAnd .i64 v 1) 1,r0.1),()),()))else some (((eqI (bAnd .i64 v 1) 1,(x.shift,())),()),()))=_
 rw[Zm8,Zkp l t h ht]
 cases eqI (v%2) 1<;>cases x.held<;>rfl
theorem ZwN (x:Int):Int.fdiv x ((2:Int)^(Min.min (Int.toNat (1:Int)) (64:Nat)))=x/2:=Int.fdiv_eq_ediv_of_nonneg x (by decide)
theorem ZhN (x:PadM) (l:List Int) (t:Int) (h:Zh2 l) (ht:0≤t∧t≤20000):r322 (x.t,(l,(t,())))=some (((ZpY x l t).t,(ZgW x l t,())),()):=by
 unfold r322 m322 ZpY ZgW
 show (bif x.held then (r354 (l,(t,()))).bind (fun r0=>some (((true,r0.1),(bAnd .i64 r0.1.1 1,())),()))else some (((false,(Int.fdiv x.shift ((2:Int)^(Min.min (Int.toNat (1:Int)) (64:Nat))),())),(bAnd .i64 x.shift 1,())),()))=_
 rw[Zke l t h ht,ZwN,Zm8]
 cases x.held
 ·rfl
 ·show some (((true,(Zi3 l t,())),(bAnd .i64 (Zi3 l t) 1,())),())=_
  rw[Zm8];rfl
theorem ZhY (x:PadM) (l:List Int) (t:Int) (h:Zh2 l) (ht:0≤t∧t≤20000):r298 (x.t,(l,(t,())))=some (((ZpY x l t).t,(ZgW x l t,())),()):=by
 unfold r298 m298 ZpY ZgW
 show (bif x.held then (r344 (l,(t,()))).bind (fun r0=>some (((x.held,r0.1),(bAnd .i64 r0.1.1 1,())),()))else some (((x.held,(Int.fdiv x.shift ((2:Int)^(Min.min (Int.toNat (1:Int)) (64:Nat))),())),(bAnd .i64 x.shift 1,())),()))=_
 rw[Zkp l t h ht,ZwN,Zm8]
 cases x.held
 ·rfl
 ·show some (((true,(Zi3 l t,())),(bAnd .i64 (Zi3 l t) 1,())),())=_
  rw[Zm8];rfl
theorem Zjn (t:Int) (ht:0≤t∧t≤20000):r328 (t,())=some ((t,()),()):=by
 unfold r328 m328
 show some ((mnI (mxI t 0) 20000,()),())=_
 rw[Zys ht.1]
 unfold mnI
 rw[if_neg (by omega)]
theorem Zdu (t rest by':Int) (ht:0≤t∧t≤20000) (hr:0≤rest∧rest<by') (hb:by'=32∨by'=64):r223 (t,(rest,(by',())))=some (((t+(by'-1-rest))/by',()),()):=by
 unfold r223 m223
 show (bif neI by' 0 then some ((wI (Int.tdiv (wI (wI (wI (t+by')-1)-rest)) by'),()),())else none)=_
 rw[Zdg (by omega),Zas (x:=t+by') (by omega) (by omega),Zas (x:=t+by'-1) (by omega) (by omega),Zas (x:=t+by'-1-rest) (by omega) (by omega),Zir (by omega),show t+by'-1-rest=t+(by'-1-rest) by omega]
 rcases hb with rfl|rfl
 ·rw[Zas (by omega) (by omega)];rfl
 ·rw[Zas (by omega) (by omega)];rfl
theorem ZiL (a b:Int) (ha:0≤a∧a≤20000) (hb:0≤b∧b≤20000):r259 (a,(b,()))=some ((Zex a b,()),()):=by
 unfold r259 m259 r266 m266
 exact Zaa (Zaa (Zjn a ha) (Zaa (Zdu a 0 32 ha (by decide) (.inl rfl)) (Zaa (Zjn b hb) (Zaa (Zdu b 0 32 hb (by decide) (.inl rfl)) rfl)))) rfl
theorem ZmM (a b:Int) (ha:0≤a∧a≤20000) (hb:0≤b∧b≤20000):r202 (a,(b,()))=some ((Zo1 a b,()),()):=by
 unfold r202 m202 r266 m266
 exact Zaa (Zaa (Zjn a ha) (Zaa (Zdu a 48 64 ha (by decide) (.inr rfl)) (Zaa (Zjn b hb) (Zaa (Zdu b 48 64 hb (by decide) (.inr rfl)) rfl)))) rfl
theorem Zuu (a b rest by':Int) (ha:0≤a∧a≤20000) (hb:0≤b∧b≤20000) (hr:0≤rest∧rest<by') (hy:by'=32∨by'=64):
  r224 (a,(b,(rest,(by',()))))=some ((if b≤a then false else decide (a+(rest-a%by'+by')%by'<b),()),()):=by
 unfold r224 m224
 refine Zaa (Zus ha.1) (Zaa (y:=((b,()),())) ?_ ?_)
 ·show r105 (b,((20000:Int),()))=_
  rw[ZrP]
  by_cases h:b<20000
  ·rw[if_pos h]
  ·rw[if_neg h,show b=20000 by omega]
 show (bif leI b a then _ else bif neI by' 0 then (bif neI by' 0 then some ((ltI (wI (a+Int.tmod (wI (wI (rest-Int.tmod a by')+by')) by')) b,()),())else none)else none)=_
 by_cases h:b≤a
 ·rw[Zay h,if_pos h];rfl
 have hm:=Int.emod_nonneg a (show by'≠0 by omega)
 have hm2:=Int.emod_lt_of_pos a (show 0<by' by omega)
 have hm3:=Int.emod_lt_of_pos (rest-a%by'+by') (show 0<by' by omega)
 have hm4:=Int.emod_nonneg (rest-a%by'+by') (show by'≠0 by omega)
 rw[ZiU h,if_neg h,Zdg (by omega),ZaJ ha.1,Zas (x:=rest-a%by') (by omega) (by omega),Zas (x:=rest-a%by'+by') (by omega) (by omega),ZaJ (by omega),Zas (by omega) (by omega)]
 rfl
theorem Zf4 (a b:Int) (ha:0≤a∧a≤20000) (hb:0≤b∧b≤20000):r168 (a,(b,()))=some ((Zex a b,()),()):=by
 unfold r168 m168
 refine Zaa (Zuu a b 0 32 ha hb (by decide) (.inl rfl)) ?_
 have:(if b≤a then false else decide (a+(0-a%32+32)%32<b))=Zex a b:=by
  unfold Zex
  split
  ·exact (decide_eq_false (by omega)).symm
  ·by_cases h:a+(0-a%32+32)%32<b
   ·rw[decide_eq_true h];exact (decide_eq_true (by omega)).symm
   ·rw[decide_eq_false h];exact (decide_eq_false (by omega)).symm
 rw[this]
theorem ZmZ (a b:Int) (ha:0≤a∧a≤20000) (hb:0≤b∧b≤20000):r181 (a,(b,()))=some ((Zo1 a b,()),()):=by
 unfold r181 m181
 refine Zaa (Zuu a b 48 64 ha hb (by decide) (.inr rfl)) ?_
 have:(if b≤a then false else decide (a+(48-a%64+64)%64<b))=Zo1 a b:=by
  unfold Zo1
  split
  ·exact (decide_eq_false (by omega)).symm
  ·by_cases h:a+(48-a%64+64)%64<b
   ·rw[decide_eq_true h];exact (decide_eq_true (by omega)).symm
   ·rw[decide_eq_false h];exact (decide_eq_false (by omega)).symm
 rw[this]
theorem Zxj {l:List Rc} {t:Int} (h:due l t=true):0<l.length:=by
 obtain ⟨e,_⟩:=Zhi h
 rw[e];simp
theorem Zr1 (cap t:Int) (l:List Rc) (h:due l t=true):r305 ((cap,(l,())),(t,()))=some ((((ZdR l).1,((ZdR l).2.1,((ZdR l).2.2,()))),(true,())),((cap,(l.tail,())),())):=by
 obtain ⟨e,e1⟩:=Zhi h
 have hl:=Zxj h
 unfold r305 m305
 have hd:rdE .t l (0:Int)=ZdR l:=by rw[e];rfl
 have ht:List.drop (Int.toNat (1:Int)) l=l.tail:=by rw[e];rfl
 show (bif eqI (l.length:Int) 0 then _ else bif ltI 0 (l.length:Int)then (bif neI (rdE .t l (0:Int)).1 t then _ else bif ltI 0 (l.length:Int)then (bif leI 1 (l.length:Int)then some ((((rdE .t l (0:Int)).1,((rdE .t l (0:Int)).2.1,((rdE .t l (0:Int)).2.2,()))),(true,())),((cap,(List.drop (Int.toNat (1:Int)) l,())),()))else none)else none)else none)=_
 rw[Zag (by omega),Zaj (by omega),Zay (by omega),hd,ht,ZcN e1]
 rfl
theorem Zr2 (cap t:Int) (l:List Rc) (h:due l t=false):r305 ((cap,(l,())),(t,()))=some ((((0:Int),((0:Int),((0:Int),()))),(false,())),((cap,(l,())),())):=by
 unfold r305 m305
 cases l with
 |nil=>rfl
 |cons x l=>
  have h:x.1≠t:=by simpa [due] using h
  show (bif eqI ((x::l).length:Int) 0 then _ else bif ltI 0 ((x::l).length:Int)then (bif neI x.1 t then _ else _)else none)=_
  rw[Zag (by simp only[List.length_cons];omega),Zaj (by simp only[List.length_cons];omega),Zdg h]
  rfl
theorem Zsi {t mark:Int}:leI (mnI mark 20000) t= !decide (t<mark∧t<20000):=by
 unfold mnI
 split
 ·by_cases h:t<mark∧t<20000
  ·rw[ZiU (by omega),decide_eq_true h];rfl
  ·rw[Zay (by omega),decide_eq_false h];rfl
 ·by_cases h:t<mark∧t<20000
  ·rw[ZiU (by omega),decide_eq_true h];rfl
  ·rw[Zay (by omega),decide_eq_false h];rfl
theorem Zj9 {w:PicM} (h:PicP w):w.frames.length≤1000:=by
 have h1:=h.ppu.t
 have h2:=h.frn
 unfold Zce at h2
 omega
theorem Zjb {w:SndM} (h:SndP w):w.samples.length≤2000:=by
 have h1:=h.apu.t
 have h2:=h.sam
 omega
theorem Zit (p:PpuM) (reg v:Int):(ZcA p reg v).dots=p.dots:=by
 unfold ZcA
 repeat' split
 all_goals rfl
theorem Zgg (p:PpuM):(ZdJ p).table=p.table:=by
 unfold ZdJ
 repeat' split
 all_goals rfl
theorem Zhw (p:PpuM) (reg:Int):(Ze9 p reg).table=p.table∧(Ze9 p reg).dots=p.dots:=by
 unfold Ze9
 repeat' split
 all_goals exact ⟨rfl,rfl⟩
theorem ZnC (w:PicM) (mark:Int) (h:PicP w):r247 (w.t,(mark,()))=some (((Za8 w mark).isSome,()),(((Za8 w mark).getD w).t,())):=by
 have hf:=Zj9 h
 unfold r247 m247 Za8
 cases hd:due w.list w.ppu.T with
 |true=>
  rw[if_pos rfl]
  refine Zaa (Zr1 w.cap w.ppu.T w.list hd) (Zaa (Zsr w.ppu h.ppu (ZdR w.list).2.1 (ZdR w.list).2.2) ?_)
  have e:=Zit w.ppu (ZdR w.list).2.1 (ZdR w.list).2.2
  generalize ZcA w.ppu (ZdR w.list).2.1 (ZdR w.list).2.2=q at e⊢
  obtain ⟨T,c,s,ad,pal,bl,tb,ds⟩:=q
  have e:ds=w.ppu.dots:=e
  subst e
  rfl
 |false=>
  rw[if_neg (by simp)]
  refine Zaa (Zr2 w.cap w.ppu.T w.list hd) ?_
  show (bif leI (mnI mark 20000) w.ppu.T then _ else _)=_
  rw[Zsi]
  by_cases hm:w.ppu.T<mark∧w.ppu.T<20000
  ·rw[decide_eq_true hm,if_pos hm]
   refine Zaa (Zvt w.ppu h.ppu hm.2) ?_
   have e:=Zgg w.ppu
   generalize ZdJ w.ppu=q at e⊢
   obtain ⟨T,c,s,ad,pal,bl,tb,ds⟩:=q
   have e:tb=w.ppu.table:=e
   subst e
   cases ht:Zd6 w.ppu with
   |true=>
    show (bif leN (w.frames.length+1) (E.most .n)then _ else none)=_
    rw[Zbn (by simp only[E.most];omega)]
    rfl
   |false=>rfl
  ·rw[decide_eq_false hm,if_neg hm]
   rfl
theorem ZnI (w:SndM) (mark:Int) (h:SndP w):r248 (w.t,(mark,()))=some (((Za9 w mark).isSome,()),(((Za9 w mark).getD w).t,())):=by
 have hf:=Zjb h
 unfold r248 m248 Za9
 cases hd:due w.list w.apu.T with
 |true=>
  rw[if_pos rfl]
  exact Zaa (Zr1 w.cap w.apu.T w.list hd) (Zaa (ZgF w.apu h.apu (ZdR w.list).2.1 (ZdR w.list).2.2) rfl)
 |false=>
  rw[if_neg (by simp)]
  refine Zaa (Zr2 w.cap w.apu.T w.list hd) ?_
  show (bif leI (mnI mark 20000) w.apu.T then _ else _)=_
  rw[Zsi]
  by_cases hm:w.apu.T<mark∧w.apu.T<20000
  ·rw[decide_eq_true hm,if_pos hm]
   refine Zaa (Zm7 w.apu h.apu hm.2) ?_
   cases ht:Zgv w.apu with
   |true=>
    show (bif leN (w.samples.length+1) (E.most .i)then _ else none)=_
    rw[Zbn (by simp only[E.most];omega)]
    rfl
   |false=>rfl
  ·rw[decide_eq_false hm,if_neg hm]
   rfl
theorem Zvv {t:Int} (h:0≤t):eqI (Int.tmod t 64) 48=decide (t%64=48):=by rw[ZaJ h,ZbN]
theorem ZlO (w:PicM) (mark:Int) (h:PicP w) (hd:due w.list w.ppu.T=false):(bif leI mark w.ppu.T then some ((w.t,(false,())),())else bif eqI w.ppu.T 20000 then some ((w.t,(false,())),())else (r183 (w.ppu.t,())).bind fun r0=>
  bif (eqI (Int.tmod w.ppu.T (64:Int)) (48:Int))then (bif (leN (w.frames.length+1) (E.most .n))then (some (((r0.1.1.1,(r0.1.1.2.1,(r0.1.1.2.2.1,(r0.1.1.2.2.2.1,(r0.1.1.2.2.2.2.1,(r0.1.1.2.2.2.2.2.1,(r0.1.1.2.2.2.2.2.2.1,(r0.1.1.2.2.2.2.2.2.2.1,(w.cap,(w.list,((w.frames++[r0.1.2.1]),()))))))))))),(true,())),()))
   else none)
  else some (((r0.1.1.1,(r0.1.1.2.1,(r0.1.1.2.2.1,(r0.1.1.2.2.2.1,(r0.1.1.2.2.2.2.1,(r0.1.1.2.2.2.2.2.1,(r0.1.1.2.2.2.2.2.2.1,(r0.1.1.2.2.2.2.2.2.2.1,(w.cap,(w.list,(w.frames,()))))))))))),(true,())),()))=some (((((Za8 w mark).getD w).t),((Za8 w mark).isSome,())),()):=by
 have hf:=Zj9 h
 have ht:=h.ppu.t
 unfold Za8
 rw[hd,if_neg (by simp)]
 by_cases hm:w.ppu.T<mark∧w.ppu.T<20000
 ·rw[if_pos hm,ZiU (by omega),Zag (by omega),cond_false,cond_false]
  refine Zaa (ZpB w.ppu h.ppu hm.2) ?_
  rw[Zvv ht.1]
  cases hto:Zd6 w.ppu with
  |true=>
   rw[show decide (w.ppu.T%64=48)=true from hto,Zbn (by simp only[E.most];omega)]
   rfl
  |false=>
   rw[show decide (w.ppu.T%64=48)=false from hto]
   rfl
 ·rw[if_neg hm]
  by_cases h1:mark≤w.ppu.T
  ·rw[Zay h1];rfl
  ·rw[ZiU h1,Zao (by omega)];rfl
theorem Zpx (w:PicM) (mark:Int) (h:PicP w):r100 (w.t,(mark,()))=some ((((Za8 w mark).getD w).t,((Za8 w mark).isSome,())),()):=by
 have hl:=h.ring.len
 have hc:=h.ring.c1
 unfold r100 m100
 show (bif ltI 0 (w.list.length:Int)then (bif ltI 0 (w.list.length:Int)then (bif eqI (rdE .t w.list (0:Int)).1 w.ppu.T then _ else _)else none)else _)=_
 by_cases h0:w.list.length=0
 ·rw[Zam (by omega),cond_false]
  refine ZlO w mark h ?_
  rw[List.eq_nil_of_length_eq_zero h0];rfl
 rw[Zaj (by omega),cond_true,cond_true]
 cases hd:due w.list w.ppu.T with
 |true=>
  obtain ⟨e,e1⟩:=Zhi hd
  have hd0:rdE .t w.list (0:Int)=ZdR w.list:=by rw[e];rfl
  have htl:List.drop (Int.toNat (1:Int)) w.list=w.list.tail:=by rw[e];rfl
  rw[hd0,Zao e1,cond_true]
  show (bif ltI 0 (w.list.length:Int)then (bif leI 1 (w.list.length:Int)then (bif leN (0+(List.drop (Int.toNat (1:Int)) w.list).length) (E.most .t)then _ else none)else none)else none)=_
  rw[Zaj (by omega),Zay (by omega),htl,Zbn (by simp only[E.most,List.length_tail];omega)]
  rw[cond_true,cond_true,cond_true]
  have hw:=Zg9 w.ppu h.ppu (ZdR w.list).2.1 (ZdR w.list).2.2
  rw[←hd0]at hw
  refine Zaa hw ?_
  unfold Za8
  rw[hd,if_pos rfl,hd0]
  show some (((_,(_,(_,(_,(_,(_,(_,(_,(w.cap,(([]++List.drop (Int.toNat (1:Int)) w.list),_)))))))))),(true,())),())=_
  rw[htl]
  rfl
 |false=>
  have hne:(rdE .t w.list (0:Int)).1≠w.ppu.T:=by
   obtain ⟨x,l,e⟩: ∃x l,w.list=x::l:=by
    cases hw:w.list with
    |nil=>rw[hw]at h0;exact absurd rfl h0
    |cons x l=>exact ⟨x,l,rfl⟩
   rw[e]at hd⊢
   have hd: ¬x.1=w.ppu.T:=by simpa [due] using hd
   exact hd
  rw[Zag hne,cond_false]
  exact ZlO w mark h hd
theorem ZlP (w:SndM) (mark:Int) (h:SndP w) (hd:due w.list w.apu.T=false):(bif leI mark w.apu.T then some ((w.t,(false,())),())else bif eqI w.apu.T 20000 then some ((w.t,(false,())),())else (r185 (w.apu.t,())).bind fun r0=>
  bif r0.1.2.2.1 then (bif (leN (w.samples.length+1) (E.most .i))then (some (((r0.1.1.1,(r0.1.1.2.1,(r0.1.1.2.2.1,(r0.1.1.2.2.2.1,(r0.1.1.2.2.2.2.1,(r0.1.1.2.2.2.2.2.1,(r0.1.1.2.2.2.2.2.2.1,(w.cap,(w.list,((w.samples++[r0.1.2.1]),())))))))))),(true,())),()))
   else none)
  else some (((r0.1.1.1,(r0.1.1.2.1,(r0.1.1.2.2.1,(r0.1.1.2.2.2.1,(r0.1.1.2.2.2.2.1,(r0.1.1.2.2.2.2.2.1,(r0.1.1.2.2.2.2.2.2.1,(w.cap,(w.list,(w.samples,())))))))))),(true,())),()))=some (((((Za9 w mark).getD w).t),((Za9 w mark).isSome,())),()):=by
 have hf:=Zjb h
 have ht:=h.apu.t
 unfold Za9
 rw[hd,if_neg (by simp)]
 by_cases hm:w.apu.T<mark∧w.apu.T<20000
 ·rw[if_pos hm,ZiU (by omega),Zag (by omega),cond_false,cond_false]
  refine Zaa (Zns w.apu h.apu hm.2) ?_
  cases hto:Zgv w.apu with
  |true=>
   rw[Zbn (by simp only[E.most];omega)]
   rfl
  |false=>rfl
 ·rw[if_neg hm]
  by_cases h1:mark≤w.apu.T
  ·rw[Zay h1];rfl
  ·rw[ZiU h1,Zao (by omega)];rfl
theorem Zpy (w:SndM) (mark:Int) (h:SndP w):r101 (w.t,(mark,()))=some ((((Za9 w mark).getD w).t,((Za9 w mark).isSome,())),()):=by
 have hl:=h.ring.len
 have hc:=h.ring.c1
 unfold r101 m101
 show (bif ltI 0 (w.list.length:Int)then (bif ltI 0 (w.list.length:Int)then (bif eqI (rdE .t w.list (0:Int)).1 w.apu.T then _ else _)else none)else _)=_
 by_cases h0:w.list.length=0
 ·rw[Zam (by omega),cond_false]
  refine ZlP w mark h ?_
  rw[List.eq_nil_of_length_eq_zero h0];rfl
 rw[Zaj (by omega),cond_true,cond_true]
 cases hd:due w.list w.apu.T with
 |true=>
  obtain ⟨e,e1⟩:=Zhi hd
  have hd0:rdE .t w.list (0:Int)=ZdR w.list:=by rw[e];rfl
  have htl:List.drop (Int.toNat (1:Int)) w.list=w.list.tail:=by rw[e];rfl
  rw[hd0,Zao e1,cond_true]
  show (bif ltI 0 (w.list.length:Int)then (bif leI 1 (w.list.length:Int)then (bif leN (0+(List.drop (Int.toNat (1:Int)) w.list).length) (E.most .t)then _ else none)else none)else none)=_
  rw[Zaj (by omega),Zay (by omega),htl,Zbn (by simp only[E.most,List.length_tail];omega)]
  rw[cond_true,cond_true,cond_true]
  have hw:=Zg3 w.apu h.apu (ZdR w.list).2.1 (ZdR w.list).2.2
  rw[←hd0]at hw
  refine Zaa hw ?_
  unfold Za9
  rw[hd,if_pos rfl,hd0]
  show some (((_,(_,(_,(_,(_,(_,(_,(w.cap,(([]++List.drop (Int.toNat (1:Int)) w.list),_))))))))),(true,())),())=_
  rw[htl]
  rfl
 |false=>
  have hne:(rdE .t w.list (0:Int)).1≠w.apu.T:=by
   obtain ⟨x,l,e⟩: ∃x l,w.list=x::l:=by
    cases hw:w.list with
    |nil=>rw[hw]at h0;exact absurd rfl h0
    |cons x l=>exact ⟨x,l,rfl⟩
   rw[e]at hd⊢
   have hd: ¬x.1=w.apu.T:=by simpa [due] using hd
   exact hd
  rw[Zag hne,cond_false]
  exact ZlP w mark h hd
theorem Zi4 (mark:Int): ∀(k:Nat) (w:PicM),PicP w→Zb7 w<k→n192_0 r247 k (mark,()) (w.t,()) ()=some (Sum.inl (),((ZbA w mark).t,()))
 |0,_,_,h=>absurd h (by omega)
 |k+1,w,h,hk=>by
  show (r247 (w.t,(mark,()))).bind _=_
  refine Zaa (ZnC w mark h) ?_
  cases hs:Za8 w mark with
  |none=>rw[Zdr hs];rfl
  |some v=>
   rw[Ze2 h hs]
   exact Zi4 mark k v (Zc6 h hs).1 (by have:=Zd9 h hs;omega)
theorem Zje (mark:Int): ∀(k:Nat) (w:SndM),SndP w→Zb8 w<k→n193_0 r248 k (mark,()) (w.t,()) ()=some (Sum.inl (),((ZbB w mark).t,()))
 |0,_,_,h=>absurd h (by omega)
 |k+1,w,h,hk=>by
  show (r248 (w.t,(mark,()))).bind _=_
  refine Zaa (ZnI w mark h) ?_
  cases hs:Za9 w mark with
  |none=>rw[Zds hs];rfl
  |some v=>
   rw[Ze3 h hs]
   exact Zje mark k v (Zc7 h hs).1 (by have:=Zea h hs;omega)
theorem Zki {w:PicM} (h:PicP w):Zb7 w<fuel:=by
 have:=Zaq
 have h1:=h.ppu.t
 have h2:=h.ring.len
 have h3:=h.ring.c1
 unfold Zb7
 omega
theorem ZpC {w:SndM} (h:SndP w):Zb8 w<fuel:=by
 have:=Zaq
 have h1:=h.apu.t
 have h2:=h.ring.len
 have h3:=h.ring.c1
 unfold Zb8
 omega
theorem Zq7 (w:PicM) (mark:Int) (h:PicP w):r192 (w.t,(mark,()))=some ((),((ZbA w mark).t,())):=by
 unfold r192 m192 L192_0
 exact Zaa (Zi4 mark fuel w h (Zki h)) rfl
theorem Zrh (w:SndM) (mark:Int) (h:SndP w):r193 (w.t,(mark,()))=some ((),((ZbB w mark).t,())):=by
 unfold r193 m193 L193_0
 exact Zaa (Zje mark fuel w h (ZpC h)) rfl
theorem ZfD (mark:Int): ∀(k:Nat) (w:PicM),PicP w→Zb7 w+1<k→n102_0 r72 r100 r94 k (mark,()) (w.t,()) (true,())=some (Sum.inl (false,()),((ZbA w mark).t,()))
 |0,_,_,h=>absurd h (by omega)
 |k+1,w,h,hk=>by
  show (r100 (w.t,(mark,()))).bind _=_
  refine Zaa (Zpx w mark h) ?_
  cases hs:Za8 w mark with
  |none=>
   rw[Zdr hs]
   obtain ⟨j,rfl⟩: ∃j,k=j+1:=⟨k-1,by omega⟩
   rfl
  |some v=>
   rw[Ze2 h hs]
   exact ZfD mark k v (Zc6 h hs).1 (by have:=Zd9 h hs;omega)
theorem ZfE (mark:Int): ∀(k:Nat) (w:SndM),SndP w→Zb8 w+1<k→n103_0 r73 r101 r95 k (mark,()) (w.t,()) (true,())=some (Sum.inl (false,()),((ZbB w mark).t,()))
 |0,_,_,h=>absurd h (by omega)
 |k+1,w,h,hk=>by
  show (r101 (w.t,(mark,()))).bind _=_
  refine Zaa (Zpy w mark h) ?_
  cases hs:Za9 w mark with
  |none=>
   rw[Zds hs]
   obtain ⟨j,rfl⟩: ∃j,k=j+1:=⟨k-1,by omega⟩
   rfl
  |some v=>
   rw[Ze3 h hs]
   exact ZfE mark k v (Zc7 h hs).1 (by have:=Zea h hs;omega)
theorem ZiQ (w:PicM) (h:PicP w):r94 (w.t,())=some ((w.t,()),()):=by
 have hs:=h.s
 unfold r94 m94
 exact Zaa (Zep w.ppu.t h.ppu.s) (Zaa (Zho (w.cap,(w.list,())) hs.2.1) (Zaa (Zhn w.frames hs.2.2) rfl))
theorem ZlQ (w:SndM) (h:SndP w):r95 (w.t,())=some ((w.t,()),()):=by
 have hs:=h.s
 have hl:w.samples.length≤4398046511104:=hs.2
 unfold r95 m95
 refine Zaa (Zho (w.cap,(w.list,())) hs.1) ?_
 show (bif leN (0+w.samples.length) (E.most .i)then _ else none)=_
 rw[Zbn (by simp only[E.most];omega)]
 rfl
theorem Zim (w:PicM) (mark:Int) (h:PicP w):r102 (w.t,(mark,()))=some (((ZbA w mark).t,()),()):=by
 unfold r102 m102 L102_0
 have hf:=Zaq
 have hok:r72 (w.t,())=some ((true,()),()):=by rw[Zgq w.t h.s,Zl5.2 h]
 refine Zaa hok (Zaa (ZiQ w h) (Zaa (ZfD mark fuel w h (by have:=Zki h;have h1:=h.ppu.t;have h2:=h.ring.len;have h3:=h.ring.c1;unfold Zb7;omega)) rfl))
theorem ZjY (w:SndM) (mark:Int) (h:SndP w):r103 (w.t,(mark,()))=some (((ZbB w mark).t,()),()):=by
 unfold r103 m103 L103_0
 have hf:=Zaq
 have hok:r73 (w.t,())=some ((true,()),()):=by rw[Zh1 w.t h.s,Zmk.2 h]
 refine Zaa hok (Zaa (ZlQ w h) (Zaa (ZfE mark fuel w h (by have h1:=h.apu.t;have h2:=h.ring.len;have h3:=h.ring.c1;unfold Zb8;omega)) rfl))
theorem Zou (s:Zac) (n:Int) (ht:0≤s.T∧s.T≤20000) (hn:0≤n∧n≤7):r254 (s.t,(n,()))=some ((ZgQ s n,()),()):=by
 unfold r254 m254 ZgQ
 show (bif ltI 20000 (wI (s.T+n))then _ else _)=_
 rw[Zas (by omega) (by omega)]
 by_cases h:20000<s.T+n
 ·rw[Zaj h,if_pos h];rfl
 ·rw[Zam h,if_neg h];rfl
theorem Zhq (s:Zac) (n:Int) (ht:0≤s.T∧s.T≤20000) (hn:0≤n∧n≤7):r167 (s.t,(n,()))=some ((ZgQ s n,()),()):=by
 unfold r167 m167 ZgQ
 show (bif ltI 20000 (wI (s.T+n))then _ else _)=_
 rw[Zas (by omega) (by omega)]
 by_cases h:20000<s.T+n
 ·rw[Zaj h,if_pos h];rfl
 ·rw[Zam h,if_neg h];rfl
theorem ZlM {s:Zac} (h:Zar s):0≤s.knownAt∧s.knownAt≤20000:=by
 have:=h.known
 have:=h.t
 omega
theorem Znz (s:Zac) (h:Zar s):r197 (s.t,())=some ((Zfy s,()),()):=by
 unfold r197 m197 Zfy
 show (bif !s.nmi then (bif !s.cpu.i then (r259 (s.knownAt,(s.T,()))).bind _ else _)else _)=_
 rw[ZiL _ _ (ZlM h) h.t]
 cases s.nmi<;>cases s.cpu.i<;>rfl
theorem Zhm (s:Zac) (h:Zar s):r200 (s.t,())=some ((askM s,()),()):=by
 unfold r200 m200 askM
 refine Zaa (ZiL _ _ (ZlM h) h.t) ?_
 show (bif Zex s.knownAt s.T then (bif s.snd.apu.irq then some ((!s.cpu.i,()),())else _)else bif s.known then some ((!s.cpu.i,()),())else _)=_
 cases Zex s.knownAt s.T<;>cases s.snd.apu.irq<;>cases s.known<;>rfl
theorem Znu (s:Zac) (h:Zar s):r170 (s.t,())=some (((if Zex s.knownAt s.T then s.snd.apu.irq else s.known),()),()):=by
 unfold r170 m170
 refine Zaa (Zf4 _ _ (ZlM h) h.t) ?_
 show (bif Zex s.knownAt s.T then some ((s.snd.apu.irq,()),())else some ((s.known,()),()))=_
 cases Zex s.knownAt s.T<;>rfl
def ZvB (s:Zac):Int:=
 if ZaG (opS s)=1∧(rgT (adrS s)).1=2∧ZnD s=false then 1 else if ZaG (opS s)=1∧(rgT (adrS s)).1=3∧Zgo s=false then 2
 else if ZaG (opS s)=2∧(rgT (adrS s)).1=2∧s.pic.cap≤(s.pic.list.length:Int)then 3 else if ZaG (opS s)=2∧(rgT (adrS s)).1=3∧s.snd.cap≤(s.snd.list.length:Int)then 4
 else ZgQ s (Za0 (opS s))
theorem Zsm (s:Zac):Zct s=if s.nmi then ZgQ s 7 else if Zfy s&& !Zgo s then 2 else if askM s then ZgQ s 7 else ZvB s:=rfl
theorem Zqu {s:Zac} (h:Zar s):0≤argS s∧argS s≤65535:=ZtN h.mem _
theorem Zyc (s:Zac):0≤Za0 (opS s)∧Za0 (opS s)≤7:=by have:=Zht (opS s);omega
def Zwi {T:Type} (k1 k2 g2 g3 c1 c2:Bool) (P S:(Bool→Option T)→Option T) (a b c d e:Option T):Option T:=
 let t4:=bif k2 then (bif g3 then (bif c2 then d else e)else e)else e
 let t3:=bif k2 then (bif g2 then (bif c1 then c else t4)else t4)else t4
 let t2:=bif k1 then (bif g3 then S (fun u=>bif !u then b else t3)else t3)else t3
 bif k1 then (bif g2 then P (fun u=>bif !u then a else t2)else t2)else t2
theorem ZrJ (s:Zac) (h:Zar s):Zwi (eqI (ZaG (opS s)) 1) (eqI (ZaG (opS s)) 2) (eqI (rgT (adrS s)).1 2) (eqI (rgT (adrS s)).1 3) (leI s.pic.cap (s.pic.list.length:Int)) (leI s.snd.cap (s.snd.list.length:Int))
  (fun f=>(r219 (s.t,())).bind fun r=>f r.1.1) (fun f=>(r220 (s.t,())).bind fun r=>f r.1.1) (some (((1:Int),()),())) (some (((2:Int),()),())) (some (((3:Int),()),())) (some (((4:Int),()),()))
  ((r258 (opS s,())).bind fun r8=>(r254 (s.t,r8.1)).bind fun r9=>some ((r9.1:PTup o254),()))=(some (((ZvB s,()),())):Option (PTup o254×Unit)):=by
 have e:((r258 (opS s,())).bind fun r8=>(r254 (s.t,r8.1)).bind fun r9=>some ((r9.1:PTup o254),()))=(some ((ZgQ s (Za0 (opS s)),()),()):Option (PTup o254×Unit)):=
  Zaa (Zcf (opS s,())) (Zaa (Zou s (Za0 (opS s)) h.t (Zyc s)) rfl)
 rw[e]
 have ep:r219 (s.t,())=some ((ZnD s,()),()):=Zgl s.t
 have es:r220 (s.t,())=some ((Zgo s,()),()):=Zfb s.t
 unfold ZvB Zwi
 rw[ep,es]
 have l1:=h.pic.ring.len
 have l2:=h.snd.ring.len
 have q1:(leI s.pic.cap (s.pic.list.length:Int))=decide (s.pic.cap≤(s.pic.list.length:Int)):=by
  by_cases hq:s.pic.cap≤(s.pic.list.length:Int)
  ·rw[decide_eq_true hq];exact Zay hq
  ·rw[decide_eq_false hq];exact ZiU hq
 have q2:(leI s.snd.cap (s.snd.list.length:Int))=decide (s.snd.cap≤(s.snd.list.length:Int)):=by
  by_cases hq:s.snd.cap≤(s.snd.list.length:Int)
  ·rw[decide_eq_true hq];exact Zay hq
  ·rw[decide_eq_false hq];exact ZiU hq
 rw[q1,q2]
 generalize (rgT (adrS s)).1=g
 rcases ZfW (opS s)with o|o|o<;>rw[o]
 ·rfl
 ·by_cases g2:g=2
  ·subst g2
   cases ZnD s<;>rfl
  ·by_cases g3:g=3
   ·subst g3
    cases Zgo s<;>rfl
   ·rw[Zag g2,Zag g3,if_neg (fun x=>g2 x.2.1),if_neg (fun x=>g3 x.2.1),if_neg (fun x=>g2 x.2.1),if_neg (fun x=>g3 x.2.1)]
    rfl
 ·by_cases g2:g=2
  ·subst g2
   by_cases hq:s.pic.cap≤(s.pic.list.length:Int)
   ·rw[decide_eq_true hq,if_neg (fun x=>absurd x.1 (by decide)),if_neg (fun x=>absurd x.1 (by decide)),if_pos ⟨rfl,rfl,hq⟩];rfl
   ·rw[decide_eq_false hq,if_neg (fun x=>absurd x.1 (by decide)),if_neg (fun x=>absurd x.1 (by decide)),if_neg (fun x=>hq x.2.2),if_neg (fun x=>absurd x.2.1 (by decide))];rfl
  ·by_cases g3:g=3
   ·subst g3
    by_cases hq:s.snd.cap≤(s.snd.list.length:Int)
    ·rw[decide_eq_true hq,if_neg (fun x=>absurd x.1 (by decide)),if_neg (fun x=>absurd x.1 (by decide)),if_neg (fun x=>absurd x.2.1 (by decide)),if_pos ⟨rfl,rfl,hq⟩];rfl
    ·rw[decide_eq_false hq,if_neg (fun x=>absurd x.1 (by decide)),if_neg (fun x=>absurd x.1 (by decide)),if_neg (fun x=>absurd x.2.1 (by decide)),if_neg (fun x=>hq x.2.2)];rfl
   ·rw[Zag g2,Zag g3,if_neg (fun x=>g2 x.2.1),if_neg (fun x=>g3 x.2.1),if_neg (fun x=>g2 x.2.1),if_neg (fun x=>g3 x.2.1)]
    rfl
theorem ZoI (s:Zac) (h:Zar s):Zwi (eqI (ZaG (opS s)) 1) (eqI (ZaG (opS s)) 2) (eqI (rgT (adrS s)).1 2) (eqI (rgT (adrS s)).1 3) (eqI (s.pic.list.length:Int) s.pic.cap) (eqI (s.snd.list.length:Int) s.snd.cap)
  (fun f=>(r174 (s.t,())).bind fun r=>f r.1.1) (fun f=>(r169 (s.t,())).bind fun r=>f r.1.1) (some (((1:Int),()),())) (some (((2:Int),()),())) (some (((3:Int),()),())) (some (((4:Int),()),()))
  ((r175 (opS s,())).bind fun r8=>(r167 (s.t,r8.1)).bind fun r9=>some ((r9.1:PTup o167),()))=(some (((ZvB s,()),())):Option (PTup o167×Unit)):=by
 have e:((r175 (opS s,())).bind fun r8=>(r167 (s.t,r8.1)).bind fun r9=>some ((r9.1:PTup o167),()))=(some ((ZgQ s (Za0 (opS s)),()),()):Option (PTup o167×Unit)):=
  Zaa (Zci (opS s,())) (Zaa (Zhq s (Za0 (opS s)) h.t (Zyc s)) rfl)
 rw[e]
 have ep:r174 (s.t,())=some ((ZnD s,()),()):=ZgN s.t
 have es:r169 (s.t,())=some ((Zgo s,()),()):=ZfT s.t
 unfold ZvB Zwi
 rw[ep,es]
 have l1:=h.pic.ring.len
 have l2:=h.snd.ring.len
 have q1:(eqI (s.pic.list.length:Int) s.pic.cap)=decide (s.pic.cap≤(s.pic.list.length:Int)):=by
  by_cases hq:s.pic.cap≤(s.pic.list.length:Int)
  ·rw[decide_eq_true hq];exact Zao (by omega)
  ·rw[decide_eq_false hq];exact Zag (by omega)
 have q2:(eqI (s.snd.list.length:Int) s.snd.cap)=decide (s.snd.cap≤(s.snd.list.length:Int)):=by
  by_cases hq:s.snd.cap≤(s.snd.list.length:Int)
  ·rw[decide_eq_true hq];exact Zao (by omega)
  ·rw[decide_eq_false hq];exact Zag (by omega)
 rw[q1,q2]
 generalize (rgT (adrS s)).1=g
 rcases ZfW (opS s)with o|o|o<;>rw[o]
 ·rfl
 ·by_cases g2:g=2
  ·subst g2
   cases ZnD s<;>rfl
  ·by_cases g3:g=3
   ·subst g3
    cases Zgo s<;>rfl
   ·rw[Zag g2,Zag g3,if_neg (fun x=>g2 x.2.1),if_neg (fun x=>g3 x.2.1),if_neg (fun x=>g2 x.2.1),if_neg (fun x=>g3 x.2.1)]
    rfl
 ·by_cases g2:g=2
  ·subst g2
   by_cases hq:s.pic.cap≤(s.pic.list.length:Int)
   ·rw[decide_eq_true hq,if_neg (fun x=>absurd x.1 (by decide)),if_neg (fun x=>absurd x.1 (by decide)),if_pos ⟨rfl,rfl,hq⟩];rfl
   ·rw[decide_eq_false hq,if_neg (fun x=>absurd x.1 (by decide)),if_neg (fun x=>absurd x.1 (by decide)),if_neg (fun x=>hq x.2.2),if_neg (fun x=>absurd x.2.1 (by decide))];rfl
  ·by_cases g3:g=3
   ·subst g3
    by_cases hq:s.snd.cap≤(s.snd.list.length:Int)
    ·rw[decide_eq_true hq,if_neg (fun x=>absurd x.1 (by decide)),if_neg (fun x=>absurd x.1 (by decide)),if_neg (fun x=>absurd x.2.1 (by decide)),if_pos ⟨rfl,rfl,hq⟩];rfl
    ·rw[decide_eq_false hq,if_neg (fun x=>absurd x.1 (by decide)),if_neg (fun x=>absurd x.1 (by decide)),if_neg (fun x=>absurd x.2.1 (by decide)),if_neg (fun x=>hq x.2.2)];rfl
   ·rw[Zag g2,Zag g3,if_neg (fun x=>g2 x.2.1),if_neg (fun x=>g3 x.2.1),if_neg (fun x=>g2 x.2.1),if_neg (fun x=>g3 x.2.1)]
    rfl
theorem Zrv (s:Zac) (h:Zar s):r196 (s.t,())=some ((Zct s,()),()):=by
 unfold r196 m196
 rw[Zsm]
 show (bif s.nmi then _ else _)=_
 cases hn:s.nmi with
 |true=>exact Zaa (Zou s 7 h.t (by decide)) rfl
 |false=>
  rw[cond_false,if_neg (by simp)]
  refine Zaa (Znz s h) ?_
  cases hm:Zfy s with
  |false=>
   refine Zaa (Zhm s h) ?_
   rw[Bool.false_and,if_neg (by simp)]
   cases ha:askM s with
   |true=>exact Zaa (Zou s 7 h.t (by decide)) rfl
   |false=>exact Zaa (Zhk s.img s.mem s.cpu.pc h.mem h.cpu.pc) (Zaa (ZdZ (opS s) (argS s) s.cpu h.cpu (Zqu h)) (Zaa (ZbK (adrS s,())) (ZrJ s h)))
  |true=>
   refine Zaa (Zfb s.t) ?_
   show (bif !Zgo s then _ else _)=_
   rw[Bool.true_and]
   cases hs:Zgo s with
   |false=>rfl
   |true=>
    refine Zaa (Zhm s h) ?_
    rw[if_neg (by simp)]
    cases ha:askM s with
    |true=>exact Zaa (Zou s 7 h.t (by decide)) rfl
    |false=>exact Zaa (Zhk s.img s.mem s.cpu.pc h.mem h.cpu.pc) (Zaa (ZdZ (opS s) (argS s) s.cpu h.cpu (Zqu h)) (Zaa (ZbK (adrS s,())) (ZrJ s h)))
theorem ZjG (s:Zac) (h:Zar s):r96 (s.t,())=some ((Zct s,()),()):=by
 unfold r96 m96
 rw[Zsm]
 show (bif s.nmi then _ else bif !s.cpu.i then _ else _)=_
 cases hn:s.nmi with
 |true=>exact Zaa (Zhq s 7 h.t (by decide)) rfl
 |false=>
  rw[cond_false,if_neg (by simp)]
  have em:Zfy s=(!s.cpu.i&&Zex s.knownAt s.T):=by unfold Zfy;rw[hn];rfl
  have ea:askM s=((if Zex s.knownAt s.T then s.snd.apu.irq else s.known)&& !s.cpu.i):=rfl
  rw[em,ea]
  cases hi:s.cpu.i with
  |true=>
   rw[show (!true&&Zex s.knownAt s.T)=false from rfl,Bool.false_and,if_neg (by simp),show (!true)=false from rfl,Bool.and_false,if_neg (by simp)]
   exact Zaa (ZdI s.img s.mem s.cpu.pc h.mem h.cpu.pc) (Zaa (Zc5 (opS s) (argS s) s.cpu h.cpu (Zqu h)) (Zaa (Zbs (adrS s,())) (ZoI s h)))
  |false=>
   refine Zaa (Zf4 _ _ (ZlM h) h.t) ?_
   rw[show (!false)=true from rfl,Bool.true_and,Bool.and_true]
   show (bif Zex s.knownAt s.T then _ else _)=_
   cases hb:Zex s.knownAt s.T with
   |false=>
    have k:=Znu s h
    rw[hb]at k
    refine Zaa k ?_
    rw[Bool.false_and,if_neg (by simp),if_neg (by simp)]
    cases hk:s.known with
    |true=>exact Zaa (Zhq s 7 h.t (by decide)) rfl
    |false=>exact Zaa (ZdI s.img s.mem s.cpu.pc h.mem h.cpu.pc) (Zaa (Zc5 (opS s) (argS s) s.cpu h.cpu (Zqu h)) (Zaa (Zbs (adrS s,())) (ZoI s h)))
   |true=>
    refine Zaa (ZfT s.t) ?_
    show (bif !Zgo s then _ else _)=_
    rw[Bool.true_and]
    cases hs:Zgo s with
    |false=>rfl
    |true=>
     have k:=Znu s h
     rw[hb,if_pos rfl]at k
     refine Zaa k ?_
     simp only[if_true,Bool.not_true,Bool.false_eq_true,if_false]
     cases hk:s.snd.apu.irq with
     |true=>exact Zaa (Zhq s 7 h.t (by decide)) rfl
     |false=>exact Zaa (ZdI s.img s.mem s.cpu.pc h.mem h.cpu.pc) (Zaa (Zc5 (opS s) (argS s) s.cpu h.cpu (Zqu h)) (Zaa (Zbs (adrS s,())) (ZoI s h)))

end Go.Proofs.YtleidaafbhojfaaGreatDoor.Plain
