/- Plain laws of the printed functions: UnitI, ExecI, TimeI, WaitI. No condition beyond those that each lemma states. -/
import Derived.Test.YtcbdldlphpjmbaaGreatDoorPB
set_option linter.unusedVariables false
set_option linter.unusedSimpArgs false
namespace Go.Proofs.YtcbdldlphpjmbaaGreatDoor.Plain
open Go Go.Tev
theorem W3 {a b:Int} (h:0≤a):Int.tdiv a b=a/b:=Int.tdiv_eq_ediv_of_nonneg h
theorem Zsm {s at':Int} (ha:0≤at'∧at'≤48) (hs:0≤s∧s≤255):Int.tmod (wI ((wI ((Int.tmod at' 8)+s))+(wI (Int.tdiv at' 8)))) 16=(at'%8+s+at'/8)%16:=by
 rw[Qw ha.1,W3 ha.1,Zt (x:=at'%8+s) (by omega) (by omega),Zt (x:=at'/8) (by omega) (by omega),Zt (by omega) (by omega),Qw (by omega)]
theorem Zo9 (p:ZZ) (h:JI p) (a:Int) (ha:0≤a∧a≤48):r237 (p.t,(a,()))=some ((VX p a,()),()):=by
 have h1:=h.len;unfold r237 m237 VX;simp only[Zr,ZZ.t];rw[Zsm ha h.scroll,Zq (by omega),Zk (by omega)];rfl
theorem Zrj (p:ZZ) (hs:0≤p.scroll∧p.scroll≤255) (h1:p.table.length=16) (a:Int) (ha:0≤a∧a≤48):r298 (p.t,(a,()))=some ((VX p a,()),()):=by
 unfold r298 m298 VX;simp only[Zr,ZZ.t];rw[Zsm ha hs,Zq (by omega),Zk (by omega)];rfl
theorem ZkQ {p:ZZ} (h:JI p):p.dots.length≤48:=by
 have h2:=h.dots;split at h2<;>omega
theorem Zor {p:ZZ} (c:p.T%64<48):Jx p={p with T:=p.T+1,dots:=p.dots++[VX p (p.T%64)]}∧Yv p=[]∧Kr p=false∧JQ p=false:=by
 unfold Jx Yv Kr JQ;rw[Ze c,Zc (by omega),Zw (by omega)];exact ⟨rfl,rfl,rfl,rfl⟩
theorem Zos {p:ZZ} (c:p.T%64=48):Jx p={p with T:=p.T+1,blank:=true,dots:=[]}∧Yv p=p.dots∧Kr p=ltI 127 p.ctrl∧JQ p=true:=by
 unfold Jx Yv Kr JQ;rw[Zc (by omega),Ze c,Ze c,ZC c];exact ⟨rfl,rfl,rfl,rfl⟩
theorem Zot {p:ZZ} (c:p.T%64=63):Jx p={p with T:=p.T+1,blank:=false}∧Yv p=[]∧Kr p=false∧JQ p=false:=by
 unfold Jx Yv Kr JQ;rw[Zc (by omega),Zc (by omega),Ze c,Zc (by omega),Zw (by omega)];exact ⟨rfl,rfl,rfl,rfl⟩
theorem Zou {p:ZZ} (c: ¬p.T%64<48) (c2:p.T%64≠48) (c3:p.T%64≠63):Jx p={p with T:=p.T+1}∧Yv p=[]∧Kr p=false∧JQ p=false:=by
 unfold Jx Yv Kr JQ;rw[Zc c,Zc c2,Zc c3,Zc c2,Zw c2];exact ⟨rfl,rfl,rfl,rfl⟩
theorem Zjb (p:ZZ) (h:JI p) (ht:p.T<20000):r169 (p.t,())=some (((Jx p).t,(Yv p,(Kr p,()))),()):=by
 have h1:=h.t;have hd:=ZkQ h;unfold r169 m169;refine Za (Ux p.t h.s) ?_;show (bif eqI p.T 20000 then _ else bif ltI (Int.tmod p.T 64) 48 then _ else bif eqI (Int.tmod p.T 64) 48 then _ else bif eqI (Int.tmod p.T 64) 63 then _ else _)=_
 have hm:Int.tmod p.T 64=p.T%64:=Qw h1.1;have hw:wI (p.T+1)=p.T+1:=Zt (by omega) (by omega);rw[Zi (show p.T≠20000 by omega),Zd,hm];by_cases c1:p.T%64<48
 ·obtain ⟨e1,e2,e3,_⟩:=Zor c1;rw[Zk c1,Zb,e1,e2,e3];refine Za (Zo9 p h (Int.tmod p.T 64) (by omega)) ?_;show (bif leN (p.dots.length+1) (E.most .i)then some ((((wI (p.T+1)),_),_),_)else none)=_
  rw[ZP (by simp only[E.most];omega),hw,hm];rfl
 rw[Zx c1,Zd];by_cases c2:p.T%64=48
 ·obtain ⟨e1,e2,e3,_⟩:=Zos c2;rw[Zn c2,Zb,e1,e2,e3];show (bif leN (0+p.dots.length) (E.most .i)then some ((((wI (p.T+1)),_),_),_)else none)=_
  rw[ZP (by simp only[E.most];omega),hw];rfl
 rw[Zi c2,Zd];by_cases c3:p.T%64=63
 ·obtain ⟨e1,e2,e3,_⟩:=Zot c3;rw[Zn c3,Zb,e1,e2,e3];show some ((((wI (p.T+1)),_),_),_)=_;rw[hw];rfl
 ·obtain ⟨e1,e2,e3,_⟩:=Zou c1 c2 c3;rw[Zi c3,Zd,e1,e2,e3];show some ((((wI (p.T+1)),_),_),_)=_;rw[hw];rfl
theorem Zow (p:ZZ) (h:JI p) (ht:p.T<20000):r245 (p.t,())=some ((JQ p,(Yv p,(Kr p,()))),((Jx p).t,())):=by
 have h1:=h.t;have hd:=ZkQ h;have hm:Int.tmod p.T 64=p.T%64:=Qw h1.1;have hw:wI (p.T+1)=p.T+1:=Zt (by omega) (by omega);unfold r245 m245;show (bif ltI (Int.tmod p.T 64) 48 then _ else bif eqI (Int.tmod p.T 64) 48 then _ else bif eqI (Int.tmod p.T 64) 63 then _ else _)=_
 rw[hm];by_cases c1:p.T%64<48
 ·obtain ⟨e1,e2,e3,e4⟩:=Zor c1;rw[Zk c1,Zb,e1,e2,e3,e4];have hdt:=Zrj {p with T:=p.T+1} h.scroll h.len (p.T%64) (by omega)
  rw[←hw,←hm]at hdt;refine Za hdt ?_;show (bif leN (p.dots.length+1) (E.most .i)then some (_,(((wI (p.T+1)),_),_))else none)=_
  rw[ZP (by simp only[E.most];omega),hw,hm];rfl
 rw[Zx c1,Zd];by_cases c2:p.T%64=48
 ·obtain ⟨e1,e2,e3,e4⟩:=Zos c2;rw[Zn c2,Zb,e1,e2,e3,e4];show some (_,(((wI (p.T+1)),_),_))=_;rw[hw];rfl
 rw[Zi c2,Zd];by_cases c3:p.T%64=63
 ·obtain ⟨e1,e2,e3,e4⟩:=Zot c3;rw[Zn c3,Zb,e1,e2,e3,e4];show some (_,(((wI (p.T+1)),_),_))=_;rw[hw];rfl
 ·obtain ⟨e1,e2,e3,e4⟩:=Zou c1 c2 c3;rw[Zi c3,Zd,e1,e2,e3,e4];show some (_,(((wI (p.T+1)),_),_))=_;rw[hw];rfl
theorem Zcc (p:ZZ) (h:JI p) (reg v:Int):r168 (p.t,(reg,(v,())))=some (((Yj p reg v).t,()),()):=by
 have ha:=h.addr;have hl:=h.len;unfold r168 m168 Yj;refine Za (Ux p.t h.s) (Za (by rw[Za6 p.t h.s,WR.2 h]) ?_);simp only[ZK,Zd,QY,Zo,Zr,ZZ.t];rw[Qw (show 0≤v%256 by omega),Qw (show 0≤v%256 by omega),Zt (x:=p.addr+1) (by omega) (by omega),Qw (show 0≤p.addr+1 by omega),Zq ha.1,Zk (by omega)];by_cases c:reg=0
 ·rw[Zn c,Ze c];rfl
 rw[Zi c,Zc c,Zd];by_cases c:reg=1
 ·rw[Zn c,Ze c];rfl
 rw[Zi c,Zc c,Zd];by_cases c:reg=3
 ·rw[Zn c,Ze c];rfl
 rw[Zi c,Zc c,Zd];by_cases c:reg=4
 ·rw[Zn c,Ze c];rfl
 rw[Zi c,Zc c,Zd];by_cases c:reg=5
 ·rw[Zn c,Ze c];rfl
 rw[Zi c,Zc c,Zd]
theorem ZlK (p:ZZ) (h:JI p) (reg v:Int):r244 (p.t,(reg,(v,())))=some ((),((Yj p reg v).t,())):=by
 have ha:=h.addr;have hl:=h.len;unfold r244 m244 Yj r297 m297;simp only[Xl,Zo,Zr,ZZ.t];rw[Qw (show 0≤v%256 by omega),Qw (show 0≤v%256 by omega),Zt (x:=p.addr+1) (by omega) (by omega),Qw (show 0≤p.addr+1 by omega),Zq ha.1,Zk (by omega)];by_cases c:reg=0
 ·rw[Zn c,Ze c];rfl
 rw[Zi c,Zc c,Zd];by_cases c:reg=1
 ·rw[Zn c,Ze c];rfl
 rw[Zi c,Zc c,Zd];by_cases c:reg=3
 ·rw[Zn c,Ze c];rfl
 rw[Zi c,Zc c,Zd];by_cases c:reg=4
 ·rw[Zn c,Ze c];rfl
 rw[Zi c,Zc c,Zd];by_cases c:reg=5
 ·rw[Zn c,Ze c];rfl
 rw[Zi c,Zc c,Zd]
theorem ZcL (p:ZZ) (h:JI p) (reg:Int):r282 (p.t,(reg,()))=some (((Yf p reg).t,(Va p reg,())),()):=by
 have ha:=h.addr;have hl:=h.len;have hf:=XQ p.blank;unfold r282 m282 Yf Va;refine Za (Ux p.t h.s) (Za (by rw[Za6 p.t h.s,WR.2 h]) ?_);simp only[ZK,Zd,Zdo,Zo,Zr,ZZ.t];rw[Zt (x:=p.addr+1) (by omega) (by omega),Qw (show 0≤p.addr+1 by omega),Zq ha.1,Zk (by omega),Zt (x:=128*QU p.blank) (by omega) (by omega)];by_cases c:reg=2
 ·rw[Zn c,Ze c,Ze c];rfl
 rw[Zi c,Zc c,Zc c,Zd];by_cases c:reg=4
 ·rw[Zn c,Ze c,Ze c];rfl
 rw[Zi c,Zc c,Zc c,Zd]
theorem Zn1 (p:ZZ) (h:JI p) (reg:Int):r256 (p.t,(reg,()))=some ((Va p reg,()),((Yf p reg).t,())):=by
 have ha:=h.addr;have hl:=h.len;have hf:=XQ p.blank;unfold r256 m256 Yf Va r297 m297;simp only[Zfw,Zo,Zr,ZZ.t];rw[Zt (x:=p.addr+1) (by omega) (by omega),Qw (show 0≤p.addr+1 by omega),Zq ha.1,Zk (by omega),Zt (x:=128*QU p.blank) (by omega) (by omega)];by_cases c:reg=2
 ·rw[Zn c,Ze c,Ze c];rfl
 rw[Zi c,Zc c,Zc c,Zd];by_cases c:reg=4
 ·rw[Zn c,Ze c,Ze c];rfl
 rw[Zi c,Zc c,Zc c,Zd]
theorem Zhm (a:Qq) (h:Yl a) (ht:a.T<20000):r171 (a.t,())=some (((W4 a).t,(We a,(YJ a,()))),()):=by
 obtain ⟨t,p,c,b,l,asks,irq⟩:=a;have ht:t<20000:=ht;obtain ⟨h1,h2,h3,h4,h5⟩:=h;have h1:0≤t∧t≤20000:=h1;have h3:0≤c∧c≤255:=h3;have h4:0≤b∧b≤1:=h4;have h5:0≤l∧l≤31:=h5;unfold r171 m171 W4 We YJ Ue Ul Qq.t;simp only;rw[Zi (show t≠20000 by omega),Zd,Qw h1.1,Qw h1.1,Zt (x:=t+1) (by omega) (by omega),Zt (x:=1-b) (by omega) (by omega),Zt (x:=l-1) (by omega) (by omega),Zt (x:=c-1) (by omega) (by omega),Zt (x:=8*(1-b)) (by omega) (by omega),Zt (x:=8*b) (by omega) (by omega)];by_cases c0:c=0
 ·rw[Zn c0,Ze c0];by_cases l0:0<l
  ·rw[Zk l0,Ze l0];by_cases t32:t%32=0
   ·rw[Zn t32,Zi (show t%16≠15 by omega)];simp only[Zb,Zd,t32,l0,true_and,if_true,show¬t%16=15 by omega,false_and,if_false];cases irq<;>cases eqI (l-1) 0<;>rfl
   ·rw[Zi t32];simp only[Zb,Zd,t32,false_and,if_false];by_cases t16:t%16=15
    ·rw[Zn t16];simp only[Zb,t16,true_and,ne_eq,show¬l=0 by omega,not_false_eq_true,if_true]
    ·rw[Zi t16];simp only[Zd,t16,false_and,if_false]
  ·rw[Zx l0,Zc l0];have l0':l=0:=by omega
   subst l0';by_cases t32:t%32=0
   ·rw[Zn t32,Zi (show t%16≠15 by omega)];simp only[Zb,Zd,t32,true_and,show¬t%16=15 by omega,false_and,if_false,Int.lt_irrefl]
   ·rw[Zi t32];by_cases t16:t%16=15
    ·rw[Zn t16];simp only[Zb,Zd,t32,t16,true_and,ne_eq,not_true_eq_false,false_and,and_false,if_false]
    ·rw[Zi t16];simp only[Zb,Zd,t32,t16,false_and,if_false]
 ·rw[Zi c0,Zc c0];by_cases l0:0<l
  ·rw[Zk l0];by_cases t32:t%32=0
   ·rw[Zn t32,Zi (show t%16≠15 by omega)];simp only[Zb,Zd,t32,l0,true_and,if_true,show¬t%16=15 by omega,false_and,if_false];cases irq<;>cases eqI (l-1) 0<;>rfl
   ·rw[Zi t32];simp only[Zb,Zd,t32,false_and,if_false];by_cases t16:t%16=15
    ·rw[Zn t16];simp only[Zb,t16,true_and,ne_eq,show¬l=0 by omega,not_false_eq_true,if_true]
    ·rw[Zi t16];simp only[Zd,t16,false_and,if_false]
  ·rw[Zx l0];have l0':l=0:=by omega
   subst l0';by_cases t32:t%32=0
   ·rw[Zn t32,Zi (show t%16≠15 by omega)];simp only[Zb,Zd,t32,true_and,show¬t%16=15 by omega,false_and,if_false,Int.lt_irrefl]
   ·rw[Zi t32];by_cases t16:t%16=15
    ·rw[Zn t16];simp only[Zb,Zd,t32,t16,true_and,ne_eq,not_true_eq_false,false_and,and_false,if_false]
    ·rw[Zi t16];simp only[Zb,Zd,t32,t16,false_and,if_false]
theorem Zg4 (a:Qq) (h:Yl a) (ht:a.T<20000):r247 (a.t,())=some ((We a,(YJ a,())),((W4 a).t,())):=by
 obtain ⟨t,p,c,b,l,asks,irq⟩:=a;have ht:t<20000:=ht;obtain ⟨h1,h2,h3,h4,h5⟩:=h;have h1:0≤t∧t≤20000:=h1;have h3:0≤c∧c≤255:=h3;have h4:0≤b∧b≤1:=h4;have h5:0≤l∧l≤31:=h5;unfold r247 m247 W4 We YJ Ue Ul Qq.t;simp only;rw[Qw h1.1,Qw h1.1,Zt (x:=t+1) (by omega) (by omega),Zt (x:=1-b) (by omega) (by omega),Zt (x:=l-1) (by omega) (by omega),Zt (x:=c-1) (by omega) (by omega),Zt (x:=8*(1-b)) (by omega) (by omega),Zt (x:=8*b) (by omega) (by omega)];by_cases c0:c=0
 ·rw[Zn c0,Ze c0];by_cases l0:0<l
  ·rw[Zk l0,Ze l0];by_cases t32:t%32=0
   ·rw[Zn t32,Zi (show t%16≠15 by omega)];simp only[Zb,Zd,t32,l0,true_and,if_true,show¬t%16=15 by omega,false_and,if_false,QF];cases irq<;>cases eqI (l-1) 0<;>rfl
   ·rw[Zi t32];simp only[Zb,Zd,t32,false_and,if_false];by_cases t16:t%16=15
    ·rw[Zn t16,Zi (show l≠0 by omega)];simp only[Zb,Zd,ZK,t16,true_and,ne_eq,show¬l=0 by omega,not_false_eq_true,if_true]
    ·rw[Zi t16];simp only[Zb,Zd,QF,t16,false_and,if_false]
  ·rw[Zx l0,Zc l0];have l0':l=0:=by omega
   subst l0';by_cases t32:t%32=0
   ·rw[Zn t32,Zi (show t%16≠15 by omega)];simp only[Zb,Zd,QF,t32,true_and,show¬t%16=15 by omega,false_and,if_false,Int.lt_irrefl]
   ·rw[Zi t32];by_cases t16:t%16=15
    ·rw[Zn t16,Zn (show (0:Int)=0 from rfl)];simp only[Zb,Zd,ZK,t32,t16,true_and,ne_eq,not_true_eq_false,false_and,and_false,if_false]
    ·rw[Zi t16];simp only[Zb,Zd,QF,t32,t16,false_and,if_false]
 ·rw[Zi c0,Zc c0];by_cases l0:0<l
  ·rw[Zk l0];by_cases t32:t%32=0
   ·rw[Zn t32,Zi (show t%16≠15 by omega)];simp only[Zb,Zd,t32,l0,true_and,if_true,show¬t%16=15 by omega,false_and,if_false,QF];cases irq<;>cases eqI (l-1) 0<;>rfl
   ·rw[Zi t32];simp only[Zb,Zd,t32,false_and,if_false];by_cases t16:t%16=15
    ·rw[Zn t16,Zi (show l≠0 by omega)];simp only[Zb,Zd,ZK,t16,true_and,ne_eq,show¬l=0 by omega,not_false_eq_true,if_true]
    ·rw[Zi t16];simp only[Zb,Zd,QF,t16,false_and,if_false]
  ·rw[Zx l0];have l0':l=0:=by omega
   subst l0';by_cases t32:t%32=0
   ·rw[Zn t32,Zi (show t%16≠15 by omega)];simp only[Zb,Zd,QF,t32,true_and,show¬t%16=15 by omega,false_and,if_false,Int.lt_irrefl]
   ·rw[Zi t32];by_cases t16:t%16=15
    ·rw[Zn t16,Zn (show (0:Int)=0 from rfl)];simp only[Zb,Zd,ZK,t32,t16,true_and,ne_eq,not_true_eq_false,false_and,and_false,if_false]
    ·rw[Zi t16];simp only[Zb,Zd,QF,t32,t16,false_and,if_false]
theorem Zb7 (a:Qq) (h:Yl a) (reg v:Int):r170 (a.t,(reg,(v,())))=some (((KL a reg v).t,()),()):=by
 unfold r170 m170 KL;refine Za (by rw[Za3 a.t,Wu.2 h]) ?_;simp only[ZK,Zd,QY,Zo,Qq.t];rw[Qw (show 0≤v%256 by omega),Qw (show 0≤v%256 by omega)];by_cases c:reg=0
 ·rw[Zn c,Ze c];rfl
 rw[Zi c,Zc c,Zd];by_cases c:reg=1
 ·rw[Zn c,Ze c];rfl
 rw[Zi c,Zc c,Zd];by_cases c:reg=2
 ·rw[Zn c,Ze c];cases a.irq<;>rfl
 rw[Zi c,Zc c,Zd];by_cases c:reg=3
 ·rw[Zn c,Ze c];rfl
 rw[Zi c,Zc c,Zd]
theorem ZbX (a:Qq) (h:Yl a) (reg v:Int):r246 (a.t,(reg,(v,())))=some (((KL a reg v).t,()),()):=by
 unfold r246 m246 KL;refine Za (by rw[ZaU a.t,Wu.2 h]) ?_;simp only[ZK,Zd,Xl,Zo,Qq.t];rw[Qw (show 0≤v%256 by omega),Qw (show 0≤v%256 by omega)];by_cases c:reg=0
 ·rw[Zn c,Ze c];rfl
 rw[Zi c,Zc c,Zd];by_cases c:reg=1
 ·rw[Zn c,Ze c];rfl
 rw[Zi c,Zc c,Zd];by_cases c:reg=2
 ·rw[Zn c,Ze c];cases a.irq<;>rfl
 rw[Zi c,Zc c,Zd];by_cases c:reg=3
 ·rw[Zn c,Ze c];rfl
 rw[Zi c,Zc c,Zd]
theorem ZcI (a:Qq) (h:Yl a) (reg:Int):r283 (a.t,(reg,()))=some (((YT a reg).t,(KG a reg,())),()):=by
 unfold r283 m283 YT KG;refine Za (by rw[Za3 a.t,Wu.2 h]) ?_;have f1:=XQ a.irq;have f2:=XQ (ltI 0 a.len);simp only[ZK,Zd,Zdo,Zo,Qq.t];rw[Zt (x:=128*QU a.irq) (by omega) (by omega),Zt (x:=128*QU a.irq+QU (ltI 0 a.len)) (by omega) (by omega)];by_cases c:reg=2
 ·rw[Q2 c,Ze c,Ze c];rfl
 ·rw[QW c,Zc c,Zc c];rfl
theorem ZcD (a:Qq) (h:Yl a) (reg:Int):r257 (a.t,(reg,()))=some (((YT a reg).t,(KG a reg,())),()):=by
 unfold r257 m257 YT KG;have f1:=XQ a.irq;have f2:=XQ (ltI 0 a.len);by_cases c:reg=2
 ·rw[Q2 c,Ze c,Ze c];refine Za (by rw[ZaU a.t,Wu.2 h]) ?_;simp only[ZK,Zd,Zfw,Zo,Qq.t];rw[Zt (x:=128*QU a.irq) (by omega) (by omega),Zt (x:=128*QU a.irq+QU (ltI 0 a.len)) (by omega) (by omega)]
 ·rw[QW c,Zc c,Zc c];rfl
theorem Zfq {n:Int} (h: ¬(0≤n∧n≤29)): ∀c:Int,0≤c→c≤29→eqI n c=false:=fun c h0 h1=>Zi (by omega)
theorem ZaX {n:Int} (h: ¬(0≤n∧n≤29)):K5 n=false:=Zw (by omega)
theorem Zd9 {n:Int} (h: ¬(0≤n∧n≤29)):Zhl n=false:=Zw (by omega)
theorem Zgf {n:Int} (h:K5 n=false) (c:Zp) (arg v:Int):KH c n arg v=c:=by
 have h: ¬(n=1∨n=2∨n=14∨n=4∨n=29∨n=5∨n=6∨n=7∨n=8∨n=9):=of_decide_eq_false h;unfold KH;rw[Zc (by omega),Zc (by omega),Zc (by omega),Zc (by omega),Zc (by omega),Zc (by omega),Zc (by omega),Zc (by omega),Zc (by omega)]
theorem ZjT {n:Int} (h:Zhl n=false) (c:Zp):US c n=c:=by
 have h: ¬(n=10∨n=11∨n=12∨n=13∨n=25∨n=26∨n=27∨n=28):=of_decide_eq_false h;unfold US;rw[Zc (by omega),Zc (by omega),Zc (by omega),Zc (by omega),Zc (by omega),Zc (by omega),Zc (by omega),Zc (by omega)]
theorem Zom (a b:Int):Y8 a b true=a%256-b%256:=by unfold Y8 QU;simp
theorem Zqh (c:Zp) (b:Int):Zrc c b={c with z:=eqI (Y8 c.a b true%256%256) 0,n:=ltI 127 (Y8 c.a b true%256%256),c:=leI 0 (Y8 c.a b true)}:=by
 unfold Zrc;rw[Zom,Int.emod_emod];have:leI (b%256) (c.a%256)=leI 0 (c.a%256-b%256):=by
  by_cases h:b%256≤c.a%256
  ·rw[Zq h,Zq (by omega)]
  ·rw[J0 h,J0 (by omega)]
 rw[this]
theorem Zn3 (c:Zp) (op arg v:Int):r261 (c.t,((op,(arg,())),(v,())))=some ((K5 op,()),((KH c op arg v).t,())):=by
 by_cases h:0≤op∧op≤29
 ·unfold r261 m261;rcases Ka h with rfl|rfl|rfl|rfl|rfl|rfl|rfl|rfl|rfl|rfl|rfl|rfl|rfl|rfl|rfl|rfl|rfl|rfl|rfl|rfl|rfl|rfl|rfl|rfl|rfl|rfl|rfl|rfl|rfl|rfl<;>simp only[Qn,Int.reduceEq,decide_true,decide_false,Zb,Zd]
  ·rfl
  ·exact Za (K4 c arg) rfl
  ·exact Za (K4 c v) rfl
  ·rfl
  ·exact Za (ZfE (c.a,(arg,(c.c,())))) (Za (K4 c (KT c.a arg c.c%256)) rfl)
  ·exact Za (ZfO (c.a,(arg,(c.c,())))) (Za (K4 c (Y8 c.a arg c.c%256)) rfl)
  ·exact Za (K4 c (ZN .i64 c.a arg)) rfl
  ·exact Za (K4 c (bOr .i64 c.a arg)) rfl
  ·exact Za (K4 c (YD .i64 c.a arg)) rfl
  ·rw[show KH c 9 arg v=Zrc c arg from rfl,Zqh];exact Za (ZfO (c.a,(arg,(true,())))) (Za (Zb1 (Y8 c.a arg true%256,())) rfl)
  ·rfl
  ·rfl
  ·rfl
  ·rfl
  ·exact Za (K4 c v) rfl
  ·rfl
  ·rfl
  ·rfl
  ·rfl
  ·rfl
  ·rfl
  ·rfl
  ·rfl
  ·rfl
  ·rfl
  ·rfl
  ·rfl
  ·rfl
  ·rfl
  ·exact Za (ZfE (c.a,(v,(c.c,())))) (Za (K4 c (KT c.a v c.c%256)) rfl)
 ·have e:=Zfq h;unfold r261 m261;rw[ZaX h,Zgf (ZaX h)];simp[e]
theorem ZqY (c:Zp) (op arg:Int) (hc:ZM c):r262 (c.t,((op,(arg,())),()))=some ((Zhl op,()),((US c op).t,())):=by
 have hx:=hc.x;by_cases h:0≤op∧op≤29
 ·unfold r262 m262;rcases Ka h with rfl|rfl|rfl|rfl|rfl|rfl|rfl|rfl|rfl|rfl|rfl|rfl|rfl|rfl|rfl|rfl|rfl|rfl|rfl|rfl|rfl|rfl|rfl|rfl|rfl|rfl|rfl|rfl|rfl|rfl<;>simp only[Qn,Int.reduceEq,decide_true,decide_false,Zb,Zd]
  ·rfl
  ·rfl
  ·rfl
  ·rfl
  ·rfl
  ·rfl
  ·rfl
  ·rfl
  ·rfl
  ·rfl
  ·exact Za (ZcS c c.a) rfl
  ·exact Za (K4 c c.x) rfl
  ·have e:wI (c.x+1)=c.x+1:=Zt (by omega) (by omega);have k:=ZcS c (c.x+1);rw[←e]at k;refine Za k ?_;rw[e];rfl
  ·have e:wI (c.x-1)=c.x-1:=Zt (by omega) (by omega);have k:=ZcS c (c.x-1);rw[←e]at k;refine Za k ?_;rw[e];rfl
  ·rfl
  ·rfl
  ·rfl
  ·rfl
  ·rfl
  ·rfl
  ·rfl
  ·rfl
  ·rfl
  ·rfl
  ·rfl
  ·rfl
  ·rfl
  ·rfl
  ·rfl
  ·rfl
 ·have e:=Zfq h;unfold r262 m262;rw[Zd9 h,ZjT (Zd9 h)];simp[e]
theorem ZmR (x:ZF) (c:Zp) (h:JJ x) (hc:ZM c):r308 (x.t,(c.t,()))=some ((),(x.t,((ZmP x c).t,()))):=by
 unfold r308 m308;exact Za (Zbw x c h hc) (Za (Zbw x (Yu c) h (WS hc)) (Za (Zak (Yd x c,(Yd x (Yu c),()))) rfl))
theorem Zjt (x:ZF) (c:Zp) (h:JJ x) (hc:ZM c):r253 (x.t,(c.t,()))=some ((),((UJ x c).t,((Wa c).t,()))):=by
 unfold r253 m253;refine Za (Zbx x c (shr8 c.pc) h hc) (Za (Zbx (Kd x c (shr8 c.pc)) (Kc c) c.pc (UI h _ _) (UH hc)) rfl)
theorem Zqv (x:ZF) (c:Zp) (op arg:Int) (h:JJ x) (hc:ZM c):r263 (x.t,(c.t,((op,(arg,())),())))=some ((),((K1 x c op).t,((WC x c op arg).t,()))):=by
 unfold r263 m263;refine Za (ZaK (arg,())) ?_;by_cases ho:0≤op∧op≤29
 ·rcases Ka ho with rfl|rfl|rfl|rfl|rfl|rfl|rfl|rfl|rfl|rfl|rfl|rfl|rfl|rfl|rfl|rfl|rfl|rfl|rfl|rfl|rfl|rfl|rfl|rfl|rfl|rfl|rfl|rfl|rfl|rfl<;>simp only[Qn,Int.reduceEq,decide_true,decide_false,Zb,Zd]
  ·rfl
  ·rfl
  ·rfl
  ·rfl
  ·rfl
  ·rfl
  ·rfl
  ·rfl
  ·rfl
  ·rfl
  ·rfl
  ·rfl
  ·rfl
  ·rfl
  ·rfl
  ·rfl
  ·obtain ⟨a,x',s,pc,z,n,cc,i⟩:=c;cases z<;>rfl
  ·obtain ⟨a,x',s,pc,z,n,cc,i⟩:=c;cases z<;>rfl
  ·obtain ⟨a,x',s,pc,z,n,cc,i⟩:=c;cases cc<;>rfl
  ·rfl
  ·exact Za (Zjt x c h hc) rfl
  ·exact Za (ZmR x c h hc) rfl
  ·exact Za (Zbx x c c.a h hc) rfl
  ·exact Za (Zbw x c h hc) (Za (K4 (Yu c) (Yd x c)) rfl)
  ·exact Za (Zbw x c h hc) (Za (ZeR (Yu c) (Yd x c)) (Za (ZmR x (wfT (Yu c) (Yd x c)) h (Zq0 (WS hc))) rfl))
  ·rfl
  ·rfl
  ·rfl
  ·rfl
  ·rfl
 ·have e:=Zfq ho;have e1:K1 x c op=x:=by
   unfold K1;rw[Zc (by omega),Zc (by omega)]
  have e2:WC x c op arg=c:=by
   unfold WC;rw[Zc (by omega),Zc (by omega),Zc (by omega),Zc (by omega),Zc (by omega),Zc (by omega),Zc (by omega),Zc (by omega),Zc (by omega)]
  rw[e1,e2];simp[e]
theorem ZpQ {c:Zp} (hc:ZM c) (op:Int):wI (c.pc+Qf op)=c.pc+Qf op:=by
 have:=Zpg op;have:=hc.pc;exact Zt (by omega) (by omega)
theorem ZiW {op:Int} (h:(K5 op||Zhl op)=true) (x:ZF) (c:Zp):K1 x c op=x:=by
 have h:(op=1∨op=2∨op=14∨op=4∨op=29∨op=5∨op=6∨op=7∨op=8∨op=9)∨(op=10∨op=11∨op=12∨op=13∨op=25∨op=26∨op=27∨op=28):=by
  rw[Bool.or_eq_true]at h;exact h.imp of_decide_eq_true of_decide_eq_true
 unfold K1;rw[Zc (by omega),Zc (by omega)]
theorem Zd1 (x:ZF) (c:Zp) (op arg v:Int) (h:JJ x) (hc:ZM c) (hv:0≤v∧v≤255):r201 (x.t,(c.t,((op,(arg,())),(v,()))))=some ((),((VZ x c op).t,((WA x c op arg v).t,()))):=by
 unfold r201 m201;have hp:=ZdN (op:=op) hc;have ev:v%256=v:=by omega
 have k1:r252 (wI (c.pc+Qf op),())=some (((c.pc+Qf op)%65536,()),()):=by
  rw[ZaK (wI (c.pc+Qf op),()),ZpQ hc]
 have k2:r242 (v,())=some ((v,()),()):=by
  rw[Xl (v,())];show some ((v%256,()),())=_;rw[ev]
 refine Za (ZaW (op,())) (Za k1 (Za k2 (Za (Zn3 (Jj c op) op arg v) ?_)));unfold VZ WA;cases hr:K5 op with
 |true=>
  rw[ZiW (by rw[hr];rfl)];rfl
 |false=>
  rw[Zgf hr];refine Za (ZqY (Jj c op) op arg hp) ?_;cases ht:Zhl op with
  |true=>
   rw[ZiW (by rw[ht,Bool.or_true])];rfl
  |false=>
   rw[ZjT ht];exact Za (Zqv x (Jj c op) op arg h hp) rfl
def JF (op:Int):Bool:=decide (op=1∨op=2∨op=14∨op=4∨op=29∨op=5∨op=6∨op=7∨op=8∨op=9∨op=10∨op=11∨op=12∨op=13)
def YC (c:Zp) (op arg v:Int):Zp:=if K5 op then KH c op arg v else if JF op then US c op else c
theorem Zgk {c:Zp} {u v:Int} (h:u%256=v%256):YI c u=YI c v:=by unfold YI;rw[h]
theorem Zk4 (c:Zp) (v:Int):r328 (c.t,(v,()))=some (((ZrI c v).t,()),()):=by
 unfold r328 m328;exact Za (Zky (c.a,(v,(c.c,())))) (Za (VN c (KT c.a v c.c%256)) rfl)
theorem ZqA (c:Zp) (arg v:Int) (hc:ZM c):r287 (c.t,(((6:Int),(arg,())),(v,())))=some (((YC c 6 arg v).t,(JF 6,())),()):=by
 have hx:=hc.x;unfold r287 m287;dsimp only;rw[Zi (show (6:Int)≠1 by decide),Zd,Zi (show (6:Int)≠2 by decide),Zd,Zi (show (6:Int)≠14 by decide),Zd,Zi (show (6:Int)≠4 by decide),Zd,Zi (show (6:Int)≠29 by decide),Zd,Zi (show (6:Int)≠5 by decide),Zd,Zn (show (6:Int)=6 from rfl),Zb];rw[show YC c 6 arg v=YI c (ZN .i64 c.a arg) by simp[YC,KH,K5],show JF 6=true from rfl,Zgk (ZmN c.a arg).symm];exact Za (QY (c.a,())) (Za (QY (arg,())) (Za (VN c (ZN .i64 (c.a%256) (arg%256))) rfl))
theorem ZqB (c:Zp) (arg v:Int) (hc:ZM c):r287 (c.t,(((7:Int),(arg,())),(v,())))=some (((YC c 7 arg v).t,(JF 7,())),()):=by
 have hx:=hc.x;unfold r287 m287;dsimp only;rw[Zi (show (7:Int)≠1 by decide),Zd,Zi (show (7:Int)≠2 by decide),Zd,Zi (show (7:Int)≠14 by decide),Zd,Zi (show (7:Int)≠4 by decide),Zd,Zi (show (7:Int)≠29 by decide),Zd,Zi (show (7:Int)≠5 by decide),Zd,Zi (show (7:Int)≠6 by decide),Zd,Zn (show (7:Int)=7 from rfl),Zb];rw[show YC c 7 arg v=YI c (bOr .i64 c.a arg) by simp[YC,KH,K5],show JF 7=true from rfl,Zgk (ZoL c.a arg).symm];exact Za (QY (c.a,())) (Za (QY (arg,())) (Za (VN c (bOr .i64 (c.a%256) (arg%256))) rfl))
theorem ZqC (c:Zp) (arg v:Int) (hc:ZM c):r287 (c.t,(((8:Int),(arg,())),(v,())))=some (((YC c 8 arg v).t,(JF 8,())),()):=by
 have hx:=hc.x;unfold r287 m287;dsimp only;rw[Zi (show (8:Int)≠1 by decide),Zd,Zi (show (8:Int)≠2 by decide),Zd,Zi (show (8:Int)≠14 by decide),Zd,Zi (show (8:Int)≠4 by decide),Zd,Zi (show (8:Int)≠29 by decide),Zd,Zi (show (8:Int)≠5 by decide),Zd,Zi (show (8:Int)≠6 by decide),Zd,Zi (show (8:Int)≠7 by decide),Zd,Zn (show (8:Int)=8 from rfl),Zb];rw[show YC c 8 arg v=YI c (YD .i64 c.a arg) by simp[YC,KH,K5],show JF 8=true from rfl,Zgk (ZmO c.a arg).symm];exact Za (QY (c.a,())) (Za (QY (arg,())) (Za (VN c (YD .i64 (c.a%256) (arg%256))) rfl))
theorem ZqD (c:Zp) (arg v:Int) (hc:ZM c):r287 (c.t,(((9:Int),(arg,())),(v,())))=some (((YC c 9 arg v).t,(JF 9,())),()):=by
 have hx:=hc.x;unfold r287 m287;dsimp only;rw[Zi (show (9:Int)≠1 by decide),Zd,Zi (show (9:Int)≠2 by decide),Zd,Zi (show (9:Int)≠14 by decide),Zd,Zi (show (9:Int)≠4 by decide),Zd,Zi (show (9:Int)≠29 by decide),Zd,Zi (show (9:Int)≠5 by decide),Zd,Zi (show (9:Int)≠6 by decide),Zd,Zi (show (9:Int)≠7 by decide),Zd,Zi (show (9:Int)≠8 by decide),Zd,Zn (show (9:Int)=9 from rfl),Zb];have e:wI (c.a%256-arg%256)=c.a%256-arg%256:=Zt (by omega) (by omega);have k:r330 (wI (c.a%256-arg%256),())=some ((eqI ((c.a%256-arg%256)%256) 0,(ltI 127 ((c.a%256-arg%256)%256),())),()):=by rw[e];exact Zcd (c.a%256-arg%256,())
 rw[show YC c 9 arg v=Zrc c arg by simp[YC,KH,K5],show JF 9=true from rfl];exact Za (QY (c.a,())) (Za (QY (arg,())) (Za k (Za (QY (c.a,())) (Za (QY (arg,())) rfl))))
theorem Zo6 (c:Zp) (arg v:Int) (hc:ZM c):r287 (c.t,(((12:Int),(arg,())),(v,())))=some (((YC c 12 arg v).t,(JF 12,())),()):=by
 have hx:=hc.x;unfold r287 m287;simp only[Qn,Int.reduceEq,decide_true,decide_false,Zb,Zd];have e:wI (c.x%256+1)=c.x+1:=by rw[Zt (by omega) (by omega)];omega
 have k:r331 (c.t,(wI (c.x%256+1),()))=some (((VI c (c.x+1)).t,()),()):=by rw[e];exact ZcZ c (c.x+1)
 rw[show YC c 12 arg v=VI c (c.x+1)from rfl,show JF 12=true from rfl];exact Za (QY (c.x,())) (Za k rfl)
theorem Zo7 (c:Zp) (arg v:Int) (hc:ZM c):r287 (c.t,(((13:Int),(arg,())),(v,())))=some (((YC c 13 arg v).t,(JF 13,())),()):=by
 have hx:=hc.x;unfold r287 m287;simp only[Qn,Int.reduceEq,decide_true,decide_false,Zb,Zd];have e:wI (c.x%256-1)=c.x-1:=by rw[Zt (by omega) (by omega)];omega
 have k:r331 (c.t,(wI (c.x%256-1),()))=some (((VI c (c.x-1)).t,()),()):=by rw[e];exact ZcZ c (c.x-1)
 rw[show YC c 13 arg v=VI c (c.x-1)from rfl,show JF 13=true from rfl];exact Za (QY (c.x,())) (Za k rfl)
theorem Zo8 (c:Zp) (op arg v:Int) (hc:ZM c):r287 (c.t,((op,(arg,())),(v,())))=some (((YC c op arg v).t,(JF op,())),()):=by
 by_cases h:0≤op∧op≤29
 ·rcases Ka h with rfl|rfl|rfl|rfl|rfl|rfl|rfl|rfl|rfl|rfl|rfl|rfl|rfl|rfl|rfl|rfl|rfl|rfl|rfl|rfl|rfl|rfl|rfl|rfl|rfl|rfl|rfl|rfl|rfl|rfl
  ·unfold r287 m287;simp only[Qn,Int.reduceEq,decide_true,decide_false,Zb,Zd];rfl
  ·unfold r287 m287;simp only[Qn,Int.reduceEq,decide_true,decide_false,Zb,Zd];exact Za (VN c arg) rfl
  ·unfold r287 m287;simp only[Qn,Int.reduceEq,decide_true,decide_false,Zb,Zd];exact Za (VN c v) rfl
  ·unfold r287 m287;simp only[Qn,Int.reduceEq,decide_true,decide_false,Zb,Zd];rfl
  ·unfold r287 m287;simp only[Qn,Int.reduceEq,decide_true,decide_false,Zb,Zd];exact Za (Zk4 c arg) rfl
  ·unfold r287 m287;simp only[Qn,Int.reduceEq,decide_true,decide_false,Zb,Zd];exact Za (ZkC (c.a,(arg,(c.c,())))) (Za (VN c (Y8 c.a arg c.c%256)) rfl)
  ·exact ZqA c arg v hc
  ·exact ZqB c arg v hc
  ·exact ZqC c arg v hc
  ·exact ZqD c arg v hc
  ·unfold r287 m287;simp only[Qn,Int.reduceEq,decide_true,decide_false,Zb,Zd];exact Za (ZcZ c c.a) rfl
  ·unfold r287 m287;simp only[Qn,Int.reduceEq,decide_true,decide_false,Zb,Zd];exact Za (VN c c.x) rfl
  ·exact Zo6 c arg v hc
  ·exact Zo7 c arg v hc
  ·unfold r287 m287;simp only[Qn,Int.reduceEq,decide_true,decide_false,Zb,Zd];exact Za (VN c v) rfl
  ·unfold r287 m287;simp only[Qn,Int.reduceEq,decide_true,decide_false,Zb,Zd];rfl
  ·unfold r287 m287;simp only[Qn,Int.reduceEq,decide_true,decide_false,Zb,Zd];rfl
  ·unfold r287 m287;simp only[Qn,Int.reduceEq,decide_true,decide_false,Zb,Zd];rfl
  ·unfold r287 m287;simp only[Qn,Int.reduceEq,decide_true,decide_false,Zb,Zd];rfl
  ·unfold r287 m287;simp only[Qn,Int.reduceEq,decide_true,decide_false,Zb,Zd];rfl
  ·unfold r287 m287;simp only[Qn,Int.reduceEq,decide_true,decide_false,Zb,Zd];rfl
  ·unfold r287 m287;simp only[Qn,Int.reduceEq,decide_true,decide_false,Zb,Zd];rfl
  ·unfold r287 m287;simp only[Qn,Int.reduceEq,decide_true,decide_false,Zb,Zd];rfl
  ·unfold r287 m287;simp only[Qn,Int.reduceEq,decide_true,decide_false,Zb,Zd];rfl
  ·unfold r287 m287;simp only[Qn,Int.reduceEq,decide_true,decide_false,Zb,Zd];rfl
  ·unfold r287 m287;simp only[Qn,Int.reduceEq,decide_true,decide_false,Zb,Zd];rfl
  ·unfold r287 m287;simp only[Qn,Int.reduceEq,decide_true,decide_false,Zb,Zd];rfl
  ·unfold r287 m287;simp only[Qn,Int.reduceEq,decide_true,decide_false,Zb,Zd];rfl
  ·unfold r287 m287;simp only[Qn,Int.reduceEq,decide_true,decide_false,Zb,Zd];rfl
  ·unfold r287 m287;simp only[Qn,Int.reduceEq,decide_true,decide_false,Zb,Zd];exact Za (Zk4 c v) rfl
 ·have e:=Zfq h;have ea:JF op=false:=Zw (by omega);unfold r287 m287 YC;rw[ZaX h,ea];simp[e]
theorem Zja (x:ZF) (c:Zp) (h:JJ x) (hc:ZM c):r288 (x.t,(c.t,()))=some (((ZmP x c).t,()),()):=by
 unfold r288 m288;exact Za (ZbK x c h hc) (Za (ZbK x (Yu c) h (WS hc)) (Za (ZaP (Yd x c,(Yd x (Yu c),()))) rfl))
theorem Zan (x:ZF) (c:Zp) (op arg v:Int) (h:JJ x) (hc:ZM c):r236 (x.t,(c.t,((op,(arg,())),(v,()))))=some (((VZ x c op).t,((WA x c op arg v).t,())),()):=by
 unfold r236 m236;have hp:=ZdN (op:=op) hc;have k1:r222 (wI (c.pc+Qf op),())=some (((c.pc+Qf op)%65536,()),()):=by
  rw[VM (wI (c.pc+Qf op),()),ZpQ hc]
 refine Za (Zdq x h.len) (Za (Za5 (op,())) (Za k1 (Za (Zo8 (Jj c op) op arg v hp) ?_)));unfold VZ WA;have hz: ∀{a b:Zp},a=b→a.z=b.z:=fun h=>by rw[h]
 by_cases ho:0≤op∧op≤29
 ·rcases Ka ho with rfl|rfl|rfl|rfl|rfl|rfl|rfl|rfl|rfl|rfl|rfl|rfl|rfl|rfl|rfl|rfl|rfl|rfl|rfl|rfl|rfl|rfl|rfl|rfl|rfl|rfl|rfl|rfl|rfl|rfl<;>simp only[Qn,Int.reduceEq,decide_true,decide_false,Zb,Zd]
  ·rfl
  ·rfl
  ·rfl
  ·rfl
  ·rfl
  ·rfl
  ·rfl
  ·rfl
  ·rfl
  ·rfl
  ·rfl
  ·rfl
  ·rfl
  ·rfl
  ·rfl
  ·rfl
  ·rw[show JF 16=false from rfl,Zd];obtain ⟨a,x',s,pc,z,n,cc,i⟩:=c;cases z<;>simp only[Zp.t,QF,ZK,Zb,Zd]
   ·exact Za (VM (arg,())) rfl
   ·rfl
  ·rw[show JF 17=false from rfl,Zd];obtain ⟨a,x',s,pc,z,n,cc,i⟩:=c;cases z<;>simp only[Zp.t,QF,ZK,Zb,Zd]
   ·rfl
   ·exact Za (VM (arg,())) rfl
  ·rw[show JF 18=false from rfl,Zd];obtain ⟨a,x',s,pc,z,n,cc,i⟩:=c;cases cc<;>simp only[Zp.t,QF,ZK,Zb,Zd]
   ·rfl
   ·exact Za (VM (arg,())) rfl
  ·rw[show JF 19=false from rfl,Zd];exact Za (VM (arg,())) rfl
  ·rw[show JF 20=false from rfl,Zd];exact Za (Zap x (Jj c 20) (shr8 (Jj c 20).pc) h hp) (Za (Zap (Kd x (Jj c 20) (shr8 (Jj c 20).pc)) (Kc (Jj c 20)) (Jj c 20).pc (UI h _ _) (UH hp)) (Za (VM (arg,())) rfl))
  ·rw[show JF 21=false from rfl,Zd];exact Za (Zja x (Jj c 21) h hp) rfl
  ·rw[show JF 22=false from rfl,Zd];exact Za (Zap x (Jj c 22) (Jj c 22).a h hp) rfl
  ·rw[show JF 23=false from rfl,Zd];exact Za (ZbK x (Jj c 23) h hp) (Za (VN (Yu (Jj c 23)) (Yd x (Jj c 23))) rfl)
  ·rw[show JF 24=false from rfl,Zd];exact Za (ZbK x (Jj c 24) h hp) (Za (ZeU (Yu (Jj c 24)) (Yd x (Jj c 24))) (Za (Zja x (wfT (Yu (Jj c 24)) (Yd x (Jj c 24))) h (Zq0 (WS hp))) rfl))
  ·rfl
  ·rfl
  ·rfl
  ·rfl
  ·rfl
 ·have e:=Zfq ho;have ea:JF op=false:=Zw (by omega);have e1:K1 x (Jj c op) op=x:=by
   unfold K1;rw[Zc (by omega),Zc (by omega)]
  have e2:WC x (Jj c op) op arg=Jj c op:=by
   unfold WC;rw[Zc (by omega),Zc (by omega),Zc (by omega),Zc (by omega),Zc (by omega),Zc (by omega),Zc (by omega),Zc (by omega),Zc (by omega)]
  rw[e1,e2,ZaX ho,Zd9 ho,ea];simp[e];rfl
theorem ZkS (x:ZF) (c:Zp) (to:Int) (h:JJ x) (hc:ZM c):r197 (x.t,(c.t,(to,())))=some ((),((XP x c).t,((ZiQ c to).t,()))):=by
 unfold r197 m197;exact Za (Zjt x c h hc) (Za (Zi0 (Wa c)) (Za (Zbx (UJ x c) (Wa c) (Uq (Wa c)) (Zdy h) (Zdx hc)) rfl))
theorem ZlE {f:List (List Int)} {x y:ZF} {v:Int} (hv:65530≤v∧v≤65535):ZQ f x v=ZQ f y v:=by
 have e:(rgT v).1=6:=by
  unfold rgT;simp only;rw[show v%65536=v by omega,Zc (by omega),Zc (by omega),Zc (by omega),Zc (by omega),Zc (by omega),Zc (by omega)]
 unfold ZQ;rw[e,Zc (by decide),Zc (by decide),Ze rfl,Zc (by decide),Zc (by decide)]
theorem ZpD {f:List (List Int)} {x y:ZF} {v:Int} (hv:65530≤v∧v≤65534):Ve f x v=Ve f y v:=by
 unfold Ve;rw[ZlE (x:=x) (y:=y) (v:=v) (by omega),ZlE (x:=x) (y:=y) (v:=v+1) (by omega)]
theorem Zav (f:List (List Int)) (x:ZF) (c:Zp) (v:Int) (h:Jz f x) (hc:ZM c) (hv:65530≤v∧v≤65534):
  r232 ((f,()),(x.t,(c.t,(v,()))))=some (((XP x c).t,((ZiQ c (Ve f x v)).t,())),()):=by
 have hm:Jz f (XP x c):=h.of_ram (Zh0 h.ram) rfl;have e:wI (v+1)=v+1:=Zt (by omega) (by omega);have k:=Zao f (XP x c) (v+1) hm;rw[←e]at k;unfold r232 m232;refine Za (Zdq x h.ram.len) (Za (ZjD c) (Za (Zap x c (shr8 c.pc) h.ram hc) (Za (Zap (Kd x c (shr8 c.pc)) (Kc c) c.pc (UI h.ram _ _) (UH hc))
  (Za (Zap (UJ x c) (Wa c) (Uq c) (Zdy h.ram) (Zdx hc)) (Za (Zao f (XP x c) v hm) (Za k (Za (ZaP (ZQ f (XP x c) v,(ZQ f (XP x c) (wI (v+1)),()))) ?_)))))))
 rw[ZpD (x:=x) (y:=XP x c) hv];unfold Ve;rw[e];rfl
theorem ZnN {f:List (List Int)} {x:ZF} {pc:Int} (h:Jz f x) (hp:0≤pc∧pc≤65535) (k:Int) (hk:k=1∨k=2):r198 ((f,()),(x.t,(wI (pc+k),())))=some ((ZQ f x (pc+k),()),()):=by
 rw[Zt (by omega) (by omega)];exact V2 f x (pc+k) h
theorem ZnO {f:List (List Int)} {x:ZF} {pc:Int} (h:Jz f x) (hp:0≤pc∧pc≤65535) (k:Int) (hk:k=1∨k=2):r144 ((f,()),(x.t,(wI (pc+k),())))=some ((ZQ f x (pc+k),()),()):=by
 rw[Zt (by omega) (by omega)];exact Zao f x (pc+k) h
theorem Zcm (f:List (List Int)) (x:ZF) (pc:Int) (h:Jz f x) (hp:0≤pc∧pc≤65535):r191 ((f,()),(x.t,(pc,())))=some (((opT f x pc,(VU f x pc,())),()),()):=by
 unfold r191 m191;refine Za (V2 f x pc h) (Za (ZaW (ZQ f x pc,())) ?_);show (bif eqI (Qf (ZQ f x pc)) 2 then _ else bif eqI (Qf (ZQ f x pc)) 3 then _ else _)=_
 unfold VU opT;by_cases c2:Qf (ZQ f x pc)=2
 ·rw[Zn c2,Ze c2];exact Za (ZnN h hp 1 (.inl rfl)) rfl
 rw[Zi c2,Zc c2,Zd];by_cases c3:Qf (ZQ f x pc)=3
 ·rw[Zn c3,Ze c3];exact Za (ZnN h hp 1 (.inl rfl)) (Za (ZnN h hp 2 (.inr rfl)) (Za (Zak (ZQ f x (pc+1),(ZQ f x (pc+2),()))) rfl))
 ·rw[Zi c3,Zc c3];rfl
theorem Zaw (f:List (List Int)) (x:ZF) (pc:Int) (h:Jz f x) (hp:0≤pc∧pc≤65535):r157 ((f,()),(x.t,(pc,())))=some (((opT f x pc,(VU f x pc,())),()),()):=by
 unfold r157 m157;refine Za (Zao f x pc h) (Za (Za5 (ZQ f x pc,())) ?_);show (bif eqI (Qf (ZQ f x pc)) 2 then _ else bif eqI (Qf (ZQ f x pc)) 3 then _ else _)=_
 unfold VU opT;by_cases c2:Qf (ZQ f x pc)=2
 ·rw[Zn c2,Ze c2];exact Za (ZnO h hp 1 (.inl rfl)) rfl
 rw[Zi c2,Zc c2,Zd];by_cases c3:Qf (ZQ f x pc)=3
 ·rw[Zn c3,Ze c3];exact Za (ZnO h hp 1 (.inl rfl)) (Za (ZnO h hp 2 (.inr rfl)) (Za (ZaP (ZQ f x (pc+1),(ZQ f x (pc+2),()))) rfl))
 ·rw[Zi c3,Zc c3];rfl
theorem ZbC (op:Int):ZS op=0∨ZS op=1∨ZS op=2:=by
 unfold ZS;split
 ·exact .inr (.inl rfl)
 split
 ·exact .inr (.inr rfl)
 ·exact .inl rfl
theorem Zaz (op arg:Int) (c:Zp) (hc:ZM c) (ha:0≤arg∧arg≤65535):r192 ((op,(arg,())),(c.t,()))=some ((ZS op,(QZ op arg c.x,(YY op c.a,()))),()):=by
 have hx:=hc.x;have e:wI (arg+c.x)=arg+c.x:=Zt (by omega) (by omega);have k:r252 (wI (arg+c.x),())=some (((arg+c.x)%65536,()),()):=by rw[ZaK (wI (arg+c.x),()),e]
 unfold r192 m192;refine Za (ZfJ (op,())) (Za (ZaK (arg,())) ?_);show (bif eqI op 14 then _ else bif eqI op 15 then _ else bif eqI (ZS op) 1 then _ else bif eqI (ZS op) 2 then _ else _)=_
 unfold QZ YY;by_cases c1:op=14
 ·subst c1;rw[Zn rfl,Zb];exact Za k rfl
 by_cases c2:op=15
 ·subst c2;rw[Zi (show (15:Int)≠14 by decide),Zn rfl,Zb,Zd];refine Za k ?_;simp only[show ZS 15=2 from rfl,Qn,Int.reduceEq,decide_true,decide_false,Zb,Zd];exact Za (Xl (c.a,())) rfl
 rw[Zi c1,Zi c2,Zd,Zd,Zc (c:=op=14∨op=15) (by omega)];rcases ZbC op with o|o|o<;>rw[o]<;>simp only[Qn,Int.reduceEq,decide_true,decide_false,Zb,Zd]
 ·rfl
 ·rfl
 ·exact Za (Xl (c.a,())) rfl
theorem Zai (op arg:Int) (c:Zp) (hc:ZM c) (ha:0≤arg∧arg≤65535):r158 ((op,(arg,())),(c.t,()))=some ((ZS op,(QZ op arg c.x,(YY op c.a,()))),()):=by
 have hx:=hc.x;have e:wI (arg+c.x)=arg+c.x:=Zt (by omega) (by omega);have k:r222 (wI (arg+c.x),())=some (((arg+c.x)%65536,()),()):=by rw[VM (wI (arg+c.x),()),e]
 unfold r158 m158;refine Za (Zgw (op,())) ?_;show (bif eqI (ZS op) 0 then _ else bif eqI op 14 then _ else bif eqI op 15 then _ else bif eqI (ZS op) 1 then _ else _)=_
 unfold QZ YY;by_cases c1:op=14
 ·subst c1;rw[show ZS 14=1 from rfl,Zi (show (1:Int)≠0 by decide),Zn (show (14:Int)=14 from rfl),Zb,Zd,Zn (show (1:Int)=1 from rfl),Zb];exact Za k rfl
 by_cases c2:op=15
 ·subst c2;rw[show ZS 15=2 from rfl,Zi (show (2:Int)≠0 by decide),Zi (show (15:Int)≠14 by decide),Zn (show (15:Int)=15 from rfl),Zb,Zd,Zd,Zi (show (2:Int)≠1 by decide),Zd];exact Za k (Za (QY (c.a,())) rfl)
 rw[Zi c1,Zi c2,Zd,Zd,Zc (c:=op=14∨op=15) (by omega)];rcases ZbC op with o|o|o<;>rw[o]<;>simp only[Qn,Int.reduceEq,decide_true,decide_false,Zb,Zd]
 ·rfl
 ·exact Za (VM (arg,())) rfl
 ·exact Za (VM (arg,())) (Za (QY (c.a,())) rfl)
theorem Zrx {t:Int} (h:0≤t):mxI t 0=t:=by unfold mxI;rw[Zc (by omega)]
theorem ZgP (t:Int) (ht:0≤t∧t≤20000):r334 (t,())=some ((t/64,()),()):=by
 unfold r334 m334;show some ((wI (Int.tdiv (mxI t 0) 64),()),())=_;rw[Zrx ht.1,W3 ht.1,Zt (by omega) (by omega)]
theorem Zk2 (a b:Int):r105 (a,(b,()))=some ((if b<a then a else b,()),()):=by
 unfold r105 m105;show (bif ltI b a then _ else _)=_
 by_cases h:b<a
 ·rw[Zk h,Ze h];rfl
 ·rw[Zx h,Zc h];rfl
theorem Zk3 (a b:Int):r104 (a,(b,()))=some ((if a<b then a else b,()),()):=by
 unfold r104 m104;show (bif ltI a b then _ else _)=_
 by_cases h:a<b
 ·rw[Zk h,Ze h];rfl
 ·rw[Zx h,Zc h];rfl
theorem Zns {t:Int} (h:0≤t):r105 (t,((0:Int),()))=some ((t,()),()):=by
 rw[Zk2];by_cases h0:0<t
 ·rw[Ze h0]
 ·rw[Zc h0,show t=0 by omega]
theorem ZgY (t:Int) (ht:0≤t∧t≤20000):r341 (t,())=some ((t/64,()),()):=by
 unfold r341 m341;refine Za (Zns ht.1) ?_;show some ((wI (Int.tdiv t 64),()),())=_;rw[W3 ht.1,Zt (by omega) (by omega)]
theorem ZeD (l:List Int) (t:Int) (h:YL l) (ht:0≤t∧t≤20000):r302 (l,(t,()))=some ((XB l t,()),()):=by
 have hl:=h.len;unfold r302 m302 XB;refine Za (by rw[Zbv l (by omega),UG.2 h]) ?_;show (bif eqI (l.length:Int) 0 then _ else _)=_
 by_cases h0:l.length=0
 ·rw[Zn (by omega),Ze h0];rfl
 rw[Zi (by omega),Zc h0,Zd];refine Za (ZgP t ht) ?_;have hm:Int.tmod (t/64) (l.length:Int)=(t/64)% (l.length:Int):=Qw (by omega);have b0:=Int.emod_nonneg (t/64) (show (l.length:Int)≠0 by omega);have b1:=Int.emod_lt_of_pos (t/64) (show 0< (l.length:Int) by omega);show (bif neI (l.length:Int) 0 then (bif leI 0 (Int.tmod (t/64) (l.length:Int))then (bif ltI (Int.tmod (t/64) (l.length:Int)) (l.length:Int)then some ((rdE .i l (Int.tmod (t/64) (l.length:Int)),()),())else none)else none)else none)=_
 rw[QW (by omega),hm,Zq b0,Zk b1];rfl
theorem ZeL (l:List Int) (t:Int) (h:YL l) (ht:0≤t∧t≤20000):r327 (l,(t,()))=some ((XB l t,()),()):=by
 have hl:=h.len;unfold r327 m327 XB;refine Za (by rw[ZbJ l (by omega),UG.2 h]) ?_;show (bif eqI (l.length:Int) 0 then _ else _)=_
 by_cases h0:l.length=0
 ·rw[Zn (by omega),Ze h0];rfl
 rw[Zi (by omega),Zc h0,Zd];refine Za (ZgY t ht) ?_;have hm:Int.tmod (t/64) (l.length:Int)=(t/64)% (l.length:Int):=Qw (by omega);have b0:=Int.emod_nonneg (t/64) (show (l.length:Int)≠0 by omega);have b1:=Int.emod_lt_of_pos (t/64) (show 0< (l.length:Int) by omega);show (bif neI (l.length:Int) 0 then (bif leI 0 (Int.tmod (t/64) (l.length:Int))then (bif ltI (Int.tmod (t/64) (l.length:Int)) (l.length:Int)then some ((rdE .i l (Int.tmod (t/64) (l.length:Int)),()),())else none)else none)else none)=_
 rw[QW (by omega),hm,Zq b0,Zk b1];rfl
theorem Zb0 (x:YB) (l:List Int) (t v:Int) (h:YL l) (ht:0≤t∧t≤20000):r259 (x.t,(l,(t,(v,()))))=some (((W6 x l t v).t,()),()):=by
 unfold r259 m259 W6;show (bif eqI (ZN .i64 v 1) 1 then (r302 (l,(t,()))).bind (fun r0=>some (((eqI (ZN .i64 v 1) 1,r0.1),()),()))else bif x.held then (r302 (l,(t,()))).bind (fun r0=>some (((eqI (ZN .i64 v 1) 1,r0.1),()),()))else some (((eqI (ZN .i64 v 1) 1,(x.shift,())),()),()))=_
 rw[UX,ZeD l t h ht];cases eqI (v%2) 1<;>cases x.held<;>rfl
theorem Zca (x:YB) (l:List Int) (t v:Int) (h:YL l) (ht:0≤t∧t≤20000):r285 (x.t,(l,(t,(v,()))))=some (((W6 x l t v).t,()),()):=by
 unfold r285 m285 W6;show (bif x.held then (r327 (l,(t,()))).bind (fun r0=>some (((eqI (ZN .i64 v 1) 1,r0.1),()),()))else bif eqI (ZN .i64 v 1) 1 then (r327 (l,(t,()))).bind (fun r0=>some (((eqI (ZN .i64 v 1) 1,r0.1),()),()))else some (((eqI (ZN .i64 v 1) 1,(x.shift,())),()),()))=_
 rw[UX,ZeL l t h ht];cases eqI (v%2) 1<;>cases x.held<;>rfl
theorem ZpP (x:Int):Int.fdiv x ((2:Int)^(Min.min (Int.toNat (1:Int)) (64:Nat)))=x/2:=Int.fdiv_eq_ediv_of_nonneg x (by decide)
theorem ZcE (x:YB) (l:List Int) (t:Int) (h:YL l) (ht:0≤t∧t≤20000):r258 (x.t,(l,(t,())))=some (((WT x l t).t,(K9 x l t,())),()):=by
 unfold r258 m258 WT K9;show (bif x.held then (r302 (l,(t,()))).bind (fun r0=>some (((true,r0.1),(ZN .i64 r0.1.1 1,())),()))else some (((false,(Int.fdiv x.shift ((2:Int)^(Min.min (Int.toNat (1:Int)) (64:Nat))),())),(ZN .i64 x.shift 1,())),()))=_
 rw[ZeD l t h ht,ZpP,UX];cases x.held
 ·rfl
 ·show some (((true,(XB l t,())),(ZN .i64 (XB l t) 1,())),())=_;rw[UX];rfl
theorem ZcK (x:YB) (l:List Int) (t:Int) (h:YL l) (ht:0≤t∧t≤20000):r284 (x.t,(l,(t,())))=some (((WT x l t).t,(K9 x l t,())),()):=by
 unfold r284 m284 WT K9;show (bif x.held then (r327 (l,(t,()))).bind (fun r0=>some (((x.held,r0.1),(ZN .i64 r0.1.1 1,())),()))else some (((x.held,(Int.fdiv x.shift ((2:Int)^(Min.min (Int.toNat (1:Int)) (64:Nat))),())),(ZN .i64 x.shift 1,())),()))=_
 rw[ZeL l t h ht,ZpP,UX];cases x.held
 ·rfl
 ·show some (((true,(XB l t,())),(ZN .i64 (XB l t) 1,())),())=_;rw[UX];rfl
theorem ZdQ (t:Int) (ht:0≤t∧t≤20000):r264 (t,())=some ((t,()),()):=by
 unfold r264 m264;show some ((mnI (mxI t 0) 20000,()),())=_;rw[Zrx ht.1];unfold mnI;rw[Zc (by omega)]
theorem Zat (t rest by':Int) (ht:0≤t∧t≤20000) (hr:0≤rest∧rest<by') (hb:by'=32∨by'=64):r181 (t,(rest,(by',())))=some (((t+(by'-1-rest))/by',()),()):=by
 unfold r181 m181;show (bif neI by' 0 then some ((wI (Int.tdiv (wI (wI (wI (t+by')-1)-rest)) by'),()),())else none)=_
 rw[QW (by omega),Zt (x:=t+by') (by omega) (by omega),Zt (x:=t+by'-1) (by omega) (by omega),Zt (x:=t+by'-1-rest) (by omega) (by omega),W3 (by omega),show t+by'-1-rest=t+(by'-1-rest) by omega];rcases hb with rfl|rfl
 ·rw[Zt (by omega) (by omega)];rfl
 ·rw[Zt (by omega) (by omega)];rfl
theorem Zde (a b:Int) (ha:0≤a∧a≤20000) (hb:0≤b∧b≤20000):r196 (a,(b,()))=some ((JZ a b,()),()):=by
 unfold r196 m196 r202 m202;exact Za (Za (ZdQ a ha) (Za (Zat a 0 32 ha (by decide) (.inl rfl)) (Za (ZdQ b hb) (Za (Zat b 0 32 hb (by decide) (.inl rfl)) rfl)))) rfl
theorem ZgN (a b:Int) (ha:0≤a∧a≤20000) (hb:0≤b∧b≤20000):r133 (a,(b,()))=some ((ZiL a b,()),()):=by
 unfold r133 m133 r202 m202;exact Za (Za (ZdQ a ha) (Za (Zat a 48 64 ha (by decide) (.inr rfl)) (Za (ZdQ b hb) (Za (Zat b 48 64 hb (by decide) (.inr rfl)) rfl)))) rfl
theorem Znt (a b rest by':Int) (ha:0≤a∧a≤20000) (hb:0≤b∧b≤20000) (hr:0≤rest∧rest<by') (hy:by'=32∨by'=64):
  r220 (a,(b,(rest,(by',()))))=some ((if b≤a then false else decide (a+(rest-a%by'+by')%by'<b),()),()):=by
 unfold r220 m220;refine Za (Zns ha.1) (Za (y:=((b,()),())) ?_ ?_)
 ·show r104 (b,((20000:Int),()))=_;rw[Zk3];by_cases h:b<20000
  ·rw[Ze h]
  ·rw[Zc h,show b=20000 by omega]
 show (bif leI b a then _ else bif neI by' 0 then (bif neI by' 0 then some ((ltI (wI (a+Int.tmod (wI (wI (rest-Int.tmod a by')+by')) by')) b,()),())else none)else none)=_
 by_cases h:b≤a
 ·rw[Zq h,Ze h];rfl
 have hm:=Int.emod_nonneg a (show by'≠0 by omega);have hm2:=Int.emod_lt_of_pos a (show 0<by' by omega);have hm3:=Int.emod_lt_of_pos (rest-a%by'+by') (show 0<by' by omega);have hm4:=Int.emod_nonneg (rest-a%by'+by') (show by'≠0 by omega);rw[J0 h,Zc h,QW (by omega),Qw ha.1,Zt (x:=rest-a%by') (by omega) (by omega),Zt (x:=rest-a%by'+by') (by omega) (by omega),Qw (by omega),Zt (by omega) (by omega)];rfl
theorem ZbF (a b:Int) (ha:0≤a∧a≤20000) (hb:0≤b∧b≤20000):r154 (a,(b,()))=some ((JZ a b,()),()):=by
 unfold r154 m154;refine Za (Znt a b 0 32 ha hb (by decide) (.inl rfl)) ?_;have:(if b≤a then false else decide (a+(0-a%32+32)%32<b))=JZ a b:=by
  unfold JZ;split
  ·exact (Zw (by omega)).symm
  ·by_cases h:a+(0-a%32+32)%32<b
   ·rw[ZC h];exact (ZC (by omega)).symm
   ·rw[Zw h];exact (Zw (by omega)).symm
 rw[this]
theorem ZgW (a b:Int) (ha:0≤a∧a≤20000) (hb:0≤b∧b≤20000):r167 (a,(b,()))=some ((ZiL a b,()),()):=by
 unfold r167 m167;refine Za (Znt a b 48 64 ha hb (by decide) (.inr rfl)) ?_;have:(if b≤a then false else decide (a+(48-a%64+64)%64<b))=ZiL a b:=by
  unfold ZiL;split
  ·exact (Zw (by omega)).symm
  ·by_cases h:a+(48-a%64+64)%64<b
   ·rw[ZC h];exact (ZC (by omega)).symm
   ·rw[Zw h];exact (Zw (by omega)).symm
 rw[this]
theorem Zqm {l:List Rc} {t:Int} (h:due l t=true):0<l.length:=by
 obtain ⟨e,_⟩:=Zcl h;rw[e];simp
theorem Zlh (cap t:Int) (l:List Rc) (h:due l t=true):r243 ((cap,(l,())),(t,()))=some ((((JD l).1,((JD l).2.1,((JD l).2.2,()))),(true,())),((cap,(l.tail,())),())):=by
 obtain ⟨e,e1⟩:=Zcl h;have hl:=Zqm h;unfold r243 m243;have hd:rdE .t l (0:Int)=JD l:=by rw[e];rfl
 have ht:List.drop (Int.toNat (1:Int)) l=l.tail:=by rw[e];rfl
 show (bif eqI (l.length:Int) 0 then _ else bif ltI 0 (l.length:Int)then (bif neI (rdE .t l (0:Int)).1 t then _ else bif ltI 0 (l.length:Int)then (bif leI 1 (l.length:Int)then some ((((rdE .t l (0:Int)).1,((rdE .t l (0:Int)).2.1,((rdE .t l (0:Int)).2.2,()))),(true,())),((cap,(List.drop (Int.toNat (1:Int)) l,())),()))else none)else none)else none)=_
 rw[Zi (by omega),Zk (by omega),Zq (by omega),hd,ht,Q2 e1];rfl
theorem Zli (cap t:Int) (l:List Rc) (h:due l t=false):r243 ((cap,(l,())),(t,()))=some ((((0:Int),((0:Int),((0:Int),()))),(false,())),((cap,(l,())),())):=by
 unfold r243 m243;cases l with
 |nil=>rfl
 |cons x l=>
  have h:x.1≠t:=by simpa [due] using h
  show (bif eqI ((x::l).length:Int) 0 then _ else bif ltI 0 ((x::l).length:Int)then (bif neI x.1 t then _ else _)else none)=_
  rw[Zi (by simp only[List.length_cons];omega),Zk (by simp only[List.length_cons];omega),QW h];rfl
theorem ZlB {t mark:Int}:leI (mnI mark 20000) t= !decide (t<mark∧t<20000):=by
 unfold mnI;split
 ·by_cases h:t<mark∧t<20000
  ·rw[J0 (by omega),ZC h];rfl
  ·rw[Zq (by omega),Zw h];rfl
 ·by_cases h:t<mark∧t<20000
  ·rw[J0 (by omega),ZC h];rfl
  ·rw[Zq (by omega),Zw h];rfl
theorem ZeB {w:Q6} (h:JY w):w.frames.length≤1000:=by
 have h1:=h.ppu.t;have h2:=h.frn;unfold YF at h2;omega
theorem ZdD {w:Q7} (h:JK w):w.samples.length≤2000:=by
 have h1:=h.apu.t;have h2:=h.sam;omega
theorem Zc3 (p:ZZ) (reg v:Int):(Yj p reg v).dots=p.dots:=by
 unfold Yj
 repeat' split
 all_goals rfl
theorem ZbO (p:ZZ):(Jx p).table=p.table:=by
 unfold Jx
 repeat' split
 all_goals rfl
theorem Zcw (p:ZZ) (reg:Int):(Yf p reg).table=p.table∧(Yf p reg).dots=p.dots:=by
 unfold Yf
 repeat' split
 all_goals exact ⟨rfl,rfl⟩
theorem Zhy (w:Q6) (mark:Int) (h:JY w):r182 (w.t,(mark,()))=some (((Jn w mark).isSome,()),(((Jn w mark).getD w).t,())):=by
 have hf:=ZeB h;unfold r182 m182 Jn;cases hd:due w.list w.ppu.T with
 |true=>
  rw[Ze rfl];refine Za (Zlh w.cap w.ppu.T w.list hd) (Za (ZlK w.ppu h.ppu (JD w.list).2.1 (JD w.list).2.2) ?_);have e:=Zc3 w.ppu (JD w.list).2.1 (JD w.list).2.2;generalize Yj w.ppu (JD w.list).2.1 (JD w.list).2.2=q at e⊢;obtain ⟨T,c,s,ad,pal,bl,tb,ds⟩:=q;have e:ds=w.ppu.dots:=e;subst e;rfl
 |false=>
  rw[Zc (by simp)];refine Za (Zli w.cap w.ppu.T w.list hd) ?_;show (bif leI (mnI mark 20000) w.ppu.T then _ else _)=_
  rw[ZlB];by_cases hm:w.ppu.T<mark∧w.ppu.T<20000
  ·rw[ZC hm,Ze hm];refine Za (Zow w.ppu h.ppu hm.2) ?_;have e:=ZbO w.ppu;generalize Jx w.ppu=q at e⊢;obtain ⟨T,c,s,ad,pal,bl,tb,ds⟩:=q;have e:tb=w.ppu.table:=e;subst e;cases ht:JQ w.ppu with
   |true=>
    show (bif leN (w.frames.length+1) (E.most .n)then _ else none)=_
    rw[ZP (by simp only[E.most];omega)];rfl
   |false=>rfl
  ·rw[Zw hm,Zc hm];rfl
theorem ZhE (w:Q7) (mark:Int) (h:JK w):r183 (w.t,(mark,()))=some (((Jo w mark).isSome,()),(((Jo w mark).getD w).t,())):=by
 have hf:=ZdD h;unfold r183 m183 Jo;cases hd:due w.list w.apu.T with
 |true=>
  rw[Ze rfl];exact Za (Zlh w.cap w.apu.T w.list hd) (Za (ZbX w.apu h.apu (JD w.list).2.1 (JD w.list).2.2) rfl)
 |false=>
  rw[Zc (by simp)];refine Za (Zli w.cap w.apu.T w.list hd) ?_;show (bif leI (mnI mark 20000) w.apu.T then _ else _)=_
  rw[ZlB];by_cases hm:w.apu.T<mark∧w.apu.T<20000
  ·rw[ZC hm,Ze hm];refine Za (Zg4 w.apu h.apu hm.2) ?_;cases ht:YJ w.apu with
   |true=>
    show (bif leN (w.samples.length+1) (E.most .i)then _ else none)=_
    rw[ZP (by simp only[E.most];omega)];rfl
   |false=>rfl
  ·rw[Zw hm,Zc hm];rfl
theorem Zox {t:Int} (h:0≤t):eqI (Int.tmod t 64) 48=decide (t%64=48):=by rw[Qw h,Qn]
theorem ZfT (w:Q6) (mark:Int) (h:JY w) (hd:due w.list w.ppu.T=false):(bif leI mark w.ppu.T then some ((w.t,(false,())),())else bif eqI w.ppu.T 20000 then some ((w.t,(false,())),())else (r169 (w.ppu.t,())).bind fun r0=>
  bif (eqI (Int.tmod w.ppu.T (64:Int)) (48:Int))then (bif (leN (w.frames.length+1) (E.most .n))then (some (((r0.1.1.1,(r0.1.1.2.1,(r0.1.1.2.2.1,(r0.1.1.2.2.2.1,(r0.1.1.2.2.2.2.1,(r0.1.1.2.2.2.2.2.1,(r0.1.1.2.2.2.2.2.2.1,(r0.1.1.2.2.2.2.2.2.2.1,(w.cap,(w.list,((w.frames++[r0.1.2.1]),()))))))))))),(true,())),()))
   else none)
  else some (((r0.1.1.1,(r0.1.1.2.1,(r0.1.1.2.2.1,(r0.1.1.2.2.2.1,(r0.1.1.2.2.2.2.1,(r0.1.1.2.2.2.2.2.1,(r0.1.1.2.2.2.2.2.2.1,(r0.1.1.2.2.2.2.2.2.2.1,(w.cap,(w.list,(w.frames,()))))))))))),(true,())),()))=some (((((Jn w mark).getD w).t),((Jn w mark).isSome,())),()):=by
 have hf:=ZeB h;have ht:=h.ppu.t;unfold Jn;rw[hd,Zc (by simp)];by_cases hm:w.ppu.T<mark∧w.ppu.T<20000
 ·rw[Ze hm,J0 (by omega),Zi (by omega),Zd,Zd];refine Za (Zjb w.ppu h.ppu hm.2) ?_;rw[Zox ht.1];cases hto:JQ w.ppu with
  |true=>
   rw[show decide (w.ppu.T%64=48)=true from hto,ZP (by simp only[E.most];omega)];rfl
  |false=>
   rw[show decide (w.ppu.T%64=48)=false from hto];rfl
 ·rw[Zc hm];by_cases h1:mark≤w.ppu.T
  ·rw[Zq h1];rfl
  ·rw[J0 h1,Zn (by omega)];rfl
theorem Zi6 (w:Q6) (mark:Int) (h:JY w):r99 (w.t,(mark,()))=some ((((Jn w mark).getD w).t,((Jn w mark).isSome,())),()):=by
 have hl:=h.ring.len;have hc:=h.ring.c1;unfold r99 m99;show (bif ltI 0 (w.list.length:Int)then (bif ltI 0 (w.list.length:Int)then (bif eqI (rdE .t w.list (0:Int)).1 w.ppu.T then _ else _)else none)else _)=_
 by_cases h0:w.list.length=0
 ·rw[Zx (by omega),Zd];refine ZfT w mark h ?_;rw[List.eq_nil_of_length_eq_zero h0];rfl
 rw[Zk (by omega),Zb,Zb];cases hd:due w.list w.ppu.T with
 |true=>
  obtain ⟨e,e1⟩:=Zcl hd;have hd0:rdE .t w.list (0:Int)=JD w.list:=by rw[e];rfl
  have htl:List.drop (Int.toNat (1:Int)) w.list=w.list.tail:=by rw[e];rfl
  rw[hd0,Zn e1,Zb];show (bif ltI 0 (w.list.length:Int)then (bif leI 1 (w.list.length:Int)then (bif leN (0+(List.drop (Int.toNat (1:Int)) w.list).length) (E.most .t)then _ else none)else none)else none)=_
  rw[Zk (by omega),Zq (by omega),htl,ZP (by simp only[E.most,List.length_tail];omega)];rw[Zb,Zb,Zb];have hw:=Zcc w.ppu h.ppu (JD w.list).2.1 (JD w.list).2.2;rw[←hd0]at hw;refine Za hw ?_;unfold Jn;rw[hd,Ze rfl,hd0];show some (((_,(_,(_,(_,(_,(_,(_,(_,(w.cap,(([]++List.drop (Int.toNat (1:Int)) w.list),_)))))))))),(true,())),())=_;rw[htl];rfl
 |false=>
  have hne:(rdE .t w.list (0:Int)).1≠w.ppu.T:=by
   obtain ⟨x,l,e⟩: ∃x l,w.list=x::l:=by
    cases hw:w.list with
    |nil=>rw[hw]at h0;exact absurd rfl h0
    |cons x l=>exact ⟨x,l,rfl⟩
   rw[e]at hd⊢;have hd: ¬x.1=w.ppu.T:=by simpa [due] using hd
   exact hd
  rw[Zi hne,Zd];exact ZfT w mark h hd
theorem ZfU (w:Q7) (mark:Int) (h:JK w) (hd:due w.list w.apu.T=false):(bif leI mark w.apu.T then some ((w.t,(false,())),())else bif eqI w.apu.T 20000 then some ((w.t,(false,())),())else (r171 (w.apu.t,())).bind fun r0=>
  bif r0.1.2.2.1 then (bif (leN (w.samples.length+1) (E.most .i))then (some (((r0.1.1.1,(r0.1.1.2.1,(r0.1.1.2.2.1,(r0.1.1.2.2.2.1,(r0.1.1.2.2.2.2.1,(r0.1.1.2.2.2.2.2.1,(r0.1.1.2.2.2.2.2.2.1,(w.cap,(w.list,((w.samples++[r0.1.2.1]),())))))))))),(true,())),()))
   else none)
  else some (((r0.1.1.1,(r0.1.1.2.1,(r0.1.1.2.2.1,(r0.1.1.2.2.2.1,(r0.1.1.2.2.2.2.1,(r0.1.1.2.2.2.2.2.1,(r0.1.1.2.2.2.2.2.2.1,(w.cap,(w.list,(w.samples,())))))))))),(true,())),()))=some (((((Jo w mark).getD w).t),((Jo w mark).isSome,())),()):=by
 have hf:=ZdD h;have ht:=h.apu.t;unfold Jo;rw[hd,Zc (by simp)];by_cases hm:w.apu.T<mark∧w.apu.T<20000
 ·rw[Ze hm,J0 (by omega),Zi (by omega),Zd,Zd];refine Za (Zhm w.apu h.apu hm.2) ?_;cases hto:YJ w.apu with
  |true=>
   rw[ZP (by simp only[E.most];omega)];rfl
  |false=>rfl
 ·rw[Zc hm];by_cases h1:mark≤w.apu.T
  ·rw[Zq h1];rfl
  ·rw[J0 h1,Zn (by omega)];rfl
theorem Zi7 (w:Q7) (mark:Int) (h:JK w):r100 (w.t,(mark,()))=some ((((Jo w mark).getD w).t,((Jo w mark).isSome,())),()):=by
 have hl:=h.ring.len;have hc:=h.ring.c1;unfold r100 m100;show (bif ltI 0 (w.list.length:Int)then (bif ltI 0 (w.list.length:Int)then (bif eqI (rdE .t w.list (0:Int)).1 w.apu.T then _ else _)else none)else _)=_
 by_cases h0:w.list.length=0
 ·rw[Zx (by omega),Zd];refine ZfU w mark h ?_;rw[List.eq_nil_of_length_eq_zero h0];rfl
 rw[Zk (by omega),Zb,Zb];cases hd:due w.list w.apu.T with
 |true=>
  obtain ⟨e,e1⟩:=Zcl hd;have hd0:rdE .t w.list (0:Int)=JD w.list:=by rw[e];rfl
  have htl:List.drop (Int.toNat (1:Int)) w.list=w.list.tail:=by rw[e];rfl
  rw[hd0,Zn e1,Zb];show (bif ltI 0 (w.list.length:Int)then (bif leI 1 (w.list.length:Int)then (bif leN (0+(List.drop (Int.toNat (1:Int)) w.list).length) (E.most .t)then _ else none)else none)else none)=_
  rw[Zk (by omega),Zq (by omega),htl,ZP (by simp only[E.most,List.length_tail];omega)];rw[Zb,Zb,Zb];have hw:=Zb7 w.apu h.apu (JD w.list).2.1 (JD w.list).2.2;rw[←hd0]at hw;refine Za hw ?_;unfold Jo;rw[hd,Ze rfl,hd0];show some (((_,(_,(_,(_,(_,(_,(_,(w.cap,(([]++List.drop (Int.toNat (1:Int)) w.list),_))))))))),(true,())),())=_;rw[htl];rfl
 |false=>
  have hne:(rdE .t w.list (0:Int)).1≠w.apu.T:=by
   obtain ⟨x,l,e⟩: ∃x l,w.list=x::l:=by
    cases hw:w.list with
    |nil=>rw[hw]at h0;exact absurd rfl h0
    |cons x l=>exact ⟨x,l,rfl⟩
   rw[e]at hd⊢;have hd: ¬x.1=w.apu.T:=by simpa [due] using hd
   exact hd
  rw[Zi hne,Zd];exact ZfU w mark h hd
theorem Zdw (mark:Int): ∀(k:Nat) (w:Q6),JY w→YG w<k→n123_0 r182 k (mark,()) (w.t,()) ()=some (Sum.inl (),((Xf w mark).t,()))
 |0,_,_,h=>absurd h (by omega)
 |k+1,w,h,hk=>by
  show (r182 (w.t,(mark,()))).bind _=_;refine Za (Zhy w mark h) ?_;cases hs:Jn w mark with
  |none=>rw[Zar hs];rfl
  |some v=>
   rw[Za8 h hs];exact Zdw mark k v (Wm h hs).1 (by have:=ZaE h hs;omega)
theorem ZdF (mark:Int): ∀(k:Nat) (w:Q7),JK w→YH w<k→n124_0 r183 k (mark,()) (w.t,()) ()=some (Sum.inl (),((Xg w mark).t,()))
 |0,_,_,h=>absurd h (by omega)
 |k+1,w,h,hk=>by
  show (r183 (w.t,(mark,()))).bind _=_;refine Za (ZhE w mark h) ?_;cases hs:Jo w mark with
  |none=>rw[Zas hs];rfl
  |some v=>
   rw[Za9 h hs];exact ZdF mark k v (Wn h hs).1 (by have:=ZaF h hs;omega)
theorem ZeH {w:Q6} (h:JY w):YG w<fuel:=by
 have:=Z6;have h1:=h.ppu.t;have h2:=h.ring.len;have h3:=h.ring.c1;unfold YG;omega
theorem Zjc {w:Q7} (h:JK w):YH w<fuel:=by
 have:=Z6;have h1:=h.apu.t;have h2:=h.ring.len;have h3:=h.ring.c1;unfold YH;omega
theorem Zko (w:Q6) (mark:Int) (h:JY w):r123 (w.t,(mark,()))=some ((),((Xf w mark).t,())):=by
 unfold r123 m123 L123_0;exact Za (Zdw mark fuel w h (ZeH h)) rfl
theorem Zkx (w:Q7) (mark:Int) (h:JK w):r124 (w.t,(mark,()))=some ((),((Xg w mark).t,())):=by
 unfold r124 m124 L124_0;exact Za (ZdF mark fuel w h (Zjc h)) rfl
theorem Zbl (mark:Int): ∀(k:Nat) (w:Q6),JY w→YG w+1<k→n101_0 r91 r99 r86 k (mark,()) (w.t,()) (true,())=some (Sum.inl (false,()),((Xf w mark).t,()))
 |0,_,_,h=>absurd h (by omega)
 |k+1,w,h,hk=>by
  show (r99 (w.t,(mark,()))).bind _=_;refine Za (Zi6 w mark h) ?_;cases hs:Jn w mark with
  |none=>
   rw[Zar hs];obtain ⟨j,rfl⟩: ∃j,k=j+1:=⟨k-1,by omega⟩;rfl
  |some v=>
   rw[Za8 h hs];exact Zbl mark k v (Wm h hs).1 (by have:=ZaE h hs;omega)
theorem Zbm (mark:Int): ∀(k:Nat) (w:Q7),JK w→YH w+1<k→n102_0 r92 r100 r87 k (mark,()) (w.t,()) (true,())=some (Sum.inl (false,()),((Xg w mark).t,()))
 |0,_,_,h=>absurd h (by omega)
 |k+1,w,h,hk=>by
  show (r100 (w.t,(mark,()))).bind _=_;refine Za (Zi7 w mark h) ?_;cases hs:Jo w mark with
  |none=>
   rw[Zas hs];obtain ⟨j,rfl⟩: ∃j,k=j+1:=⟨k-1,by omega⟩;rfl
  |some v=>
   rw[Za9 h hs];exact Zbm mark k v (Wn h hs).1 (by have:=ZaF h hs;omega)
theorem Zdn (w:Q6) (h:JY w):r86 (w.t,())=some ((w.t,()),()):=by
 have hs:=h.s;unfold r86 m86;exact Za (Ux w.ppu.t h.ppu.s) (Za (Zcq (w.cap,(w.list,())) hs.2.1) (Za (Zcp w.frames hs.2.2) rfl))
theorem ZfV (w:Q7) (h:JK w):r87 (w.t,())=some ((w.t,()),()):=by
 have hs:=h.s;have hl:w.samples.length≤4398046511104:=hs.2;unfold r87 m87;refine Za (Zcq (w.cap,(w.list,())) hs.1) ?_;show (bif leN (0+w.samples.length) (E.most .i)then _ else none)=_
 rw[ZP (by simp only[E.most];omega)];rfl
theorem ZcY (w:Q6) (mark:Int) (h:JY w):r101 (w.t,(mark,()))=some (((Xf w mark).t,()),()):=by
 unfold r101 m101 L101_0;have hf:=Z6;have hok:r91 (w.t,())=some ((true,()),()):=by rw[ZbT w.t h.s,Zf8.2 h]
 refine Za hok (Za (Zdn w h) (Za (Zbl mark fuel w h (by have:=ZeH h;have h1:=h.ppu.t;have h2:=h.ring.len;have h3:=h.ring.c1;unfold YG;omega)) rfl))
theorem Zer (w:Q7) (mark:Int) (h:JK w):r102 (w.t,(mark,()))=some (((Xg w mark).t,()),()):=by
 unfold r102 m102 L102_0;have hf:=Z6;have hok:r92 (w.t,())=some ((true,()),()):=by rw[ZcN w.t h.s,Zgo.2 h]
 refine Za hok (Za (ZfV w h) (Za (Zbm mark fuel w h (by have h1:=h.apu.t;have h2:=h.ring.len;have h3:=h.ring.c1;unfold YH;omega)) rfl))
theorem Zil (s:Zh) (n:Int) (ht:0≤s.T∧s.T≤20000) (hn:0≤n∧n≤7):r189 (s.t,(n,()))=some ((YR s n,()),()):=by
 unfold r189 m189 YR;show (bif ltI 20000 (wI (s.T+n))then _ else _)=_
 rw[Zt (by omega) (by omega)];by_cases h:20000<s.T+n
 ·rw[Zk h,Ze h];rfl
 ·rw[Zx h,Zc h];rfl
theorem Zcs (s:Zh) (n:Int) (ht:0≤s.T∧s.T≤20000) (hn:0≤n∧n≤7):r153 (s.t,(n,()))=some ((YR s n,()),()):=by
 unfold r153 m153 YR;show (bif ltI 20000 (wI (s.T+n))then _ else _)=_
 rw[Zt (by omega) (by omega)];by_cases h:20000<s.T+n
 ·rw[Zk h,Ze h];rfl
 ·rw[Zx h,Zc h];rfl
theorem ZfR {s:Zh} (h:Zz s):0≤s.knownAt∧s.knownAt≤20000:=by
 have:=h.known;have:=h.t;omega
theorem Zhu (s:Zh) (h:Zz s):r128 (s.t,())=some ((Yt s,()),()):=by
 unfold r128 m128 Yt;show (bif !s.nmi then (bif !s.cpu.i then (r196 (s.knownAt,(s.T,()))).bind _ else _)else _)=_
 rw[Zde _ _ (ZfR h) h.t];cases s.nmi<;>cases s.cpu.i<;>rfl
theorem Zco (s:Zh) (h:Zz s):r131 (s.t,())=some ((JU s,()),()):=by
 unfold r131 m131 JU;refine Za (Zde _ _ (ZfR h) h.t) ?_;show (bif JZ s.knownAt s.T then (bif s.snd.apu.irq then some ((!s.cpu.i,()),())else _)else bif s.known then some ((!s.cpu.i,()),())else _)=_
 cases JZ s.knownAt s.T<;>cases s.snd.apu.irq<;>cases s.known<;>rfl
theorem Zho (s:Zh) (h:Zz s):r156 (s.t,())=some (((if JZ s.knownAt s.T then s.snd.apu.irq else s.known),()),()):=by
 unfold r156 m156;refine Za (ZbF _ _ (ZfR h) h.t) ?_;show (bif JZ s.knownAt s.T then some ((s.snd.apu.irq,()),())else some ((s.known,()),()))=_
 cases JZ s.knownAt s.T<;>rfl
def ZoC (s:Zh):Int:=
 if ZS (opS s)=1∧(rgT (ZU s)).1=2∧Zhz s=false then 1 else if ZS (opS s)=1∧(rgT (ZU s)).1=3∧KJ s=false then 2
 else if ZS (opS s)=2∧(rgT (ZU s)).1=2∧s.pic.cap≤(s.pic.list.length:Int)then 3 else if ZS (opS s)=2∧(rgT (ZU s)).1=3∧s.snd.cap≤(s.snd.list.length:Int)then 4
 else YR s (Qr (opS s))
theorem ZlF (s:Zh):QS s=if s.nmi then YR s 7 else if Yt s&& !KJ s then 2 else if JU s then YR s 7 else ZoC s:=rfl
theorem Ud {s:Zh} (h:Zz s):0≤JB s∧JB s≤65535:=ZmK h.mem _
theorem Zrh (s:Zh):0≤Qr (opS s)∧Qr (opS s)≤7:=by have:=Zct (opS s);omega
def Zpj {T:Type} (k1 k2 g2 g3 c1 c2:Bool) (P S:(Bool→Option T)→Option T) (a b c d e:Option T):Option T:=
 let t4:=bif k2 then (bif g3 then (bif c2 then d else e)else e)else e
 let t3:=bif k2 then (bif g2 then (bif c1 then c else t4)else t4)else t4
 let t2:=bif k1 then (bif g3 then S (fun u=>bif !u then b else t3)else t3)else t3
 bif k1 then (bif g2 then P (fun u=>bif !u then a else t2)else t2)else t2
theorem ZkY (s:Zh) (h:Zz s):Zpj (eqI (ZS (opS s)) 1) (eqI (ZS (opS s)) 2) (eqI (rgT (ZU s)).1 2) (eqI (rgT (ZU s)).1 3) (leI s.pic.cap (s.pic.list.length:Int)) (leI s.snd.cap (s.snd.list.length:Int))
  (fun f=>(r194 (s.t,())).bind fun r=>f r.1.1) (fun f=>(r190 (s.t,())).bind fun r=>f r.1.1) (some (((1:Int),()),())) (some (((2:Int),()),())) (some (((3:Int),()),())) (some (((4:Int),()),()))
  ((r195 (opS s,())).bind fun r8=>(r189 (s.t,r8.1)).bind fun r9=>some ((r9.1:PTup o189),()))=(some (((ZoC s,()),())):Option (PTup o189×Unit)):=by
 have e:((r195 (opS s,())).bind fun r8=>(r189 (s.t,r8.1)).bind fun r9=>some ((r9.1:PTup o189),()))=(some ((YR s (Qr (opS s)),()),()):Option (PTup o189×Unit)):=
  Za (Zaa (opS s,())) (Za (Zil s (Qr (opS s)) h.t (Zrh s)) rfl)
 rw[e];have ep:r194 (s.t,())=some ((Zhz s,()),()):=ZbR s.t;have es:r190 (s.t,())=some ((KJ s,()),()):=Zbb s.t;unfold ZoC Zpj;rw[ep,es];have l1:=h.pic.ring.len;have l2:=h.snd.ring.len;have q1:(leI s.pic.cap (s.pic.list.length:Int))=decide (s.pic.cap≤(s.pic.list.length:Int)):=by
  by_cases hq:s.pic.cap≤(s.pic.list.length:Int)
  ·rw[ZC hq];exact Zq hq
  ·rw[Zw hq];exact J0 hq
 have q2:(leI s.snd.cap (s.snd.list.length:Int))=decide (s.snd.cap≤(s.snd.list.length:Int)):=by
  by_cases hq:s.snd.cap≤(s.snd.list.length:Int)
  ·rw[ZC hq];exact Zq hq
  ·rw[Zw hq];exact J0 hq
 rw[q1,q2];generalize (rgT (ZU s)).1=g;rcases ZbC (opS s)with o|o|o<;>rw[o]
 ·rfl
 ·by_cases g2:g=2
  ·subst g2;cases Zhz s<;>rfl
  ·by_cases g3:g=3
   ·subst g3;cases KJ s<;>rfl
   ·rw[Zi g2,Zi g3,Zc (fun x=>g2 x.2.1),Zc (fun x=>g3 x.2.1),Zc (fun x=>g2 x.2.1),Zc (fun x=>g3 x.2.1)];rfl
 ·by_cases g2:g=2
  ·subst g2;by_cases hq:s.pic.cap≤(s.pic.list.length:Int)
   ·rw[ZC hq,Zc (fun x=>absurd x.1 (by decide)),Zc (fun x=>absurd x.1 (by decide)),Ze ⟨rfl,rfl,hq⟩];rfl
   ·rw[Zw hq,Zc (fun x=>absurd x.1 (by decide)),Zc (fun x=>absurd x.1 (by decide)),Zc (fun x=>hq x.2.2),Zc (fun x=>absurd x.2.1 (by decide))];rfl
  ·by_cases g3:g=3
   ·subst g3;by_cases hq:s.snd.cap≤(s.snd.list.length:Int)
    ·rw[ZC hq,Zc (fun x=>absurd x.1 (by decide)),Zc (fun x=>absurd x.1 (by decide)),Zc (fun x=>absurd x.2.1 (by decide)),Ze ⟨rfl,rfl,hq⟩];rfl
    ·rw[Zw hq,Zc (fun x=>absurd x.1 (by decide)),Zc (fun x=>absurd x.1 (by decide)),Zc (fun x=>absurd x.2.1 (by decide)),Zc (fun x=>hq x.2.2)];rfl
   ·rw[Zi g2,Zi g3,Zc (fun x=>g2 x.2.1),Zc (fun x=>g3 x.2.1),Zc (fun x=>g2 x.2.1),Zc (fun x=>g3 x.2.1)];rfl
theorem Ziu (s:Zh) (h:Zz s):Zpj (eqI (ZS (opS s)) 1) (eqI (ZS (opS s)) 2) (eqI (rgT (ZU s)).1 2) (eqI (rgT (ZU s)).1 3) (eqI (s.pic.list.length:Int) s.pic.cap) (eqI (s.snd.list.length:Int) s.snd.cap)
  (fun f=>(r160 (s.t,())).bind fun r=>f r.1.1) (fun f=>(r155 (s.t,())).bind fun r=>f r.1.1) (some (((1:Int),()),())) (some (((2:Int),()),())) (some (((3:Int),()),())) (some (((4:Int),()),()))
  ((r161 (opS s,())).bind fun r8=>(r153 (s.t,r8.1)).bind fun r9=>some ((r9.1:PTup o153),()))=(some (((ZoC s,()),())):Option (PTup o153×Unit)):=by
 have e:((r161 (opS s,())).bind fun r8=>(r153 (s.t,r8.1)).bind fun r9=>some ((r9.1:PTup o153),()))=(some ((YR s (Qr (opS s)),()),()):Option (PTup o153×Unit)):=
  Za (Zab (opS s,())) (Za (Zcs s (Qr (opS s)) h.t (Zrh s)) rfl)
 rw[e];have ep:r160 (s.t,())=some ((Zhz s,()),()):=Zb3 s.t;have es:r155 (s.t,())=some ((KJ s,()),()):=Zbz s.t;unfold ZoC Zpj;rw[ep,es];have l1:=h.pic.ring.len;have l2:=h.snd.ring.len;have q1:(eqI (s.pic.list.length:Int) s.pic.cap)=decide (s.pic.cap≤(s.pic.list.length:Int)):=by
  by_cases hq:s.pic.cap≤(s.pic.list.length:Int)
  ·rw[ZC hq];exact Zn (by omega)
  ·rw[Zw hq];exact Zi (by omega)
 have q2:(eqI (s.snd.list.length:Int) s.snd.cap)=decide (s.snd.cap≤(s.snd.list.length:Int)):=by
  by_cases hq:s.snd.cap≤(s.snd.list.length:Int)
  ·rw[ZC hq];exact Zn (by omega)
  ·rw[Zw hq];exact Zi (by omega)
 rw[q1,q2];generalize (rgT (ZU s)).1=g;rcases ZbC (opS s)with o|o|o<;>rw[o]
 ·rfl
 ·by_cases g2:g=2
  ·subst g2;cases Zhz s<;>rfl
  ·by_cases g3:g=3
   ·subst g3;cases KJ s<;>rfl
   ·rw[Zi g2,Zi g3,Zc (fun x=>g2 x.2.1),Zc (fun x=>g3 x.2.1),Zc (fun x=>g2 x.2.1),Zc (fun x=>g3 x.2.1)];rfl
 ·by_cases g2:g=2
  ·subst g2;by_cases hq:s.pic.cap≤(s.pic.list.length:Int)
   ·rw[ZC hq,Zc (fun x=>absurd x.1 (by decide)),Zc (fun x=>absurd x.1 (by decide)),Ze ⟨rfl,rfl,hq⟩];rfl
   ·rw[Zw hq,Zc (fun x=>absurd x.1 (by decide)),Zc (fun x=>absurd x.1 (by decide)),Zc (fun x=>hq x.2.2),Zc (fun x=>absurd x.2.1 (by decide))];rfl
  ·by_cases g3:g=3
   ·subst g3;by_cases hq:s.snd.cap≤(s.snd.list.length:Int)
    ·rw[ZC hq,Zc (fun x=>absurd x.1 (by decide)),Zc (fun x=>absurd x.1 (by decide)),Zc (fun x=>absurd x.2.1 (by decide)),Ze ⟨rfl,rfl,hq⟩];rfl
    ·rw[Zw hq,Zc (fun x=>absurd x.1 (by decide)),Zc (fun x=>absurd x.1 (by decide)),Zc (fun x=>absurd x.2.1 (by decide)),Zc (fun x=>hq x.2.2)];rfl
   ·rw[Zi g2,Zi g3,Zc (fun x=>g2 x.2.1),Zc (fun x=>g3 x.2.1),Zc (fun x=>g2 x.2.1),Zc (fun x=>g3 x.2.1)];rfl
theorem ZkK (s:Zh) (h:Zz s):r127 (s.t,())=some ((QS s,()),()):=by
 unfold r127 m127;rw[ZlF];show (bif s.nmi then _ else _)=_
 cases hn:s.nmi with
 |true=>exact Za (Zil s 7 h.t (by decide)) rfl
 |false=>
  rw[Zd,Zc (by simp)];refine Za (Zhu s h) ?_;cases hm:Yt s with
  |false=>
   refine Za (Zco s h) ?_;rw[Bool.false_and,Zc (by simp)];cases ha:JU s with
   |true=>exact Za (Zil s 7 h.t (by decide)) rfl
   |false=>exact Za (Zcm s.img s.mem s.cpu.pc h.mem h.cpu.pc) (Za (Zaz (opS s) (JB s) s.cpu h.cpu (Ud h)) (Za (WD (ZU s,())) (ZkY s h)))
  |true=>
   refine Za (Zbb s.t) ?_;show (bif !KJ s then _ else _)=_
   rw[Bool.true_and];cases hs:KJ s with
   |false=>rfl
   |true=>
    refine Za (Zco s h) ?_;rw[Zc (by simp)];cases ha:JU s with
    |true=>exact Za (Zil s 7 h.t (by decide)) rfl
    |false=>exact Za (Zcm s.img s.mem s.cpu.pc h.mem h.cpu.pc) (Za (Zaz (opS s) (JB s) s.cpu h.cpu (Ud h)) (Za (WD (ZU s,())) (ZkY s h)))
theorem Zeb (s:Zh) (h:Zz s):r95 (s.t,())=some ((QS s,()),()):=by
 unfold r95 m95;rw[ZlF];show (bif s.nmi then _ else bif !s.cpu.i then _ else _)=_
 cases hn:s.nmi with
 |true=>exact Za (Zcs s 7 h.t (by decide)) rfl
 |false=>
  rw[Zd,Zc (by simp)];have em:Yt s=(!s.cpu.i&&JZ s.knownAt s.T):=by unfold Yt;rw[hn];rfl
  have ea:JU s=((if JZ s.knownAt s.T then s.snd.apu.irq else s.known)&& !s.cpu.i):=rfl
  rw[em,ea];cases hi:s.cpu.i with
  |true=>
   rw[show (!true&&JZ s.knownAt s.T)=false from rfl,Bool.false_and,Zc (by simp),show (!true)=false from rfl,Bool.and_false,Zc (by simp)];exact Za (Zaw s.img s.mem s.cpu.pc h.mem h.cpu.pc) (Za (Zai (opS s) (JB s) s.cpu h.cpu (Ud h)) (Za (Wl (ZU s,())) (Ziu s h)))
  |false=>
   refine Za (ZbF _ _ (ZfR h) h.t) ?_;rw[show (!false)=true from rfl,Bool.true_and,Bool.and_true];show (bif JZ s.knownAt s.T then _ else _)=_
   cases hb:JZ s.knownAt s.T with
   |false=>
    have k:=Zho s h;rw[hb]at k;refine Za k ?_;rw[Bool.false_and,Zc (by simp),Zc (by simp)];cases hk:s.known with
    |true=>exact Za (Zcs s 7 h.t (by decide)) rfl
    |false=>exact Za (Zaw s.img s.mem s.cpu.pc h.mem h.cpu.pc) (Za (Zai (opS s) (JB s) s.cpu h.cpu (Ud h)) (Za (Wl (ZU s,())) (Ziu s h)))
   |true=>
    refine Za (Zbz s.t) ?_;show (bif !KJ s then _ else _)=_
    rw[Bool.true_and];cases hs:KJ s with
    |false=>rfl
    |true=>
     have k:=Zho s h;rw[hb,Ze rfl]at k;refine Za k ?_;simp only[if_true,ZK,Bool.false_eq_true,if_false];cases hk:s.snd.apu.irq with
     |true=>exact Za (Zcs s 7 h.t (by decide)) rfl
     |false=>exact Za (Zaw s.img s.mem s.cpu.pc h.mem h.cpu.pc) (Za (Zai (opS s) (JB s) s.cpu h.cpu (Ud h)) (Za (Wl (ZU s,())) (Ziu s h)))

end Go.Proofs.YtcbdldlphpjmbaaGreatDoor.Plain
