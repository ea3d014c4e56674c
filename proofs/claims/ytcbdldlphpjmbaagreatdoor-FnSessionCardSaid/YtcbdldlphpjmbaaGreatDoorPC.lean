/- Plain laws of the printed functions: UnitI, ExecI, TimeI, WaitI. No condition beyond those that each lemma states. -/
import Derived.Test.YtcbdldlphpjmbaaGreatDoorPB
set_option linter.unusedVariables false
set_option linter.unusedSimpArgs false
namespace Go.Proofs.YtcbdldlphpjmbaaGreatDoor.Plain
open Go Go.Tev
theorem Ua {a b:Int} (h:0≤a):Int.tdiv a b=a/b:=Int.tdiv_eq_ediv_of_nonneg h
theorem ZsG {s at':Int} (ha:0≤at'∧at'≤48) (hs:0≤s∧s≤255):Int.tmod (wI ((wI ((Int.tmod at' 8)+s))+(wI (Int.tdiv at' 8)))) 16=(at'%8+s+at'/8)%16:=by
 rw[Qx ha.1,Ua ha.1,Zr (x:=at'%8+s) (by omega) (by omega),Zr (x:=at'/8) (by omega) (by omega),Zr (by omega) (by omega),Qx (by omega)]
theorem Zpp (p:Z2) (h:JJ p) (a:Int) (ha:0≤a∧a≤48):r237 (p.t,(a,()))=some ((V1 p a,()),()):=by
 have h1:=h.len;unfold r237 m237 V1;simp only[Zs,Z2.t];rw[ZsG ha h.scroll,Zp (by omega),Zl (by omega)];rfl
theorem ZrA (p:Z2) (hs:0≤p.scroll∧p.scroll≤255) (h1:p.table.length=16) (a:Int) (ha:0≤a∧a≤48):r298 (p.t,(a,()))=some ((V1 p a,()),()):=by
 unfold r298 m298 V1;simp only[Zs,Z2.t];rw[ZsG ha hs,Zp (by omega),Zl (by omega)];rfl
theorem Zk5 {p:Z2} (h:JJ p):p.dots.length≤48:=by
 have h2:=h.dots;split at h2<;>omega
theorem ZoF {p:Z2} (c:p.T%64<48):Jx p={p with T:=p.T+1,dots:=p.dots++[V1 p (p.T%64)]}∧Yw p=[]∧Kw p=false∧JQ p=false:=by
 unfold Jx Yw Kw JQ;rw[Ze c,Zc (by omega),Zw (by omega)];exact ⟨rfl,rfl,rfl,rfl⟩
theorem ZoG {p:Z2} (c:p.T%64=48):Jx p={p with T:=p.T+1,blank:=true,dots:=[]}∧Yw p=p.dots∧Kw p=ltI 127 p.ctrl∧JQ p=true:=by
 unfold Jx Yw Kw JQ;rw[Zc (by omega),Ze c,Ze c,ZB c];exact ⟨rfl,rfl,rfl,rfl⟩
theorem ZoH {p:Z2} (c:p.T%64=63):Jx p={p with T:=p.T+1,blank:=false}∧Yw p=[]∧Kw p=false∧JQ p=false:=by
 unfold Jx Yw Kw JQ;rw[Zc (by omega),Zc (by omega),Ze c,Zc (by omega),Zw (by omega)];exact ⟨rfl,rfl,rfl,rfl⟩
theorem ZoI {p:Z2} (c: ¬p.T%64<48) (c2:p.T%64≠48) (c3:p.T%64≠63):Jx p={p with T:=p.T+1}∧Yw p=[]∧Kw p=false∧JQ p=false:=by
 unfold Jx Yw Kw JQ;rw[Zc c,Zc c2,Zc c3,Zc c2,Zw c2];exact ⟨rfl,rfl,rfl,rfl⟩
theorem Zjk (p:Z2) (h:JJ p) (ht:p.T<20000):r169 (p.t,())=some (((Jx p).t,(Yw p,(Kw p,()))),()):=by
 have h1:=h.t;have hd:=Zk5 h;unfold r169 m169;refine Za (UF p.t h.s) ?_;show (bif eqI p.T 20000 then _ else bif ltI (Int.tmod p.T 64) 48 then _ else bif eqI (Int.tmod p.T 64) 48 then _ else bif eqI (Int.tmod p.T 64) 63 then _ else _)=_
 have hm:Int.tmod p.T 64=p.T%64:=Qx h1.1;have hw:wI (p.T+1)=p.T+1:=Zr (by omega) (by omega);rw[Zi (show p.T≠20000 by omega),Zd,hm];by_cases c1:p.T%64<48
 ·obtain ⟨e1,e2,e3,_⟩:=ZoF c1;rw[Zl c1,Zb,e1,e2,e3];refine Za (Zpp p h (Int.tmod p.T 64) (by omega)) ?_;show (bif leN (p.dots.length+1) (E.most .i)then some ((((wI (p.T+1)),_),_),_)else none)=_
  rw[ZI (by simp only[E.most];omega),hw,hm];rfl
 rw[Zx c1,Zd];by_cases c2:p.T%64=48
 ·obtain ⟨e1,e2,e3,_⟩:=ZoG c2;rw[Zn c2,Zb,e1,e2,e3];show (bif leN (0+p.dots.length) (E.most .i)then some ((((wI (p.T+1)),_),_),_)else none)=_
  rw[ZI (by simp only[E.most];omega),hw];rfl
 rw[Zi c2,Zd];by_cases c3:p.T%64=63
 ·obtain ⟨e1,e2,e3,_⟩:=ZoH c3;rw[Zn c3,Zb,e1,e2,e3];show some ((((wI (p.T+1)),_),_),_)=_;rw[hw];rfl
 ·obtain ⟨e1,e2,e3,_⟩:=ZoI c1 c2 c3;rw[Zi c3,Zd,e1,e2,e3];show some ((((wI (p.T+1)),_),_),_)=_;rw[hw];rfl
theorem ZoK (p:Z2) (h:JJ p) (ht:p.T<20000):r245 (p.t,())=some ((JQ p,(Yw p,(Kw p,()))),((Jx p).t,())):=by
 have h1:=h.t;have hd:=Zk5 h;have hm:Int.tmod p.T 64=p.T%64:=Qx h1.1;have hw:wI (p.T+1)=p.T+1:=Zr (by omega) (by omega);unfold r245 m245;show (bif ltI (Int.tmod p.T 64) 48 then _ else bif eqI (Int.tmod p.T 64) 48 then _ else bif eqI (Int.tmod p.T 64) 63 then _ else _)=_
 rw[hm];by_cases c1:p.T%64<48
 ·obtain ⟨e1,e2,e3,e4⟩:=ZoF c1;rw[Zl c1,Zb,e1,e2,e3,e4];have hdt:=ZrA {p with T:=p.T+1} h.scroll h.len (p.T%64) (by omega)
  rw[←hw,←hm]at hdt;refine Za hdt ?_;show (bif leN (p.dots.length+1) (E.most .i)then some (_,(((wI (p.T+1)),_),_))else none)=_
  rw[ZI (by simp only[E.most];omega),hw,hm];rfl
 rw[Zx c1,Zd];by_cases c2:p.T%64=48
 ·obtain ⟨e1,e2,e3,e4⟩:=ZoG c2;rw[Zn c2,Zb,e1,e2,e3,e4];show some (_,(((wI (p.T+1)),_),_))=_;rw[hw];rfl
 rw[Zi c2,Zd];by_cases c3:p.T%64=63
 ·obtain ⟨e1,e2,e3,e4⟩:=ZoH c3;rw[Zn c3,Zb,e1,e2,e3,e4];show some (_,(((wI (p.T+1)),_),_))=_;rw[hw];rfl
 ·obtain ⟨e1,e2,e3,e4⟩:=ZoI c1 c2 c3;rw[Zi c3,Zd,e1,e2,e3,e4];show some (_,(((wI (p.T+1)),_),_))=_;rw[hw];rfl
theorem Zcj (p:Z2) (h:JJ p) (reg v:Int):r168 (p.t,(reg,(v,())))=some (((Yj p reg v).t,()),()):=by
 have ha:=h.addr;have hl:=h.len;unfold r168 m168 Yj;refine Za (UF p.t h.s) (Za (by rw[Za8 p.t h.s,WX.2 h]) ?_);simp only[ZM,Zd,QY,Zo,Zs,Z2.t];rw[Qx (show 0≤v%256 by omega),Qx (show 0≤v%256 by omega),Zr (x:=p.addr+1) (by omega) (by omega),Qx (show 0≤p.addr+1 by omega),Zp ha.1,Zl (by omega)];by_cases c:reg=0
 ·rw[Zn c,Ze c];rfl
 rw[Zi c,Zc c,Zd];by_cases c:reg=1
 ·rw[Zn c,Ze c];rfl
 rw[Zi c,Zc c,Zd];by_cases c:reg=3
 ·rw[Zn c,Ze c];rfl
 rw[Zi c,Zc c,Zd];by_cases c:reg=4
 ·rw[Zn c,Ze c];rfl
 rw[Zi c,Zc c,Zd];by_cases c:reg=5
 ·rw[Zn c,Ze c];rfl
 rw[Zi c,Zc c,Zd]
theorem ZlY (p:Z2) (h:JJ p) (reg v:Int):r244 (p.t,(reg,(v,())))=some ((),((Yj p reg v).t,())):=by
 have ha:=h.addr;have hl:=h.len;unfold r244 m244 Yj r297 m297;simp only[Xp,Zo,Zs,Z2.t];rw[Qx (show 0≤v%256 by omega),Qx (show 0≤v%256 by omega),Zr (x:=p.addr+1) (by omega) (by omega),Qx (show 0≤p.addr+1 by omega),Zp ha.1,Zl (by omega)];by_cases c:reg=0
 ·rw[Zn c,Ze c];rfl
 rw[Zi c,Zc c,Zd];by_cases c:reg=1
 ·rw[Zn c,Ze c];rfl
 rw[Zi c,Zc c,Zd];by_cases c:reg=3
 ·rw[Zn c,Ze c];rfl
 rw[Zi c,Zc c,Zd];by_cases c:reg=4
 ·rw[Zn c,Ze c];rfl
 rw[Zi c,Zc c,Zd];by_cases c:reg=5
 ·rw[Zn c,Ze c];rfl
 rw[Zi c,Zc c,Zd]
theorem ZcS (p:Z2) (h:JJ p) (reg:Int):r282 (p.t,(reg,()))=some (((Yf p reg).t,(Vd p reg,())),()):=by
 have ha:=h.addr;have hl:=h.len;have hf:=XZ p.blank;unfold r282 m282 Yf Vd;refine Za (UF p.t h.s) (Za (by rw[Za8 p.t h.s,WX.2 h]) ?_);simp only[ZM,Zd,Zdu,Zo,Zs,Z2.t];rw[Zr (x:=p.addr+1) (by omega) (by omega),Qx (show 0≤p.addr+1 by omega),Zp ha.1,Zl (by omega),Zr (x:=128*QW p.blank) (by omega) (by omega)];by_cases c:reg=2
 ·rw[Zn c,Ze c,Ze c];rfl
 rw[Zi c,Zc c,Zc c,Zd];by_cases c:reg=4
 ·rw[Zn c,Ze c,Ze c];rfl
 rw[Zi c,Zc c,Zc c,Zd]
theorem Zof (p:Z2) (h:JJ p) (reg:Int):r256 (p.t,(reg,()))=some ((Vd p reg,()),((Yf p reg).t,())):=by
 have ha:=h.addr;have hl:=h.len;have hf:=XZ p.blank;unfold r256 m256 Yf Vd r297 m297;simp only[ZfC,Zo,Zs,Z2.t];rw[Zr (x:=p.addr+1) (by omega) (by omega),Qx (show 0≤p.addr+1 by omega),Zp ha.1,Zl (by omega),Zr (x:=128*QW p.blank) (by omega) (by omega)];by_cases c:reg=2
 ·rw[Zn c,Ze c,Ze c];rfl
 rw[Zi c,Zc c,Zc c,Zd];by_cases c:reg=4
 ·rw[Zn c,Ze c,Ze c];rfl
 rw[Zi c,Zc c,Zc c,Zd]
theorem Zhu (a:Qr) (h:Yl a) (ht:a.T<20000):r171 (a.t,())=some (((Ub a).t,(Wh a,(YK a,()))),()):=by
 obtain ⟨t,p,c,b,l,asks,irq⟩:=a;have ht:t<20000:=ht;obtain ⟨h1,h2,h3,h4,h5⟩:=h;have h1:0≤t∧t≤20000:=h1;have h3:0≤c∧c≤255:=h3;have h4:0≤b∧b≤1:=h4;have h5:0≤l∧l≤31:=h5;unfold r171 m171 Ub Wh YK Ul Ut Qr.t;simp only;rw[Zi (show t≠20000 by omega),Zd,Qx h1.1,Qx h1.1,Zr (x:=t+1) (by omega) (by omega),Zr (x:=1-b) (by omega) (by omega),Zr (x:=l-1) (by omega) (by omega),Zr (x:=c-1) (by omega) (by omega),Zr (x:=8*(1-b)) (by omega) (by omega),Zr (x:=8*b) (by omega) (by omega)];by_cases c0:c=0
 ·rw[Zn c0,Ze c0];by_cases l0:0<l
  ·rw[Zl l0,Ze l0];by_cases t32:t%32=0
   ·rw[Zn t32,Zi (show t%16≠15 by omega)];simp only[Zb,Zd,t32,l0,true_and,if_true,show¬t%16=15 by omega,false_and,if_false];cases irq<;>cases eqI (l-1) 0<;>rfl
   ·rw[Zi t32];simp only[Zb,Zd,t32,false_and,if_false];by_cases t16:t%16=15
    ·rw[Zn t16];simp only[Zb,t16,true_and,ne_eq,show¬l=0 by omega,not_false_eq_true,if_true]
    ·rw[Zi t16];simp only[Zd,t16,false_and,if_false]
  ·rw[Zx l0,Zc l0];have l0':l=0:=by omega
   subst l0';by_cases t32:t%32=0
   ·rw[Zn t32,Zi (show t%16≠15 by omega)];simp only[Zb,Zd,t32,true_and,show¬t%16=15 by omega,false_and,if_false,Int.lt_irrefl]
   ·rw[Zi t32];by_cases t16:t%16=15
    ·rw[Zn t16];simp only[Zb,Zd,t32,t16,true_and,ne_eq,not_true_eq_false,false_and,and_false,if_false]
    ·rw[Zi t16];simp only[Zb,Zd,t32,t16,false_and,if_false]
 ·rw[Zi c0,Zc c0];by_cases l0:0<l
  ·rw[Zl l0];by_cases t32:t%32=0
   ·rw[Zn t32,Zi (show t%16≠15 by omega)];simp only[Zb,Zd,t32,l0,true_and,if_true,show¬t%16=15 by omega,false_and,if_false];cases irq<;>cases eqI (l-1) 0<;>rfl
   ·rw[Zi t32];simp only[Zb,Zd,t32,false_and,if_false];by_cases t16:t%16=15
    ·rw[Zn t16];simp only[Zb,t16,true_and,ne_eq,show¬l=0 by omega,not_false_eq_true,if_true]
    ·rw[Zi t16];simp only[Zd,t16,false_and,if_false]
  ·rw[Zx l0];have l0':l=0:=by omega
   subst l0';by_cases t32:t%32=0
   ·rw[Zn t32,Zi (show t%16≠15 by omega)];simp only[Zb,Zd,t32,true_and,show¬t%16=15 by omega,false_and,if_false,Int.lt_irrefl]
   ·rw[Zi t32];by_cases t16:t%16=15
    ·rw[Zn t16];simp only[Zb,Zd,t32,t16,true_and,ne_eq,not_true_eq_false,false_and,and_false,if_false]
    ·rw[Zi t16];simp only[Zb,Zd,t32,t16,false_and,if_false]
theorem Zhb (a:Qr) (h:Yl a) (ht:a.T<20000):r247 (a.t,())=some ((Wh a,(YK a,())),((Ub a).t,())):=by
 obtain ⟨t,p,c,b,l,asks,irq⟩:=a;have ht:t<20000:=ht;obtain ⟨h1,h2,h3,h4,h5⟩:=h;have h1:0≤t∧t≤20000:=h1;have h3:0≤c∧c≤255:=h3;have h4:0≤b∧b≤1:=h4;have h5:0≤l∧l≤31:=h5;unfold r247 m247 Ub Wh YK Ul Ut Qr.t;simp only;rw[Qx h1.1,Qx h1.1,Zr (x:=t+1) (by omega) (by omega),Zr (x:=1-b) (by omega) (by omega),Zr (x:=l-1) (by omega) (by omega),Zr (x:=c-1) (by omega) (by omega),Zr (x:=8*(1-b)) (by omega) (by omega),Zr (x:=8*b) (by omega) (by omega)];by_cases c0:c=0
 ·rw[Zn c0,Ze c0];by_cases l0:0<l
  ·rw[Zl l0,Ze l0];by_cases t32:t%32=0
   ·rw[Zn t32,Zi (show t%16≠15 by omega)];simp only[Zb,Zd,t32,l0,true_and,if_true,show¬t%16=15 by omega,false_and,if_false,QE];cases irq<;>cases eqI (l-1) 0<;>rfl
   ·rw[Zi t32];simp only[Zb,Zd,t32,false_and,if_false];by_cases t16:t%16=15
    ·rw[Zn t16,Zi (show l≠0 by omega)];simp only[Zb,Zd,ZM,t16,true_and,ne_eq,show¬l=0 by omega,not_false_eq_true,if_true]
    ·rw[Zi t16];simp only[Zb,Zd,QE,t16,false_and,if_false]
  ·rw[Zx l0,Zc l0];have l0':l=0:=by omega
   subst l0';by_cases t32:t%32=0
   ·rw[Zn t32,Zi (show t%16≠15 by omega)];simp only[Zb,Zd,QE,t32,true_and,show¬t%16=15 by omega,false_and,if_false,Int.lt_irrefl]
   ·rw[Zi t32];by_cases t16:t%16=15
    ·rw[Zn t16,Zn (show (0:Int)=0 from rfl)];simp only[Zb,Zd,ZM,t32,t16,true_and,ne_eq,not_true_eq_false,false_and,and_false,if_false]
    ·rw[Zi t16];simp only[Zb,Zd,QE,t32,t16,false_and,if_false]
 ·rw[Zi c0,Zc c0];by_cases l0:0<l
  ·rw[Zl l0];by_cases t32:t%32=0
   ·rw[Zn t32,Zi (show t%16≠15 by omega)];simp only[Zb,Zd,t32,l0,true_and,if_true,show¬t%16=15 by omega,false_and,if_false,QE];cases irq<;>cases eqI (l-1) 0<;>rfl
   ·rw[Zi t32];simp only[Zb,Zd,t32,false_and,if_false];by_cases t16:t%16=15
    ·rw[Zn t16,Zi (show l≠0 by omega)];simp only[Zb,Zd,ZM,t16,true_and,ne_eq,show¬l=0 by omega,not_false_eq_true,if_true]
    ·rw[Zi t16];simp only[Zb,Zd,QE,t16,false_and,if_false]
  ·rw[Zx l0];have l0':l=0:=by omega
   subst l0';by_cases t32:t%32=0
   ·rw[Zn t32,Zi (show t%16≠15 by omega)];simp only[Zb,Zd,QE,t32,true_and,show¬t%16=15 by omega,false_and,if_false,Int.lt_irrefl]
   ·rw[Zi t32];by_cases t16:t%16=15
    ·rw[Zn t16,Zn (show (0:Int)=0 from rfl)];simp only[Zb,Zd,ZM,t32,t16,true_and,ne_eq,not_true_eq_false,false_and,and_false,if_false]
    ·rw[Zi t16];simp only[Zb,Zd,QE,t32,t16,false_and,if_false]
theorem Zce (a:Qr) (h:Yl a) (reg v:Int):r170 (a.t,(reg,(v,())))=some (((KP a reg v).t,()),()):=by
 unfold r170 m170 KP;refine Za (by rw[Za5 a.t,Wx.2 h]) ?_;simp only[ZM,Zd,QY,Zo,Qr.t];rw[Qx (show 0≤v%256 by omega),Qx (show 0≤v%256 by omega)];by_cases c:reg=0
 ·rw[Zn c,Ze c];rfl
 rw[Zi c,Zc c,Zd];by_cases c:reg=1
 ·rw[Zn c,Ze c];rfl
 rw[Zi c,Zc c,Zd];by_cases c:reg=2
 ·rw[Zn c,Ze c];cases a.irq<;>rfl
 rw[Zi c,Zc c,Zd];by_cases c:reg=3
 ·rw[Zn c,Ze c];rfl
 rw[Zi c,Zc c,Zd]
theorem Zb2 (a:Qr) (h:Yl a) (reg v:Int):r246 (a.t,(reg,(v,())))=some (((KP a reg v).t,()),()):=by
 unfold r246 m246 KP;refine Za (by rw[ZaW a.t,Wx.2 h]) ?_;simp only[ZM,Zd,Xp,Zo,Qr.t];rw[Qx (show 0≤v%256 by omega),Qx (show 0≤v%256 by omega)];by_cases c:reg=0
 ·rw[Zn c,Ze c];rfl
 rw[Zi c,Zc c,Zd];by_cases c:reg=1
 ·rw[Zn c,Ze c];rfl
 rw[Zi c,Zc c,Zd];by_cases c:reg=2
 ·rw[Zn c,Ze c];cases a.irq<;>rfl
 rw[Zi c,Zc c,Zd];by_cases c:reg=3
 ·rw[Zn c,Ze c];rfl
 rw[Zi c,Zc c,Zd]
theorem ZcP (a:Qr) (h:Yl a) (reg:Int):r283 (a.t,(reg,()))=some (((YW a reg).t,(KK a reg,())),()):=by
 unfold r283 m283 YW KK;refine Za (by rw[Za5 a.t,Wx.2 h]) ?_;have f1:=XZ a.irq;have f2:=XZ (ltI 0 a.len);simp only[ZM,Zd,Zdu,Zo,Qr.t];rw[Zr (x:=128*QW a.irq) (by omega) (by omega),Zr (x:=128*QW a.irq+QW (ltI 0 a.len)) (by omega) (by omega)];by_cases c:reg=2
 ·rw[Ja c,Ze c,Ze c];rfl
 ·rw[QS c,Zc c,Zc c];rfl
theorem ZcK (a:Qr) (h:Yl a) (reg:Int):r257 (a.t,(reg,()))=some (((YW a reg).t,(KK a reg,())),()):=by
 unfold r257 m257 YW KK;have f1:=XZ a.irq;have f2:=XZ (ltI 0 a.len);by_cases c:reg=2
 ·rw[Ja c,Ze c,Ze c];refine Za (by rw[ZaW a.t,Wx.2 h]) ?_;simp only[ZM,Zd,ZfC,Zo,Qr.t];rw[Zr (x:=128*QW a.irq) (by omega) (by omega),Zr (x:=128*QW a.irq+QW (ltI 0 a.len)) (by omega) (by omega)]
 ·rw[QS c,Zc c,Zc c];rfl
theorem Zfx {n:Int} (h: ¬(0≤n∧n≤29)): ∀c:Int,0≤c→c≤29→eqI n c=false:=fun c h0 h1=>Zi (by omega)
theorem ZaZ {n:Int} (h: ¬(0≤n∧n≤29)):K8 n=false:=Zw (by omega)
theorem Zef {n:Int} (h: ¬(0≤n∧n≤29)):Zht n=false:=Zw (by omega)
theorem Zgm {n:Int} (h:K8 n=false) (c:Zq) (arg v:Int):KL c n arg v=c:=by
 have h: ¬(n=1∨n=2∨n=14∨n=4∨n=29∨n=5∨n=6∨n=7∨n=8∨n=9):=of_decide_eq_false h;unfold KL;rw[Zc (by omega),Zc (by omega),Zc (by omega),Zc (by omega),Zc (by omega),Zc (by omega),Zc (by omega),Zc (by omega),Zc (by omega)]
theorem Zj6 {n:Int} (h:Zht n=false) (c:Zq):UZ c n=c:=by
 have h: ¬(n=10∨n=11∨n=12∨n=13∨n=25∨n=26∨n=27∨n=28):=of_decide_eq_false h;unfold UZ;rw[Zc (by omega),Zc (by omega),Zc (by omega),Zc (by omega),Zc (by omega),Zc (by omega),Zc (by omega),Zc (by omega)]
theorem ZoA (a b:Int):Xb a b true=a%256-b%256:=by unfold Xb QW;simp
theorem Zqv (c:Zq) (b:Int):Zrt c b={c with z:=eqI (Xb c.a b true%256%256) 0,n:=ltI 127 (Xb c.a b true%256%256),c:=leI 0 (Xb c.a b true)}:=by
 unfold Zrt;rw[ZoA,Int.emod_emod];have:leI (b%256) (c.a%256)=leI 0 (c.a%256-b%256):=by
  by_cases h:b%256≤c.a%256
  ·rw[Zp h,Zp (by omega)]
  ·rw[JG h,JG (by omega)]
 rw[this]
theorem Zoh (c:Zq) (op arg v:Int):r261 (c.t,((op,(arg,())),(v,())))=some ((K8 op,()),((KL c op arg v).t,())):=by
 by_cases h:0≤op∧op≤29
 ·unfold r261 m261;rcases Kk h with rfl|rfl|rfl|rfl|rfl|rfl|rfl|rfl|rfl|rfl|rfl|rfl|rfl|rfl|rfl|rfl|rfl|rfl|rfl|rfl|rfl|rfl|rfl|rfl|rfl|rfl|rfl|rfl|rfl|rfl<;>simp only[Qo,Int.reduceEq,decide_true,decide_false,Zb,Zd]
  ·rfl
  ·exact Za (K7 c arg) rfl
  ·exact Za (K7 c v) rfl
  ·rfl
  ·exact Za (ZfK (c.a,(arg,(c.c,())))) (Za (K7 c (KW c.a arg c.c%256)) rfl)
  ·exact Za (ZfV (c.a,(arg,(c.c,())))) (Za (K7 c (Xb c.a arg c.c%256)) rfl)
  ·exact Za (K7 c (ZL .i64 c.a arg)) rfl
  ·exact Za (K7 c (bOr .i64 c.a arg)) rfl
  ·exact Za (K7 c (Yo .i64 c.a arg)) rfl
  ·rw[show KL c 9 arg v=Zrt c arg from rfl,Zqv];exact Za (ZfV (c.a,(arg,(true,())))) (Za (Zb6 (Xb c.a arg true%256,())) rfl)
  ·rfl
  ·rfl
  ·rfl
  ·rfl
  ·exact Za (K7 c v) rfl
  ·rfl
  ·rfl
  ·rfl
  ·rfl
  ·rfl
  ·rfl
  ·rfl
  ·rfl
  ·rfl
  ·rfl
  ·rfl
  ·rfl
  ·rfl
  ·rfl
  ·exact Za (ZfK (c.a,(v,(c.c,())))) (Za (K7 c (KW c.a v c.c%256)) rfl)
 ·have e:=Zfx h;unfold r261 m261;rw[ZaZ h,Zgm (ZaZ h)];simp[e]
theorem Zrd (c:Zq) (op arg:Int) (hc:ZO c):r262 (c.t,((op,(arg,())),()))=some ((Zht op,()),((UZ c op).t,())):=by
 have hx:=hc.x;by_cases h:0≤op∧op≤29
 ·unfold r262 m262;rcases Kk h with rfl|rfl|rfl|rfl|rfl|rfl|rfl|rfl|rfl|rfl|rfl|rfl|rfl|rfl|rfl|rfl|rfl|rfl|rfl|rfl|rfl|rfl|rfl|rfl|rfl|rfl|rfl|rfl|rfl|rfl<;>simp only[Qo,Int.reduceEq,decide_true,decide_false,Zb,Zd]
  ·rfl
  ·rfl
  ·rfl
  ·rfl
  ·rfl
  ·rfl
  ·rfl
  ·rfl
  ·rfl
  ·rfl
  ·exact Za (ZcZ c c.a) rfl
  ·exact Za (K7 c c.x) rfl
  ·have e:wI (c.x+1)=c.x+1:=Zr (by omega) (by omega);have k:=ZcZ c (c.x+1);rw[←e]at k;refine Za k ?_;rw[e];rfl
  ·have e:wI (c.x-1)=c.x-1:=Zr (by omega) (by omega);have k:=ZcZ c (c.x-1);rw[←e]at k;refine Za k ?_;rw[e];rfl
  ·rfl
  ·rfl
  ·rfl
  ·rfl
  ·rfl
  ·rfl
  ·rfl
  ·rfl
  ·rfl
  ·rfl
  ·rfl
  ·rfl
  ·rfl
  ·rfl
  ·rfl
  ·rfl
 ·have e:=Zfx h;unfold r262 m262;rw[Zef h,Zj6 (Zef h)];simp[e]
theorem Zm6 (x:ZF) (c:Zq) (h:JK x) (hc:ZO c):r308 (x.t,(c.t,()))=some ((),(x.t,((Zm4 x c).t,()))):=by
 unfold r308 m308;exact Za (Zbz x c h hc) (Za (Zbz x (Yv c) h (WY hc)) (Za (Zal (Yd x c,(Yd x (Yv c),()))) rfl))
theorem ZjD (x:ZF) (c:Zq) (h:JK x) (hc:ZO c):r253 (x.t,(c.t,()))=some ((),((UQ x c).t,((Wd c).t,()))):=by
 unfold r253 m253;refine Za (ZbA x c (shr8 c.pc) h hc) (Za (ZbA (Kn x c (shr8 c.pc)) (Km c) c.pc (UP h _ _) (UO hc)) rfl)
theorem ZqI (x:ZF) (c:Zq) (op arg:Int) (h:JK x) (hc:ZO c):r263 (x.t,(c.t,((op,(arg,())),())))=some ((),((K4 x c op).t,((WH x c op arg).t,()))):=by
 unfold r263 m263;refine Za (ZaM (arg,())) ?_;by_cases ho:0≤op∧op≤29
 ·rcases Kk ho with rfl|rfl|rfl|rfl|rfl|rfl|rfl|rfl|rfl|rfl|rfl|rfl|rfl|rfl|rfl|rfl|rfl|rfl|rfl|rfl|rfl|rfl|rfl|rfl|rfl|rfl|rfl|rfl|rfl|rfl<;>simp only[Qo,Int.reduceEq,decide_true,decide_false,Zb,Zd]
  ·rfl
  ·rfl
  ·rfl
  ·rfl
  ·rfl
  ·rfl
  ·rfl
  ·rfl
  ·rfl
  ·rfl
  ·rfl
  ·rfl
  ·rfl
  ·rfl
  ·rfl
  ·rfl
  ·obtain ⟨a,x',s,pc,z,n,cc,i⟩:=c;cases z<;>rfl
  ·obtain ⟨a,x',s,pc,z,n,cc,i⟩:=c;cases z<;>rfl
  ·obtain ⟨a,x',s,pc,z,n,cc,i⟩:=c;cases cc<;>rfl
  ·rfl
  ·exact Za (ZjD x c h hc) rfl
  ·exact Za (Zm6 x c h hc) rfl
  ·exact Za (ZbA x c c.a h hc) rfl
  ·exact Za (Zbz x c h hc) (Za (K7 (Yv c) (Yd x c)) rfl)
  ·exact Za (Zbz x c h hc) (Za (ZeX (Yv c) (Yd x c)) (Za (Zm6 x (wfT (Yv c) (Yd x c)) h (Zrg (WY hc))) rfl))
  ·rfl
  ·rfl
  ·rfl
  ·rfl
  ·rfl
 ·have e:=Zfx ho;have e1:K4 x c op=x:=by
   unfold K4;rw[Zc (by omega),Zc (by omega)]
  have e2:WH x c op arg=c:=by
   unfold WH;rw[Zc (by omega),Zc (by omega),Zc (by omega),Zc (by omega),Zc (by omega),Zc (by omega),Zc (by omega),Zc (by omega),Zc (by omega)]
  rw[e1,e2];simp[e]
theorem Zp4 {c:Zq} (hc:ZO c) (op:Int):wI (c.pc+Qh op)=c.pc+Qh op:=by
 have:=Zpw op;have:=hc.pc;exact Zr (by omega) (by omega)
theorem Zi4 {op:Int} (h:(K8 op||Zht op)=true) (x:ZF) (c:Zq):K4 x c op=x:=by
 have h:(op=1∨op=2∨op=14∨op=4∨op=29∨op=5∨op=6∨op=7∨op=8∨op=9)∨(op=10∨op=11∨op=12∨op=13∨op=25∨op=26∨op=27∨op=28):=by
  rw[Bool.or_eq_true]at h;exact h.imp of_decide_eq_true of_decide_eq_true
 unfold K4;rw[Zc (by omega),Zc (by omega)]
theorem Zd6 (x:ZF) (c:Zq) (op arg v:Int) (h:JK x) (hc:ZO c) (hv:0≤v∧v≤255):r201 (x.t,(c.t,((op,(arg,())),(v,()))))=some ((),((V3 x c op).t,((WE x c op arg v).t,()))):=by
 unfold r201 m201;have hp:=ZdT (op:=op) hc;have ev:v%256=v:=by omega
 have k1:r252 (wI (c.pc+Qh op),())=some (((c.pc+Qh op)%65536,()),()):=by
  rw[ZaM (wI (c.pc+Qh op),()),Zp4 hc]
 have k2:r242 (v,())=some ((v,()),()):=by
  rw[Xp (v,())];show some ((v%256,()),())=_;rw[ev]
 refine Za (ZaY (op,())) (Za k1 (Za k2 (Za (Zoh (Jj c op) op arg v) ?_)));unfold V3 WE;cases hr:K8 op with
 |true=>
  rw[Zi4 (by rw[hr];rfl)];rfl
 |false=>
  rw[Zgm hr];refine Za (Zrd (Jj c op) op arg hp) ?_;cases ht:Zht op with
  |true=>
   rw[Zi4 (by rw[ht,Bool.or_true])];rfl
  |false=>
   rw[Zj6 ht];exact Za (ZqI x (Jj c op) op arg h hp) rfl
def JF (op:Int):Bool:=decide (op=1∨op=2∨op=14∨op=4∨op=29∨op=5∨op=6∨op=7∨op=8∨op=9∨op=10∨op=11∨op=12∨op=13)
def YD (c:Zq) (op arg v:Int):Zq:=if K8 op then KL c op arg v else if JF op then UZ c op else c
theorem Zgr {c:Zq} {u v:Int} (h:u%256=v%256):YJ c u=YJ c v:=by unfold YJ;rw[h]
theorem Zlj (c:Zq) (v:Int):r328 (c.t,(v,()))=some (((Zr0 c v).t,()),()):=by
 unfold r328 m328;exact Za (ZkN (c.a,(v,(c.c,())))) (Za (VR c (KW c.a v c.c%256)) rfl)
theorem ZqN (c:Zq) (arg v:Int) (hc:ZO c):r287 (c.t,(((6:Int),(arg,())),(v,())))=some (((YD c 6 arg v).t,(JF 6,())),()):=by
 have hx:=hc.x;unfold r287 m287;dsimp only;rw[Zi (show (6:Int)≠1 by decide),Zd,Zi (show (6:Int)≠2 by decide),Zd,Zi (show (6:Int)≠14 by decide),Zd,Zi (show (6:Int)≠4 by decide),Zd,Zi (show (6:Int)≠29 by decide),Zd,Zi (show (6:Int)≠5 by decide),Zd,Zn (show (6:Int)=6 from rfl),Zb];rw[show YD c 6 arg v=YJ c (ZL .i64 c.a arg) by simp[YD,KL,K8],show JF 6=true from rfl,Zgr (Zm2 c.a arg).symm];exact Za (QY (c.a,())) (Za (QY (arg,())) (Za (VR c (ZL .i64 (c.a%256) (arg%256))) rfl))
theorem ZqO (c:Zq) (arg v:Int) (hc:ZO c):r287 (c.t,(((7:Int),(arg,())),(v,())))=some (((YD c 7 arg v).t,(JF 7,())),()):=by
 have hx:=hc.x;unfold r287 m287;dsimp only;rw[Zi (show (7:Int)≠1 by decide),Zd,Zi (show (7:Int)≠2 by decide),Zd,Zi (show (7:Int)≠14 by decide),Zd,Zi (show (7:Int)≠4 by decide),Zd,Zi (show (7:Int)≠29 by decide),Zd,Zi (show (7:Int)≠5 by decide),Zd,Zi (show (7:Int)≠6 by decide),Zd,Zn (show (7:Int)=7 from rfl),Zb];rw[show YD c 7 arg v=YJ c (bOr .i64 c.a arg) by simp[YD,KL,K8],show JF 7=true from rfl,Zgr (Zo0 c.a arg).symm];exact Za (QY (c.a,())) (Za (QY (arg,())) (Za (VR c (bOr .i64 (c.a%256) (arg%256))) rfl))
theorem ZqP (c:Zq) (arg v:Int) (hc:ZO c):r287 (c.t,(((8:Int),(arg,())),(v,())))=some (((YD c 8 arg v).t,(JF 8,())),()):=by
 have hx:=hc.x;unfold r287 m287;dsimp only;rw[Zi (show (8:Int)≠1 by decide),Zd,Zi (show (8:Int)≠2 by decide),Zd,Zi (show (8:Int)≠14 by decide),Zd,Zi (show (8:Int)≠4 by decide),Zd,Zi (show (8:Int)≠29 by decide),Zd,Zi (show (8:Int)≠5 by decide),Zd,Zi (show (8:Int)≠6 by decide),Zd,Zi (show (8:Int)≠7 by decide),Zd,Zn (show (8:Int)=8 from rfl),Zb];rw[show YD c 8 arg v=YJ c (Yo .i64 c.a arg) by simp[YD,KL,K8],show JF 8=true from rfl,Zgr (Zm3 c.a arg).symm];exact Za (QY (c.a,())) (Za (QY (arg,())) (Za (VR c (Yo .i64 (c.a%256) (arg%256))) rfl))
theorem ZqQ (c:Zq) (arg v:Int) (hc:ZO c):r287 (c.t,(((9:Int),(arg,())),(v,())))=some (((YD c 9 arg v).t,(JF 9,())),()):=by
 have hx:=hc.x;unfold r287 m287;dsimp only;rw[Zi (show (9:Int)≠1 by decide),Zd,Zi (show (9:Int)≠2 by decide),Zd,Zi (show (9:Int)≠14 by decide),Zd,Zi (show (9:Int)≠4 by decide),Zd,Zi (show (9:Int)≠29 by decide),Zd,Zi (show (9:Int)≠5 by decide),Zd,Zi (show (9:Int)≠6 by decide),Zd,Zi (show (9:Int)≠7 by decide),Zd,Zi (show (9:Int)≠8 by decide),Zd,Zn (show (9:Int)=9 from rfl),Zb];have e:wI (c.a%256-arg%256)=c.a%256-arg%256:=Zr (by omega) (by omega);have k:r330 (wI (c.a%256-arg%256),())=some ((eqI ((c.a%256-arg%256)%256) 0,(ltI 127 ((c.a%256-arg%256)%256),())),()):=by rw[e];exact Zck (c.a%256-arg%256,())
 rw[show YD c 9 arg v=Zrt c arg by simp[YD,KL,K8],show JF 9=true from rfl];exact Za (QY (c.a,())) (Za (QY (arg,())) (Za k (Za (QY (c.a,())) (Za (QY (arg,())) rfl))))
theorem Zpm (c:Zq) (arg v:Int) (hc:ZO c):r287 (c.t,(((12:Int),(arg,())),(v,())))=some (((YD c 12 arg v).t,(JF 12,())),()):=by
 have hx:=hc.x;unfold r287 m287;simp only[Qo,Int.reduceEq,decide_true,decide_false,Zb,Zd];have e:wI (c.x%256+1)=c.x+1:=by rw[Zr (by omega) (by omega)];omega
 have k:r331 (c.t,(wI (c.x%256+1),()))=some (((VM c (c.x+1)).t,()),()):=by rw[e];exact Zc5 c (c.x+1)
 rw[show YD c 12 arg v=VM c (c.x+1)from rfl,show JF 12=true from rfl];exact Za (QY (c.x,())) (Za k rfl)
theorem Zpn (c:Zq) (arg v:Int) (hc:ZO c):r287 (c.t,(((13:Int),(arg,())),(v,())))=some (((YD c 13 arg v).t,(JF 13,())),()):=by
 have hx:=hc.x;unfold r287 m287;simp only[Qo,Int.reduceEq,decide_true,decide_false,Zb,Zd];have e:wI (c.x%256-1)=c.x-1:=by rw[Zr (by omega) (by omega)];omega
 have k:r331 (c.t,(wI (c.x%256-1),()))=some (((VM c (c.x-1)).t,()),()):=by rw[e];exact Zc5 c (c.x-1)
 rw[show YD c 13 arg v=VM c (c.x-1)from rfl,show JF 13=true from rfl];exact Za (QY (c.x,())) (Za k rfl)
theorem Zpo (c:Zq) (op arg v:Int) (hc:ZO c):r287 (c.t,((op,(arg,())),(v,())))=some (((YD c op arg v).t,(JF op,())),()):=by
 by_cases h:0≤op∧op≤29
 ·rcases Kk h with rfl|rfl|rfl|rfl|rfl|rfl|rfl|rfl|rfl|rfl|rfl|rfl|rfl|rfl|rfl|rfl|rfl|rfl|rfl|rfl|rfl|rfl|rfl|rfl|rfl|rfl|rfl|rfl|rfl|rfl
  ·unfold r287 m287;simp only[Qo,Int.reduceEq,decide_true,decide_false,Zb,Zd];rfl
  ·unfold r287 m287;simp only[Qo,Int.reduceEq,decide_true,decide_false,Zb,Zd];exact Za (VR c arg) rfl
  ·unfold r287 m287;simp only[Qo,Int.reduceEq,decide_true,decide_false,Zb,Zd];exact Za (VR c v) rfl
  ·unfold r287 m287;simp only[Qo,Int.reduceEq,decide_true,decide_false,Zb,Zd];rfl
  ·unfold r287 m287;simp only[Qo,Int.reduceEq,decide_true,decide_false,Zb,Zd];exact Za (Zlj c arg) rfl
  ·unfold r287 m287;simp only[Qo,Int.reduceEq,decide_true,decide_false,Zb,Zd];exact Za (ZkR (c.a,(arg,(c.c,())))) (Za (VR c (Xb c.a arg c.c%256)) rfl)
  ·exact ZqN c arg v hc
  ·exact ZqO c arg v hc
  ·exact ZqP c arg v hc
  ·exact ZqQ c arg v hc
  ·unfold r287 m287;simp only[Qo,Int.reduceEq,decide_true,decide_false,Zb,Zd];exact Za (Zc5 c c.a) rfl
  ·unfold r287 m287;simp only[Qo,Int.reduceEq,decide_true,decide_false,Zb,Zd];exact Za (VR c c.x) rfl
  ·exact Zpm c arg v hc
  ·exact Zpn c arg v hc
  ·unfold r287 m287;simp only[Qo,Int.reduceEq,decide_true,decide_false,Zb,Zd];exact Za (VR c v) rfl
  ·unfold r287 m287;simp only[Qo,Int.reduceEq,decide_true,decide_false,Zb,Zd];rfl
  ·unfold r287 m287;simp only[Qo,Int.reduceEq,decide_true,decide_false,Zb,Zd];rfl
  ·unfold r287 m287;simp only[Qo,Int.reduceEq,decide_true,decide_false,Zb,Zd];rfl
  ·unfold r287 m287;simp only[Qo,Int.reduceEq,decide_true,decide_false,Zb,Zd];rfl
  ·unfold r287 m287;simp only[Qo,Int.reduceEq,decide_true,decide_false,Zb,Zd];rfl
  ·unfold r287 m287;simp only[Qo,Int.reduceEq,decide_true,decide_false,Zb,Zd];rfl
  ·unfold r287 m287;simp only[Qo,Int.reduceEq,decide_true,decide_false,Zb,Zd];rfl
  ·unfold r287 m287;simp only[Qo,Int.reduceEq,decide_true,decide_false,Zb,Zd];rfl
  ·unfold r287 m287;simp only[Qo,Int.reduceEq,decide_true,decide_false,Zb,Zd];rfl
  ·unfold r287 m287;simp only[Qo,Int.reduceEq,decide_true,decide_false,Zb,Zd];rfl
  ·unfold r287 m287;simp only[Qo,Int.reduceEq,decide_true,decide_false,Zb,Zd];rfl
  ·unfold r287 m287;simp only[Qo,Int.reduceEq,decide_true,decide_false,Zb,Zd];rfl
  ·unfold r287 m287;simp only[Qo,Int.reduceEq,decide_true,decide_false,Zb,Zd];rfl
  ·unfold r287 m287;simp only[Qo,Int.reduceEq,decide_true,decide_false,Zb,Zd];rfl
  ·unfold r287 m287;simp only[Qo,Int.reduceEq,decide_true,decide_false,Zb,Zd];exact Za (Zlj c v) rfl
 ·have e:=Zfx h;have ea:JF op=false:=Zw (by omega);unfold r287 m287 YD;rw[ZaZ h,ea];simp[e]
theorem Zjj (x:ZF) (c:Zq) (h:JK x) (hc:ZO c):r288 (x.t,(c.t,()))=some (((Zm4 x c).t,()),()):=by
 unfold r288 m288;exact Za (ZbP x c h hc) (Za (ZbP x (Yv c) h (WY hc)) (Za (ZaR (Yd x c,(Yd x (Yv c),()))) rfl))
theorem Zao (x:ZF) (c:Zq) (op arg v:Int) (h:JK x) (hc:ZO c):r236 (x.t,(c.t,((op,(arg,())),(v,()))))=some (((V3 x c op).t,((WE x c op arg v).t,())),()):=by
 unfold r236 m236;have hp:=ZdT (op:=op) hc;have k1:r222 (wI (c.pc+Qh op),())=some (((c.pc+Qh op)%65536,()),()):=by
  rw[VQ (wI (c.pc+Qh op),()),Zp4 hc]
 refine Za (Zdw x h.len) (Za (Za7 (op,())) (Za k1 (Za (Zpo (Jj c op) op arg v hp) ?_)));unfold V3 WE;have hz: ∀{a b:Zq},a=b→a.z=b.z:=fun h=>by rw[h]
 by_cases ho:0≤op∧op≤29
 ·rcases Kk ho with rfl|rfl|rfl|rfl|rfl|rfl|rfl|rfl|rfl|rfl|rfl|rfl|rfl|rfl|rfl|rfl|rfl|rfl|rfl|rfl|rfl|rfl|rfl|rfl|rfl|rfl|rfl|rfl|rfl|rfl<;>simp only[Qo,Int.reduceEq,decide_true,decide_false,Zb,Zd]
  ·rfl
  ·rfl
  ·rfl
  ·rfl
  ·rfl
  ·rfl
  ·rfl
  ·rfl
  ·rfl
  ·rfl
  ·rfl
  ·rfl
  ·rfl
  ·rfl
  ·rfl
  ·rfl
  ·rw[show JF 16=false from rfl,Zd];obtain ⟨a,x',s,pc,z,n,cc,i⟩:=c;cases z<;>simp only[Zq.t,QE,ZM,Zb,Zd]
   ·exact Za (VQ (arg,())) rfl
   ·rfl
  ·rw[show JF 17=false from rfl,Zd];obtain ⟨a,x',s,pc,z,n,cc,i⟩:=c;cases z<;>simp only[Zq.t,QE,ZM,Zb,Zd]
   ·rfl
   ·exact Za (VQ (arg,())) rfl
  ·rw[show JF 18=false from rfl,Zd];obtain ⟨a,x',s,pc,z,n,cc,i⟩:=c;cases cc<;>simp only[Zq.t,QE,ZM,Zb,Zd]
   ·rfl
   ·exact Za (VQ (arg,())) rfl
  ·rw[show JF 19=false from rfl,Zd];exact Za (VQ (arg,())) rfl
  ·rw[show JF 20=false from rfl,Zd];exact Za (Zaq x (Jj c 20) (shr8 (Jj c 20).pc) h hp) (Za (Zaq (Kn x (Jj c 20) (shr8 (Jj c 20).pc)) (Km (Jj c 20)) (Jj c 20).pc (UP h _ _) (UO hp)) (Za (VQ (arg,())) rfl))
  ·rw[show JF 21=false from rfl,Zd];exact Za (Zjj x (Jj c 21) h hp) rfl
  ·rw[show JF 22=false from rfl,Zd];exact Za (Zaq x (Jj c 22) (Jj c 22).a h hp) rfl
  ·rw[show JF 23=false from rfl,Zd];exact Za (ZbP x (Jj c 23) h hp) (Za (VR (Yv (Jj c 23)) (Yd x (Jj c 23))) rfl)
  ·rw[show JF 24=false from rfl,Zd];exact Za (ZbP x (Jj c 24) h hp) (Za (Ze0 (Yv (Jj c 24)) (Yd x (Jj c 24))) (Za (Zjj x (wfT (Yv (Jj c 24)) (Yd x (Jj c 24))) h (Zrg (WY hp))) rfl))
  ·rfl
  ·rfl
  ·rfl
  ·rfl
  ·rfl
 ·have e:=Zfx ho;have ea:JF op=false:=Zw (by omega);have e1:K4 x (Jj c op) op=x:=by
   unfold K4;rw[Zc (by omega),Zc (by omega)]
  have e2:WH x (Jj c op) op arg=Jj c op:=by
   unfold WH;rw[Zc (by omega),Zc (by omega),Zc (by omega),Zc (by omega),Zc (by omega),Zc (by omega),Zc (by omega),Zc (by omega),Zc (by omega)]
  rw[e1,e2,ZaZ ho,Zef ho,ea];simp[e];rfl
theorem Zk7 (x:ZF) (c:Zq) (to:Int) (h:JK x) (hc:ZO c):r197 (x.t,(c.t,(to,())))=some ((),((XY x c).t,((ZiY c to).t,()))):=by
 unfold r197 m197;exact Za (ZjD x c h hc) (Za (Zi8 (Wd c)) (Za (ZbA (UQ x c) (Wd c) (Uz (Wd c)) (ZdE h) (ZdD hc)) rfl))
theorem ZlS {f:List (List Int)} {x y:ZF} {v:Int} (hv:65530≤v∧v≤65535):ZR f x v=ZR f y v:=by
 have e:(rgT v).1=6:=by
  unfold rgT;simp only;rw[show v%65536=v by omega,Zc (by omega),Zc (by omega),Zc (by omega),Zc (by omega),Zc (by omega),Zc (by omega)]
 unfold ZR;rw[e,Zc (by decide),Zc (by decide),Ze rfl,Zc (by decide),Zc (by decide)]
theorem ZpS {f:List (List Int)} {x y:ZF} {v:Int} (hv:65530≤v∧v≤65534):Vh f x v=Vh f y v:=by
 unfold Vh;rw[ZlS (x:=x) (y:=y) (v:=v) (by omega),ZlS (x:=x) (y:=y) (v:=v+1) (by omega)]
theorem Zaw (f:List (List Int)) (x:ZF) (c:Zq) (v:Int) (h:Jz f x) (hc:ZO c) (hv:65530≤v∧v≤65534):
  r232 ((f,()),(x.t,(c.t,(v,()))))=some (((XY x c).t,((ZiY c (Vh f x v)).t,())),()):=by
 have hm:Jz f (XY x c):=h.of_ram (Zh9 h.ram) rfl;have e:wI (v+1)=v+1:=Zr (by omega) (by omega);have k:=Zap f (XY x c) (v+1) hm;rw[←e]at k;unfold r232 m232;refine Za (Zdw x h.ram.len) (Za (ZjP c) (Za (Zaq x c (shr8 c.pc) h.ram hc) (Za (Zaq (Kn x c (shr8 c.pc)) (Km c) c.pc (UP h.ram _ _) (UO hc))
  (Za (Zaq (UQ x c) (Wd c) (Uz c) (ZdE h.ram) (ZdD hc)) (Za (Zap f (XY x c) v hm) (Za k (Za (ZaR (ZR f (XY x c) v,(ZR f (XY x c) (wI (v+1)),()))) ?_)))))))
 rw[ZpS (x:=x) (y:=XY x c) hv];unfold Vh;rw[e];rfl
theorem Zn1 {f:List (List Int)} {x:ZF} {pc:Int} (h:Jz f x) (hp:0≤pc∧pc≤65535) (k:Int) (hk:k=1∨k=2):r198 ((f,()),(x.t,(wI (pc+k),())))=some ((ZR f x (pc+k),()),()):=by
 rw[Zr (by omega) (by omega)];exact V6 f x (pc+k) h
theorem Zn2 {f:List (List Int)} {x:ZF} {pc:Int} (h:Jz f x) (hp:0≤pc∧pc≤65535) (k:Int) (hk:k=1∨k=2):r144 ((f,()),(x.t,(wI (pc+k),())))=some ((ZR f x (pc+k),()),()):=by
 rw[Zr (by omega) (by omega)];exact Zap f x (pc+k) h
theorem Zct (f:List (List Int)) (x:ZF) (pc:Int) (h:Jz f x) (hp:0≤pc∧pc≤65535):r191 ((f,()),(x.t,(pc,())))=some (((opT f x pc,(VY f x pc,())),()),()):=by
 unfold r191 m191;refine Za (V6 f x pc h) (Za (ZaY (ZR f x pc,())) ?_);show (bif eqI (Qh (ZR f x pc)) 2 then _ else bif eqI (Qh (ZR f x pc)) 3 then _ else _)=_
 unfold VY opT;by_cases c2:Qh (ZR f x pc)=2
 ·rw[Zn c2,Ze c2];exact Za (Zn1 h hp 1 (.inl rfl)) rfl
 rw[Zi c2,Zc c2,Zd];by_cases c3:Qh (ZR f x pc)=3
 ·rw[Zn c3,Ze c3];exact Za (Zn1 h hp 1 (.inl rfl)) (Za (Zn1 h hp 2 (.inr rfl)) (Za (Zal (ZR f x (pc+1),(ZR f x (pc+2),()))) rfl))
 ·rw[Zi c3,Zc c3];rfl
theorem Zax (f:List (List Int)) (x:ZF) (pc:Int) (h:Jz f x) (hp:0≤pc∧pc≤65535):r157 ((f,()),(x.t,(pc,())))=some (((opT f x pc,(VY f x pc,())),()),()):=by
 unfold r157 m157;refine Za (Zap f x pc h) (Za (Za7 (ZR f x pc,())) ?_);show (bif eqI (Qh (ZR f x pc)) 2 then _ else bif eqI (Qh (ZR f x pc)) 3 then _ else _)=_
 unfold VY opT;by_cases c2:Qh (ZR f x pc)=2
 ·rw[Zn c2,Ze c2];exact Za (Zn2 h hp 1 (.inl rfl)) rfl
 rw[Zi c2,Zc c2,Zd];by_cases c3:Qh (ZR f x pc)=3
 ·rw[Zn c3,Ze c3];exact Za (Zn2 h hp 1 (.inl rfl)) (Za (Zn2 h hp 2 (.inr rfl)) (Za (ZaR (ZR f x (pc+1),(ZR f x (pc+2),()))) rfl))
 ·rw[Zi c3,Zc c3];rfl
theorem ZbF (op:Int):ZT op=0∨ZT op=1∨ZT op=2:=by
 unfold ZT;split
 ·exact .inr (.inl rfl)
 split
 ·exact .inr (.inr rfl)
 ·exact .inl rfl
theorem ZaA (op arg:Int) (c:Zq) (hc:ZO c) (ha:0≤arg∧arg≤65535):r192 ((op,(arg,())),(c.t,()))=some ((ZT op,(QZ op arg c.x,(Y1 op c.a,()))),()):=by
 have hx:=hc.x;have e:wI (arg+c.x)=arg+c.x:=Zr (by omega) (by omega);have k:r252 (wI (arg+c.x),())=some (((arg+c.x)%65536,()),()):=by rw[ZaM (wI (arg+c.x),()),e]
 unfold r192 m192;refine Za (ZfQ (op,())) (Za (ZaM (arg,())) ?_);show (bif eqI op 14 then _ else bif eqI op 15 then _ else bif eqI (ZT op) 1 then _ else bif eqI (ZT op) 2 then _ else _)=_
 unfold QZ Y1;by_cases c1:op=14
 ·subst c1;rw[Zn rfl,Zb];exact Za k rfl
 by_cases c2:op=15
 ·subst c2;rw[Zi (show (15:Int)≠14 by decide),Zn rfl,Zb,Zd];refine Za k ?_;simp only[show ZT 15=2 from rfl,Qo,Int.reduceEq,decide_true,decide_false,Zb,Zd];exact Za (Xp (c.a,())) rfl
 rw[Zi c1,Zi c2,Zd,Zd,Zc (c:=op=14∨op=15) (by omega)];rcases ZbF op with o|o|o<;>rw[o]<;>simp only[Qo,Int.reduceEq,decide_true,decide_false,Zb,Zd]
 ·rfl
 ·rfl
 ·exact Za (Xp (c.a,())) rfl
theorem Zaj (op arg:Int) (c:Zq) (hc:ZO c) (ha:0≤arg∧arg≤65535):r158 ((op,(arg,())),(c.t,()))=some ((ZT op,(QZ op arg c.x,(Y1 op c.a,()))),()):=by
 have hx:=hc.x;have e:wI (arg+c.x)=arg+c.x:=Zr (by omega) (by omega);have k:r222 (wI (arg+c.x),())=some (((arg+c.x)%65536,()),()):=by rw[VQ (wI (arg+c.x),()),e]
 unfold r158 m158;refine Za (ZgC (op,())) ?_;show (bif eqI (ZT op) 0 then _ else bif eqI op 14 then _ else bif eqI op 15 then _ else bif eqI (ZT op) 1 then _ else _)=_
 unfold QZ Y1;by_cases c1:op=14
 ·subst c1;rw[show ZT 14=1 from rfl,Zi (show (1:Int)≠0 by decide),Zn (show (14:Int)=14 from rfl),Zb,Zd,Zn (show (1:Int)=1 from rfl),Zb];exact Za k rfl
 by_cases c2:op=15
 ·subst c2;rw[show ZT 15=2 from rfl,Zi (show (2:Int)≠0 by decide),Zi (show (15:Int)≠14 by decide),Zn (show (15:Int)=15 from rfl),Zb,Zd,Zd,Zi (show (2:Int)≠1 by decide),Zd];exact Za k (Za (QY (c.a,())) rfl)
 rw[Zi c1,Zi c2,Zd,Zd,Zc (c:=op=14∨op=15) (by omega)];rcases ZbF op with o|o|o<;>rw[o]<;>simp only[Qo,Int.reduceEq,decide_true,decide_false,Zb,Zd]
 ·rfl
 ·exact Za (VQ (arg,())) rfl
 ·exact Za (VQ (arg,())) (Za (QY (c.a,())) rfl)
theorem ZrQ {t:Int} (h:0≤t):mxI t 0=t:=by unfold mxI;rw[Zc (by omega)]
theorem ZgV (t:Int) (ht:0≤t∧t≤20000):r334 (t,())=some ((t/64,()),()):=by
 unfold r334 m334;show some ((wI (Int.tdiv (mxI t 0) 64),()),())=_;rw[ZrQ ht.1,Ua ht.1,Zr (by omega) (by omega)]
theorem Zlh (a b:Int):r105 (a,(b,()))=some ((if b<a then a else b,()),()):=by
 unfold r105 m105;show (bif ltI b a then _ else _)=_
 by_cases h:b<a
 ·rw[Zl h,Ze h];rfl
 ·rw[Zx h,Zc h];rfl
theorem Zli (a b:Int):r104 (a,(b,()))=some ((if a<b then a else b,()),()):=by
 unfold r104 m104;show (bif ltI a b then _ else _)=_
 by_cases h:a<b
 ·rw[Zl h,Ze h];rfl
 ·rw[Zx h,Zc h];rfl
theorem ZnF {t:Int} (h:0≤t):r105 (t,((0:Int),()))=some ((t,()),()):=by
 rw[Zlh];by_cases h0:0<t
 ·rw[Ze h0]
 ·rw[Zc h0,show t=0 by omega]
theorem Zg5 (t:Int) (ht:0≤t∧t≤20000):r341 (t,())=some ((t/64,()),()):=by
 unfold r341 m341;refine Za (ZnF ht.1) ?_;show some ((wI (Int.tdiv t 64),()),())=_;rw[Ua ht.1,Zr (by omega) (by omega)]
theorem ZeI (l:List Int) (t:Int) (h:YN l) (ht:0≤t∧t≤20000):r302 (l,(t,()))=some ((XG l t,()),()):=by
 have hl:=h.len;unfold r302 m302 XG;refine Za (by rw[Zby l (by omega),UN.2 h]) ?_;show (bif eqI (l.length:Int) 0 then _ else _)=_
 by_cases h0:l.length=0
 ·rw[Zn (by omega),Ze h0];rfl
 rw[Zi (by omega),Zc h0,Zd];refine Za (ZgV t ht) ?_;have hm:Int.tmod (t/64) (l.length:Int)=(t/64)% (l.length:Int):=Qx (by omega);have b0:=Int.emod_nonneg (t/64) (show (l.length:Int)≠0 by omega);have b1:=Int.emod_lt_of_pos (t/64) (show 0< (l.length:Int) by omega);show (bif neI (l.length:Int) 0 then (bif leI 0 (Int.tmod (t/64) (l.length:Int))then (bif ltI (Int.tmod (t/64) (l.length:Int)) (l.length:Int)then some ((rdE .i l (Int.tmod (t/64) (l.length:Int)),()),())else none)else none)else none)=_
 rw[QS (by omega),hm,Zp b0,Zl b1];rfl
theorem ZeR (l:List Int) (t:Int) (h:YN l) (ht:0≤t∧t≤20000):r327 (l,(t,()))=some ((XG l t,()),()):=by
 have hl:=h.len;unfold r327 m327 XG;refine Za (by rw[ZbO l (by omega),UN.2 h]) ?_;show (bif eqI (l.length:Int) 0 then _ else _)=_
 by_cases h0:l.length=0
 ·rw[Zn (by omega),Ze h0];rfl
 rw[Zi (by omega),Zc h0,Zd];refine Za (Zg5 t ht) ?_;have hm:Int.tmod (t/64) (l.length:Int)=(t/64)% (l.length:Int):=Qx (by omega);have b0:=Int.emod_nonneg (t/64) (show (l.length:Int)≠0 by omega);have b1:=Int.emod_lt_of_pos (t/64) (show 0< (l.length:Int) by omega);show (bif neI (l.length:Int) 0 then (bif leI 0 (Int.tmod (t/64) (l.length:Int))then (bif ltI (Int.tmod (t/64) (l.length:Int)) (l.length:Int)then some ((rdE .i l (Int.tmod (t/64) (l.length:Int)),()),())else none)else none)else none)=_
 rw[QS (by omega),hm,Zp b0,Zl b1];rfl
theorem Zb5 (x:YC) (l:List Int) (t v:Int) (h:YN l) (ht:0≤t∧t≤20000):r259 (x.t,(l,(t,(v,()))))=some (((Ud x l t v).t,()),()):=by
 unfold r259 m259 Ud;show (bif eqI (ZL .i64 v 1) 1 then (r302 (l,(t,()))).bind (fun r0=>some (((eqI (ZL .i64 v 1) 1,r0.1),()),()))else bif x.held then (r302 (l,(t,()))).bind (fun r0=>some (((eqI (ZL .i64 v 1) 1,r0.1),()),()))else some (((eqI (ZL .i64 v 1) 1,(x.shift,())),()),()))=_
 rw[U5,ZeI l t h ht];cases eqI (v%2) 1<;>cases x.held<;>rfl
theorem Zch (x:YC) (l:List Int) (t v:Int) (h:YN l) (ht:0≤t∧t≤20000):r285 (x.t,(l,(t,(v,()))))=some (((Ud x l t v).t,()),()):=by
 unfold r285 m285 Ud;show (bif x.held then (r327 (l,(t,()))).bind (fun r0=>some (((eqI (ZL .i64 v 1) 1,r0.1),()),()))else bif eqI (ZL .i64 v 1) 1 then (r327 (l,(t,()))).bind (fun r0=>some (((eqI (ZL .i64 v 1) 1,r0.1),()),()))else some (((eqI (ZL .i64 v 1) 1,(x.shift,())),()),()))=_
 rw[U5,ZeR l t h ht];cases eqI (v%2) 1<;>cases x.held<;>rfl
theorem Zp3 (x:Int):Int.fdiv x ((2:Int)^(Min.min (Int.toNat (1:Int)) (64:Nat)))=x/2:=Int.fdiv_eq_ediv_of_nonneg x (by decide)
theorem ZcL (x:YC) (l:List Int) (t:Int) (h:YN l) (ht:0≤t∧t≤20000):r258 (x.t,(l,(t,())))=some (((WZ x l t).t,(Vc x l t,())),()):=by
 unfold r258 m258 WZ Vc;show (bif x.held then (r302 (l,(t,()))).bind (fun r0=>some (((true,r0.1),(ZL .i64 r0.1.1 1,())),()))else some (((false,(Int.fdiv x.shift ((2:Int)^(Min.min (Int.toNat (1:Int)) (64:Nat))),())),(ZL .i64 x.shift 1,())),()))=_
 rw[ZeI l t h ht,Zp3,U5];cases x.held
 ·rfl
 ·show some (((true,(XG l t,())),(ZL .i64 (XG l t) 1,())),())=_;rw[U5];rfl
theorem ZcR (x:YC) (l:List Int) (t:Int) (h:YN l) (ht:0≤t∧t≤20000):r284 (x.t,(l,(t,())))=some (((WZ x l t).t,(Vc x l t,())),()):=by
 unfold r284 m284 WZ Vc;show (bif x.held then (r327 (l,(t,()))).bind (fun r0=>some (((x.held,r0.1),(ZL .i64 r0.1.1 1,())),()))else some (((x.held,(Int.fdiv x.shift ((2:Int)^(Min.min (Int.toNat (1:Int)) (64:Nat))),())),(ZL .i64 x.shift 1,())),()))=_
 rw[ZeR l t h ht,Zp3,U5];cases x.held
 ·rfl
 ·show some (((true,(XG l t,())),(ZL .i64 (XG l t) 1,())),())=_;rw[U5];rfl
theorem ZdW (t:Int) (ht:0≤t∧t≤20000):r264 (t,())=some ((t,()),()):=by
 unfold r264 m264;show some ((mnI (mxI t 0) 20000,()),())=_;rw[ZrQ ht.1];unfold mnI;rw[Zc (by omega)]
theorem Zau (t rest by':Int) (ht:0≤t∧t≤20000) (hr:0≤rest∧rest<by') (hb:by'=32∨by'=64):r181 (t,(rest,(by',())))=some (((t+(by'-1-rest))/by',()),()):=by
 unfold r181 m181;show (bif neI by' 0 then some ((wI (Int.tdiv (wI (wI (wI (t+by')-1)-rest)) by'),()),())else none)=_
 rw[QS (by omega),Zr (x:=t+by') (by omega) (by omega),Zr (x:=t+by'-1) (by omega) (by omega),Zr (x:=t+by'-1-rest) (by omega) (by omega),Ua (by omega),show t+by'-1-rest=t+(by'-1-rest) by omega];rcases hb with rfl|rfl
 ·rw[Zr (by omega) (by omega)];rfl
 ·rw[Zr (by omega) (by omega)];rfl
theorem Zdk (a b:Int) (ha:0≤a∧a≤20000) (hb:0≤b∧b≤20000):r196 (a,(b,()))=some ((JZ a b,()),()):=by
 unfold r196 m196 r202 m202;exact Za (Za (ZdW a ha) (Za (Zau a 0 32 ha (by decide) (.inl rfl)) (Za (ZdW b hb) (Za (Zau b 0 32 hb (by decide) (.inl rfl)) rfl)))) rfl
theorem ZgT (a b:Int) (ha:0≤a∧a≤20000) (hb:0≤b∧b≤20000):r133 (a,(b,()))=some ((ZiT a b,()),()):=by
 unfold r133 m133 r202 m202;exact Za (Za (ZdW a ha) (Za (Zau a 48 64 ha (by decide) (.inr rfl)) (Za (ZdW b hb) (Za (Zau b 48 64 hb (by decide) (.inr rfl)) rfl)))) rfl
theorem ZnH (a b rest by':Int) (ha:0≤a∧a≤20000) (hb:0≤b∧b≤20000) (hr:0≤rest∧rest<by') (hy:by'=32∨by'=64):
  r220 (a,(b,(rest,(by',()))))=some ((if b≤a then false else decide (a+(rest-a%by'+by')%by'<b),()),()):=by
 unfold r220 m220;refine Za (ZnF ha.1) (Za (y:=((b,()),())) ?_ ?_)
 ·show r104 (b,((20000:Int),()))=_;rw[Zli];by_cases h:b<20000
  ·rw[Ze h]
  ·rw[Zc h,show b=20000 by omega]
 show (bif leI b a then _ else bif neI by' 0 then (bif neI by' 0 then some ((ltI (wI (a+Int.tmod (wI (wI (rest-Int.tmod a by')+by')) by')) b,()),())else none)else none)=_
 by_cases h:b≤a
 ·rw[Zp h,Ze h];rfl
 have hm:=Int.emod_nonneg a (show by'≠0 by omega);have hm2:=Int.emod_lt_of_pos a (show 0<by' by omega);have hm3:=Int.emod_lt_of_pos (rest-a%by'+by') (show 0<by' by omega);have hm4:=Int.emod_nonneg (rest-a%by'+by') (show by'≠0 by omega);rw[JG h,Zc h,QS (by omega),Qx ha.1,Zr (x:=rest-a%by') (by omega) (by omega),Zr (x:=rest-a%by'+by') (by omega) (by omega),Qx (by omega),Zr (by omega) (by omega)];rfl
theorem ZbK (a b:Int) (ha:0≤a∧a≤20000) (hb:0≤b∧b≤20000):r154 (a,(b,()))=some ((JZ a b,()),()):=by
 unfold r154 m154;refine Za (ZnH a b 0 32 ha hb (by decide) (.inl rfl)) ?_;have:(if b≤a then false else decide (a+(0-a%32+32)%32<b))=JZ a b:=by
  unfold JZ;split
  ·exact (Zw (by omega)).symm
  ·by_cases h:a+(0-a%32+32)%32<b
   ·rw[ZB h];exact (ZB (by omega)).symm
   ·rw[Zw h];exact (Zw (by omega)).symm
 rw[this]
theorem Zg3 (a b:Int) (ha:0≤a∧a≤20000) (hb:0≤b∧b≤20000):r167 (a,(b,()))=some ((ZiT a b,()),()):=by
 unfold r167 m167;refine Za (ZnH a b 48 64 ha hb (by decide) (.inr rfl)) ?_;have:(if b≤a then false else decide (a+(48-a%64+64)%64<b))=ZiT a b:=by
  unfold ZiT;split
  ·exact (Zw (by omega)).symm
  ·by_cases h:a+(48-a%64+64)%64<b
   ·rw[ZB h];exact (ZB (by omega)).symm
   ·rw[Zw h];exact (Zw (by omega)).symm
 rw[this]
theorem ZqA {l:List Rc} {t:Int} (h:due l t=true):0<l.length:=by
 obtain ⟨e,_⟩:=Zcs h;rw[e];simp
theorem Zlw (cap t:Int) (l:List Rc) (h:due l t=true):r243 ((cap,(l,())),(t,()))=some ((((JD l).1,((JD l).2.1,((JD l).2.2,()))),(true,())),((cap,(l.tail,())),())):=by
 obtain ⟨e,e1⟩:=Zcs h;have hl:=ZqA h;unfold r243 m243;have hd:rdE .t l (0:Int)=JD l:=by rw[e];rfl
 have ht:List.drop (Int.toNat (1:Int)) l=l.tail:=by rw[e];rfl
 show (bif eqI (l.length:Int) 0 then _ else bif ltI 0 (l.length:Int)then (bif neI (rdE .t l (0:Int)).1 t then _ else bif ltI 0 (l.length:Int)then (bif leI 1 (l.length:Int)then some ((((rdE .t l (0:Int)).1,((rdE .t l (0:Int)).2.1,((rdE .t l (0:Int)).2.2,()))),(true,())),((cap,(List.drop (Int.toNat (1:Int)) l,())),()))else none)else none)else none)=_
 rw[Zi (by omega),Zl (by omega),Zp (by omega),hd,ht,Ja e1];rfl
theorem Zlx (cap t:Int) (l:List Rc) (h:due l t=false):r243 ((cap,(l,())),(t,()))=some ((((0:Int),((0:Int),((0:Int),()))),(false,())),((cap,(l,())),())):=by
 unfold r243 m243;cases l with
 |nil=>rfl
 |cons x l=>
  have h:x.1≠t:=by simpa [due] using h
  show (bif eqI ((x::l).length:Int) 0 then _ else bif ltI 0 ((x::l).length:Int)then (bif neI x.1 t then _ else _)else none)=_
  rw[Zi (by simp only[List.length_cons];omega),Zl (by simp only[List.length_cons];omega),QS h];rfl
theorem ZlP {t mark:Int}:leI (mnI mark 20000) t= !decide (t<mark∧t<20000):=by
 unfold mnI;split
 ·by_cases h:t<mark∧t<20000
  ·rw[JG (by omega),ZB h];rfl
  ·rw[Zp (by omega),Zw h];rfl
 ·by_cases h:t<mark∧t<20000
  ·rw[JG (by omega),ZB h];rfl
  ·rw[Zp (by omega),Zw h];rfl
theorem ZeG {w:Q5} (h:JY w):w.frames.length≤1000:=by
 have h1:=h.ppu.t;have h2:=h.frn;unfold YF at h2;omega
theorem ZdJ {w:Q6} (h:JL w):w.samples.length≤2000:=by
 have h1:=h.apu.t;have h2:=h.sam;omega
theorem Zc9 (p:Z2) (reg v:Int):(Yj p reg v).dots=p.dots:=by
 unfold Yj
 repeat' split
 all_goals rfl
theorem ZbT (p:Z2):(Jx p).table=p.table:=by
 unfold Jx
 repeat' split
 all_goals rfl
theorem ZcE (p:Z2) (reg:Int):(Yf p reg).table=p.table∧(Yf p reg).dots=p.dots:=by
 unfold Yf
 repeat' split
 all_goals exact ⟨rfl,rfl⟩
theorem ZhH (w:Q5) (mark:Int) (h:JY w):r182 (w.t,(mark,()))=some (((Jn w mark).isSome,()),(((Jn w mark).getD w).t,())):=by
 have hf:=ZeG h;unfold r182 m182 Jn;cases hd:due w.list w.ppu.T with
 |true=>
  rw[Ze rfl];refine Za (Zlw w.cap w.ppu.T w.list hd) (Za (ZlY w.ppu h.ppu (JD w.list).2.1 (JD w.list).2.2) ?_);have e:=Zc9 w.ppu (JD w.list).2.1 (JD w.list).2.2;generalize Yj w.ppu (JD w.list).2.1 (JD w.list).2.2=q at e⊢;obtain ⟨T,c,s,ad,pal,bl,tb,ds⟩:=q;have e:ds=w.ppu.dots:=e;subst e;rfl
 |false=>
  rw[Zc (by simp)];refine Za (Zlx w.cap w.ppu.T w.list hd) ?_;show (bif leI (mnI mark 20000) w.ppu.T then _ else _)=_
  rw[ZlP];by_cases hm:w.ppu.T<mark∧w.ppu.T<20000
  ·rw[ZB hm,Ze hm];refine Za (ZoK w.ppu h.ppu hm.2) ?_;have e:=ZbT w.ppu;generalize Jx w.ppu=q at e⊢;obtain ⟨T,c,s,ad,pal,bl,tb,ds⟩:=q;have e:tb=w.ppu.table:=e;subst e;cases ht:JQ w.ppu with
   |true=>
    show (bif leN (w.frames.length+1) (E.most .n)then _ else none)=_
    rw[ZI (by simp only[E.most];omega)];rfl
   |false=>rfl
  ·rw[Zw hm,Zc hm];rfl
theorem ZhN (w:Q6) (mark:Int) (h:JL w):r183 (w.t,(mark,()))=some (((Jo w mark).isSome,()),(((Jo w mark).getD w).t,())):=by
 have hf:=ZdJ h;unfold r183 m183 Jo;cases hd:due w.list w.apu.T with
 |true=>
  rw[Ze rfl];exact Za (Zlw w.cap w.apu.T w.list hd) (Za (Zb2 w.apu h.apu (JD w.list).2.1 (JD w.list).2.2) rfl)
 |false=>
  rw[Zc (by simp)];refine Za (Zlx w.cap w.apu.T w.list hd) ?_;show (bif leI (mnI mark 20000) w.apu.T then _ else _)=_
  rw[ZlP];by_cases hm:w.apu.T<mark∧w.apu.T<20000
  ·rw[ZB hm,Ze hm];refine Za (Zhb w.apu h.apu hm.2) ?_;cases ht:YK w.apu with
   |true=>
    show (bif leN (w.samples.length+1) (E.most .i)then _ else none)=_
    rw[ZI (by simp only[E.most];omega)];rfl
   |false=>rfl
  ·rw[Zw hm,Zc hm];rfl
theorem ZoM {t:Int} (h:0≤t):eqI (Int.tmod t 64) 48=decide (t%64=48):=by rw[Qx h,Qo]
theorem Zf0 (w:Q5) (mark:Int) (h:JY w) (hd:due w.list w.ppu.T=false):(bif leI mark w.ppu.T then some ((w.t,(false,())),())else bif eqI w.ppu.T 20000 then some ((w.t,(false,())),())else (r169 (w.ppu.t,())).bind fun r0=>
  bif (eqI (Int.tmod w.ppu.T (64:Int)) (48:Int))then (bif (leN (w.frames.length+1) (E.most .n))then (some (((r0.1.1.1,(r0.1.1.2.1,(r0.1.1.2.2.1,(r0.1.1.2.2.2.1,(r0.1.1.2.2.2.2.1,(r0.1.1.2.2.2.2.2.1,(r0.1.1.2.2.2.2.2.2.1,(r0.1.1.2.2.2.2.2.2.2.1,(w.cap,(w.list,((w.frames++[r0.1.2.1]),()))))))))))),(true,())),()))
   else none)
  else some (((r0.1.1.1,(r0.1.1.2.1,(r0.1.1.2.2.1,(r0.1.1.2.2.2.1,(r0.1.1.2.2.2.2.1,(r0.1.1.2.2.2.2.2.1,(r0.1.1.2.2.2.2.2.2.1,(r0.1.1.2.2.2.2.2.2.2.1,(w.cap,(w.list,(w.frames,()))))))))))),(true,())),()))=some (((((Jn w mark).getD w).t),((Jn w mark).isSome,())),()):=by
 have hf:=ZeG h;have ht:=h.ppu.t;unfold Jn;rw[hd,Zc (by simp)];by_cases hm:w.ppu.T<mark∧w.ppu.T<20000
 ·rw[Ze hm,JG (by omega),Zi (by omega),Zd,Zd];refine Za (Zjk w.ppu h.ppu hm.2) ?_;rw[ZoM ht.1];cases hto:JQ w.ppu with
  |true=>
   rw[show decide (w.ppu.T%64=48)=true from hto,ZI (by simp only[E.most];omega)];rfl
  |false=>
   rw[show decide (w.ppu.T%64=48)=false from hto];rfl
 ·rw[Zc hm];by_cases h1:mark≤w.ppu.T
  ·rw[Zp h1];rfl
  ·rw[JG h1,Zn (by omega)];rfl
theorem Zjd (w:Q5) (mark:Int) (h:JY w):r99 (w.t,(mark,()))=some ((((Jn w mark).getD w).t,((Jn w mark).isSome,())),()):=by
 have hl:=h.ring.len;have hc:=h.ring.c1;unfold r99 m99;show (bif ltI 0 (w.list.length:Int)then (bif ltI 0 (w.list.length:Int)then (bif eqI (rdE .t w.list (0:Int)).1 w.ppu.T then _ else _)else none)else _)=_
 by_cases h0:w.list.length=0
 ·rw[Zx (by omega),Zd];refine Zf0 w mark h ?_;rw[List.eq_nil_of_length_eq_zero h0];rfl
 rw[Zl (by omega),Zb,Zb];cases hd:due w.list w.ppu.T with
 |true=>
  obtain ⟨e,e1⟩:=Zcs hd;have hd0:rdE .t w.list (0:Int)=JD w.list:=by rw[e];rfl
  have htl:List.drop (Int.toNat (1:Int)) w.list=w.list.tail:=by rw[e];rfl
  rw[hd0,Zn e1,Zb];show (bif ltI 0 (w.list.length:Int)then (bif leI 1 (w.list.length:Int)then (bif leN (0+(List.drop (Int.toNat (1:Int)) w.list).length) (E.most .t)then _ else none)else none)else none)=_
  rw[Zl (by omega),Zp (by omega),htl,ZI (by simp only[E.most,List.length_tail];omega)];rw[Zb,Zb,Zb];have hw:=Zcj w.ppu h.ppu (JD w.list).2.1 (JD w.list).2.2;rw[←hd0]at hw;refine Za hw ?_;unfold Jn;rw[hd,Ze rfl,hd0];show some (((_,(_,(_,(_,(_,(_,(_,(_,(w.cap,(([]++List.drop (Int.toNat (1:Int)) w.list),_)))))))))),(true,())),())=_;rw[htl];rfl
 |false=>
  have hne:(rdE .t w.list (0:Int)).1≠w.ppu.T:=by
   obtain ⟨x,l,e⟩: ∃x l,w.list=x::l:=by
    cases hw:w.list with
    |nil=>rw[hw]at h0;exact absurd rfl h0
    |cons x l=>exact ⟨x,l,rfl⟩
   rw[e]at hd⊢;have hd: ¬x.1=w.ppu.T:=by simpa [due] using hd
   exact hd
  rw[Zi hne,Zd];exact Zf0 w mark h hd
theorem Zf1 (w:Q6) (mark:Int) (h:JL w) (hd:due w.list w.apu.T=false):(bif leI mark w.apu.T then some ((w.t,(false,())),())else bif eqI w.apu.T 20000 then some ((w.t,(false,())),())else (r171 (w.apu.t,())).bind fun r0=>
  bif r0.1.2.2.1 then (bif (leN (w.samples.length+1) (E.most .i))then (some (((r0.1.1.1,(r0.1.1.2.1,(r0.1.1.2.2.1,(r0.1.1.2.2.2.1,(r0.1.1.2.2.2.2.1,(r0.1.1.2.2.2.2.2.1,(r0.1.1.2.2.2.2.2.2.1,(w.cap,(w.list,((w.samples++[r0.1.2.1]),())))))))))),(true,())),()))
   else none)
  else some (((r0.1.1.1,(r0.1.1.2.1,(r0.1.1.2.2.1,(r0.1.1.2.2.2.1,(r0.1.1.2.2.2.2.1,(r0.1.1.2.2.2.2.2.1,(r0.1.1.2.2.2.2.2.2.1,(w.cap,(w.list,(w.samples,())))))))))),(true,())),()))=some (((((Jo w mark).getD w).t),((Jo w mark).isSome,())),()):=by
 have hf:=ZdJ h;have ht:=h.apu.t;unfold Jo;rw[hd,Zc (by simp)];by_cases hm:w.apu.T<mark∧w.apu.T<20000
 ·rw[Ze hm,JG (by omega),Zi (by omega),Zd,Zd];refine Za (Zhu w.apu h.apu hm.2) ?_;cases hto:YK w.apu with
  |true=>
   rw[ZI (by simp only[E.most];omega)];rfl
  |false=>rfl
 ·rw[Zc hm];by_cases h1:mark≤w.apu.T
  ·rw[Zp h1];rfl
  ·rw[JG h1,Zn (by omega)];rfl
theorem Zje (w:Q6) (mark:Int) (h:JL w):r100 (w.t,(mark,()))=some ((((Jo w mark).getD w).t,((Jo w mark).isSome,())),()):=by
 have hl:=h.ring.len;have hc:=h.ring.c1;unfold r100 m100;show (bif ltI 0 (w.list.length:Int)then (bif ltI 0 (w.list.length:Int)then (bif eqI (rdE .t w.list (0:Int)).1 w.apu.T then _ else _)else none)else _)=_
 by_cases h0:w.list.length=0
 ·rw[Zx (by omega),Zd];refine Zf1 w mark h ?_;rw[List.eq_nil_of_length_eq_zero h0];rfl
 rw[Zl (by omega),Zb,Zb];cases hd:due w.list w.apu.T with
 |true=>
  obtain ⟨e,e1⟩:=Zcs hd;have hd0:rdE .t w.list (0:Int)=JD w.list:=by rw[e];rfl
  have htl:List.drop (Int.toNat (1:Int)) w.list=w.list.tail:=by rw[e];rfl
  rw[hd0,Zn e1,Zb];show (bif ltI 0 (w.list.length:Int)then (bif leI 1 (w.list.length:Int)then (bif leN (0+(List.drop (Int.toNat (1:Int)) w.list).length) (E.most .t)then _ else none)else none)else none)=_
  rw[Zl (by omega),Zp (by omega),htl,ZI (by simp only[E.most,List.length_tail];omega)];rw[Zb,Zb,Zb];have hw:=Zce w.apu h.apu (JD w.list).2.1 (JD w.list).2.2;rw[←hd0]at hw;refine Za hw ?_;unfold Jo;rw[hd,Ze rfl,hd0];show some (((_,(_,(_,(_,(_,(_,(_,(w.cap,(([]++List.drop (Int.toNat (1:Int)) w.list),_))))))))),(true,())),())=_;rw[htl];rfl
 |false=>
  have hne:(rdE .t w.list (0:Int)).1≠w.apu.T:=by
   obtain ⟨x,l,e⟩: ∃x l,w.list=x::l:=by
    cases hw:w.list with
    |nil=>rw[hw]at h0;exact absurd rfl h0
    |cons x l=>exact ⟨x,l,rfl⟩
   rw[e]at hd⊢;have hd: ¬x.1=w.apu.T:=by simpa [due] using hd
   exact hd
  rw[Zi hne,Zd];exact Zf1 w mark h hd
theorem ZdC (mark:Int): ∀(k:Nat) (w:Q5),JY w→YG w<k→n123_0 r182 k (mark,()) (w.t,()) ()=some (Sum.inl (),((Xj w mark).t,()))
 |0,_,_,h=>absurd h (by omega)
 |k+1,w,h,hk=>by
  show (r182 (w.t,(mark,()))).bind _=_;refine Za (ZhH w mark h) ?_;cases hs:Jn w mark with
  |none=>rw[Zas hs];rfl
  |some v=>
   rw[Zba h hs];exact ZdC mark k v (Wq h hs).1 (by have:=ZaG h hs;omega)
theorem ZdL (mark:Int): ∀(k:Nat) (w:Q6),JL w→YH w<k→n124_0 r183 k (mark,()) (w.t,()) ()=some (Sum.inl (),((Xk w mark).t,()))
 |0,_,_,h=>absurd h (by omega)
 |k+1,w,h,hk=>by
  show (r183 (w.t,(mark,()))).bind _=_;refine Za (ZhN w mark h) ?_;cases hs:Jo w mark with
  |none=>rw[Zat hs];rfl
  |some v=>
   rw[Zbb h hs];exact ZdL mark k v (Wr h hs).1 (by have:=ZaH h hs;omega)
theorem ZeN {w:Q5} (h:JY w):YG w<fuel:=by
 have:=ZZ;have h1:=h.ppu.t;have h2:=h.ring.len;have h3:=h.ring.c1;unfold YG;omega
theorem Zjl {w:Q6} (h:JL w):YH w<fuel:=by
 have:=ZZ;have h1:=h.apu.t;have h2:=h.ring.len;have h3:=h.ring.c1;unfold YH;omega
theorem ZkB (w:Q5) (mark:Int) (h:JY w):r123 (w.t,(mark,()))=some ((),((Xj w mark).t,())):=by
 unfold r123 m123 L123_0;exact Za (ZdC mark fuel w h (ZeN h)) rfl
theorem ZkM (w:Q6) (mark:Int) (h:JL w):r124 (w.t,(mark,()))=some ((),((Xk w mark).t,())):=by
 unfold r124 m124 L124_0;exact Za (ZdL mark fuel w h (Zjl h)) rfl
theorem Zbo (mark:Int): ∀(k:Nat) (w:Q5),JY w→YG w+1<k→n101_0 r91 r99 r86 k (mark,()) (w.t,()) (true,())=some (Sum.inl (false,()),((Xj w mark).t,()))
 |0,_,_,h=>absurd h (by omega)
 |k+1,w,h,hk=>by
  show (r99 (w.t,(mark,()))).bind _=_;refine Za (Zjd w mark h) ?_;cases hs:Jn w mark with
  |none=>
   rw[Zas hs];obtain ⟨j,rfl⟩: ∃j,k=j+1:=⟨k-1,by omega⟩;rfl
  |some v=>
   rw[Zba h hs];exact Zbo mark k v (Wq h hs).1 (by have:=ZaG h hs;omega)
theorem Zbp (mark:Int): ∀(k:Nat) (w:Q6),JL w→YH w+1<k→n102_0 r92 r100 r87 k (mark,()) (w.t,()) (true,())=some (Sum.inl (false,()),((Xk w mark).t,()))
 |0,_,_,h=>absurd h (by omega)
 |k+1,w,h,hk=>by
  show (r100 (w.t,(mark,()))).bind _=_;refine Za (Zje w mark h) ?_;cases hs:Jo w mark with
  |none=>
   rw[Zat hs];obtain ⟨j,rfl⟩: ∃j,k=j+1:=⟨k-1,by omega⟩;rfl
  |some v=>
   rw[Zbb h hs];exact Zbp mark k v (Wr h hs).1 (by have:=ZaH h hs;omega)
theorem Zdt (w:Q5) (h:JY w):r86 (w.t,())=some ((w.t,()),()):=by
 have hs:=h.s;unfold r86 m86;exact Za (UF w.ppu.t h.ppu.s) (Za (Zcx (w.cap,(w.list,())) hs.2.1) (Za (Zcw w.frames hs.2.2) rfl))
theorem Zf2 (w:Q6) (h:JL w):r87 (w.t,())=some ((w.t,()),()):=by
 have hs:=h.s;have hl:w.samples.length≤4398046511104:=hs.2;unfold r87 m87;refine Za (Zcx (w.cap,(w.list,())) hs.1) ?_;show (bif leN (0+w.samples.length) (E.most .i)then _ else none)=_
 rw[ZI (by simp only[E.most];omega)];rfl
theorem Zc4 (w:Q5) (mark:Int) (h:JY w):r101 (w.t,(mark,()))=some (((Xj w mark).t,()),()):=by
 unfold r101 m101 L101_0;have hf:=ZZ;have hok:r91 (w.t,())=some ((true,()),()):=by rw[ZbY w.t h.s,Zgf.2 h]
 refine Za hok (Za (Zdt w h) (Za (Zbo mark fuel w h (by have:=ZeN h;have h1:=h.ppu.t;have h2:=h.ring.len;have h3:=h.ring.c1;unfold YG;omega)) rfl))
theorem Zew (w:Q6) (mark:Int) (h:JL w):r102 (w.t,(mark,()))=some (((Xk w mark).t,()),()):=by
 unfold r102 m102 L102_0;have hf:=ZZ;have hok:r92 (w.t,())=some ((true,()),()):=by rw[ZcU w.t h.s,Zgu.2 h]
 refine Za hok (Za (Zf2 w h) (Za (Zbp mark fuel w h (by have h1:=h.apu.t;have h2:=h.ring.len;have h3:=h.ring.c1;unfold YH;omega)) rfl))
theorem Zit (s:Zh) (n:Int) (ht:0≤s.T∧s.T≤20000) (hn:0≤n∧n≤7):r189 (s.t,(n,()))=some ((YU s n,()),()):=by
 unfold r189 m189 YU;show (bif ltI 20000 (wI (s.T+n))then _ else _)=_
 rw[Zr (by omega) (by omega)];by_cases h:20000<s.T+n
 ·rw[Zl h,Ze h];rfl
 ·rw[Zx h,Zc h];rfl
theorem Zcz (s:Zh) (n:Int) (ht:0≤s.T∧s.T≤20000) (hn:0≤n∧n≤7):r153 (s.t,(n,()))=some ((YU s n,()),()):=by
 unfold r153 m153 YU;show (bif ltI 20000 (wI (s.T+n))then _ else _)=_
 rw[Zr (by omega) (by omega)];by_cases h:20000<s.T+n
 ·rw[Zl h,Ze h];rfl
 ·rw[Zx h,Zc h];rfl
theorem ZfY {s:Zh} (h:ZA s):0≤s.knownAt∧s.knownAt≤20000:=by
 have:=h.known;have:=h.t;omega
theorem ZhD (s:Zh) (h:ZA s):r128 (s.t,())=some ((Yu s,()),()):=by
 unfold r128 m128 Yu;show (bif !s.nmi then (bif !s.cpu.i then (r196 (s.knownAt,(s.T,()))).bind _ else _)else _)=_
 rw[Zdk _ _ (ZfY h) h.t];cases s.nmi<;>cases s.cpu.i<;>rfl
theorem Zcv (s:Zh) (h:ZA s):r131 (s.t,())=some ((JU s,()),()):=by
 unfold r131 m131 JU;refine Za (Zdk _ _ (ZfY h) h.t) ?_;show (bif JZ s.knownAt s.T then (bif s.snd.apu.irq then some ((!s.cpu.i,()),())else _)else bif s.known then some ((!s.cpu.i,()),())else _)=_
 cases JZ s.knownAt s.T<;>cases s.snd.apu.irq<;>cases s.known<;>rfl
theorem Zhw (s:Zh) (h:ZA s):r156 (s.t,())=some (((if JZ s.knownAt s.T then s.snd.apu.irq else s.known),()),()):=by
 unfold r156 m156;refine Za (ZbK _ _ (ZfY h) h.t) ?_;show (bif JZ s.knownAt s.T then some ((s.snd.apu.irq,()),())else some ((s.known,()),()))=_
 cases JZ s.knownAt s.T<;>rfl
def ZoR (s:Zh):Int:=
 if ZT (opS s)=1∧(rgT (ZV s)).1=2∧ZhI s=false then 1 else if ZT (opS s)=1∧(rgT (ZV s)).1=3∧KM s=false then 2
 else if ZT (opS s)=2∧(rgT (ZV s)).1=2∧s.pic.cap≤(s.pic.list.length:Int)then 3 else if ZT (opS s)=2∧(rgT (ZV s)).1=3∧s.snd.cap≤(s.snd.list.length:Int)then 4
 else YU s (Qs (opS s))
theorem ZlT (s:Zh):QU s=if s.nmi then YU s 7 else if Yu s&& !KM s then 2 else if JU s then YU s 7 else ZoR s:=rfl
theorem Uk {s:Zh} (h:ZA s):0≤JB s∧JB s≤65535:=ZmZ h.mem _
theorem Zry (s:Zh):0≤Qs (opS s)∧Qs (opS s)≤7:=by have:=ZcB (opS s);omega
def Zpz {T:Type} (k1 k2 g2 g3 c1 c2:Bool) (P S:(Bool→Option T)→Option T) (a b c d e:Option T):Option T:=
 let t4:=bif k2 then (bif g3 then (bif c2 then d else e)else e)else e
 let t3:=bif k2 then (bif g2 then (bif c1 then c else t4)else t4)else t4
 let t2:=bif k1 then (bif g3 then S (fun u=>bif !u then b else t3)else t3)else t3
 bif k1 then (bif g2 then P (fun u=>bif !u then a else t2)else t2)else t2
theorem Zld (s:Zh) (h:ZA s):Zpz (eqI (ZT (opS s)) 1) (eqI (ZT (opS s)) 2) (eqI (rgT (ZV s)).1 2) (eqI (rgT (ZV s)).1 3) (leI s.pic.cap (s.pic.list.length:Int)) (leI s.snd.cap (s.snd.list.length:Int))
  (fun f=>(r194 (s.t,())).bind fun r=>f r.1.1) (fun f=>(r190 (s.t,())).bind fun r=>f r.1.1) (some (((1:Int),()),())) (some (((2:Int),()),())) (some (((3:Int),()),())) (some (((4:Int),()),()))
  ((r195 (opS s,())).bind fun r8=>(r189 (s.t,r8.1)).bind fun r9=>some ((r9.1:PTup o189),()))=(some (((ZoR s,()),())):Option (PTup o189×Unit)):=by
 have e:((r195 (opS s,())).bind fun r8=>(r189 (s.t,r8.1)).bind fun r9=>some ((r9.1:PTup o189),()))=(some ((YU s (Qs (opS s)),()),()):Option (PTup o189×Unit)):=
  Za (Zaa (opS s,())) (Za (Zit s (Qs (opS s)) h.t (Zry s)) rfl)
 rw[e];have ep:r194 (s.t,())=some ((ZhI s,()),()):=ZbW s.t;have es:r190 (s.t,())=some ((KM s,()),()):=Zbd s.t;unfold ZoR Zpz;rw[ep,es];have l1:=h.pic.ring.len;have l2:=h.snd.ring.len;have q1:(leI s.pic.cap (s.pic.list.length:Int))=decide (s.pic.cap≤(s.pic.list.length:Int)):=by
  by_cases hq:s.pic.cap≤(s.pic.list.length:Int)
  ·rw[ZB hq];exact Zp hq
  ·rw[Zw hq];exact JG hq
 have q2:(leI s.snd.cap (s.snd.list.length:Int))=decide (s.snd.cap≤(s.snd.list.length:Int)):=by
  by_cases hq:s.snd.cap≤(s.snd.list.length:Int)
  ·rw[ZB hq];exact Zp hq
  ·rw[Zw hq];exact JG hq
 rw[q1,q2];generalize (rgT (ZV s)).1=g;rcases ZbF (opS s)with o|o|o<;>rw[o]
 ·rfl
 ·by_cases g2:g=2
  ·subst g2;cases ZhI s<;>rfl
  ·by_cases g3:g=3
   ·subst g3;cases KM s<;>rfl
   ·rw[Zi g2,Zi g3,Zc (fun x=>g2 x.2.1),Zc (fun x=>g3 x.2.1),Zc (fun x=>g2 x.2.1),Zc (fun x=>g3 x.2.1)];rfl
 ·by_cases g2:g=2
  ·subst g2;by_cases hq:s.pic.cap≤(s.pic.list.length:Int)
   ·rw[ZB hq,Zc (fun x=>absurd x.1 (by decide)),Zc (fun x=>absurd x.1 (by decide)),Ze ⟨rfl,rfl,hq⟩];rfl
   ·rw[Zw hq,Zc (fun x=>absurd x.1 (by decide)),Zc (fun x=>absurd x.1 (by decide)),Zc (fun x=>hq x.2.2),Zc (fun x=>absurd x.2.1 (by decide))];rfl
  ·by_cases g3:g=3
   ·subst g3;by_cases hq:s.snd.cap≤(s.snd.list.length:Int)
    ·rw[ZB hq,Zc (fun x=>absurd x.1 (by decide)),Zc (fun x=>absurd x.1 (by decide)),Zc (fun x=>absurd x.2.1 (by decide)),Ze ⟨rfl,rfl,hq⟩];rfl
    ·rw[Zw hq,Zc (fun x=>absurd x.1 (by decide)),Zc (fun x=>absurd x.1 (by decide)),Zc (fun x=>absurd x.2.1 (by decide)),Zc (fun x=>hq x.2.2)];rfl
   ·rw[Zi g2,Zi g3,Zc (fun x=>g2 x.2.1),Zc (fun x=>g3 x.2.1),Zc (fun x=>g2 x.2.1),Zc (fun x=>g3 x.2.1)];rfl
theorem ZiC (s:Zh) (h:ZA s):Zpz (eqI (ZT (opS s)) 1) (eqI (ZT (opS s)) 2) (eqI (rgT (ZV s)).1 2) (eqI (rgT (ZV s)).1 3) (eqI (s.pic.list.length:Int) s.pic.cap) (eqI (s.snd.list.length:Int) s.snd.cap)
  (fun f=>(r160 (s.t,())).bind fun r=>f r.1.1) (fun f=>(r155 (s.t,())).bind fun r=>f r.1.1) (some (((1:Int),()),())) (some (((2:Int),()),())) (some (((3:Int),()),())) (some (((4:Int),()),()))
  ((r161 (opS s,())).bind fun r8=>(r153 (s.t,r8.1)).bind fun r9=>some ((r9.1:PTup o153),()))=(some (((ZoR s,()),())):Option (PTup o153×Unit)):=by
 have e:((r161 (opS s,())).bind fun r8=>(r153 (s.t,r8.1)).bind fun r9=>some ((r9.1:PTup o153),()))=(some ((YU s (Qs (opS s)),()),()):Option (PTup o153×Unit)):=
  Za (Zab (opS s,())) (Za (Zcz s (Qs (opS s)) h.t (Zry s)) rfl)
 rw[e];have ep:r160 (s.t,())=some ((ZhI s,()),()):=Zb8 s.t;have es:r155 (s.t,())=some ((KM s,()),()):=ZbC s.t;unfold ZoR Zpz;rw[ep,es];have l1:=h.pic.ring.len;have l2:=h.snd.ring.len;have q1:(eqI (s.pic.list.length:Int) s.pic.cap)=decide (s.pic.cap≤(s.pic.list.length:Int)):=by
  by_cases hq:s.pic.cap≤(s.pic.list.length:Int)
  ·rw[ZB hq];exact Zn (by omega)
  ·rw[Zw hq];exact Zi (by omega)
 have q2:(eqI (s.snd.list.length:Int) s.snd.cap)=decide (s.snd.cap≤(s.snd.list.length:Int)):=by
  by_cases hq:s.snd.cap≤(s.snd.list.length:Int)
  ·rw[ZB hq];exact Zn (by omega)
  ·rw[Zw hq];exact Zi (by omega)
 rw[q1,q2];generalize (rgT (ZV s)).1=g;rcases ZbF (opS s)with o|o|o<;>rw[o]
 ·rfl
 ·by_cases g2:g=2
  ·subst g2;cases ZhI s<;>rfl
  ·by_cases g3:g=3
   ·subst g3;cases KM s<;>rfl
   ·rw[Zi g2,Zi g3,Zc (fun x=>g2 x.2.1),Zc (fun x=>g3 x.2.1),Zc (fun x=>g2 x.2.1),Zc (fun x=>g3 x.2.1)];rfl
 ·by_cases g2:g=2
  ·subst g2;by_cases hq:s.pic.cap≤(s.pic.list.length:Int)
   ·rw[ZB hq,Zc (fun x=>absurd x.1 (by decide)),Zc (fun x=>absurd x.1 (by decide)),Ze ⟨rfl,rfl,hq⟩];rfl
   ·rw[Zw hq,Zc (fun x=>absurd x.1 (by decide)),Zc (fun x=>absurd x.1 (by decide)),Zc (fun x=>hq x.2.2),Zc (fun x=>absurd x.2.1 (by decide))];rfl
  ·by_cases g3:g=3
   ·subst g3;by_cases hq:s.snd.cap≤(s.snd.list.length:Int)
    ·rw[ZB hq,Zc (fun x=>absurd x.1 (by decide)),Zc (fun x=>absurd x.1 (by decide)),Zc (fun x=>absurd x.2.1 (by decide)),Ze ⟨rfl,rfl,hq⟩];rfl
    ·rw[Zw hq,Zc (fun x=>absurd x.1 (by decide)),Zc (fun x=>absurd x.1 (by decide)),Zc (fun x=>absurd x.2.1 (by decide)),Zc (fun x=>hq x.2.2)];rfl
   ·rw[Zi g2,Zi g3,Zc (fun x=>g2 x.2.1),Zc (fun x=>g3 x.2.1),Zc (fun x=>g2 x.2.1),Zc (fun x=>g3 x.2.1)];rfl
theorem ZkY (s:Zh) (h:ZA s):r127 (s.t,())=some ((QU s,()),()):=by
 unfold r127 m127;rw[ZlT];show (bif s.nmi then _ else _)=_
 cases hn:s.nmi with
 |true=>exact Za (Zit s 7 h.t (by decide)) rfl
 |false=>
  rw[Zd,Zc (by simp)];refine Za (ZhD s h) ?_;cases hm:Yu s with
  |false=>
   refine Za (Zcv s h) ?_;rw[Bool.false_and,Zc (by simp)];cases ha:JU s with
   |true=>exact Za (Zit s 7 h.t (by decide)) rfl
   |false=>exact Za (Zct s.img s.mem s.cpu.pc h.mem h.cpu.pc) (Za (ZaA (opS s) (JB s) s.cpu h.cpu (Uk h)) (Za (WI (ZV s,())) (Zld s h)))
  |true=>
   refine Za (Zbd s.t) ?_;show (bif !KM s then _ else _)=_
   rw[Bool.true_and];cases hs:KM s with
   |false=>rfl
   |true=>
    refine Za (Zcv s h) ?_;rw[Zc (by simp)];cases ha:JU s with
    |true=>exact Za (Zit s 7 h.t (by decide)) rfl
    |false=>exact Za (Zct s.img s.mem s.cpu.pc h.mem h.cpu.pc) (Za (ZaA (opS s) (JB s) s.cpu h.cpu (Uk h)) (Za (WI (ZV s,())) (Zld s h)))
theorem Zeh (s:Zh) (h:ZA s):r95 (s.t,())=some ((QU s,()),()):=by
 unfold r95 m95;rw[ZlT];show (bif s.nmi then _ else bif !s.cpu.i then _ else _)=_
 cases hn:s.nmi with
 |true=>exact Za (Zcz s 7 h.t (by decide)) rfl
 |false=>
  rw[Zd,Zc (by simp)];have em:Yu s=(!s.cpu.i&&JZ s.knownAt s.T):=by unfold Yu;rw[hn];rfl
  have ea:JU s=((if JZ s.knownAt s.T then s.snd.apu.irq else s.known)&& !s.cpu.i):=rfl
  rw[em,ea];cases hi:s.cpu.i with
  |true=>
   rw[show (!true&&JZ s.knownAt s.T)=false from rfl,Bool.false_and,Zc (by simp),show (!true)=false from rfl,Bool.and_false,Zc (by simp)];exact Za (Zax s.img s.mem s.cpu.pc h.mem h.cpu.pc) (Za (Zaj (opS s) (JB s) s.cpu h.cpu (Uk h)) (Za (Wp (ZV s,())) (ZiC s h)))
  |false=>
   refine Za (ZbK _ _ (ZfY h) h.t) ?_;rw[show (!false)=true from rfl,Bool.true_and,Bool.and_true];show (bif JZ s.knownAt s.T then _ else _)=_
   cases hb:JZ s.knownAt s.T with
   |false=>
    have k:=Zhw s h;rw[hb]at k;refine Za k ?_;rw[Bool.false_and,Zc (by simp),Zc (by simp)];cases hk:s.known with
    |true=>exact Za (Zcz s 7 h.t (by decide)) rfl
    |false=>exact Za (Zax s.img s.mem s.cpu.pc h.mem h.cpu.pc) (Za (Zaj (opS s) (JB s) s.cpu h.cpu (Uk h)) (Za (Wp (ZV s,())) (ZiC s h)))
   |true=>
    refine Za (ZbC s.t) ?_;show (bif !KM s then _ else _)=_
    rw[Bool.true_and];cases hs:KM s with
    |false=>rfl
    |true=>
     have k:=Zhw s h;rw[hb,Ze rfl]at k;refine Za k ?_;simp only[if_true,ZM,Bool.false_eq_true,if_false];cases hk:s.snd.apu.irq with
     |true=>exact Za (Zcz s 7 h.t (by decide)) rfl
     |false=>exact Za (Zax s.img s.mem s.cpu.pc h.mem h.cpu.pc) (Za (Zaj (opS s) (JB s) s.cpu h.cpu (Uk h)) (Za (Wp (ZV s,())) (ZiC s h)))

end Go.Proofs.YtcbdldlphpjmbaaGreatDoor.Plain
