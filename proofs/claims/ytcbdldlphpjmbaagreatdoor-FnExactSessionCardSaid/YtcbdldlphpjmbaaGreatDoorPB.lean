/- Plain laws of the printed functions: Exec, UnitM, LockM, SplitM. No condition beyond those that each lemma states. -/
import Derived.Test.YtcbdldlphpjmbaaGreatDoorPA
set_option linter.unusedVariables false
set_option linter.unusedSimpArgs false
namespace Go.Proofs.YtcbdldlphpjmbaaGreatDoor.Plain
open Go Go.Tev
theorem Zei (b:BitVec 64):BitVec.ofInt 64 (IntKind.i64.wrap (b.toNat:Int))=b:=by
 rw[IntKind.wrap_i64];apply BitVec.eq_of_toNat_eq;rw[ZaN];have h:=b.isLt;omega
theorem Zjl (x y:Int):BitVec.ofInt 64 (bOr .i64 x y)=BitVec.ofInt 64 x|||BitVec.ofInt 64 y:=Zei (BitVec.ofInt 64 x|||BitVec.ofInt 64 y)
theorem Zhv (x y:Int):BitVec.ofInt 64 (YD .i64 x y)=BitVec.ofInt 64 x^^^BitVec.ofInt 64 y:=Zei (BitVec.ofInt 64 x^^^BitVec.ofInt 64 y)
theorem WO (x y:Int):BitVec.ofInt 64 (ZN .i64 x y)=BitVec.ofInt 64 x&&&BitVec.ofInt 64 y:=Zei (BitVec.ofInt 64 x&&&BitVec.ofInt 64 y)
theorem Zeg {x y:Int} (h:BitVec.ofInt 64 x&&&BitVec.ofInt 64 255=BitVec.ofInt 64 y&&&BitVec.ofInt 64 255):x%256=y%256:=by
 rw[←Vn x,←Vn y];show IntKind.i64.wrap (BitVec.ofInt 64 x&&&BitVec.ofInt 64 255).toNat=IntKind.i64.wrap (BitVec.ofInt 64 y&&&BitVec.ofInt 64 255).toNat;rw[h]
theorem ZmN (a b:Int):ZN .i64 (a%256) (b%256)%256=ZN .i64 a b%256:=by
 apply Zeg;rw[WO,WO,←Vn a,←Vn b,WO,WO];ext i;simp only[BitVec.getElem_and];cases (BitVec.ofInt 64 a)[i]<;>cases (BitVec.ofInt 64 b)[i]<;>cases (BitVec.ofInt 64 255)[i]<;>rfl
theorem ZoL (a b:Int):bOr .i64 (a%256) (b%256)%256=bOr .i64 a b%256:=by
 apply Zeg;rw[Zjl,Zjl,←Vn a,←Vn b,WO,WO];ext i;simp only[BitVec.getElem_and,BitVec.getElem_or];cases (BitVec.ofInt 64 a)[i]<;>cases (BitVec.ofInt 64 b)[i]<;>cases (BitVec.ofInt 64 255)[i]<;>rfl
theorem ZmO (a b:Int):YD .i64 (a%256) (b%256)%256=YD .i64 a b%256:=by
 apply Zeg;rw[Zhv,Zhv,←Vn a,←Vn b,WO,WO];ext i;simp only[BitVec.getElem_and,BitVec.getElem_xor];cases (BitVec.ofInt 64 a)[i]<;>cases (BitVec.ofInt 64 b)[i]<;>cases (BitVec.ofInt 64 255)[i]<;>rfl
theorem Zp8 {a b:Int} (ha:0≤a∧a≤63) (hb:0≤b∧b≤63):0≤YD .i64 a b∧YD .i64 a b≤63:=by
 have e1:(BitVec.ofInt 64 a).toNat=a.toNat:=by rw[ZaN,Int.emod_eq_of_lt (by omega) (by omega)]
 have e2:(BitVec.ofInt 64 b).toNat=b.toNat:=by rw[ZaN,Int.emod_eq_of_lt (by omega) (by omega)]
 have e3:(BitVec.ofInt 64 a^^^BitVec.ofInt 64 b).toNat<2^6:=by
  rw[BitVec.toNat_xor,e1,e2];exact Nat.xor_lt_two_pow (by omega) (by omega)
 have:YD .i64 a b=((BitVec.ofInt 64 a^^^BitVec.ofInt 64 b).toNat:Int):=by
  show wI ((BitVec.ofInt 64 a^^^BitVec.ofInt 64 b).toNat:Int)=_;exact Zt (by omega) (by omega)
 rw[this];omega
def Wh (c:Zp) (p:Int):Zp:={c with pc:=p}
def ZrA (c:Zp) (b:Bool):Zp:={c with c:=b}
def ZrN (c:Zp) (b:Bool):Zp:={c with i:=b}
def ZrI (c:Zp) (b:Int):Zp:=ZrA (YI c (KT c.a b c.c%256)) (ltI 255 (KT c.a b c.c))
def Zst (c:Zp) (b:Int):Zp:=ZrA (YI c (Y8 c.a b c.c%256)) (leI 0 (Y8 c.a b c.c))
def Zrc (c:Zp) (b:Int):Zp:={c with z:=eqI ((c.a%256-b%256)%256) 0,n:=ltI 127 ((c.a%256-b%256)%256),c:=leI (b%256) (c.a%256)}
def KH (c:Zp) (op arg v:Int):Zp:=
 if op=1 then YI c arg else if op=2∨op=14 then YI c v else if op=4 then ZrI c arg else if op=29 then ZrI c v else if op=5 then Zst c arg
 else if op=6 then YI c (ZN .i64 c.a arg)else if op=7 then YI c (bOr .i64 c.a arg)else if op=8 then YI c (YD .i64 c.a arg)else if op=9 then Zrc c arg else c
def K5 (op:Int):Bool:=decide (op=1∨op=2∨op=14∨op=4∨op=29∨op=5∨op=6∨op=7∨op=8∨op=9)
def US (c:Zp) (op:Int):Zp:=
 if op=10 then VI c c.a else if op=11 then YI c c.x else if op=12 then VI c (c.x+1)else if op=13 then VI c (c.x-1)
 else if op=25 then ZrN c true else if op=26 then ZrN c false else if op=27 then ZrA c true else if op=28 then ZrA c false else c
def Zhl (op:Int):Bool:=decide (op=10∨op=11∨op=12∨op=13∨op=25∨op=26∨op=27∨op=28)
def ZmP (x:ZF) (c:Zp):Zp:=Wh (Yu (Yu c)) (Xm (Yd x c) (Yd x (Yu c)))
def shr8 (p:Int):Int:=p.fdiv 256
def UJ (x:ZF) (c:Zp):ZF:=Kd (Kd x c (shr8 c.pc)) (Kc c) c.pc
def Wa (c:Zp):Zp:=Kc (Kc c)
def K1 (x:ZF) (c:Zp) (op:Int):ZF:=if op=20 then UJ x c else if op=22 then Kd x c c.a else x
def WC (x:ZF) (c:Zp) (op arg:Int):Zp:=
 if op=16 then (if c.z then c else Wh c (arg%65536))else if op=17 then (if c.z then Wh c (arg%65536)else c)else if op=18 then (if c.c then Wh c (arg%65536)else c)
 else if op=19 then Wh c (arg%65536)else if op=20 then Wh (Wa c) (arg%65536)else if op=21 then ZmP x c else if op=22 then Kc c else if op=23 then YI (Yu c) (Yd x c)
 else if op=24 then ZmP x (wfT (Yu c) (Yd x c))else c
def Jj (c:Zp) (op:Int):Zp:=Wh c ((c.pc+Qf op)%65536)
def VZ (x:ZF) (c:Zp) (op:Int):ZF:=K1 x (Jj c op) op
def WA (x:ZF) (c:Zp) (op arg v:Int):Zp:=
 if K5 op then KH (Jj c op) op arg v else if Zhl op then US (Jj c op) op else WC x (Jj c op) op arg
theorem Zgl {c:Zp} {p:Int} (h:ZM c) (hp:0≤p∧p≤65535):ZM (Wh c p):=⟨h.a,h.x,h.s,hp⟩
theorem Zp0 {c:Zp} {b:Bool} (h:ZM c):ZM (ZrA c b):=⟨h.a,h.x,h.s,h.pc⟩
theorem Zp1 {c:Zp} {b:Bool} (h:ZM c):ZM (ZrN c b):=⟨h.a,h.x,h.s,h.pc⟩
theorem mod65536 (x:Int):0≤x%65536∧x%65536≤65535:=by omega
theorem Zj8 (a b:Int):0≤Xm a b∧Xm a b≤65535:=by unfold Xm;omega
theorem ZmQ {x:ZF} {c:Zp} (h:ZM c):ZM (ZmP x c):=Zgl (WS (WS h)) (Zj8 _ _)
theorem Zdx {c:Zp} (h:ZM c):ZM (Wa c):=UH (UH h)
theorem Zdy {x:ZF} {c:Zp} (h:JJ x):JJ (UJ x c):=UI (UI h _ _) _ _
theorem Zn2 {c:Zp} {op arg v:Int} (h:ZM c):ZM (KH c op arg v):=by
 unfold KH ZrI Zst
 repeat' split
 all_goals first|exact Ziq h|exact Zp0 (Ziq h)|exact h|exact ⟨h.a,h.x,h.s,h.pc⟩
theorem ZqX {c:Zp} {op:Int} (h:ZM c):ZM (US c op):=by
 unfold US
 repeat' split
 all_goals first|exact ZqP h|exact Ziq h|exact Zp1 h|exact Zp0 h|exact h
theorem Zqu {x:ZF} {c:Zp} {op:Int} (h:JJ x):JJ (K1 x c op):=by
 unfold K1
 repeat' split
 all_goals first|exact Zdy h|exact UI h _ _|exact h
theorem Zqt {x:ZF} {c:Zp} {op arg:Int} (h:ZM c):ZM (WC x c op arg):=by
 unfold WC
 repeat' split
 all_goals first|exact h|exact Zgl h (mod65536 _)|exact Zgl (Zdx h) (mod65536 _)|exact ZmQ h|exact UH h|exact Ziq (WS h)|exact ZmQ (Zq0 (WS h))
theorem ZdN {c:Zp} {op:Int} (h:ZM c):ZM (Jj c op):=Zgl h (mod65536 _)
theorem Znf {x:ZF} {c:Zp} {op:Int} (h:JJ x):JJ (VZ x c op):=Zqu h
theorem Zne {x:ZF} {c:Zp} {op arg v:Int} (h:ZM c):ZM (WA x c op arg v):=by
 unfold WA
 repeat' split
 all_goals first|exact Zn2 (ZdN h)|exact ZqX (ZdN h)|exact Zqt (ZdN h)
theorem Zhd (x:ZF) (c:Zp) (op:Int):(VZ x c op).bank=x.bank:=by
 unfold VZ K1 UJ
 repeat' split
 all_goals rfl
theorem Jz.of_ram {f:List (List Int)} {x y:ZF} (h:Jz f x) (hy:JJ y) (hb:y.bank=x.bank):Jz f y:=⟨h.img,hy,by rw[hb];exact h.b0,by rw[hb];exact h.b1⟩
def XP (x:ZF) (c:Zp):ZF:=Kd (UJ x c) (Wa c) (Uq c)
def ZiQ (c:Zp) (to:Int):Zp:=Wh (ZrN (Kc (Wa c)) true) to
theorem Zh0 {x:ZF} {c:Zp} (h:JJ x):JJ (XP x c):=UI (Zdy h) _ _
theorem ZkR {c:Zp} {to:Int} (h:ZM c) (ht:0≤to∧to≤65535):ZM (ZiQ c to):=Zgl (Zp1 (UH (Zdx h))) ht
def opT (f:List (List Int)) (x:ZF) (pc:Int):Int:=ZQ f x pc
def VU (f:List (List Int)) (x:ZF) (pc:Int):Int:=
 if Qf (ZQ f x pc)=2 then ZQ f x (pc+1)else if Qf (ZQ f x pc)=3 then Xm (ZQ f x (pc+1)) (ZQ f x (pc+2))else 0
theorem Zpg (n:Int):1≤Qf n∧Qf n≤3:=by
 unfold Qf;split
 ·rename_i h;rcases Ka h with rfl|rfl|rfl|rfl|rfl|rfl|rfl|rfl|rfl|rfl|rfl|rfl|rfl|rfl|rfl|rfl|rfl|rfl|rfl|rfl|rfl|rfl|rfl|rfl|rfl|rfl|rfl|rfl|rfl|rfl<;>decide
 ·decide
theorem Zct (n:Int):2≤Qr n∧Qr n≤6:=by
 unfold Qr;split
 ·rename_i h;rcases Ka h with rfl|rfl|rfl|rfl|rfl|rfl|rfl|rfl|rfl|rfl|rfl|rfl|rfl|rfl|rfl|rfl|rfl|rfl|rfl|rfl|rfl|rfl|rfl|rfl|rfl|rfl|rfl|rfl|rfl|rfl<;>decide
 ·decide
theorem ZmK {f:List (List Int)} {x:ZF} (h:Jz f x) (pc:Int):0≤VU f x pc∧VU f x pc≤65535:=by
 unfold VU;split
 ·have:=Zej h (pc+1);omega
 split
 ·exact Zj8 _ _
 ·decide
def QZ (op arg x:Int):Int:=if ZS op=0 then 0 else if op=14∨op=15 then (arg+x)%65536 else arg%65536
def YY (op a:Int):Int:=if ZS op=2 then a%256 else 0
def Zq3 (l:List Int):Prop:= ∀n,n∈l→0≤n∧n≤63
structure JI (p:ZZ):Prop where
 t:0≤p.T∧p.T≤20000
 ctrl:0≤p.ctrl∧p.ctrl≤255
 scroll:0≤p.scroll∧p.scroll≤255
 addr:0≤p.addr∧p.addr≤15
 pal:0≤p.pal∧p.pal≤63
 len:p.table.length=16
 table:Zq3 p.table
 dots:(p.dots.length:Int)=if 48<p.T%64 then 0 else p.T%64
 cols:Zq3 p.dots
theorem WR {p:ZZ}:YS p.t=true↔JI p:=by
 unfold YS Zjr Zga ZZ.t;simp only[Bool.and_eq_true,JE,Zc6,Vq];constructor
 ·rintro ⟨⟨a,b,c,d,e⟩,f,g,h,i⟩;refine ⟨a,b,c,d,e,by omega,g,?_,i⟩;rw[h,Wz,Qw a.1]
 ·rintro ⟨a,b,c,d,e,f,g,h,i⟩;refine ⟨⟨a,b,c,d,e⟩,by omega,g,?_,i⟩;rw[h,Wz,Qw a.1]
theorem JI.s {p:ZZ} (h:JI p):VC p.t:=by
 have h1:=h.len;have h2:=h.dots;refine ⟨by show p.table.length≤_;omega,?_⟩;show p.dots.length≤_;split at h2<;>omega
def VX (p:ZZ) (at':Int):Int:=YD .i64 (rdE .i p.table ((at'%8+p.scroll+at'/8)%16)) p.pal
theorem ZoV {p:ZZ} (h:JI p) (a:Int):0≤VX p a∧VX p a≤63:=
 Zp8 (h.table _ (KF (e:= .i) (by omega) (by rw[h.len];omega))) h.pal
def Jx (p:ZZ):ZZ:=
 if p.T%64<48 then {p with T:=p.T+1,dots:=p.dots++[VX p (p.T%64)]}
 else if p.T%64=48 then {p with T:=p.T+1,blank:=true,dots:=[]}
 else if p.T%64=63 then {p with T:=p.T+1,blank:=false}
 else {p with T:=p.T+1}
def JQ (p:ZZ):Bool:=decide (p.T%64=48)
def Yv (p:ZZ):List Int:=if p.T%64=48 then p.dots else []
def Kr (p:ZZ):Bool:=decide (p.T%64=48)&&ltI 127 p.ctrl
theorem W5 (p:ZZ):(Jx p).T=p.T+1:=by
 unfold Jx
 repeat' split
 all_goals rfl
theorem Zov {p:ZZ} (h:JI p) (ht:p.T<20000):JI (Jx p):=by
 obtain ⟨a,b,c,d,e,f,g,hd,i⟩:=h;have hp:JI p:=⟨a,b,c,d,e,f,g,hd,i⟩;unfold Jx;split
 ·rename_i h1;refine ⟨⟨by show 0≤p.T+1;omega,by show p.T+1≤20000;omega⟩,b,c,d,e,f,g,?_,fun n hn=> ?_⟩
  ·show ((p.dots++[VX p (p.T%64)]).length:Int)=if 48< (p.T+1)%64 then 0 else (p.T+1)%64
   rw[List.length_append,List.length_singleton];rw[Zc (by omega)]at hd;rw[Zc (by omega)];omega
  ·rcases List.mem_append.1 hn with h2|h2
   ·exact i n h2
   ·rw[List.mem_singleton.1 h2];exact ZoV hp _
 split
 ·rename_i h1 h2;refine ⟨⟨by show 0≤p.T+1;omega,by show p.T+1≤20000;omega⟩,b,c,d,e,f,g,?_,fun n hn=>by cases hn⟩;show (0:Int)=if 48< (p.T+1)%64 then 0 else (p.T+1)%64
  rw[Ze (by omega)]
 split
 ·rename_i h1 h2 h3;refine ⟨⟨by show 0≤p.T+1;omega,by show p.T+1≤20000;omega⟩,b,c,d,e,f,g,?_,i⟩;show (p.dots.length:Int)=if 48< (p.T+1)%64 then 0 else (p.T+1)%64
  rw[Ze (by omega)]at hd;split<;>omega
 ·rename_i h1 h2 h3;refine ⟨⟨by show 0≤p.T+1;omega,by show p.T+1≤20000;omega⟩,b,c,d,e,f,g,?_,i⟩;show (p.dots.length:Int)=if 48< (p.T+1)%64 then 0 else (p.T+1)%64
  rw[Ze (by omega)]at hd;rw[Ze (by omega)];exact hd
theorem Zhg {p:ZZ} (h:JI p) (ht:JQ p=true):(Yv p).length=48:=by
 have h1:p.T%64=48:=by simpa [JQ] using ht
 have hd:=h.dots;unfold Yv;rw[Ze h1];rw[Zc (by omega),h1]at hd;omega
def Yj (p:ZZ) (reg v:Int):ZZ:=
 if reg=0 then {p with ctrl:=v%256}else if reg=1 then {p with scroll:=v%256}else if reg=3 then {p with addr:=(v%256)%16}
 else if reg=4 then {p with addr:=(p.addr+1)%16,table:=p.table.set p.addr.toNat ((v%256)%64)}
 else if reg=5 then {p with pal:=(v%256)%64}else p
theorem Zq3.set {l:List Int} (h:Zq3 l) (i:Nat) {v:Int} (hv:0≤v∧v≤63):Zq3 (l.set i v):=fun n hn=>by
 rcases List.mem_or_eq_of_mem_set hn with h1|h1
 ·exact h n h1
 ·rw[h1];exact hv
theorem ZlJ {p:ZZ} (h:JI p) (reg v:Int):JI (Yj p reg v):=by
 have hp:=h;obtain ⟨a,b,c,d,e,f,g,hd,i⟩:=h;unfold Yj;split
 ·exact ⟨a,mod256 v,c,d,e,f,g,hd,i⟩
 split
 ·exact ⟨a,b,mod256 v,d,e,f,g,hd,i⟩
 split
 ·exact ⟨a,b,c,by show 0≤(v%256)%16∧(v%256)%16≤15;omega,e,f,g,hd,i⟩
 split
 ·exact ⟨a,b,c,by show 0≤(p.addr+1)%16∧(p.addr+1)%16≤15;omega,e,by show (p.table.set _ _).length=16;rw[List.length_set];exact f,g.set _ (by omega),hd,i⟩
 split
 ·exact ⟨a,b,c,d,by show 0≤(v%256)%64∧(v%256)%64≤63;omega,f,g,hd,i⟩
 ·exact hp
theorem W7 (p:ZZ) (reg v:Int):(Yj p reg v).T=p.T:=by
 unfold Yj
 repeat' split
 all_goals rfl
def Yf (p:ZZ) (reg:Int):ZZ:=if reg=2 then {p with blank:=false}else if reg=4 then {p with addr:=(p.addr+1)%16}else p
def Va (p:ZZ) (reg:Int):Int:=if reg=2 then 128*QU p.blank else if reg=4 then rdE .i p.table p.addr else 0
theorem ZnZ {p:ZZ} (h:JI p) (reg:Int):JI (Yf p reg):=by
 have hp:=h;obtain ⟨a,b,c,d,e,f,g,hd,i⟩:=h;unfold Yf;split
 ·exact ⟨a,b,c,d,e,f,g,hd,i⟩
 split
 ·exact ⟨a,b,c,by show 0≤(p.addr+1)%16∧(p.addr+1)%16≤15;omega,e,f,g,hd,i⟩
 ·exact hp
theorem WU (p:ZZ) (reg:Int):(Yf p reg).T=p.T:=by
 unfold Yf
 repeat' split
 all_goals rfl
theorem Zlt {p:ZZ} (h:JI p) (reg:Int):0≤Va p reg∧Va p reg≤255:=by
 unfold Va;split
 ·have:=XQ p.blank;omega
 split
 ·have:=h.table _ (KF (e:= .i) (l:=p.table) h.addr.1 (by have:=h.addr.2;rw[h.len];omega));omega
 ·decide
structure Yl (a:Qq):Prop where
 t:0≤a.T∧a.T≤20000
 period:0≤a.period∧a.period≤255
 count:0≤a.count∧a.count≤255
 bit:0≤a.bit∧a.bit≤1
 len:0≤a.len∧a.len≤31
theorem Wu {a:Qq}:Xd a.t=true↔Yl a:=by
 unfold Xd Qq.t;simp only[Bool.and_eq_true,JE];constructor
 ·rintro ⟨a,b,c,d,e⟩;exact ⟨a,b,c,d,e⟩
 ·rintro ⟨a,b,c,d,e⟩;exact ⟨a,b,c,d,e⟩
def Ul (a:Qq):Qq:=
 if a.count=0 then (if 0<a.len then {a with count:=a.period,bit:=1-a.bit}else {a with count:=a.period})else {a with count:=a.count-1}
def Ue (a:Qq):Qq:=
 if a.T%32=0∧0<a.len then {a with len:=a.len-1,irq:=a.irq|| (eqI (a.len-1) 0&&a.asks)}else a
def W4 (a:Qq):Qq:={Ue (Ul a)with T:=a.T+1}
def YJ (a:Qq):Bool:=eqI (a.T%16) 15
def We (a:Qq):Int:=if a.T%16=15∧(Ue (Ul a)).len≠0 then 8*(Ue (Ul a)).bit else 0
theorem ZoU {a:Qq} (h:Yl a):Yl (Ul a):=by
 have hp:=h;obtain ⟨t,p,c,b,l⟩:=h;unfold Ul;split
 ·split
  ·exact ⟨t,p,p,by show 0≤1-a.bit∧1-a.bit≤1;omega,l⟩
  ·exact ⟨t,p,p,b,l⟩
 ·exact ⟨t,p,by show 0≤a.count-1∧a.count-1≤255;omega,b,l⟩
theorem Zp9 {a:Qq} (h:Yl a):Yl (Ue a):=by
 have hp:=h;obtain ⟨t,p,c,b,l⟩:=h;unfold Ue;split
 ·rename_i h1;exact ⟨t,p,c,b,by show 0≤a.len-1∧a.len-1≤31;omega⟩
 ·exact hp
theorem Zoq {a:Qq} (h:Yl a) (ht:a.T<20000):Yl (W4 a):=by
 obtain ⟨t,p,c,b,l⟩:=Zp9 (ZoU h);have:=h.t;exact ⟨⟨by show 0≤a.T+1;omega,by show a.T+1≤20000;omega⟩,p,c,b,l⟩
def KL (a:Qq) (reg v:Int):Qq:=
 if reg=0 then {a with period:=v%256}else if reg=1 then {a with len:=(v%256)%32}
 else if reg=2 then {a with asks:=eqI ((v%256)%2) 1,irq:=a.irq&&eqI ((v%256)%2) 1}
 else if reg=3 then {a with irq:=false}else a
theorem ZlH {a:Qq} (h:Yl a) (reg v:Int):Yl (KL a reg v):=by
 have hp:=h;obtain ⟨t,p,c,b,l⟩:=h;unfold KL;split
 ·exact ⟨t,mod256 v,c,b,l⟩
 split
 ·exact ⟨t,p,c,b,by show 0≤(v%256)%32∧(v%256)%32≤31;omega⟩
 split
 ·exact ⟨t,p,c,b,l⟩
 split
 ·exact ⟨t,p,c,b,l⟩
 ·exact hp
theorem Ze8 (a:Qq) (reg v:Int):(KL a reg v).T=a.T:=by
 unfold KL
 repeat' split
 all_goals rfl
def YT (a:Qq) (reg:Int):Qq:=if reg=2 then {a with irq:=false}else a
def KG (a:Qq) (reg:Int):Int:=if reg=2 then 128*QU a.irq+QU (ltI 0 a.len)else 0
theorem ZnW {a:Qq} (h:Yl a) (reg:Int):Yl (YT a reg):=by
 have hp:=h;obtain ⟨t,p,c,b,l⟩:=h;unfold YT;split
 ·exact ⟨t,p,c,b,l⟩
 ·exact hp
theorem Zin (a:Qq) (reg:Int):(YT a reg).T=a.T:=by
 unfold YT;split<;>rfl
theorem Zlq (a:Qq) (reg:Int):0≤KG a reg∧KG a reg≤255:=by
 unfold KG;split
 ·have:=XQ a.irq;have:=XQ (ltI 0 a.len);omega
 ·decide
structure YL (l:List Int):Prop where
 len:l.length≤20
 bytes:J7 l
theorem UG {l:List Int}:XC l=true↔YL l:=by
 unfold XC;rw[Bool.and_eq_true,WJ,Zc6];exact ⟨fun ⟨a,b⟩=>⟨by omega,b⟩,fun ⟨a,b⟩=>⟨by omega,b⟩⟩
def XB (l:List Int) (t:Int):Int:=if l.length=0 then 0 else rdE .i l ((t/64)% (l.length:Int))
theorem ZnM {l:List Int} (h:YL l) (t:Int):0≤XB l t∧XB l t≤255:=by
 unfold XB;split
 ·decide
 ·exact h.bytes _ (KF (e:= .i) (Int.emod_nonneg _ (by omega)) (Int.emod_lt_of_pos _ (by omega)))
def W6 (x:YB) (l:List Int) (t v:Int):YB:={held:=eqI (v%2) 1,shift:=if eqI (v%2) 1||x.held then XB l t else x.shift}
def WT (x:YB) (l:List Int) (t:Int):YB:=if x.held then {held:=true,shift:=XB l t}else {held:=false,shift:=x.shift/2}
def K9 (x:YB) (l:List Int) (t:Int):Int:=if x.held then XB l t%2 else x.shift%2
def Ws (x:YB):Prop:=0≤x.shift∧x.shift≤255
theorem ZlI {x:YB} {l:List Int} {t v:Int} (h:Ws x) (hl:YL l):Ws (W6 x l t v):=by
 unfold W6 Ws;simp only;split
 ·exact ZnM hl t
 ·exact h
theorem ZnX {x:YB} {l:List Int} {t:Int} (h:Ws x) (hl:YL l):Ws (WT x l t):=by
 unfold WT;split
 ·exact ZnM hl t
 ·unfold Ws at h⊢;show 0≤x.shift/2∧x.shift/2≤255;omega
theorem Zlr (x:YB) (l:List Int) (t:Int):0≤K9 x l t∧K9 x l t≤255:=by
 unfold K9;split<;>omega
structure Zv where
 img:List (List Int)
 pads:List Int
 mem:ZF
 cpu:Zp
 ppu:ZZ
 apu:Qq
 pad:YB
 nmi:Bool
 steps:Int
 frames:List (List Int)
 samples:List Int
 reads:List Int
def Zv.t (l:Zv):Tup Xn:=(l.img,(l.pads,(l.mem.ram,(l.mem.bank,(l.cpu.a,(l.cpu.x,(l.cpu.s,(l.cpu.pc,(l.cpu.z,(l.cpu.n,(l.cpu.c,(l.cpu.i,
 (l.ppu.T,(l.ppu.ctrl,(l.ppu.scroll,(l.ppu.addr,(l.ppu.pal,(l.ppu.blank,(l.ppu.table,(l.ppu.dots,
 (l.apu.T,(l.apu.period,(l.apu.count,(l.apu.bit,(l.apu.len,(l.apu.asks,(l.apu.irq,(l.pad.held,(l.pad.shift,(l.nmi,(l.steps,(l.frames,(l.samples,(l.reads,()))))))))))))))))))))))))))))))))))
def lkM (a:Tup Xn):Zv:=⟨Zr4 a,Zrv a,ZsA (JN a),Zsx (Kz a),ZsD (Y3 a),Zsv (Uy a),ZsC (Xw a),a.2.2.2.2.2.2.2.2.2.2.2.2.2.2.2.2.2.2.2.2.2.2.2.2.2.2.2.2.2.1,a.2.2.2.2.2.2.2.2.2.2.2.2.2.2.2.2.2.2.2.2.2.2.2.2.2.2.2.2.2.2.1,
 (J1 a).1,(J1 a).2.1,(J1 a).2.2.1⟩
def YF (t:Int):Int:=(t+15)/64
structure Qa (l:Zv):Prop where
 mem:Jz l.img l.mem
 pads:YL l.pads
 cpu:ZM l.cpu
 ppu:JI l.ppu
 apu:Yl l.apu
 pad:Ws l.pad
 t:l.apu.T=l.ppu.T
 s0:0≤l.steps
 s1:l.steps≤l.ppu.T
 fr: ∀f,f∈l.frames→f.length=48
 frn:(l.frames.length:Int)=YF l.ppu.T
 sam:(l.samples.length:Int)=l.ppu.T/16
theorem ZaS {f:List (List Int)} {t:Int} (ht:0≤t):XS f t=true↔(∀l,l∈f→l.length=48)∧(f.length:Int)=YF t:=by
 unfold XS YF;rw[Bool.and_eq_true,List.all_eq_true,Vq,Int.tdiv_eq_ediv_of_nonneg (by omega)];constructor
 ·rintro ⟨a,b⟩;exact ⟨fun l hl=>by have:=Vq.1 (a l hl);omega,b⟩
 ·rintro ⟨a,b⟩;exact ⟨fun l hl=>Vq.2 (by have:=a l hl;omega),b⟩
theorem ZaC {s:List Int} {t:Int} (ht:0≤t):WX s t=true↔(s.length:Int)=t/16:=by
 unfold WX;rw[Vq,Int.tdiv_eq_ediv_of_nonneg ht]
theorem ZmV: ∀{f:List (List Int)},(∀l,l∈f→l.length=48)→Wv f=48*f.length
 | [],_=>rfl
 |x::f,h=>by
  simp only[Wv,List.length_cons];rw[ZmV fun l hl=>h l (List.mem_cons_of_mem _ hl),h x List.mem_cons_self];omega
theorem ZeJ {f:List (List Int)} (h: ∀l,l∈f→l.length=48) (hn:f.length≤1048576):small f:=
 ⟨by omega,fun l hl=>by have:=h l hl;omega,by rw[ZmV h];omega⟩
theorem Qa.s {l:Zv} (h:Qa l) (hr:l.reads.length≤4398046511104):YQ l.t:=by
 have h1:=h.ppu.t;have h2:=h.frn;have h3:=h.sam;have h4:=h.mem.ram.len;have h5:=h.pads.len;unfold YF at h2;exact ⟨h.mem.img.small,by show l.pads.length≤_;omega,by show l.mem.1.length≤_;omega,h.ppu.s,ZeJ (f:=l.frames) h.fr (by omega),by show l.samples.length≤_;omega,hr⟩
def JG (l:Zv) (a:Int):Zv:=
 if (rgT a).1=2 then {l with ppu:=Yf l.ppu (rgT a).2,reads:=l.reads++[Va l.ppu (rgT a).2]}
 else if (rgT a).1=3 then {l with apu:=YT l.apu (rgT a).2,reads:=l.reads++[KG l.apu (rgT a).2]}
 else if (rgT a).1=4 then {l with pad:=WT l.pad l.pads l.ppu.T,reads:=l.reads++[K9 l.pad l.pads l.ppu.T]}
 else l
def VD (l:Zv) (a:Int):Int:=
 if (rgT a).1=2 then Va l.ppu (rgT a).2 else if (rgT a).1=3 then KG l.apu (rgT a).2 else if (rgT a).1=4 then K9 l.pad l.pads l.ppu.T else ZQ l.img l.mem a
def JH (l:Zv) (a v:Int):Zv:=
 if (rgT a).1=2 then {l with ppu:=Yj l.ppu (rgT a).2 v}else if (rgT a).1=3 then {l with apu:=KL l.apu (rgT a).2 v}
 else if (rgT a).1=4 then {l with pad:=W6 l.pad l.pads l.ppu.T v}else {l with mem:=KE l.img l.mem a v}
theorem ZnY {l:Zv} (h:Qa l) (a:Int):Qa (JG l a):=by
 have hp:=h;obtain ⟨m,ps,c,p,u,d,t,s0,s1,f,fn,sm⟩:=h;unfold JG;split
 ·exact ⟨m,ps,c,ZnZ p _,u,d,t.trans (WU _ _).symm,s0,by rw[show ((Yf l.ppu (rgT a).2).T:Int)=l.ppu.T from WU _ _];exact s1,f,by show _=YF (Yf l.ppu (rgT a).2).T;rw[WU];exact fn,by show _=((Yf l.ppu (rgT a).2).T:Int)/16;rw[WU];exact sm⟩
 split
 ·exact ⟨m,ps,c,p,ZnW u _,d,(Zin _ _).trans t,s0,s1,f,fn,sm⟩
 split
 ·exact ⟨m,ps,c,p,u,ZnX d ps,t,s0,s1,f,fn,sm⟩
 ·exact hp
theorem Zls {l:Zv} (h:Qa l) (a:Int):0≤VD l a∧VD l a≤255:=by
 unfold VD;split
 ·exact Zlt h.ppu _
 split
 ·exact Zlq _ _
 split
 ·exact Zlr _ _ _
 ·exact Zej h.mem a
theorem ZiB {l:Zv} (h:Qa l) (a v:Int):Qa (JH l a v):=by
 have hp:=h;obtain ⟨m,ps,c,p,u,d,t,s0,s1,f,fn,sm⟩:=h;unfold JH;split
 ·exact ⟨m,ps,c,ZlJ p _ _,u,d,t.trans (W7 _ _ _).symm,s0,by rw[show ((Yj l.ppu (rgT a).2 v).T:Int)=l.ppu.T from W7 _ _ _];exact s1,f,by show _=YF (Yj l.ppu (rgT a).2 v).T;rw[W7];exact fn,by show _=((Yj l.ppu (rgT a).2 v).T:Int)/16;rw[W7];exact sm⟩
 split
 ·exact ⟨m,ps,c,p,ZlH u _ _,d,(Ze8 _ _ _).trans t,s0,s1,f,fn,sm⟩
 split
 ·exact ⟨m,ps,c,p,u,ZlI d ps,t,s0,s1,f,fn,sm⟩
 ·exact ⟨ZnQ m _ _,ps,c,p,u,d,t,s0,s1,f,fn,sm⟩
theorem ZqO (l:Zv) (a:Int):(JG l a).ppu.T=l.ppu.T:=by
 unfold JG
 repeat' split
 all_goals first|exact WU _ _|rfl
theorem ZpH (l:Zv) (a v:Int):(JH l a v).ppu.T=l.ppu.T:=by
 unfold JH
 repeat' split
 all_goals first|exact W7 _ _ _|rfl
theorem Zgd (l:Zv) (a:Int):(JG l a).img=l.img∧(JG l a).mem=l.mem∧(JG l a).cpu=l.cpu∧(JG l a).steps=l.steps∧(JG l a).pads=l.pads∧(JG l a).nmi=l.nmi:=by
 unfold JG
 repeat' split
 all_goals exact ⟨rfl,rfl,rfl,rfl,rfl,rfl⟩
theorem ZcA (l:Zv) (a v:Int):(JH l a v).img=l.img∧(JH l a v).cpu=l.cpu∧(JH l a v).steps=l.steps∧(JH l a v).reads=l.reads∧(JH l a v).pads=l.pads∧(JH l a v).nmi=l.nmi:=by
 unfold JH
 repeat' split
 all_goals exact ⟨rfl,rfl,rfl,rfl,rfl,rfl⟩
theorem Zkq (l:Zv) (a:Int):(JG l a).reads.length≤l.reads.length+1:=by
 unfold JG
 repeat' split
 all_goals simp
def Ve (f:List (List Int)) (x:ZF) (v:Int):Int:=Xm (ZQ f x v) (ZQ f x (v+1))
def JM (l:Zv) (v:Int):Zv:={l with mem:=XP l.mem l.cpu,cpu:=ZiQ l.cpu (Ve l.img l.mem v)}
theorem ZoA (f:List (List Int)) (x:ZF) (v:Int):0≤Ve f x v∧Ve f x v≤65535:=Zj8 _ _
theorem ZkZ {l:Zv} (h:Qa l) (v:Int):Qa (JM l v):=by
 obtain ⟨m,ps,c,p,u,d,t,s0,s1,f,fn,sm⟩:=h;exact ⟨m.of_ram (Zh0 m.ram) rfl,ps,ZkR c (ZoA _ _ _),p,u,d,t,s0,s1,f,fn,sm⟩
def ZkP (l:Zv) (op arg v:Int):Zv:={l with mem:=VZ l.mem l.cpu op,cpu:=WA l.mem l.cpu op arg v}
theorem ZhZ {l:Zv} (h:Qa l) (op arg v:Int):Qa (ZkP l op arg v):=by
 obtain ⟨m,ps,c,p,u,d,t,s0,s1,f,fn,sm⟩:=h;exact ⟨m.of_ram (Znf m.ram) (Zhd _ _ _),ps,Zne c,p,u,d,t,s0,s1,f,fn,sm⟩
def opL (l:Zv) (op arg:Int):Zv:=
 if ZS op=1 then ZkP (JG l (QZ op arg l.cpu.x)) op arg (VD l (QZ op arg l.cpu.x))
 else if ZS op=2 then ZkP (JH l (QZ op arg l.cpu.x) (l.cpu.a%256)) op arg 0
 else ZkP l op arg 0
theorem Zr7 {l:Zv} (h:Qa l) (op arg:Int):Qa (opL l op arg):=by
 unfold opL;split
 ·exact ZhZ (ZnY h _) _ _ _
 split
 ·exact ZhZ (ZiB h _ _) _ _ _
 ·exact ZhZ h _ _ _
theorem Zr8 (l:Zv) (op arg:Int):(opL l op arg).ppu.T=l.ppu.T:=by
 unfold opL;split
 ·exact ZqO _ _
 split
 ·exact ZpH _ _ _
 ·rfl
theorem ZnH (l:Zv) (op arg:Int):(opL l op arg).steps=l.steps:=by
 unfold opL;split
 ·exact (Zgd _ _).2.2.2.1
 split
 ·exact (ZcA _ _ _).2.2.1
 ·rfl
theorem ZnG (l:Zv) (op arg:Int):(opL l op arg).reads.length≤l.reads.length+1:=by
 unfold opL;split
 ·exact Zkq _ _
 split
 ·show (JH l _ _).reads.length≤_;rw[(ZcA _ _ _).2.2.2.1];omega
 ·show l.reads.length≤_;omega
def Yz (l:Zv):Zv:=
 {l with ppu:=Jx l.ppu,apu:=W4 l.apu,nmi:=l.nmi||Kr l.ppu,frames:=if JQ l.ppu then l.frames++[Yv l.ppu]else l.frames,samples:=if YJ l.apu then l.samples++[We l.apu]else l.samples}
theorem ZkJ {l:Zv} (h:Qa l) (ht:l.ppu.T<20000):Qa (Yz l):=by
 obtain ⟨m,ps,c,p,u,d,t,s0,s1,f,fn,sm⟩:=h;have p0:=p.t.1;refine ⟨m,ps,c,Zov p ht,Zoq u (by omega),d,?_,s0,?_,?_,?_,?_⟩
 ·show l.apu.T+1=(Jx l.ppu).T;rw[W5,t]
 ·show l.steps≤((Jx l.ppu).T:Int);rw[W5];omega
 ·intro x hx;have hx:x∈(if JQ l.ppu then l.frames++[Yv l.ppu]else l.frames):=hx
  split at hx
  ·rename_i ht;rcases List.mem_append.1 hx with h1|h1
   ·exact f x h1
   ·rw[List.mem_singleton.1 h1];exact Zhg p ht
  ·exact f x hx
 ·show ((if JQ l.ppu then l.frames++[Yv l.ppu]else l.frames).length:Int)=YF (Jx l.ppu).T
  rw[W5];unfold YF JQ at*;by_cases h1:l.ppu.T%64=48
  ·simp only[h1,decide_true,if_true,List.length_append,List.length_singleton];omega
  ·simp only[h1,decide_false,Bool.false_eq_true,if_false];omega
 ·show ((if YJ l.apu then l.samples++[We l.apu]else l.samples).length:Int)=((Jx l.ppu).T:Int)/16
  rw[W5];by_cases h1:l.apu.T%16=15
  ·rw[show YJ l.apu=true from Zn h1,Ze rfl,List.length_append,List.length_singleton];omega
  ·rw[show YJ l.apu=false from Zi h1,Zc (by simp)];omega
theorem Ziy (l:Zv):(Yz l).ppu.T=l.ppu.T+1:=W5 _
def QI:Nat→Zv→Zv
 |0,l=>l
 |n+1,l=>QI n (Yz l)
theorem Ziz: ∀{n:Nat} {l:Zv},Qa l→l.ppu.T+n≤20000→Qa (QI n l)∧(QI n l).ppu.T=l.ppu.T+n∧(QI n l).steps=l.steps∧(QI n l).reads=l.reads
 |0,l,h,ht=>⟨h,by show l.ppu.T=l.ppu.T+0;omega,rfl,rfl⟩
 |n+1,l,h,ht=>by
  obtain ⟨a,b,c,d⟩:=Ziz (n:=n) (ZkJ h (by omega)) (by rw[Ziy];omega);refine ⟨a,?_,c,d⟩;show (QI n (Yz l)).ppu.T=_;rw[b,Ziy];omega
def KV (l:Zv):Bool:=l.nmi|| (l.apu.irq&& !l.cpu.i)
def Ql (l:Zv):Int:=opT l.img l.mem l.cpu.pc
def Yr (l:Zv):Int:=VU l.img l.mem l.cpu.pc
def QN (l:Zv):Int:=if KV l then 7 else Qr (Ql l)
def doL (l:Zv):Zv:=
 if l.nmi then JM {l with nmi:=false} 65530 else if l.apu.irq&& !l.cpu.i then JM l 65534 else opL l (Ql l) (Yr l)
def Q1 (l:Zv):Bool:=decide (l.ppu.T+QN l≤20000)
def Q4 (l:Zv):Zv:=let m:=QI (QN l).toNat (doL l);{m with steps:=m.steps+1}
theorem Zqk {l:Zv} (h:Qa l):Qa (doL l):=by
 unfold doL;split
 ·exact ZkZ (l:={l with nmi:=false}) ⟨h.mem,h.pads,h.cpu,h.ppu,h.apu,h.pad,h.t,h.s0,h.s1,h.fr,h.frn,h.sam⟩ _
 split
 ·exact ZkZ h _
 ·exact Zr7 h _ _
theorem Zql (l:Zv):(doL l).ppu.T=l.ppu.T:=by
 unfold doL;split
 ·rfl
 split
 ·rfl
 ·exact Zr8 _ _ _
theorem Zm9 (l:Zv):(doL l).steps=l.steps:=by
 unfold doL;split
 ·rfl
 split
 ·rfl
 ·exact ZnH _ _ _
theorem Zm8 (l:Zv):(doL l).reads.length≤l.reads.length+1:=by
 unfold doL;split
 ·show l.reads.length≤_;omega
 split
 ·show l.reads.length≤_;omega
 ·exact ZnG _ _ _
theorem Zfn (l:Zv):2≤QN l∧QN l≤7:=by
 unfold QN;split
 ·omega
 ·have:=Zct (Ql l);omega
theorem ZkD {l:Zv} (h:Qa l) (hm:Q1 l=true):Qa (Q4 l)∧(Q4 l).ppu.T=l.ppu.T+QN l∧(Q4 l).steps=l.steps+1∧(Q4 l).reads.length≤l.reads.length+1:=by
 have hm:l.ppu.T+QN l≤20000:=by simpa [Q1] using hm
 have hc:=Zfn l;have hd:=Zql l;obtain ⟨a,b,c,d⟩:=Ziz (n:=(QN l).toNat) (Zqk h) (by omega);have e:(Q4 l).ppu.T=l.ppu.T+QN l:=by
  show (QI (QN l).toNat (doL l)).ppu.T=_;rw[b,hd];omega
 have e2:(Q4 l).steps=l.steps+1:=by
  show (QI (QN l).toNat (doL l)).steps+1=_;rw[c,Zm9]
 obtain ⟨m,ps,cc,p,u,dd,t,s0,s1,f,fn,sm⟩:=a;refine ⟨⟨m,ps,cc,p,u,dd,t,by have:=h.s0;omega,by have:=h.s1;have:=h.s0;rw[e,e2];omega,f,fn,sm⟩,e,e2,?_⟩;show (QI (QN l).toNat (doL l)).reads.length≤_;rw[d];exact Zm8 l
def QK:Nat→Zv→Zv×Nat
 |0,l=>(l,0)
 |n+1,l=>if Q1 l then ((QK n (Q4 l)).1,(QK n (Q4 l)).2+1)else (l,0)
theorem ZpW: ∀{n:Nat} {l:Zv},Qa l→Qa (QK n l).1∧(QK n l).2≤n∧(QK n l).1.reads.length≤l.reads.length+n∧(QK n l).1.steps=l.steps+(QK n l).2
 |0,l,h=>⟨h,Nat.le_refl _,Nat.le_refl _,by show l.steps=l.steps+0;omega⟩
 |n+1,l,h=>by
  unfold QK;split
  ·rename_i hm;obtain ⟨a,b,c,d⟩:=ZkD h hm;obtain ⟨e,f,g,i⟩:=ZpW (n:=n) a;exact ⟨e,by show (QK n (Q4 l)).2+1≤n+1;omega,by show (QK n (Q4 l)).1.reads.length≤_;omega,by show (QK n (Q4 l)).1.steps=l.steps+(((QK n (Q4 l)).2+1:Nat):Int);omega⟩
  ·exact ⟨h,Nat.zero_le _,by show l.reads.length≤_;omega,by show l.steps=l.steps+0;omega⟩
abbrev Rc:=Int×Int×Int
def RcP (x:Rc):Prop:=(0≤x.1∧x.1≤20000)∧(0≤x.2.1∧x.2.1≤7)∧(0≤x.2.2∧x.2.2≤255)
structure Vj (cap:Int) (l:List Rc):Prop where
 rec': ∀x,x∈l→RcP x
 ord:l.Pairwise (fun a b=>a.1≤b.1)
 c0:1≤cap
 c1:cap≤16
 len:(l.length:Int)≤cap
theorem Zkm {l:List Rc} (h: ∀i,(hi:i+1<l.length)→l[i].1≤l[i+1].1):l.Pairwise (fun a b=>a.1≤b.1):=by
 rw[List.pairwise_iff_getElem];intro i j hi hj hij;induction j with
 |zero=>omega
 |succ j ih=>
  rcases Nat.lt_or_ge i j with h1|h1
  ·exact Int.le_trans (ih (by omega) h1) (h j hj)
  ·have:i=j:=by omega
   subst this;exact h i hj
theorem ZaH {r:Tup Yh}:XD r=true↔Vj r.1 r.2.1:=by
 unfold XD;rw[Bool.and_eq_true,Bool.and_eq_true,List.all_eq_true,JE,WJ];have hg: ∀i,(hi:i<r.2.1.length)→rdE .t r.2.1 (i:Int)=r.2.1[i]:=fun i hi=>Qg .t r.2.1 i hi;constructor
 ·rintro ⟨h,⟨c0,c1⟩,hl⟩;have key: ∀i,(hi:i<r.2.1.length)→RcP r.2.1[i]∧(i≠0→ ¬(r.2.1[i]).1< (rdE .t r.2.1 ((i-1:Nat):Int)).1):=fun i hi=>by
   have:=h i (by rw[List.mem_range'];exact ⟨i,hi,by omega⟩);unfold Vb at this;rw[hg i hi]at this;simp only[Bool.and_eq_true,JE,Bool.or_eq_true,decide_eq_true_eq,Bool.not_eq_true']at this;obtain ⟨a,b,c,d⟩:=this;refine ⟨⟨a,b,c⟩,fun h0=> ?_⟩;rcases d with d|d
   ·exact absurd d h0
   ·intro hlt;rw[show ltI (r.2.1[i]).1 (rdE .t r.2.1 ((i-1:Nat):Int)).1=true from Zk hlt]at d;cases d
  refine ⟨fun x hx=> ?_,Zkm fun i hi=> ?_,c0,c1,hl⟩
  ·obtain ⟨i,hi,rfl⟩:=List.getElem_of_mem hx;exact (key i hi).1
  ·have:=(key (i+1) hi).2 (by omega);rw[Nat.add_sub_cancel,hg i (by omega)]at this;omega
 ·rintro ⟨h,ho,c0,c1,hl⟩;refine ⟨fun i hi=> ?_,⟨c0,c1⟩,hl⟩;rw[List.mem_range']at hi;obtain ⟨j,hj,e⟩:=hi;have hi:i<r.2.1.length:=by omega
  unfold Vb;rw[hg i hi];obtain ⟨a,b,c⟩:=h _ (List.getElem_mem hi);simp only[Bool.and_eq_true,JE,Bool.or_eq_true,decide_eq_true_eq,Bool.not_eq_true'];refine ⟨a,b,c,?_⟩;by_cases h0:i=0
  ·exact .inl h0
  ·right;rw[hg (i-1) (by omega)];have:=List.pairwise_iff_getElem.1 ho (i-1) i (by omega) hi (by omega);exact Zx (by omega)
theorem ZaZ {r:Tup Yh} {t:Int} (h:r.2.1.Pairwise (fun a b=>a.1≤b.1)):WV r t=true↔ ∀x,x∈r.2.1→t≤x.1:=by
 unfold WV;obtain ⟨cap,l,_⟩:=r;simp only at h⊢;cases l with
 |nil=>simp
 |cons y l=>
  simp only[List.length_cons,Nat.add_one_ne_zero,if_false];rw[show rdE .t (y::l) (0:Int)=y from rfl,WJ];constructor
  ·intro h1 x hx;cases hx with
   |head=>exact h1
   |tail _ hx=>exact Int.le_trans h1 ((List.pairwise_cons.1 h).1 x hx)
  ·intro h1;exact h1 y List.mem_cons_self
theorem Za0 {r:Tup Yh} {t:Int} (h:r.2.1.Pairwise (fun a b=>a.1≤b.1)):VF r t=true↔ ∀x,x∈r.2.1→x.1≤t:=by
 unfold VF;obtain ⟨cap,l,_⟩:=r;simp only at h⊢;by_cases h0:l.length=0
 ·have:l=[]:=List.eq_nil_of_length_eq_zero h0;subst this;simp
 ·rw[Zc h0,Qg .t l (l.length-1) (by omega),WJ];constructor
  ·intro h1 x hx;obtain ⟨i,hi,rfl⟩:=List.getElem_of_mem hx;rcases Nat.lt_or_ge i (l.length-1)with h2|h2
   ·exact Int.le_trans (List.pairwise_iff_getElem.1 h i (l.length-1) hi (by omega) h2) h1
   ·have:i=l.length-1:=by omega
    subst this;exact h1
  ·intro h1;exact h1 _ (List.getElem_mem _)
structure Q6 where
 ppu:ZZ
 cap:Int
 list:List Rc
 frames:List (List Int)
structure Q7 where
 apu:Qq
 cap:Int
 list:List Rc
 samples:List Int
def Q6.t (w:Q6):Tup VA:=(w.ppu.T,(w.ppu.ctrl,(w.ppu.scroll,(w.ppu.addr,(w.ppu.pal,(w.ppu.blank,(w.ppu.table,(w.ppu.dots,(w.cap,(w.list,(w.frames,())))))))))))
def Q7.t (w:Q7):Tup VJ:=(w.apu.T,(w.apu.period,(w.apu.count,(w.apu.bit,(w.apu.len,(w.apu.asks,(w.apu.irq,(w.cap,(w.list,(w.samples,()))))))))))
structure JY (w:Q6):Prop where
 ppu:JI w.ppu
 ring:Vj w.cap w.list
 lo: ∀x,x∈w.list→w.ppu.T≤x.1
 fr: ∀f,f∈w.frames→f.length=48
 frn:(w.frames.length:Int)=YF w.ppu.T
structure JK (w:Q7):Prop where
 apu:Yl w.apu
 ring:Vj w.cap w.list
 lo: ∀x,x∈w.list→w.apu.T≤x.1
 sam:(w.samples.length:Int)=w.apu.T/16
theorem Zf8 {w:Q6}:VB w.t=true↔JY w:=by
 unfold VB;simp only[Bool.and_eq_true];constructor
 ·rintro ⟨a,b,c,d⟩;have a:=WR.1 (show YS w.ppu.t=true from a);have b:=ZaH.1 b;have d:=(ZaS a.t.1).1 (show XS w.frames w.ppu.T=true from d);exact ⟨a,b,(ZaZ b.ord).1 c,d.1,d.2⟩
 ·rintro ⟨a,b,c,d,e⟩;exact ⟨WR.2 a,ZaH.2 b,(ZaZ (r:=(w.cap,(w.list,()))) b.ord).2 c,(ZaS a.t.1).2 ⟨d,e⟩⟩
theorem Zgo {w:Q7}:VK w.t=true↔JK w:=by
 unfold VK;simp only[Bool.and_eq_true];constructor
 ·rintro ⟨a,b,c,d⟩;have a:=Wu.1 (show Xd w.apu.t=true from a);have b:=ZaH.1 b;have d:=(ZaC a.t.1).1 (show WX w.samples w.apu.T=true from d);exact ⟨a,b,(ZaZ b.ord).1 c,d⟩
 ·rintro ⟨a,b,c,d⟩;exact ⟨Wu.2 a,ZaH.2 b,(ZaZ (r:=(w.cap,(w.list,()))) b.ord).2 c,(ZaC a.t.1).2 d⟩
theorem JY.s {w:Q6} (h:JY w):Zjm w.t:=by
 have h1:=h.ppu.t;have h2:=h.frn;have h3:=h.ring.len;have h4:=h.ring.c1;unfold YF at h2;exact ⟨h.ppu.s,by show w.list.length≤_;omega,ZeJ (f:=w.frames) h.fr (by omega)⟩
theorem JK.s {w:Q7} (h:JK w):ZjB w.t:=by
 have h1:=h.apu.t;have h2:=h.sam;have h3:=h.ring.len;have h4:=h.ring.c1;exact ⟨by show w.list.length≤_;omega,by show w.samples.length≤_;omega⟩
theorem Vj.tail {cap:Int} {x:Rc} {l:List Rc} (h:Vj cap (x::l)):Vj cap l:=
 ⟨fun y hy=>h.rec' y (List.mem_cons_of_mem _ hy),(List.pairwise_cons.1 h.ord).2,h.c0,h.c1,by have:=h.len;simp only[List.length_cons]at this;omega⟩
def due (l:List Rc) (t:Int):Bool:=match l with| []=>false|x::_=>decide (x.1=t)
def JD (l:List Rc):Rc:=match l with| []=>(0,(0,0))|x::_=>x
def Jn (w:Q6) (mark:Int):Option Q6:=
 if due w.list w.ppu.T then some {w with ppu:=Yj w.ppu (JD w.list).2.1 (JD w.list).2.2,list:=w.list.tail}
 else if w.ppu.T<mark∧w.ppu.T<20000 then some {w with ppu:=Jx w.ppu,frames:=if JQ w.ppu then w.frames++[Yv w.ppu]else w.frames}else none
def Jo (w:Q7) (mark:Int):Option Q7:=
 if due w.list w.apu.T then some {w with apu:=KL w.apu (JD w.list).2.1 (JD w.list).2.2,list:=w.list.tail}
 else if w.apu.T<mark∧w.apu.T<20000 then some {w with apu:=W4 w.apu,samples:=if YJ w.apu then w.samples++[We w.apu]else w.samples}else none
theorem Zcl {l:List Rc} {t:Int} (h:due l t=true):l=JD l::l.tail∧(JD l).1=t:=by
 unfold due JD at*;cases l with
 |nil=>cases h
 |cons x l=>exact ⟨rfl,by simpa using h⟩
theorem ZnA {l:List Rc} {t:Int} (ho:l.Pairwise (fun a b=>a.1≤b.1)) (hl: ∀x,x∈l→t≤x.1) (h:due l t=false): ∀x,x∈l→t+1≤x.1:=by
 unfold due at h;cases l with
 |nil=>intro x hx;cases hx
 |cons y l=>
  have h:y.1≠t:=by simpa using h
  have h1:=hl y List.mem_cons_self;intro x hx;cases hx with
  |head=>omega
  |tail _ hx=>have:=(List.pairwise_cons.1 ho).1 x hx;omega
theorem Wm {w v:Q6} {mark:Int} (h:JY w) (hs:Jn w mark=some v):JY v∧v.cap=w.cap∧(∀x,x∈v.list→x∈w.list)∧
  (v.ppu.T=w.ppu.T∧v.list.length+1=w.list.length∨v.ppu.T=w.ppu.T+1∧w.ppu.T<mark∧w.ppu.T<20000∧v.list=w.list):=by
 obtain ⟨p,r,lo,f,fn⟩:=h;unfold Jn at hs;split at hs
 ·rename_i hd;obtain ⟨e,e1⟩:=Zcl hd;simp only[Zg]at hs;subst hs;rw[e]at r lo;refine ⟨⟨ZlJ p _ _,r.tail,fun x hx=> ?_,f,?_⟩,rfl,fun x hx=> ?_, .inl ⟨W7 _ _ _,?_⟩⟩
  ·show (Yj w.ppu _ _).T≤x.1;rw[W7];exact lo x (List.mem_cons_of_mem _ hx)
  ·show (w.frames.length:Int)=YF (Yj w.ppu _ _).T;rw[W7];exact fn
  ·show x∈w.list;rw[e];exact List.mem_cons_of_mem _ hx
  ·show w.list.tail.length+1=w.list.length
   conv=>rhs;rw[e]
   rfl
 ·split at hs
  ·rename_i hd hm;simp only[Zg]at hs;subst hs;have hd:due w.list w.ppu.T=false:=by simpa using hd
   have p0:=p.t.1;refine ⟨⟨Zov p hm.2,r,fun x hx=> ?_,fun x hx=> ?_,?_⟩,rfl,fun x hx=>hx, .inr ⟨W5 _,hm.1,hm.2,rfl⟩⟩
   ·show (Jx w.ppu).T≤x.1;rw[W5];exact ZnA r.ord lo hd x hx
   ·have hx:x∈(if JQ w.ppu then w.frames++[Yv w.ppu]else w.frames):=hx
    split at hx
    ·rename_i ht;rcases List.mem_append.1 hx with h1|h1
     ·exact f x h1
     ·rw[List.mem_singleton.1 h1];exact Zhg p ht
    ·exact f x hx
   ·show ((if JQ w.ppu then w.frames++[Yv w.ppu]else w.frames).length:Int)=YF (Jx w.ppu).T
    rw[W5];unfold YF JQ at*;by_cases h1:w.ppu.T%64=48
    ·simp only[h1,decide_true,if_true,List.length_append,List.length_singleton];omega
    ·simp only[h1,decide_false,Bool.false_eq_true,if_false];omega
  ·cases hs
theorem Wn {w v:Q7} {mark:Int} (h:JK w) (hs:Jo w mark=some v):JK v∧v.cap=w.cap∧(∀x,x∈v.list→x∈w.list)∧
  (v.apu.T=w.apu.T∧v.list.length+1=w.list.length∨v.apu.T=w.apu.T+1∧w.apu.T<mark∧w.apu.T<20000∧v.list=w.list):=by
 obtain ⟨p,r,lo,fn⟩:=h;unfold Jo at hs;split at hs
 ·rename_i hd;obtain ⟨e,e1⟩:=Zcl hd;simp only[Zg]at hs;subst hs;rw[e]at r lo;refine ⟨⟨ZlH p _ _,r.tail,fun x hx=> ?_,?_⟩,rfl,fun x hx=> ?_, .inl ⟨Ze8 _ _ _,?_⟩⟩
  ·show (KL w.apu _ _).T≤x.1;rw[Ze8];exact lo x (List.mem_cons_of_mem _ hx)
  ·show (w.samples.length:Int)=(KL w.apu _ _).T/16;rw[Ze8];exact fn
  ·show x∈w.list;rw[e];exact List.mem_cons_of_mem _ hx
  ·show w.list.tail.length+1=w.list.length
   conv=>rhs;rw[e]
   rfl
 ·split at hs
  ·rename_i hd hm;simp only[Zg]at hs;subst hs;have hd:due w.list w.apu.T=false:=by simpa using hd
   have p0:=p.t.1;refine ⟨⟨Zoq p hm.2,r,fun x hx=>ZnA r.ord lo hd x hx,?_⟩,rfl,fun x hx=>hx, .inr ⟨rfl,hm.1,hm.2,rfl⟩⟩;show ((if YJ w.apu then w.samples++[We w.apu]else w.samples).length:Int)=(w.apu.T+1)/16
   by_cases h1:w.apu.T%16=15
   ·rw[show YJ w.apu=true from Zn h1,Ze rfl,List.length_append,List.length_singleton];omega
   ·rw[show YJ w.apu=false from Zi h1,Zc (by simp)];omega
  ·cases hs
def Y1:Nat→Q6→Int→Q6
 |0,w,_=>w
 |n+1,w,m=>match Jn w m with|none=>w|some v=>Y1 n v m
def Y2:Nat→Q7→Int→Q7
 |0,w,_=>w
 |n+1,w,m=>match Jo w m with|none=>w|some v=>Y2 n v m
def YG (w:Q6):Nat:=w.list.length+(20000-w.ppu.T).toNat
def YH (w:Q7):Nat:=w.list.length+(20000-w.apu.T).toNat
theorem ZaE {w v:Q6} {m:Int} (h:JY w) (hs:Jn w m=some v):YG v<YG w:=by
 obtain ⟨a,_,_,c⟩:=Wm h hs;unfold YG;have:=h.ppu.t;rcases c with ⟨c,d⟩| ⟨c,d,e,f⟩
 ·rw[c];omega
 ·rw[c,f];omega
theorem ZaF {w v:Q7} {m:Int} (h:JK w) (hs:Jo w m=some v):YH v<YH w:=by
 obtain ⟨a,_,_,c⟩:=Wn h hs;unfold YH;have:=h.apu.t;rcases c with ⟨c,d⟩| ⟨c,d,e,f⟩
 ·rw[c];omega
 ·rw[c,f];omega
def Xf (w:Q6) (m:Int):Q6:=Y1 (YG w) w m
def Xg (w:Q7) (m:Int):Q7:=Y2 (YH w) w m
theorem Zfh: ∀{n:Nat} {w:Q6} {m:Int},JY w→YG w≤n→Y1 n w m=Xf w m:=by
 intro n;induction n using Nat.strongRecOn with
 |ind n ih=>
  intro w m h hn;unfold Xf;cases n with
  |zero=>rw[show YG w=0 by omega]
  |succ n=>
   cases hs:Jn w m with
   |none=>
    rw[show Y1 (n+1) w m=w by rw[Y1,hs]];cases YG w with
    |zero=>rfl
    |succ k=>rw[Y1,hs]
   |some v=>
    have h1:=ZaE h hs;rw[show Y1 (n+1) w m=Y1 n v m by rw[Y1,hs]];rw[ih n (by omega) (Wm h hs).1 (by omega)];obtain ⟨k,hk⟩: ∃k,YG w=k+1:=⟨YG w-1,by omega⟩;rw[hk,show Y1 (k+1) w m=Y1 k v m by rw[Y1,hs]];exact (ih k (by omega) (Wm h hs).1 (by omega)).symm
theorem Zfi: ∀{n:Nat} {w:Q7} {m:Int},JK w→YH w≤n→Y2 n w m=Xg w m:=by
 intro n;induction n using Nat.strongRecOn with
 |ind n ih=>
  intro w m h hn;unfold Xg;cases n with
  |zero=>rw[show YH w=0 by omega]
  |succ n=>
   cases hs:Jo w m with
   |none=>
    rw[show Y2 (n+1) w m=w by rw[Y2,hs]];cases YH w with
    |zero=>rfl
    |succ k=>rw[Y2,hs]
   |some v=>
    have h1:=ZaF h hs;rw[show Y2 (n+1) w m=Y2 n v m by rw[Y2,hs]];rw[ih n (by omega) (Wn h hs).1 (by omega)];obtain ⟨k,hk⟩: ∃k,YH w=k+1:=⟨YH w-1,by omega⟩;rw[hk,show Y2 (k+1) w m=Y2 k v m by rw[Y2,hs]];exact (ih k (by omega) (Wn h hs).1 (by omega)).symm
theorem Za8 {w v:Q6} {m:Int} (h:JY w) (hs:Jn w m=some v):Xf w m=Xf v m:=by
 have h1:=ZaE h hs;obtain ⟨k,hk⟩: ∃k,YG w=k+1:=⟨YG w-1,by omega⟩;unfold Xf;rw[hk,show Y1 (k+1) w m=Y1 k v m by rw[Y1,hs]];exact Zfh (Wm h hs).1 (by omega)
theorem Zar {w:Q6} {m:Int} (hs:Jn w m=none):Xf w m=w:=by
 unfold Xf;cases YG w with
 |zero=>rfl
 |succ k=>rw[Y1,hs]
theorem Za9 {w v:Q7} {m:Int} (h:JK w) (hs:Jo w m=some v):Xg w m=Xg v m:=by
 have h1:=ZaF h hs;obtain ⟨k,hk⟩: ∃k,YH w=k+1:=⟨YH w-1,by omega⟩;unfold Xg;rw[hk,show Y2 (k+1) w m=Y2 k v m by rw[Y2,hs]];exact Zfi (Wn h hs).1 (by omega)
theorem Zas {w:Q7} {m:Int} (hs:Jo w m=none):Xg w m=w:=by
 unfold Xg;cases YH w with
 |zero=>rfl
 |succ k=>rw[Y2,hs]
theorem Zc8 {Q:Q6→Prop} {m:Int} (hq: ∀w v,JY w→Q w→Jn w m=some v→Q v): ∀(n:Nat) {w:Q6},YG w≤n→JY w→Q w→JY (Xf w m)∧Q (Xf w m)∧Jn (Xf w m) m=none
 |0,w,hn,h,q=>by
  cases hs:Jn w m with
  |none=>rw[Zar hs];exact ⟨h,q,hs⟩
  |some v=>have:=ZaE h hs;omega
 |n+1,w,hn,h,q=>by
  cases hs:Jn w m with
  |none=>rw[Zar hs];exact ⟨h,q,hs⟩
  |some v=>
   rw[Za8 h hs];exact Zc8 hq n (by have:=ZaE h hs;omega) (Wm h hs).1 (hq w v h q hs)
theorem Zc9 {Q:Q7→Prop} {m:Int} (hq: ∀w v,JK w→Q w→Jo w m=some v→Q v): ∀(n:Nat) {w:Q7},YH w≤n→JK w→Q w→JK (Xg w m)∧Q (Xg w m)∧Jo (Xg w m) m=none
 |0,w,hn,h,q=>by
  cases hs:Jo w m with
  |none=>rw[Zas hs];exact ⟨h,q,hs⟩
  |some v=>have:=ZaF h hs;omega
 |n+1,w,hn,h,q=>by
  cases hs:Jo w m with
  |none=>rw[Zas hs];exact ⟨h,q,hs⟩
  |some v=>
   rw[Za9 h hs];exact Zc9 hq n (by have:=ZaF h hs;omega) (Wn h hs).1 (hq w v h q hs)
structure Zh where
 img:List (List Int)
 pads:List Int
 mem:ZF
 cpu:Zp
 pad:YB
 T:Int
 nmi:Bool
 ctrl:Int
 known:Bool
 knownAt:Int
 steps:Int
 reads:List Int
 pic:Q6
 snd:Q7
def Zh.t (s:Zh):Tup QL:=(s.img,(s.pads,(s.mem.ram,(s.mem.bank,(s.cpu.a,(s.cpu.x,(s.cpu.s,(s.cpu.pc,(s.cpu.z,(s.cpu.n,(s.cpu.c,(s.cpu.i,(s.pad.held,(s.pad.shift,
 (s.T,(s.nmi,(s.ctrl,(s.known,(s.knownAt,(s.steps,(s.reads,
 (s.pic.ppu.T,(s.pic.ppu.ctrl,(s.pic.ppu.scroll,(s.pic.ppu.addr,(s.pic.ppu.pal,(s.pic.ppu.blank,(s.pic.ppu.table,(s.pic.ppu.dots,(s.pic.cap,(s.pic.list,(s.pic.frames,s.snd.t))))))))))))))))))))))))))))))))
structure Zz (s:Zh):Prop where
 mem:Jz s.img s.mem
 pads:YL s.pads
 cpu:ZM s.cpu
 pic:JY s.pic
 snd:JK s.snd
 pad:Ws s.pad
 ctrl:0≤s.ctrl∧s.ctrl≤255
 t:0≤s.T∧s.T≤20000
 known:0≤s.knownAt∧s.knownAt≤s.T
 steps:0≤s.steps∧s.steps≤s.T
 pt:s.pic.ppu.T≤s.T
 st:s.snd.apu.T≤s.T
 pl: ∀x,x∈s.pic.list→x.1≤s.T
 sl: ∀x,x∈s.snd.list→x.1≤s.T
theorem JX {s:Zh}:Z8 s.t=true↔Zz s:=by
 unfold Z8 Zbn Ze4 Ze3;simp only[Bool.and_eq_true,JE];constructor
 ·rintro ⟨⟨a,b,c,d,e⟩,⟨f,g,h,i,j⟩,k,l,m,n⟩;have d:=Zf8.1 (show VB s.pic.t=true from d);have e:=Zgo.1 (show VK s.snd.t=true from e);exact ⟨UA.1 a,UG.1 b,Zda.1 c,d,e,f,g,h,i,j,WJ.1 k,WJ.1 l,(Za0 d.ring.ord).1 m,(Za0 e.ring.ord).1 n⟩
 ·rintro ⟨a,b,c,d,e,f,g,h,i,j,k,l,m,n⟩;exact ⟨⟨UA.2 a,UG.2 b,Zda.2 c,Zf8.2 d,Zgo.2 e⟩,⟨f,g,h,i,j⟩,WJ.2 k,WJ.2 l,(Za0 (r:=(s.pic.cap,(s.pic.list,()))) d.ring.ord).2 m,(Za0 (r:=(s.snd.cap,(s.snd.list,()))) e.ring.ord).2 n⟩
theorem Zz.s {s:Zh} (h:Zz s) (hr:s.reads.length≤4398046511104):ZX s.t:=by
 have h4:=h.mem.ram.len;have h5:=h.pads.len;exact ⟨h.mem.img.small,by show s.pads.length≤_;omega,by show s.mem.1.length≤_;omega,hr,h.pic.s,h.snd.s⟩
def Zhz (s:Zh):Bool:=eqI s.pic.ppu.T s.T&&eqI (s.pic.list.length:Int) 0
def KJ (s:Zh):Bool:=eqI s.snd.apu.T s.T&&eqI (s.snd.list.length:Int) 0
def JZ (a b:Int):Bool:=decide ((a+31)/32< (b+31)/32)
def ZiL (a b:Int):Bool:=decide ((a+15)/64< (b+15)/64)
def YR (s:Zh) (n:Int):Int:=if 20000<s.T+n then 5 else 0
def Yt (s:Zh):Bool:= !s.nmi&&(!s.cpu.i&&JZ s.knownAt s.T)
def JU (s:Zh):Bool:=(if JZ s.knownAt s.T then s.snd.apu.irq else s.known)&& !s.cpu.i
def opS (s:Zh):Int:=opT s.img s.mem s.cpu.pc
def JB (s:Zh):Int:=VU s.img s.mem s.cpu.pc
def ZU (s:Zh):Int:=QZ (opS s) (JB s) s.cpu.x
def QS (s:Zh):Int:=
 if s.nmi then YR s 7 else if Yt s&& !KJ s then 2 else if JU s then YR s 7
 else if ZS (opS s)=1∧(rgT (ZU s)).1=2∧Zhz s=false then 1 else if ZS (opS s)=1∧(rgT (ZU s)).1=3∧KJ s=false then 2
 else if ZS (opS s)=2∧(rgT (ZU s)).1=2∧s.pic.cap≤(s.pic.list.length:Int)then 3 else if ZS (opS s)=2∧(rgT (ZU s)).1=3∧s.snd.cap≤(s.snd.list.length:Int)then 4
 else YR s (Qr (opS s))
def Jv (s:Zh) (b:Bool):Zh:={s with known:=b,knownAt:=s.T}
def Yg (s:Zh) (a:Int):Zh:=
 if (rgT a).1=2 then {s with pic:={s.pic with ppu:=Yf s.pic.ppu (rgT a).2},reads:=s.reads++[Va s.pic.ppu (rgT a).2]}
 else if (rgT a).1=3 then
  (if (rgT a).2=2 then {s with snd:={s.snd with apu:=YT s.snd.apu (rgT a).2},known:=false,knownAt:=s.T,reads:=s.reads++[KG s.snd.apu (rgT a).2]}
  else {s with snd:={s.snd with apu:=YT s.snd.apu (rgT a).2},reads:=s.reads++[KG s.snd.apu (rgT a).2]})
 else if (rgT a).1=4 then {s with pad:=WT s.pad s.pads s.T,reads:=s.reads++[K9 s.pad s.pads s.T]}
 else s
def VE (s:Zh) (a:Int):Int:=
 if (rgT a).1=2 then Va s.pic.ppu (rgT a).2 else if (rgT a).1=3 then KG s.snd.apu (rgT a).2 else if (rgT a).1=4 then K9 s.pad s.pads s.T else ZQ s.img s.mem a
def Yk (s:Zh) (a v:Int):Zh:=
 if (rgT a).1=2 then {s with pic:={s.pic with list:=s.pic.list++[(s.T,((rgT a).2,v))]},ctrl:=if (rgT a).2=0 then v else s.ctrl}
 else if (rgT a).1=3 then
  (if (rgT a).2=3∨(rgT a).2=2∧v%2=0 then {s with snd:={s.snd with list:=s.snd.list++[(s.T,((rgT a).2,v))]},known:=false,knownAt:=s.T}
  else {s with snd:={s.snd with list:=s.snd.list++[(s.T,((rgT a).2,v))]}})
 else if (rgT a).1=4 then {s with pad:=W6 s.pad s.pads s.T v}else {s with mem:=KE s.img s.mem a v}
def Uv (s:Zh) (v:Int):Zh:={s with mem:=XP s.mem s.cpu,cpu:=ZiQ s.cpu (Ve s.img s.mem v)}
def Zng (s:Zh) (op arg v:Int):Zh:={s with mem:=VZ s.mem s.cpu op,cpu:=WA s.mem s.cpu op arg v}
def KC (s:Zh):Zh:=
 if ZS (opS s)=1 then Zng (Yg s (ZU s)) (opS s) (JB s) (VE s (ZU s))
 else if ZS (opS s)=2 then Zng (Yk s (ZU s) (s.cpu.a%256)) (opS s) (JB s) 0
 else Zng s (opS s) (JB s) 0
def ZO (s:Zh):Zh:=if Yt s then Jv s s.snd.apu.irq else s
def Yq (s:Zh):Zh×Int:=
 if s.nmi then (Uv {s with nmi:=false} 65530,7)else if s.known&& !s.cpu.i then (Uv s 65534,7)else (KC s,Qr (opS s))
def ZrK (a:Int) (r:Zh×Int):Zh:={r.1 with T:=a+r.2,nmi:=ltI 127 r.1.ctrl&&ZiL a (a+r.2),steps:=r.1.steps+1}
def Xq (s:Zh):Zh:=ZrK s.T (Yq (ZO s))
structure UW (s:Zh) (s':Zh):Prop where
 img:s'.img=s.img
 pads:s'.pads=s.pads
 T:s'.T=s.T
 nmi:s'.nmi=s.nmi
 steps:s'.steps=s.steps
 reads:s'.reads.length≤s.reads.length+1
structure ZiF (s:Zh):Prop where
 p:Zz s
 room:ZS (opS s)=2→(rgT (ZU s)).1=2→(s.pic.list.length:Int)<s.pic.cap
 room':ZS (opS s)=2→(rgT (ZU s)).1=3→(s.snd.list.length:Int)<s.snd.cap
theorem Zn0 {s:Zh} (h:Zz s) (a:Int):Zz (Yg s a):=by
 have hp:=h;obtain ⟨m,ps,c,pc,sd,d,ct,t,kn,st,pt,sdt,pl,sl⟩:=h;unfold Yg;split
 ·exact ⟨m,ps,c,⟨ZnZ pc.ppu _,pc.ring,fun x hx=>by show (Yf s.pic.ppu _).T≤_;rw[WU];exact pc.lo x hx,pc.fr,by show _=YF (Yf s.pic.ppu _).T;rw[WU];exact pc.frn⟩,sd,d,ct,t,kn,st,by show (Yf s.pic.ppu _).T≤_;rw[WU];exact pt,sdt,pl,sl⟩
 split
 ·have sd':JK {s.snd with apu:=YT s.snd.apu (rgT a).2}:=⟨ZnW sd.apu _,sd.ring,fun x hx=>by show (YT s.snd.apu _).T≤_;rw[Zin];exact sd.lo x hx,by show _=(YT s.snd.apu _).T/16;rw[Zin];exact sd.sam⟩
  have sdt':(YT s.snd.apu (rgT a).2).T≤s.T:=by rw[Zin];exact sdt
  split
  ·exact ⟨m,ps,c,pc,sd',d,ct,t,⟨t.1,Int.le_refl _⟩,st,pt,sdt',pl,sl⟩
  ·exact ⟨m,ps,c,pc,sd',d,ct,t,kn,st,pt,sdt',pl,sl⟩
 split
 ·exact ⟨m,ps,c,pc,sd,ZnX d ps,ct,t,kn,st,pt,sdt,pl,sl⟩
 ·exact hp
theorem Zpq {s:Zh} (h:Zz s) (a:Int):0≤VE s a∧VE s a≤255:=by
 unfold VE;split
 ·exact Zlt h.pic.ppu _
 split
 ·exact Zlq _ _
 split
 ·exact Zlr _ _ _
 ·exact Zej h.mem a
theorem Zkr (s:Zh) (a:Int):UW s (Yg s a)∧(Yg s a).cpu=s.cpu∧(Yg s a).mem=s.mem:=by
 unfold Yg
 repeat' split
 all_goals exact ⟨⟨rfl,rfl,rfl,rfl,rfl,by simp⟩,rfl,rfl⟩
theorem Vj.app {cap:Int} {l:List Rc} (h:Vj cap l) {x:Rc} (hx:RcP x) (hl: ∀y,y∈l→y.1≤x.1) (hc:(l.length:Int)<cap):Vj cap (l++[x]):=
 ⟨fun y hy=>by
  rcases List.mem_append.1 hy with h1|h1
  ·exact h.rec' y h1
  ·rw[List.mem_singleton.1 h1];exact hx,
 List.pairwise_append.2 ⟨h.ord,List.pairwise_singleton _ _,fun a ha b hb=>by rw[List.mem_singleton.1 hb];exact hl a ha⟩,h.c0,h.c1,by rw[List.length_append,List.length_singleton];omega⟩
theorem ZiC {s:Zh} (h:Zz s) {a v:Int} (hv:0≤v∧v≤255) (r1:(rgT a).1=2→(s.pic.list.length:Int)<s.pic.cap) (r2:(rgT a).1=3→(s.snd.list.length:Int)<s.snd.cap):Zz (Yk s a v):=by
 have hp:=h;obtain ⟨m,ps,c,pc,sd,d,ct,t,kn,st,pt,sdt,pl,sl⟩:=h;have app: ∀{l:List Rc} {lo:Int},(∀x,x∈l→lo≤x.1)→lo≤s.T→ ∀x,x∈l++[(s.T,((rgT a).2,v))]→lo≤x.1:=fun h1 h2 x hx=>by
  rcases List.mem_append.1 hx with h3|h3
  ·exact h1 x h3
  ·rw[List.mem_singleton.1 h3];exact h2
 have app2: ∀{l:List Rc},(∀x,x∈l→x.1≤s.T)→ ∀x,x∈l++[(s.T,((rgT a).2,v))]→x.1≤s.T:=fun h1 x hx=>by
  rcases List.mem_append.1 hx with h3|h3
  ·exact h1 x h3
  ·rw[List.mem_singleton.1 h3];exact Int.le_refl _
 unfold Yk;split
 ·rename_i e;have hr:0≤(rgT a).2∧(rgT a).2≤7:=by
   rcases UM a with ⟨e',h0,h1⟩| ⟨e',h0,h1⟩| ⟨e',h0,h1⟩| ⟨e',h0⟩| ⟨e',h0,h1⟩| ⟨e',h0,h1⟩| ⟨e',h0⟩<;>omega
  refine ⟨m,ps,c,⟨pc.ppu,pc.ring.app ⟨t,hr,hv⟩ pl (r1 e),app pc.lo pt,pc.fr,pc.frn⟩,sd,d,?_,t,kn,st,pt,sdt,app2 pl,sl⟩;show 0≤(if (rgT a).2=0 then v else s.ctrl)∧(if (rgT a).2=0 then v else s.ctrl)≤255
  split
  ·exact hv
  ·exact ct
 split
 ·rename_i e;have hr:0≤(rgT a).2∧(rgT a).2≤7:=by
   rcases UM a with ⟨e',h0,h1⟩| ⟨e',h0,h1⟩| ⟨e',h0,h1⟩| ⟨e',h0⟩| ⟨e',h0,h1⟩| ⟨e',h0,h1⟩| ⟨e',h0⟩<;>omega
  have sd':JK {s.snd with list:=s.snd.list++[(s.T,((rgT a).2,v))]}:=⟨sd.apu,sd.ring.app ⟨t,hr,hv⟩ sl (r2 e),app sd.lo sdt,sd.sam⟩
  split
  ·exact ⟨m,ps,c,pc,sd',d,ct,t,⟨t.1,Int.le_refl _⟩,st,pt,sdt,pl,app2 sl⟩
  ·exact ⟨m,ps,c,pc,sd',d,ct,t,kn,st,pt,sdt,pl,app2 sl⟩
 split
 ·exact ⟨m,ps,c,pc,sd,ZlI d ps,ct,t,kn,st,pt,sdt,pl,sl⟩
 ·exact ⟨ZnQ m _ _,ps,c,pc,sd,d,ct,t,kn,st,pt,sdt,pl,sl⟩
theorem ZiD (s:Zh) (a v:Int):UW s (Yk s a v)∧(Yk s a v).cpu=s.cpu:=by
 unfold Yk
 repeat' split
 all_goals exact ⟨⟨rfl,rfl,rfl,rfl,rfl,Nat.le_succ _⟩,rfl⟩
theorem Zk0 {s:Zh} (h:Zz s) (v:Int):Zz (Uv s v):=by
 obtain ⟨m,ps,c,pc,sd,d,ct,t,kn,st,pt,sdt,pl,sl⟩:=h;exact ⟨m.of_ram (Zh0 m.ram) rfl,ps,ZkR c (ZoA _ _ _),pc,sd,d,ct,t,kn,st,pt,sdt,pl,sl⟩
theorem Zj4 {s:Zh} (h:Zz s) (op arg v:Int):Zz (Zng s op arg v):=by
 obtain ⟨m,ps,c,pc,sd,d,ct,t,kn,st,pt,sdt,pl,sl⟩:=h;exact ⟨m.of_ram (Znf m.ram) (Zhd _ _ _),ps,Zne c,pc,sd,d,ct,t,kn,st,pt,sdt,pl,sl⟩
theorem UW.exec {s s':Zh} (h:UW s s') (op arg v:Int):UW s (Zng s' op arg v):=⟨h.img,h.pads,h.T,h.nmi,h.steps,h.reads⟩
theorem ZnF {s:Zh} (h:ZiF s):Zz (KC s)∧UW s (KC s):=by
 unfold KC;split
 ·exact ⟨Zj4 (Zn0 h.p _) _ _ _,(Zkr s _).1.exec _ _ _⟩
 split
 ·rename_i e;exact ⟨Zj4 (ZiC h.p (mod256 _) (h.room e) (h.room' e)) _ _ _,(ZiD s _ _).1.exec _ _ _⟩
 ·exact ⟨Zj4 h.p _ _ _,⟨rfl,rfl,rfl,rfl,rfl,Nat.le_succ _⟩⟩
theorem ZeX {s:Zh} (h:Zz s):Zz (ZO s):=by
 unfold ZO;split
 ·obtain ⟨m,ps,c,pc,sd,d,ct,t,kn,st,pt,sdt,pl,sl⟩:=h;exact ⟨m,ps,c,pc,sd,d,ct,t,⟨t.1,Int.le_refl _⟩,st,pt,sdt,pl,sl⟩
 ·exact h
theorem ZfY (s:Zh):(ZO s).img=s.img∧(ZO s).mem=s.mem∧(ZO s).cpu=s.cpu∧(ZO s).pic=s.pic∧(ZO s).snd=s.snd∧(ZO s).T=s.T∧(ZO s).nmi=s.nmi∧(ZO s).steps=s.steps∧(ZO s).reads=s.reads∧(ZO s).pads=s.pads:=by
 unfold ZO;split<;>exact ⟨rfl,rfl,rfl,rfl,rfl,rfl,rfl,rfl,rfl,rfl⟩
theorem ZfZ (s:Zh) (hn:s.nmi=false):((ZO s).known&& !s.cpu.i)=JU s:=by
 unfold ZO Yt JU;rw[hn];cases hI:s.cpu.i with
 |true=>simp
 |false=>
  cases hb:JZ s.knownAt s.T with
  |true=>simp[Jv]
  |false=>simp
theorem ZaG {s:Zh} {n:Int} (h:YR s n=0):s.T+n≤20000:=by
 unfold YR at h;split at h
 ·omega
 ·omega
theorem Zoh {s:Zh} (h:Zz s) (hw:QS s=0):Zz (Xq s)∧(Xq s).steps=s.steps+1∧(Xq s).reads.length≤s.reads.length+1∧s.T< (Xq s).T∧(Xq s).T≤s.T+7∧(Xq s).img=s.img∧(Xq s).pads=s.pads:=by
 have hL:=ZeX h;obtain ⟨e1,e2,e3,e4,e5,e6,e7,e8,e9,e10⟩:=ZfY s;have eop:opS (ZO s)=opS s:=by unfold opS;rw[e1,e2,e3]
 have earg:JB (ZO s)=JB s:=by unfold JB;rw[e1,e2,e3]
 have eadr:ZU (ZO s)=ZU s:=by unfold ZU;rw[eop,earg,e3]
 have key: ∃s' n,Yq (ZO s)=(s',n)∧Zz s'∧2≤n∧n≤7∧s.T+n≤20000∧s'.T=s.T∧s'.steps=s.steps∧s'.reads.length≤s.reads.length+1∧s'.img=s.img∧s'.pads=s.pads:=by
  unfold QS at hw;unfold Yq;rw[e7];cases hn:s.nmi with
  |true=>
   rw[hn,Ze rfl]at hw;rw[Ze rfl];have h2:Zz {ZO s with nmi:=false}:=⟨hL.mem,hL.pads,hL.cpu,hL.pic,hL.snd,hL.pad,hL.ctrl,hL.t,hL.known,hL.steps,hL.pt,hL.st,hL.pl,hL.sl⟩
   exact ⟨_,_,rfl,Zk0 h2 _,by omega,by omega,ZaG hw,e6,e8,by show (ZO s).reads.length≤_;rw[e9];omega,e1,e10⟩
  |false=>
   rw[hn,Zc (by simp)]at hw;rw[Zc (by simp),e3,ZfZ s hn];split at hw
   ·omega
   split at hw
   ·rename_i ha;rw[ha,Ze rfl];exact ⟨_,_,rfl,Zk0 hL _,by omega,by omega,ZaG hw,e6,e8,by show (ZO s).reads.length≤_;rw[e9];omega,e1,e10⟩
   ·rename_i ha;rw[Zc ha];split at hw
    ·omega
    split at hw
    ·omega
    split at hw
    ·omega
    rename_i h3;split at hw
    ·omega
    rename_i h4;have hc:=Zct (opS s);have hr:ZiF (ZO s):=⟨hL,fun a b=>by rw[eop]at a;rw[eadr]at b;rw[e4];rcases Int.lt_or_le (s.pic.list.length:Int) s.pic.cap with h5|h5;exact h5;exact absurd ⟨a,b,h5⟩ h3,
     fun a b=>by rw[eop]at a;rw[eadr]at b;rw[e5];rcases Int.lt_or_le (s.snd.list.length:Int) s.snd.cap with h5|h5;exact h5;exact absurd ⟨a,b,h5⟩ h4⟩
    obtain ⟨p,f⟩:=ZnF hr;exact ⟨_,_,rfl,p,by rw[eop];omega,by rw[eop];omega,by rw[eop];exact ZaG hw,by rw[f.T,e6],by rw[f.steps,e8],by have:=f.reads;rw[e9]at this;exact this,by rw[f.img,e1],by rw[f.pads,e10]⟩
 obtain ⟨s',n,e,p,n1,n2,n3,t1,t2,t3,t4,t5⟩:=key;unfold Xq;rw[e];have k1:=h.t;have k2:=h.steps;obtain ⟨m,ps,c,pc,sd,d,ct,t,kn,st,pt,sdt,pl,sl⟩:=p;rw[t1]at kn pt sdt pl sl;refine ⟨⟨m,ps,c,pc,sd,d,ct,⟨by show 0≤s.T+n;omega,n3⟩,⟨kn.1,by show s'.knownAt≤s.T+n;omega⟩,⟨by show 0≤s'.steps+1;omega,by show s'.steps+1≤s.T+n;omega⟩,by show (s'.pic.ppu.1:Int)≤s.T+n;omega,by show (s'.snd.apu.1:Int)≤s.T+n;omega,
  fun x hx=>by have:=pl x hx;show x.1≤s.T+n;omega,fun x hx=>by have:=sl x hx;show x.1≤s.T+n;omega⟩,?_,t3,?_,?_,t4,t5⟩
 ·show s'.steps+1=s.steps+1;rw[t2]
 ·show s.T<s.T+n;omega
 ·show s.T+n≤s.T+7;omega
def V8 (s:Zh) (who:Int):Option Zh:=
 if who=0 then (if QS s=0 then some (Xq s)else none)
 else if who=1 then (Jn s.pic s.T).map fun p=>{s with pic:=p}else if who=2 then (Jo s.snd s.T).map fun p=>{s with snd:=p}else none
theorem ZqL {s v:Zh} {who:Int} (h:Zz s) (hs:V8 s who=some v):Zz v∧v.reads.length≤s.reads.length+1:=by
 unfold V8 at hs;split at hs
 ·split at hs
  ·rename_i hw;simp only[Zg]at hs;subst hs;obtain ⟨a,_,b,_⟩:=Zoh h hw;exact ⟨a,b⟩
  ·cases hs
 split at hs
 ·cases hp:Jn s.pic s.T with
  |none=>rw[hp]at hs;cases hs
  |some p=>
   rw[hp]at hs;simp only[Option.map_some,Zg]at hs;subst hs;obtain ⟨a,b,c,d⟩:=Wm h.pic hp;have:=h.pt;obtain ⟨m,ps,cc,pc,sd,dd,ct,t,kn,st,pt,sdt,pl,sl⟩:=h;exact ⟨⟨m,ps,cc,a,sd,dd,ct,t,kn,st,by show p.ppu.T≤s.T;rcases d with d|d<;>omega,sdt,fun x hx=>pl x (c x hx),sl⟩,Nat.le_succ _⟩
 split at hs
 ·cases hp:Jo s.snd s.T with
  |none=>rw[hp]at hs;cases hs
  |some p=>
   rw[hp]at hs;simp only[Option.map_some,Zg]at hs;subst hs;obtain ⟨a,b,c,d⟩:=Wn h.snd hp;have:=h.st;obtain ⟨m,ps,cc,pc,sd,dd,ct,t,kn,st,pt,sdt,pl,sl⟩:=h;exact ⟨⟨m,ps,cc,pc,a,dd,ct,t,kn,st,pt,by show p.apu.T≤s.T;rcases d with d|d<;>omega,pl,fun x hx=>sl x (c x hx)⟩,Nat.le_succ _⟩
 ·cases hs
def ZV (s:Zh):Zh:={s with pic:=Xf s.pic s.T,snd:=Xg s.snd s.T}
theorem Zds {s:Zh} (h:Zz s):Zz (ZV s)∧Jn (ZV s).pic s.T=none∧Jo (ZV s).snd s.T=none:=by
 have a:=Zc8 (m:=s.T) (Q:=fun w=>w.ppu.T≤s.T∧ ∀x,x∈w.list→x.1≤s.T) (fun w v hw hq hs=>by
  obtain ⟨a,b,c,d⟩:=Wm hw hs;exact ⟨by have:=hq.1;rcases d with d|d<;>omega,fun x hx=>hq.2 x (c x hx)⟩) _ (Nat.le_refl _) h.pic ⟨h.pt,h.pl⟩
 have b:=Zc9 (m:=s.T) (Q:=fun w=>w.apu.T≤s.T∧ ∀x,x∈w.list→x.1≤s.T) (fun w v hw hq hs=>by
  obtain ⟨a,b,c,d⟩:=Wn hw hs;exact ⟨by have:=hq.1;rcases d with d|d<;>omega,fun x hx=>hq.2 x (c x hx)⟩) _ (Nat.le_refl _) h.snd ⟨h.st,h.sl⟩
 obtain ⟨m,ps,cc,pc,sd,dd,ct,t,kn,st,pt,sdt,pl,sl⟩:=h;exact ⟨⟨m,ps,cc,a.1,b.1,dd,ct,t,kn,st,a.2.1.1,b.2.1.1,a.2.1.2,b.2.1.2⟩,a.2.2,b.2.2⟩

end Go.Proofs.YtcbdldlphpjmbaaGreatDoor.Plain
