/- Plain laws of the printed functions: Exec, UnitM, LockM, SplitM. No condition beyond those that each lemma states. -/
import Derived.Test.YtcbdldlphpjmbaaGreatDoorPA
set_option linter.unusedVariables false
set_option linter.unusedSimpArgs false
namespace Go.Proofs.YtcbdldlphpjmbaaGreatDoor.Plain
open Go Go.Tev
theorem Zen (b:BitVec 64):BitVec.ofInt 64 (IntKind.i64.wrap (b.toNat:Int))=b:=by
 rw[IntKind.wrap_i64];apply BitVec.eq_of_toNat_eq;rw[ZaP];have h:=b.isLt;omega
theorem Zju (x y:Int):BitVec.ofInt 64 (bOr .i64 x y)=BitVec.ofInt 64 x|||BitVec.ofInt 64 y:=Zen (BitVec.ofInt 64 x|||BitVec.ofInt 64 y)
theorem ZhE (x y:Int):BitVec.ofInt 64 (Yo .i64 x y)=BitVec.ofInt 64 x^^^BitVec.ofInt 64 y:=Zen (BitVec.ofInt 64 x^^^BitVec.ofInt 64 y)
theorem WT (x y:Int):BitVec.ofInt 64 (ZL .i64 x y)=BitVec.ofInt 64 x&&&BitVec.ofInt 64 y:=Zen (BitVec.ofInt 64 x&&&BitVec.ofInt 64 y)
theorem Zel {x y:Int} (h:BitVec.ofInt 64 x&&&BitVec.ofInt 64 255=BitVec.ofInt 64 y&&&BitVec.ofInt 64 255):x%256=y%256:=by
 rw[←Kx x,←Kx y];show IntKind.i64.wrap (BitVec.ofInt 64 x&&&BitVec.ofInt 64 255).toNat=IntKind.i64.wrap (BitVec.ofInt 64 y&&&BitVec.ofInt 64 255).toNat;rw[h]
theorem Zm2 (a b:Int):ZL .i64 (a%256) (b%256)%256=ZL .i64 a b%256:=by
 apply Zel;rw[WT,WT,←Kx a,←Kx b,WT,WT];ext i;simp only[BitVec.getElem_and];cases (BitVec.ofInt 64 a)[i]<;>cases (BitVec.ofInt 64 b)[i]<;>cases (BitVec.ofInt 64 255)[i]<;>rfl
theorem Zo0 (a b:Int):bOr .i64 (a%256) (b%256)%256=bOr .i64 a b%256:=by
 apply Zel;rw[Zju,Zju,←Kx a,←Kx b,WT,WT];ext i;simp only[BitVec.getElem_and,BitVec.getElem_or];cases (BitVec.ofInt 64 a)[i]<;>cases (BitVec.ofInt 64 b)[i]<;>cases (BitVec.ofInt 64 255)[i]<;>rfl
theorem Zm3 (a b:Int):Yo .i64 (a%256) (b%256)%256=Yo .i64 a b%256:=by
 apply Zel;rw[ZhE,ZhE,←Kx a,←Kx b,WT,WT];ext i;simp only[BitVec.getElem_and,BitVec.getElem_xor];cases (BitVec.ofInt 64 a)[i]<;>cases (BitVec.ofInt 64 b)[i]<;>cases (BitVec.ofInt 64 255)[i]<;>rfl
theorem Zqm {a b:Int} (ha:0≤a∧a≤63) (hb:0≤b∧b≤63):0≤Yo .i64 a b∧Yo .i64 a b≤63:=by
 have e1:(BitVec.ofInt 64 a).toNat=a.toNat:=by rw[ZaP,Int.emod_eq_of_lt (by omega) (by omega)]
 have e2:(BitVec.ofInt 64 b).toNat=b.toNat:=by rw[ZaP,Int.emod_eq_of_lt (by omega) (by omega)]
 have e3:(BitVec.ofInt 64 a^^^BitVec.ofInt 64 b).toNat<2^6:=by
  rw[BitVec.toNat_xor,e1,e2];exact Nat.xor_lt_two_pow (by omega) (by omega)
 have:Yo .i64 a b=((BitVec.ofInt 64 a^^^BitVec.ofInt 64 b).toNat:Int):=by
  show wI ((BitVec.ofInt 64 a^^^BitVec.ofInt 64 b).toNat:Int)=_;exact Zr (by omega) (by omega)
 rw[this];omega
def Wl (c:Zq) (p:Int):Zq:={c with pc:=p}
def ZrU (c:Zq) (b:Bool):Zq:={c with c:=b}
def Zr5 (c:Zq) (b:Bool):Zq:={c with i:=b}
def Zr0 (c:Zq) (b:Int):Zq:=ZrU (YJ c (KW c.a b c.c%256)) (ltI 255 (KW c.a b c.c))
def ZsM (c:Zq) (b:Int):Zq:=ZrU (YJ c (Xb c.a b c.c%256)) (leI 0 (Xb c.a b c.c))
def Zrt (c:Zq) (b:Int):Zq:={c with z:=eqI ((c.a%256-b%256)%256) 0,n:=ltI 127 ((c.a%256-b%256)%256),c:=leI (b%256) (c.a%256)}
def KL (c:Zq) (op arg v:Int):Zq:=
 if op=1 then YJ c arg else if op=2∨op=14 then YJ c v else if op=4 then Zr0 c arg else if op=29 then Zr0 c v else if op=5 then ZsM c arg
 else if op=6 then YJ c (ZL .i64 c.a arg)else if op=7 then YJ c (bOr .i64 c.a arg)else if op=8 then YJ c (Yo .i64 c.a arg)else if op=9 then Zrt c arg else c
def K8 (op:Int):Bool:=decide (op=1∨op=2∨op=14∨op=4∨op=29∨op=5∨op=6∨op=7∨op=8∨op=9)
def UZ (c:Zq) (op:Int):Zq:=
 if op=10 then VM c c.a else if op=11 then YJ c c.x else if op=12 then VM c (c.x+1)else if op=13 then VM c (c.x-1)
 else if op=25 then Zr5 c true else if op=26 then Zr5 c false else if op=27 then ZrU c true else if op=28 then ZrU c false else c
def Zht (op:Int):Bool:=decide (op=10∨op=11∨op=12∨op=13∨op=25∨op=26∨op=27∨op=28)
def Zm4 (x:ZF) (c:Zq):Zq:=Wl (Yv (Yv c)) (Xq (Yd x c) (Yd x (Yv c)))
def shr8 (p:Int):Int:=p.fdiv 256
def UQ (x:ZF) (c:Zq):ZF:=Kn (Kn x c (shr8 c.pc)) (Km c) c.pc
def Wd (c:Zq):Zq:=Km (Km c)
def K4 (x:ZF) (c:Zq) (op:Int):ZF:=if op=20 then UQ x c else if op=22 then Kn x c c.a else x
def WH (x:ZF) (c:Zq) (op arg:Int):Zq:=
 if op=16 then (if c.z then c else Wl c (arg%65536))else if op=17 then (if c.z then Wl c (arg%65536)else c)else if op=18 then (if c.c then Wl c (arg%65536)else c)
 else if op=19 then Wl c (arg%65536)else if op=20 then Wl (Wd c) (arg%65536)else if op=21 then Zm4 x c else if op=22 then Km c else if op=23 then YJ (Yv c) (Yd x c)
 else if op=24 then Zm4 x (wfT (Yv c) (Yd x c))else c
def Jj (c:Zq) (op:Int):Zq:=Wl c ((c.pc+Qh op)%65536)
def V3 (x:ZF) (c:Zq) (op:Int):ZF:=K4 x (Jj c op) op
def WE (x:ZF) (c:Zq) (op arg v:Int):Zq:=
 if K8 op then KL (Jj c op) op arg v else if Zht op then UZ (Jj c op) op else WH x (Jj c op) op arg
theorem Zgs {c:Zq} {p:Int} (h:ZO c) (hp:0≤p∧p≤65535):ZO (Wl c p):=⟨h.a,h.x,h.s,hp⟩
theorem Zqe {c:Zq} {b:Bool} (h:ZO c):ZO (ZrU c b):=⟨h.a,h.x,h.s,h.pc⟩
theorem Zqf {c:Zq} {b:Bool} (h:ZO c):ZO (Zr5 c b):=⟨h.a,h.x,h.s,h.pc⟩
theorem mod65536 (x:Int):0≤x%65536∧x%65536≤65535:=by omega
theorem Zkl (a b:Int):0≤Xq a b∧Xq a b≤65535:=by unfold Xq;omega
theorem Zm5 {x:ZF} {c:Zq} (h:ZO c):ZO (Zm4 x c):=Zgs (WY (WY h)) (Zkl _ _)
theorem ZdD {c:Zq} (h:ZO c):ZO (Wd c):=UO (UO h)
theorem ZdE {x:ZF} {c:Zq} (h:JK x):JK (UQ x c):=UP (UP h _ _) _ _
theorem Zog {c:Zq} {op arg v:Int} (h:ZO c):ZO (KL c op arg v):=by
 unfold KL Zr0 ZsM
 repeat' split
 all_goals first|exact Ziy h|exact Zqe (Ziy h)|exact h|exact ⟨h.a,h.x,h.s,h.pc⟩
theorem Zrc {c:Zq} {op:Int} (h:ZO c):ZO (UZ c op):=by
 unfold UZ
 repeat' split
 all_goals first|exact Zq3 h|exact Ziy h|exact Zqf h|exact Zqe h|exact h
theorem ZqH {x:ZF} {c:Zq} {op:Int} (h:JK x):JK (K4 x c op):=by
 unfold K4
 repeat' split
 all_goals first|exact ZdE h|exact UP h _ _|exact h
theorem ZqG {x:ZF} {c:Zq} {op arg:Int} (h:ZO c):ZO (WH x c op arg):=by
 unfold WH
 repeat' split
 all_goals first|exact h|exact Zgs h (mod65536 _)|exact Zgs (ZdD h) (mod65536 _)|exact Zm5 h|exact UO h|exact Ziy (WY h)|exact Zm5 (Zrg (WY h))
theorem ZdT {c:Zq} {op:Int} (h:ZO c):ZO (Jj c op):=Zgs h (mod65536 _)
theorem Znt {x:ZF} {c:Zq} {op:Int} (h:JK x):JK (V3 x c op):=ZqH h
theorem Zns {x:ZF} {c:Zq} {op arg v:Int} (h:ZO c):ZO (WE x c op arg v):=by
 unfold WE
 repeat' split
 all_goals first|exact Zog (ZdT h)|exact Zrc (ZdT h)|exact ZqG (ZdT h)
theorem Zhl (x:ZF) (c:Zq) (op:Int):(V3 x c op).bank=x.bank:=by
 unfold V3 K4 UQ
 repeat' split
 all_goals rfl
theorem Jz.of_ram {f:List (List Int)} {x y:ZF} (h:Jz f x) (hy:JK y) (hb:y.bank=x.bank):Jz f y:=⟨h.img,hy,by rw[hb];exact h.b0,by rw[hb];exact h.b1⟩
def XY (x:ZF) (c:Zq):ZF:=Kn (UQ x c) (Wd c) (Uz c)
def ZiY (c:Zq) (to:Int):Zq:=Wl (Zr5 (Km (Wd c)) true) to
theorem Zh9 {x:ZF} {c:Zq} (h:JK x):JK (XY x c):=UP (ZdE h) _ _
theorem Zk6 {c:Zq} {to:Int} (h:ZO c) (ht:0≤to∧to≤65535):ZO (ZiY c to):=Zgs (Zqf (UO (ZdD h))) ht
def opT (f:List (List Int)) (x:ZF) (pc:Int):Int:=ZR f x pc
def VY (f:List (List Int)) (x:ZF) (pc:Int):Int:=
 if Qh (ZR f x pc)=2 then ZR f x (pc+1)else if Qh (ZR f x pc)=3 then Xq (ZR f x (pc+1)) (ZR f x (pc+2))else 0
theorem Zpw (n:Int):1≤Qh n∧Qh n≤3:=by
 unfold Qh;split
 ·rename_i h;rcases Kk h with rfl|rfl|rfl|rfl|rfl|rfl|rfl|rfl|rfl|rfl|rfl|rfl|rfl|rfl|rfl|rfl|rfl|rfl|rfl|rfl|rfl|rfl|rfl|rfl|rfl|rfl|rfl|rfl|rfl|rfl<;>decide
 ·decide
theorem ZcB (n:Int):2≤Qs n∧Qs n≤6:=by
 unfold Qs;split
 ·rename_i h;rcases Kk h with rfl|rfl|rfl|rfl|rfl|rfl|rfl|rfl|rfl|rfl|rfl|rfl|rfl|rfl|rfl|rfl|rfl|rfl|rfl|rfl|rfl|rfl|rfl|rfl|rfl|rfl|rfl|rfl|rfl|rfl<;>decide
 ·decide
theorem ZmZ {f:List (List Int)} {x:ZF} (h:Jz f x) (pc:Int):0≤VY f x pc∧VY f x pc≤65535:=by
 unfold VY;split
 ·have:=Zeo h (pc+1);omega
 split
 ·exact Zkl _ _
 ·decide
def QZ (op arg x:Int):Int:=if ZT op=0 then 0 else if op=14∨op=15 then (arg+x)%65536 else arg%65536
def Y1 (op a:Int):Int:=if ZT op=2 then a%256 else 0
def Zri (l:List Int):Prop:= ∀n,n∈l→0≤n∧n≤63
structure JJ (p:Z2):Prop where
 t:0≤p.T∧p.T≤20000
 ctrl:0≤p.ctrl∧p.ctrl≤255
 scroll:0≤p.scroll∧p.scroll≤255
 addr:0≤p.addr∧p.addr≤15
 pal:0≤p.pal∧p.pal≤63
 len:p.table.length=16
 table:Zri p.table
 dots:(p.dots.length:Int)=if 48<p.T%64 then 0 else p.T%64
 cols:Zri p.dots
theorem WX {p:Z2}:YV p.t=true↔JJ p:=by
 unfold YV ZjB Zgh Z2.t;simp only[Bool.and_eq_true,JE,Zdc,Vs];constructor
 ·rintro ⟨⟨a,b,c,d,e⟩,f,g,h,i⟩;refine ⟨a,b,c,d,e,by omega,g,?_,i⟩;rw[h,WD,Qx a.1]
 ·rintro ⟨a,b,c,d,e,f,g,h,i⟩;refine ⟨⟨a,b,c,d,e⟩,by omega,g,?_,i⟩;rw[h,WD,Qx a.1]
theorem JJ.s {p:Z2} (h:JJ p):VG p.t:=by
 have h1:=h.len;have h2:=h.dots;refine ⟨by show p.table.length≤_;omega,?_⟩;show p.dots.length≤_;split at h2<;>omega
def V1 (p:Z2) (at':Int):Int:=Yo .i64 (rdE .i p.table ((at'%8+p.scroll+at'/8)%16)) p.pal
theorem Zpa {p:Z2} (h:JJ p) (a:Int):0≤V1 p a∧V1 p a≤63:=
 Zqm (h.table _ (XI (e:= .i) (by omega) (by rw[h.len];omega))) h.pal
def Jx (p:Z2):Z2:=
 if p.T%64<48 then {p with T:=p.T+1,dots:=p.dots++[V1 p (p.T%64)]}
 else if p.T%64=48 then {p with T:=p.T+1,blank:=true,dots:=[]}
 else if p.T%64=63 then {p with T:=p.T+1,blank:=false}
 else {p with T:=p.T+1}
def JQ (p:Z2):Bool:=decide (p.T%64=48)
def Yw (p:Z2):List Int:=if p.T%64=48 then p.dots else []
def Kw (p:Z2):Bool:=decide (p.T%64=48)&&ltI 127 p.ctrl
theorem Uc (p:Z2):(Jx p).T=p.T+1:=by
 unfold Jx
 repeat' split
 all_goals rfl
theorem ZoJ {p:Z2} (h:JJ p) (ht:p.T<20000):JJ (Jx p):=by
 obtain ⟨a,b,c,d,e,f,g,hd,i⟩:=h;have hp:JJ p:=⟨a,b,c,d,e,f,g,hd,i⟩;unfold Jx;split
 ·rename_i h1;refine ⟨⟨by show 0≤p.T+1;omega,by show p.T+1≤20000;omega⟩,b,c,d,e,f,g,?_,fun n hn=> ?_⟩
  ·show ((p.dots++[V1 p (p.T%64)]).length:Int)=if 48< (p.T+1)%64 then 0 else (p.T+1)%64
   rw[List.length_append,List.length_singleton];rw[Zc (by omega)]at hd;rw[Zc (by omega)];omega
  ·rcases List.mem_append.1 hn with h2|h2
   ·exact i n h2
   ·rw[List.mem_singleton.1 h2];exact Zpa hp _
 split
 ·rename_i h1 h2;refine ⟨⟨by show 0≤p.T+1;omega,by show p.T+1≤20000;omega⟩,b,c,d,e,f,g,?_,fun n hn=>by cases hn⟩;show (0:Int)=if 48< (p.T+1)%64 then 0 else (p.T+1)%64
  rw[Ze (by omega)]
 split
 ·rename_i h1 h2 h3;refine ⟨⟨by show 0≤p.T+1;omega,by show p.T+1≤20000;omega⟩,b,c,d,e,f,g,?_,i⟩;show (p.dots.length:Int)=if 48< (p.T+1)%64 then 0 else (p.T+1)%64
  rw[Ze (by omega)]at hd;split<;>omega
 ·rename_i h1 h2 h3;refine ⟨⟨by show 0≤p.T+1;omega,by show p.T+1≤20000;omega⟩,b,c,d,e,f,g,?_,i⟩;show (p.dots.length:Int)=if 48< (p.T+1)%64 then 0 else (p.T+1)%64
  rw[Ze (by omega)]at hd;rw[Ze (by omega)];exact hd
theorem Zho {p:Z2} (h:JJ p) (ht:JQ p=true):(Yw p).length=48:=by
 have h1:p.T%64=48:=by simpa [JQ] using ht
 have hd:=h.dots;unfold Yw;rw[Ze h1];rw[Zc (by omega),h1]at hd;omega
def Yj (p:Z2) (reg v:Int):Z2:=
 if reg=0 then {p with ctrl:=v%256}else if reg=1 then {p with scroll:=v%256}else if reg=3 then {p with addr:=(v%256)%16}
 else if reg=4 then {p with addr:=(p.addr+1)%16,table:=p.table.set p.addr.toNat ((v%256)%64)}
 else if reg=5 then {p with pal:=(v%256)%64}else p
theorem Zri.set {l:List Int} (h:Zri l) (i:Nat) {v:Int} (hv:0≤v∧v≤63):Zri (l.set i v):=fun n hn=>by
 rcases List.mem_or_eq_of_mem_set hn with h1|h1
 ·exact h n h1
 ·rw[h1];exact hv
theorem ZlX {p:Z2} (h:JJ p) (reg v:Int):JJ (Yj p reg v):=by
 have hp:=h;obtain ⟨a,b,c,d,e,f,g,hd,i⟩:=h;unfold Yj;split
 ·exact ⟨a,mod256 v,c,d,e,f,g,hd,i⟩
 split
 ·exact ⟨a,b,mod256 v,d,e,f,g,hd,i⟩
 split
 ·exact ⟨a,b,c,by show 0≤(v%256)%16∧(v%256)%16≤15;omega,e,f,g,hd,i⟩
 split
 ·exact ⟨a,b,c,by show 0≤(p.addr+1)%16∧(p.addr+1)%16≤15;omega,e,by show (p.table.set _ _).length=16;rw[List.length_set];exact f,g.set _ (by omega),hd,i⟩
 split
 ·exact ⟨a,b,c,d,by show 0≤(v%256)%64∧(v%256)%64≤63;omega,f,g,hd,i⟩
 ·exact hp
theorem Ue (p:Z2) (reg v:Int):(Yj p reg v).T=p.T:=by
 unfold Yj
 repeat' split
 all_goals rfl
def Yf (p:Z2) (reg:Int):Z2:=if reg=2 then {p with blank:=false}else if reg=4 then {p with addr:=(p.addr+1)%16}else p
def Vd (p:Z2) (reg:Int):Int:=if reg=2 then 128*QW p.blank else if reg=4 then rdE .i p.table p.addr else 0
theorem Zod {p:Z2} (h:JJ p) (reg:Int):JJ (Yf p reg):=by
 have hp:=h;obtain ⟨a,b,c,d,e,f,g,hd,i⟩:=h;unfold Yf;split
 ·exact ⟨a,b,c,d,e,f,g,hd,i⟩
 split
 ·exact ⟨a,b,c,by show 0≤(p.addr+1)%16∧(p.addr+1)%16≤15;omega,e,f,g,hd,i⟩
 ·exact hp
theorem W0 (p:Z2) (reg:Int):(Yf p reg).T=p.T:=by
 unfold Yf
 repeat' split
 all_goals rfl
theorem ZlI {p:Z2} (h:JJ p) (reg:Int):0≤Vd p reg∧Vd p reg≤255:=by
 unfold Vd;split
 ·have:=XZ p.blank;omega
 split
 ·have:=h.table _ (XI (e:= .i) (l:=p.table) h.addr.1 (by have:=h.addr.2;rw[h.len];omega));omega
 ·decide
structure Yl (a:Qr):Prop where
 t:0≤a.T∧a.T≤20000
 period:0≤a.period∧a.period≤255
 count:0≤a.count∧a.count≤255
 bit:0≤a.bit∧a.bit≤1
 len:0≤a.len∧a.len≤31
theorem Wx {a:Qr}:Xh a.t=true↔Yl a:=by
 unfold Xh Qr.t;simp only[Bool.and_eq_true,JE];constructor
 ·rintro ⟨a,b,c,d,e⟩;exact ⟨a,b,c,d,e⟩
 ·rintro ⟨a,b,c,d,e⟩;exact ⟨a,b,c,d,e⟩
def Ut (a:Qr):Qr:=
 if a.count=0 then (if 0<a.len then {a with count:=a.period,bit:=1-a.bit}else {a with count:=a.period})else {a with count:=a.count-1}
def Ul (a:Qr):Qr:=
 if a.T%32=0∧0<a.len then {a with len:=a.len-1,irq:=a.irq|| (eqI (a.len-1) 0&&a.asks)}else a
def Ub (a:Qr):Qr:={Ul (Ut a)with T:=a.T+1}
def YK (a:Qr):Bool:=eqI (a.T%16) 15
def Wh (a:Qr):Int:=if a.T%16=15∧(Ul (Ut a)).len≠0 then 8*(Ul (Ut a)).bit else 0
theorem Zo9 {a:Qr} (h:Yl a):Yl (Ut a):=by
 have hp:=h;obtain ⟨t,p,c,b,l⟩:=h;unfold Ut;split
 ·split
  ·exact ⟨t,p,p,by show 0≤1-a.bit∧1-a.bit≤1;omega,l⟩
  ·exact ⟨t,p,p,b,l⟩
 ·exact ⟨t,p,by show 0≤a.count-1∧a.count-1≤255;omega,b,l⟩
theorem Zqn {a:Qr} (h:Yl a):Yl (Ul a):=by
 have hp:=h;obtain ⟨t,p,c,b,l⟩:=h;unfold Ul;split
 ·rename_i h1;exact ⟨t,p,c,b,by show 0≤a.len-1∧a.len-1≤31;omega⟩
 ·exact hp
theorem ZoE {a:Qr} (h:Yl a) (ht:a.T<20000):Yl (Ub a):=by
 obtain ⟨t,p,c,b,l⟩:=Zqn (Zo9 h);have:=h.t;exact ⟨⟨by show 0≤a.T+1;omega,by show a.T+1≤20000;omega⟩,p,c,b,l⟩
def KP (a:Qr) (reg v:Int):Qr:=
 if reg=0 then {a with period:=v%256}else if reg=1 then {a with len:=(v%256)%32}
 else if reg=2 then {a with asks:=eqI ((v%256)%2) 1,irq:=a.irq&&eqI ((v%256)%2) 1}
 else if reg=3 then {a with irq:=false}else a
theorem ZlV {a:Qr} (h:Yl a) (reg v:Int):Yl (KP a reg v):=by
 have hp:=h;obtain ⟨t,p,c,b,l⟩:=h;unfold KP;split
 ·exact ⟨t,mod256 v,c,b,l⟩
 split
 ·exact ⟨t,p,c,b,by show 0≤(v%256)%32∧(v%256)%32≤31;omega⟩
 split
 ·exact ⟨t,p,c,b,l⟩
 split
 ·exact ⟨t,p,c,b,l⟩
 ·exact hp
theorem Zff (a:Qr) (reg v:Int):(KP a reg v).T=a.T:=by
 unfold KP
 repeat' split
 all_goals rfl
def YW (a:Qr) (reg:Int):Qr:=if reg=2 then {a with irq:=false}else a
def KK (a:Qr) (reg:Int):Int:=if reg=2 then 128*QW a.irq+QW (ltI 0 a.len)else 0
theorem Zoa {a:Qr} (h:Yl a) (reg:Int):Yl (YW a reg):=by
 have hp:=h;obtain ⟨t,p,c,b,l⟩:=h;unfold YW;split
 ·exact ⟨t,p,c,b,l⟩
 ·exact hp
theorem Ziv (a:Qr) (reg:Int):(YW a reg).T=a.T:=by
 unfold YW;split<;>rfl
theorem ZlF (a:Qr) (reg:Int):0≤KK a reg∧KK a reg≤255:=by
 unfold KK;split
 ·have:=XZ a.irq;have:=XZ (ltI 0 a.len);omega
 ·decide
structure YN (l:List Int):Prop where
 len:l.length≤20
 bytes:J7 l
theorem UN {l:List Int}:XH l=true↔YN l:=by
 unfold XH;rw[Bool.and_eq_true,WO,Zdc];exact ⟨fun ⟨a,b⟩=>⟨by omega,b⟩,fun ⟨a,b⟩=>⟨by omega,b⟩⟩
def XG (l:List Int) (t:Int):Int:=if l.length=0 then 0 else rdE .i l ((t/64)% (l.length:Int))
theorem Zn0 {l:List Int} (h:YN l) (t:Int):0≤XG l t∧XG l t≤255:=by
 unfold XG;split
 ·decide
 ·exact h.bytes _ (XI (e:= .i) (Int.emod_nonneg _ (by omega)) (Int.emod_lt_of_pos _ (by omega)))
def Ud (x:YC) (l:List Int) (t v:Int):YC:={held:=eqI (v%2) 1,shift:=if eqI (v%2) 1||x.held then XG l t else x.shift}
def WZ (x:YC) (l:List Int) (t:Int):YC:=if x.held then {held:=true,shift:=XG l t}else {held:=false,shift:=x.shift/2}
def Vc (x:YC) (l:List Int) (t:Int):Int:=if x.held then XG l t%2 else x.shift%2
def Wv (x:YC):Prop:=0≤x.shift∧x.shift≤255
theorem ZlW {x:YC} {l:List Int} {t v:Int} (h:Wv x) (hl:YN l):Wv (Ud x l t v):=by
 unfold Ud Wv;simp only;split
 ·exact Zn0 hl t
 ·exact h
theorem Zob {x:YC} {l:List Int} {t:Int} (h:Wv x) (hl:YN l):Wv (WZ x l t):=by
 unfold WZ;split
 ·exact Zn0 hl t
 ·unfold Wv at h⊢;show 0≤x.shift/2∧x.shift/2≤255;omega
theorem ZlG (x:YC) (l:List Int) (t:Int):0≤Vc x l t∧Vc x l t≤255:=by
 unfold Vc;split<;>omega
structure Zv where
 img:List (List Int)
 pads:List Int
 mem:ZF
 cpu:Zq
 ppu:Z2
 apu:Qr
 pad:YC
 nmi:Bool
 steps:Int
 frames:List (List Int)
 samples:List Int
 reads:List Int
def Zv.t (l:Zv):Tup Xr:=(l.img,(l.pads,(l.mem.ram,(l.mem.bank,(l.cpu.a,(l.cpu.x,(l.cpu.s,(l.cpu.pc,(l.cpu.z,(l.cpu.n,(l.cpu.c,(l.cpu.i,
 (l.ppu.T,(l.ppu.ctrl,(l.ppu.scroll,(l.ppu.addr,(l.ppu.pal,(l.ppu.blank,(l.ppu.table,(l.ppu.dots,
 (l.apu.T,(l.apu.period,(l.apu.count,(l.apu.bit,(l.apu.len,(l.apu.asks,(l.apu.irq,(l.pad.held,(l.pad.shift,(l.nmi,(l.steps,(l.frames,(l.samples,(l.reads,()))))))))))))))))))))))))))))))))))
def lkM (a:Tup Xr):Zv:=⟨Zsn a,ZrO a,ZsT (JN a),ZsQ (KF a),ZsW (Y6 a),ZsO (UG a),ZsV (XB a),a.2.2.2.2.2.2.2.2.2.2.2.2.2.2.2.2.2.2.2.2.2.2.2.2.2.2.2.2.2.1,a.2.2.2.2.2.2.2.2.2.2.2.2.2.2.2.2.2.2.2.2.2.2.2.2.2.2.2.2.2.2.1,
 (J1 a).1,(J1 a).2.1,(J1 a).2.2.1⟩
def YF (t:Int):Int:=(t+15)/64
structure Qc (l:Zv):Prop where
 mem:Jz l.img l.mem
 pads:YN l.pads
 cpu:ZO l.cpu
 ppu:JJ l.ppu
 apu:Yl l.apu
 pad:Wv l.pad
 t:l.apu.T=l.ppu.T
 s0:0≤l.steps
 s1:l.steps≤l.ppu.T
 fr: ∀f,f∈l.frames→f.length=48
 frn:(l.frames.length:Int)=YF l.ppu.T
 sam:(l.samples.length:Int)=l.ppu.T/16
theorem ZaU {f:List (List Int)} {t:Int} (ht:0≤t):Kb f t=true↔(∀l,l∈f→l.length=48)∧(f.length:Int)=YF t:=by
 unfold Kb YF;rw[Bool.and_eq_true,List.all_eq_true,Vs,Int.tdiv_eq_ediv_of_nonneg (by omega)];constructor
 ·rintro ⟨a,b⟩;exact ⟨fun l hl=>by have:=Vs.1 (a l hl);omega,b⟩
 ·rintro ⟨a,b⟩;exact ⟨fun l hl=>Vs.2 (by have:=a l hl;omega),b⟩
theorem ZaD {s:List Int} {t:Int} (ht:0≤t):W6 s t=true↔(s.length:Int)=t/16:=by
 unfold W6;rw[Vs,Int.tdiv_eq_ediv_of_nonneg ht]
theorem Zna: ∀{f:List (List Int)},(∀l,l∈f→l.length=48)→Wz f=48*f.length
 | [],_=>rfl
 |x::f,h=>by
  simp only[Wz,List.length_cons];rw[Zna fun l hl=>h l (List.mem_cons_of_mem _ hl),h x List.mem_cons_self];omega
theorem ZeP {f:List (List Int)} (h: ∀l,l∈f→l.length=48) (hn:f.length≤1048576):small f:=
 ⟨by omega,fun l hl=>by have:=h l hl;omega,by rw[Zna h];omega⟩
theorem Qc.s {l:Zv} (h:Qc l) (hr:l.reads.length≤4398046511104):YT l.t:=by
 have h1:=h.ppu.t;have h2:=h.frn;have h3:=h.sam;have h4:=h.mem.ram.len;have h5:=h.pads.len;unfold YF at h2;exact ⟨h.mem.img.small,by show l.pads.length≤_;omega,by show l.mem.1.length≤_;omega,h.ppu.s,ZeP (f:=l.frames) h.fr (by omega),by show l.samples.length≤_;omega,hr⟩
def JH (l:Zv) (a:Int):Zv:=
 if (rgT a).1=2 then {l with ppu:=Yf l.ppu (rgT a).2,reads:=l.reads++[Vd l.ppu (rgT a).2]}
 else if (rgT a).1=3 then {l with apu:=YW l.apu (rgT a).2,reads:=l.reads++[KK l.apu (rgT a).2]}
 else if (rgT a).1=4 then {l with pad:=WZ l.pad l.pads l.ppu.T,reads:=l.reads++[Vc l.pad l.pads l.ppu.T]}
 else l
def VH (l:Zv) (a:Int):Int:=
 if (rgT a).1=2 then Vd l.ppu (rgT a).2 else if (rgT a).1=3 then KK l.apu (rgT a).2 else if (rgT a).1=4 then Vc l.pad l.pads l.ppu.T else ZR l.img l.mem a
def JI (l:Zv) (a v:Int):Zv:=
 if (rgT a).1=2 then {l with ppu:=Yj l.ppu (rgT a).2 v}else if (rgT a).1=3 then {l with apu:=KP l.apu (rgT a).2 v}
 else if (rgT a).1=4 then {l with pad:=Ud l.pad l.pads l.ppu.T v}else {l with mem:=KJ l.img l.mem a v}
theorem Zoc {l:Zv} (h:Qc l) (a:Int):Qc (JH l a):=by
 have hp:=h;obtain ⟨m,ps,c,p,u,d,t,s0,s1,f,fn,sm⟩:=h;unfold JH;split
 ·exact ⟨m,ps,c,Zod p _,u,d,t.trans (W0 _ _).symm,s0,by rw[show ((Yf l.ppu (rgT a).2).T:Int)=l.ppu.T from W0 _ _];exact s1,f,by show _=YF (Yf l.ppu (rgT a).2).T;rw[W0];exact fn,by show _=((Yf l.ppu (rgT a).2).T:Int)/16;rw[W0];exact sm⟩
 split
 ·exact ⟨m,ps,c,p,Zoa u _,d,(Ziv _ _).trans t,s0,s1,f,fn,sm⟩
 split
 ·exact ⟨m,ps,c,p,u,Zob d ps,t,s0,s1,f,fn,sm⟩
 ·exact hp
theorem ZlH {l:Zv} (h:Qc l) (a:Int):0≤VH l a∧VH l a≤255:=by
 unfold VH;split
 ·exact ZlI h.ppu _
 split
 ·exact ZlF _ _
 split
 ·exact ZlG _ _ _
 ·exact Zeo h.mem a
theorem ZiJ {l:Zv} (h:Qc l) (a v:Int):Qc (JI l a v):=by
 have hp:=h;obtain ⟨m,ps,c,p,u,d,t,s0,s1,f,fn,sm⟩:=h;unfold JI;split
 ·exact ⟨m,ps,c,ZlX p _ _,u,d,t.trans (Ue _ _ _).symm,s0,by rw[show ((Yj l.ppu (rgT a).2 v).T:Int)=l.ppu.T from Ue _ _ _];exact s1,f,by show _=YF (Yj l.ppu (rgT a).2 v).T;rw[Ue];exact fn,by show _=((Yj l.ppu (rgT a).2 v).T:Int)/16;rw[Ue];exact sm⟩
 split
 ·exact ⟨m,ps,c,p,ZlV u _ _,d,(Zff _ _ _).trans t,s0,s1,f,fn,sm⟩
 split
 ·exact ⟨m,ps,c,p,u,ZlW d ps,t,s0,s1,f,fn,sm⟩
 ·exact ⟨Zn4 m _ _,ps,c,p,u,d,t,s0,s1,f,fn,sm⟩
theorem Zq2 (l:Zv) (a:Int):(JH l a).ppu.T=l.ppu.T:=by
 unfold JH
 repeat' split
 all_goals first|exact W0 _ _|rfl
theorem ZpW (l:Zv) (a v:Int):(JI l a v).ppu.T=l.ppu.T:=by
 unfold JI
 repeat' split
 all_goals first|exact Ue _ _ _|rfl
theorem Zgk (l:Zv) (a:Int):(JH l a).img=l.img∧(JH l a).mem=l.mem∧(JH l a).cpu=l.cpu∧(JH l a).steps=l.steps∧(JH l a).pads=l.pads∧(JH l a).nmi=l.nmi:=by
 unfold JH
 repeat' split
 all_goals exact ⟨rfl,rfl,rfl,rfl,rfl,rfl⟩
theorem ZcH (l:Zv) (a v:Int):(JI l a v).img=l.img∧(JI l a v).cpu=l.cpu∧(JI l a v).steps=l.steps∧(JI l a v).reads=l.reads∧(JI l a v).pads=l.pads∧(JI l a v).nmi=l.nmi:=by
 unfold JI
 repeat' split
 all_goals exact ⟨rfl,rfl,rfl,rfl,rfl,rfl⟩
theorem ZkD (l:Zv) (a:Int):(JH l a).reads.length≤l.reads.length+1:=by
 unfold JH
 repeat' split
 all_goals simp
def Vh (f:List (List Int)) (x:ZF) (v:Int):Int:=Xq (ZR f x v) (ZR f x (v+1))
def JM (l:Zv) (v:Int):Zv:={l with mem:=XY l.mem l.cpu,cpu:=ZiY l.cpu (Vh l.img l.mem v)}
theorem ZoP (f:List (List Int)) (x:ZF) (v:Int):0≤Vh f x v∧Vh f x v≤65535:=Zkl _ _
theorem Zle {l:Zv} (h:Qc l) (v:Int):Qc (JM l v):=by
 obtain ⟨m,ps,c,p,u,d,t,s0,s1,f,fn,sm⟩:=h;exact ⟨m.of_ram (Zh9 m.ram) rfl,ps,Zk6 c (ZoP _ _ _),p,u,d,t,s0,s1,f,fn,sm⟩
def Zk4 (l:Zv) (op arg v:Int):Zv:={l with mem:=V3 l.mem l.cpu op,cpu:=WE l.mem l.cpu op arg v}
theorem Zh8 {l:Zv} (h:Qc l) (op arg v:Int):Qc (Zk4 l op arg v):=by
 obtain ⟨m,ps,c,p,u,d,t,s0,s1,f,fn,sm⟩:=h;exact ⟨m.of_ram (Znt m.ram) (Zhl _ _ _),ps,Zns c,p,u,d,t,s0,s1,f,fn,sm⟩
def opL (l:Zv) (op arg:Int):Zv:=
 if ZT op=1 then Zk4 (JH l (QZ op arg l.cpu.x)) op arg (VH l (QZ op arg l.cpu.x))
 else if ZT op=2 then Zk4 (JI l (QZ op arg l.cpu.x) (l.cpu.a%256)) op arg 0
 else Zk4 l op arg 0
theorem Zsq {l:Zv} (h:Qc l) (op arg:Int):Qc (opL l op arg):=by
 unfold opL;split
 ·exact Zh8 (Zoc h _) _ _ _
 split
 ·exact Zh8 (ZiJ h _ _) _ _ _
 ·exact Zh8 h _ _ _
theorem Zsr (l:Zv) (op arg:Int):(opL l op arg).ppu.T=l.ppu.T:=by
 unfold opL;split
 ·exact Zq2 _ _
 split
 ·exact ZpW _ _ _
 ·rfl
theorem ZnV (l:Zv) (op arg:Int):(opL l op arg).steps=l.steps:=by
 unfold opL;split
 ·exact (Zgk _ _).2.2.2.1
 split
 ·exact (ZcH _ _ _).2.2.1
 ·rfl
theorem ZnU (l:Zv) (op arg:Int):(opL l op arg).reads.length≤l.reads.length+1:=by
 unfold opL;split
 ·exact ZkD _ _
 split
 ·show (JI l _ _).reads.length≤_;rw[(ZcH _ _ _).2.2.2.1];omega
 ·show l.reads.length≤_;omega
def YA (l:Zv):Zv:=
 {l with ppu:=Jx l.ppu,apu:=Ub l.apu,nmi:=l.nmi||Kw l.ppu,frames:=if JQ l.ppu then l.frames++[Yw l.ppu]else l.frames,samples:=if YK l.apu then l.samples++[Wh l.apu]else l.samples}
theorem ZkX {l:Zv} (h:Qc l) (ht:l.ppu.T<20000):Qc (YA l):=by
 obtain ⟨m,ps,c,p,u,d,t,s0,s1,f,fn,sm⟩:=h;have p0:=p.t.1;refine ⟨m,ps,c,ZoJ p ht,ZoE u (by omega),d,?_,s0,?_,?_,?_,?_⟩
 ·show l.apu.T+1=(Jx l.ppu).T;rw[Uc,t]
 ·show l.steps≤((Jx l.ppu).T:Int);rw[Uc];omega
 ·intro x hx;have hx:x∈(if JQ l.ppu then l.frames++[Yw l.ppu]else l.frames):=hx
  split at hx
  ·rename_i ht;rcases List.mem_append.1 hx with h1|h1
   ·exact f x h1
   ·rw[List.mem_singleton.1 h1];exact Zho p ht
  ·exact f x hx
 ·show ((if JQ l.ppu then l.frames++[Yw l.ppu]else l.frames).length:Int)=YF (Jx l.ppu).T
  rw[Uc];unfold YF JQ at*;by_cases h1:l.ppu.T%64=48
  ·simp only[h1,decide_true,if_true,List.length_append,List.length_singleton];omega
  ·simp only[h1,decide_false,Bool.false_eq_true,if_false];omega
 ·show ((if YK l.apu then l.samples++[Wh l.apu]else l.samples).length:Int)=((Jx l.ppu).T:Int)/16
  rw[Uc];by_cases h1:l.apu.T%16=15
  ·rw[show YK l.apu=true from Zn h1,Ze rfl,List.length_append,List.length_singleton];omega
  ·rw[show YK l.apu=false from Zi h1,Zc (by simp)];omega
theorem ZiG (l:Zv):(YA l).ppu.T=l.ppu.T+1:=Uc _
def QK:Nat→Zv→Zv
 |0,l=>l
 |n+1,l=>QK n (YA l)
theorem ZiH: ∀{n:Nat} {l:Zv},Qc l→l.ppu.T+n≤20000→Qc (QK n l)∧(QK n l).ppu.T=l.ppu.T+n∧(QK n l).steps=l.steps∧(QK n l).reads=l.reads
 |0,l,h,ht=>⟨h,by show l.ppu.T=l.ppu.T+0;omega,rfl,rfl⟩
 |n+1,l,h,ht=>by
  obtain ⟨a,b,c,d⟩:=ZiH (n:=n) (ZkX h (by omega)) (by rw[ZiG];omega);refine ⟨a,?_,c,d⟩;show (QK n (YA l)).ppu.T=_;rw[b,ZiG];omega
def KY (l:Zv):Bool:=l.nmi|| (l.apu.irq&& !l.cpu.i)
def Qm (l:Zv):Int:=opT l.img l.mem l.cpu.pc
def Ys (l:Zv):Int:=VY l.img l.mem l.cpu.pc
def QP (l:Zv):Int:=if KY l then 7 else Qs (Qm l)
def doL (l:Zv):Zv:=
 if l.nmi then JM {l with nmi:=false} 65530 else if l.apu.irq&& !l.cpu.i then JM l 65534 else opL l (Qm l) (Ys l)
def Q1 (l:Zv):Bool:=decide (l.ppu.T+QP l≤20000)
def Q3 (l:Zv):Zv:=let m:=QK (QP l).toNat (doL l);{m with steps:=m.steps+1}
theorem Zqy {l:Zv} (h:Qc l):Qc (doL l):=by
 unfold doL;split
 ·exact Zle (l:={l with nmi:=false}) ⟨h.mem,h.pads,h.cpu,h.ppu,h.apu,h.pad,h.t,h.s0,h.s1,h.fr,h.frn,h.sam⟩ _
 split
 ·exact Zle h _
 ·exact Zsq h _ _
theorem Zqz (l:Zv):(doL l).ppu.T=l.ppu.T:=by
 unfold doL;split
 ·rfl
 split
 ·rfl
 ·exact Zsr _ _ _
theorem Zno (l:Zv):(doL l).steps=l.steps:=by
 unfold doL;split
 ·rfl
 split
 ·rfl
 ·exact ZnV _ _ _
theorem Znn (l:Zv):(doL l).reads.length≤l.reads.length+1:=by
 unfold doL;split
 ·show l.reads.length≤_;omega
 split
 ·show l.reads.length≤_;omega
 ·exact ZnU _ _ _
theorem Zfu (l:Zv):2≤QP l∧QP l≤7:=by
 unfold QP;split
 ·omega
 ·have:=ZcB (Qm l);omega
theorem ZkS {l:Zv} (h:Qc l) (hm:Q1 l=true):Qc (Q3 l)∧(Q3 l).ppu.T=l.ppu.T+QP l∧(Q3 l).steps=l.steps+1∧(Q3 l).reads.length≤l.reads.length+1:=by
 have hm:l.ppu.T+QP l≤20000:=by simpa [Q1] using hm
 have hc:=Zfu l;have hd:=Zqz l;obtain ⟨a,b,c,d⟩:=ZiH (n:=(QP l).toNat) (Zqy h) (by omega);have e:(Q3 l).ppu.T=l.ppu.T+QP l:=by
  show (QK (QP l).toNat (doL l)).ppu.T=_;rw[b,hd];omega
 have e2:(Q3 l).steps=l.steps+1:=by
  show (QK (QP l).toNat (doL l)).steps+1=_;rw[c,Zno]
 obtain ⟨m,ps,cc,p,u,dd,t,s0,s1,f,fn,sm⟩:=a;refine ⟨⟨m,ps,cc,p,u,dd,t,by have:=h.s0;omega,by have:=h.s1;have:=h.s0;rw[e,e2];omega,f,fn,sm⟩,e,e2,?_⟩;show (QK (QP l).toNat (doL l)).reads.length≤_;rw[d];exact Znn l
def QL:Nat→Zv→Zv×Nat
 |0,l=>(l,0)
 |n+1,l=>if Q1 l then ((QL n (Q3 l)).1,(QL n (Q3 l)).2+1)else (l,0)
theorem Zqa: ∀{n:Nat} {l:Zv},Qc l→Qc (QL n l).1∧(QL n l).2≤n∧(QL n l).1.reads.length≤l.reads.length+n∧(QL n l).1.steps=l.steps+(QL n l).2
 |0,l,h=>⟨h,Nat.le_refl _,Nat.le_refl _,by show l.steps=l.steps+0;omega⟩
 |n+1,l,h=>by
  unfold QL;split
  ·rename_i hm;obtain ⟨a,b,c,d⟩:=ZkS h hm;obtain ⟨e,f,g,i⟩:=Zqa (n:=n) a;exact ⟨e,by show (QL n (Q3 l)).2+1≤n+1;omega,by show (QL n (Q3 l)).1.reads.length≤_;omega,by show (QL n (Q3 l)).1.steps=l.steps+(((QL n (Q3 l)).2+1:Nat):Int);omega⟩
  ·exact ⟨h,Nat.zero_le _,by show l.reads.length≤_;omega,by show l.steps=l.steps+0;omega⟩
abbrev Rc:=Int×Int×Int
def RcP (x:Rc):Prop:=(0≤x.1∧x.1≤20000)∧(0≤x.2.1∧x.2.1≤7)∧(0≤x.2.2∧x.2.2≤255)
structure Vm (cap:Int) (l:List Rc):Prop where
 rec': ∀x,x∈l→RcP x
 ord:l.Pairwise (fun a b=>a.1≤b.1)
 c0:1≤cap
 c1:cap≤16
 len:(l.length:Int)≤cap
theorem Zkz {l:List Rc} (h: ∀i,(hi:i+1<l.length)→l[i].1≤l[i+1].1):l.Pairwise (fun a b=>a.1≤b.1):=by
 rw[List.pairwise_iff_getElem];intro i j hi hj hij;induction j with
 |zero=>omega
 |succ j ih=>
  rcases Nat.lt_or_ge i j with h1|h1
  ·exact Int.le_trans (ih (by omega) h1) (h j hj)
  ·have:i=j:=by omega
   subst this;exact h i hj
theorem ZaJ {r:Tup Yh}:XJ r=true↔Vm r.1 r.2.1:=by
 unfold XJ;rw[Bool.and_eq_true,Bool.and_eq_true,List.all_eq_true,JE,WO];have hg: ∀i,(hi:i<r.2.1.length)→rdE .t r.2.1 (i:Int)=r.2.1[i]:=fun i hi=>Qn .t r.2.1 i hi;constructor
 ·rintro ⟨h,⟨c0,c1⟩,hl⟩;have key: ∀i,(hi:i<r.2.1.length)→RcP r.2.1[i]∧(i≠0→ ¬(r.2.1[i]).1< (rdE .t r.2.1 ((i-1:Nat):Int)).1):=fun i hi=>by
   have:=h i (by rw[List.mem_range'];exact ⟨i,hi,by omega⟩);unfold Ve at this;rw[hg i hi]at this;simp only[Bool.and_eq_true,JE,Bool.or_eq_true,decide_eq_true_eq,Bool.not_eq_true']at this;obtain ⟨a,b,c,d⟩:=this;refine ⟨⟨a,b,c⟩,fun h0=> ?_⟩;rcases d with d|d
   ·exact absurd d h0
   ·intro hlt;rw[show ltI (r.2.1[i]).1 (rdE .t r.2.1 ((i-1:Nat):Int)).1=true from Zl hlt]at d;cases d
  refine ⟨fun x hx=> ?_,Zkz fun i hi=> ?_,c0,c1,hl⟩
  ·obtain ⟨i,hi,rfl⟩:=List.getElem_of_mem hx;exact (key i hi).1
  ·have:=(key (i+1) hi).2 (by omega);rw[Nat.add_sub_cancel,hg i (by omega)]at this;omega
 ·rintro ⟨h,ho,c0,c1,hl⟩;refine ⟨fun i hi=> ?_,⟨c0,c1⟩,hl⟩;rw[List.mem_range']at hi;obtain ⟨j,hj,e⟩:=hi;have hi:i<r.2.1.length:=by omega
  unfold Ve;rw[hg i hi];obtain ⟨a,b,c⟩:=h _ (List.getElem_mem hi);simp only[Bool.and_eq_true,JE,Bool.or_eq_true,decide_eq_true_eq,Bool.not_eq_true'];refine ⟨a,b,c,?_⟩;by_cases h0:i=0
  ·exact .inl h0
  ·right;rw[hg (i-1) (by omega)];have:=List.pairwise_iff_getElem.1 ho (i-1) i (by omega) hi (by omega);exact Zx (by omega)
theorem Za1 {r:Tup Yh} {t:Int} (h:r.2.1.Pairwise (fun a b=>a.1≤b.1)):W4 r t=true↔ ∀x,x∈r.2.1→t≤x.1:=by
 unfold W4;obtain ⟨cap,l,_⟩:=r;simp only at h⊢;cases l with
 |nil=>simp
 |cons y l=>
  simp only[List.length_cons,Nat.add_one_ne_zero,if_false];rw[show rdE .t (y::l) (0:Int)=y from rfl,WO];constructor
  ·intro h1 x hx;cases hx with
   |head=>exact h1
   |tail _ hx=>exact Int.le_trans h1 ((List.pairwise_cons.1 h).1 x hx)
  ·intro h1;exact h1 y List.mem_cons_self
theorem Za2 {r:Tup Yh} {t:Int} (h:r.2.1.Pairwise (fun a b=>a.1≤b.1)):VJ r t=true↔ ∀x,x∈r.2.1→x.1≤t:=by
 unfold VJ;obtain ⟨cap,l,_⟩:=r;simp only at h⊢;by_cases h0:l.length=0
 ·have:l=[]:=List.eq_nil_of_length_eq_zero h0;subst this;simp
 ·rw[Zc h0,Qn .t l (l.length-1) (by omega),WO];constructor
  ·intro h1 x hx;obtain ⟨i,hi,rfl⟩:=List.getElem_of_mem hx;rcases Nat.lt_or_ge i (l.length-1)with h2|h2
   ·exact Int.le_trans (List.pairwise_iff_getElem.1 h i (l.length-1) hi (by omega) h2) h1
   ·have:i=l.length-1:=by omega
    subst this;exact h1
  ·intro h1;exact h1 _ (List.getElem_mem _)
structure Q5 where
 ppu:Z2
 cap:Int
 list:List Rc
 frames:List (List Int)
structure Q6 where
 apu:Qr
 cap:Int
 list:List Rc
 samples:List Int
def Q5.t (w:Q5):Tup VE:=(w.ppu.T,(w.ppu.ctrl,(w.ppu.scroll,(w.ppu.addr,(w.ppu.pal,(w.ppu.blank,(w.ppu.table,(w.ppu.dots,(w.cap,(w.list,(w.frames,())))))))))))
def Q6.t (w:Q6):Tup VN:=(w.apu.T,(w.apu.period,(w.apu.count,(w.apu.bit,(w.apu.len,(w.apu.asks,(w.apu.irq,(w.cap,(w.list,(w.samples,()))))))))))
structure JY (w:Q5):Prop where
 ppu:JJ w.ppu
 ring:Vm w.cap w.list
 lo: ∀x,x∈w.list→w.ppu.T≤x.1
 fr: ∀f,f∈w.frames→f.length=48
 frn:(w.frames.length:Int)=YF w.ppu.T
structure JL (w:Q6):Prop where
 apu:Yl w.apu
 ring:Vm w.cap w.list
 lo: ∀x,x∈w.list→w.apu.T≤x.1
 sam:(w.samples.length:Int)=w.apu.T/16
theorem Zgf {w:Q5}:VF w.t=true↔JY w:=by
 unfold VF;simp only[Bool.and_eq_true];constructor
 ·rintro ⟨a,b,c,d⟩;have a:=WX.1 (show YV w.ppu.t=true from a);have b:=ZaJ.1 b;have d:=(ZaU a.t.1).1 (show Kb w.frames w.ppu.T=true from d);exact ⟨a,b,(Za1 b.ord).1 c,d.1,d.2⟩
 ·rintro ⟨a,b,c,d,e⟩;exact ⟨WX.2 a,ZaJ.2 b,(Za1 (r:=(w.cap,(w.list,()))) b.ord).2 c,(ZaU a.t.1).2 ⟨d,e⟩⟩
theorem Zgu {w:Q6}:VO w.t=true↔JL w:=by
 unfold VO;simp only[Bool.and_eq_true];constructor
 ·rintro ⟨a,b,c,d⟩;have a:=Wx.1 (show Xh w.apu.t=true from a);have b:=ZaJ.1 b;have d:=(ZaD a.t.1).1 (show W6 w.samples w.apu.T=true from d);exact ⟨a,b,(Za1 b.ord).1 c,d⟩
 ·rintro ⟨a,b,c,d⟩;exact ⟨Wx.2 a,ZaJ.2 b,(Za1 (r:=(w.cap,(w.list,()))) b.ord).2 c,(ZaD a.t.1).2 d⟩
theorem JY.s {w:Q5} (h:JY w):Zjw w.t:=by
 have h1:=h.ppu.t;have h2:=h.frn;have h3:=h.ring.len;have h4:=h.ring.c1;unfold YF at h2;exact ⟨h.ppu.s,by show w.list.length≤_;omega,ZeP (f:=w.frames) h.fr (by omega)⟩
theorem JL.s {w:Q6} (h:JL w):ZjN w.t:=by
 have h1:=h.apu.t;have h2:=h.sam;have h3:=h.ring.len;have h4:=h.ring.c1;exact ⟨by show w.list.length≤_;omega,by show w.samples.length≤_;omega⟩
theorem Vm.tail {cap:Int} {x:Rc} {l:List Rc} (h:Vm cap (x::l)):Vm cap l:=
 ⟨fun y hy=>h.rec' y (List.mem_cons_of_mem _ hy),(List.pairwise_cons.1 h.ord).2,h.c0,h.c1,by have:=h.len;simp only[List.length_cons]at this;omega⟩
def due (l:List Rc) (t:Int):Bool:=match l with| []=>false|x::_=>decide (x.1=t)
def JD (l:List Rc):Rc:=match l with| []=>(0,(0,0))|x::_=>x
def Jn (w:Q5) (mark:Int):Option Q5:=
 if due w.list w.ppu.T then some {w with ppu:=Yj w.ppu (JD w.list).2.1 (JD w.list).2.2,list:=w.list.tail}
 else if w.ppu.T<mark∧w.ppu.T<20000 then some {w with ppu:=Jx w.ppu,frames:=if JQ w.ppu then w.frames++[Yw w.ppu]else w.frames}else none
def Jo (w:Q6) (mark:Int):Option Q6:=
 if due w.list w.apu.T then some {w with apu:=KP w.apu (JD w.list).2.1 (JD w.list).2.2,list:=w.list.tail}
 else if w.apu.T<mark∧w.apu.T<20000 then some {w with apu:=Ub w.apu,samples:=if YK w.apu then w.samples++[Wh w.apu]else w.samples}else none
theorem Zcs {l:List Rc} {t:Int} (h:due l t=true):l=JD l::l.tail∧(JD l).1=t:=by
 unfold due JD at*;cases l with
 |nil=>cases h
 |cons x l=>exact ⟨rfl,by simpa using h⟩
theorem ZnO {l:List Rc} {t:Int} (ho:l.Pairwise (fun a b=>a.1≤b.1)) (hl: ∀x,x∈l→t≤x.1) (h:due l t=false): ∀x,x∈l→t+1≤x.1:=by
 unfold due at h;cases l with
 |nil=>intro x hx;cases hx
 |cons y l=>
  have h:y.1≠t:=by simpa using h
  have h1:=hl y List.mem_cons_self;intro x hx;cases hx with
  |head=>omega
  |tail _ hx=>have:=(List.pairwise_cons.1 ho).1 x hx;omega
theorem Wq {w v:Q5} {mark:Int} (h:JY w) (hs:Jn w mark=some v):JY v∧v.cap=w.cap∧(∀x,x∈v.list→x∈w.list)∧
  (v.ppu.T=w.ppu.T∧v.list.length+1=w.list.length∨v.ppu.T=w.ppu.T+1∧w.ppu.T<mark∧w.ppu.T<20000∧v.list=w.list):=by
 obtain ⟨p,r,lo,f,fn⟩:=h;unfold Jn at hs;split at hs
 ·rename_i hd;obtain ⟨e,e1⟩:=Zcs hd;simp only[Zg]at hs;subst hs;rw[e]at r lo;refine ⟨⟨ZlX p _ _,r.tail,fun x hx=> ?_,f,?_⟩,rfl,fun x hx=> ?_, .inl ⟨Ue _ _ _,?_⟩⟩
  ·show (Yj w.ppu _ _).T≤x.1;rw[Ue];exact lo x (List.mem_cons_of_mem _ hx)
  ·show (w.frames.length:Int)=YF (Yj w.ppu _ _).T;rw[Ue];exact fn
  ·show x∈w.list;rw[e];exact List.mem_cons_of_mem _ hx
  ·show w.list.tail.length+1=w.list.length
   conv=>rhs;rw[e]
   rfl
 ·split at hs
  ·rename_i hd hm;simp only[Zg]at hs;subst hs;have hd:due w.list w.ppu.T=false:=by simpa using hd
   have p0:=p.t.1;refine ⟨⟨ZoJ p hm.2,r,fun x hx=> ?_,fun x hx=> ?_,?_⟩,rfl,fun x hx=>hx, .inr ⟨Uc _,hm.1,hm.2,rfl⟩⟩
   ·show (Jx w.ppu).T≤x.1;rw[Uc];exact ZnO r.ord lo hd x hx
   ·have hx:x∈(if JQ w.ppu then w.frames++[Yw w.ppu]else w.frames):=hx
    split at hx
    ·rename_i ht;rcases List.mem_append.1 hx with h1|h1
     ·exact f x h1
     ·rw[List.mem_singleton.1 h1];exact Zho p ht
    ·exact f x hx
   ·show ((if JQ w.ppu then w.frames++[Yw w.ppu]else w.frames).length:Int)=YF (Jx w.ppu).T
    rw[Uc];unfold YF JQ at*;by_cases h1:w.ppu.T%64=48
    ·simp only[h1,decide_true,if_true,List.length_append,List.length_singleton];omega
    ·simp only[h1,decide_false,Bool.false_eq_true,if_false];omega
  ·cases hs
theorem Wr {w v:Q6} {mark:Int} (h:JL w) (hs:Jo w mark=some v):JL v∧v.cap=w.cap∧(∀x,x∈v.list→x∈w.list)∧
  (v.apu.T=w.apu.T∧v.list.length+1=w.list.length∨v.apu.T=w.apu.T+1∧w.apu.T<mark∧w.apu.T<20000∧v.list=w.list):=by
 obtain ⟨p,r,lo,fn⟩:=h;unfold Jo at hs;split at hs
 ·rename_i hd;obtain ⟨e,e1⟩:=Zcs hd;simp only[Zg]at hs;subst hs;rw[e]at r lo;refine ⟨⟨ZlV p _ _,r.tail,fun x hx=> ?_,?_⟩,rfl,fun x hx=> ?_, .inl ⟨Zff _ _ _,?_⟩⟩
  ·show (KP w.apu _ _).T≤x.1;rw[Zff];exact lo x (List.mem_cons_of_mem _ hx)
  ·show (w.samples.length:Int)=(KP w.apu _ _).T/16;rw[Zff];exact fn
  ·show x∈w.list;rw[e];exact List.mem_cons_of_mem _ hx
  ·show w.list.tail.length+1=w.list.length
   conv=>rhs;rw[e]
   rfl
 ·split at hs
  ·rename_i hd hm;simp only[Zg]at hs;subst hs;have hd:due w.list w.apu.T=false:=by simpa using hd
   have p0:=p.t.1;refine ⟨⟨ZoE p hm.2,r,fun x hx=>ZnO r.ord lo hd x hx,?_⟩,rfl,fun x hx=>hx, .inr ⟨rfl,hm.1,hm.2,rfl⟩⟩;show ((if YK w.apu then w.samples++[Wh w.apu]else w.samples).length:Int)=(w.apu.T+1)/16
   by_cases h1:w.apu.T%16=15
   ·rw[show YK w.apu=true from Zn h1,Ze rfl,List.length_append,List.length_singleton];omega
   ·rw[show YK w.apu=false from Zi h1,Zc (by simp)];omega
  ·cases hs
def Y4:Nat→Q5→Int→Q5
 |0,w,_=>w
 |n+1,w,m=>match Jn w m with|none=>w|some v=>Y4 n v m
def Y5:Nat→Q6→Int→Q6
 |0,w,_=>w
 |n+1,w,m=>match Jo w m with|none=>w|some v=>Y5 n v m
def YG (w:Q5):Nat:=w.list.length+(20000-w.ppu.T).toNat
def YH (w:Q6):Nat:=w.list.length+(20000-w.apu.T).toNat
theorem ZaG {w v:Q5} {m:Int} (h:JY w) (hs:Jn w m=some v):YG v<YG w:=by
 obtain ⟨a,_,_,c⟩:=Wq h hs;unfold YG;have:=h.ppu.t;rcases c with ⟨c,d⟩| ⟨c,d,e,f⟩
 ·rw[c];omega
 ·rw[c,f];omega
theorem ZaH {w v:Q6} {m:Int} (h:JL w) (hs:Jo w m=some v):YH v<YH w:=by
 obtain ⟨a,_,_,c⟩:=Wr h hs;unfold YH;have:=h.apu.t;rcases c with ⟨c,d⟩| ⟨c,d,e,f⟩
 ·rw[c];omega
 ·rw[c,f];omega
def Xj (w:Q5) (m:Int):Q5:=Y4 (YG w) w m
def Xk (w:Q6) (m:Int):Q6:=Y5 (YH w) w m
theorem Zfo: ∀{n:Nat} {w:Q5} {m:Int},JY w→YG w≤n→Y4 n w m=Xj w m:=by
 intro n;induction n using Nat.strongRecOn with
 |ind n ih=>
  intro w m h hn;unfold Xj;cases n with
  |zero=>rw[show YG w=0 by omega]
  |succ n=>
   cases hs:Jn w m with
   |none=>
    rw[show Y4 (n+1) w m=w by rw[Y4,hs]];cases YG w with
    |zero=>rfl
    |succ k=>rw[Y4,hs]
   |some v=>
    have h1:=ZaG h hs;rw[show Y4 (n+1) w m=Y4 n v m by rw[Y4,hs]];rw[ih n (by omega) (Wq h hs).1 (by omega)];obtain ⟨k,hk⟩: ∃k,YG w=k+1:=⟨YG w-1,by omega⟩;rw[hk,show Y4 (k+1) w m=Y4 k v m by rw[Y4,hs]];exact (ih k (by omega) (Wq h hs).1 (by omega)).symm
theorem Zfp: ∀{n:Nat} {w:Q6} {m:Int},JL w→YH w≤n→Y5 n w m=Xk w m:=by
 intro n;induction n using Nat.strongRecOn with
 |ind n ih=>
  intro w m h hn;unfold Xk;cases n with
  |zero=>rw[show YH w=0 by omega]
  |succ n=>
   cases hs:Jo w m with
   |none=>
    rw[show Y5 (n+1) w m=w by rw[Y5,hs]];cases YH w with
    |zero=>rfl
    |succ k=>rw[Y5,hs]
   |some v=>
    have h1:=ZaH h hs;rw[show Y5 (n+1) w m=Y5 n v m by rw[Y5,hs]];rw[ih n (by omega) (Wr h hs).1 (by omega)];obtain ⟨k,hk⟩: ∃k,YH w=k+1:=⟨YH w-1,by omega⟩;rw[hk,show Y5 (k+1) w m=Y5 k v m by rw[Y5,hs]];exact (ih k (by omega) (Wr h hs).1 (by omega)).symm
theorem Zba {w v:Q5} {m:Int} (h:JY w) (hs:Jn w m=some v):Xj w m=Xj v m:=by
 have h1:=ZaG h hs;obtain ⟨k,hk⟩: ∃k,YG w=k+1:=⟨YG w-1,by omega⟩;unfold Xj;rw[hk,show Y4 (k+1) w m=Y4 k v m by rw[Y4,hs]];exact Zfo (Wq h hs).1 (by omega)
theorem Zas {w:Q5} {m:Int} (hs:Jn w m=none):Xj w m=w:=by
 unfold Xj;cases YG w with
 |zero=>rfl
 |succ k=>rw[Y4,hs]
theorem Zbb {w v:Q6} {m:Int} (h:JL w) (hs:Jo w m=some v):Xk w m=Xk v m:=by
 have h1:=ZaH h hs;obtain ⟨k,hk⟩: ∃k,YH w=k+1:=⟨YH w-1,by omega⟩;unfold Xk;rw[hk,show Y5 (k+1) w m=Y5 k v m by rw[Y5,hs]];exact Zfp (Wr h hs).1 (by omega)
theorem Zat {w:Q6} {m:Int} (hs:Jo w m=none):Xk w m=w:=by
 unfold Xk;cases YH w with
 |zero=>rfl
 |succ k=>rw[Y5,hs]
theorem Zde {Q:Q5→Prop} {m:Int} (hq: ∀w v,JY w→Q w→Jn w m=some v→Q v): ∀(n:Nat) {w:Q5},YG w≤n→JY w→Q w→JY (Xj w m)∧Q (Xj w m)∧Jn (Xj w m) m=none
 |0,w,hn,h,q=>by
  cases hs:Jn w m with
  |none=>rw[Zas hs];exact ⟨h,q,hs⟩
  |some v=>have:=ZaG h hs;omega
 |n+1,w,hn,h,q=>by
  cases hs:Jn w m with
  |none=>rw[Zas hs];exact ⟨h,q,hs⟩
  |some v=>
   rw[Zba h hs];exact Zde hq n (by have:=ZaG h hs;omega) (Wq h hs).1 (hq w v h q hs)
theorem Zdf {Q:Q6→Prop} {m:Int} (hq: ∀w v,JL w→Q w→Jo w m=some v→Q v): ∀(n:Nat) {w:Q6},YH w≤n→JL w→Q w→JL (Xk w m)∧Q (Xk w m)∧Jo (Xk w m) m=none
 |0,w,hn,h,q=>by
  cases hs:Jo w m with
  |none=>rw[Zat hs];exact ⟨h,q,hs⟩
  |some v=>have:=ZaH h hs;omega
 |n+1,w,hn,h,q=>by
  cases hs:Jo w m with
  |none=>rw[Zat hs];exact ⟨h,q,hs⟩
  |some v=>
   rw[Zbb h hs];exact Zdf hq n (by have:=ZaH h hs;omega) (Wr h hs).1 (hq w v h q hs)
structure Zh where
 img:List (List Int)
 pads:List Int
 mem:ZF
 cpu:Zq
 pad:YC
 T:Int
 nmi:Bool
 ctrl:Int
 known:Bool
 knownAt:Int
 steps:Int
 reads:List Int
 pic:Q5
 snd:Q6
def Zh.t (s:Zh):Tup QM:=(s.img,(s.pads,(s.mem.ram,(s.mem.bank,(s.cpu.a,(s.cpu.x,(s.cpu.s,(s.cpu.pc,(s.cpu.z,(s.cpu.n,(s.cpu.c,(s.cpu.i,(s.pad.held,(s.pad.shift,
 (s.T,(s.nmi,(s.ctrl,(s.known,(s.knownAt,(s.steps,(s.reads,
 (s.pic.ppu.T,(s.pic.ppu.ctrl,(s.pic.ppu.scroll,(s.pic.ppu.addr,(s.pic.ppu.pal,(s.pic.ppu.blank,(s.pic.ppu.table,(s.pic.ppu.dots,(s.pic.cap,(s.pic.list,(s.pic.frames,s.snd.t))))))))))))))))))))))))))))))))
structure ZA (s:Zh):Prop where
 mem:Jz s.img s.mem
 pads:YN s.pads
 cpu:ZO s.cpu
 pic:JY s.pic
 snd:JL s.snd
 pad:Wv s.pad
 ctrl:0≤s.ctrl∧s.ctrl≤255
 t:0≤s.T∧s.T≤20000
 known:0≤s.knownAt∧s.knownAt≤s.T
 steps:0≤s.steps∧s.steps≤s.T
 pt:s.pic.ppu.T≤s.T
 st:s.snd.apu.T≤s.T
 pl: ∀x,x∈s.pic.list→x.1≤s.T
 sl: ∀x,x∈s.snd.list→x.1≤s.T
theorem JX {s:Zh}:Qb s.t=true↔ZA s:=by
 unfold Qb Zbq Zfb Zfa;simp only[Bool.and_eq_true,JE];constructor
 ·rintro ⟨⟨a,b,c,d,e⟩,⟨f,g,h,i,j⟩,k,l,m,n⟩;have d:=Zgf.1 (show VF s.pic.t=true from d);have e:=Zgu.1 (show VO s.snd.t=true from e);exact ⟨UI.1 a,UN.1 b,Zdg.1 c,d,e,f,g,h,i,j,WO.1 k,WO.1 l,(Za2 d.ring.ord).1 m,(Za2 e.ring.ord).1 n⟩
 ·rintro ⟨a,b,c,d,e,f,g,h,i,j,k,l,m,n⟩;exact ⟨⟨UI.2 a,UN.2 b,Zdg.2 c,Zgf.2 d,Zgu.2 e⟩,⟨f,g,h,i,j⟩,WO.2 k,WO.2 l,(Za2 (r:=(s.pic.cap,(s.pic.list,()))) d.ring.ord).2 m,(Za2 (r:=(s.snd.cap,(s.snd.list,()))) e.ring.ord).2 n⟩
theorem ZA.s {s:Zh} (h:ZA s) (hr:s.reads.length≤4398046511104):ZU s.t:=by
 have h4:=h.mem.ram.len;have h5:=h.pads.len;exact ⟨h.mem.img.small,by show s.pads.length≤_;omega,by show s.mem.1.length≤_;omega,hr,h.pic.s,h.snd.s⟩
def ZhI (s:Zh):Bool:=eqI s.pic.ppu.T s.T&&eqI (s.pic.list.length:Int) 0
def KM (s:Zh):Bool:=eqI s.snd.apu.T s.T&&eqI (s.snd.list.length:Int) 0
def JZ (a b:Int):Bool:=decide ((a+31)/32< (b+31)/32)
def ZiT (a b:Int):Bool:=decide ((a+15)/64< (b+15)/64)
def YU (s:Zh) (n:Int):Int:=if 20000<s.T+n then 5 else 0
def Yu (s:Zh):Bool:= !s.nmi&&(!s.cpu.i&&JZ s.knownAt s.T)
def JU (s:Zh):Bool:=(if JZ s.knownAt s.T then s.snd.apu.irq else s.known)&& !s.cpu.i
def opS (s:Zh):Int:=opT s.img s.mem s.cpu.pc
def JB (s:Zh):Int:=VY s.img s.mem s.cpu.pc
def ZV (s:Zh):Int:=QZ (opS s) (JB s) s.cpu.x
def QU (s:Zh):Int:=
 if s.nmi then YU s 7 else if Yu s&& !KM s then 2 else if JU s then YU s 7
 else if ZT (opS s)=1∧(rgT (ZV s)).1=2∧ZhI s=false then 1 else if ZT (opS s)=1∧(rgT (ZV s)).1=3∧KM s=false then 2
 else if ZT (opS s)=2∧(rgT (ZV s)).1=2∧s.pic.cap≤(s.pic.list.length:Int)then 3 else if ZT (opS s)=2∧(rgT (ZV s)).1=3∧s.snd.cap≤(s.snd.list.length:Int)then 4
 else YU s (Qs (opS s))
def Jv (s:Zh) (b:Bool):Zh:={s with known:=b,knownAt:=s.T}
def Yg (s:Zh) (a:Int):Zh:=
 if (rgT a).1=2 then {s with pic:={s.pic with ppu:=Yf s.pic.ppu (rgT a).2},reads:=s.reads++[Vd s.pic.ppu (rgT a).2]}
 else if (rgT a).1=3 then
  (if (rgT a).2=2 then {s with snd:={s.snd with apu:=YW s.snd.apu (rgT a).2},known:=false,knownAt:=s.T,reads:=s.reads++[KK s.snd.apu (rgT a).2]}
  else {s with snd:={s.snd with apu:=YW s.snd.apu (rgT a).2},reads:=s.reads++[KK s.snd.apu (rgT a).2]})
 else if (rgT a).1=4 then {s with pad:=WZ s.pad s.pads s.T,reads:=s.reads++[Vc s.pad s.pads s.T]}
 else s
def VI (s:Zh) (a:Int):Int:=
 if (rgT a).1=2 then Vd s.pic.ppu (rgT a).2 else if (rgT a).1=3 then KK s.snd.apu (rgT a).2 else if (rgT a).1=4 then Vc s.pad s.pads s.T else ZR s.img s.mem a
def Yk (s:Zh) (a v:Int):Zh:=
 if (rgT a).1=2 then {s with pic:={s.pic with list:=s.pic.list++[(s.T,((rgT a).2,v))]},ctrl:=if (rgT a).2=0 then v else s.ctrl}
 else if (rgT a).1=3 then
  (if (rgT a).2=3∨(rgT a).2=2∧v%2=0 then {s with snd:={s.snd with list:=s.snd.list++[(s.T,((rgT a).2,v))]},known:=false,knownAt:=s.T}
  else {s with snd:={s.snd with list:=s.snd.list++[(s.T,((rgT a).2,v))]}})
 else if (rgT a).1=4 then {s with pad:=Ud s.pad s.pads s.T v}else {s with mem:=KJ s.img s.mem a v}
def UD (s:Zh) (v:Int):Zh:={s with mem:=XY s.mem s.cpu,cpu:=ZiY s.cpu (Vh s.img s.mem v)}
def Znu (s:Zh) (op arg v:Int):Zh:={s with mem:=V3 s.mem s.cpu op,cpu:=WE s.mem s.cpu op arg v}
def KH (s:Zh):Zh:=
 if ZT (opS s)=1 then Znu (Yg s (ZV s)) (opS s) (JB s) (VI s (ZV s))
 else if ZT (opS s)=2 then Znu (Yk s (ZV s) (s.cpu.a%256)) (opS s) (JB s) 0
 else Znu s (opS s) (JB s) 0
def ZQ (s:Zh):Zh:=if Yu s then Jv s s.snd.apu.irq else s
def Yr (s:Zh):Zh×Int:=
 if s.nmi then (UD {s with nmi:=false} 65530,7)else if s.known&& !s.cpu.i then (UD s 65534,7)else (KH s,Qs (opS s))
def Zr2 (a:Int) (r:Zh×Int):Zh:={r.1 with T:=a+r.2,nmi:=ltI 127 r.1.ctrl&&ZiT a (a+r.2),steps:=r.1.steps+1}
def Xu (s:Zh):Zh:=Zr2 s.T (Yr (ZQ s))
structure U4 (s:Zh) (s':Zh):Prop where
 img:s'.img=s.img
 pads:s'.pads=s.pads
 T:s'.T=s.T
 nmi:s'.nmi=s.nmi
 steps:s'.steps=s.steps
 reads:s'.reads.length≤s.reads.length+1
structure ZiN (s:Zh):Prop where
 p:ZA s
 room:ZT (opS s)=2→(rgT (ZV s)).1=2→(s.pic.list.length:Int)<s.pic.cap
 room':ZT (opS s)=2→(rgT (ZV s)).1=3→(s.snd.list.length:Int)<s.snd.cap
theorem Zoe {s:Zh} (h:ZA s) (a:Int):ZA (Yg s a):=by
 have hp:=h;obtain ⟨m,ps,c,pc,sd,d,ct,t,kn,st,pt,sdt,pl,sl⟩:=h;unfold Yg;split
 ·exact ⟨m,ps,c,⟨Zod pc.ppu _,pc.ring,fun x hx=>by show (Yf s.pic.ppu _).T≤_;rw[W0];exact pc.lo x hx,pc.fr,by show _=YF (Yf s.pic.ppu _).T;rw[W0];exact pc.frn⟩,sd,d,ct,t,kn,st,by show (Yf s.pic.ppu _).T≤_;rw[W0];exact pt,sdt,pl,sl⟩
 split
 ·have sd':JL {s.snd with apu:=YW s.snd.apu (rgT a).2}:=⟨Zoa sd.apu _,sd.ring,fun x hx=>by show (YW s.snd.apu _).T≤_;rw[Ziv];exact sd.lo x hx,by show _=(YW s.snd.apu _).T/16;rw[Ziv];exact sd.sam⟩
  have sdt':(YW s.snd.apu (rgT a).2).T≤s.T:=by rw[Ziv];exact sdt
  split
  ·exact ⟨m,ps,c,pc,sd',d,ct,t,⟨t.1,Int.le_refl _⟩,st,pt,sdt',pl,sl⟩
  ·exact ⟨m,ps,c,pc,sd',d,ct,t,kn,st,pt,sdt',pl,sl⟩
 split
 ·exact ⟨m,ps,c,pc,sd,Zob d ps,ct,t,kn,st,pt,sdt,pl,sl⟩
 ·exact hp
theorem ZpG {s:Zh} (h:ZA s) (a:Int):0≤VI s a∧VI s a≤255:=by
 unfold VI;split
 ·exact ZlI h.pic.ppu _
 split
 ·exact ZlF _ _
 split
 ·exact ZlG _ _ _
 ·exact Zeo h.mem a
theorem ZkE (s:Zh) (a:Int):U4 s (Yg s a)∧(Yg s a).cpu=s.cpu∧(Yg s a).mem=s.mem:=by
 unfold Yg
 repeat' split
 all_goals exact ⟨⟨rfl,rfl,rfl,rfl,rfl,by simp⟩,rfl,rfl⟩
theorem Vm.app {cap:Int} {l:List Rc} (h:Vm cap l) {x:Rc} (hx:RcP x) (hl: ∀y,y∈l→y.1≤x.1) (hc:(l.length:Int)<cap):Vm cap (l++[x]):=
 ⟨fun y hy=>by
  rcases List.mem_append.1 hy with h1|h1
  ·exact h.rec' y h1
  ·rw[List.mem_singleton.1 h1];exact hx,
 List.pairwise_append.2 ⟨h.ord,List.pairwise_singleton _ _,fun a ha b hb=>by rw[List.mem_singleton.1 hb];exact hl a ha⟩,h.c0,h.c1,by rw[List.length_append,List.length_singleton];omega⟩
theorem ZiK {s:Zh} (h:ZA s) {a v:Int} (hv:0≤v∧v≤255) (r1:(rgT a).1=2→(s.pic.list.length:Int)<s.pic.cap) (r2:(rgT a).1=3→(s.snd.list.length:Int)<s.snd.cap):ZA (Yk s a v):=by
 have hp:=h;obtain ⟨m,ps,c,pc,sd,d,ct,t,kn,st,pt,sdt,pl,sl⟩:=h;have app: ∀{l:List Rc} {lo:Int},(∀x,x∈l→lo≤x.1)→lo≤s.T→ ∀x,x∈l++[(s.T,((rgT a).2,v))]→lo≤x.1:=fun h1 h2 x hx=>by
  rcases List.mem_append.1 hx with h3|h3
  ·exact h1 x h3
  ·rw[List.mem_singleton.1 h3];exact h2
 have app2: ∀{l:List Rc},(∀x,x∈l→x.1≤s.T)→ ∀x,x∈l++[(s.T,((rgT a).2,v))]→x.1≤s.T:=fun h1 x hx=>by
  rcases List.mem_append.1 hx with h3|h3
  ·exact h1 x h3
  ·rw[List.mem_singleton.1 h3];exact Int.le_refl _
 unfold Yk;split
 ·rename_i e;have hr:0≤(rgT a).2∧(rgT a).2≤7:=by
   rcases UT a with ⟨e',h0,h1⟩| ⟨e',h0,h1⟩| ⟨e',h0,h1⟩| ⟨e',h0⟩| ⟨e',h0,h1⟩| ⟨e',h0,h1⟩| ⟨e',h0⟩<;>omega
  refine ⟨m,ps,c,⟨pc.ppu,pc.ring.app ⟨t,hr,hv⟩ pl (r1 e),app pc.lo pt,pc.fr,pc.frn⟩,sd,d,?_,t,kn,st,pt,sdt,app2 pl,sl⟩;show 0≤(if (rgT a).2=0 then v else s.ctrl)∧(if (rgT a).2=0 then v else s.ctrl)≤255
  split
  ·exact hv
  ·exact ct
 split
 ·rename_i e;have hr:0≤(rgT a).2∧(rgT a).2≤7:=by
   rcases UT a with ⟨e',h0,h1⟩| ⟨e',h0,h1⟩| ⟨e',h0,h1⟩| ⟨e',h0⟩| ⟨e',h0,h1⟩| ⟨e',h0,h1⟩| ⟨e',h0⟩<;>omega
  have sd':JL {s.snd with list:=s.snd.list++[(s.T,((rgT a).2,v))]}:=⟨sd.apu,sd.ring.app ⟨t,hr,hv⟩ sl (r2 e),app sd.lo sdt,sd.sam⟩
  split
  ·exact ⟨m,ps,c,pc,sd',d,ct,t,⟨t.1,Int.le_refl _⟩,st,pt,sdt,pl,app2 sl⟩
  ·exact ⟨m,ps,c,pc,sd',d,ct,t,kn,st,pt,sdt,pl,app2 sl⟩
 split
 ·exact ⟨m,ps,c,pc,sd,ZlW d ps,ct,t,kn,st,pt,sdt,pl,sl⟩
 ·exact ⟨Zn4 m _ _,ps,c,pc,sd,d,ct,t,kn,st,pt,sdt,pl,sl⟩
theorem ZiL (s:Zh) (a v:Int):U4 s (Yk s a v)∧(Yk s a v).cpu=s.cpu:=by
 unfold Yk
 repeat' split
 all_goals exact ⟨⟨rfl,rfl,rfl,rfl,rfl,Nat.le_succ _⟩,rfl⟩
theorem Zlf {s:Zh} (h:ZA s) (v:Int):ZA (UD s v):=by
 obtain ⟨m,ps,c,pc,sd,d,ct,t,kn,st,pt,sdt,pl,sl⟩:=h;exact ⟨m.of_ram (Zh9 m.ram) rfl,ps,Zk6 c (ZoP _ _ _),pc,sd,d,ct,t,kn,st,pt,sdt,pl,sl⟩
theorem Zkh {s:Zh} (h:ZA s) (op arg v:Int):ZA (Znu s op arg v):=by
 obtain ⟨m,ps,c,pc,sd,d,ct,t,kn,st,pt,sdt,pl,sl⟩:=h;exact ⟨m.of_ram (Znt m.ram) (Zhl _ _ _),ps,Zns c,pc,sd,d,ct,t,kn,st,pt,sdt,pl,sl⟩
theorem U4.exec {s s':Zh} (h:U4 s s') (op arg v:Int):U4 s (Znu s' op arg v):=⟨h.img,h.pads,h.T,h.nmi,h.steps,h.reads⟩
theorem ZnT {s:Zh} (h:ZiN s):ZA (KH s)∧U4 s (KH s):=by
 unfold KH;split
 ·exact ⟨Zkh (Zoe h.p _) _ _ _,(ZkE s _).1.exec _ _ _⟩
 split
 ·rename_i e;exact ⟨Zkh (ZiK h.p (mod256 _) (h.room e) (h.room' e)) _ _ _,(ZiL s _ _).1.exec _ _ _⟩
 ·exact ⟨Zkh h.p _ _ _,⟨rfl,rfl,rfl,rfl,rfl,Nat.le_succ _⟩⟩
theorem Ze3 {s:Zh} (h:ZA s):ZA (ZQ s):=by
 unfold ZQ;split
 ·obtain ⟨m,ps,c,pc,sd,d,ct,t,kn,st,pt,sdt,pl,sl⟩:=h;exact ⟨m,ps,c,pc,sd,d,ct,t,⟨t.1,Int.le_refl _⟩,st,pt,sdt,pl,sl⟩
 ·exact h
theorem Zf5 (s:Zh):(ZQ s).img=s.img∧(ZQ s).mem=s.mem∧(ZQ s).cpu=s.cpu∧(ZQ s).pic=s.pic∧(ZQ s).snd=s.snd∧(ZQ s).T=s.T∧(ZQ s).nmi=s.nmi∧(ZQ s).steps=s.steps∧(ZQ s).reads=s.reads∧(ZQ s).pads=s.pads:=by
 unfold ZQ;split<;>exact ⟨rfl,rfl,rfl,rfl,rfl,rfl,rfl,rfl,rfl,rfl⟩
theorem Zf6 (s:Zh) (hn:s.nmi=false):((ZQ s).known&& !s.cpu.i)=JU s:=by
 unfold ZQ Yu JU;rw[hn];cases hI:s.cpu.i with
 |true=>simp
 |false=>
  cases hb:JZ s.knownAt s.T with
  |true=>simp[Jv]
  |false=>simp
theorem ZaI {s:Zh} {n:Int} (h:YU s n=0):s.T+n≤20000:=by
 unfold YU at h;split at h
 ·omega
 ·omega
theorem Zov {s:Zh} (h:ZA s) (hw:QU s=0):ZA (Xu s)∧(Xu s).steps=s.steps+1∧(Xu s).reads.length≤s.reads.length+1∧s.T< (Xu s).T∧(Xu s).T≤s.T+7∧(Xu s).img=s.img∧(Xu s).pads=s.pads:=by
 have hL:=Ze3 h;obtain ⟨e1,e2,e3,e4,e5,e6,e7,e8,e9,e10⟩:=Zf5 s;have eop:opS (ZQ s)=opS s:=by unfold opS;rw[e1,e2,e3]
 have earg:JB (ZQ s)=JB s:=by unfold JB;rw[e1,e2,e3]
 have eadr:ZV (ZQ s)=ZV s:=by unfold ZV;rw[eop,earg,e3]
 have key: ∃s' n,Yr (ZQ s)=(s',n)∧ZA s'∧2≤n∧n≤7∧s.T+n≤20000∧s'.T=s.T∧s'.steps=s.steps∧s'.reads.length≤s.reads.length+1∧s'.img=s.img∧s'.pads=s.pads:=by
  unfold QU at hw;unfold Yr;rw[e7];cases hn:s.nmi with
  |true=>
   rw[hn,Ze rfl]at hw;rw[Ze rfl];have h2:ZA {ZQ s with nmi:=false}:=⟨hL.mem,hL.pads,hL.cpu,hL.pic,hL.snd,hL.pad,hL.ctrl,hL.t,hL.known,hL.steps,hL.pt,hL.st,hL.pl,hL.sl⟩
   exact ⟨_,_,rfl,Zlf h2 _,by omega,by omega,ZaI hw,e6,e8,by show (ZQ s).reads.length≤_;rw[e9];omega,e1,e10⟩
  |false=>
   rw[hn,Zc (by simp)]at hw;rw[Zc (by simp),e3,Zf6 s hn];split at hw
   ·omega
   split at hw
   ·rename_i ha;rw[ha,Ze rfl];exact ⟨_,_,rfl,Zlf hL _,by omega,by omega,ZaI hw,e6,e8,by show (ZQ s).reads.length≤_;rw[e9];omega,e1,e10⟩
   ·rename_i ha;rw[Zc ha];split at hw
    ·omega
    split at hw
    ·omega
    split at hw
    ·omega
    rename_i h3;split at hw
    ·omega
    rename_i h4;have hc:=ZcB (opS s);have hr:ZiN (ZQ s):=⟨hL,fun a b=>by rw[eop]at a;rw[eadr]at b;rw[e4];rcases Int.lt_or_le (s.pic.list.length:Int) s.pic.cap with h5|h5;exact h5;exact absurd ⟨a,b,h5⟩ h3,
     fun a b=>by rw[eop]at a;rw[eadr]at b;rw[e5];rcases Int.lt_or_le (s.snd.list.length:Int) s.snd.cap with h5|h5;exact h5;exact absurd ⟨a,b,h5⟩ h4⟩
    obtain ⟨p,f⟩:=ZnT hr;exact ⟨_,_,rfl,p,by rw[eop];omega,by rw[eop];omega,by rw[eop];exact ZaI hw,by rw[f.T,e6],by rw[f.steps,e8],by have:=f.reads;rw[e9]at this;exact this,by rw[f.img,e1],by rw[f.pads,e10]⟩
 obtain ⟨s',n,e,p,n1,n2,n3,t1,t2,t3,t4,t5⟩:=key;unfold Xu;rw[e];have k1:=h.t;have k2:=h.steps;obtain ⟨m,ps,c,pc,sd,d,ct,t,kn,st,pt,sdt,pl,sl⟩:=p;rw[t1]at kn pt sdt pl sl;refine ⟨⟨m,ps,c,pc,sd,d,ct,⟨by show 0≤s.T+n;omega,n3⟩,⟨kn.1,by show s'.knownAt≤s.T+n;omega⟩,⟨by show 0≤s'.steps+1;omega,by show s'.steps+1≤s.T+n;omega⟩,by show (s'.pic.ppu.1:Int)≤s.T+n;omega,by show (s'.snd.apu.1:Int)≤s.T+n;omega,
  fun x hx=>by have:=pl x hx;show x.1≤s.T+n;omega,fun x hx=>by have:=sl x hx;show x.1≤s.T+n;omega⟩,?_,t3,?_,?_,t4,t5⟩
 ·show s'.steps+1=s.steps+1;rw[t2]
 ·show s.T<s.T+n;omega
 ·show s.T+n≤s.T+7;omega
def Wb (s:Zh) (who:Int):Option Zh:=
 if who=0 then (if QU s=0 then some (Xu s)else none)
 else if who=1 then (Jn s.pic s.T).map fun p=>{s with pic:=p}else if who=2 then (Jo s.snd s.T).map fun p=>{s with snd:=p}else none
theorem ZqZ {s v:Zh} {who:Int} (h:ZA s) (hs:Wb s who=some v):ZA v∧v.reads.length≤s.reads.length+1:=by
 unfold Wb at hs;split at hs
 ·split at hs
  ·rename_i hw;simp only[Zg]at hs;subst hs;obtain ⟨a,_,b,_⟩:=Zov h hw;exact ⟨a,b⟩
  ·cases hs
 split at hs
 ·cases hp:Jn s.pic s.T with
  |none=>rw[hp]at hs;cases hs
  |some p=>
   rw[hp]at hs;simp only[Option.map_some,Zg]at hs;subst hs;obtain ⟨a,b,c,d⟩:=Wq h.pic hp;have:=h.pt;obtain ⟨m,ps,cc,pc,sd,dd,ct,t,kn,st,pt,sdt,pl,sl⟩:=h;exact ⟨⟨m,ps,cc,a,sd,dd,ct,t,kn,st,by show p.ppu.T≤s.T;rcases d with d|d<;>omega,sdt,fun x hx=>pl x (c x hx),sl⟩,Nat.le_succ _⟩
 split at hs
 ·cases hp:Jo s.snd s.T with
  |none=>rw[hp]at hs;cases hs
  |some p=>
   rw[hp]at hs;simp only[Option.map_some,Zg]at hs;subst hs;obtain ⟨a,b,c,d⟩:=Wr h.snd hp;have:=h.st;obtain ⟨m,ps,cc,pc,sd,dd,ct,t,kn,st,pt,sdt,pl,sl⟩:=h;exact ⟨⟨m,ps,cc,pc,a,dd,ct,t,kn,st,pt,by show p.apu.T≤s.T;rcases d with d|d<;>omega,pl,fun x hx=>sl x (c x hx)⟩,Nat.le_succ _⟩
 ·cases hs
def ZW (s:Zh):Zh:={s with pic:=Xj s.pic s.T,snd:=Xk s.snd s.T}
theorem Zdy {s:Zh} (h:ZA s):ZA (ZW s)∧Jn (ZW s).pic s.T=none∧Jo (ZW s).snd s.T=none:=by
 have a:=Zde (m:=s.T) (Q:=fun w=>w.ppu.T≤s.T∧ ∀x,x∈w.list→x.1≤s.T) (fun w v hw hq hs=>by
  obtain ⟨a,b,c,d⟩:=Wq hw hs;exact ⟨by have:=hq.1;rcases d with d|d<;>omega,fun x hx=>hq.2 x (c x hx)⟩) _ (Nat.le_refl _) h.pic ⟨h.pt,h.pl⟩
 have b:=Zdf (m:=s.T) (Q:=fun w=>w.apu.T≤s.T∧ ∀x,x∈w.list→x.1≤s.T) (fun w v hw hq hs=>by
  obtain ⟨a,b,c,d⟩:=Wr hw hs;exact ⟨by have:=hq.1;rcases d with d|d<;>omega,fun x hx=>hq.2 x (c x hx)⟩) _ (Nat.le_refl _) h.snd ⟨h.st,h.sl⟩
 obtain ⟨m,ps,cc,pc,sd,dd,ct,t,kn,st,pt,sdt,pl,sl⟩:=h;exact ⟨⟨m,ps,cc,a.1,b.1,dd,ct,t,kn,st,a.2.1.1,b.2.1.1,a.2.1.2,b.2.1.2⟩,a.2.2,b.2.2⟩

end Go.Proofs.YtcbdldlphpjmbaaGreatDoor.Plain
