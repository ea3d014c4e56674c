/- Plain laws of the printed functions: Exec, UnitM, LockM, SplitM. No condition beyond those that each lemma states. -/
import Derived.Test.YtleidaafbhojfaaGreatDoorPA
set_option linter.unusedVariables false
set_option linter.unusedSimpArgs false
namespace Go.Proofs.YtleidaafbhojfaaGreatDoor.Plain
open Go Go.Tev
theorem Zd7 (b:BitVec 64):BitVec.ofInt 64 (IntKind.i64.wrap (b.toNat:Int))=b:=by
 rw[IntKind.wrap_i64]
 apply BitVec.eq_of_toNat_eq
 rw[ZaJ]
 have h:=b.isLt
 omega
theorem Zjr (x y:Int):BitVec.ofInt 64 (bOr .i64 x y)=BitVec.ofInt 64 x|||BitVec.ofInt 64 y:=Zd7 (BitVec.ofInt 64 x|||BitVec.ofInt 64 y)
theorem Zhj (x y:Int):BitVec.ofInt 64 (Yh .i64 x y)=BitVec.ofInt 64 x^^^BitVec.ofInt 64 y:=Zd7 (BitVec.ofInt 64 x^^^BitVec.ofInt 64 y)
theorem WX (x y:Int):BitVec.ofInt 64 (ZD .i64 x y)=BitVec.ofInt 64 x&&&BitVec.ofInt 64 y:=Zd7 (BitVec.ofInt 64 x&&&BitVec.ofInt 64 y)
theorem Zd6 {x y:Int} (h:BitVec.ofInt 64 x&&&BitVec.ofInt 64 255=BitVec.ofInt 64 y&&&BitVec.ofInt 64 255):x%256=y%256:=by
 rw[←Kn x,←Kn y]
 show IntKind.i64.wrap (BitVec.ofInt 64 x&&&BitVec.ofInt 64 255).toNat=IntKind.i64.wrap (BitVec.ofInt 64 y&&&BitVec.ofInt 64 255).toNat
 rw[h]
theorem ZmU (a b:Int):ZD .i64 (a%256) (b%256)%256=ZD .i64 a b%256:=by
 apply Zd6
 rw[WX,WX,←Kn a,←Kn b,WX,WX]
 ext i
 simp only[BitVec.getElem_and]
 cases (BitVec.ofInt 64 a)[i]<;>cases (BitVec.ofInt 64 b)[i]<;>cases (BitVec.ofInt 64 255)[i]<;>rfl
theorem ZoZ (a b:Int):bOr .i64 (a%256) (b%256)%256=bOr .i64 a b%256:=by
 apply Zd6
 rw[Zjr,Zjr,←Kn a,←Kn b,WX,WX]
 ext i
 simp only[BitVec.getElem_and,BitVec.getElem_or]
 cases (BitVec.ofInt 64 a)[i]<;>cases (BitVec.ofInt 64 b)[i]<;>cases (BitVec.ofInt 64 255)[i]<;>rfl
theorem ZmV (a b:Int):Yh .i64 (a%256) (b%256)%256=Yh .i64 a b%256:=by
 apply Zd6
 rw[Zhj,Zhj,←Kn a,←Kn b,WX,WX]
 ext i
 simp only[BitVec.getElem_and,BitVec.getElem_xor]
 cases (BitVec.ofInt 64 a)[i]<;>cases (BitVec.ofInt 64 b)[i]<;>cases (BitVec.ofInt 64 255)[i]<;>rfl
theorem Zqj {a b:Int} (ha:0≤a∧a≤63) (hb:0≤b∧b≤63):0≤Yh .i64 a b∧Yh .i64 a b≤63:=by
 have e1:(BitVec.ofInt 64 a).toNat=a.toNat:=by rw[ZaJ,Int.emod_eq_of_lt (by omega) (by omega)]
 have e2:(BitVec.ofInt 64 b).toNat=b.toNat:=by rw[ZaJ,Int.emod_eq_of_lt (by omega) (by omega)]
 have e3:(BitVec.ofInt 64 a^^^BitVec.ofInt 64 b).toNat<2^6:=by
  rw[BitVec.toNat_xor,e1,e2]
  exact Nat.xor_lt_two_pow (by omega) (by omega)
 have:Yh .i64 a b=((BitVec.ofInt 64 a^^^BitVec.ofInt 64 b).toNat:Int):=by
  show wI ((BitVec.ofInt 64 a^^^BitVec.ofInt 64 b).toNat:Int)=_
  exact Zj (by omega) (by omega)
 rw[this]
 omega
def Wq (c:Zk) (p:Int):Zk:={c with pc:=p}
def ZrW (c:Zk) (b:Bool):Zk:={c with c:=b}
def Zr9 (c:Zk) (b:Bool):Zk:={c with i:=b}
def Zr4 (c:Zk) (b:Int):Zk:=ZrW (YD c (KU c.a b c.c%256)) (ltI 255 (KU c.a b c.c))
def ZsY (c:Zk) (b:Int):Zk:=ZrW (YD c (YX c.a b c.c%256)) (leI 0 (YX c.a b c.c))
def Zrv (c:Zk) (b:Int):Zk:={c with z:=eqI ((c.a%256-b%256)%256) 0,n:=ltI 127 ((c.a%256-b%256)%256),c:=leI (b%256) (c.a%256)}
def KH (c:Zk) (op arg v:Int):Zk:=
 if op=1 then YD c arg else if op=2∨op=14 then YD c v else if op=4 then Zr4 c arg else if op=29 then Zr4 c v else if op=5 then ZsY c arg
 else if op=6 then YD c (ZD .i64 c.a arg)else if op=7 then YD c (bOr .i64 c.a arg)else if op=8 then YD c (Yh .i64 c.a arg)else if op=9 then Zrv c arg else c
def K3 (op:Int):Bool:=decide (op=1∨op=2∨op=14∨op=4∨op=29∨op=5∨op=6∨op=7∨op=8∨op=9)
def UQ (c:Zk) (op:Int):Zk:=
 if op=10 then VJ c c.a else if op=11 then YD c c.x else if op=12 then VJ c (c.x+1)else if op=13 then VJ c (c.x-1)
 else if op=25 then Zr9 c true else if op=26 then Zr9 c false else if op=27 then ZrW c true else if op=28 then ZrW c false else c
def Zg8 (op:Int):Bool:=decide (op=10∨op=11∨op=12∨op=13∨op=25∨op=26∨op=27∨op=28)
def ZmW (x:Zv) (c:Zk):Zk:=Wq (Yp (Yp c)) (Kw (Yb x c) (Yb x (Yp c)))
def shr8 (p:Int):Int:=p.fdiv 256
def UI (x:Zv) (c:Zk):Zv:=Kb (Kb x c (shr8 c.pc)) (Ka c) c.pc
def Wk (c:Zk):Zk:=Ka (Ka c)
def K0 (x:Zv) (c:Zk) (op:Int):Zv:=if op=20 then UI x c else if op=22 then Kb x c c.a else x
def WM (x:Zv) (c:Zk) (op arg:Int):Zk:=
 if op=16 then (if c.z then c else Wq c (arg%65536))else if op=17 then (if c.z then Wq c (arg%65536)else c)else if op=18 then (if c.c then Wq c (arg%65536)else c)
 else if op=19 then Wq c (arg%65536)else if op=20 then Wq (Wk c) (arg%65536)else if op=21 then ZmW x c else if op=22 then Ka c else if op=23 then YD (Yp c) (Yb x c)
 else if op=24 then ZmW x (wfT (Yp c) (Yb x c))else c
def Jb (c:Zk) (op:Int):Zk:=Wq c ((c.pc+Q1 op)%65536)
def V7 (x:Zv) (c:Zk) (op:Int):Zv:=K0 x (Jb c op) op
def WK (x:Zv) (c:Zk) (op arg v:Int):Zk:=
 if K3 op then KH (Jb c op) op arg v else if Zg8 op then UQ (Jb c op) op else WM x (Jb c op) op arg
theorem Zf8 {c:Zk} {p:Int} (h:ZE c) (hp:0≤p∧p≤65535):ZE (Wq c p):=⟨h.a,h.x,h.s,hp⟩
theorem Zqa {c:Zk} {b:Bool} (h:ZE c):ZE (ZrW c b):=⟨h.a,h.x,h.s,h.pc⟩
theorem Zqb {c:Zk} {b:Bool} (h:ZE c):ZE (Zr9 c b):=⟨h.a,h.x,h.s,h.pc⟩
theorem mod65536 (x:Int):0≤x%65536∧x%65536≤65535:=by omega
theorem Zke (a b:Int):0≤Kw a b∧Kw a b≤65535:=by unfold Kw;omega
theorem ZmX {x:Zv} {c:Zk} (h:ZE c):ZE (ZmW x c):=Zf8 (W0 (W0 h)) (Zke _ _)
theorem Zdq {c:Zk} (h:ZE c):ZE (Wk c):=UG (UG h)
theorem Zdr {x:Zv} {c:Zk} (h:JJ x):JJ (UI x c):=UH (UH h _ _) _ _
theorem Zod {c:Zk} {op arg v:Int} (h:ZE c):ZE (KH c op arg v):=by
 unfold KH Zr4 ZsY
 repeat' split
 all_goals first|exact Zir h|exact Zqa (Zir h)|exact h|exact ⟨h.a,h.x,h.s,h.pc⟩
theorem Zrh {c:Zk} {op:Int} (h:ZE c):ZE (UQ c op):=by
 unfold UQ
 repeat' split
 all_goals first|exact Zq5 h|exact Zir h|exact Zqb h|exact Zqa h|exact h
theorem ZqF {x:Zv} {c:Zk} {op:Int} (h:JJ x):JJ (K0 x c op):=by
 unfold K0
 repeat' split
 all_goals first|exact Zdr h|exact UH h _ _|exact h
theorem ZqE {x:Zv} {c:Zk} {op arg:Int} (h:ZE c):ZE (WM x c op arg):=by
 unfold WM
 repeat' split
 all_goals first|exact h|exact Zf8 h (mod65536 _)|exact Zf8 (Zdq h) (mod65536 _)|exact ZmX h|exact UG h|exact Zir (W0 h)|exact ZmX (Zrm (W0 h))
theorem ZdH {c:Zk} {op:Int} (h:ZE c):ZE (Jb c op):=Zf8 h (mod65536 _)
theorem Znr {x:Zv} {c:Zk} {op:Int} (h:JJ x):JJ (V7 x c op):=ZqF h
theorem Znq {x:Zv} {c:Zk} {op arg v:Int} (h:ZE c):ZE (WK x c op arg v):=by
 unfold WK
 repeat' split
 all_goals first|exact Zod (ZdH h)|exact Zrh (ZdH h)|exact ZqE (ZdH h)
theorem ZgZ (x:Zv) (c:Zk) (op:Int):(V7 x c op).bank=x.bank:=by
 unfold V7 K0 UI
 repeat' split
 all_goals rfl
theorem JD.of_ram {f:List (List Int)} {x y:Zv} (h:JD f x) (hy:JJ y) (hb:y.bank=x.bank):JD f y:=⟨h.img,hy,by rw[hb];exact h.b0,by rw[hb];exact h.b1⟩
def XK (x:Zv) (c:Zk):Zv:=Kb (UI x c) (Wk c) (Up c)
def ZiT (c:Zk) (to:Int):Zk:=Wq (Zr9 (Ka (Wk c)) true) to
theorem ZhU {x:Zv} {c:Zk} (h:JJ x):JJ (XK x c):=UH (Zdr h) _ _
theorem ZkZ {c:Zk} {to:Int} (h:ZE c) (ht:0≤to∧to≤65535):ZE (ZiT c to):=Zf8 (Zqb (UG (Zdq h))) ht
def opT (f:List (List Int)) (x:Zv) (pc:Int):Int:=ZI f x pc
def V0 (f:List (List Int)) (x:Zv) (pc:Int):Int:=
 if Q1 (ZI f x pc)=2 then ZI f x (pc+1)else if Q1 (ZI f x pc)=3 then Kw (ZI f x (pc+1)) (ZI f x (pc+2))else 0
theorem Zpz (n:Int):1≤Q1 n∧Q1 n≤3:=by
 unfold Q1
 split
 ·rename_i h
  rcases XX h with rfl|rfl|rfl|rfl|rfl|rfl|rfl|rfl|rfl|rfl|rfl|rfl|rfl|rfl|rfl|rfl|rfl|rfl|rfl|rfl|rfl|rfl|rfl|rfl|rfl|rfl|rfl|rfl|rfl|rfl<;>decide
 ·decide
theorem UD (n:Int):2≤Qm n∧Qm n≤6:=by
 unfold Qm
 split
 ·rename_i h
  rcases XX h with rfl|rfl|rfl|rfl|rfl|rfl|rfl|rfl|rfl|rfl|rfl|rfl|rfl|rfl|rfl|rfl|rfl|rfl|rfl|rfl|rfl|rfl|rfl|rfl|rfl|rfl|rfl|rfl|rfl|rfl<;>decide
 ·decide
theorem ZmS {f:List (List Int)} {x:Zv} (h:JD f x) (pc:Int):0≤V0 f x pc∧V0 f x pc≤65535:=by
 unfold V0
 split
 ·have:=Zd8 h (pc+1);omega
 split
 ·exact Zke _ _
 ·decide
def QQ (op arg x:Int):Int:=if ZG op=0 then 0 else if op=14∨op=15 then (arg+x)%65536 else arg%65536
def YQ (op a:Int):Int:=if ZG op=2 then a%256 else 0
def Zrn (l:List Int):Prop:= ∀n,n∈l→0≤n∧n≤63
structure JI (p:ZJ):Prop where
 t:0≤p.T∧p.T≤20000
 ctrl:0≤p.ctrl∧p.ctrl≤255
 scroll:0≤p.scroll∧p.scroll≤255
 addr:0≤p.addr∧p.addr≤15
 pal:0≤p.pal∧p.pal≤63
 len:p.table.length=16
 table:Zrn p.table
 dots:(p.dots.length:Int)=if 48<p.T%64 then 0 else p.T%64
 cols:Zrn p.dots
theorem WZ {p:ZJ}:YL p.t=true↔JI p:=by
 unfold YL Zju ZfW ZJ.t
 simp only[Bool.and_eq_true,JS,Zc3,Xk]
 constructor
 ·rintro ⟨⟨a,b,c,d,e⟩,f,g,h,i⟩
  refine ⟨a,b,c,d,e,by omega,g,?_,i⟩
  rw[h,WI,Qt a.1]
 ·rintro ⟨a,b,c,d,e,f,g,h,i⟩
  refine ⟨⟨a,b,c,d,e⟩,by omega,g,?_,i⟩
  rw[h,WI,Qt a.1]
theorem JI.s {p:ZJ} (h:JI p):K9 p.t:=by
 have h1:=h.len
 have h2:=h.dots
 refine ⟨by show p.table.length≤_;omega,?_⟩
 show p.dots.length≤_
 split at h2<;>omega
def V5 (p:ZJ) (at':Int):Int:=Yh .i64 (rdE .i p.table ((at'%8+p.scroll+at'/8)%16)) p.pal
theorem Zpb {p:ZJ} (h:JI p) (a:Int):0≤V5 p a∧V5 p a≤63:=
 Zqj (h.table _ (Xc (e:= .i) (by omega) (by rw[h.len];omega))) h.pal
def QX (p:ZJ):ZJ:=
 if p.T%64<48 then {p with T:=p.T+1,dots:=p.dots++[V5 p (p.T%64)]}
 else if p.T%64=48 then {p with T:=p.T+1,blank:=true,dots:=[]}
 else if p.T%64=63 then {p with T:=p.T+1,blank:=false}
 else {p with T:=p.T+1}
def Js (p:ZJ):Bool:=decide (p.T%64=48)
def JZ (p:ZJ):List Int:=if p.T%64=48 then p.dots else []
def Km (p:ZJ):Bool:=decide (p.T%64=48)&&ltI 127 p.ctrl
theorem Wv (p:ZJ):(QX p).T=p.T+1:=by
 unfold QX
 repeat' split
 all_goals rfl
theorem ZoC {p:ZJ} (h:JI p) (ht:p.T<20000):JI (QX p):=by
 obtain ⟨a,b,c,d,e,f,g,hd,i⟩:=h
 have hp:JI p:=⟨a,b,c,d,e,f,g,hd,i⟩
 unfold QX
 split
 ·rename_i h1
  refine ⟨⟨by show 0≤p.T+1;omega,by show p.T+1≤20000;omega⟩,b,c,d,e,f,g,?_,fun n hn=> ?_⟩
  ·show ((p.dots++[V5 p (p.T%64)]).length:Int)=if 48< (p.T+1)%64 then 0 else (p.T+1)%64
   rw[List.length_append,List.length_singleton]
   rw[if_neg (by omega)]at hd
   rw[if_neg (by omega)]
   omega
  ·rcases List.mem_append.1 hn with h2|h2
   ·exact i n h2
   ·rw[List.mem_singleton.1 h2];exact Zpb hp _
 split
 ·rename_i h1 h2
  refine ⟨⟨by show 0≤p.T+1;omega,by show p.T+1≤20000;omega⟩,b,c,d,e,f,g,?_,fun n hn=>by cases hn⟩
  show (0:Int)=if 48< (p.T+1)%64 then 0 else (p.T+1)%64
  rw[if_pos (by omega)]
 split
 ·rename_i h1 h2 h3
  refine ⟨⟨by show 0≤p.T+1;omega,by show p.T+1≤20000;omega⟩,b,c,d,e,f,g,?_,i⟩
  show (p.dots.length:Int)=if 48< (p.T+1)%64 then 0 else (p.T+1)%64
  rw[if_pos (by omega)]at hd
  split<;>omega
 ·rename_i h1 h2 h3
  refine ⟨⟨by show 0≤p.T+1;omega,by show p.T+1≤20000;omega⟩,b,c,d,e,f,g,?_,i⟩
  show (p.dots.length:Int)=if 48< (p.T+1)%64 then 0 else (p.T+1)%64
  rw[if_pos (by omega)]at hd
  rw[if_pos (by omega)]
  exact hd
theorem Zg2 {p:ZJ} (h:JI p) (ht:Js p=true):(JZ p).length=48:=by
 have h1:p.T%64=48:=by simpa [Js] using ht
 have hd:=h.dots
 unfold JZ
 rw[if_pos h1]
 rw[if_neg (by omega),h1]at hd
 omega
def Je (p:ZJ) (reg v:Int):ZJ:=
 if reg=0 then {p with ctrl:=v%256}else if reg=1 then {p with scroll:=v%256}else if reg=3 then {p with addr:=(v%256)%16}
 else if reg=4 then {p with addr:=(p.addr+1)%16,table:=p.table.set p.addr.toNat ((v%256)%64)}
 else if reg=5 then {p with pal:=(v%256)%64}else p
theorem Zrn.set {l:List Int} (h:Zrn l) (i:Nat) {v:Int} (hv:0≤v∧v≤63):Zrn (l.set i v):=fun n hn=>by
 rcases List.mem_or_eq_of_mem_set hn with h1|h1
 ·exact h n h1
 ·rw[h1];exact hv
theorem ZlM {p:ZJ} (h:JI p) (reg v:Int):JI (Je p reg v):=by
 have hp:=h
 obtain ⟨a,b,c,d,e,f,g,hd,i⟩:=h
 unfold Je
 split
 ·exact ⟨a,mod256 v,c,d,e,f,g,hd,i⟩
 split
 ·exact ⟨a,b,mod256 v,d,e,f,g,hd,i⟩
 split
 ·exact ⟨a,b,c,by show 0≤(v%256)%16∧(v%256)%16≤15;omega,e,f,g,hd,i⟩
 split
 ·exact ⟨a,b,c,by show 0≤(p.addr+1)%16∧(p.addr+1)%16≤15;omega,e,by show (p.table.set _ _).length=16;rw[List.length_set];exact f,g.set _ (by omega),hd,i⟩
 split
 ·exact ⟨a,b,c,d,by show 0≤(v%256)%64∧(v%256)%64≤63;omega,f,g,hd,i⟩
 ·exact hp
theorem Wy (p:ZJ) (reg v:Int):(Je p reg v).T=p.T:=by
 unfold Je
 repeat' split
 all_goals rfl
def Jq (p:ZJ) (reg:Int):ZJ:=if reg=2 then {p with blank:=false}else if reg=4 then {p with addr:=(p.addr+1)%16}else p
def Kc (p:ZJ) (reg:Int):Int:=if reg=2 then 128*QR p.blank else if reg=4 then rdE .i p.table p.addr else 0
theorem Zob {p:ZJ} (h:JI p) (reg:Int):JI (Jq p reg):=by
 have hp:=h
 obtain ⟨a,b,c,d,e,f,g,hd,i⟩:=h
 unfold Jq
 split
 ·exact ⟨a,b,c,d,e,f,g,hd,i⟩
 split
 ·exact ⟨a,b,c,by show 0≤(p.addr+1)%16∧(p.addr+1)%16≤15;omega,e,f,g,hd,i⟩
 ·exact hp
theorem Wn (p:ZJ) (reg:Int):(Jq p reg).T=p.T:=by
 unfold Jq
 repeat' split
 all_goals rfl
theorem Zlx {p:ZJ} (h:JI p) (reg:Int):0≤Kc p reg∧Kc p reg≤255:=by
 unfold Kc
 split
 ·have:=XL p.blank;omega
 split
 ·have:=h.table _ (Xc (e:= .i) (l:=p.table) h.addr.1 (by have:=h.addr.2;rw[h.len];omega));omega
 ·decide
structure Yf (a:Qj):Prop where
 t:0≤a.T∧a.T≤20000
 period:0≤a.period∧a.period≤255
 count:0≤a.count∧a.count≤255
 bit:0≤a.bit∧a.bit≤1
 len:0≤a.len∧a.len≤31
theorem WB {a:Qj}:Y3 a.t=true↔Yf a:=by
 unfold Y3 Qj.t
 simp only[Bool.and_eq_true,JS]
 constructor
 ·rintro ⟨a,b,c,d,e⟩;exact ⟨a,b,c,d,e⟩
 ·rintro ⟨a,b,c,d,e⟩;exact ⟨a,b,c,d,e⟩
def KY (a:Qj):Qj:=
 if a.count=0 then (if 0<a.len then {a with count:=a.period,bit:=1-a.bit}else {a with count:=a.period})else {a with count:=a.count-1}
def V2 (a:Qj):Qj:=
 if a.T%32=0∧0<a.len then {a with len:=a.len-1,irq:=a.irq|| (eqI (a.len-1) 0&&a.asks)}else a
def KL (a:Qj):Qj:={V2 (KY a)with T:=a.T+1}
def Yd (a:Qj):Bool:=eqI (a.T%16) 15
def KJ (a:Qj):Int:=if a.T%16=15∧(V2 (KY a)).len≠0 then 8*(V2 (KY a)).bit else 0
theorem Zo9 {a:Qj} (h:Yf a):Yf (KY a):=by
 have hp:=h
 obtain ⟨t,p,c,b,l⟩:=h
 unfold KY
 split
 ·split
  ·exact ⟨t,p,p,by show 0≤1-a.bit∧1-a.bit≤1;omega,l⟩
  ·exact ⟨t,p,p,b,l⟩
 ·exact ⟨t,p,by show 0≤a.count-1∧a.count-1≤255;omega,b,l⟩
theorem Zqk {a:Qj} (h:Yf a):Yf (V2 a):=by
 have hp:=h
 obtain ⟨t,p,c,b,l⟩:=h
 unfold V2
 split
 ·rename_i h1
  exact ⟨t,p,c,b,by show 0≤a.len-1∧a.len-1≤31;omega⟩
 ·exact hp
theorem Zow {a:Qj} (h:Yf a) (ht:a.T<20000):Yf (KL a):=by
 obtain ⟨t,p,c,b,l⟩:=Zqk (Zo9 h)
 have:=h.t
 exact ⟨⟨by show 0≤a.T+1;omega,by show a.T+1≤20000;omega⟩,p,c,b,l⟩
def J3 (a:Qj) (reg v:Int):Qj:=
 if reg=0 then {a with period:=v%256}else if reg=1 then {a with len:=(v%256)%32}
 else if reg=2 then {a with asks:=eqI ((v%256)%2) 1,irq:=a.irq&&eqI ((v%256)%2) 1}
 else if reg=3 then {a with irq:=false}else a
theorem ZlK {a:Qj} (h:Yf a) (reg v:Int):Yf (J3 a reg v):=by
 have hp:=h
 obtain ⟨t,p,c,b,l⟩:=h
 unfold J3
 split
 ·exact ⟨t,mod256 v,c,b,l⟩
 split
 ·exact ⟨t,p,c,b,by show 0≤(v%256)%32∧(v%256)%32≤31;omega⟩
 split
 ·exact ⟨t,p,c,b,l⟩
 split
 ·exact ⟨t,p,c,b,l⟩
 ·exact hp
theorem ZdP (a:Qj) (reg v:Int):(J3 a reg v).T=a.T:=by
 unfold J3
 repeat' split
 all_goals rfl
def JM (a:Qj) (reg:Int):Qj:=if reg=2 then {a with irq:=false}else a
def YV (a:Qj) (reg:Int):Int:=if reg=2 then 128*QR a.irq+QR (ltI 0 a.len)else 0
theorem Zn8 {a:Qj} (h:Yf a) (reg:Int):Yf (JM a reg):=by
 have hp:=h
 obtain ⟨t,p,c,b,l⟩:=h
 unfold JM
 split
 ·exact ⟨t,p,c,b,l⟩
 ·exact hp
theorem ZfZ (a:Qj) (reg:Int):(JM a reg).T=a.T:=by
 unfold JM
 split<;>rfl
theorem Zlu (a:Qj) (reg:Int):0≤YV a reg∧YV a reg≤255:=by
 unfold YV
 split
 ·have:=XL a.irq
  have:=XL (ltI 0 a.len)
  omega
 ·decide
structure J4 (l:List Int):Prop where
 len:l.length≤20
 bytes:QM l
theorem ZaC {l:List Int}:XY l=true↔J4 l:=by
 unfold XY
 rw[Bool.and_eq_true,WT,Zc3]
 exact ⟨fun ⟨a,b⟩=>⟨by omega,b⟩,fun ⟨a,b⟩=>⟨by omega,b⟩⟩
def Xq (l:List Int) (t:Int):Int:=if l.length=0 then 0 else rdE .i l ((t/64)% (l.length:Int))
theorem ZnX {l:List Int} (h:J4 l) (t:Int):0≤Xq l t∧Xq l t≤255:=by
 unfold Xq
 split
 ·decide
 ·exact h.bytes _ (Xc (e:= .i) (Int.emod_nonneg _ (by omega)) (Int.emod_lt_of_pos _ (by omega)))
def Ua (x:Yx) (l:List Int) (t v:Int):Yx:={held:=eqI (v%2) 1,shift:=if eqI (v%2) 1||x.held then Xq l t else x.shift}
def W3 (x:Yx) (l:List Int) (t:Int):Yx:=if x.held then {held:=true,shift:=Xq l t}else {held:=false,shift:=x.shift/2}
def Va (x:Yx) (l:List Int) (t:Int):Int:=if x.held then Xq l t%2 else x.shift%2
def Wz (x:Yx):Prop:=0≤x.shift∧x.shift≤255
theorem ZlL {x:Yx} {l:List Int} {t v:Int} (h:Wz x) (hl:J4 l):Wz (Ua x l t v):=by
 unfold Ua Wz
 simp only
 split
 ·exact ZnX hl t
 ·exact h
theorem Zn9 {x:Yx} {l:List Int} {t:Int} (h:Wz x) (hl:J4 l):Wz (W3 x l t):=by
 unfold W3
 split
 ·exact ZnX hl t
 ·unfold Wz at h⊢
  show 0≤x.shift/2∧x.shift/2≤255
  omega
theorem Zlv (x:Yx) (l:List Int) (t:Int):0≤Va x l t∧Va x l t≤255:=by
 unfold Va
 split<;>omega
structure Zm where
 img:List (List Int)
 pads:List Int
 mem:Zv
 cpu:Zk
 ppu:ZJ
 apu:Qj
 pad:Yx
 nmi:Bool
 steps:Int
 frames:List (List Int)
 samples:List Int
 reads:List Int
def Zm.t (l:Zm):Tup Y8:=(l.img,(l.pads,(l.mem.ram,(l.mem.bank,(l.cpu.a,(l.cpu.x,(l.cpu.s,(l.cpu.pc,(l.cpu.z,(l.cpu.n,(l.cpu.c,(l.cpu.i,
 (l.ppu.T,(l.ppu.ctrl,(l.ppu.scroll,(l.ppu.addr,(l.ppu.pal,(l.ppu.blank,(l.ppu.table,(l.ppu.dots,
 (l.apu.T,(l.apu.period,(l.apu.count,(l.apu.bit,(l.apu.len,(l.apu.asks,(l.apu.irq,(l.pad.held,(l.pad.shift,(l.nmi,(l.steps,(l.frames,(l.samples,(l.reads,()))))))))))))))))))))))))))))))))))
def lkM (a:Tup Y8):Zm:=⟨Zst a,ZrP a,ZsU (JK a),Zr6 (KB a),ZsW (YT a),ZsM (Uy a),ZsV (Xl a),a.2.2.2.2.2.2.2.2.2.2.2.2.2.2.2.2.2.2.2.2.2.2.2.2.2.2.2.2.2.1,a.2.2.2.2.2.2.2.2.2.2.2.2.2.2.2.2.2.2.2.2.2.2.2.2.2.2.2.2.2.2.1,
 (J0 a).1,(J0 a).2.1,(J0 a).2.2.1⟩
def YA (t:Int):Int:=(t+15)/64
structure Z5 (l:Zm):Prop where
 mem:JD l.img l.mem
 pads:J4 l.pads
 cpu:ZE l.cpu
 ppu:JI l.ppu
 apu:Yf l.apu
 pad:Wz l.pad
 t:l.apu.T=l.ppu.T
 s0:0≤l.steps
 s1:l.steps≤l.ppu.T
 fr: ∀f,f∈l.frames→f.length=48
 frn:(l.frames.length:Int)=YA l.ppu.T
 sam:(l.samples.length:Int)=l.ppu.T/16
theorem ZaL {f:List (List Int)} {t:Int} (ht:0≤t):XN f t=true↔(∀l,l∈f→l.length=48)∧(f.length:Int)=YA t:=by
 unfold XN YA
 rw[Bool.and_eq_true,List.all_eq_true,Xk,Int.tdiv_eq_ediv_of_nonneg (by omega)]
 constructor
 ·rintro ⟨a,b⟩;exact ⟨fun l hl=>by have:=Xk.1 (a l hl);omega,b⟩
 ·rintro ⟨a,b⟩;exact ⟨fun l hl=>Xk.2 (by have:=a l hl;omega),b⟩
theorem ZaA {s:List Int} {t:Int} (ht:0≤t):W7 s t=true↔(s.length:Int)=t/16:=by
 unfold W7
 rw[Xk,Int.tdiv_eq_ediv_of_nonneg ht]
theorem Zm4: ∀{f:List (List Int)},(∀l,l∈f→l.length=48)→UY f=48*f.length
 | [],_=>rfl
 |x::f,h=>by
  simp only[UY,List.length_cons]
  rw[Zm4 fun l hl=>h l (List.mem_cons_of_mem _ hl),h x List.mem_cons_self]
  omega
theorem ZeB {f:List (List Int)} (h: ∀l,l∈f→l.length=48) (hn:f.length≤1048576):small f:=
 ⟨by omega,fun l hl=>by have:=h l hl;omega,by rw[Zm4 h];omega⟩
theorem Z5.s {l:Zm} (h:Z5 l) (hr:l.reads.length≤4398046511104):YJ l.t:=by
 have h1:=h.ppu.t
 have h2:=h.frn
 have h3:=h.sam
 have h4:=h.mem.ram.len
 have h5:=h.pads.len
 unfold YA at h2
 exact ⟨h.mem.img.small,by show l.pads.length≤_;omega,by show l.mem.1.length≤_;omega,h.ppu.s,ZeB (f:=l.frames) h.fr (by omega),by show l.samples.length≤_;omega,hr⟩
def Jp (l:Zm) (a:Int):Zm:=
 if (rgT a).1=2 then {l with ppu:=Jq l.ppu (rgT a).2,reads:=l.reads++[Kc l.ppu (rgT a).2]}
 else if (rgT a).1=3 then {l with apu:=JM l.apu (rgT a).2,reads:=l.reads++[YV l.apu (rgT a).2]}
 else if (rgT a).1=4 then {l with pad:=W3 l.pad l.pads l.ppu.T,reads:=l.reads++[Va l.pad l.pads l.ppu.T]}
 else l
def KG (l:Zm) (a:Int):Int:=
 if (rgT a).1=2 then Kc l.ppu (rgT a).2 else if (rgT a).1=3 then YV l.apu (rgT a).2 else if (rgT a).1=4 then Va l.pad l.pads l.ppu.T else ZI l.img l.mem a
def Jt (l:Zm) (a v:Int):Zm:=
 if (rgT a).1=2 then {l with ppu:=Je l.ppu (rgT a).2 v}else if (rgT a).1=3 then {l with apu:=J3 l.apu (rgT a).2 v}
 else if (rgT a).1=4 then {l with pad:=Ua l.pad l.pads l.ppu.T v}else {l with mem:=KF l.img l.mem a v}
theorem Zoa {l:Zm} (h:Z5 l) (a:Int):Z5 (Jp l a):=by
 have hp:=h
 obtain ⟨m,ps,c,p,u,d,t,s0,s1,f,fn,sm⟩:=h
 unfold Jp
 split
 ·exact ⟨m,ps,c,Zob p _,u,d,t.trans (Wn _ _).symm,s0,by rw[show ((Jq l.ppu (rgT a).2).T:Int)=l.ppu.T from Wn _ _];exact s1,f,by show _=YA (Jq l.ppu (rgT a).2).T;rw[Wn];exact fn,by show _=((Jq l.ppu (rgT a).2).T:Int)/16;rw[Wn];exact sm⟩
 split
 ·exact ⟨m,ps,c,p,Zn8 u _,d,(ZfZ _ _).trans t,s0,s1,f,fn,sm⟩
 split
 ·exact ⟨m,ps,c,p,u,Zn9 d ps,t,s0,s1,f,fn,sm⟩
 ·exact hp
theorem Zlw {l:Zm} (h:Z5 l) (a:Int):0≤KG l a∧KG l a≤255:=by
 unfold KG
 split
 ·exact Zlx h.ppu _
 split
 ·exact Zlu _ _
 split
 ·exact Zlv _ _ _
 ·exact Zd8 h.mem a
theorem ZiC {l:Zm} (h:Z5 l) (a v:Int):Z5 (Jt l a v):=by
 have hp:=h
 obtain ⟨m,ps,c,p,u,d,t,s0,s1,f,fn,sm⟩:=h
 unfold Jt
 split
 ·exact ⟨m,ps,c,ZlM p _ _,u,d,t.trans (Wy _ _ _).symm,s0,by rw[show ((Je l.ppu (rgT a).2 v).T:Int)=l.ppu.T from Wy _ _ _];exact s1,f,by show _=YA (Je l.ppu (rgT a).2 v).T;rw[Wy];exact fn,by show _=((Je l.ppu (rgT a).2 v).T:Int)/16;rw[Wy];exact sm⟩
 split
 ·exact ⟨m,ps,c,p,ZlK u _ _,d,(ZdP _ _ _).trans t,s0,s1,f,fn,sm⟩
 split
 ·exact ⟨m,ps,c,p,u,ZlL d ps,t,s0,s1,f,fn,sm⟩
 ·exact ⟨Zn2 m _ _,ps,c,p,u,d,t,s0,s1,f,fn,sm⟩
theorem Zq4 (l:Zm) (a:Int):(Jp l a).ppu.T=l.ppu.T:=by
 unfold Jp
 repeat' split
 all_goals first|exact Wn _ _|rfl
theorem ZpX (l:Zm) (a v:Int):(Jt l a v).ppu.T=l.ppu.T:=by
 unfold Jt
 repeat' split
 all_goals first|exact Wy _ _ _|rfl
theorem Zf0 (l:Zm) (a:Int):(Jp l a).img=l.img∧(Jp l a).mem=l.mem∧(Jp l a).cpu=l.cpu∧(Jp l a).steps=l.steps∧(Jp l a).pads=l.pads∧(Jp l a).nmi=l.nmi:=by
 unfold Jp
 repeat' split
 all_goals exact ⟨rfl,rfl,rfl,rfl,rfl,rfl⟩
theorem Zcw (l:Zm) (a v:Int):(Jt l a v).img=l.img∧(Jt l a v).cpu=l.cpu∧(Jt l a v).steps=l.steps∧(Jt l a v).reads=l.reads∧(Jt l a v).pads=l.pads∧(Jt l a v).nmi=l.nmi:=by
 unfold Jt
 repeat' split
 all_goals exact ⟨rfl,rfl,rfl,rfl,rfl,rfl⟩
theorem Zkx (l:Zm) (a:Int):(Jp l a).reads.length≤l.reads.length+1:=by
 unfold Jp
 repeat' split
 all_goals simp
def Vf (f:List (List Int)) (x:Zv) (v:Int):Int:=Kw (ZI f x v) (ZI f x (v+1))
def Jx (l:Zm) (v:Int):Zm:={l with mem:=XK l.mem l.cpu,cpu:=ZiT l.cpu (Vf l.img l.mem v)}
theorem ZoN (f:List (List Int)) (x:Zv) (v:Int):0≤Vf f x v∧Vf f x v≤65535:=Zke _ _
theorem Zk8 {l:Zm} (h:Z5 l) (v:Int):Z5 (Jx l v):=by
 obtain ⟨m,ps,c,p,u,d,t,s0,s1,f,fn,sm⟩:=h
 exact ⟨m.of_ram (ZhU m.ram) rfl,ps,ZkZ c (ZoN _ _ _),p,u,d,t,s0,s1,f,fn,sm⟩
def ZiS (l:Zm) (op arg v:Int):Zm:={l with mem:=V7 l.mem l.cpu op,cpu:=WK l.mem l.cpu op arg v}
theorem ZhT {l:Zm} (h:Z5 l) (op arg v:Int):Z5 (ZiS l op arg v):=by
 obtain ⟨m,ps,c,p,u,d,t,s0,s1,f,fn,sm⟩:=h
 exact ⟨m.of_ram (Znr m.ram) (ZgZ _ _ _),ps,Znq c,p,u,d,t,s0,s1,f,fn,sm⟩
def opL (l:Zm) (op arg:Int):Zm:=
 if ZG op=1 then ZiS (Jp l (QQ op arg l.cpu.x)) op arg (KG l (QQ op arg l.cpu.x))
 else if ZG op=2 then ZiS (Jt l (QQ op arg l.cpu.x) (l.cpu.a%256)) op arg 0
 else ZiS l op arg 0
theorem Zsv {l:Zm} (h:Z5 l) (op arg:Int):Z5 (opL l op arg):=by
 unfold opL
 split
 ·exact ZhT (Zoa h _) _ _ _
 split
 ·exact ZhT (ZiC h _ _) _ _ _
 ·exact ZhT h _ _ _
theorem Zsw (l:Zm) (op arg:Int):(opL l op arg).ppu.T=l.ppu.T:=by
 unfold opL
 split
 ·exact Zq4 _ _
 split
 ·exact ZpX _ _ _
 ·rfl
theorem ZnT (l:Zm) (op arg:Int):(opL l op arg).steps=l.steps:=by
 unfold opL
 split
 ·exact (Zf0 _ _).2.2.2.1
 split
 ·exact (Zcw _ _ _).2.2.1
 ·rfl
theorem ZnS (l:Zm) (op arg:Int):(opL l op arg).reads.length≤l.reads.length+1:=by
 unfold opL
 split
 ·exact Zkx _ _
 split
 ·show (Jt l _ _).reads.length≤_;rw[(Zcw _ _ _).2.2.2.1];omega
 ·show l.reads.length≤_;omega
def Jh (l:Zm):Zm:=
 {l with ppu:=QX l.ppu,apu:=KL l.apu,nmi:=l.nmi||Km l.ppu,frames:=if Js l.ppu then l.frames++[JZ l.ppu]else l.frames,samples:=if Yd l.apu then l.samples++[KJ l.apu]else l.samples}
theorem ZkS {l:Zm} (h:Z5 l) (ht:l.ppu.T<20000):Z5 (Jh l):=by
 obtain ⟨m,ps,c,p,u,d,t,s0,s1,f,fn,sm⟩:=h
 have p0:=p.t.1
 refine ⟨m,ps,c,ZoC p ht,Zow u (by omega),d,?_,s0,?_,?_,?_,?_⟩
 ·show l.apu.T+1=(QX l.ppu).T
  rw[Wv,t]
 ·show l.steps≤((QX l.ppu).T:Int)
  rw[Wv];omega
 ·intro x hx
  have hx:x∈(if Js l.ppu then l.frames++[JZ l.ppu]else l.frames):=hx
  split at hx
  ·rename_i ht
   rcases List.mem_append.1 hx with h1|h1
   ·exact f x h1
   ·rw[List.mem_singleton.1 h1];exact Zg2 p ht
  ·exact f x hx
 ·show ((if Js l.ppu then l.frames++[JZ l.ppu]else l.frames).length:Int)=YA (QX l.ppu).T
  rw[Wv]
  unfold YA Js at*
  by_cases h1:l.ppu.T%64=48
  ·simp only[h1,decide_true,if_true,List.length_append,List.length_singleton]
   omega
  ·simp only[h1,decide_false,Bool.false_eq_true,if_false]
   omega
 ·show ((if Yd l.apu then l.samples++[KJ l.apu]else l.samples).length:Int)=((QX l.ppu).T:Int)/16
  rw[Wv]
  by_cases h1:l.apu.T%16=15
  ·rw[show Yd l.apu=true from Zi h1,if_pos rfl,List.length_append,List.length_singleton]
   omega
  ·rw[show Yd l.apu=false from Zd h1,if_neg (by simp)]
   omega
theorem Zgq (l:Zm):(Jh l).ppu.T=l.ppu.T+1:=Wv _
def ZU:Nat→Zm→Zm
 |0,l=>l
 |n+1,l=>ZU n (Jh l)
theorem Ziz: ∀{n:Nat} {l:Zm},Z5 l→l.ppu.T+n≤20000→Z5 (ZU n l)∧(ZU n l).ppu.T=l.ppu.T+n∧(ZU n l).steps=l.steps∧(ZU n l).reads=l.reads
 |0,l,h,ht=>⟨h,by show l.ppu.T=l.ppu.T+0;omega,rfl,rfl⟩
 |n+1,l,h,ht=>by
  obtain ⟨a,b,c,d⟩:=Ziz (n:=n) (ZkS h (by omega)) (by rw[Zgq];omega)
  refine ⟨a,?_,c,d⟩
  show (ZU n (Jh l)).ppu.T=_
  rw[b,Zgq]
  omega
def XG (l:Zm):Bool:=l.nmi|| (l.apu.irq&& !l.cpu.i)
def Qg (l:Zm):Int:=opT l.img l.mem l.cpu.pc
def Yk (l:Zm):Int:=V0 l.img l.mem l.cpu.pc
def Qz (l:Zm):Int:=if XG l then 7 else Qm (Qg l)
def doL (l:Zm):Zm:=
 if l.nmi then Jx {l with nmi:=false} 65530 else if l.apu.irq&& !l.cpu.i then Jx l 65534 else opL l (Qg l) (Yk l)
def QH (l:Zm):Bool:=decide (l.ppu.T+Qz l≤20000)
def QF (l:Zm):Zm:=let m:=ZU (Qz l).toNat (doL l);{m with steps:=m.steps+1}
theorem Zqv {l:Zm} (h:Z5 l):Z5 (doL l):=by
 unfold doL
 split
 ·exact Zk8 (l:={l with nmi:=false}) ⟨h.mem,h.pads,h.cpu,h.ppu,h.apu,h.pad,h.t,h.s0,h.s1,h.fr,h.frn,h.sam⟩ _
 split
 ·exact Zk8 h _
 ·exact Zsv h _ _
theorem Zqw (l:Zm):(doL l).ppu.T=l.ppu.T:=by
 unfold doL
 split
 ·rfl
 split
 ·rfl
 ·exact Zsw _ _ _
theorem Znj (l:Zm):(doL l).steps=l.steps:=by
 unfold doL
 split
 ·rfl
 split
 ·rfl
 ·exact ZnT _ _ _
theorem Zni (l:Zm):(doL l).reads.length≤l.reads.length+1:=by
 unfold doL
 split
 ·show l.reads.length≤_;omega
 split
 ·show l.reads.length≤_;omega
 ·exact ZnS _ _ _
theorem Zff (l:Zm):2≤Qz l∧Qz l≤7:=by
 unfold Qz
 split
 ·omega
 ·have:=UD (Qg l);omega
theorem ZkL {l:Zm} (h:Z5 l) (hm:QH l=true):Z5 (QF l)∧(QF l).ppu.T=l.ppu.T+Qz l∧(QF l).steps=l.steps+1∧(QF l).reads.length≤l.reads.length+1:=by
 have hm:l.ppu.T+Qz l≤20000:=by simpa [QH] using hm
 have hc:=Zff l
 have hd:=Zqw l
 obtain ⟨a,b,c,d⟩:=Ziz (n:=(Qz l).toNat) (Zqv h) (by omega)
 have e:(QF l).ppu.T=l.ppu.T+Qz l:=by
  show (ZU (Qz l).toNat (doL l)).ppu.T=_
  rw[b,hd];omega
 have e2:(QF l).steps=l.steps+1:=by
  show (ZU (Qz l).toNat (doL l)).steps+1=_
  rw[c,Znj]
 obtain ⟨m,ps,cc,p,u,dd,t,s0,s1,f,fn,sm⟩:=a
 refine ⟨⟨m,ps,cc,p,u,dd,t,by have:=h.s0;omega,by have:=h.s1;have:=h.s0;rw[e,e2];omega,f,fn,sm⟩,e,e2,?_⟩
 show (ZU (Qz l).toNat (doL l)).reads.length≤_
 rw[d]
 exact Zni l
def Qp:Nat→Zm→Zm×Nat
 |0,l=>(l,0)
 |n+1,l=>if QH l then ((Qp n (QF l)).1,(Qp n (QF l)).2+1)else (l,0)
theorem Zp8: ∀{n:Nat} {l:Zm},Z5 l→Z5 (Qp n l).1∧(Qp n l).2≤n∧(Qp n l).1.reads.length≤l.reads.length+n∧(Qp n l).1.steps=l.steps+(Qp n l).2
 |0,l,h=>⟨h,Nat.le_refl _,Nat.le_refl _,by show l.steps=l.steps+0;omega⟩
 |n+1,l,h=>by
  unfold Qp
  split
  ·rename_i hm
   obtain ⟨a,b,c,d⟩:=ZkL h hm
   obtain ⟨e,f,g,i⟩:=Zp8 (n:=n) a
   exact ⟨e,by show (Qp n (QF l)).2+1≤n+1;omega,by show (Qp n (QF l)).1.reads.length≤_;omega,by show (Qp n (QF l)).1.steps=l.steps+(((Qp n (QF l)).2+1:Nat):Int);omega⟩
  ·exact ⟨h,Nat.zero_le _,by show l.reads.length≤_;omega,by show l.steps=l.steps+0;omega⟩
abbrev Rc:=Int×Int×Int
def RcP (x:Rc):Prop:=(0≤x.1∧x.1≤20000)∧(0≤x.2.1∧x.2.1≤7)∧(0≤x.2.2∧x.2.2≤255)
structure Vk (cap:Int) (l:List Rc):Prop where
 rec': ∀x,x∈l→RcP x
 ord:l.Pairwise (fun a b=>a.1≤b.1)
 c0:1≤cap
 c1:cap≤16
 len:(l.length:Int)≤cap
theorem Zks {l:List Rc} (h: ∀i,(hi:i+1<l.length)→l[i].1≤l[i+1].1):l.Pairwise (fun a b=>a.1≤b.1):=by
 rw[List.pairwise_iff_getElem]
 intro i j hi hj hij
 induction j with
 |zero=>omega
 |succ j ih=>
  rcases Nat.lt_or_ge i j with h1|h1
  ·exact Int.le_trans (ih (by omega) h1) (h j hj)
  ·have:i=j:=by omega
   subst this
   exact h i hj
theorem Zct {r:Tup Yc}:KI r=true↔Vk r.1 r.2.1:=by
 unfold KI
 rw[Bool.and_eq_true,Bool.and_eq_true,List.all_eq_true,JS,WT]
 have hg: ∀i,(hi:i<r.2.1.length)→rdE .t r.2.1 (i:Int)=r.2.1[i]:=fun i hi=>QC .t r.2.1 i hi
 constructor
 ·rintro ⟨h,⟨c0,c1⟩,hl⟩
  have key: ∀i,(hi:i<r.2.1.length)→RcP r.2.1[i]∧(i≠0→ ¬(r.2.1[i]).1< (rdE .t r.2.1 ((i-1:Nat):Int)).1):=fun i hi=>by
   have:=h i (by rw[List.mem_range'];exact ⟨i,hi,by omega⟩)
   unfold Vb at this
   rw[hg i hi]at this
   simp only[Bool.and_eq_true,JS,Bool.or_eq_true,decide_eq_true_eq,Bool.not_eq_true']at this
   obtain ⟨a,b,c,d⟩:=this
   refine ⟨⟨a,b,c⟩,fun h0=> ?_⟩
   rcases d with d|d
   ·exact absurd d h0
   ·intro hlt
    rw[show ltI (r.2.1[i]).1 (rdE .t r.2.1 ((i-1:Nat):Int)).1=true from Zf hlt]at d
    cases d
  refine ⟨fun x hx=> ?_,Zks fun i hi=> ?_,c0,c1,hl⟩
  ·obtain ⟨i,hi,rfl⟩:=List.getElem_of_mem hx
   exact (key i hi).1
  ·have:=(key (i+1) hi).2 (by omega)
   rw[Nat.add_sub_cancel,hg i (by omega)]at this
   omega
 ·rintro ⟨h,ho,c0,c1,hl⟩
  refine ⟨fun i hi=> ?_,⟨c0,c1⟩,hl⟩
  rw[List.mem_range']at hi
  obtain ⟨j,hj,e⟩:=hi
  have hi:i<r.2.1.length:=by omega
  unfold Vb
  rw[hg i hi]
  obtain ⟨a,b,c⟩:=h _ (List.getElem_mem hi)
  simp only[Bool.and_eq_true,JS,Bool.or_eq_true,decide_eq_true_eq,Bool.not_eq_true']
  refine ⟨a,b,c,?_⟩
  by_cases h0:i=0
  ·exact .inl h0
  ·right
   rw[hg (i-1) (by omega)]
   have:=List.pairwise_iff_getElem.1 ho (i-1) i (by omega) hi (by omega)
   exact Zp (by omega)
theorem ZaR {r:Tup Yc} {t:Int} (h:r.2.1.Pairwise (fun a b=>a.1≤b.1)):W5 r t=true↔ ∀x,x∈r.2.1→t≤x.1:=by
 unfold W5
 obtain ⟨cap,l,_⟩:=r
 simp only at h⊢
 cases l with
 |nil=>simp
 |cons y l=>
  simp only[List.length_cons,Nat.add_one_ne_zero,if_false]
  rw[show rdE .t (y::l) (0:Int)=y from rfl,WT]
  constructor
  ·intro h1 x hx
   cases hx with
   |head=>exact h1
   |tail _ hx=>exact Int.le_trans h1 ((List.pairwise_cons.1 h).1 x hx)
  ·intro h1;exact h1 y List.mem_cons_self
theorem ZaS {r:Tup Yc} {t:Int} (h:r.2.1.Pairwise (fun a b=>a.1≤b.1)):VG r t=true↔ ∀x,x∈r.2.1→x.1≤t:=by
 unfold VG
 obtain ⟨cap,l,_⟩:=r
 simp only at h⊢
 by_cases h0:l.length=0
 ·have:l=[]:=List.eq_nil_of_length_eq_zero h0
  subst this
  simp
 ·rw[if_neg h0,QC .t l (l.length-1) (by omega),WT]
  constructor
  ·intro h1 x hx
   obtain ⟨i,hi,rfl⟩:=List.getElem_of_mem hx
   rcases Nat.lt_or_ge i (l.length-1)with h2|h2
   ·exact Int.le_trans (List.pairwise_iff_getElem.1 h i (l.length-1) hi (by omega) h2) h1
   ·have:i=l.length-1:=by omega
    subst this
    exact h1
  ·intro h1;exact h1 _ (List.getElem_mem _)
structure Z6 where
 ppu:ZJ
 cap:Int
 list:List Rc
 frames:List (List Int)
structure Z7 where
 apu:Qj
 cap:Int
 list:List Rc
 samples:List Int
def Z6.t (w:Z6):Tup K8:=(w.ppu.T,(w.ppu.ctrl,(w.ppu.scroll,(w.ppu.addr,(w.ppu.pal,(w.ppu.blank,(w.ppu.table,(w.ppu.dots,(w.cap,(w.list,(w.frames,())))))))))))
def Z7.t (w:Z7):Tup Vc:=(w.apu.T,(w.apu.period,(w.apu.count,(w.apu.bit,(w.apu.len,(w.apu.asks,(w.apu.irq,(w.cap,(w.list,(w.samples,()))))))))))
def pcM (w:Tup K8):Z6:=⟨ZsW (Wh w),w.2.2.2.2.2.2.2.2.1,w.2.2.2.2.2.2.2.2.2.1,w.2.2.2.2.2.2.2.2.2.2.1⟩
def sdM (w:Tup Vc):Z7:=⟨ZsM (Zmy w),w.2.2.2.2.2.2.2.1,w.2.2.2.2.2.2.2.2.1,w.2.2.2.2.2.2.2.2.2.1⟩
structure Q4 (w:Z6):Prop where
 ppu:JI w.ppu
 ring:Vk w.cap w.list
 lo: ∀x,x∈w.list→w.ppu.T≤x.1
 fr: ∀f,f∈w.frames→f.length=48
 frn:(w.frames.length:Int)=YA w.ppu.T
structure QT (w:Z7):Prop where
 apu:Yf w.apu
 ring:Vk w.cap w.list
 lo: ∀x,x∈w.list→w.apu.T≤x.1
 sam:(w.samples.length:Int)=w.apu.T/16
theorem ZfT {w:Z6}:VF w.t=true↔Q4 w:=by
 unfold VF
 simp only[Bool.and_eq_true]
 constructor
 ·rintro ⟨a,b,c,d⟩
  have a:=WZ.1 (show YL w.ppu.t=true from a)
  have b:=Zct.1 b
  have d:=(ZaL a.t.1).1 (show XN w.frames w.ppu.T=true from d)
  exact ⟨a,b,(ZaR b.ord).1 c,d.1,d.2⟩
 ·rintro ⟨a,b,c,d,e⟩
  exact ⟨WZ.2 a,Zct.2 b,(ZaR (r:=(w.cap,(w.list,()))) b.ord).2 c,(ZaL a.t.1).2 ⟨d,e⟩⟩
theorem Zga {w:Z7}:VK w.t=true↔QT w:=by
 unfold VK
 simp only[Bool.and_eq_true]
 constructor
 ·rintro ⟨a,b,c,d⟩
  have a:=WB.1 (show Y3 w.apu.t=true from a)
  have b:=Zct.1 b
  have d:=(ZaA a.t.1).1 (show W7 w.samples w.apu.T=true from d)
  exact ⟨a,b,(ZaR b.ord).1 c,d⟩
 ·rintro ⟨a,b,c,d⟩
  exact ⟨WB.2 a,Zct.2 b,(ZaR (r:=(w.cap,(w.list,()))) b.ord).2 c,(ZaA a.t.1).2 d⟩
theorem Q4.s {w:Z6} (h:Q4 w):Zjt w.t:=by
 have h1:=h.ppu.t
 have h2:=h.frn
 have h3:=h.ring.len
 have h4:=h.ring.c1
 unfold YA at h2
 exact ⟨h.ppu.s,by show w.list.length≤_;omega,ZeB (f:=w.frames) h.fr (by omega)⟩
theorem QT.s {w:Z7} (h:QT w):ZjH w.t:=by
 have h1:=h.apu.t
 have h2:=h.sam
 have h3:=h.ring.len
 have h4:=h.ring.c1
 exact ⟨by show w.list.length≤_;omega,by show w.samples.length≤_;omega⟩
theorem Vk.tail {cap:Int} {x:Rc} {l:List Rc} (h:Vk cap (x::l)):Vk cap l:=
 ⟨fun y hy=>h.rec' y (List.mem_cons_of_mem _ hy),(List.pairwise_cons.1 h.ord).2,h.c0,h.c1,by have:=h.len;simp only[List.length_cons]at this;omega⟩
def due (l:List Rc) (t:Int):Bool:=match l with| []=>false|x::_=>decide (x.1=t)
def Q8 (l:List Rc):Rc:=match l with| []=>(0,(0,0))|x::_=>x
def Z2 (w:Z6) (mark:Int):Option Z6:=
 if due w.list w.ppu.T then some {w with ppu:=Je w.ppu (Q8 w.list).2.1 (Q8 w.list).2.2,list:=w.list.tail}
 else if w.ppu.T<mark∧w.ppu.T<20000 then some {w with ppu:=QX w.ppu,frames:=if Js w.ppu then w.frames++[JZ w.ppu]else w.frames}else none
def Z3 (w:Z7) (mark:Int):Option Z7:=
 if due w.list w.apu.T then some {w with apu:=J3 w.apu (Q8 w.list).2.1 (Q8 w.list).2.2,list:=w.list.tail}
 else if w.apu.T<mark∧w.apu.T<20000 then some {w with apu:=KL w.apu,samples:=if Yd w.apu then w.samples++[KJ w.apu]else w.samples}else none
theorem Zch {l:List Rc} {t:Int} (h:due l t=true):l=Q8 l::l.tail∧(Q8 l).1=t:=by
 unfold due Q8 at*
 cases l with
 |nil=>cases h
 |cons x l=>exact ⟨rfl,by simpa using h⟩
theorem ZnN {l:List Rc} {t:Int} (ho:l.Pairwise (fun a b=>a.1≤b.1)) (hl: ∀x,x∈l→t≤x.1) (h:due l t=false): ∀x,x∈l→t+1≤x.1:=by
 unfold due at h
 cases l with
 |nil=>intro x hx;cases hx
 |cons y l=>
  have h:y.1≠t:=by simpa using h
  have h1:=hl y List.mem_cons_self
  intro x hx
  cases hx with
  |head=>omega
  |tail _ hx=>have:=(List.pairwise_cons.1 ho).1 x hx;omega
theorem Kh {w v:Z6} {mark:Int} (h:Q4 w) (hs:Z2 w mark=some v):Q4 v∧v.cap=w.cap∧(∀x,x∈v.list→x∈w.list)∧
  (v.ppu.T=w.ppu.T∧v.list.length+1=w.list.length∨v.ppu.T=w.ppu.T+1∧w.ppu.T<mark∧w.ppu.T<20000∧v.list=w.list):=by
 obtain ⟨p,r,lo,f,fn⟩:=h
 unfold Z2 at hs
 split at hs
 ·rename_i hd
  obtain ⟨e,e1⟩:=Zch hd
  simp only[Option.some.injEq]at hs
  subst hs
  rw[e]at r lo
  refine ⟨⟨ZlM p _ _,r.tail,fun x hx=> ?_,f,?_⟩,rfl,fun x hx=> ?_, .inl ⟨Wy _ _ _,?_⟩⟩
  ·show (Je w.ppu _ _).T≤x.1
   rw[Wy]
   exact lo x (List.mem_cons_of_mem _ hx)
  ·show (w.frames.length:Int)=YA (Je w.ppu _ _).T
   rw[Wy];exact fn
  ·show x∈w.list
   rw[e];exact List.mem_cons_of_mem _ hx
  ·show w.list.tail.length+1=w.list.length
   conv=>rhs;rw[e]
   rfl
 ·split at hs
  ·rename_i hd hm
   simp only[Option.some.injEq]at hs
   subst hs
   have hd:due w.list w.ppu.T=false:=by simpa using hd
   have p0:=p.t.1
   refine ⟨⟨ZoC p hm.2,r,fun x hx=> ?_,fun x hx=> ?_,?_⟩,rfl,fun x hx=>hx, .inr ⟨Wv _,hm.1,hm.2,rfl⟩⟩
   ·show (QX w.ppu).T≤x.1
    rw[Wv]
    exact ZnN r.ord lo hd x hx
   ·have hx:x∈(if Js w.ppu then w.frames++[JZ w.ppu]else w.frames):=hx
    split at hx
    ·rename_i ht
     rcases List.mem_append.1 hx with h1|h1
     ·exact f x h1
     ·rw[List.mem_singleton.1 h1];exact Zg2 p ht
    ·exact f x hx
   ·show ((if Js w.ppu then w.frames++[JZ w.ppu]else w.frames).length:Int)=YA (QX w.ppu).T
    rw[Wv]
    unfold YA Js at*
    by_cases h1:w.ppu.T%64=48
    ·simp only[h1,decide_true,if_true,List.length_append,List.length_singleton]
     omega
    ·simp only[h1,decide_false,Bool.false_eq_true,if_false]
     omega
  ·cases hs
theorem Ki {w v:Z7} {mark:Int} (h:QT w) (hs:Z3 w mark=some v):QT v∧v.cap=w.cap∧(∀x,x∈v.list→x∈w.list)∧
  (v.apu.T=w.apu.T∧v.list.length+1=w.list.length∨v.apu.T=w.apu.T+1∧w.apu.T<mark∧w.apu.T<20000∧v.list=w.list):=by
 obtain ⟨p,r,lo,fn⟩:=h
 unfold Z3 at hs
 split at hs
 ·rename_i hd
  obtain ⟨e,e1⟩:=Zch hd
  simp only[Option.some.injEq]at hs
  subst hs
  rw[e]at r lo
  refine ⟨⟨ZlK p _ _,r.tail,fun x hx=> ?_,?_⟩,rfl,fun x hx=> ?_, .inl ⟨ZdP _ _ _,?_⟩⟩
  ·show (J3 w.apu _ _).T≤x.1
   rw[ZdP]
   exact lo x (List.mem_cons_of_mem _ hx)
  ·show (w.samples.length:Int)=(J3 w.apu _ _).T/16
   rw[ZdP];exact fn
  ·show x∈w.list
   rw[e];exact List.mem_cons_of_mem _ hx
  ·show w.list.tail.length+1=w.list.length
   conv=>rhs;rw[e]
   rfl
 ·split at hs
  ·rename_i hd hm
   simp only[Option.some.injEq]at hs
   subst hs
   have hd:due w.list w.apu.T=false:=by simpa using hd
   have p0:=p.t.1
   refine ⟨⟨Zow p hm.2,r,fun x hx=>ZnN r.ord lo hd x hx,?_⟩,rfl,fun x hx=>hx, .inr ⟨rfl,hm.1,hm.2,rfl⟩⟩
   show ((if Yd w.apu then w.samples++[KJ w.apu]else w.samples).length:Int)=(w.apu.T+1)/16
   by_cases h1:w.apu.T%16=15
   ·rw[show Yd w.apu=true from Zi h1,if_pos rfl,List.length_append,List.length_singleton]
    omega
   ·rw[show Yd w.apu=false from Zd h1,if_neg (by simp)]
    omega
  ·cases hs
def YR:Nat→Z6→Int→Z6
 |0,w,_=>w
 |n+1,w,m=>match Z2 w m with|none=>w|some v=>YR n v m
def YS:Nat→Z7→Int→Z7
 |0,w,_=>w
 |n+1,w,m=>match Z3 w m with|none=>w|some v=>YS n v m
def Yl (w:Z6):Nat:=w.list.length+(20000-w.ppu.T).toNat
def Ym (w:Z7):Nat:=w.list.length+(20000-w.apu.T).toNat
theorem Vx {w v:Z6} {m:Int} (h:Q4 w) (hs:Z2 w m=some v):Yl v<Yl w:=by
 obtain ⟨a,_,_,c⟩:=Kh h hs
 unfold Yl
 have:=h.ppu.t
 rcases c with ⟨c,d⟩| ⟨c,d,e,f⟩
 ·rw[c];omega
 ·rw[c,f];omega
theorem Vy {w v:Z7} {m:Int} (h:QT w) (hs:Z3 w m=some v):Ym v<Ym w:=by
 obtain ⟨a,_,_,c⟩:=Ki h hs
 unfold Ym
 have:=h.apu.t
 rcases c with ⟨c,d⟩| ⟨c,d,e,f⟩
 ·rw[c];omega
 ·rw[c,f];omega
def Qa (w:Z6) (m:Int):Z6:=YR (Yl w) w m
def ZK (w:Z7) (m:Int):Z7:=YS (Ym w) w m
theorem Ze8: ∀{n:Nat} {w:Z6} {m:Int},Q4 w→Yl w≤n→YR n w m=Qa w m:=by
 intro n
 induction n using Nat.strongRecOn with
 |ind n ih=>
  intro w m h hn
  unfold Qa
  cases n with
  |zero=>rw[show Yl w=0 by omega]
  |succ n=>
   cases hs:Z2 w m with
   |none=>
    rw[show YR (n+1) w m=w by rw[YR,hs]]
    cases Yl w with
    |zero=>rfl
    |succ k=>rw[YR,hs]
   |some v=>
    have h1:=Vx h hs
    rw[show YR (n+1) w m=YR n v m by rw[YR,hs]]
    rw[ih n (by omega) (Kh h hs).1 (by omega)]
    obtain ⟨k,hk⟩: ∃k,Yl w=k+1:=⟨Yl w-1,by omega⟩
    rw[hk,show YR (k+1) w m=YR k v m by rw[YR,hs]]
    exact (ih k (by omega) (Kh h hs).1 (by omega)).symm
theorem Ze9: ∀{n:Nat} {w:Z7} {m:Int},QT w→Ym w≤n→YS n w m=ZK w m:=by
 intro n
 induction n using Nat.strongRecOn with
 |ind n ih=>
  intro w m h hn
  unfold ZK
  cases n with
  |zero=>rw[show Ym w=0 by omega]
  |succ n=>
   cases hs:Z3 w m with
   |none=>
    rw[show YS (n+1) w m=w by rw[YS,hs]]
    cases Ym w with
    |zero=>rfl
    |succ k=>rw[YS,hs]
   |some v=>
    have h1:=Vy h hs
    rw[show YS (n+1) w m=YS n v m by rw[YS,hs]]
    rw[ih n (by omega) (Ki h hs).1 (by omega)]
    obtain ⟨k,hk⟩: ∃k,Ym w=k+1:=⟨Ym w-1,by omega⟩
    rw[hk,show YS (k+1) w m=YS k v m by rw[YS,hs]]
    exact (ih k (by omega) (Ki h hs).1 (by omega)).symm
theorem Vq {w v:Z6} {m:Int} (h:Q4 w) (hs:Z2 w m=some v):Qa w m=Qa v m:=by
 have h1:=Vx h hs
 obtain ⟨k,hk⟩: ∃k,Yl w=k+1:=⟨Yl w-1,by omega⟩
 unfold Qa
 rw[hk,show YR (k+1) w m=YR k v m by rw[YR,hs]]
 exact Ze8 (Kh h hs).1 (by omega)
theorem Kp {w:Z6} {m:Int} (hs:Z2 w m=none):Qa w m=w:=by
 unfold Qa
 cases Yl w with
 |zero=>rfl
 |succ k=>rw[YR,hs]
theorem Vr {w v:Z7} {m:Int} (h:QT w) (hs:Z3 w m=some v):ZK w m=ZK v m:=by
 have h1:=Vy h hs
 obtain ⟨k,hk⟩: ∃k,Ym w=k+1:=⟨Ym w-1,by omega⟩
 unfold ZK
 rw[hk,show YS (k+1) w m=YS k v m by rw[YS,hs]]
 exact Ze9 (Ki h hs).1 (by omega)
theorem Kq {w:Z7} {m:Int} (hs:Z3 w m=none):ZK w m=w:=by
 unfold ZK
 cases Ym w with
 |zero=>rfl
 |succ k=>rw[YS,hs]
theorem Zc5 {Q:Z6→Prop} {m:Int} (hq: ∀w v,Q4 w→Q w→Z2 w m=some v→Q v): ∀(n:Nat) {w:Z6},Yl w≤n→Q4 w→Q w→Q4 (Qa w m)∧Q (Qa w m)∧Z2 (Qa w m) m=none
 |0,w,hn,h,q=>by
  cases hs:Z2 w m with
  |none=>rw[Kp hs];exact ⟨h,q,hs⟩
  |some v=>have:=Vx h hs;omega
 |n+1,w,hn,h,q=>by
  cases hs:Z2 w m with
  |none=>rw[Kp hs];exact ⟨h,q,hs⟩
  |some v=>
   rw[Vq h hs]
   exact Zc5 hq n (by have:=Vx h hs;omega) (Kh h hs).1 (hq w v h q hs)
theorem Zc7 {Q:Z7→Prop} {m:Int} (hq: ∀w v,QT w→Q w→Z3 w m=some v→Q v): ∀(n:Nat) {w:Z7},Ym w≤n→QT w→Q w→QT (ZK w m)∧Q (ZK w m)∧Z3 (ZK w m) m=none
 |0,w,hn,h,q=>by
  cases hs:Z3 w m with
  |none=>rw[Kq hs];exact ⟨h,q,hs⟩
  |some v=>have:=Vy h hs;omega
 |n+1,w,hn,h,q=>by
  cases hs:Z3 w m with
  |none=>rw[Kq hs];exact ⟨h,q,hs⟩
  |some v=>
   rw[Vr h hs]
   exact Zc7 hq n (by have:=Vy h hs;omega) (Ki h hs).1 (hq w v h q hs)
structure Zc where
 img:List (List Int)
 pads:List Int
 mem:Zv
 cpu:Zk
 pad:Yx
 T:Int
 nmi:Bool
 ctrl:Int
 known:Bool
 knownAt:Int
 steps:Int
 reads:List Int
 pic:Z6
 snd:Z7
def Zc.t (s:Zc):Tup Qi:=(s.img,(s.pads,(s.mem.ram,(s.mem.bank,(s.cpu.a,(s.cpu.x,(s.cpu.s,(s.cpu.pc,(s.cpu.z,(s.cpu.n,(s.cpu.c,(s.cpu.i,(s.pad.held,(s.pad.shift,
 (s.T,(s.nmi,(s.ctrl,(s.known,(s.knownAt,(s.steps,(s.reads,
 (s.pic.ppu.T,(s.pic.ppu.ctrl,(s.pic.ppu.scroll,(s.pic.ppu.addr,(s.pic.ppu.pal,(s.pic.ppu.blank,(s.pic.ppu.table,(s.pic.ppu.dots,(s.pic.cap,(s.pic.list,(s.pic.frames,s.snd.t))))))))))))))))))))))))))))))))
def spM (s:Tup Qi):Zc:=⟨VL s,VM s,ZsU (Vd s),Zr6 (Xs s),ZsV (Zra s),spT s,ZrX s,Zqc s,Zq9 s,ZjI s,ZkG s,Zee s,pcM (Jr s),sdM (JH s)⟩
structure Zq (s:Zc):Prop where
 mem:JD s.img s.mem
 pads:J4 s.pads
 cpu:ZE s.cpu
 pic:Q4 s.pic
 snd:QT s.snd
 pad:Wz s.pad
 ctrl:0≤s.ctrl∧s.ctrl≤255
 t:0≤s.T∧s.T≤20000
 known:0≤s.knownAt∧s.knownAt≤s.T
 steps:0≤s.steps∧s.steps≤s.T
 pt:s.pic.ppu.T≤s.T
 st:s.snd.apu.T≤s.T
 pl: ∀x,x∈s.pic.list→x.1≤s.T
 sl: ∀x,x∈s.snd.list→x.1≤s.T
theorem JN {s:Zc}:Qd s.t=true↔Zq s:=by
 unfold Qd Zbc ZeW ZeV
 simp only[Bool.and_eq_true,JS]
 constructor
 ·rintro ⟨⟨a,b,c,d,e⟩,⟨f,g,h,i,j⟩,k,l,m,n⟩
  have d:=ZfT.1 (show VF s.pic.t=true from d)
  have e:=Zga.1 (show VK s.snd.t=true from e)
  exact ⟨Za8.1 a,ZaC.1 b,Zda.1 c,d,e,f,g,h,i,j,WT.1 k,WT.1 l,(ZaS d.ring.ord).1 m,(ZaS e.ring.ord).1 n⟩
 ·rintro ⟨a,b,c,d,e,f,g,h,i,j,k,l,m,n⟩
  exact ⟨⟨Za8.2 a,ZaC.2 b,Zda.2 c,ZfT.2 d,Zga.2 e⟩,⟨f,g,h,i,j⟩,WT.2 k,WT.2 l,(ZaS (r:=(s.pic.cap,(s.pic.list,()))) d.ring.ord).2 m,(ZaS (r:=(s.snd.cap,(s.snd.list,()))) e.ring.ord).2 n⟩
theorem Zq.s {s:Zc} (h:Zq s) (hr:s.reads.length≤4398046511104):ZM s.t:=by
 have h4:=h.mem.ram.len
 have h5:=h.pads.len
 exact ⟨h.mem.img.small,by show s.pads.length≤_;omega,by show s.mem.1.length≤_;omega,hr,h.pic.s,h.snd.s⟩
def Xr (s:Zc):Bool:=eqI s.pic.ppu.T s.T&&eqI (s.pic.list.length:Int) 0
def JW (s:Zc):Bool:=eqI s.snd.apu.T s.T&&eqI (s.snd.list.length:Int) 0
def Jv (a b:Int):Bool:=decide ((a+31)/32< (b+31)/32)
def Vp (a b:Int):Bool:=decide ((a+15)/64< (b+15)/64)
def YK (s:Zc) (n:Int):Int:=if 20000<s.T+n then 5 else 0
def Jm (s:Zc):Bool:= !s.nmi&&(!s.cpu.i&&Jv s.knownAt s.T)
def Jf (s:Zc):Bool:=(if Jv s.knownAt s.T then s.snd.apu.irq else s.known)&& !s.cpu.i
def opS (s:Zc):Int:=opT s.img s.mem s.cpu.pc
def QN (s:Zc):Int:=V0 s.img s.mem s.cpu.pc
def Zz (s:Zc):Int:=QQ (opS s) (QN s) s.cpu.x
def QG (s:Zc):Int:=
 if s.nmi then YK s 7 else if Jm s&& !JW s then 2 else if Jf s then YK s 7
 else if ZG (opS s)=1∧(rgT (Zz s)).1=2∧Xr s=false then 1 else if ZG (opS s)=1∧(rgT (Zz s)).1=3∧JW s=false then 2
 else if ZG (opS s)=2∧(rgT (Zz s)).1=2∧s.pic.cap≤(s.pic.list.length:Int)then 3 else if ZG (opS s)=2∧(rgT (Zz s)).1=3∧s.snd.cap≤(s.snd.list.length:Int)then 4
 else YK s (Qm (opS s))
def Jk (s:Zc) (b:Bool):Zc:={s with known:=b,knownAt:=s.T}
def Jz (s:Zc) (a:Int):Zc:=
 if (rgT a).1=2 then {s with pic:={s.pic with ppu:=Jq s.pic.ppu (rgT a).2},reads:=s.reads++[Kc s.pic.ppu (rgT a).2]}
 else if (rgT a).1=3 then
  (if (rgT a).2=2 then {s with snd:={s.snd with apu:=JM s.snd.apu (rgT a).2},known:=false,knownAt:=s.T,reads:=s.reads++[YV s.snd.apu (rgT a).2]}
  else {s with snd:={s.snd with apu:=JM s.snd.apu (rgT a).2},reads:=s.reads++[YV s.snd.apu (rgT a).2]})
 else if (rgT a).1=4 then {s with pad:=W3 s.pad s.pads s.T,reads:=s.reads++[Va s.pad s.pads s.T]}
 else s
def Kd (s:Zc) (a:Int):Int:=
 if (rgT a).1=2 then Kc s.pic.ppu (rgT a).2 else if (rgT a).1=3 then YV s.snd.apu (rgT a).2 else if (rgT a).1=4 then Va s.pad s.pads s.T else ZI s.img s.mem a
def JC (s:Zc) (a v:Int):Zc:=
 if (rgT a).1=2 then {s with pic:={s.pic with list:=s.pic.list++[(s.T,((rgT a).2,v))]},ctrl:=if (rgT a).2=0 then v else s.ctrl}
 else if (rgT a).1=3 then
  (if (rgT a).2=3∨(rgT a).2=2∧v%2=0 then {s with snd:={s.snd with list:=s.snd.list++[(s.T,((rgT a).2,v))]},known:=false,knownAt:=s.T}
  else {s with snd:={s.snd with list:=s.snd.list++[(s.T,((rgT a).2,v))]}})
 else if (rgT a).1=4 then {s with pad:=Ua s.pad s.pads s.T v}else {s with mem:=KF s.img s.mem a v}
def Wa (s:Zc) (v:Int):Zc:={s with mem:=XK s.mem s.cpu,cpu:=ZiT s.cpu (Vf s.img s.mem v)}
def Uo (s:Zc) (op arg v:Int):Zc:={s with mem:=V7 s.mem s.cpu op,cpu:=WK s.mem s.cpu op arg v}
def XW (s:Zc):Zc:=
 if ZG (opS s)=1 then Uo (Jz s (Zz s)) (opS s) (QN s) (Kd s (Zz s))
 else if ZG (opS s)=2 then Uo (JC s (Zz s) (s.cpu.a%256)) (opS s) (QN s) 0
 else Uo s (opS s) (QN s) 0
def Zw (s:Zc):Zc:=if Jm s then Jk s s.snd.apu.irq else s
def JY (s:Zc):Zc×Int:=
 if s.nmi then (Wa {s with nmi:=false} 65530,7)else if s.known&& !s.cpu.i then (Wa s 65534,7)else (XW s,Qm (opS s))
def WJ (a:Int) (r:Zc×Int):Zc:={r.1 with T:=a+r.2,nmi:=ltI 127 r.1.ctrl&&Vp a (a+r.2),steps:=r.1.steps+1}
def Yq (s:Zc):Zc:=WJ s.T (JY (Zw s))
structure UU (s:Zc) (s':Zc):Prop where
 img:s'.img=s.img
 pads:s'.pads=s.pads
 T:s'.T=s.T
 nmi:s'.nmi=s.nmi
 steps:s'.steps=s.steps
 reads:s'.reads.length≤s.reads.length+1
structure ZiE (s:Zc):Prop where
 p:Zq s
 room:ZG (opS s)=2→(rgT (Zz s)).1=2→(s.pic.list.length:Int)<s.pic.cap
 room':ZG (opS s)=2→(rgT (Zz s)).1=3→(s.snd.list.length:Int)<s.snd.cap
theorem Zky {s:Zc} (h:Zq s) (a:Int):Zq (Jz s a):=by
 have hp:=h
 obtain ⟨m,ps,c,pc,sd,d,ct,t,kn,st,pt,sdt,pl,sl⟩:=h
 unfold Jz
 split
 ·exact ⟨m,ps,c,⟨Zob pc.ppu _,pc.ring,fun x hx=>by show (Jq s.pic.ppu _).T≤_;rw[Wn];exact pc.lo x hx,pc.fr,by show _=YA (Jq s.pic.ppu _).T;rw[Wn];exact pc.frn⟩,sd,d,ct,t,kn,st,by show (Jq s.pic.ppu _).T≤_;rw[Wn];exact pt,sdt,pl,sl⟩
 split
 ·have sd':QT {s.snd with apu:=JM s.snd.apu (rgT a).2}:=⟨Zn8 sd.apu _,sd.ring,fun x hx=>by show (JM s.snd.apu _).T≤_;rw[ZfZ];exact sd.lo x hx,by show _=(JM s.snd.apu _).T/16;rw[ZfZ];exact sd.sam⟩
  have sdt':(JM s.snd.apu (rgT a).2).T≤s.T:=by rw[ZfZ];exact sdt
  split
  ·exact ⟨m,ps,c,pc,sd',d,ct,t,⟨t.1,Int.le_refl _⟩,st,pt,sdt',pl,sl⟩
  ·exact ⟨m,ps,c,pc,sd',d,ct,t,kn,st,pt,sdt',pl,sl⟩
 split
 ·exact ⟨m,ps,c,pc,sd,Zn9 d ps,ct,t,kn,st,pt,sdt,pl,sl⟩
 ·exact hp
theorem ZpL {s:Zc} (h:Zq s) (a:Int):0≤Kd s a∧Kd s a≤255:=by
 unfold Kd
 split
 ·exact Zlx h.pic.ppu _
 split
 ·exact Zlu _ _
 split
 ·exact Zlv _ _ _
 ·exact Zd8 h.mem a
theorem Zio (s:Zc) (a:Int):UU s (Jz s a)∧(Jz s a).cpu=s.cpu∧(Jz s a).mem=s.mem:=by
 unfold Jz
 repeat' split
 all_goals exact ⟨⟨rfl,rfl,rfl,rfl,rfl,by simp⟩,rfl,rfl⟩
theorem Vk.app {cap:Int} {l:List Rc} (h:Vk cap l) {x:Rc} (hx:RcP x) (hl: ∀y,y∈l→y.1≤x.1) (hc:(l.length:Int)<cap):Vk cap (l++[x]):=
 ⟨fun y hy=>by
  rcases List.mem_append.1 hy with h1|h1
  ·exact h.rec' y h1
  ·rw[List.mem_singleton.1 h1];exact hx,
 List.pairwise_append.2 ⟨h.ord,List.pairwise_singleton _ _,fun a ha b hb=>by rw[List.mem_singleton.1 hb];exact hl a ha⟩,h.c0,h.c1,by rw[List.length_append,List.length_singleton];omega⟩
theorem Ze0 {s:Zc} (h:Zq s) {a v:Int} (hv:0≤v∧v≤255) (r1:(rgT a).1=2→(s.pic.list.length:Int)<s.pic.cap) (r2:(rgT a).1=3→(s.snd.list.length:Int)<s.snd.cap):Zq (JC s a v):=by
 have hp:=h
 obtain ⟨m,ps,c,pc,sd,d,ct,t,kn,st,pt,sdt,pl,sl⟩:=h
 have app: ∀{l:List Rc} {lo:Int},(∀x,x∈l→lo≤x.1)→lo≤s.T→ ∀x,x∈l++[(s.T,((rgT a).2,v))]→lo≤x.1:=fun h1 h2 x hx=>by
  rcases List.mem_append.1 hx with h3|h3
  ·exact h1 x h3
  ·rw[List.mem_singleton.1 h3];exact h2
 have app2: ∀{l:List Rc},(∀x,x∈l→x.1≤s.T)→ ∀x,x∈l++[(s.T,((rgT a).2,v))]→x.1≤s.T:=fun h1 x hx=>by
  rcases List.mem_append.1 hx with h3|h3
  ·exact h1 x h3
  ·rw[List.mem_singleton.1 h3];exact Int.le_refl _
 unfold JC
 split
 ·rename_i e
  have hr:0≤(rgT a).2∧(rgT a).2≤7:=by
   rcases UL a with ⟨e',h0,h1⟩| ⟨e',h0,h1⟩| ⟨e',h0,h1⟩| ⟨e',h0⟩| ⟨e',h0,h1⟩| ⟨e',h0,h1⟩| ⟨e',h0⟩<;>omega
  refine ⟨m,ps,c,⟨pc.ppu,pc.ring.app ⟨t,hr,hv⟩ pl (r1 e),app pc.lo pt,pc.fr,pc.frn⟩,sd,d,?_,t,kn,st,pt,sdt,app2 pl,sl⟩
  show 0≤(if (rgT a).2=0 then v else s.ctrl)∧(if (rgT a).2=0 then v else s.ctrl)≤255
  split
  ·exact hv
  ·exact ct
 split
 ·rename_i e
  have hr:0≤(rgT a).2∧(rgT a).2≤7:=by
   rcases UL a with ⟨e',h0,h1⟩| ⟨e',h0,h1⟩| ⟨e',h0,h1⟩| ⟨e',h0⟩| ⟨e',h0,h1⟩| ⟨e',h0,h1⟩| ⟨e',h0⟩<;>omega
  have sd':QT {s.snd with list:=s.snd.list++[(s.T,((rgT a).2,v))]}:=⟨sd.apu,sd.ring.app ⟨t,hr,hv⟩ sl (r2 e),app sd.lo sdt,sd.sam⟩
  split
  ·exact ⟨m,ps,c,pc,sd',d,ct,t,⟨t.1,Int.le_refl _⟩,st,pt,sdt,pl,app2 sl⟩
  ·exact ⟨m,ps,c,pc,sd',d,ct,t,kn,st,pt,sdt,pl,app2 sl⟩
 split
 ·exact ⟨m,ps,c,pc,sd,ZlL d ps,ct,t,kn,st,pt,sdt,pl,sl⟩
 ·exact ⟨Zn2 m _ _,ps,c,pc,sd,d,ct,t,kn,st,pt,sdt,pl,sl⟩
theorem Ze1 (s:Zc) (a v:Int):UU s (JC s a v)∧(JC s a v).cpu=s.cpu:=by
 unfold JC
 repeat' split
 all_goals exact ⟨⟨rfl,rfl,rfl,rfl,rfl,Nat.le_succ _⟩,rfl⟩
theorem Zib {s:Zc} (h:Zq s) (v:Int):Zq (Wa s v):=by
 obtain ⟨m,ps,c,pc,sd,d,ct,t,kn,st,pt,sdt,pl,sl⟩:=h
 exact ⟨m.of_ram (ZhU m.ram) rfl,ps,ZkZ c (ZoN _ _ _),pc,sd,d,ct,t,kn,st,pt,sdt,pl,sl⟩
theorem ZhX {s:Zc} (h:Zq s) (op arg v:Int):Zq (Uo s op arg v):=by
 obtain ⟨m,ps,c,pc,sd,d,ct,t,kn,st,pt,sdt,pl,sl⟩:=h
 exact ⟨m.of_ram (Znr m.ram) (ZgZ _ _ _),ps,Znq c,pc,sd,d,ct,t,kn,st,pt,sdt,pl,sl⟩
theorem UU.exec {s s':Zc} (h:UU s s') (op arg v:Int):UU s (Uo s' op arg v):=⟨h.img,h.pads,h.T,h.nmi,h.steps,h.reads⟩
theorem ZnR {s:Zc} (h:ZiE s):Zq (XW s)∧UU s (XW s):=by
 unfold XW
 split
 ·exact ⟨ZhX (Zky h.p _) _ _ _,(Zio s _).1.exec _ _ _⟩
 split
 ·rename_i e
  exact ⟨ZhX (Ze0 h.p (mod256 _) (h.room e) (h.room' e)) _ _ _,(Ze1 s _ _).1.exec _ _ _⟩
 ·exact ⟨ZhX h.p _ _ _,⟨rfl,rfl,rfl,rfl,rfl,Nat.le_succ _⟩⟩
theorem ZeP {s:Zc} (h:Zq s):Zq (Zw s):=by
 unfold Zw
 split
 ·obtain ⟨m,ps,c,pc,sd,d,ct,t,kn,st,pt,sdt,pl,sl⟩:=h
  exact ⟨m,ps,c,pc,sd,d,ct,t,⟨t.1,Int.le_refl _⟩,st,pt,sdt,pl,sl⟩
 ·exact h
theorem ZcT (s:Zc):(Zw s).img=s.img∧(Zw s).mem=s.mem∧(Zw s).cpu=s.cpu∧(Zw s).pic=s.pic∧(Zw s).snd=s.snd∧(Zw s).T=s.T∧(Zw s).nmi=s.nmi∧(Zw s).steps=s.steps∧(Zw s).reads=s.reads∧(Zw s).pads=s.pads:=by
 unfold Zw
 split<;>exact ⟨rfl,rfl,rfl,rfl,rfl,rfl,rfl,rfl,rfl,rfl⟩
theorem ZcU (s:Zc) (hn:s.nmi=false):((Zw s).known&& !s.cpu.i)=Jf s:=by
 unfold Zw Jm Jf
 rw[hn]
 cases hI:s.cpu.i with
 |true=>simp
 |false=>
  cases hb:Jv s.knownAt s.T with
  |true=>simp[Jk]
  |false=>simp
theorem Wg {s:Zc} {n:Int} (h:YK s n=0):s.T+n≤20000:=by
 unfold YK at h
 split at h
 ·omega
 ·omega
theorem Zgm {s:Zc} (h:Zq s) (hw:QG s=0):Zq (Yq s)∧(Yq s).steps=s.steps+1∧(Yq s).reads.length≤s.reads.length+1∧s.T< (Yq s).T∧(Yq s).T≤s.T+7∧(Yq s).img=s.img∧(Yq s).pads=s.pads:=by
 have hL:=ZeP h
 obtain ⟨e1,e2,e3,e4,e5,e6,e7,e8,e9,e10⟩:=ZcT s
 have eop:opS (Zw s)=opS s:=by unfold opS;rw[e1,e2,e3]
 have earg:QN (Zw s)=QN s:=by unfold QN;rw[e1,e2,e3]
 have eadr:Zz (Zw s)=Zz s:=by unfold Zz;rw[eop,earg,e3]
 have key: ∃s' n,JY (Zw s)=(s',n)∧Zq s'∧2≤n∧n≤7∧s.T+n≤20000∧s'.T=s.T∧s'.steps=s.steps∧s'.reads.length≤s.reads.length+1∧s'.img=s.img∧s'.pads=s.pads:=by
  unfold QG at hw
  unfold JY
  rw[e7]
  cases hn:s.nmi with
  |true=>
   rw[hn,if_pos rfl]at hw
   rw[if_pos rfl]
   have h2:Zq {Zw s with nmi:=false}:=⟨hL.mem,hL.pads,hL.cpu,hL.pic,hL.snd,hL.pad,hL.ctrl,hL.t,hL.known,hL.steps,hL.pt,hL.st,hL.pl,hL.sl⟩
   exact ⟨_,_,rfl,Zib h2 _,by omega,by omega,Wg hw,e6,e8,by show (Zw s).reads.length≤_;rw[e9];omega,e1,e10⟩
  |false=>
   rw[hn,if_neg (by simp)]at hw
   rw[if_neg (by simp),e3,ZcU s hn]
   split at hw
   ·omega
   split at hw
   ·rename_i ha
    rw[ha,if_pos rfl]
    exact ⟨_,_,rfl,Zib hL _,by omega,by omega,Wg hw,e6,e8,by show (Zw s).reads.length≤_;rw[e9];omega,e1,e10⟩
   ·rename_i ha
    rw[if_neg ha]
    split at hw
    ·omega
    split at hw
    ·omega
    split at hw
    ·omega
    rename_i h3
    split at hw
    ·omega
    rename_i h4
    have hc:=UD (opS s)
    have hr:ZiE (Zw s):=⟨hL,fun a b=>by rw[eop]at a;rw[eadr]at b;rw[e4];rcases Int.lt_or_le (s.pic.list.length:Int) s.pic.cap with h5|h5;exact h5;exact absurd ⟨a,b,h5⟩ h3,
     fun a b=>by rw[eop]at a;rw[eadr]at b;rw[e5];rcases Int.lt_or_le (s.snd.list.length:Int) s.snd.cap with h5|h5;exact h5;exact absurd ⟨a,b,h5⟩ h4⟩
    obtain ⟨p,f⟩:=ZnR hr
    exact ⟨_,_,rfl,p,by rw[eop];omega,by rw[eop];omega,by rw[eop];exact Wg hw,by rw[f.T,e6],by rw[f.steps,e8],by have:=f.reads;rw[e9]at this;exact this,by rw[f.img,e1],by rw[f.pads,e10]⟩
 obtain ⟨s',n,e,p,n1,n2,n3,t1,t2,t3,t4,t5⟩:=key
 unfold Yq
 rw[e]
 have k1:=h.t
 have k2:=h.steps
 obtain ⟨m,ps,c,pc,sd,d,ct,t,kn,st,pt,sdt,pl,sl⟩:=p
 rw[t1]at kn pt sdt pl sl
 refine ⟨⟨m,ps,c,pc,sd,d,ct,⟨by show 0≤s.T+n;omega,n3⟩,⟨kn.1,by show s'.knownAt≤s.T+n;omega⟩,⟨by show 0≤s'.steps+1;omega,by show s'.steps+1≤s.T+n;omega⟩,by show (s'.pic.ppu.1:Int)≤s.T+n;omega,by show (s'.snd.apu.1:Int)≤s.T+n;omega,
  fun x hx=>by have:=pl x hx;show x.1≤s.T+n;omega,fun x hx=>by have:=sl x hx;show x.1≤s.T+n;omega⟩,?_,t3,?_,?_,t4,t5⟩
 ·show s'.steps+1=s.steps+1;rw[t2]
 ·show s.T<s.T+n;omega
 ·show s.T+n≤s.T+7;omega
def KE (s:Zc) (who:Int):Option Zc:=
 if who=0 then (if QG s=0 then some (Yq s)else none)
 else if who=1 then (Z2 s.pic s.T).map fun p=>{s with pic:=p}else if who=2 then (Z3 s.snd s.T).map fun p=>{s with snd:=p}else none
theorem Zkv {s v:Zc} {who:Int} (h:Zq s) (hs:KE s who=some v):Zq v∧v.reads.length≤s.reads.length+1:=by
 unfold KE at hs
 split at hs
 ·split at hs
  ·rename_i hw
   simp only[Option.some.injEq]at hs
   subst hs
   obtain ⟨a,_,b,_⟩:=Zgm h hw
   exact ⟨a,b⟩
  ·cases hs
 split at hs
 ·cases hp:Z2 s.pic s.T with
  |none=>rw[hp]at hs;cases hs
  |some p=>
   rw[hp]at hs
   simp only[Option.map_some,Option.some.injEq]at hs
   subst hs
   obtain ⟨a,b,c,d⟩:=Kh h.pic hp
   have:=h.pt
   obtain ⟨m,ps,cc,pc,sd,dd,ct,t,kn,st,pt,sdt,pl,sl⟩:=h
   exact ⟨⟨m,ps,cc,a,sd,dd,ct,t,kn,st,by show p.ppu.T≤s.T;rcases d with d|d<;>omega,sdt,fun x hx=>pl x (c x hx),sl⟩,Nat.le_succ _⟩
 split at hs
 ·cases hp:Z3 s.snd s.T with
  |none=>rw[hp]at hs;cases hs
  |some p=>
   rw[hp]at hs
   simp only[Option.map_some,Option.some.injEq]at hs
   subst hs
   obtain ⟨a,b,c,d⟩:=Ki h.snd hp
   have:=h.st
   obtain ⟨m,ps,cc,pc,sd,dd,ct,t,kn,st,pt,sdt,pl,sl⟩:=h
   exact ⟨⟨m,ps,cc,pc,a,dd,ct,t,kn,st,pt,by show p.apu.T≤s.T;rcases d with d|d<;>omega,pl,fun x hx=>sl x (c x hx)⟩,Nat.le_succ _⟩
 ·cases hs
def ZH (s:Zc):Zc:={s with pic:=Qa s.pic s.T,snd:=ZK s.snd s.T}
theorem Ux {s:Zc} (h:Zq s):Zq (ZH s)∧Z2 (ZH s).pic s.T=none∧Z3 (ZH s).snd s.T=none:=by
 have a:=Zc5 (m:=s.T) (Q:=fun w=>w.ppu.T≤s.T∧ ∀x,x∈w.list→x.1≤s.T) (fun w v hw hq hs=>by
  obtain ⟨a,b,c,d⟩:=Kh hw hs
  exact ⟨by have:=hq.1;rcases d with d|d<;>omega,fun x hx=>hq.2 x (c x hx)⟩) _ (Nat.le_refl _) h.pic ⟨h.pt,h.pl⟩
 have b:=Zc7 (m:=s.T) (Q:=fun w=>w.apu.T≤s.T∧ ∀x,x∈w.list→x.1≤s.T) (fun w v hw hq hs=>by
  obtain ⟨a,b,c,d⟩:=Ki hw hs
  exact ⟨by have:=hq.1;rcases d with d|d<;>omega,fun x hx=>hq.2 x (c x hx)⟩) _ (Nat.le_refl _) h.snd ⟨h.st,h.sl⟩
 obtain ⟨m,ps,cc,pc,sd,dd,ct,t,kn,st,pt,sdt,pl,sl⟩:=h
 exact ⟨⟨m,ps,cc,a.1,b.1,dd,ct,t,kn,st,a.2.1.1,b.2.1.1,a.2.1.2,b.2.1.2⟩,a.2.2,b.2.2⟩

end Go.Proofs.YtleidaafbhojfaaGreatDoor.Plain
