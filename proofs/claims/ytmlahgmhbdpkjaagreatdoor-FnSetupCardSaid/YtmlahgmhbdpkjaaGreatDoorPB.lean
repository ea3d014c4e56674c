/- Plain laws of the printed functions: Exec, UnitM, LockM, SplitM. No condition beyond those that each lemma states. -/
import Derived.Test.YtmlahgmhbdpkjaaGreatDoorPA
set_option linter.unusedVariables false
set_option linter.unusedSimpArgs false
namespace Go.Proofs.YtmlahgmhbdpkjaaGreatDoor.Plain
open Go Go.Tev
theorem Zua {a b:Int} (ha:0≤a∧a≤63) (hb:0≤b∧b≤63):0≤bXor .i64 a b∧bXor .i64 a b≤63:=by
 have e1:(BitVec.ofInt 64 a).toNat=a.toNat:=by rw[ZeY,Int.emod_eq_of_lt (by omega) (by omega)]
 have e2:(BitVec.ofInt 64 b).toNat=b.toNat:=by rw[ZeY,Int.emod_eq_of_lt (by omega) (by omega)]
 have e3:(BitVec.ofInt 64 a^^^BitVec.ofInt 64 b).toNat<2^6:=by
  rw[BitVec.toNat_xor,e1,e2]
  exact Nat.xor_lt_two_pow (by omega) (by omega)
 have:bXor .i64 a b=((BitVec.ofInt 64 a^^^BitVec.ofInt 64 b).toNat:Int):=by
  show wI ((BitVec.ofInt 64 a^^^BitVec.ofInt 64 b).toNat:Int)=_
  exact Zau (by omega) (by omega)
 rw[this]
 omega
def Zmj (c:CpuM) (p:Int):CpuM:={c with pc:=p}
def setC (c:CpuM) (b:Bool):CpuM:={c with c:=b}
def setI (c:CpuM) (b:Bool):CpuM:={c with i:=b}
def addT (c:CpuM) (b:Int):CpuM:=setC (Zj5 c (addS c.a b c.c%256)) (ltI 255 (addS c.a b c.c))
def subT (c:CpuM) (b:Int):CpuM:=setC (Zj5 c (subS c.a b c.c%256)) (leI 0 (subS c.a b c.c))
def cpiT (c:CpuM) (b:Int):CpuM:={c with z:=eqI ((c.a%256-b%256)%256) 0,n:=ltI 127 ((c.a%256-b%256)%256),c:=leI (b%256) (c.a%256)}
def ZgE (c:CpuM) (op arg v:Int):CpuM:=
 if op=1 then Zj5 c arg else if op=2∨op=14 then Zj5 c v else if op=4 then addT c arg else if op=29 then addT c v else if op=5 then subT c arg
 else if op=6 then Zj5 c (bAnd .i64 c.a arg)else if op=7 then Zj5 c (bOr .i64 c.a arg)else if op=8 then Zj5 c (bXor .i64 c.a arg)else if op=9 then cpiT c arg else c
def ZfV (op:Int):Bool:=decide (op=1∨op=2∨op=14∨op=4∨op=29∨op=5∨op=6∨op=7∨op=8∨op=9)
def ZqV (c:CpuM) (op:Int):CpuM:=
 if op=10 then Zsh c c.a else if op=11 then Zj5 c c.x else if op=12 then Zsh c (c.x+1)else if op=13 then Zsh c (c.x-1)
 else if op=25 then setI c true else if op=26 then setI c false else if op=27 then setC c true else if op=28 then setC c false else c
def Zld (op:Int):Bool:=decide (op=10∨op=11∨op=12∨op=13∨op=25∨op=26∨op=27∨op=28)
def ZsN (x:MemM) (c:CpuM):CpuM:=Zmj (ZhU (ZhU c)) (ZgA (ZjP x c) (ZjP x (ZhU c)))
def shr8 (p:Int):Int:=p.fdiv 256
def ZhW (x:MemM) (c:CpuM):MemM:=Zmb (Zmb x c (shr8 c.pc)) (Zma c) c.pc
def ZfA (c:CpuM):CpuM:=Zma (Zma c)
def ZlS (x:MemM) (c:CpuM) (op:Int):MemM:=if op=20 then ZhW x c else if op=22 then Zmb x c c.a else x
def Zqf (x:MemM) (c:CpuM) (op arg:Int):CpuM:=
 if op=16 then (if c.z then c else Zmj c (arg%65536))else if op=17 then (if c.z then Zmj c (arg%65536)else c)else if op=18 then (if c.c then Zmj c (arg%65536)else c)
 else if op=19 then Zmj c (arg%65536)else if op=20 then Zmj (ZfA c) (arg%65536)else if op=21 then ZsN x c else if op=22 then Zma c else if op=23 then Zj5 (ZhU c) (ZjP x c)
 else if op=24 then ZsN x (wfT (ZhU c) (ZjP x c))else c
def Zis (c:CpuM) (op:Int):CpuM:=Zmj c ((c.pc+ZaP op)%65536)
def Zn2 (x:MemM) (c:CpuM) (op:Int):MemM:=ZlS x (Zis c op) op
def Zqb (x:MemM) (c:CpuM) (op arg v:Int):CpuM:=
 if ZfV op then ZgE (Zis c op) op arg v else if Zld op then ZqV (Zis c op) op else Zqf x (Zis c op) op arg
theorem Zj6 {c:CpuM} {p:Int} (h:CpuP c) (hp:0≤p∧p≤65535):CpuP (Zmj c p):=⟨h.a,h.x,h.s,hp⟩
theorem ZtZ {c:CpuM} {b:Bool} (h:CpuP c):CpuP (setC c b):=⟨h.a,h.x,h.s,h.pc⟩
theorem Zt0 {c:CpuM} {b:Bool} (h:CpuP c):CpuP (setI c b):=⟨h.a,h.x,h.s,h.pc⟩
theorem mod65536 (x:Int):0≤x%65536∧x%65536≤65535:=by omega
theorem Zn8 (a b:Int):0≤ZgA a b∧ZgA a b≤65535:=by unfold ZgA;omega
theorem Zq2 {x:MemM} {c:CpuM} (h:CpuP c):CpuP (ZsN x c):=Zj6 (ZhV (ZhV h)) (Zn8 _ _)
theorem ZjS {c:CpuM} (h:CpuP c):CpuP (ZfA c):=ZjQ (ZjQ h)
theorem ZjT {x:MemM} {c:CpuM} (h:RamP x):RamP (ZhW x c):=ZjR (ZjR h _ _) _ _
theorem Zsb {c:CpuM} {op arg v:Int} (h:CpuP c):CpuP (ZgE c op arg v):=by
 unfold ZgE addT subT
 repeat' split
 all_goals first|exact Zmi h|exact ZtZ (Zmi h)|exact h|exact ⟨h.a,h.x,h.s,h.pc⟩
theorem Zu6 {c:CpuM} {op:Int} (h:CpuP c):CpuP (ZqV c op):=by
 unfold ZqV
 repeat' split
 all_goals first|exact ZuR h|exact Zmi h|exact Zt0 h|exact ZtZ h|exact h
theorem Zut {x:MemM} {c:CpuM} {op:Int} (h:RamP x):RamP (ZlS x c op):=by
 unfold ZlS
 repeat' split
 all_goals first|exact ZjT h|exact ZjR h _ _|exact h
theorem Zus {x:MemM} {c:CpuM} {op arg:Int} (h:CpuP c):CpuP (Zqf x c op arg):=by
 unfold Zqf
 repeat' split
 all_goals first|exact h|exact Zj6 h (mod65536 _)|exact Zj6 (ZjS h) (mod65536 _)|exact Zq2 h|exact ZjQ h|exact Zmi (ZhV h)|exact Zq2 (ZvN (ZhV h))
theorem ZiR {c:CpuM} {op:Int} (h:CpuP c):CpuP (Zis c op):=Zj6 h (mod65536 _)
theorem Zrt {x:MemM} {c:CpuM} {op:Int} (h:RamP x):RamP (Zn2 x c op):=Zut h
theorem Zrs {x:MemM} {c:CpuM} {op arg v:Int} (h:CpuP c):CpuP (Zqb x c op arg v):=by
 unfold Zqb
 repeat' split
 all_goals first|exact Zsb (ZiR h)|exact Zu6 (ZiR h)|exact Zus (ZiR h)
theorem Zk6 (x:MemM) (c:CpuM) (op:Int):(Zn2 x c op).bank=x.bank:=by
 unfold Zn2 ZlS ZhW
 repeat' split
 all_goals rfl
theorem MemP.of_ram {f:List (List Int)} {x y:MemM} (h:MemP f x) (hy:RamP y) (hb:y.bank=x.bank):MemP f y:=⟨h.img,hy,by rw[hb];exact h.b0,by rw[hb];exact h.b1⟩
def Zk4 (x:MemM) (c:CpuM):MemM:=Zmb (ZhW x c) (ZfA c) (ZoY c)
def ZoU (c:CpuM) (to:Int):CpuM:=Zmj (setI (Zma (ZfA c)) true) to
theorem Zs4 {x:MemM} {c:CpuM} (h:RamP x):RamP (Zk4 x c):=ZjR (ZjT h) _ _
theorem Zs3 {c:CpuM} {to:Int} (h:CpuP c) (ht:0≤to∧to≤65535):CpuP (ZoU c to):=Zj6 (Zt0 (ZjQ (ZjS h))) ht
def opT (f:List (List Int)) (x:MemM) (pc:Int):Int:=Zbx f x pc
def argT (f:List (List Int)) (x:MemM) (pc:Int):Int:=
 if ZaP (Zbx f x pc)=2 then Zbx f x (pc+1)else if ZaP (Zbx f x pc)=3 then ZgA (Zbx f x (pc+1)) (Zbx f x (pc+2))else 0
theorem Ztk (n:Int):1≤ZaP n∧ZaP n≤3:=by
 unfold ZaP
 split
 ·rename_i h
  rcases Zct h with rfl|rfl|rfl|rfl|rfl|rfl|rfl|rfl|rfl|rfl|rfl|rfl|rfl|rfl|rfl|rfl|rfl|rfl|rfl|rfl|rfl|rfl|rfl|rfl|rfl|rfl|rfl|rfl|rfl|rfl<;>decide
 ·decide
theorem ZfW (n:Int):2≤Zba n∧Zba n≤6:=by
 unfold Zba
 split
 ·rename_i h
  rcases Zct h with rfl|rfl|rfl|rfl|rfl|rfl|rfl|rfl|rfl|rfl|rfl|rfl|rfl|rfl|rfl|rfl|rfl|rfl|rfl|rfl|rfl|rfl|rfl|rfl|rfl|rfl|rfl|rfl|rfl|rfl<;>decide
 ·decide
theorem ZtO {f:List (List Int)} {x:MemM} (h:MemP f x) (pc:Int):0≤argT f x pc∧argT f x pc≤65535:=by
 unfold argT
 split
 ·have:=ZhT h (pc+1);omega
 split
 ·exact Zn8 _ _
 ·decide
def accA (op arg x:Int):Int:=if ZaX op=0 then 0 else if op=14∨op=15 then (arg+x)%65536 else arg%65536
def accV (op a:Int):Int:=if ZaX op=2 then a%256 else 0
def ColP (l:List Int):Prop:= ∀n,n∈l→0≤n∧n≤63
structure PpuP (p:PpuM):Prop where
 t:0≤p.T∧p.T≤20000
 ctrl:0≤p.ctrl∧p.ctrl≤255
 scroll:0≤p.scroll∧p.scroll≤255
 addr:0≤p.addr∧p.addr≤15
 pal:0≤p.pal∧p.pal≤63
 len:p.table.length=16
 table:ColP p.table
 dots:(p.dots.length:Int)=if 48<p.T%64 then 0 else p.T%64
 cols:ColP p.dots
theorem Zfz {p:PpuM}:ZgD p.t=true↔PpuP p:=by
 unfold ZgD Znj ZjN PpuM.t
 simp only[Bool.and_eq_true,Zbp,ZgP,Zcm]
 constructor
 ·rintro ⟨⟨a,b,c,d,e⟩,f,g,h,i⟩
  refine ⟨a,b,c,d,e,by omega,g,?_,i⟩
  rw[h,ZmO,Za8 a.1]
 ·rintro ⟨a,b,c,d,e,f,g,h,i⟩
  refine ⟨⟨a,b,c,d,e⟩,by omega,g,?_,i⟩
  rw[h,ZmO,Za8 a.1]
theorem PpuP.s {p:PpuM} (h:PpuP p):Zin p.t:=by
 have h1:=h.len
 have h2:=h.dots
 refine ⟨by show p.table.length≤_;omega,?_⟩
 show p.dots.length≤_
 split at h2<;>omega
def dotN (p:PpuM) (at':Int):Int:=bXor .i64 (rdE .i p.table ((at'%8+p.scroll+at'/8)%16)) p.pal
theorem Zs0 {p:PpuM} (h:PpuP p) (a:Int):0≤dotN p a∧dotN p a≤63:=
 Zua (h.table _ (ZcK (e:= .i) (by omega) (by rw[h.len];omega))) h.pal
def Zc8 (p:PpuM):PpuM:=
 if p.T%64<48 then {p with T:=p.T+1,dots:=p.dots++[dotN p (p.T%64)]}
 else if p.T%64=48 then {p with T:=p.T+1,blank:=true,dots:=[]}
 else if p.T%64=63 then {p with T:=p.T+1,blank:=false}
 else {p with T:=p.T+1}
def Zdl (p:PpuM):Bool:=decide (p.T%64=48)
def Zcn (p:PpuM):List Int:=if p.T%64=48 then p.dots else []
def ZiY (p:PpuM):Bool:=decide (p.T%64=48)&&ltI 127 p.ctrl
theorem ZfM (p:PpuM):(Zc8 p).T=p.T+1:=by
 unfold Zc8
 repeat' split
 all_goals rfl
theorem Zsy {p:PpuM} (h:PpuP p) (ht:p.T<20000):PpuP (Zc8 p):=by
 obtain ⟨a,b,c,d,e,f,g,hd,i⟩:=h
 have hp:PpuP p:=⟨a,b,c,d,e,f,g,hd,i⟩
 unfold Zc8
 split
 ·rename_i h1
  refine ⟨⟨by show 0≤p.T+1;omega,by show p.T+1≤20000;omega⟩,b,c,d,e,f,g,?_,fun n hn=> ?_⟩
  ·show ((p.dots++[dotN p (p.T%64)]).length:Int)=if 48< (p.T+1)%64 then 0 else (p.T+1)%64
   rw[List.length_append,List.length_singleton]
   rw[if_neg (by omega)]at hd
   rw[if_neg (by omega)]
   omega
  ·rcases List.mem_append.1 hn with h2|h2
   ·exact i n h2
   ·rw[List.mem_singleton.1 h2];exact Zs0 hp _
 split
 ·rename_i h1 h2
  refine ⟨⟨by show 0≤p.T+1;omega,by show p.T+1≤20000;omega⟩,b,c,d,e,f,g,?_,fun n hn=>by cases hn⟩
  show (0:Int)=if 48< (p.T+1)%64 then 0 else (p.T+1)%64
  rw[if_pos (by omega)]
 split
 ·rename_i h1 h2 h3
  refine ⟨⟨by show 0≤p.T+1;omega,by show p.T+1≤20000;omega⟩,b,c,d,e,f,g,?_,i⟩
  show (p.dots.length:Int)=if 48< (p.T+1)%64 then 0 else (p.T+1)%64
  rw[if_pos (by omega)]at hd
  split<;>omega
 ·rename_i h1 h2 h3
  refine ⟨⟨by show 0≤p.T+1;omega,by show p.T+1≤20000;omega⟩,b,c,d,e,f,g,?_,i⟩
  show (p.dots.length:Int)=if 48< (p.T+1)%64 then 0 else (p.T+1)%64
  rw[if_pos (by omega)]at hd
  rw[if_pos (by omega)]
  exact hd
theorem Zk9 {p:PpuM} (h:PpuP p) (ht:Zdl p=true):(Zcn p).length=48:=by
 have h1:p.T%64=48:=by simpa [Zdl] using ht
 have hd:=h.dots
 unfold Zcn
 rw[if_pos h1]
 rw[if_neg (by omega),h1]at hd
 omega
def Zcx (p:PpuM) (reg v:Int):PpuM:=
 if reg=0 then {p with ctrl:=v%256}else if reg=1 then {p with scroll:=v%256}else if reg=3 then {p with addr:=(v%256)%16}
 else if reg=4 then {p with addr:=(p.addr+1)%16,table:=p.table.set p.addr.toNat ((v%256)%64)}
 else if reg=5 then {p with pal:=(v%256)%64}else p
theorem ColP.set {l:List Int} (h:ColP l) (i:Nat) {v:Int} (hv:0≤v∧v≤63):ColP (l.set i v):=fun n hn=>by
 rcases List.mem_or_eq_of_mem_set hn with h1|h1
 ·exact h n h1
 ·rw[h1];exact hv
theorem ZpM {p:PpuM} (h:PpuP p) (reg v:Int):PpuP (Zcx p reg v):=by
 have hp:=h
 obtain ⟨a,b,c,d,e,f,g,hd,i⟩:=h
 unfold Zcx
 split
 ·exact ⟨a,mod256 v,c,d,e,f,g,hd,i⟩
 split
 ·exact ⟨a,b,mod256 v,d,e,f,g,hd,i⟩
 split
 ·exact ⟨a,b,c,by show 0≤(v%256)%16∧(v%256)%16≤15;omega,e,f,g,hd,i⟩
 split
 ·exact ⟨a,b,c,by show 0≤(p.addr+1)%16∧(p.addr+1)%16≤15;omega,e,by show (p.table.set _ _).length=16;rw[List.length_set];exact f,g.set _ (by omega),hd,i⟩
 split
 ·exact ⟨a,b,c,d,by show 0≤(v%256)%64∧(v%256)%64≤63;omega,f,g,hd,i⟩
 ·exact hp
theorem Zd6 (p:PpuM) (reg v:Int):(Zcx p reg v).T=p.T:=by
 unfold Zcx
 repeat' split
 all_goals rfl
def Ze2 (p:PpuM) (reg:Int):PpuM:=if reg=2 then {p with blank:=false}else if reg=4 then {p with addr:=(p.addr+1)%16}else p
def Zhf (p:PpuM) (reg:Int):Int:=if reg=2 then 128*Zde p.blank else if reg=4 then rdE .i p.table p.addr else 0
theorem Zr9 {p:PpuM} (h:PpuP p) (reg:Int):PpuP (Ze2 p reg):=by
 have hp:=h
 obtain ⟨a,b,c,d,e,f,g,hd,i⟩:=h
 unfold Ze2
 split
 ·exact ⟨a,b,c,d,e,f,g,hd,i⟩
 split
 ·exact ⟨a,b,c,by show 0≤(p.addr+1)%16∧(p.addr+1)%16≤15;omega,e,f,g,hd,i⟩
 ·exact hp
theorem ZfC (p:PpuM) (reg:Int):(Ze2 p reg).T=p.T:=by
 unfold Ze2
 repeat' split
 all_goals rfl
theorem Zpv {p:PpuM} (h:PpuP p) (reg:Int):0≤Zhf p reg∧Zhf p reg≤255:=by
 unfold Zhf
 split
 ·have:=ZbP p.blank;omega
 split
 ·have:=h.table _ (ZcK (e:= .i) (l:=p.table) h.addr.1 (by have:=h.addr.2;rw[h.len];omega));omega
 ·decide
structure ApuP (a:ApuM):Prop where
 t:0≤a.T∧a.T≤20000
 period:0≤a.period∧a.period≤255
 count:0≤a.count∧a.count≤255
 bit:0≤a.bit∧a.bit≤1
 len:0≤a.len∧a.len≤31
theorem Zeg {a:ApuM}:Zhy a.t=true↔ApuP a:=by
 unfold Zhy ApuM.t
 simp only[Bool.and_eq_true,Zbp]
 constructor
 ·rintro ⟨a,b,c,d,e⟩;exact ⟨a,b,c,d,e⟩
 ·rintro ⟨a,b,c,d,e⟩;exact ⟨a,b,c,d,e⟩
def ZkZ (a:ApuM):ApuM:=
 if a.count=0 then (if 0<a.len then {a with count:=a.period,bit:=1-a.bit}else {a with count:=a.period})else {a with count:=a.count-1}
def ZpV (a:ApuM):ApuM:=
 if a.T%32=0∧0<a.len then {a with len:=a.len-1,irq:=a.irq|| (eqI (a.len-1) 0&&a.asks)}else a
def ZqU (a:ApuM):ApuM:={ZpV (ZkZ a)with T:=a.T+1}
def ZgJ (a:ApuM):Bool:=eqI (a.T%16) 15
def ZfG (a:ApuM):Int:=if a.T%16=15∧(ZpV (ZkZ a)).len≠0 then 8*(ZpV (ZkZ a)).bit else 0
theorem ZsZ {a:ApuM} (h:ApuP a):ApuP (ZkZ a):=by
 have hp:=h
 obtain ⟨t,p,c,b,l⟩:=h
 unfold ZkZ
 split
 ·split
  ·exact ⟨t,p,p,by show 0≤1-a.bit∧1-a.bit≤1;omega,l⟩
  ·exact ⟨t,p,p,b,l⟩
 ·exact ⟨t,p,by show 0≤a.count-1∧a.count-1≤255;omega,b,l⟩
theorem Zub {a:ApuM} (h:ApuP a):ApuP (ZpV a):=by
 have hp:=h
 obtain ⟨t,p,c,b,l⟩:=h
 unfold ZpV
 split
 ·rename_i h1
  exact ⟨t,p,c,b,by show 0≤a.len-1∧a.len-1≤31;omega⟩
 ·exact hp
theorem Zsw {a:ApuM} (h:ApuP a) (ht:a.T<20000):ApuP (ZqU a):=by
 obtain ⟨t,p,c,b,l⟩:=Zub (ZsZ h)
 have:=h.t
 exact ⟨⟨by show 0≤a.T+1;omega,by show a.T+1≤20000;omega⟩,p,c,b,l⟩
def Zgo (a:ApuM) (reg v:Int):ApuM:=
 if reg=0 then {a with period:=v%256}else if reg=1 then {a with len:=(v%256)%32}
 else if reg=2 then {a with asks:=eqI ((v%256)%2) 1,irq:=a.irq&&eqI ((v%256)%2) 1}
 else if reg=3 then {a with irq:=false}else a
theorem ZpJ {a:ApuM} (h:ApuP a) (reg v:Int):ApuP (Zgo a reg v):=by
 have hp:=h
 obtain ⟨t,p,c,b,l⟩:=h
 unfold Zgo
 split
 ·exact ⟨t,mod256 v,c,b,l⟩
 split
 ·exact ⟨t,p,c,b,by show 0≤(v%256)%32∧(v%256)%32≤31;omega⟩
 split
 ·exact ⟨t,p,c,b,l⟩
 split
 ·exact ⟨t,p,c,b,l⟩
 ·exact hp
theorem ZiT (a:ApuM) (reg v:Int):(Zgo a reg v).T=a.T:=by
 unfold Zgo
 repeat' split
 all_goals rfl
def Zhd (a:ApuM) (reg:Int):ApuM:=if reg=2 then {a with irq:=false}else a
def Zgl (a:ApuM) (reg:Int):Int:=if reg=2 then 128*Zde a.irq+Zde (ltI 0 a.len)else 0
theorem Zr7 {a:ApuM} (h:ApuP a) (reg:Int):ApuP (Zhd a reg):=by
 have hp:=h
 obtain ⟨t,p,c,b,l⟩:=h
 unfold Zhd
 split
 ·exact ⟨t,p,c,b,l⟩
 ·exact hp
theorem Zmd (a:ApuM) (reg:Int):(Zhd a reg).T=a.T:=by
 unfold Zhd
 split<;>rfl
theorem Zpt (a:ApuM) (reg:Int):0≤Zgl a reg∧Zgl a reg≤255:=by
 unfold Zgl
 split
 ·have:=ZbP a.irq
  have:=ZbP (ltI 0 a.len)
  omega
 ·decide
structure ZgL (l:List Int):Prop where
 len:l.length≤20
 bytes:Zb4 l
theorem Zdo {l:List Int}:Zfd l=true↔ZgL l:=by
 unfold Zfd
 rw[Bool.and_eq_true,ZeU,ZgP]
 exact ⟨fun ⟨a,b⟩=>⟨by omega,b⟩,fun ⟨a,b⟩=>⟨by omega,b⟩⟩
def ZkG (l:List Int) (t:Int):Int:=if l.length=0 then 0 else rdE .i l ((t/64)% (l.length:Int))
theorem ZrY {l:List Int} (h:ZgL l) (t:Int):0≤ZkG l t∧ZkG l t≤255:=by
 unfold ZkG
 split
 ·decide
 ·exact h.bytes _ (ZcK (e:= .i) (Int.emod_nonneg _ (by omega)) (Int.emod_lt_of_pos _ (by omega)))
def ZlC (x:PadM) (l:List Int) (t v:Int):PadM:={held:=eqI (v%2) 1,shift:=if eqI (v%2) 1||x.held then ZkG l t else x.shift}
def ZqK (x:PadM) (l:List Int) (t:Int):PadM:=if x.held then {held:=true,shift:=ZkG l t}else {held:=false,shift:=x.shift/2}
def Zhe (x:PadM) (l:List Int) (t:Int):Int:=if x.held then ZkG l t%2 else x.shift%2
def PadP (x:PadM):Prop:=0≤x.shift∧x.shift≤255
theorem ZpK {x:PadM} {l:List Int} {t v:Int} (h:PadP x) (hl:ZgL l):PadP (ZlC x l t v):=by
 unfold ZlC PadP
 simp only
 split
 ·exact ZrY hl t
 ·exact h
theorem Zr8 {x:PadM} {l:List Int} {t:Int} (h:PadP x) (hl:ZgL l):PadP (ZqK x l t):=by
 unfold ZqK
 split
 ·exact ZrY hl t
 ·unfold PadP at h⊢
  show 0≤x.shift/2∧x.shift/2≤255
  omega
theorem Zpu (x:PadM) (l:List Int) (t:Int):0≤Zhe x l t∧Zhe x l t≤255:=by
 unfold Zhe
 split<;>omega
structure Zas where
 img:List (List Int)
 pads:List Int
 mem:MemM
 cpu:CpuM
 ppu:PpuM
 apu:ApuM
 pad:PadM
 nmi:Bool
 steps:Int
 frames:List (List Int)
 samples:List Int
 reads:List Int
def Zas.t (l:Zas):Tup ZhN:=(l.img,(l.pads,(l.mem.ram,(l.mem.bank,(l.cpu.a,(l.cpu.x,(l.cpu.s,(l.cpu.pc,(l.cpu.z,(l.cpu.n,(l.cpu.c,(l.cpu.i,
 (l.ppu.T,(l.ppu.ctrl,(l.ppu.scroll,(l.ppu.addr,(l.ppu.pal,(l.ppu.blank,(l.ppu.table,(l.ppu.dots,
 (l.apu.T,(l.apu.period,(l.apu.count,(l.apu.bit,(l.apu.len,(l.apu.asks,(l.apu.irq,(l.pad.held,(l.pad.shift,(l.nmi,(l.steps,(l.frames,(l.samples,(l.reads,()))))))))))))))))))))))))))))))))))
def lkM (a:Tup ZhN):Zas:=⟨ZvT a,Zvy a,memM (Zl4 a),cpuM (Zqr a),ppuM (Zl5 a),apuM (ZuB a),padM (Zqs a),a.2.2.2.2.2.2.2.2.2.2.2.2.2.2.2.2.2.2.2.2.2.2.2.2.2.2.2.2.2.1,a.2.2.2.2.2.2.2.2.2.2.2.2.2.2.2.2.2.2.2.2.2.2.2.2.2.2.2.2.2.2.1,
 (ZhK a).1,(ZhK a).2.1,(ZhK a).2.2.1⟩
def ZbN (t:Int):Int:=(t+15)/64
structure ZbO (l:Zas):Prop where
 mem:MemP l.img l.mem
 pads:ZgL l.pads
 cpu:CpuP l.cpu
 ppu:PpuP l.ppu
 apu:ApuP l.apu
 pad:PadP l.pad
 t:l.apu.T=l.ppu.T
 s0:0≤l.steps
 s1:l.steps≤l.ppu.T
 fr: ∀f,f∈l.frames→f.length=48
 frn:(l.frames.length:Int)=ZbN l.ppu.T
 sam:(l.samples.length:Int)=l.ppu.T/16
theorem ZdR {f:List (List Int)} {t:Int} (ht:0≤t):Zco f t=true↔(∀l,l∈f→l.length=48)∧(f.length:Int)=ZbN t:=by
 unfold Zco ZbN
 rw[Bool.and_eq_true,List.all_eq_true,Zcm,Int.tdiv_eq_ediv_of_nonneg (by omega)]
 constructor
 ·rintro ⟨a,b⟩;exact ⟨fun l hl=>by have:=Zcm.1 (a l hl);omega,b⟩
 ·rintro ⟨a,b⟩;exact ⟨fun l hl=>Zcm.2 (by have:=a l hl;omega),b⟩
theorem Zdi {s:List Int} {t:Int} (ht:0≤t):ZdE s t=true↔(s.length:Int)=t/16:=by
 unfold ZdE
 rw[Zcm,Int.tdiv_eq_ediv_of_nonneg ht]
theorem Zq7: ∀{f:List (List Int)},(∀l,l∈f→l.length=48)→bulk f=48*f.length
 | [],_=>rfl
 |x::f,h=>by
  simp only[bulk,List.length_cons]
  rw[Zq7 fun l hl=>h l (List.mem_cons_of_mem _ hl),h x List.mem_cons_self]
  omega
theorem Zio {f:List (List Int)} (h: ∀l,l∈f→l.length=48) (hn:f.length≤1048576):small f:=
 ⟨by omega,fun l hl=>by have:=h l hl;omega,by rw[Zq7 h];omega⟩
theorem ZbO.s {l:Zas} (h:ZbO l) (hr:l.reads.length≤4398046511104):Zfx l.t:=by
 have h1:=h.ppu.t
 have h2:=h.frn
 have h3:=h.sam
 have h4:=h.mem.ram.len
 have h5:=h.pads.len
 unfold ZbN at h2
 exact ⟨h.mem.img.small,by show l.pads.length≤_;omega,by show l.mem.1.length≤_;omega,h.ppu.s,Zio (f:=l.frames) h.fr (by omega),by show l.samples.length≤_;omega,hr⟩
def ZdK (l:Zas) (a:Int):Zas:=
 if (rgT a).1=2 then {l with ppu:=Ze2 l.ppu (rgT a).2,reads:=l.reads++[Zhf l.ppu (rgT a).2]}
 else if (rgT a).1=3 then {l with apu:=Zhd l.apu (rgT a).2,reads:=l.reads++[Zgl l.apu (rgT a).2]}
 else if (rgT a).1=4 then {l with pad:=ZqK l.pad l.pads l.ppu.T,reads:=l.reads++[Zhe l.pad l.pads l.ppu.T]}
 else l
def ZjV (l:Zas) (a:Int):Int:=
 if (rgT a).1=2 then Zhf l.ppu (rgT a).2 else if (rgT a).1=3 then Zgl l.apu (rgT a).2 else if (rgT a).1=4 then Zhe l.pad l.pads l.ppu.T else Zbx l.img l.mem a
def Zca (l:Zas) (a v:Int):Zas:=
 if (rgT a).1=2 then {l with ppu:=Zcx l.ppu (rgT a).2 v}else if (rgT a).1=3 then {l with apu:=Zgo l.apu (rgT a).2 v}
 else if (rgT a).1=4 then {l with pad:=ZlC l.pad l.pads l.ppu.T v}else {l with mem:=ZkI l.img l.mem a v}
theorem ZuN {l:Zas} (h:ZbO l) (a:Int):ZbO (ZdK l a):=by
 have hp:=h
 obtain ⟨m,ps,c,p,u,d,t,s0,s1,f,fn,sm⟩:=h
 unfold ZdK
 split
 ·exact ⟨m,ps,c,Zr9 p _,u,d,t.trans (ZfC _ _).symm,s0,by rw[show ((Ze2 l.ppu (rgT a).2).T:Int)=l.ppu.T from ZfC _ _];exact s1,f,by show _=ZbN (Ze2 l.ppu (rgT a).2).T;rw[ZfC];exact fn,by show _=((Ze2 l.ppu (rgT a).2).T:Int)/16;rw[ZfC];exact sm⟩
 split
 ·exact ⟨m,ps,c,p,Zr7 u _,d,(Zmd _ _).trans t,s0,s1,f,fn,sm⟩
 split
 ·exact ⟨m,ps,c,p,u,Zr8 d ps,t,s0,s1,f,fn,sm⟩
 ·exact hp
theorem Ztw {l:Zas} (h:ZbO l) (a:Int):0≤ZjV l a∧ZjV l a≤255:=by
 unfold ZjV
 split
 ·exact Zpv h.ppu _
 split
 ·exact Zpt _ _
 split
 ·exact Zpu _ _ _
 ·exact ZhT h.mem a
theorem ZpL {l:Zas} (h:ZbO l) (a v:Int):ZbO (Zca l a v):=by
 have hp:=h
 obtain ⟨m,ps,c,p,u,d,t,s0,s1,f,fn,sm⟩:=h
 unfold Zca
 split
 ·exact ⟨m,ps,c,ZpM p _ _,u,d,t.trans (Zd6 _ _ _).symm,s0,by rw[show ((Zcx l.ppu (rgT a).2 v).T:Int)=l.ppu.T from Zd6 _ _ _];exact s1,f,by show _=ZbN (Zcx l.ppu (rgT a).2 v).T;rw[Zd6];exact fn,by show _=((Zcx l.ppu (rgT a).2 v).T:Int)/16;rw[Zd6];exact sm⟩
 split
 ·exact ⟨m,ps,c,p,ZpJ u _ _,d,(ZiT _ _ _).trans t,s0,s1,f,fn,sm⟩
 split
 ·exact ⟨m,ps,c,p,u,ZpK d ps,t,s0,s1,f,fn,sm⟩
 ·exact ⟨Zr1 m _ _,ps,c,p,u,d,t,s0,s1,f,fn,sm⟩
theorem ZuO (l:Zas) (a:Int):(ZdK l a).ppu.T=l.ppu.T:=by
 unfold ZdK
 repeat' split
 all_goals first|exact ZfC _ _|rfl
theorem ZtL (l:Zas) (a v:Int):(Zca l a v).ppu.T=l.ppu.T:=by
 unfold Zca
 repeat' split
 all_goals first|exact Zd6 _ _ _|rfl
theorem ZjW (l:Zas) (a:Int):(ZdK l a).img=l.img∧(ZdK l a).mem=l.mem∧(ZdK l a).cpu=l.cpu∧(ZdK l a).steps=l.steps∧(ZdK l a).pads=l.pads∧(ZdK l a).nmi=l.nmi:=by
 unfold ZdK
 repeat' split
 all_goals exact ⟨rfl,rfl,rfl,rfl,rfl,rfl⟩
theorem Zf3 (l:Zas) (a v:Int):(Zca l a v).img=l.img∧(Zca l a v).cpu=l.cpu∧(Zca l a v).steps=l.steps∧(Zca l a v).reads=l.reads∧(Zca l a v).pads=l.pads∧(Zca l a v).nmi=l.nmi:=by
 unfold Zca
 repeat' split
 all_goals exact ⟨rfl,rfl,rfl,rfl,rfl,rfl⟩
theorem Zox (l:Zas) (a:Int):(ZdK l a).reads.length≤l.reads.length+1:=by
 unfold ZdK
 repeat' split
 all_goals simp
def vecN (f:List (List Int)) (x:MemM) (v:Int):Int:=ZgA (Zbx f x v) (Zbx f x (v+1))
def ZbY (l:Zas) (v:Int):Zas:={l with mem:=Zk4 l.mem l.cpu,cpu:=ZoU l.cpu (vecN l.img l.mem v)}
theorem Zt2 (f:List (List Int)) (x:MemM) (v:Int):0≤vecN f x v∧vecN f x v≤65535:=Zn8 _ _
theorem Zo3 {l:Zas} (h:ZbO l) (v:Int):ZbO (ZbY l v):=by
 obtain ⟨m,ps,c,p,u,d,t,s0,s1,f,fn,sm⟩:=h
 exact ⟨m.of_ram (Zs4 m.ram) rfl,ps,Zs3 c (Zt2 _ _ _),p,u,d,t,s0,s1,f,fn,sm⟩
def ZoT (l:Zas) (op arg v:Int):Zas:={l with mem:=Zn2 l.mem l.cpu op,cpu:=Zqb l.mem l.cpu op arg v}
theorem ZlO {l:Zas} (h:ZbO l) (op arg v:Int):ZbO (ZoT l op arg v):=by
 obtain ⟨m,ps,c,p,u,d,t,s0,s1,f,fn,sm⟩:=h
 exact ⟨m.of_ram (Zrt m.ram) (Zk6 _ _ _),ps,Zrs c,p,u,d,t,s0,s1,f,fn,sm⟩
def opL (l:Zas) (op arg:Int):Zas:=
 if ZaX op=1 then ZoT (ZdK l (accA op arg l.cpu.x)) op arg (ZjV l (accA op arg l.cpu.x))
 else if ZaX op=2 then ZoT (Zca l (accA op arg l.cpu.x) (l.cpu.a%256)) op arg 0
 else ZoT l op arg 0
theorem ZvV {l:Zas} (h:ZbO l) (op arg:Int):ZbO (opL l op arg):=by
 unfold opL
 split
 ·exact ZlO (ZuN h _) _ _ _
 split
 ·exact ZlO (ZpL h _ _) _ _ _
 ·exact ZlO h _ _ _
theorem ZvW (l:Zas) (op arg:Int):(opL l op arg).ppu.T=l.ppu.T:=by
 unfold opL
 split
 ·exact ZuO _ _
 split
 ·exact ZtL _ _ _
 ·rfl
theorem ZrU (l:Zas) (op arg:Int):(opL l op arg).steps=l.steps:=by
 unfold opL
 split
 ·exact (ZjW _ _).2.2.2.1
 split
 ·exact (Zf3 _ _ _).2.2.1
 ·rfl
theorem ZrT (l:Zas) (op arg:Int):(opL l op arg).reads.length≤l.reads.length+1:=by
 unfold opL
 split
 ·exact Zox _ _
 split
 ·show (Zca l _ _).reads.length≤_;rw[(Zf3 _ _ _).2.2.2.1];omega
 ·show l.reads.length≤_;omega
def Zf9 (l:Zas):Zas:=
 {l with ppu:=Zc8 l.ppu,apu:=ZqU l.apu,nmi:=l.nmi||ZiY l.ppu,frames:=if Zdl l.ppu then l.frames++[Zcn l.ppu]else l.frames,samples:=if ZgJ l.apu then l.samples++[ZfG l.apu]else l.samples}
theorem Zsx {l:Zas} (h:ZbO l) (ht:l.ppu.T<20000):ZbO (Zf9 l):=by
 obtain ⟨m,ps,c,p,u,d,t,s0,s1,f,fn,sm⟩:=h
 have p0:=p.t.1
 refine ⟨m,ps,c,Zsy p ht,Zsw u (by omega),d,?_,s0,?_,?_,?_,?_⟩
 ·show l.apu.T+1=(Zc8 l.ppu).T
  rw[ZfM,t]
 ·show l.steps≤((Zc8 l.ppu).T:Int)
  rw[ZfM];omega
 ·intro x hx
  have hx:x∈(if Zdl l.ppu then l.frames++[Zcn l.ppu]else l.frames):=hx
  split at hx
  ·rename_i ht
   rcases List.mem_append.1 hx with h1|h1
   ·exact f x h1
   ·rw[List.mem_singleton.1 h1];exact Zk9 p ht
  ·exact f x hx
 ·show ((if Zdl l.ppu then l.frames++[Zcn l.ppu]else l.frames).length:Int)=ZbN (Zc8 l.ppu).T
  rw[ZfM]
  unfold ZbN Zdl at*
  by_cases h1:l.ppu.T%64=48
  ·simp only[h1,decide_true,if_true,List.length_append,List.length_singleton]
   omega
  ·simp only[h1,decide_false,Bool.false_eq_true,if_false]
   omega
 ·show ((if ZgJ l.apu then l.samples++[ZfG l.apu]else l.samples).length:Int)=((Zc8 l.ppu).T:Int)/16
  rw[ZfM]
  by_cases h1:l.apu.T%16=15
  ·rw[show ZgJ l.apu=true from Zav h1,if_pos rfl,List.length_append,List.length_singleton]
   omega
  ·rw[show ZgJ l.apu=false from Zaq h1,if_neg (by simp)]
   omega
theorem ZoO (l:Zas):(Zf9 l).ppu.T=l.ppu.T+1:=ZfM _
def Zbk:Nat→Zas→Zas
 |0,l=>l
 |n+1,l=>Zbk n (Zf9 l)
theorem Zmt: ∀{n:Nat} {l:Zas},ZbO l→l.ppu.T+n≤20000→ZbO (Zbk n l)∧(Zbk n l).ppu.T=l.ppu.T+n∧(Zbk n l).steps=l.steps∧(Zbk n l).reads=l.reads
 |0,l,h,ht=>⟨h,by show l.ppu.T=l.ppu.T+0;omega,rfl,rfl⟩
 |n+1,l,h,ht=>by
  obtain ⟨a,b,c,d⟩:=Zmt (n:=n) (Zsx h (by omega)) (by rw[ZoO];omega)
  refine ⟨a,?_,c,d⟩
  show (Zbk n (Zf9 l)).ppu.T=_
  rw[b,ZoO]
  omega
def ZkT (l:Zas):Bool:=l.nmi|| (l.apu.irq&& !l.cpu.i)
def Zbd (l:Zas):Int:=opT l.img l.mem l.cpu.pc
def ZeM (l:Zas):Int:=argT l.img l.mem l.cpu.pc
def ZbB (l:Zas):Int:=if ZkT l then 7 else Zba (Zbd l)
def doL (l:Zas):Zas:=
 if l.nmi then ZbY {l with nmi:=false} 65530 else if l.apu.irq&& !l.cpu.i then ZbY l 65534 else opL l (Zbd l) (ZeM l)
def mayL (l:Zas):Bool:=decide (l.ppu.T+ZbB l≤20000)
def ZdF (l:Zas):Zas:=let m:=Zbk (ZbB l).toNat (doL l);{m with steps:=m.steps+1}
theorem Zvj {l:Zas} (h:ZbO l):ZbO (doL l):=by
 unfold doL
 split
 ·exact Zo3 (l:={l with nmi:=false}) ⟨h.mem,h.pads,h.cpu,h.ppu,h.apu,h.pad,h.t,h.s0,h.s1,h.fr,h.frn,h.sam⟩ _
 split
 ·exact Zo3 h _
 ·exact ZvV h _ _
theorem Zvk (l:Zas):(doL l).ppu.T=l.ppu.T:=by
 unfold doL
 split
 ·rfl
 split
 ·rfl
 ·exact ZvW _ _ _
theorem Zrl (l:Zas):(doL l).steps=l.steps:=by
 unfold doL
 split
 ·rfl
 split
 ·rfl
 ·exact ZrU _ _ _
theorem Zrk (l:Zas):(doL l).reads.length≤l.reads.length+1:=by
 unfold doL
 split
 ·show l.reads.length≤_;omega
 split
 ·show l.reads.length≤_;omega
 ·exact ZrT _ _ _
theorem ZmN (l:Zas):2≤ZbB l∧ZbB l≤7:=by
 unfold ZbB
 split
 ·omega
 ·have:=ZfW (Zbd l);omega
theorem ZuW {l:Zas} (h:ZbO l) (hm:mayL l=true):ZbO (ZdF l)∧(ZdF l).ppu.T=l.ppu.T+ZbB l∧(ZdF l).steps=l.steps+1∧(ZdF l).reads.length≤l.reads.length+1:=by
 have hm:l.ppu.T+ZbB l≤20000:=by simpa [mayL] using hm
 have hc:=ZmN l
 have hd:=Zvk l
 obtain ⟨a,b,c,d⟩:=Zmt (n:=(ZbB l).toNat) (Zvj h) (by omega)
 have e:(ZdF l).ppu.T=l.ppu.T+ZbB l:=by
  show (Zbk (ZbB l).toNat (doL l)).ppu.T=_
  rw[b,hd];omega
 have e2:(ZdF l).steps=l.steps+1:=by
  show (Zbk (ZbB l).toNat (doL l)).steps+1=_
  rw[c,Zrl]
 obtain ⟨m,ps,cc,p,u,dd,t,s0,s1,f,fn,sm⟩:=a
 refine ⟨⟨m,ps,cc,p,u,dd,t,by have:=h.s0;omega,by have:=h.s1;have:=h.s0;rw[e,e2];omega,f,fn,sm⟩,e,e2,?_⟩
 show (Zbk (ZbB l).toNat (doL l)).reads.length≤_
 rw[d]
 exact Zrk l
def runL:Nat→Zas→Zas×Nat
 |0,l=>(l,0)
 |n+1,l=>if mayL l then ((runL n (ZdF l)).1,(runL n (ZdF l)).2+1)else (l,0)
abbrev Rc:=Int×Int×Int
def RcP (x:Rc):Prop:=(0≤x.1∧x.1≤20000)∧(0≤x.2.1∧x.2.1≤7)∧(0≤x.2.2∧x.2.2≤255)
structure Zkr (cap:Int) (l:List Rc):Prop where
 rec': ∀x,x∈l→RcP x
 ord:l.Pairwise (fun a b=>a.1≤b.1)
 c0:1≤cap
 c1:cap≤16
 len:(l.length:Int)≤cap
theorem Zop {l:List Rc} (h: ∀i,(hi:i+1<l.length)→l[i].1≤l[i+1].1):l.Pairwise (fun a b=>a.1≤b.1):=by
 rw[List.pairwise_iff_getElem]
 intro i j hi hj hij
 induction j with
 |zero=>omega
 |succ j ih=>
  rcases Nat.lt_or_ge i j with h1|h1
  ·exact Int.le_trans (ih (by omega) h1) (h j hj)
  ·have:i=j:=by omega
   subst this
   exact h i hj
theorem Zdp {r:Tup Zey}:Zd0 r=true↔Zkr r.1 r.2.1:=by
 unfold Zd0
 rw[Bool.and_eq_true,Bool.and_eq_true,List.all_eq_true,Zbp,ZeU]
 have hg: ∀i,(hi:i<r.2.1.length)→rdE .t r.2.1 (i:Int)=r.2.1[i]:=fun i hi=>ZaA .t r.2.1 i hi
 constructor
 ·rintro ⟨h,⟨c0,c1⟩,hl⟩
  have key: ∀i,(hi:i<r.2.1.length)→RcP r.2.1[i]∧(i≠0→ ¬(r.2.1[i]).1< (rdE .t r.2.1 ((i-1:Nat):Int)).1):=fun i hi=>by
   have:=h i (by rw[List.mem_range'];exact ⟨i,hi,by omega⟩)
   unfold ZfE at this
   rw[hg i hi]at this
   simp only[Bool.and_eq_true,Zbp,Bool.or_eq_true,decide_eq_true_eq,Bool.not_eq_true']at this
   obtain ⟨a,b,c,d⟩:=this
   refine ⟨⟨a,b,c⟩,fun h0=> ?_⟩
   rcases d with d|d
   ·exact absurd d h0
   ·intro hlt
    rw[show ltI (r.2.1[i]).1 (rdE .t r.2.1 ((i-1:Nat):Int)).1=true from Zaj hlt]at d
    cases d
  refine ⟨fun x hx=> ?_,Zop fun i hi=> ?_,c0,c1,hl⟩
  ·obtain ⟨i,hi,rfl⟩:=List.getElem_of_mem hx
   exact (key i hi).1
  ·have:=(key (i+1) hi).2 (by omega)
   rw[Nat.add_sub_cancel,hg i (by omega)]at this
   omega
 ·rintro ⟨h,ho,c0,c1,hl⟩
  refine ⟨fun i hi=> ?_,⟨c0,c1⟩,hl⟩
  rw[List.mem_range']at hi
  obtain ⟨j,hj,e⟩:=hi
  have hi:i<r.2.1.length:=by omega
  unfold ZfE
  rw[hg i hi]
  obtain ⟨a,b,c⟩:=h _ (List.getElem_mem hi)
  simp only[Bool.and_eq_true,Zbp,Bool.or_eq_true,decide_eq_true_eq,Bool.not_eq_true']
  refine ⟨a,b,c,?_⟩
  by_cases h0:i=0
  ·exact .inl h0
  ·right
   rw[hg (i-1) (by omega)]
   have:=List.pairwise_iff_getElem.1 ho (i-1) i (by omega) hi (by omega)
   exact ZaB (by omega)
theorem ZdY {r:Tup Zey} {t:Int} (h:r.2.1.Pairwise (fun a b=>a.1≤b.1)):ZdX r t=true↔ ∀x,x∈r.2.1→t≤x.1:=by
 unfold ZdX
 obtain ⟨cap,l,_⟩:=r
 simp only at h⊢
 cases l with
 |nil=>simp
 |cons y l=>
  simp only[List.length_cons,Nat.add_one_ne_zero,if_false]
  rw[show rdE .t (y::l) (0:Int)=y from rfl,ZeU]
  constructor
  ·intro h1 x hx
   cases hx with
   |head=>exact h1
   |tail _ hx=>exact Int.le_trans h1 ((List.pairwise_cons.1 h).1 x hx)
  ·intro h1;exact h1 y List.mem_cons_self
theorem ZdZ {r:Tup Zey} {t:Int} (h:r.2.1.Pairwise (fun a b=>a.1≤b.1)):ZcP r t=true↔ ∀x,x∈r.2.1→x.1≤t:=by
 unfold ZcP
 obtain ⟨cap,l,_⟩:=r
 simp only at h⊢
 by_cases h0:l.length=0
 ·have:l=[]:=List.eq_nil_of_length_eq_zero h0
  subst this
  simp
 ·rw[if_neg h0,ZaA .t l (l.length-1) (by omega),ZeU]
  constructor
  ·intro h1 x hx
   obtain ⟨i,hi,rfl⟩:=List.getElem_of_mem hx
   rcases Nat.lt_or_ge i (l.length-1)with h2|h2
   ·exact Int.le_trans (List.pairwise_iff_getElem.1 h i (l.length-1) hi (by omega) h2) h1
   ·have:i=l.length-1:=by omega
    subst this
    exact h1
  ·intro h1;exact h1 _ (List.getElem_mem _)
structure PicM where
 ppu:PpuM
 cap:Int
 list:List Rc
 frames:List (List Int)
structure SndM where
 apu:ApuM
 cap:Int
 list:List Rc
 samples:List Int
def PicM.t (w:PicM):Tup picL:=(w.ppu.T,(w.ppu.ctrl,(w.ppu.scroll,(w.ppu.addr,(w.ppu.pal,(w.ppu.blank,(w.ppu.table,(w.ppu.dots,(w.cap,(w.list,(w.frames,())))))))))))
def SndM.t (w:SndM):Tup sndL:=(w.apu.T,(w.apu.period,(w.apu.count,(w.apu.bit,(w.apu.len,(w.apu.asks,(w.apu.irq,(w.cap,(w.list,(w.samples,()))))))))))
structure PicP (w:PicM):Prop where
 ppu:PpuP w.ppu
 ring:Zkr w.cap w.list
 lo: ∀x,x∈w.list→w.ppu.T≤x.1
 fr: ∀f,f∈w.frames→f.length=48
 frn:(w.frames.length:Int)=ZbN w.ppu.T
structure SndP (w:SndM):Prop where
 apu:ApuP w.apu
 ring:Zkr w.cap w.list
 lo: ∀x,x∈w.list→w.apu.T≤x.1
 sam:(w.samples.length:Int)=w.apu.T/16
theorem Zni {w:PicM}:ZkH w.t=true↔PicP w:=by
 unfold ZkH
 simp only[Bool.and_eq_true]
 constructor
 ·rintro ⟨a,b,c,d⟩
  have a:=Zfz.1 (show ZgD w.ppu.t=true from a)
  have b:=Zdp.1 b
  have d:=(ZdR a.t.1).1 (show Zco w.frames w.ppu.T=true from d)
  exact ⟨a,b,(ZdY b.ord).1 c,d.1,d.2⟩
 ·rintro ⟨a,b,c,d,e⟩
  exact ⟨Zfz.2 a,Zdp.2 b,(ZdY (r:=(w.cap,(w.list,()))) b.ord).2 c,(ZdR a.t.1).2 ⟨d,e⟩⟩
theorem Znt {w:SndM}:ZkL w.t=true↔SndP w:=by
 unfold ZkL
 simp only[Bool.and_eq_true]
 constructor
 ·rintro ⟨a,b,c,d⟩
  have a:=Zeg.1 (show Zhy w.apu.t=true from a)
  have b:=Zdp.1 b
  have d:=(Zdi a.t.1).1 (show ZdE w.samples w.apu.T=true from d)
  exact ⟨a,b,(ZdY b.ord).1 c,d⟩
 ·rintro ⟨a,b,c,d⟩
  exact ⟨Zeg.2 a,Zdp.2 b,(ZdY (r:=(w.cap,(w.list,()))) b.ord).2 c,(Zdi a.t.1).2 d⟩
theorem PicP.s {w:PicM} (h:PicP w):Znh w.t:=by
 have h1:=h.ppu.t
 have h2:=h.frn
 have h3:=h.ring.len
 have h4:=h.ring.c1
 unfold ZbN at h2
 exact ⟨h.ppu.s,by show w.list.length≤_;omega,Zio (f:=w.frames) h.fr (by omega)⟩
theorem SndP.s {w:SndM} (h:SndP w):Zns w.t:=by
 have h1:=h.apu.t
 have h2:=h.sam
 have h3:=h.ring.len
 have h4:=h.ring.c1
 exact ⟨by show w.list.length≤_;omega,by show w.samples.length≤_;omega⟩
theorem Zkr.tail {cap:Int} {x:Rc} {l:List Rc} (h:Zkr cap (x::l)):Zkr cap l:=
 ⟨fun y hy=>h.rec' y (List.mem_cons_of_mem _ hy),(List.pairwise_cons.1 h.ord).2,h.c0,h.c1,by have:=h.len;simp only[List.length_cons]at this;omega⟩
def due (l:List Rc) (t:Int):Bool:=match l with| []=>false|x::_=>decide (x.1=t)
def ZeO (l:List Rc):Rc:=match l with| []=>(0,(0,0))|x::_=>x
def Za2 (w:PicM) (mark:Int):Option PicM:=
 if due w.list w.ppu.T then some {w with ppu:=Zcx w.ppu (ZeO w.list).2.1 (ZeO w.list).2.2,list:=w.list.tail}
 else if w.ppu.T<mark∧w.ppu.T<20000 then some {w with ppu:=Zc8 w.ppu,frames:=if Zdl w.ppu then w.frames++[Zcn w.ppu]else w.frames}else none
def Za3 (w:SndM) (mark:Int):Option SndM:=
 if due w.list w.apu.T then some {w with apu:=Zgo w.apu (ZeO w.list).2.1 (ZeO w.list).2.2,list:=w.list.tail}
 else if w.apu.T<mark∧w.apu.T<20000 then some {w with apu:=ZqU w.apu,samples:=if ZgJ w.apu then w.samples++[ZfG w.apu]else w.samples}else none
theorem ZiI {l:List Rc} {t:Int} (h:due l t=true):l=ZeO l::l.tail∧(ZeO l).1=t:=by
 unfold due ZeO at*
 cases l with
 |nil=>cases h
 |cons x l=>exact ⟨rfl,by simpa using h⟩
theorem ZrP {l:List Rc} {t:Int} (ho:l.Pairwise (fun a b=>a.1≤b.1)) (hl: ∀x,x∈l→t≤x.1) (h:due l t=false): ∀x,x∈l→t+1≤x.1:=by
 unfold due at h
 cases l with
 |nil=>intro x hx;cases hx
 |cons y l=>
  have h:y.1≠t:=by simpa using h
  have h1:=hl y List.mem_cons_self
  intro x hx
  cases hx with
  |head=>omega
  |tail _ hx=>have:=(List.pairwise_cons.1 ho).1 x hx;omega
theorem ZdG {w v:PicM} {mark:Int} (h:PicP w) (hs:Za2 w mark=some v):PicP v∧v.cap=w.cap∧(∀x,x∈v.list→x∈w.list)∧
  (v.ppu.T=w.ppu.T∧v.list.length+1=w.list.length∨v.ppu.T=w.ppu.T+1∧w.ppu.T<mark∧w.ppu.T<20000∧v.list=w.list):=by
 obtain ⟨p,r,lo,f,fn⟩:=h
 unfold Za2 at hs
 split at hs
 ·rename_i hd
  obtain ⟨e,e1⟩:=ZiI hd
  simp only[Option.some.injEq]at hs
  subst hs
  rw[e]at r lo
  refine ⟨⟨ZpM p _ _,r.tail,fun x hx=> ?_,f,?_⟩,rfl,fun x hx=> ?_, .inl ⟨Zd6 _ _ _,?_⟩⟩
  ·show (Zcx w.ppu _ _).T≤x.1
   rw[Zd6]
   exact lo x (List.mem_cons_of_mem _ hx)
  ·show (w.frames.length:Int)=ZbN (Zcx w.ppu _ _).T
   rw[Zd6];exact fn
  ·show x∈w.list
   rw[e];exact List.mem_cons_of_mem _ hx
  ·show w.list.tail.length+1=w.list.length
   conv=>rhs;rw[e]
   rfl
 ·split at hs
  ·rename_i hd hm
   simp only[Option.some.injEq]at hs
   subst hs
   have hd:due w.list w.ppu.T=false:=by simpa using hd
   have p0:=p.t.1
   refine ⟨⟨Zsy p hm.2,r,fun x hx=> ?_,fun x hx=> ?_,?_⟩,rfl,fun x hx=>hx, .inr ⟨ZfM _,hm.1,hm.2,rfl⟩⟩
   ·show (Zc8 w.ppu).T≤x.1
    rw[ZfM]
    exact ZrP r.ord lo hd x hx
   ·have hx:x∈(if Zdl w.ppu then w.frames++[Zcn w.ppu]else w.frames):=hx
    split at hx
    ·rename_i ht
     rcases List.mem_append.1 hx with h1|h1
     ·exact f x h1
     ·rw[List.mem_singleton.1 h1];exact Zk9 p ht
    ·exact f x hx
   ·show ((if Zdl w.ppu then w.frames++[Zcn w.ppu]else w.frames).length:Int)=ZbN (Zc8 w.ppu).T
    rw[ZfM]
    unfold ZbN Zdl at*
    by_cases h1:w.ppu.T%64=48
    ·simp only[h1,decide_true,if_true,List.length_append,List.length_singleton]
     omega
    ·simp only[h1,decide_false,Bool.false_eq_true,if_false]
     omega
  ·cases hs
theorem ZdH {w v:SndM} {mark:Int} (h:SndP w) (hs:Za3 w mark=some v):SndP v∧v.cap=w.cap∧(∀x,x∈v.list→x∈w.list)∧
  (v.apu.T=w.apu.T∧v.list.length+1=w.list.length∨v.apu.T=w.apu.T+1∧w.apu.T<mark∧w.apu.T<20000∧v.list=w.list):=by
 obtain ⟨p,r,lo,fn⟩:=h
 unfold Za3 at hs
 split at hs
 ·rename_i hd
  obtain ⟨e,e1⟩:=ZiI hd
  simp only[Option.some.injEq]at hs
  subst hs
  rw[e]at r lo
  refine ⟨⟨ZpJ p _ _,r.tail,fun x hx=> ?_,?_⟩,rfl,fun x hx=> ?_, .inl ⟨ZiT _ _ _,?_⟩⟩
  ·show (Zgo w.apu _ _).T≤x.1
   rw[ZiT]
   exact lo x (List.mem_cons_of_mem _ hx)
  ·show (w.samples.length:Int)=(Zgo w.apu _ _).T/16
   rw[ZiT];exact fn
  ·show x∈w.list
   rw[e];exact List.mem_cons_of_mem _ hx
  ·show w.list.tail.length+1=w.list.length
   conv=>rhs;rw[e]
   rfl
 ·split at hs
  ·rename_i hd hm
   simp only[Option.some.injEq]at hs
   subst hs
   have hd:due w.list w.apu.T=false:=by simpa using hd
   have p0:=p.t.1
   refine ⟨⟨Zsw p hm.2,r,fun x hx=>ZrP r.ord lo hd x hx,?_⟩,rfl,fun x hx=>hx, .inr ⟨rfl,hm.1,hm.2,rfl⟩⟩
   show ((if ZgJ w.apu then w.samples++[ZfG w.apu]else w.samples).length:Int)=(w.apu.T+1)/16
   by_cases h1:w.apu.T%16=15
   ·rw[show ZgJ w.apu=true from Zav h1,if_pos rfl,List.length_append,List.length_singleton]
    omega
   ·rw[show ZgJ w.apu=false from Zaq h1,if_neg (by simp)]
    omega
  ·cases hs
def Zbz:Nat→PicM→Int→PicM
 |0,w,_=>w
 |n+1,w,m=>match Za2 w m with|none=>w|some v=>Zbz n v m
def ZbA:Nat→SndM→Int→SndM
 |0,w,_=>w
 |n+1,w,m=>match Za3 w m with|none=>w|some v=>ZbA n v m
def Zb0 (w:PicM):Nat:=w.list.length+(20000-w.ppu.T).toNat
def Zb1 (w:SndM):Nat:=w.list.length+(20000-w.apu.T).toNat
theorem Zeq {w v:PicM} {m:Int} (h:PicP w) (hs:Za2 w m=some v):Zb0 v<Zb0 w:=by
 obtain ⟨a,_,_,c⟩:=ZdG h hs
 unfold Zb0
 have:=h.ppu.t
 rcases c with ⟨c,d⟩| ⟨c,d,e,f⟩
 ·rw[c];omega
 ·rw[c,f];omega
theorem Zer {w v:SndM} {m:Int} (h:SndP w) (hs:Za3 w m=some v):Zb1 v<Zb1 w:=by
 obtain ⟨a,_,_,c⟩:=ZdH h hs
 unfold Zb1
 have:=h.apu.t
 rcases c with ⟨c,d⟩| ⟨c,d,e,f⟩
 ·rw[c];omega
 ·rw[c,f];omega
def ZaH (w:PicM) (m:Int):PicM:=Zbz (Zb0 w) w m
def ZaI (w:SndM) (m:Int):SndM:=ZbA (Zb1 w) w m
theorem Zi5: ∀{n:Nat} {w:PicM} {m:Int},PicP w→Zb0 w≤n→Zbz n w m=ZaH w m:=by
 intro n
 induction n using Nat.strongRecOn with
 |ind n ih=>
  intro w m h hn
  unfold ZaH
  cases n with
  |zero=>rw[show Zb0 w=0 by omega]
  |succ n=>
   cases hs:Za2 w m with
   |none=>
    rw[show Zbz (n+1) w m=w by rw[Zbz,hs]]
    cases Zb0 w with
    |zero=>rfl
    |succ k=>rw[Zbz,hs]
   |some v=>
    have h1:=Zeq h hs
    rw[show Zbz (n+1) w m=Zbz n v m by rw[Zbz,hs]]
    rw[ih n (by omega) (ZdG h hs).1 (by omega)]
    obtain ⟨k,hk⟩: ∃k,Zb0 w=k+1:=⟨Zb0 w-1,by omega⟩
    rw[hk,show Zbz (k+1) w m=Zbz k v m by rw[Zbz,hs]]
    exact (ih k (by omega) (ZdG h hs).1 (by omega)).symm
theorem Zi6: ∀{n:Nat} {w:SndM} {m:Int},SndP w→Zb1 w≤n→ZbA n w m=ZaI w m:=by
 intro n
 induction n using Nat.strongRecOn with
 |ind n ih=>
  intro w m h hn
  unfold ZaI
  cases n with
  |zero=>rw[show Zb1 w=0 by omega]
  |succ n=>
   cases hs:Za3 w m with
   |none=>
    rw[show ZbA (n+1) w m=w by rw[ZbA,hs]]
    cases Zb1 w with
    |zero=>rfl
    |succ k=>rw[ZbA,hs]
   |some v=>
    have h1:=Zer h hs
    rw[show ZbA (n+1) w m=ZbA n v m by rw[ZbA,hs]]
    rw[ih n (by omega) (ZdH h hs).1 (by omega)]
    obtain ⟨k,hk⟩: ∃k,Zb1 w=k+1:=⟨Zb1 w-1,by omega⟩
    rw[hk,show ZbA (k+1) w m=ZbA k v m by rw[ZbA,hs]]
    exact (ih k (by omega) (ZdH h hs).1 (by omega)).symm
theorem Zga {w v:PicM} {m:Int} (h:PicP w) (hs:Za2 w m=some v):ZaH w m=ZaH v m:=by
 have h1:=Zeq h hs
 obtain ⟨k,hk⟩: ∃k,Zb0 w=k+1:=⟨Zb0 w-1,by omega⟩
 unfold ZaH
 rw[hk,show Zbz (k+1) w m=Zbz k v m by rw[Zbz,hs]]
 exact Zi5 (ZdG h hs).1 (by omega)
theorem Zb5 {w:PicM} {m:Int} (hs:Za2 w m=none):ZaH w m=w:=by
 unfold ZaH
 cases Zb0 w with
 |zero=>rfl
 |succ k=>rw[Zbz,hs]
theorem Zgb {w v:SndM} {m:Int} (h:SndP w) (hs:Za3 w m=some v):ZaI w m=ZaI v m:=by
 have h1:=Zer h hs
 obtain ⟨k,hk⟩: ∃k,Zb1 w=k+1:=⟨Zb1 w-1,by omega⟩
 unfold ZaI
 rw[hk,show ZbA (k+1) w m=ZbA k v m by rw[ZbA,hs]]
 exact Zi6 (ZdH h hs).1 (by omega)
theorem Zb6 {w:SndM} {m:Int} (hs:Za3 w m=none):ZaI w m=w:=by
 unfold ZaI
 cases Zb1 w with
 |zero=>rfl
 |succ k=>rw[ZbA,hs]
theorem ZeH {Q:PicM→Prop} {m:Int} (hq: ∀w v,PicP w→Q w→Za2 w m=some v→Q v): ∀(n:Nat) {w:PicM},Zb0 w≤n→PicP w→Q w→PicP (ZaH w m)∧Q (ZaH w m)∧Za2 (ZaH w m) m=none
 |0,w,hn,h,q=>by
  cases hs:Za2 w m with
  |none=>rw[Zb5 hs];exact ⟨h,q,hs⟩
  |some v=>have:=Zeq h hs;omega
 |n+1,w,hn,h,q=>by
  cases hs:Za2 w m with
  |none=>rw[Zb5 hs];exact ⟨h,q,hs⟩
  |some v=>
   rw[Zga h hs]
   exact ZeH hq n (by have:=Zeq h hs;omega) (ZdG h hs).1 (hq w v h q hs)
theorem ZeI {Q:SndM→Prop} {m:Int} (hq: ∀w v,SndP w→Q w→Za3 w m=some v→Q v): ∀(n:Nat) {w:SndM},Zb1 w≤n→SndP w→Q w→SndP (ZaI w m)∧Q (ZaI w m)∧Za3 (ZaI w m) m=none
 |0,w,hn,h,q=>by
  cases hs:Za3 w m with
  |none=>rw[Zb6 hs];exact ⟨h,q,hs⟩
  |some v=>have:=Zer h hs;omega
 |n+1,w,hn,h,q=>by
  cases hs:Za3 w m with
  |none=>rw[Zb6 hs];exact ⟨h,q,hs⟩
  |some v=>
   rw[Zgb h hs]
   exact ZeI hq n (by have:=Zer h hs;omega) (ZdH h hs).1 (hq w v h q hs)
structure Zac where
 img:List (List Int)
 pads:List Int
 mem:MemM
 cpu:CpuM
 pad:PadM
 T:Int
 nmi:Bool
 ctrl:Int
 known:Bool
 knownAt:Int
 steps:Int
 reads:List Int
 pic:PicM
 snd:SndM
def Zac.t (s:Zac):Tup ZbF:=(s.img,(s.pads,(s.mem.ram,(s.mem.bank,(s.cpu.a,(s.cpu.x,(s.cpu.s,(s.cpu.pc,(s.cpu.z,(s.cpu.n,(s.cpu.c,(s.cpu.i,(s.pad.held,(s.pad.shift,
 (s.T,(s.nmi,(s.ctrl,(s.known,(s.knownAt,(s.steps,(s.reads,
 (s.pic.ppu.T,(s.pic.ppu.ctrl,(s.pic.ppu.scroll,(s.pic.ppu.addr,(s.pic.ppu.pal,(s.pic.ppu.blank,(s.pic.ppu.table,(s.pic.ppu.dots,(s.pic.cap,(s.pic.list,(s.pic.frames,s.snd.t))))))))))))))))))))))))))))))))
structure Zaz (s:Zac):Prop where
 mem:MemP s.img s.mem
 pads:ZgL s.pads
 cpu:CpuP s.cpu
 pic:PicP s.pic
 snd:SndP s.snd
 pad:PadP s.pad
 ctrl:0≤s.ctrl∧s.ctrl≤255
 t:0≤s.T∧s.T≤20000
 known:0≤s.knownAt∧s.knownAt≤s.T
 steps:0≤s.steps∧s.steps≤s.T
 pt:s.pic.ppu.T≤s.T
 st:s.snd.apu.T≤s.T
 pl: ∀x,x∈s.pic.list→x.1≤s.T
 sl: ∀x,x∈s.snd.list→x.1≤s.T
theorem ZaO {s:Zac}:ZaV s.t=true↔Zaz s:=by
 unfold ZaV Zf0 ZiP ZiO
 simp only[Bool.and_eq_true,Zbp]
 constructor
 ·rintro ⟨⟨a,b,c,d,e⟩,⟨f,g,h,i,j⟩,k,l,m,n⟩
  have d:=Zni.1 (show ZkH s.pic.t=true from d)
  have e:=Znt.1 (show ZkL s.snd.t=true from e)
  exact ⟨ZdB.1 a,Zdo.1 b,ZgT.1 c,d,e,f,g,h,i,j,ZeU.1 k,ZeU.1 l,(ZdZ d.ring.ord).1 m,(ZdZ e.ring.ord).1 n⟩
 ·rintro ⟨a,b,c,d,e,f,g,h,i,j,k,l,m,n⟩
  exact ⟨⟨ZdB.2 a,Zdo.2 b,ZgT.2 c,Zni.2 d,Znt.2 e⟩,⟨f,g,h,i,j⟩,ZeU.2 k,ZeU.2 l,(ZdZ (r:=(s.pic.cap,(s.pic.list,()))) d.ring.ord).2 m,(ZdZ (r:=(s.snd.cap,(s.snd.list,()))) e.ring.ord).2 n⟩
theorem Zaz.s {s:Zac} (h:Zaz s) (hr:s.reads.length≤4398046511104):ZaG s.t:=by
 have h4:=h.mem.ram.len
 have h5:=h.pads.len
 exact ⟨h.mem.img.small,by show s.pads.length≤_;omega,by show s.mem.1.length≤_;omega,hr,h.pic.s,h.snd.s⟩
def Zgk (s:Zac):Bool:=eqI s.pic.ppu.T s.T&&eqI (s.pic.list.length:Int) 0
def Zd3 (s:Zac):Bool:=eqI s.snd.apu.T s.T&&eqI (s.snd.list.length:Int) 0
def Zkt (a b:Int):Bool:=decide ((a+31)/32< (b+31)/32)
def ZtP (a b:Int):Bool:=decide ((a+15)/64< (b+15)/64)
def Zf6 (s:Zac) (n:Int):Int:=if 20000<s.T+n then 5 else 0
def ZjE (s:Zac):Bool:= !s.nmi&&(!s.cpu.i&&Zkt s.knownAt s.T)
def askM (s:Zac):Bool:=(if Zkt s.knownAt s.T then s.snd.apu.irq else s.known)&& !s.cpu.i
def opS (s:Zac):Int:=opT s.img s.mem s.cpu.pc
def argS (s:Zac):Int:=argT s.img s.mem s.cpu.pc
def adrS (s:Zac):Int:=accA (opS s) (argS s) s.cpu.x
def ZdN (s:Zac):Int:=
 if s.nmi then Zf6 s 7 else if ZjE s&& !Zd3 s then 2 else if askM s then Zf6 s 7
 else if ZaX (opS s)=1∧(rgT (adrS s)).1=2∧Zgk s=false then 1 else if ZaX (opS s)=1∧(rgT (adrS s)).1=3∧Zd3 s=false then 2
 else if ZaX (opS s)=2∧(rgT (adrS s)).1=2∧s.pic.cap≤(s.pic.list.length:Int)then 3 else if ZaX (opS s)=2∧(rgT (adrS s)).1=3∧s.snd.cap≤(s.snd.list.length:Int)then 4
 else Zf6 s (Zba (opS s))
def Zfg (s:Zac) (b:Bool):Zac:={s with known:=b,knownAt:=s.T}
def ZfD (s:Zac) (a:Int):Zac:=
 if (rgT a).1=2 then {s with pic:={s.pic with ppu:=Ze2 s.pic.ppu (rgT a).2},reads:=s.reads++[Zhf s.pic.ppu (rgT a).2]}
 else if (rgT a).1=3 then
  (if (rgT a).2=2 then {s with snd:={s.snd with apu:=Zhd s.snd.apu (rgT a).2},known:=false,knownAt:=s.T,reads:=s.reads++[Zgl s.snd.apu (rgT a).2]}
  else {s with snd:={s.snd with apu:=Zhd s.snd.apu (rgT a).2},reads:=s.reads++[Zgl s.snd.apu (rgT a).2]})
 else if (rgT a).1=4 then {s with pad:=ZqK s.pad s.pads s.T,reads:=s.reads++[Zhe s.pad s.pads s.T]}
 else s
def ZjY (s:Zac) (a:Int):Int:=
 if (rgT a).1=2 then Zhf s.pic.ppu (rgT a).2 else if (rgT a).1=3 then Zgl s.snd.apu (rgT a).2 else if (rgT a).1=4 then Zhe s.pad s.pads s.T else Zbx s.img s.mem a
def ZcZ (s:Zac) (a v:Int):Zac:=
 if (rgT a).1=2 then {s with pic:={s.pic with list:=s.pic.list++[(s.T,((rgT a).2,v))]},ctrl:=if (rgT a).2=0 then v else s.ctrl}
 else if (rgT a).1=3 then
  (if (rgT a).2=3∨(rgT a).2=2∧v%2=0 then {s with snd:={s.snd with list:=s.snd.list++[(s.T,((rgT a).2,v))]},known:=false,knownAt:=s.T}
  else {s with snd:={s.snd with list:=s.snd.list++[(s.T,((rgT a).2,v))]}})
 else if (rgT a).1=4 then {s with pad:=ZlC s.pad s.pads s.T v}else {s with mem:=ZkI s.img s.mem a v}
def Zlc (s:Zac) (v:Int):Zac:={s with mem:=Zk4 s.mem s.cpu,cpu:=ZoU s.cpu (vecN s.img s.mem v)}
def Zru (s:Zac) (op arg v:Int):Zac:={s with mem:=Zn2 s.mem s.cpu op,cpu:=Zqb s.mem s.cpu op arg v}
def opDo (s:Zac):Zac:=
 if ZaX (opS s)=1 then Zru (ZfD s (adrS s)) (opS s) (argS s) (ZjY s (adrS s))
 else if ZaX (opS s)=2 then Zru (ZcZ s (adrS s) (s.cpu.a%256)) (opS s) (argS s) 0
 else Zru s (opS s) (argS s) 0
def Zbi (s:Zac):Zac:=if ZjE s then Zfg s s.snd.apu.irq else s
def Zrn (s:Zac):Zac×Int:=
 if s.nmi then (Zlc {s with nmi:=false} 65530,7)else if s.known&& !s.cpu.i then (Zlc s 65534,7)else (opDo s,Zba (opS s))
def endS (a:Int) (r:Zac×Int):Zac:={r.1 with T:=a+r.2,nmi:=ltI 127 r.1.ctrl&&ZtP a (a+r.2),steps:=r.1.steps+1}
def Zso (s:Zac):Zac:=endS s.T (Zrn (Zbi s))
structure Zee (s:Zac) (s':Zac):Prop where
 img:s'.img=s.img
 pads:s'.pads=s.pads
 T:s'.T=s.T
 nmi:s'.nmi=s.nmi
 steps:s'.steps=s.steps
 reads:s'.reads.length≤s.reads.length+1
structure ZqX (s:Zac):Prop where
 p:Zaz s
 room:ZaX (opS s)=2→(rgT (adrS s)).1=2→(s.pic.list.length:Int)<s.pic.cap
 room':ZaX (opS s)=2→(rgT (adrS s)).1=3→(s.snd.list.length:Int)<s.snd.cap
theorem ZuP {s:Zac} (h:Zaz s) (a:Int):Zaz (ZfD s a):=by
 have hp:=h
 obtain ⟨m,ps,c,pc,sd,d,ct,t,kn,st,pt,sdt,pl,sl⟩:=h
 unfold ZfD
 split
 ·exact ⟨m,ps,c,⟨Zr9 pc.ppu _,pc.ring,fun x hx=>by show (Ze2 s.pic.ppu _).T≤_;rw[ZfC];exact pc.lo x hx,pc.fr,by show _=ZbN (Ze2 s.pic.ppu _).T;rw[ZfC];exact pc.frn⟩,sd,d,ct,t,kn,st,by show (Ze2 s.pic.ppu _).T≤_;rw[ZfC];exact pt,sdt,pl,sl⟩
 split
 ·have sd':SndP {s.snd with apu:=Zhd s.snd.apu (rgT a).2}:=⟨Zr7 sd.apu _,sd.ring,fun x hx=>by show (Zhd s.snd.apu _).T≤_;rw[Zmd];exact sd.lo x hx,by show _=(Zhd s.snd.apu _).T/16;rw[Zmd];exact sd.sam⟩
  have sdt':(Zhd s.snd.apu (rgT a).2).T≤s.T:=by rw[Zmd];exact sdt
  split
  ·exact ⟨m,ps,c,pc,sd',d,ct,t,⟨t.1,Int.le_refl _⟩,st,pt,sdt',pl,sl⟩
  ·exact ⟨m,ps,c,pc,sd',d,ct,t,kn,st,pt,sdt',pl,sl⟩
 split
 ·exact ⟨m,ps,c,pc,sd,Zr8 d ps,ct,t,kn,st,pt,sdt,pl,sl⟩
 ·exact hp
theorem Ztx {s:Zac} (h:Zaz s) (a:Int):0≤ZjY s a∧ZjY s a≤255:=by
 unfold ZjY
 split
 ·exact Zpv h.pic.ppu _
 split
 ·exact Zpt _ _
 split
 ·exact Zpu _ _ _
 ·exact ZhT h.mem a
theorem Zoy (s:Zac) (a:Int):Zee s (ZfD s a)∧(ZfD s a).cpu=s.cpu∧(ZfD s a).mem=s.mem:=by
 unfold ZfD
 repeat' split
 all_goals exact ⟨⟨rfl,rfl,rfl,rfl,rfl,by simp⟩,rfl,rfl⟩
theorem Zkr.app {cap:Int} {l:List Rc} (h:Zkr cap l) {x:Rc} (hx:RcP x) (hl: ∀y,y∈l→y.1≤x.1) (hc:(l.length:Int)<cap):Zkr cap (l++[x]):=
 ⟨fun y hy=>by
  rcases List.mem_append.1 hy with h1|h1
  ·exact h.rec' y h1
  ·rw[List.mem_singleton.1 h1];exact hx,
 List.pairwise_append.2 ⟨h.ord,List.pairwise_singleton _ _,fun a ha b hb=>by rw[List.mem_singleton.1 hb];exact hl a ha⟩,h.c0,h.c1,by rw[List.length_append,List.length_singleton];omega⟩
theorem ZpN {s:Zac} (h:Zaz s) {a v:Int} (hv:0≤v∧v≤255) (r1:(rgT a).1=2→(s.pic.list.length:Int)<s.pic.cap) (r2:(rgT a).1=3→(s.snd.list.length:Int)<s.snd.cap):Zaz (ZcZ s a v):=by
 have hp:=h
 obtain ⟨m,ps,c,pc,sd,d,ct,t,kn,st,pt,sdt,pl,sl⟩:=h
 have app: ∀{l:List Rc} {lo:Int},(∀x,x∈l→lo≤x.1)→lo≤s.T→ ∀x,x∈l++[(s.T,((rgT a).2,v))]→lo≤x.1:=fun h1 h2 x hx=>by
  rcases List.mem_append.1 hx with h3|h3
  ·exact h1 x h3
  ·rw[List.mem_singleton.1 h3];exact h2
 have app2: ∀{l:List Rc},(∀x,x∈l→x.1≤s.T)→ ∀x,x∈l++[(s.T,((rgT a).2,v))]→x.1≤s.T:=fun h1 x hx=>by
  rcases List.mem_append.1 hx with h3|h3
  ·exact h1 x h3
  ·rw[List.mem_singleton.1 h3];exact Int.le_refl _
 unfold ZcZ
 split
 ·rename_i e
  have hr:0≤(rgT a).2∧(rgT a).2≤7:=by
   rcases Zex a with ⟨e',h0,h1⟩| ⟨e',h0,h1⟩| ⟨e',h0,h1⟩| ⟨e',h0⟩| ⟨e',h0,h1⟩| ⟨e',h0,h1⟩| ⟨e',h0⟩<;>omega
  refine ⟨m,ps,c,⟨pc.ppu,pc.ring.app ⟨t,hr,hv⟩ pl (r1 e),app pc.lo pt,pc.fr,pc.frn⟩,sd,d,?_,t,kn,st,pt,sdt,app2 pl,sl⟩
  show 0≤(if (rgT a).2=0 then v else s.ctrl)∧(if (rgT a).2=0 then v else s.ctrl)≤255
  split
  ·exact hv
  ·exact ct
 split
 ·rename_i e
  have hr:0≤(rgT a).2∧(rgT a).2≤7:=by
   rcases Zex a with ⟨e',h0,h1⟩| ⟨e',h0,h1⟩| ⟨e',h0,h1⟩| ⟨e',h0⟩| ⟨e',h0,h1⟩| ⟨e',h0,h1⟩| ⟨e',h0⟩<;>omega
  have sd':SndP {s.snd with list:=s.snd.list++[(s.T,((rgT a).2,v))]}:=⟨sd.apu,sd.ring.app ⟨t,hr,hv⟩ sl (r2 e),app sd.lo sdt,sd.sam⟩
  split
  ·exact ⟨m,ps,c,pc,sd',d,ct,t,⟨t.1,Int.le_refl _⟩,st,pt,sdt,pl,app2 sl⟩
  ·exact ⟨m,ps,c,pc,sd',d,ct,t,kn,st,pt,sdt,pl,app2 sl⟩
 split
 ·exact ⟨m,ps,c,pc,sd,ZpK d ps,ct,t,kn,st,pt,sdt,pl,sl⟩
 ·exact ⟨Zr1 m _ _,ps,c,pc,sd,d,ct,t,kn,st,pt,sdt,pl,sl⟩
theorem Zmv (s:Zac) (a v:Int):Zee s (ZcZ s a v)∧(ZcZ s a v).cpu=s.cpu:=by
 unfold ZcZ
 repeat' split
 all_goals exact ⟨⟨rfl,rfl,rfl,rfl,rfl,Nat.le_succ _⟩,rfl⟩
theorem Zn3 {s:Zac} (h:Zaz s) (op arg v:Int):Zaz (Zru s op arg v):=by
 obtain ⟨m,ps,c,pc,sd,d,ct,t,kn,st,pt,sdt,pl,sl⟩:=h
 exact ⟨m.of_ram (Zrt m.ram) (Zk6 _ _ _),ps,Zrs c,pc,sd,d,ct,t,kn,st,pt,sdt,pl,sl⟩
theorem Zee.exec {s s':Zac} (h:Zee s s') (op arg v:Int):Zee s (Zru s' op arg v):=⟨h.img,h.pads,h.T,h.nmi,h.steps,h.reads⟩
theorem ZtV {s:Zac} (h:ZqX s):Zaz (opDo s)∧Zee s (opDo s):=by
 unfold opDo
 split
 ·exact ⟨Zn3 (ZuP h.p _) _ _ _,(Zoy s _).1.exec _ _ _⟩
 split
 ·rename_i e
  exact ⟨Zn3 (ZpN h.p (mod256 _) (h.room e) (h.room' e)) _ _ _,(Zmv s _ _).1.exec _ _ _⟩
 ·exact ⟨Zn3 h.p _ _ _,⟨rfl,rfl,rfl,rfl,rfl,Nat.le_succ _⟩⟩
theorem Zo6 {s:Zac} (h:Zaz s):Zaz (Zbi s):=by
 unfold Zbi
 split
 ·obtain ⟨m,ps,c,pc,sd,d,ct,t,kn,st,pt,sdt,pl,sl⟩:=h
  exact ⟨m,ps,c,pc,sd,d,ct,t,⟨t.1,Int.le_refl _⟩,st,pt,sdt,pl,sl⟩
 ·exact h
theorem Zod (s:Zac):(Zbi s).img=s.img∧(Zbi s).mem=s.mem∧(Zbi s).cpu=s.cpu∧(Zbi s).pic=s.pic∧(Zbi s).snd=s.snd∧(Zbi s).T=s.T∧(Zbi s).nmi=s.nmi∧(Zbi s).steps=s.steps∧(Zbi s).reads=s.reads∧(Zbi s).pads=s.pads:=by
 unfold Zbi
 split<;>exact ⟨rfl,rfl,rfl,rfl,rfl,rfl,rfl,rfl,rfl,rfl⟩
theorem Zoe (s:Zac) (hn:s.nmi=false):((Zbi s).known&& !s.cpu.i)=askM s:=by
 unfold Zbi ZjE askM
 rw[hn]
 cases hI:s.cpu.i with
 |true=>simp
 |false=>
  cases hb:Zkt s.knownAt s.T with
  |true=>simp[Zfg]
  |false=>simp
theorem ZhS {s:Zac} {n:Int} (h:Zf6 s n=0):s.T+n≤20000:=by
 unfold Zf6 at h
 split at h
 ·omega
 ·omega
def ZqF (s:Zac) (who:Int):Option Zac:=
 if who=0 then (if ZdN s=0 then some (Zso s)else none)
 else if who=1 then (Za2 s.pic s.T).map fun p=>{s with pic:=p}else if who=2 then (Za3 s.snd s.T).map fun p=>{s with snd:=p}else none
def Zet (s:Zac):Zac:={s with pic:=ZaH s.pic s.T,snd:=ZaI s.snd s.T}
theorem ZiK {s:Zac} (h:Zaz s):Zaz (Zet s)∧Za2 (Zet s).pic s.T=none∧Za3 (Zet s).snd s.T=none:=by
 have a:=ZeH (m:=s.T) (Q:=fun w=>w.ppu.T≤s.T∧ ∀x,x∈w.list→x.1≤s.T) (fun w v hw hq hs=>by
  obtain ⟨a,b,c,d⟩:=ZdG hw hs
  exact ⟨by have:=hq.1;rcases d with d|d<;>omega,fun x hx=>hq.2 x (c x hx)⟩) _ (Nat.le_refl _) h.pic ⟨h.pt,h.pl⟩
 have b:=ZeI (m:=s.T) (Q:=fun w=>w.apu.T≤s.T∧ ∀x,x∈w.list→x.1≤s.T) (fun w v hw hq hs=>by
  obtain ⟨a,b,c,d⟩:=ZdH hw hs
  exact ⟨by have:=hq.1;rcases d with d|d<;>omega,fun x hx=>hq.2 x (c x hx)⟩) _ (Nat.le_refl _) h.snd ⟨h.st,h.sl⟩
 obtain ⟨m,ps,cc,pc,sd,dd,ct,t,kn,st,pt,sdt,pl,sl⟩:=h
 exact ⟨⟨m,ps,cc,a.1,b.1,dd,ct,t,kn,st,a.2.1.1,b.2.1.1,a.2.1.2,b.2.1.2⟩,a.2.2,b.2.2⟩

end Go.Proofs.YtmlahgmhbdpkjaaGreatDoor.Plain
