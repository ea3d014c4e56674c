/- Plain laws of the printed functions: Exec, UnitM, LockM, SplitM. No condition beyond those that each lemma states. -/
import Derived.Test.YtleidaafbhojfaaGreatDoorPA
set_option linter.unusedVariables false
set_option linter.unusedSimpArgs false
namespace Go.Proofs.YtleidaafbhojfaaGreatDoor.Plain
open Go Go.Tev
theorem ZjM (b:BitVec 64):BitVec.ofInt 64 (IntKind.i64.wrap (b.toNat:Int))=b:=by
 rw[IntKind.wrap_i64]
 apply BitVec.eq_of_toNat_eq
 rw[Zeq]
 have h:=b.isLt
 omega
theorem ZpN (x y:Int):BitVec.ofInt 64 (bOr .i64 x y)=BitVec.ofInt 64 x|||BitVec.ofInt 64 y:=ZjM (BitVec.ofInt 64 x|||BitVec.ofInt 64 y)
theorem ZnA (x y:Int):BitVec.ofInt 64 (bXor .i64 x y)=BitVec.ofInt 64 x^^^BitVec.ofInt 64 y:=ZjM (BitVec.ofInt 64 x^^^BitVec.ofInt 64 y)
theorem ZcJ (x y:Int):BitVec.ofInt 64 (bAnd .i64 x y)=BitVec.ofInt 64 x&&&BitVec.ofInt 64 y:=ZjM (BitVec.ofInt 64 x&&&BitVec.ofInt 64 y)
theorem ZjK {x y:Int} (h:BitVec.ofInt 64 x&&&BitVec.ofInt 64 255=BitVec.ofInt 64 y&&&BitVec.ofInt 64 255):x%256=y%256:=by
 rw[←Zdq x,←Zdq y]
 show IntKind.i64.wrap (BitVec.ofInt 64 x&&&BitVec.ofInt 64 255).toNat=IntKind.i64.wrap (BitVec.ofInt 64 y&&&BitVec.ofInt 64 255).toNat
 rw[h]
theorem ZtO (a b:Int):bAnd .i64 (a%256) (b%256)%256=bAnd .i64 a b%256:=by
 apply ZjK
 rw[ZcJ,ZcJ,←Zdq a,←Zdq b,ZcJ,ZcJ]
 ext i
 simp only[BitVec.getElem_and]
 cases (BitVec.ofInt 64 a)[i]<;>cases (BitVec.ofInt 64 b)[i]<;>cases (BitVec.ofInt 64 255)[i]<;>rfl
theorem ZvJ (a b:Int):bOr .i64 (a%256) (b%256)%256=bOr .i64 a b%256:=by
 apply ZjK
 rw[ZpN,ZpN,←Zdq a,←Zdq b,ZcJ,ZcJ]
 ext i
 simp only[BitVec.getElem_and,BitVec.getElem_or]
 cases (BitVec.ofInt 64 a)[i]<;>cases (BitVec.ofInt 64 b)[i]<;>cases (BitVec.ofInt 64 255)[i]<;>rfl
theorem ZtP (a b:Int):bXor .i64 (a%256) (b%256)%256=bXor .i64 a b%256:=by
 apply ZjK
 rw[ZnA,ZnA,←Zdq a,←Zdq b,ZcJ,ZcJ]
 ext i
 simp only[BitVec.getElem_and,BitVec.getElem_xor]
 cases (BitVec.ofInt 64 a)[i]<;>cases (BitVec.ofInt 64 b)[i]<;>cases (BitVec.ofInt 64 255)[i]<;>rfl
theorem Zw4 {a b:Int} (ha:0≤a∧a≤63) (hb:0≤b∧b≤63):0≤bXor .i64 a b∧bXor .i64 a b≤63:=by
 have e1:(BitVec.ofInt 64 a).toNat=a.toNat:=by rw[Zeq,Int.emod_eq_of_lt (by omega) (by omega)]
 have e2:(BitVec.ofInt 64 b).toNat=b.toNat:=by rw[Zeq,Int.emod_eq_of_lt (by omega) (by omega)]
 have e3:(BitVec.ofInt 64 a^^^BitVec.ofInt 64 b).toNat<2^6:=by
  rw[BitVec.toNat_xor,e1,e2]
  exact Nat.xor_lt_two_pow (by omega) (by omega)
 have:bXor .i64 a b=((BitVec.ofInt 64 a^^^BitVec.ofInt 64 b).toNat:Int):=by
  show wI ((BitVec.ofInt 64 a^^^BitVec.ofInt 64 b).toNat:Int)=_
  exact Zas (by omega) (by omega)
 rw[this]
 omega
def ZoC (c:CpuM) (p:Int):CpuM:={c with pc:=p}
def setC (c:CpuM) (b:Bool):CpuM:={c with c:=b}
def setI (c:CpuM) (b:Bool):CpuM:={c with i:=b}
def addT (c:CpuM) (b:Int):CpuM:=setC (Zgu c (addS c.a b c.c%256)) (ltI 255 (addS c.a b c.c))
def subT (c:CpuM) (b:Int):CpuM:=setC (Zgu c (subS c.a b c.c%256)) (leI 0 (subS c.a b c.c))
def cpiT (c:CpuM) (b:Int):CpuM:={c with z:=eqI ((c.a%256-b%256)%256) 0,n:=ltI 127 ((c.a%256-b%256)%256),c:=leI (b%256) (c.a%256)}
def ZdV (c:CpuM) (op arg v:Int):CpuM:=
 if op=1 then Zgu c arg else if op=2∨op=14 then Zgu c v else if op=4 then addT c arg else if op=29 then addT c v else if op=5 then subT c arg
 else if op=6 then Zgu c (bAnd .i64 c.a arg)else if op=7 then Zgu c (bOr .i64 c.a arg)else if op=8 then Zgu c (bXor .i64 c.a arg)else if op=9 then cpiT c arg else c
def ZcV (op:Int):Bool:=decide (op=1∨op=2∨op=14∨op=4∨op=29∨op=5∨op=6∨op=7∨op=8∨op=9)
def Zru (c:CpuM) (op:Int):CpuM:=
 if op=10 then ZmX c c.a else if op=11 then Zgu c c.x else if op=12 then ZmX c (c.x+1)else if op=13 then ZmX c (c.x-1)
 else if op=25 then setI c true else if op=26 then setI c false else if op=27 then setC c true else if op=28 then setC c false else c
def Znr (op:Int):Bool:=decide (op=10∨op=11∨op=12∨op=13∨op=25∨op=26∨op=27∨op=28)
def ZtQ (x:MemM) (c:CpuM):CpuM:=ZoC (ZfC (ZfC c)) (ZkB (Ze8 x c) (Ze8 x (ZfC c)))
def shr8 (p:Int):Int:=p.fdiv 256
def Zil (x:MemM) (c:CpuM):MemM:=ZjP (ZjP x c (shr8 c.pc)) (ZjO c) c.pc
def ZfZ (c:CpuM):CpuM:=ZjO (ZjO c)
def Zls (x:MemM) (c:CpuM) (op:Int):MemM:=if op=20 then Zil x c else if op=22 then ZjP x c c.a else x
def Zpk (x:MemM) (c:CpuM) (op arg:Int):CpuM:=
 if op=16 then (if c.z then c else ZoC c (arg%65536))else if op=17 then (if c.z then ZoC c (arg%65536)else c)else if op=18 then (if c.c then ZoC c (arg%65536)else c)
 else if op=19 then ZoC c (arg%65536)else if op=20 then ZoC (ZfZ c) (arg%65536)else if op=21 then ZtQ x c else if op=22 then ZjO c else if op=23 then Zgu (ZfC c) (Ze8 x c)
 else if op=24 then ZtQ x (wfT (ZfC c) (Ze8 x c))else c
def ZbL (c:CpuM) (op:Int):CpuM:=ZoC c ((c.pc+ZbQ op)%65536)
def Zn8 (x:MemM) (c:CpuM) (op:Int):MemM:=Zls x (ZbL c op) op
def Zpf (x:MemM) (c:CpuM) (op arg v:Int):CpuM:=
 if ZcV op then ZdV (ZbL c op) op arg v else if Znr op then Zru (ZbL c op) op else Zpk x (ZbL c op) op arg
theorem Zmi {c:CpuM} {p:Int} (h:CpuP c) (hp:0≤p∧p≤65535):CpuP (ZoC c p):=⟨h.a,h.x,h.s,hp⟩
theorem ZwW {c:CpuM} {b:Bool} (h:CpuP c):CpuP (setC c b):=⟨h.a,h.x,h.s,h.pc⟩
theorem ZwX {c:CpuM} {b:Bool} (h:CpuP c):CpuP (setI c b):=⟨h.a,h.x,h.s,h.pc⟩
theorem mod65536 (x:Int):0≤x%65536∧x%65536≤65535:=by omega
theorem ZqM (a b:Int):0≤ZkB a b∧ZkB a b≤65535:=by unfold ZkB;omega
theorem ZtR {x:MemM} {c:CpuM} (h:CpuP c):CpuP (ZtQ x c):=Zmi (ZgT (ZgT h)) (ZqM _ _)
theorem Zi5 {c:CpuM} (h:CpuP c):CpuP (ZfZ c):=Zij (Zij h)
theorem Zi6 {x:MemM} {c:CpuM} (h:RamP x):RamP (Zil x c):=Zik (Zik h _ _) _ _
theorem Zu2 {c:CpuM} {op arg v:Int} (h:CpuP c):CpuP (ZdV c op arg v):=by
 unfold ZdV addT subT
 repeat' split
 all_goals first|exact ZoB h|exact ZwW (ZoB h)|exact h|exact ⟨h.a,h.x,h.s,h.pc⟩
theorem ZxZ {c:CpuM} {op:Int} (h:CpuP c):CpuP (Zru c op):=by
 unfold Zru
 repeat' split
 all_goals first|exact ZxP h|exact ZoB h|exact ZwX h|exact ZwW h|exact h
theorem Zxr {x:MemM} {c:CpuM} {op:Int} (h:RamP x):RamP (Zls x c op):=by
 unfold Zls
 repeat' split
 all_goals first|exact Zi6 h|exact Zik h _ _|exact h
theorem Zxq {x:MemM} {c:CpuM} {op arg:Int} (h:CpuP c):CpuP (Zpk x c op arg):=by
 unfold Zpk
 repeat' split
 all_goals first|exact h|exact Zmi h (mod65536 _)|exact Zmi (Zi5 h) (mod65536 _)|exact ZtR h|exact Zij h|exact ZoB (ZgT h)|exact ZtR (Zx3 (ZgT h))
theorem Zjk {c:CpuM} {op:Int} (h:CpuP c):CpuP (ZbL c op):=Zmi h (mod65536 _)
theorem Zuh {x:MemM} {c:CpuM} {op:Int} (h:RamP x):RamP (Zn8 x c op):=Zxr h
theorem Zug {x:MemM} {c:CpuM} {op arg v:Int} (h:CpuP c):CpuP (Zpf x c op arg v):=by
 unfold Zpf
 repeat' split
 all_goals first|exact Zu2 (Zjk h)|exact ZxZ (Zjk h)|exact Zxq (Zjk h)
theorem Zni (x:MemM) (c:CpuM) (op:Int):(Zn8 x c op).bank=x.bank:=by
 unfold Zn8 Zls Zil
 repeat' split
 all_goals rfl
theorem MemP.of_ram {f:List (List Int)} {x y:MemM} (h:MemP f x) (hy:RamP y) (hb:y.bank=x.bank):MemP f y:=⟨h.img,hy,by rw[hb];exact h.b0,by rw[hb];exact h.b1⟩
def Zfo (x:MemM) (c:CpuM):MemM:=ZjP (Zil x c) (ZfZ c) (Zlq c)
def Zpa (c:CpuM) (to:Int):CpuM:=ZoC (setI (ZjO (ZfZ c)) true) to
theorem Zn6 {x:MemM} {c:CpuM} (h:RamP x):RamP (Zfo x c):=Zik (Zi6 h) _ _
theorem ZrC {c:CpuM} {to:Int} (h:CpuP c) (ht:0≤to∧to≤65535):CpuP (Zpa c to):=Zmi (ZwX (Zij (Zi5 h))) ht
def opT (f:List (List Int)) (x:MemM) (pc:Int):Int:=Zba f x pc
def argT (f:List (List Int)) (x:MemM) (pc:Int):Int:=
 if ZbQ (Zba f x pc)=2 then Zba f x (pc+1)else if ZbQ (Zba f x pc)=3 then ZkB (Zba f x (pc+1)) (Zba f x (pc+2))else 0
theorem Zwf (n:Int):1≤ZbQ n∧ZbQ n≤3:=by
 unfold ZbQ
 split
 ·rename_i h
  rcases ZbW h with rfl|rfl|rfl|rfl|rfl|rfl|rfl|rfl|rfl|rfl|rfl|rfl|rfl|rfl|rfl|rfl|rfl|rfl|rfl|rfl|rfl|rfl|rfl|rfl|rfl|rfl|rfl|rfl|rfl|rfl<;>decide
 ·decide
theorem Zht (n:Int):2≤Za0 n∧Za0 n≤6:=by
 unfold Za0
 split
 ·rename_i h
  rcases ZbW h with rfl|rfl|rfl|rfl|rfl|rfl|rfl|rfl|rfl|rfl|rfl|rfl|rfl|rfl|rfl|rfl|rfl|rfl|rfl|rfl|rfl|rfl|rfl|rfl|rfl|rfl|rfl|rfl|rfl|rfl<;>decide
 ·decide
theorem ZtN {f:List (List Int)} {x:MemM} (h:MemP f x) (pc:Int):0≤argT f x pc∧argT f x pc≤65535:=by
 unfold argT
 split
 ·have:=ZjN h (pc+1);omega
 split
 ·exact ZqM _ _
 ·decide
def accA (op arg x:Int):Int:=if ZaG op=0 then 0 else if op=14∨op=15 then (arg+x)%65536 else arg%65536
def accV (op a:Int):Int:=if ZaG op=2 then a%256 else 0
def ColP (l:List Int):Prop:= ∀n,n∈l→0≤n∧n≤63
structure PpuP (p:PpuM):Prop where
 t:0≤p.T∧p.T≤20000
 ctrl:0≤p.ctrl∧p.ctrl≤255
 scroll:0≤p.scroll∧p.scroll≤255
 addr:0≤p.addr∧p.addr≤15
 pal:0≤p.pal∧p.pal≤63
 len:p.table.length=16
 table:ColP p.table
 dots:(p.dots.length:Int)=if 48<p.T%64 then 0 else p.T%64
 cols:ColP p.dots
theorem ZdE {p:PpuM}:ZgS p.t=true↔PpuP p:=by
 unfold ZgS ZpS Zl7 PpuM.t
 simp only[Bool.and_eq_true,ZbI,Ziy,Ze4]
 constructor
 ·rintro ⟨⟨a,b,c,d,e⟩,f,g,h,i⟩
  refine ⟨a,b,c,d,e,by omega,g,?_,i⟩
  rw[h,Zo8,ZaJ a.1]
 ·rintro ⟨a,b,c,d,e,f,g,h,i⟩
  refine ⟨⟨a,b,c,d,e⟩,by omega,g,?_,i⟩
  rw[h,Zo8,ZaJ a.1]
theorem PpuP.s {p:PpuM} (h:PpuP p):Zer p.t:=by
 have h1:=h.len
 have h2:=h.dots
 refine ⟨by show p.table.length≤_;omega,?_⟩
 show p.dots.length≤_
 split at h2<;>omega
def dotN (p:PpuM) (at':Int):Int:=bXor .i64 (rdE .i p.table ((at'%8+p.scroll+at'/8)%16)) p.pal
theorem ZvT {p:PpuM} (h:PpuP p) (a:Int):0≤dotN p a∧dotN p a≤63:=
 Zw4 (h.table _ (ZdT (e:= .i) (by omega) (by rw[h.len];omega))) h.pal
def ZdJ (p:PpuM):PpuM:=
 if p.T%64<48 then {p with T:=p.T+1,dots:=p.dots++[dotN p (p.T%64)]}
 else if p.T%64=48 then {p with T:=p.T+1,blank:=true,dots:=[]}
 else if p.T%64=63 then {p with T:=p.T+1,blank:=false}
 else {p with T:=p.T+1}
def Zd6 (p:PpuM):Bool:=decide (p.T%64=48)
def ZcT (p:PpuM):List Int:=if p.T%64=48 then p.dots else []
def Zku (p:PpuM):Bool:=decide (p.T%64=48)&&ltI 127 p.ctrl
theorem Zhc (p:PpuM):(ZdJ p).T=p.T+1:=by
 unfold ZdJ
 repeat' split
 all_goals rfl
theorem Zvs {p:PpuM} (h:PpuP p) (ht:p.T<20000):PpuP (ZdJ p):=by
 obtain ⟨a,b,c,d,e,f,g,hd,i⟩:=h
 have hp:PpuP p:=⟨a,b,c,d,e,f,g,hd,i⟩
 unfold ZdJ
 split
 ·rename_i h1
  refine ⟨⟨by show 0≤p.T+1;omega,by show p.T+1≤20000;omega⟩,b,c,d,e,f,g,?_,fun n hn=> ?_⟩
  ·show ((p.dots++[dotN p (p.T%64)]).length:Int)=if 48< (p.T+1)%64 then 0 else (p.T+1)%64
   rw[List.length_append,List.length_singleton]
   rw[if_neg (by omega)]at hd
   rw[if_neg (by omega)]
   omega
  ·rcases List.mem_append.1 hn with h2|h2
   ·exact i n h2
   ·rw[List.mem_singleton.1 h2];exact ZvT hp _
 split
 ·rename_i h1 h2
  refine ⟨⟨by show 0≤p.T+1;omega,by show p.T+1≤20000;omega⟩,b,c,d,e,f,g,?_,fun n hn=>by cases hn⟩
  show (0:Int)=if 48< (p.T+1)%64 then 0 else (p.T+1)%64
  rw[if_pos (by omega)]
 split
 ·rename_i h1 h2 h3
  refine ⟨⟨by show 0≤p.T+1;omega,by show p.T+1≤20000;omega⟩,b,c,d,e,f,g,?_,i⟩
  show (p.dots.length:Int)=if 48< (p.T+1)%64 then 0 else (p.T+1)%64
  rw[if_pos (by omega)]at hd
  split<;>omega
 ·rename_i h1 h2 h3
  refine ⟨⟨by show 0≤p.T+1;omega,by show p.T+1≤20000;omega⟩,b,c,d,e,f,g,?_,i⟩
  show (p.dots.length:Int)=if 48< (p.T+1)%64 then 0 else (p.T+1)%64
  rw[if_pos (by omega)]at hd
  rw[if_pos (by omega)]
  exact hd
theorem Znl {p:PpuM} (h:PpuP p) (ht:Zd6 p=true):(ZcT p).length=48:=by
 have h1:p.T%64=48:=by simpa [Zd6] using ht
 have hd:=h.dots
 unfold ZcT
 rw[if_pos h1]
 rw[if_neg (by omega),h1]at hd
 omega
def ZcA (p:PpuM) (reg v:Int):PpuM:=
 if reg=0 then {p with ctrl:=v%256}else if reg=1 then {p with scroll:=v%256}else if reg=3 then {p with addr:=(v%256)%16}
 else if reg=4 then {p with addr:=(p.addr+1)%16,table:=p.table.set p.addr.toNat ((v%256)%64)}
 else if reg=5 then {p with pal:=(v%256)%64}else p
theorem ColP.set {l:List Int} (h:ColP l) (i:Nat) {v:Int} (hv:0≤v∧v≤63):ColP (l.set i v):=fun n hn=>by
 rcases List.mem_or_eq_of_mem_set hn with h1|h1
 ·exact h n h1
 ·rw[h1];exact hv
theorem Zsq {p:PpuM} (h:PpuP p) (reg v:Int):PpuP (ZcA p reg v):=by
 have hp:=h
 obtain ⟨a,b,c,d,e,f,g,hd,i⟩:=h
 unfold ZcA
 split
 ·exact ⟨a,mod256 v,c,d,e,f,g,hd,i⟩
 split
 ·exact ⟨a,b,mod256 v,d,e,f,g,hd,i⟩
 split
 ·exact ⟨a,b,c,by show 0≤(v%256)%16∧(v%256)%16≤15;omega,e,f,g,hd,i⟩
 split
 ·exact ⟨a,b,c,by show 0≤(p.addr+1)%16∧(p.addr+1)%16≤15;omega,e,by show (p.table.set _ _).length=16;rw[List.length_set];exact f,g.set _ (by omega),hd,i⟩
 split
 ·exact ⟨a,b,c,d,by show 0≤(v%256)%64∧(v%256)%64≤63;omega,f,g,hd,i⟩
 ·exact hp
theorem ZeY (p:PpuM) (reg v:Int):(ZcA p reg v).T=p.T:=by
 unfold ZcA
 repeat' split
 all_goals rfl
def Ze9 (p:PpuM) (reg:Int):PpuM:=if reg=2 then {p with blank:=false}else if reg=4 then {p with addr:=(p.addr+1)%16}else p
def ZgX (p:PpuM) (reg:Int):Int:=if reg=2 then 128*Zcu p.blank else if reg=4 then rdE .i p.table p.addr else 0
theorem ZuZ {p:PpuM} (h:PpuP p) (reg:Int):PpuP (Ze9 p reg):=by
 have hp:=h
 obtain ⟨a,b,c,d,e,f,g,hd,i⟩:=h
 unfold Ze9
 split
 ·exact ⟨a,b,c,d,e,f,g,hd,i⟩
 split
 ·exact ⟨a,b,c,by show 0≤(p.addr+1)%16∧(p.addr+1)%16≤15;omega,e,f,g,hd,i⟩
 ·exact hp
theorem ZgY (p:PpuM) (reg:Int):(Ze9 p reg).T=p.T:=by
 unfold Ze9
 repeat' split
 all_goals rfl
theorem Zsb {p:PpuM} (h:PpuP p) (reg:Int):0≤ZgX p reg∧ZgX p reg≤255:=by
 unfold ZgX
 split
 ·have:=Zbb p.blank;omega
 split
 ·have:=h.table _ (ZdT (e:= .i) (l:=p.table) h.addr.1 (by have:=h.addr.2;rw[h.len];omega));omega
 ·decide
structure ApuP (a:ApuM):Prop where
 t:0≤a.T∧a.T≤20000
 period:0≤a.period∧a.period≤255
 count:0≤a.count∧a.count≤255
 bit:0≤a.bit∧a.bit≤1
 len:0≤a.len∧a.len≤31
theorem Zdy {a:ApuM}:Zh5 a.t=true↔ApuP a:=by
 unfold Zh5 ApuM.t
 simp only[Bool.and_eq_true,ZbI]
 constructor
 ·rintro ⟨a,b,c,d,e⟩;exact ⟨a,b,c,d,e⟩
 ·rintro ⟨a,b,c,d,e⟩;exact ⟨a,b,c,d,e⟩
def Zlc (a:ApuM):ApuM:=
 if a.count=0 then (if 0<a.len then {a with count:=a.period,bit:=1-a.bit}else {a with count:=a.period})else {a with count:=a.count-1}
def Zqv (a:ApuM):ApuM:=
 if a.T%32=0∧0<a.len then {a with len:=a.len-1,irq:=a.irq|| (eqI (a.len-1) 0&&a.asks)}else a
def Zqk (a:ApuM):ApuM:={Zqv (Zlc a)with T:=a.T+1}
def Zgv (a:ApuM):Bool:=eqI (a.T%16) 15
def Zf3 (a:ApuM):Int:=if a.T%16=15∧(Zqv (Zlc a)).len≠0 then 8*(Zqv (Zlc a)).bit else 0
theorem ZvS {a:ApuM} (h:ApuP a):ApuP (Zlc a):=by
 have hp:=h
 obtain ⟨t,p,c,b,l⟩:=h
 unfold Zlc
 split
 ·split
  ·exact ⟨t,p,p,by show 0≤1-a.bit∧1-a.bit≤1;omega,l⟩
  ·exact ⟨t,p,p,b,l⟩
 ·exact ⟨t,p,by show 0≤a.count-1∧a.count-1≤255;omega,b,l⟩
theorem Zw5 {a:ApuM} (h:ApuP a):ApuP (Zqv a):=by
 have hp:=h
 obtain ⟨t,p,c,b,l⟩:=h
 unfold Zqv
 split
 ·rename_i h1
  exact ⟨t,p,c,b,by show 0≤a.len-1∧a.len-1≤31;omega⟩
 ·exact hp
theorem Zvn {a:ApuM} (h:ApuP a) (ht:a.T<20000):ApuP (Zqk a):=by
 obtain ⟨t,p,c,b,l⟩:=Zw5 (ZvS h)
 have:=h.t
 exact ⟨⟨by show 0≤a.T+1;omega,by show a.T+1≤20000;omega⟩,p,c,b,l⟩
def Zgs (a:ApuM) (reg v:Int):ApuM:=
 if reg=0 then {a with period:=v%256}else if reg=1 then {a with len:=(v%256)%32}
 else if reg=2 then {a with asks:=eqI ((v%256)%2) 1,irq:=a.irq&&eqI ((v%256)%2) 1}
 else if reg=3 then {a with irq:=false}else a
theorem Zso {a:ApuM} (h:ApuP a) (reg v:Int):ApuP (Zgs a reg v):=by
 have hp:=h
 obtain ⟨t,p,c,b,l⟩:=h
 unfold Zgs
 split
 ·exact ⟨t,mod256 v,c,b,l⟩
 split
 ·exact ⟨t,p,c,b,by show 0≤(v%256)%32∧(v%256)%32≤31;omega⟩
 split
 ·exact ⟨t,p,c,b,l⟩
 split
 ·exact ⟨t,p,c,b,l⟩
 ·exact hp
theorem ZkW (a:ApuM) (reg v:Int):(Zgs a reg v).T=a.T:=by
 unfold Zgs
 repeat' split
 all_goals rfl
def ZgV (a:ApuM) (reg:Int):ApuM:=if reg=2 then {a with irq:=false}else a
def Zgm (a:ApuM) (reg:Int):Int:=if reg=2 then 128*Zcu a.irq+Zcu (ltI 0 a.len)else 0
theorem ZuW {a:ApuM} (h:ApuP a) (reg:Int):ApuP (ZgV a reg):=by
 have hp:=h
 obtain ⟨t,p,c,b,l⟩:=h
 unfold ZgV
 split
 ·exact ⟨t,p,c,b,l⟩
 ·exact hp
theorem Zox (a:ApuM) (reg:Int):(ZgV a reg).T=a.T:=by
 unfold ZgV
 split<;>rfl
theorem Zr8 (a:ApuM) (reg:Int):0≤Zgm a reg∧Zgm a reg≤255:=by
 unfold Zgm
 split
 ·have:=Zbb a.irq
  have:=Zbb (ltI 0 a.len)
  omega
 ·decide
structure Zh2 (l:List Int):Prop where
 len:l.length≤20
 bytes:Zm4 l
theorem Zec {l:List Int}:ZfA l=true↔Zh2 l:=by
 unfold ZfA
 rw[Bool.and_eq_true,ZgO,Ziy]
 exact ⟨fun ⟨a,b⟩=>⟨by omega,b⟩,fun ⟨a,b⟩=>⟨by omega,b⟩⟩
def Zi3 (l:List Int) (t:Int):Int:=if l.length=0 then 0 else rdE .i l ((t/64)% (l.length:Int))
theorem ZuM {l:List Int} (h:Zh2 l) (t:Int):0≤Zi3 l t∧Zi3 l t≤255:=by
 unfold Zi3
 split
 ·decide
 ·exact h.bytes _ (ZdT (e:= .i) (Int.emod_nonneg _ (by omega)) (Int.emod_lt_of_pos _ (by omega)))
def Zkt (x:PadM) (l:List Int) (t v:Int):PadM:={held:=eqI (v%2) 1,shift:=if eqI (v%2) 1||x.held then Zi3 l t else x.shift}
def ZpY (x:PadM) (l:List Int) (t:Int):PadM:=if x.held then {held:=true,shift:=Zi3 l t}else {held:=false,shift:=x.shift/2}
def ZgW (x:PadM) (l:List Int) (t:Int):Int:=if x.held then Zi3 l t%2 else x.shift%2
def PadP (x:PadM):Prop:=0≤x.shift∧x.shift≤255
theorem Zsp {x:PadM} {l:List Int} {t v:Int} (h:PadP x) (hl:Zh2 l):PadP (Zkt x l t v):=by
 unfold Zkt PadP
 simp only
 split
 ·exact ZuM hl t
 ·exact h
theorem ZuX {x:PadM} {l:List Int} {t:Int} (h:PadP x) (hl:Zh2 l):PadP (ZpY x l t):=by
 unfold ZpY
 split
 ·exact ZuM hl t
 ·unfold PadP at h⊢
  show 0≤x.shift/2∧x.shift/2≤255
  omega
theorem Zr9 (x:PadM) (l:List Int) (t:Int):0≤ZgW x l t∧ZgW x l t≤255:=by
 unfold ZgW
 split<;>omega
structure Zau where
 img:List (List Int)
 pads:List Int
 mem:MemM
 cpu:CpuM
 ppu:PpuM
 apu:ApuM
 pad:PadM
 nmi:Bool
 steps:Int
 frames:List (List Int)
 samples:List Int
 reads:List Int
def Zau.t (l:Zau):Tup Zih:=(l.img,(l.pads,(l.mem.ram,(l.mem.bank,(l.cpu.a,(l.cpu.x,(l.cpu.s,(l.cpu.pc,(l.cpu.z,(l.cpu.n,(l.cpu.c,(l.cpu.i,
 (l.ppu.T,(l.ppu.ctrl,(l.ppu.scroll,(l.ppu.addr,(l.ppu.pal,(l.ppu.blank,(l.ppu.table,(l.ppu.dots,
 (l.apu.T,(l.apu.period,(l.apu.count,(l.apu.bit,(l.apu.len,(l.apu.asks,(l.apu.irq,(l.pad.held,(l.pad.shift,(l.nmi,(l.steps,(l.frames,(l.samples,(l.reads,()))))))))))))))))))))))))))))))))))
def lkM (a:Tup Zih):Zau:=⟨ZyH a,Zyo a,memM (Zd1 a),cpuM (ZkC a),ppuM (ZhF a),apuM (ZqS a),padM (ZiW a),a.2.2.2.2.2.2.2.2.2.2.2.2.2.2.2.2.2.2.2.2.2.2.2.2.2.2.2.2.2.1,a.2.2.2.2.2.2.2.2.2.2.2.2.2.2.2.2.2.2.2.2.2.2.2.2.2.2.2.2.2.2.1,
 (Zey a).1,(Zey a).2.1,(Zey a).2.2.1⟩
def Zce (t:Int):Int:=(t+15)/64
structure Zbx (l:Zau):Prop where
 mem:MemP l.img l.mem
 pads:Zh2 l.pads
 cpu:CpuP l.cpu
 ppu:PpuP l.ppu
 apu:ApuP l.apu
 pad:PadP l.pad
 t:l.apu.T=l.ppu.T
 s0:0≤l.steps
 s1:l.steps≤l.ppu.T
 fr: ∀f,f∈l.frames→f.length=48
 frn:(l.frames.length:Int)=Zce l.ppu.T
 sam:(l.samples.length:Int)=l.ppu.T/16
theorem ZeG {f:List (List Int)} {t:Int} (ht:0≤t):Zcm f t=true↔(∀l,l∈f→l.length=48)∧(f.length:Int)=Zce t:=by
 unfold Zcm Zce
 rw[Bool.and_eq_true,List.all_eq_true,Ze4,Int.tdiv_eq_ediv_of_nonneg (by omega)]
 constructor
 ·rintro ⟨a,b⟩;exact ⟨fun l hl=>by have:=Ze4.1 (a l hl);omega,b⟩
 ·rintro ⟨a,b⟩;exact ⟨fun l hl=>Ze4.2 (by have:=a l hl;omega),b⟩
theorem Zd3 {s:List Int} {t:Int} (ht:0≤t):ZdF s t=true↔(s.length:Int)=t/16:=by
 unfold ZdF
 rw[Ze4,Int.tdiv_eq_ediv_of_nonneg ht]
theorem ZtW: ∀{f:List (List Int)},(∀l,l∈f→l.length=48)→bulk f=48*f.length
 | [],_=>rfl
 |x::f,h=>by
  simp only[bulk,List.length_cons]
  rw[ZtW fun l hl=>h l (List.mem_cons_of_mem _ hl),h x List.mem_cons_self]
  omega
theorem Zkl {f:List (List Int)} (h: ∀l,l∈f→l.length=48) (hn:f.length≤1048576):small f:=
 ⟨by omega,fun l hl=>by have:=h l hl;omega,by rw[ZtW h];omega⟩
theorem Zbx.s {l:Zau} (h:Zbx l) (hr:l.reads.length≤4398046511104):Zcg l.t:=by
 have h1:=h.ppu.t
 have h2:=h.frn
 have h3:=h.sam
 have h4:=h.mem.ram.len
 have h5:=h.pads.len
 unfold Zce at h2
 exact ⟨h.mem.img.small,by show l.pads.length≤_;omega,by show l.mem.1.length≤_;omega,h.ppu.s,Zkl (f:=l.frames) h.fr (by omega),by show l.samples.length≤_;omega,hr⟩
def ZdU (l:Zau) (a:Int):Zau:=
 if (rgT a).1=2 then {l with ppu:=Ze9 l.ppu (rgT a).2,reads:=l.reads++[ZgX l.ppu (rgT a).2]}
 else if (rgT a).1=3 then {l with apu:=ZgV l.apu (rgT a).2,reads:=l.reads++[Zgm l.apu (rgT a).2]}
 else if (rgT a).1=4 then {l with pad:=ZpY l.pad l.pads l.ppu.T,reads:=l.reads++[ZgW l.pad l.pads l.ppu.T]}
 else l
def ZhT (l:Zau) (a:Int):Int:=
 if (rgT a).1=2 then ZgX l.ppu (rgT a).2 else if (rgT a).1=3 then Zgm l.apu (rgT a).2 else if (rgT a).1=4 then ZgW l.pad l.pads l.ppu.T else Zba l.img l.mem a
def Zb3 (l:Zau) (a v:Int):Zau:=
 if (rgT a).1=2 then {l with ppu:=ZcA l.ppu (rgT a).2 v}else if (rgT a).1=3 then {l with apu:=Zgs l.apu (rgT a).2 v}
 else if (rgT a).1=4 then {l with pad:=Zkt l.pad l.pads l.ppu.T v}else {l with mem:=ZkF l.img l.mem a v}
theorem ZuY {l:Zau} (h:Zbx l) (a:Int):Zbx (ZdU l a):=by
 have hp:=h
 obtain ⟨m,ps,c,p,u,d,t,s0,s1,f,fn,sm⟩:=h
 unfold ZdU
 split
 ·exact ⟨m,ps,c,ZuZ p _,u,d,t.trans (ZgY _ _).symm,s0,by rw[show ((Ze9 l.ppu (rgT a).2).T:Int)=l.ppu.T from ZgY _ _];exact s1,f,by show _=Zce (Ze9 l.ppu (rgT a).2).T;rw[ZgY];exact fn,by show _=((Ze9 l.ppu (rgT a).2).T:Int)/16;rw[ZgY];exact sm⟩
 split
 ·exact ⟨m,ps,c,p,ZuW u _,d,(Zox _ _).trans t,s0,s1,f,fn,sm⟩
 split
 ·exact ⟨m,ps,c,p,u,ZuX d ps,t,s0,s1,f,fn,sm⟩
 ·exact hp
theorem Zsa {l:Zau} (h:Zbx l) (a:Int):0≤ZhT l a∧ZhT l a≤255:=by
 unfold ZhT
 split
 ·exact Zsb h.ppu _
 split
 ·exact Zr8 _ _
 split
 ·exact Zr9 _ _ _
 ·exact ZjN h.mem a
theorem ZoQ {l:Zau} (h:Zbx l) (a v:Int):Zbx (Zb3 l a v):=by
 have hp:=h
 obtain ⟨m,ps,c,p,u,d,t,s0,s1,f,fn,sm⟩:=h
 unfold Zb3
 split
 ·exact ⟨m,ps,c,Zsq p _ _,u,d,t.trans (ZeY _ _ _).symm,s0,by rw[show ((ZcA l.ppu (rgT a).2 v).T:Int)=l.ppu.T from ZeY _ _ _];exact s1,f,by show _=Zce (ZcA l.ppu (rgT a).2 v).T;rw[ZeY];exact fn,by show _=((ZcA l.ppu (rgT a).2 v).T:Int)/16;rw[ZeY];exact sm⟩
 split
 ·exact ⟨m,ps,c,p,Zso u _ _,d,(ZkW _ _ _).trans t,s0,s1,f,fn,sm⟩
 split
 ·exact ⟨m,ps,c,p,u,Zsp d ps,t,s0,s1,f,fn,sm⟩
 ·exact ⟨ZuQ m _ _,ps,c,p,u,d,t,s0,s1,f,fn,sm⟩
theorem ZxO (l:Zau) (a:Int):(ZdU l a).ppu.T=l.ppu.T:=by
 unfold ZdU
 repeat' split
 all_goals first|exact ZgY _ _|rfl
theorem ZwH (l:Zau) (a v:Int):(Zb3 l a v).ppu.T=l.ppu.T:=by
 unfold Zb3
 repeat' split
 all_goals first|exact ZeY _ _ _|rfl
theorem Zma (l:Zau) (a:Int):(ZdU l a).img=l.img∧(ZdU l a).mem=l.mem∧(ZdU l a).cpu=l.cpu∧(ZdU l a).steps=l.steps∧(ZdU l a).pads=l.pads∧(ZdU l a).nmi=l.nmi:=by
 unfold ZdU
 repeat' split
 all_goals exact ⟨rfl,rfl,rfl,rfl,rfl,rfl⟩
theorem ZhD (l:Zau) (a v:Int):(Zb3 l a v).img=l.img∧(Zb3 l a v).cpu=l.cpu∧(Zb3 l a v).steps=l.steps∧(Zb3 l a v).reads=l.reads∧(Zb3 l a v).pads=l.pads∧(Zb3 l a v).nmi=l.nmi:=by
 unfold Zb3
 repeat' split
 all_goals exact ⟨rfl,rfl,rfl,rfl,rfl,rfl⟩
theorem Zq9 (l:Zau) (a:Int):(ZdU l a).reads.length≤l.reads.length+1:=by
 unfold ZdU
 repeat' split
 all_goals simp
def vecN (f:List (List Int)) (x:MemM) (v:Int):Int:=ZkB (Zba f x v) (Zba f x (v+1))
def Zca (l:Zau) (v:Int):Zau:={l with mem:=Zfo l.mem l.cpu,cpu:=Zpa l.cpu (vecN l.img l.mem v)}
theorem Zvy (f:List (List Int)) (x:MemM) (v:Int):0≤vecN f x v∧vecN f x v≤65535:=ZqM _ _
theorem ZrL {l:Zau} (h:Zbx l) (v:Int):Zbx (Zca l v):=by
 obtain ⟨m,ps,c,p,u,d,t,s0,s1,f,fn,sm⟩:=h
 exact ⟨m.of_ram (Zn6 m.ram) rfl,ps,ZrC c (Zvy _ _ _),p,u,d,t,s0,s1,f,fn,sm⟩
def ZrA (l:Zau) (op arg v:Int):Zau:={l with mem:=Zn8 l.mem l.cpu op,cpu:=Zpf l.mem l.cpu op arg v}
theorem Zn4 {l:Zau} (h:Zbx l) (op arg v:Int):Zbx (ZrA l op arg v):=by
 obtain ⟨m,ps,c,p,u,d,t,s0,s1,f,fn,sm⟩:=h
 exact ⟨m.of_ram (Zuh m.ram) (Zni _ _ _),ps,Zug c,p,u,d,t,s0,s1,f,fn,sm⟩
def opL (l:Zau) (op arg:Int):Zau:=
 if ZaG op=1 then ZrA (ZdU l (accA op arg l.cpu.x)) op arg (ZhT l (accA op arg l.cpu.x))
 else if ZaG op=2 then ZrA (Zb3 l (accA op arg l.cpu.x) (l.cpu.a%256)) op arg 0
 else ZrA l op arg 0
theorem ZyJ {l:Zau} (h:Zbx l) (op arg:Int):Zbx (opL l op arg):=by
 unfold opL
 split
 ·exact Zn4 (ZuY h _) _ _ _
 split
 ·exact Zn4 (ZoQ h _ _) _ _ _
 ·exact Zn4 h _ _ _
theorem ZyK (l:Zau) (op arg:Int):(opL l op arg).ppu.T=l.ppu.T:=by
 unfold opL
 split
 ·exact ZxO _ _
 split
 ·exact ZwH _ _ _
 ·rfl
theorem ZuI (l:Zau) (op arg:Int):(opL l op arg).steps=l.steps:=by
 unfold opL
 split
 ·exact (Zma _ _).2.2.2.1
 split
 ·exact (ZhD _ _ _).2.2.1
 ·rfl
theorem ZuH (l:Zau) (op arg:Int):(opL l op arg).reads.length≤l.reads.length+1:=by
 unfold opL
 split
 ·exact Zq9 _ _
 split
 ·show (Zb3 l _ _).reads.length≤_;rw[(ZhD _ _ _).2.2.2.1];omega
 ·show l.reads.length≤_;omega
def Zgf (l:Zau):Zau:=
 {l with ppu:=ZdJ l.ppu,apu:=Zqk l.apu,nmi:=l.nmi||Zku l.ppu,frames:=if Zd6 l.ppu then l.frames++[ZcT l.ppu]else l.frames,samples:=if Zgv l.apu then l.samples++[Zf3 l.apu]else l.samples}
theorem Zrt {l:Zau} (h:Zbx l) (ht:l.ppu.T<20000):Zbx (Zgf l):=by
 obtain ⟨m,ps,c,p,u,d,t,s0,s1,f,fn,sm⟩:=h
 have p0:=p.t.1
 refine ⟨m,ps,c,Zvs p ht,Zvn u (by omega),d,?_,s0,?_,?_,?_,?_⟩
 ·show l.apu.T+1=(ZdJ l.ppu).T
  rw[Zhc,t]
 ·show l.steps≤((ZdJ l.ppu).T:Int)
  rw[Zhc];omega
 ·intro x hx
  have hx:x∈(if Zd6 l.ppu then l.frames++[ZcT l.ppu]else l.frames):=hx
  split at hx
  ·rename_i ht
   rcases List.mem_append.1 hx with h1|h1
   ·exact f x h1
   ·rw[List.mem_singleton.1 h1];exact Znl p ht
  ·exact f x hx
 ·show ((if Zd6 l.ppu then l.frames++[ZcT l.ppu]else l.frames).length:Int)=Zce (ZdJ l.ppu).T
  rw[Zhc]
  unfold Zce Zd6 at*
  by_cases h1:l.ppu.T%64=48
  ·simp only[h1,decide_true,if_true,List.length_append,List.length_singleton]
   omega
  ·simp only[h1,decide_false,Bool.false_eq_true,if_false]
   omega
 ·show ((if Zgv l.apu then l.samples++[Zf3 l.apu]else l.samples).length:Int)=((ZdJ l.ppu).T:Int)/16
  rw[Zhc]
  by_cases h1:l.apu.T%16=15
  ·rw[show Zgv l.apu=true from Zao h1,if_pos rfl,List.length_append,List.length_singleton]
   omega
  ·rw[show Zgv l.apu=false from Zag h1,if_neg (by simp)]
   omega
theorem ZoN (l:Zau):(Zgf l).ppu.T=l.ppu.T+1:=Zhc _
def Zbf:Nat→Zau→Zau
 |0,l=>l
 |n+1,l=>Zbf n (Zgf l)
theorem ZoO: ∀{n:Nat} {l:Zau},Zbx l→l.ppu.T+n≤20000→Zbx (Zbf n l)∧(Zbf n l).ppu.T=l.ppu.T+n∧(Zbf n l).steps=l.steps∧(Zbf n l).reads=l.reads
 |0,l,h,ht=>⟨h,by show l.ppu.T=l.ppu.T+0;omega,rfl,rfl⟩
 |n+1,l,h,ht=>by
  obtain ⟨a,b,c,d⟩:=ZoO (n:=n) (Zrt h (by omega)) (by rw[ZoN];omega)
  refine ⟨a,?_,c,d⟩
  show (Zbf n (Zgf l)).ppu.T=_
  rw[b,ZoN]
  omega
def Zgy (l:Zau):Bool:=l.nmi|| (l.apu.irq&& !l.cpu.i)
def ZaC (l:Zau):Int:=opT l.img l.mem l.cpu.pc
def Zbl (l:Zau):Int:=argT l.img l.mem l.cpu.pc
def ZaU (l:Zau):Int:=if Zgy l then 7 else Za0 (ZaC l)
def doL (l:Zau):Zau:=
 if l.nmi then Zca {l with nmi:=false} 65530 else if l.apu.irq&& !l.cpu.i then Zca l 65534 else opL l (ZaC l) (Zbl l)
def mayL (l:Zau):Bool:=decide (l.ppu.T+ZaU l≤20000)
def ZcG (l:Zau):Zau:=let m:=Zbf (ZaU l).toNat (doL l);{m with steps:=m.steps+1}
theorem Zxh {l:Zau} (h:Zbx l):Zbx (doL l):=by
 unfold doL
 split
 ·exact ZrL (l:={l with nmi:=false}) ⟨h.mem,h.pads,h.cpu,h.ppu,h.apu,h.pad,h.t,h.s0,h.s1,h.fr,h.frn,h.sam⟩ _
 split
 ·exact ZrL h _
 ·exact ZyJ h _ _
theorem Zxi (l:Zau):(doL l).ppu.T=l.ppu.T:=by
 unfold doL
 split
 ·rfl
 split
 ·rfl
 ·exact ZyK _ _ _
theorem Zt9 (l:Zau):(doL l).steps=l.steps:=by
 unfold doL
 split
 ·rfl
 split
 ·rfl
 ·exact ZuI _ _ _
theorem Zt8 (l:Zau):(doL l).reads.length≤l.reads.length+1:=by
 unfold doL
 split
 ·show l.reads.length≤_;omega
 split
 ·show l.reads.length≤_;omega
 ·exact ZuH _ _ _
theorem Zld (l:Zau):2≤ZaU l∧ZaU l≤7:=by
 unfold ZaU
 split
 ·omega
 ·have:=Zht (ZaC l);omega
theorem Zrn {l:Zau} (h:Zbx l) (hm:mayL l=true):Zbx (ZcG l)∧(ZcG l).ppu.T=l.ppu.T+ZaU l∧(ZcG l).steps=l.steps+1∧(ZcG l).reads.length≤l.reads.length+1:=by
 have hm:l.ppu.T+ZaU l≤20000:=by simpa [mayL] using hm
 have hc:=Zld l
 have hd:=Zxi l
 obtain ⟨a,b,c,d⟩:=ZoO (n:=(ZaU l).toNat) (Zxh h) (by omega)
 have e:(ZcG l).ppu.T=l.ppu.T+ZaU l:=by
  show (Zbf (ZaU l).toNat (doL l)).ppu.T=_
  rw[b,hd];omega
 have e2:(ZcG l).steps=l.steps+1:=by
  show (Zbf (ZaU l).toNat (doL l)).steps+1=_
  rw[c,Zt9]
 obtain ⟨m,ps,cc,p,u,dd,t,s0,s1,f,fn,sm⟩:=a
 refine ⟨⟨m,ps,cc,p,u,dd,t,by have:=h.s0;omega,by have:=h.s1;have:=h.s0;rw[e,e2];omega,f,fn,sm⟩,e,e2,?_⟩
 show (Zbf (ZaU l).toNat (doL l)).reads.length≤_
 rw[d]
 exact Zt8 l
def runL:Nat→Zau→Zau×Nat
 |0,l=>(l,0)
 |n+1,l=>if mayL l then ((runL n (ZcG l)).1,(runL n (ZcG l)).2+1)else (l,0)
theorem ZwS: ∀{n:Nat} {l:Zau},Zbx l→Zbx (runL n l).1∧(runL n l).2≤n∧(runL n l).1.reads.length≤l.reads.length+n∧(runL n l).1.steps=l.steps+(runL n l).2
 |0,l,h=>⟨h,Nat.le_refl _,Nat.le_refl _,by show l.steps=l.steps+0;omega⟩
 |n+1,l,h=>by
  unfold runL
  split
  ·rename_i hm
   obtain ⟨a,b,c,d⟩:=Zrn h hm
   obtain ⟨e,f,g,i⟩:=ZwS (n:=n) a
   exact ⟨e,by show (runL n (ZcG l)).2+1≤n+1;omega,by show (runL n (ZcG l)).1.reads.length≤_;omega,by show (runL n (ZcG l)).1.steps=l.steps+(((runL n (ZcG l)).2+1:Nat):Int);omega⟩
  ·exact ⟨h,Nat.zero_le _,by show l.reads.length≤_;omega,by show l.steps=l.steps+0;omega⟩
abbrev Rc:=Int×Int×Int
def RcP (x:Rc):Prop:=(0≤x.1∧x.1≤20000)∧(0≤x.2.1∧x.2.1≤7)∧(0≤x.2.2∧x.2.2≤255)
structure ZnV (cap:Int) (l:List Rc):Prop where
 rec': ∀x,x∈l→RcP x
 ord:l.Pairwise (fun a b=>a.1≤b.1)
 c0:1≤cap
 c1:cap≤16
 len:(l.length:Int)≤cap
theorem Zq4 {l:List Rc} (h: ∀i,(hi:i+1<l.length)→l[i].1≤l[i+1].1):l.Pairwise (fun a b=>a.1≤b.1):=by
 rw[List.pairwise_iff_getElem]
 intro i j hi hj hij
 induction j with
 |zero=>omega
 |succ j ih=>
  rcases Nat.lt_or_ge i j with h1|h1
  ·exact Int.le_trans (ih (by omega) h1) (h j hj)
  ·have:i=j:=by omega
   subst this
   exact h i hj
theorem Zhy {r:Tup ZcO}:Zgn r=true↔ZnV r.1 r.2.1:=by
 unfold Zgn
 rw[Bool.and_eq_true,Bool.and_eq_true,List.all_eq_true,ZbI,ZgO]
 have hg: ∀i,(hi:i<r.2.1.length)→rdE .t r.2.1 (i:Int)=r.2.1[i]:=fun i hi=>ZaA .t r.2.1 i hi
 constructor
 ·rintro ⟨h,⟨c0,c1⟩,hl⟩
  have key: ∀i,(hi:i<r.2.1.length)→RcP r.2.1[i]∧(i≠0→ ¬(r.2.1[i]).1< (rdE .t r.2.1 ((i-1:Nat):Int)).1):=fun i hi=>by
   have:=h i (by rw[List.mem_range'];exact ⟨i,hi,by omega⟩)
   unfold ZgZ at this
   rw[hg i hi]at this
   simp only[Bool.and_eq_true,ZbI,Bool.or_eq_true,decide_eq_true_eq,Bool.not_eq_true']at this
   obtain ⟨a,b,c,d⟩:=this
   refine ⟨⟨a,b,c⟩,fun h0=> ?_⟩
   rcases d with d|d
   ·exact absurd d h0
   ·intro hlt
    rw[show ltI (r.2.1[i]).1 (rdE .t r.2.1 ((i-1:Nat):Int)).1=true from Zaj hlt]at d
    cases d
  refine ⟨fun x hx=> ?_,Zq4 fun i hi=> ?_,c0,c1,hl⟩
  ·obtain ⟨i,hi,rfl⟩:=List.getElem_of_mem hx
   exact (key i hi).1
  ·have:=(key (i+1) hi).2 (by omega)
   rw[Nat.add_sub_cancel,hg i (by omega)]at this
   omega
 ·rintro ⟨h,ho,c0,c1,hl⟩
  refine ⟨fun i hi=> ?_,⟨c0,c1⟩,hl⟩
  rw[List.mem_range']at hi
  obtain ⟨j,hj,e⟩:=hi
  have hi:i<r.2.1.length:=by omega
  unfold ZgZ
  rw[hg i hi]
  obtain ⟨a,b,c⟩:=h _ (List.getElem_mem hi)
  simp only[Bool.and_eq_true,ZbI,Bool.or_eq_true,decide_eq_true_eq,Bool.not_eq_true']
  refine ⟨a,b,c,?_⟩
  by_cases h0:i=0
  ·exact .inl h0
  ·right
   rw[hg (i-1) (by omega)]
   have:=List.pairwise_iff_getElem.1 ho (i-1) i (by omega) hi (by omega)
   exact Zam (by omega)
theorem ZeP {r:Tup ZcO} {t:Int} (h:r.2.1.Pairwise (fun a b=>a.1≤b.1)):ZeO r t=true↔ ∀x,x∈r.2.1→t≤x.1:=by
 unfold ZeO
 obtain ⟨cap,l,_⟩:=r
 simp only at h⊢
 cases l with
 |nil=>simp
 |cons y l=>
  simp only[List.length_cons,Nat.add_one_ne_zero,if_false]
  rw[show rdE .t (y::l) (0:Int)=y from rfl,ZgO]
  constructor
  ·intro h1 x hx
   cases hx with
   |head=>exact h1
   |tail _ hx=>exact Int.le_trans h1 ((List.pairwise_cons.1 h).1 x hx)
  ·intro h1;exact h1 y List.mem_cons_self
theorem ZeQ {r:Tup ZcO} {t:Int} (h:r.2.1.Pairwise (fun a b=>a.1≤b.1)):Zdw r t=true↔ ∀x,x∈r.2.1→x.1≤t:=by
 unfold Zdw
 obtain ⟨cap,l,_⟩:=r
 simp only at h⊢
 by_cases h0:l.length=0
 ·have:l=[]:=List.eq_nil_of_length_eq_zero h0
  subst this
  simp
 ·rw[if_neg h0,ZaA .t l (l.length-1) (by omega),ZgO]
  constructor
  ·intro h1 x hx
   obtain ⟨i,hi,rfl⟩:=List.getElem_of_mem hx
   rcases Nat.lt_or_ge i (l.length-1)with h2|h2
   ·exact Int.le_trans (List.pairwise_iff_getElem.1 h i (l.length-1) hi (by omega) h2) h1
   ·have:i=l.length-1:=by omega
    subst this
    exact h1
  ·intro h1;exact h1 _ (List.getElem_mem _)
structure PicM where
 ppu:PpuM
 cap:Int
 list:List Rc
 frames:List (List Int)
structure SndM where
 apu:ApuM
 cap:Int
 list:List Rc
 samples:List Int
def PicM.t (w:PicM):Tup picL:=(w.ppu.T,(w.ppu.ctrl,(w.ppu.scroll,(w.ppu.addr,(w.ppu.pal,(w.ppu.blank,(w.ppu.table,(w.ppu.dots,(w.cap,(w.list,(w.frames,())))))))))))
def SndM.t (w:SndM):Tup sndL:=(w.apu.T,(w.apu.period,(w.apu.count,(w.apu.bit,(w.apu.len,(w.apu.asks,(w.apu.irq,(w.cap,(w.list,(w.samples,()))))))))))
def pcM (w:Tup picL):PicM:=⟨ppuM (Zdh w),w.2.2.2.2.2.2.2.2.1,w.2.2.2.2.2.2.2.2.2.1,w.2.2.2.2.2.2.2.2.2.2.1⟩
def sdM (w:Tup sndL):SndM:=⟨apuM (Zp2 w),w.2.2.2.2.2.2.2.1,w.2.2.2.2.2.2.2.2.1,w.2.2.2.2.2.2.2.2.2.1⟩
structure PicP (w:PicM):Prop where
 ppu:PpuP w.ppu
 ring:ZnV w.cap w.list
 lo: ∀x,x∈w.list→w.ppu.T≤x.1
 fr: ∀f,f∈w.frames→f.length=48
 frn:(w.frames.length:Int)=Zce w.ppu.T
structure SndP (w:SndM):Prop where
 apu:ApuP w.apu
 ring:ZnV w.cap w.list
 lo: ∀x,x∈w.list→w.apu.T≤x.1
 sam:(w.samples.length:Int)=w.apu.T/16
theorem Zl5 {w:PicM}:ZmU w.t=true↔PicP w:=by
 unfold ZmU
 simp only[Bool.and_eq_true]
 constructor
 ·rintro ⟨a,b,c,d⟩
  have a:=ZdE.1 (show ZgS w.ppu.t=true from a)
  have b:=Zhy.1 b
  have d:=(ZeG a.t.1).1 (show Zcm w.frames w.ppu.T=true from d)
  exact ⟨a,b,(ZeP b.ord).1 c,d.1,d.2⟩
 ·rintro ⟨a,b,c,d,e⟩
  exact ⟨ZdE.2 a,Zhy.2 b,(ZeP (r:=(w.cap,(w.list,()))) b.ord).2 c,(ZeG a.t.1).2 ⟨d,e⟩⟩
theorem Zmk {w:SndM}:ZmY w.t=true↔SndP w:=by
 unfold ZmY
 simp only[Bool.and_eq_true]
 constructor
 ·rintro ⟨a,b,c,d⟩
  have a:=Zdy.1 (show Zh5 w.apu.t=true from a)
  have b:=Zhy.1 b
  have d:=(Zd3 a.t.1).1 (show ZdF w.samples w.apu.T=true from d)
  exact ⟨a,b,(ZeP b.ord).1 c,d⟩
 ·rintro ⟨a,b,c,d⟩
  exact ⟨Zdy.2 a,Zhy.2 b,(ZeP (r:=(w.cap,(w.list,()))) b.ord).2 c,(Zd3 a.t.1).2 d⟩
theorem PicP.s {w:PicM} (h:PicP w):ZgR w.t:=by
 have h1:=h.ppu.t
 have h2:=h.frn
 have h3:=h.ring.len
 have h4:=h.ring.c1
 unfold Zce at h2
 exact ⟨h.ppu.s,by show w.list.length≤_;omega,Zkl (f:=w.frames) h.fr (by omega)⟩
theorem SndP.s {w:SndM} (h:SndP w):Zg2 w.t:=by
 have h1:=h.apu.t
 have h2:=h.sam
 have h3:=h.ring.len
 have h4:=h.ring.c1
 exact ⟨by show w.list.length≤_;omega,by show w.samples.length≤_;omega⟩
theorem ZnV.tail {cap:Int} {x:Rc} {l:List Rc} (h:ZnV cap (x::l)):ZnV cap l:=
 ⟨fun y hy=>h.rec' y (List.mem_cons_of_mem _ hy),(List.pairwise_cons.1 h.ord).2,h.c0,h.c1,by have:=h.len;simp only[List.length_cons]at this;omega⟩
def due (l:List Rc) (t:Int):Bool:=match l with| []=>false|x::_=>decide (x.1=t)
def ZdR (l:List Rc):Rc:=match l with| []=>(0,(0,0))|x::_=>x
def Za8 (w:PicM) (mark:Int):Option PicM:=
 if due w.list w.ppu.T then some {w with ppu:=ZcA w.ppu (ZdR w.list).2.1 (ZdR w.list).2.2,list:=w.list.tail}
 else if w.ppu.T<mark∧w.ppu.T<20000 then some {w with ppu:=ZdJ w.ppu,frames:=if Zd6 w.ppu then w.frames++[ZcT w.ppu]else w.frames}else none
def Za9 (w:SndM) (mark:Int):Option SndM:=
 if due w.list w.apu.T then some {w with apu:=Zgs w.apu (ZdR w.list).2.1 (ZdR w.list).2.2,list:=w.list.tail}
 else if w.apu.T<mark∧w.apu.T<20000 then some {w with apu:=Zqk w.apu,samples:=if Zgv w.apu then w.samples++[Zf3 w.apu]else w.samples}else none
theorem Zhi {l:List Rc} {t:Int} (h:due l t=true):l=ZdR l::l.tail∧(ZdR l).1=t:=by
 unfold due ZdR at*
 cases l with
 |nil=>cases h
 |cons x l=>exact ⟨rfl,by simpa using h⟩
theorem ZuC {l:List Rc} {t:Int} (ho:l.Pairwise (fun a b=>a.1≤b.1)) (hl: ∀x,x∈l→t≤x.1) (h:due l t=false): ∀x,x∈l→t+1≤x.1:=by
 unfold due at h
 cases l with
 |nil=>intro x hx;cases hx
 |cons y l=>
  have h:y.1≠t:=by simpa using h
  have h1:=hl y List.mem_cons_self
  intro x hx
  cases hx with
  |head=>omega
  |tail _ hx=>have:=(List.pairwise_cons.1 ho).1 x hx;omega
theorem Zc6 {w v:PicM} {mark:Int} (h:PicP w) (hs:Za8 w mark=some v):PicP v∧v.cap=w.cap∧(∀x,x∈v.list→x∈w.list)∧
  (v.ppu.T=w.ppu.T∧v.list.length+1=w.list.length∨v.ppu.T=w.ppu.T+1∧w.ppu.T<mark∧w.ppu.T<20000∧v.list=w.list):=by
 obtain ⟨p,r,lo,f,fn⟩:=h
 unfold Za8 at hs
 split at hs
 ·rename_i hd
  obtain ⟨e,e1⟩:=Zhi hd
  simp only[Option.some.injEq]at hs
  subst hs
  rw[e]at r lo
  refine ⟨⟨Zsq p _ _,r.tail,fun x hx=> ?_,f,?_⟩,rfl,fun x hx=> ?_, .inl ⟨ZeY _ _ _,?_⟩⟩
  ·show (ZcA w.ppu _ _).T≤x.1
   rw[ZeY]
   exact lo x (List.mem_cons_of_mem _ hx)
  ·show (w.frames.length:Int)=Zce (ZcA w.ppu _ _).T
   rw[ZeY];exact fn
  ·show x∈w.list
   rw[e];exact List.mem_cons_of_mem _ hx
  ·show w.list.tail.length+1=w.list.length
   conv=>rhs;rw[e]
   rfl
 ·split at hs
  ·rename_i hd hm
   simp only[Option.some.injEq]at hs
   subst hs
   have hd:due w.list w.ppu.T=false:=by simpa using hd
   have p0:=p.t.1
   refine ⟨⟨Zvs p hm.2,r,fun x hx=> ?_,fun x hx=> ?_,?_⟩,rfl,fun x hx=>hx, .inr ⟨Zhc _,hm.1,hm.2,rfl⟩⟩
   ·show (ZdJ w.ppu).T≤x.1
    rw[Zhc]
    exact ZuC r.ord lo hd x hx
   ·have hx:x∈(if Zd6 w.ppu then w.frames++[ZcT w.ppu]else w.frames):=hx
    split at hx
    ·rename_i ht
     rcases List.mem_append.1 hx with h1|h1
     ·exact f x h1
     ·rw[List.mem_singleton.1 h1];exact Znl p ht
    ·exact f x hx
   ·show ((if Zd6 w.ppu then w.frames++[ZcT w.ppu]else w.frames).length:Int)=Zce (ZdJ w.ppu).T
    rw[Zhc]
    unfold Zce Zd6 at*
    by_cases h1:w.ppu.T%64=48
    ·simp only[h1,decide_true,if_true,List.length_append,List.length_singleton]
     omega
    ·simp only[h1,decide_false,Bool.false_eq_true,if_false]
     omega
  ·cases hs
theorem Zc7 {w v:SndM} {mark:Int} (h:SndP w) (hs:Za9 w mark=some v):SndP v∧v.cap=w.cap∧(∀x,x∈v.list→x∈w.list)∧
  (v.apu.T=w.apu.T∧v.list.length+1=w.list.length∨v.apu.T=w.apu.T+1∧w.apu.T<mark∧w.apu.T<20000∧v.list=w.list):=by
 obtain ⟨p,r,lo,fn⟩:=h
 unfold Za9 at hs
 split at hs
 ·rename_i hd
  obtain ⟨e,e1⟩:=Zhi hd
  simp only[Option.some.injEq]at hs
  subst hs
  rw[e]at r lo
  refine ⟨⟨Zso p _ _,r.tail,fun x hx=> ?_,?_⟩,rfl,fun x hx=> ?_, .inl ⟨ZkW _ _ _,?_⟩⟩
  ·show (Zgs w.apu _ _).T≤x.1
   rw[ZkW]
   exact lo x (List.mem_cons_of_mem _ hx)
  ·show (w.samples.length:Int)=(Zgs w.apu _ _).T/16
   rw[ZkW];exact fn
  ·show x∈w.list
   rw[e];exact List.mem_cons_of_mem _ hx
  ·show w.list.tail.length+1=w.list.length
   conv=>rhs;rw[e]
   rfl
 ·split at hs
  ·rename_i hd hm
   simp only[Option.some.injEq]at hs
   subst hs
   have hd:due w.list w.apu.T=false:=by simpa using hd
   have p0:=p.t.1
   refine ⟨⟨Zvn p hm.2,r,fun x hx=>ZuC r.ord lo hd x hx,?_⟩,rfl,fun x hx=>hx, .inr ⟨rfl,hm.1,hm.2,rfl⟩⟩
   show ((if Zgv w.apu then w.samples++[Zf3 w.apu]else w.samples).length:Int)=(w.apu.T+1)/16
   by_cases h1:w.apu.T%16=15
   ·rw[show Zgv w.apu=true from Zao h1,if_pos rfl,List.length_append,List.length_singleton]
    omega
   ·rw[show Zgv w.apu=false from Zag h1,if_neg (by simp)]
    omega
  ·cases hs
def ZbR:Nat→PicM→Int→PicM
 |0,w,_=>w
 |n+1,w,m=>match Za8 w m with|none=>w|some v=>ZbR n v m
def ZbS:Nat→SndM→Int→SndM
 |0,w,_=>w
 |n+1,w,m=>match Za9 w m with|none=>w|some v=>ZbS n v m
def Zb7 (w:PicM):Nat:=w.list.length+(20000-w.ppu.T).toNat
def Zb8 (w:SndM):Nat:=w.list.length+(20000-w.apu.T).toNat
theorem Zd9 {w v:PicM} {m:Int} (h:PicP w) (hs:Za8 w m=some v):Zb7 v<Zb7 w:=by
 obtain ⟨a,_,_,c⟩:=Zc6 h hs
 unfold Zb7
 have:=h.ppu.t
 rcases c with ⟨c,d⟩| ⟨c,d,e,f⟩
 ·rw[c];omega
 ·rw[c,f];omega
theorem Zea {w v:SndM} {m:Int} (h:SndP w) (hs:Za9 w m=some v):Zb8 v<Zb8 w:=by
 obtain ⟨a,_,_,c⟩:=Zc7 h hs
 unfold Zb8
 have:=h.apu.t
 rcases c with ⟨c,d⟩| ⟨c,d,e,f⟩
 ·rw[c];omega
 ·rw[c,f];omega
def ZbA (w:PicM) (m:Int):PicM:=ZbR (Zb7 w) w m
def ZbB (w:SndM) (m:Int):SndM:=ZbS (Zb8 w) w m
theorem Zk6: ∀{n:Nat} {w:PicM} {m:Int},PicP w→Zb7 w≤n→ZbR n w m=ZbA w m:=by
 intro n
 induction n using Nat.strongRecOn with
 |ind n ih=>
  intro w m h hn
  unfold ZbA
  cases n with
  |zero=>rw[show Zb7 w=0 by omega]
  |succ n=>
   cases hs:Za8 w m with
   |none=>
    rw[show ZbR (n+1) w m=w by rw[ZbR,hs]]
    cases Zb7 w with
    |zero=>rfl
    |succ k=>rw[ZbR,hs]
   |some v=>
    have h1:=Zd9 h hs
    rw[show ZbR (n+1) w m=ZbR n v m by rw[ZbR,hs]]
    rw[ih n (by omega) (Zc6 h hs).1 (by omega)]
    obtain ⟨k,hk⟩: ∃k,Zb7 w=k+1:=⟨Zb7 w-1,by omega⟩
    rw[hk,show ZbR (k+1) w m=ZbR k v m by rw[ZbR,hs]]
    exact (ih k (by omega) (Zc6 h hs).1 (by omega)).symm
theorem Zk7: ∀{n:Nat} {w:SndM} {m:Int},SndP w→Zb8 w≤n→ZbS n w m=ZbB w m:=by
 intro n
 induction n using Nat.strongRecOn with
 |ind n ih=>
  intro w m h hn
  unfold ZbB
  cases n with
  |zero=>rw[show Zb8 w=0 by omega]
  |succ n=>
   cases hs:Za9 w m with
   |none=>
    rw[show ZbS (n+1) w m=w by rw[ZbS,hs]]
    cases Zb8 w with
    |zero=>rfl
    |succ k=>rw[ZbS,hs]
   |some v=>
    have h1:=Zea h hs
    rw[show ZbS (n+1) w m=ZbS n v m by rw[ZbS,hs]]
    rw[ih n (by omega) (Zc7 h hs).1 (by omega)]
    obtain ⟨k,hk⟩: ∃k,Zb8 w=k+1:=⟨Zb8 w-1,by omega⟩
    rw[hk,show ZbS (k+1) w m=ZbS k v m by rw[ZbS,hs]]
    exact (ih k (by omega) (Zc7 h hs).1 (by omega)).symm
theorem Ze2 {w v:PicM} {m:Int} (h:PicP w) (hs:Za8 w m=some v):ZbA w m=ZbA v m:=by
 have h1:=Zd9 h hs
 obtain ⟨k,hk⟩: ∃k,Zb7 w=k+1:=⟨Zb7 w-1,by omega⟩
 unfold ZbA
 rw[hk,show ZbR (k+1) w m=ZbR k v m by rw[ZbR,hs]]
 exact Zk6 (Zc6 h hs).1 (by omega)
theorem Zdr {w:PicM} {m:Int} (hs:Za8 w m=none):ZbA w m=w:=by
 unfold ZbA
 cases Zb7 w with
 |zero=>rfl
 |succ k=>rw[ZbR,hs]
theorem Ze3 {w v:SndM} {m:Int} (h:SndP w) (hs:Za9 w m=some v):ZbB w m=ZbB v m:=by
 have h1:=Zea h hs
 obtain ⟨k,hk⟩: ∃k,Zb8 w=k+1:=⟨Zb8 w-1,by omega⟩
 unfold ZbB
 rw[hk,show ZbS (k+1) w m=ZbS k v m by rw[ZbS,hs]]
 exact Zk7 (Zc7 h hs).1 (by omega)
theorem Zds {w:SndM} {m:Int} (hs:Za9 w m=none):ZbB w m=w:=by
 unfold ZbB
 cases Zb8 w with
 |zero=>rfl
 |succ k=>rw[ZbS,hs]
theorem ZiC {Q:PicM→Prop} {m:Int} (hq: ∀w v,PicP w→Q w→Za8 w m=some v→Q v): ∀(n:Nat) {w:PicM},Zb7 w≤n→PicP w→Q w→PicP (ZbA w m)∧Q (ZbA w m)∧Za8 (ZbA w m) m=none
 |0,w,hn,h,q=>by
  cases hs:Za8 w m with
  |none=>rw[Zdr hs];exact ⟨h,q,hs⟩
  |some v=>have:=Zd9 h hs;omega
 |n+1,w,hn,h,q=>by
  cases hs:Za8 w m with
  |none=>rw[Zdr hs];exact ⟨h,q,hs⟩
  |some v=>
   rw[Ze2 h hs]
   exact ZiC hq n (by have:=Zd9 h hs;omega) (Zc6 h hs).1 (hq w v h q hs)
theorem ZiD {Q:SndM→Prop} {m:Int} (hq: ∀w v,SndP w→Q w→Za9 w m=some v→Q v): ∀(n:Nat) {w:SndM},Zb8 w≤n→SndP w→Q w→SndP (ZbB w m)∧Q (ZbB w m)∧Za9 (ZbB w m) m=none
 |0,w,hn,h,q=>by
  cases hs:Za9 w m with
  |none=>rw[Zds hs];exact ⟨h,q,hs⟩
  |some v=>have:=Zea h hs;omega
 |n+1,w,hn,h,q=>by
  cases hs:Za9 w m with
  |none=>rw[Zds hs];exact ⟨h,q,hs⟩
  |some v=>
   rw[Ze3 h hs]
   exact ZiD hq n (by have:=Zea h hs;omega) (Zc7 h hs).1 (hq w v h q hs)
structure Zac where
 img:List (List Int)
 pads:List Int
 mem:MemM
 cpu:CpuM
 pad:PadM
 T:Int
 nmi:Bool
 ctrl:Int
 known:Bool
 knownAt:Int
 steps:Int
 reads:List Int
 pic:PicM
 snd:SndM
def Zac.t (s:Zac):Tup ZaO:=(s.img,(s.pads,(s.mem.ram,(s.mem.bank,(s.cpu.a,(s.cpu.x,(s.cpu.s,(s.cpu.pc,(s.cpu.z,(s.cpu.n,(s.cpu.c,(s.cpu.i,(s.pad.held,(s.pad.shift,
 (s.T,(s.nmi,(s.ctrl,(s.known,(s.knownAt,(s.steps,(s.reads,
 (s.pic.ppu.T,(s.pic.ppu.ctrl,(s.pic.ppu.scroll,(s.pic.ppu.addr,(s.pic.ppu.pal,(s.pic.ppu.blank,(s.pic.ppu.table,(s.pic.ppu.dots,(s.pic.cap,(s.pic.list,(s.pic.frames,s.snd.t))))))))))))))))))))))))))))))))
def spM (s:Tup ZaO):Zac:=⟨Zez s,Zcq s,memM (ZdG s),cpuM (Zd4 s),padM (Zp3 s),spT s,ZxS s,Zva s,Zvb s,Zml s,ZoE s,Zb9 s,pcM (ZbE s),sdM (Zcz s)⟩
structure Zar (s:Zac):Prop where
 mem:MemP s.img s.mem
 pads:Zh2 s.pads
 cpu:CpuP s.cpu
 pic:PicP s.pic
 snd:SndP s.snd
 pad:PadP s.pad
 ctrl:0≤s.ctrl∧s.ctrl≤255
 t:0≤s.T∧s.T≤20000
 known:0≤s.knownAt∧s.knownAt≤s.T
 steps:0≤s.steps∧s.steps≤s.T
 pt:s.pic.ppu.T≤s.T
 st:s.snd.apu.T≤s.T
 pl: ∀x,x∈s.pic.list→x.1≤s.T
 sl: ∀x,x∈s.snd.list→x.1≤s.T
theorem ZaD {s:Zac}:ZaB s.t=true↔Zar s:=by
 unfold ZaB ZfF ZkT ZkS
 simp only[Bool.and_eq_true,ZbI]
 constructor
 ·rintro ⟨⟨a,b,c,d,e⟩,⟨f,g,h,i,j⟩,k,l,m,n⟩
  have d:=Zl5.1 (show ZmU s.pic.t=true from d)
  have e:=Zmk.1 (show ZmY s.snd.t=true from e)
  exact ⟨Zfx.1 a,Zec.1 b,ZiF.1 c,d,e,f,g,h,i,j,ZgO.1 k,ZgO.1 l,(ZeQ d.ring.ord).1 m,(ZeQ e.ring.ord).1 n⟩
 ·rintro ⟨a,b,c,d,e,f,g,h,i,j,k,l,m,n⟩
  exact ⟨⟨Zfx.2 a,Zec.2 b,ZiF.2 c,Zl5.2 d,Zmk.2 e⟩,⟨f,g,h,i,j⟩,ZgO.2 k,ZgO.2 l,(ZeQ (r:=(s.pic.cap,(s.pic.list,()))) d.ring.ord).2 m,(ZeQ (r:=(s.snd.cap,(s.snd.list,()))) e.ring.ord).2 n⟩
theorem Zar.s {s:Zac} (h:Zar s) (hr:s.reads.length≤4398046511104):Zal s.t:=by
 have h4:=h.mem.ram.len
 have h5:=h.pads.len
 exact ⟨h.mem.img.small,by show s.pads.length≤_;omega,by show s.mem.1.length≤_;omega,hr,h.pic.s,h.snd.s⟩
def ZnD (s:Zac):Bool:=eqI s.pic.ppu.T s.T&&eqI (s.pic.list.length:Int) 0
def Zgo (s:Zac):Bool:=eqI s.snd.apu.T s.T&&eqI (s.snd.list.length:Int) 0
def Zex (a b:Int):Bool:=decide ((a+31)/32< (b+31)/32)
def Zo1 (a b:Int):Bool:=decide ((a+15)/64< (b+15)/64)
def ZgQ (s:Zac) (n:Int):Int:=if 20000<s.T+n then 5 else 0
def Zfy (s:Zac):Bool:= !s.nmi&&(!s.cpu.i&&Zex s.knownAt s.T)
def askM (s:Zac):Bool:=(if Zex s.knownAt s.T then s.snd.apu.irq else s.known)&& !s.cpu.i
def opS (s:Zac):Int:=opT s.img s.mem s.cpu.pc
def argS (s:Zac):Int:=argT s.img s.mem s.cpu.pc
def adrS (s:Zac):Int:=accA (opS s) (argS s) s.cpu.x
def Zct (s:Zac):Int:=
 if s.nmi then ZgQ s 7 else if Zfy s&& !Zgo s then 2 else if askM s then ZgQ s 7
 else if ZaG (opS s)=1∧(rgT (adrS s)).1=2∧ZnD s=false then 1 else if ZaG (opS s)=1∧(rgT (adrS s)).1=3∧Zgo s=false then 2
 else if ZaG (opS s)=2∧(rgT (adrS s)).1=2∧s.pic.cap≤(s.pic.list.length:Int)then 3 else if ZaG (opS s)=2∧(rgT (adrS s)).1=3∧s.snd.cap≤(s.snd.list.length:Int)then 4
 else ZgQ s (Za0 (opS s))
def ZdC (s:Zac) (b:Bool):Zac:={s with known:=b,knownAt:=s.T}
def Zfa (s:Zac) (a:Int):Zac:=
 if (rgT a).1=2 then {s with pic:={s.pic with ppu:=Ze9 s.pic.ppu (rgT a).2},reads:=s.reads++[ZgX s.pic.ppu (rgT a).2]}
 else if (rgT a).1=3 then
  (if (rgT a).2=2 then {s with snd:={s.snd with apu:=ZgV s.snd.apu (rgT a).2},known:=false,knownAt:=s.T,reads:=s.reads++[Zgm s.snd.apu (rgT a).2]}
  else {s with snd:={s.snd with apu:=ZgV s.snd.apu (rgT a).2},reads:=s.reads++[Zgm s.snd.apu (rgT a).2]})
 else if (rgT a).1=4 then {s with pad:=ZpY s.pad s.pads s.T,reads:=s.reads++[ZgW s.pad s.pads s.T]}
 else s
def ZhU (s:Zac) (a:Int):Int:=
 if (rgT a).1=2 then ZgX s.pic.ppu (rgT a).2 else if (rgT a).1=3 then Zgm s.snd.apu (rgT a).2 else if (rgT a).1=4 then ZgW s.pad s.pads s.T else Zba s.img s.mem a
def ZcB (s:Zac) (a v:Int):Zac:=
 if (rgT a).1=2 then {s with pic:={s.pic with list:=s.pic.list++[(s.T,((rgT a).2,v))]},ctrl:=if (rgT a).2=0 then v else s.ctrl}
 else if (rgT a).1=3 then
  (if (rgT a).2=3∨(rgT a).2=2∧v%2=0 then {s with snd:={s.snd with list:=s.snd.list++[(s.T,((rgT a).2,v))]},known:=false,knownAt:=s.T}
  else {s with snd:={s.snd with list:=s.snd.list++[(s.T,((rgT a).2,v))]}})
 else if (rgT a).1=4 then {s with pad:=Zkt s.pad s.pads s.T v}else {s with mem:=ZkF s.img s.mem a v}
def ZlK (s:Zac) (v:Int):Zac:={s with mem:=Zfo s.mem s.cpu,cpu:=Zpa s.cpu (vecN s.img s.mem v)}
def Zui (s:Zac) (op arg v:Int):Zac:={s with mem:=Zn8 s.mem s.cpu op,cpu:=Zpf s.mem s.cpu op arg v}
def opDo (s:Zac):Zac:=
 if ZaG (opS s)=1 then Zui (Zfa s (adrS s)) (opS s) (argS s) (ZhU s (adrS s))
 else if ZaG (opS s)=2 then Zui (ZcB s (adrS s) (s.cpu.a%256)) (opS s) (argS s) 0
 else Zui s (opS s) (argS s) 0
def ZaE (s:Zac):Zac:=if Zfy s then ZdC s s.snd.apu.irq else s
def Zfn (s:Zac):Zac×Int:=
 if s.nmi then (ZlK {s with nmi:=false} 65530,7)else if s.known&& !s.cpu.i then (ZlK s 65534,7)else (opDo s,Za0 (opS s))
def endS (a:Int) (r:Zac×Int):Zac:={r.1 with T:=a+r.2,nmi:=ltI 127 r.1.ctrl&&Zo1 a (a+r.2),steps:=r.1.steps+1}
def Ziq (s:Zac):Zac:=endS s.T (Zfn (ZaE s))
structure Zfd (s:Zac) (s':Zac):Prop where
 img:s'.img=s.img
 pads:s'.pads=s.pads
 T:s'.T=s.T
 nmi:s'.nmi=s.nmi
 steps:s'.steps=s.steps
 reads:s'.reads.length≤s.reads.length+1
structure ZoU (s:Zac):Prop where
 p:Zar s
 room:ZaG (opS s)=2→(rgT (adrS s)).1=2→(s.pic.list.length:Int)<s.pic.cap
 room':ZaG (opS s)=2→(rgT (adrS s)).1=3→(s.snd.list.length:Int)<s.snd.cap
theorem Zu0 {s:Zac} (h:Zar s) (a:Int):Zar (Zfa s a):=by
 have hp:=h
 obtain ⟨m,ps,c,pc,sd,d,ct,t,kn,st,pt,sdt,pl,sl⟩:=h
 unfold Zfa
 split
 ·exact ⟨m,ps,c,⟨ZuZ pc.ppu _,pc.ring,fun x hx=>by show (Ze9 s.pic.ppu _).T≤_;rw[ZgY];exact pc.lo x hx,pc.fr,by show _=Zce (Ze9 s.pic.ppu _).T;rw[ZgY];exact pc.frn⟩,sd,d,ct,t,kn,st,by show (Ze9 s.pic.ppu _).T≤_;rw[ZgY];exact pt,sdt,pl,sl⟩
 split
 ·have sd':SndP {s.snd with apu:=ZgV s.snd.apu (rgT a).2}:=⟨ZuW sd.apu _,sd.ring,fun x hx=>by show (ZgV s.snd.apu _).T≤_;rw[Zox];exact sd.lo x hx,by show _=(ZgV s.snd.apu _).T/16;rw[Zox];exact sd.sam⟩
  have sdt':(ZgV s.snd.apu (rgT a).2).T≤s.T:=by rw[Zox];exact sdt
  split
  ·exact ⟨m,ps,c,pc,sd',d,ct,t,⟨t.1,Int.le_refl _⟩,st,pt,sdt',pl,sl⟩
  ·exact ⟨m,ps,c,pc,sd',d,ct,t,kn,st,pt,sdt',pl,sl⟩
 split
 ·exact ⟨m,ps,c,pc,sd,ZuX d ps,ct,t,kn,st,pt,sdt,pl,sl⟩
 ·exact hp
theorem Zwp {s:Zac} (h:Zar s) (a:Int):0≤ZhU s a∧ZhU s a≤255:=by
 unfold ZhU
 split
 ·exact Zsb h.pic.ppu _
 split
 ·exact Zr8 _ _
 split
 ·exact Zr9 _ _ _
 ·exact ZjN h.mem a
theorem Zra (s:Zac) (a:Int):Zfd s (Zfa s a)∧(Zfa s a).cpu=s.cpu∧(Zfa s a).mem=s.mem:=by
 unfold Zfa
 repeat' split
 all_goals exact ⟨⟨rfl,rfl,rfl,rfl,rfl,by simp⟩,rfl,rfl⟩
theorem ZnV.app {cap:Int} {l:List Rc} (h:ZnV cap l) {x:Rc} (hx:RcP x) (hl: ∀y,y∈l→y.1≤x.1) (hc:(l.length:Int)<cap):ZnV cap (l++[x]):=
 ⟨fun y hy=>by
  rcases List.mem_append.1 hy with h1|h1
  ·exact h.rec' y h1
  ·rw[List.mem_singleton.1 h1];exact hx,
 List.pairwise_append.2 ⟨h.ord,List.pairwise_singleton _ _,fun a ha b hb=>by rw[List.mem_singleton.1 hb];exact hl a ha⟩,h.c0,h.c1,by rw[List.length_append,List.length_singleton];omega⟩
theorem ZoR {s:Zac} (h:Zar s) {a v:Int} (hv:0≤v∧v≤255) (r1:(rgT a).1=2→(s.pic.list.length:Int)<s.pic.cap) (r2:(rgT a).1=3→(s.snd.list.length:Int)<s.snd.cap):Zar (ZcB s a v):=by
 have hp:=h
 obtain ⟨m,ps,c,pc,sd,d,ct,t,kn,st,pt,sdt,pl,sl⟩:=h
 have app: ∀{l:List Rc} {lo:Int},(∀x,x∈l→lo≤x.1)→lo≤s.T→ ∀x,x∈l++[(s.T,((rgT a).2,v))]→lo≤x.1:=fun h1 h2 x hx=>by
  rcases List.mem_append.1 hx with h3|h3
  ·exact h1 x h3
  ·rw[List.mem_singleton.1 h3];exact h2
 have app2: ∀{l:List Rc},(∀x,x∈l→x.1≤s.T)→ ∀x,x∈l++[(s.T,((rgT a).2,v))]→x.1≤s.T:=fun h1 x hx=>by
  rcases List.mem_append.1 hx with h3|h3
  ·exact h1 x h3
  ·rw[List.mem_singleton.1 h3];exact Int.le_refl _
 unfold ZcB
 split
 ·rename_i e
  have hr:0≤(rgT a).2∧(rgT a).2≤7:=by
   rcases Zes a with ⟨e',h0,h1⟩| ⟨e',h0,h1⟩| ⟨e',h0,h1⟩| ⟨e',h0⟩| ⟨e',h0,h1⟩| ⟨e',h0,h1⟩| ⟨e',h0⟩<;>omega
  refine ⟨m,ps,c,⟨pc.ppu,pc.ring.app ⟨t,hr,hv⟩ pl (r1 e),app pc.lo pt,pc.fr,pc.frn⟩,sd,d,?_,t,kn,st,pt,sdt,app2 pl,sl⟩
  show 0≤(if (rgT a).2=0 then v else s.ctrl)∧(if (rgT a).2=0 then v else s.ctrl)≤255
  split
  ·exact hv
  ·exact ct
 split
 ·rename_i e
  have hr:0≤(rgT a).2∧(rgT a).2≤7:=by
   rcases Zes a with ⟨e',h0,h1⟩| ⟨e',h0,h1⟩| ⟨e',h0,h1⟩| ⟨e',h0⟩| ⟨e',h0,h1⟩| ⟨e',h0,h1⟩| ⟨e',h0⟩<;>omega
  have sd':SndP {s.snd with list:=s.snd.list++[(s.T,((rgT a).2,v))]}:=⟨sd.apu,sd.ring.app ⟨t,hr,hv⟩ sl (r2 e),app sd.lo sdt,sd.sam⟩
  split
  ·exact ⟨m,ps,c,pc,sd',d,ct,t,⟨t.1,Int.le_refl _⟩,st,pt,sdt,pl,app2 sl⟩
  ·exact ⟨m,ps,c,pc,sd',d,ct,t,kn,st,pt,sdt,pl,app2 sl⟩
 split
 ·exact ⟨m,ps,c,pc,sd,Zsp d ps,ct,t,kn,st,pt,sdt,pl,sl⟩
 ·exact ⟨ZuQ m _ _,ps,c,pc,sd,d,ct,t,kn,st,pt,sdt,pl,sl⟩
theorem ZoS (s:Zac) (a v:Int):Zfd s (ZcB s a v)∧(ZcB s a v).cpu=s.cpu:=by
 unfold ZcB
 repeat' split
 all_goals exact ⟨⟨rfl,rfl,rfl,rfl,rfl,Nat.le_succ _⟩,rfl⟩
theorem ZrM {s:Zac} (h:Zar s) (v:Int):Zar (ZlK s v):=by
 obtain ⟨m,ps,c,pc,sd,d,ct,t,kn,st,pt,sdt,pl,sl⟩:=h
 exact ⟨m.of_ram (Zn6 m.ram) rfl,ps,ZrC c (Zvy _ _ _),pc,sd,d,ct,t,kn,st,pt,sdt,pl,sl⟩
theorem ZqE {s:Zac} (h:Zar s) (op arg v:Int):Zar (Zui s op arg v):=by
 obtain ⟨m,ps,c,pc,sd,d,ct,t,kn,st,pt,sdt,pl,sl⟩:=h
 exact ⟨m.of_ram (Zuh m.ram) (Zni _ _ _),ps,Zug c,pc,sd,d,ct,t,kn,st,pt,sdt,pl,sl⟩
theorem Zfd.exec {s s':Zac} (h:Zfd s s') (op arg v:Int):Zfd s (Zui s' op arg v):=⟨h.img,h.pads,h.T,h.nmi,h.steps,h.reads⟩
theorem ZuG {s:Zac} (h:ZoU s):Zar (opDo s)∧Zfd s (opDo s):=by
 unfold opDo
 split
 ·exact ⟨ZqE (Zu0 h.p _) _ _ _,(Zra s _).1.exec _ _ _⟩
 split
 ·rename_i e
  exact ⟨ZqE (ZoR h.p (mod256 _) (h.room e) (h.room' e)) _ _ _,(ZoS s _ _).1.exec _ _ _⟩
 ·exact ⟨ZqE h.p _ _ _,⟨rfl,rfl,rfl,rfl,rfl,Nat.le_succ _⟩⟩
theorem ZkN {s:Zac} (h:Zar s):Zar (ZaE s):=by
 unfold ZaE
 split
 ·obtain ⟨m,ps,c,pc,sd,d,ct,t,kn,st,pt,sdt,pl,sl⟩:=h
  exact ⟨m,ps,c,pc,sd,d,ct,t,⟨t.1,Int.le_refl _⟩,st,pt,sdt,pl,sl⟩
 ·exact h
theorem ZlT (s:Zac):(ZaE s).img=s.img∧(ZaE s).mem=s.mem∧(ZaE s).cpu=s.cpu∧(ZaE s).pic=s.pic∧(ZaE s).snd=s.snd∧(ZaE s).T=s.T∧(ZaE s).nmi=s.nmi∧(ZaE s).steps=s.steps∧(ZaE s).reads=s.reads∧(ZaE s).pads=s.pads:=by
 unfold ZaE
 split<;>exact ⟨rfl,rfl,rfl,rfl,rfl,rfl,rfl,rfl,rfl,rfl⟩
theorem ZlU (s:Zac) (hn:s.nmi=false):((ZaE s).known&& !s.cpu.i)=askM s:=by
 unfold ZaE Zfy askM
 rw[hn]
 cases hI:s.cpu.i with
 |true=>simp
 |false=>
  cases hb:Zex s.knownAt s.T with
  |true=>simp[ZdC]
  |false=>simp
theorem Zeb {s:Zac} {n:Int} (h:ZgQ s n=0):s.T+n≤20000:=by
 unfold ZgQ at h
 split at h
 ·omega
 ·omega
theorem Zvf {s:Zac} (h:Zar s) (hw:Zct s=0):Zar (Ziq s)∧(Ziq s).steps=s.steps+1∧(Ziq s).reads.length≤s.reads.length+1∧s.T< (Ziq s).T∧(Ziq s).T≤s.T+7∧(Ziq s).img=s.img∧(Ziq s).pads=s.pads:=by
 have hL:=ZkN h
 obtain ⟨e1,e2,e3,e4,e5,e6,e7,e8,e9,e10⟩:=ZlT s
 have eop:opS (ZaE s)=opS s:=by unfold opS;rw[e1,e2,e3]
 have earg:argS (ZaE s)=argS s:=by unfold argS;rw[e1,e2,e3]
 have eadr:adrS (ZaE s)=adrS s:=by unfold adrS;rw[eop,earg,e3]
 have key: ∃s' n,Zfn (ZaE s)=(s',n)∧Zar s'∧2≤n∧n≤7∧s.T+n≤20000∧s'.T=s.T∧s'.steps=s.steps∧s'.reads.length≤s.reads.length+1∧s'.img=s.img∧s'.pads=s.pads:=by
  unfold Zct at hw
  unfold Zfn
  rw[e7]
  cases hn:s.nmi with
  |true=>
   rw[hn,if_pos rfl]at hw
   rw[if_pos rfl]
   have h2:Zar {ZaE s with nmi:=false}:=⟨hL.mem,hL.pads,hL.cpu,hL.pic,hL.snd,hL.pad,hL.ctrl,hL.t,hL.known,hL.steps,hL.pt,hL.st,hL.pl,hL.sl⟩
   exact ⟨_,_,rfl,ZrM h2 _,by omega,by omega,Zeb hw,e6,e8,by show (ZaE s).reads.length≤_;rw[e9];omega,e1,e10⟩
  |false=>
   rw[hn,if_neg (by simp)]at hw
   rw[if_neg (by simp),e3,ZlU s hn]
   split at hw
   ·omega
   split at hw
   ·rename_i ha
    rw[ha,if_pos rfl]
    exact ⟨_,_,rfl,ZrM hL _,by omega,by omega,Zeb hw,e6,e8,by show (ZaE s).reads.length≤_;rw[e9];omega,e1,e10⟩
   ·rename_i ha
    rw[if_neg ha]
    split at hw
    ·omega
    split at hw
    ·omega
    split at hw
    ·omega
    rename_i h3
    split at hw
    ·omega
    rename_i h4
    have hc:=Zht (opS s)
    have hr:ZoU (ZaE s):=⟨hL,fun a b=>by rw[eop]at a;rw[eadr]at b;rw[e4];rcases Int.lt_or_le (s.pic.list.length:Int) s.pic.cap with h5|h5;exact h5;exact absurd ⟨a,b,h5⟩ h3,
     fun a b=>by rw[eop]at a;rw[eadr]at b;rw[e5];rcases Int.lt_or_le (s.snd.list.length:Int) s.snd.cap with h5|h5;exact h5;exact absurd ⟨a,b,h5⟩ h4⟩
    obtain ⟨p,f⟩:=ZuG hr
    exact ⟨_,_,rfl,p,by rw[eop];omega,by rw[eop];omega,by rw[eop];exact Zeb hw,by rw[f.T,e6],by rw[f.steps,e8],by have:=f.reads;rw[e9]at this;exact this,by rw[f.img,e1],by rw[f.pads,e10]⟩
 obtain ⟨s',n,e,p,n1,n2,n3,t1,t2,t3,t4,t5⟩:=key
 unfold Ziq
 rw[e]
 have k1:=h.t
 have k2:=h.steps
 obtain ⟨m,ps,c,pc,sd,d,ct,t,kn,st,pt,sdt,pl,sl⟩:=p
 rw[t1]at kn pt sdt pl sl
 refine ⟨⟨m,ps,c,pc,sd,d,ct,⟨by show 0≤s.T+n;omega,n3⟩,⟨kn.1,by show s'.knownAt≤s.T+n;omega⟩,⟨by show 0≤s'.steps+1;omega,by show s'.steps+1≤s.T+n;omega⟩,by show (s'.pic.ppu.1:Int)≤s.T+n;omega,by show (s'.snd.apu.1:Int)≤s.T+n;omega,
  fun x hx=>by have:=pl x hx;show x.1≤s.T+n;omega,fun x hx=>by have:=sl x hx;show x.1≤s.T+n;omega⟩,?_,t3,?_,?_,t4,t5⟩
 ·show s'.steps+1=s.steps+1;rw[t2]
 ·show s.T<s.T+n;omega
 ·show s.T+n≤s.T+7;omega
def Zov (s:Zac) (who:Int):Option Zac:=
 if who=0 then (if Zct s=0 then some (Ziq s)else none)
 else if who=1 then (Za8 s.pic s.T).map fun p=>{s with pic:=p}else if who=2 then (Za9 s.snd s.T).map fun p=>{s with snd:=p}else none
theorem ZxK {s v:Zac} {who:Int} (h:Zar s) (hs:Zov s who=some v):Zar v∧v.reads.length≤s.reads.length+1:=by
 unfold Zov at hs
 split at hs
 ·split at hs
  ·rename_i hw
   simp only[Option.some.injEq]at hs
   subst hs
   obtain ⟨a,_,b,_⟩:=Zvf h hw
   exact ⟨a,b⟩
  ·cases hs
 split at hs
 ·cases hp:Za8 s.pic s.T with
  |none=>rw[hp]at hs;cases hs
  |some p=>
   rw[hp]at hs
   simp only[Option.map_some,Option.some.injEq]at hs
   subst hs
   obtain ⟨a,b,c,d⟩:=Zc6 h.pic hp
   have:=h.pt
   obtain ⟨m,ps,cc,pc,sd,dd,ct,t,kn,st,pt,sdt,pl,sl⟩:=h
   exact ⟨⟨m,ps,cc,a,sd,dd,ct,t,kn,st,by show p.ppu.T≤s.T;rcases d with d|d<;>omega,sdt,fun x hx=>pl x (c x hx),sl⟩,Nat.le_succ _⟩
 split at hs
 ·cases hp:Za9 s.snd s.T with
  |none=>rw[hp]at hs;cases hs
  |some p=>
   rw[hp]at hs
   simp only[Option.map_some,Option.some.injEq]at hs
   subst hs
   obtain ⟨a,b,c,d⟩:=Zc7 h.snd hp
   have:=h.st
   obtain ⟨m,ps,cc,pc,sd,dd,ct,t,kn,st,pt,sdt,pl,sl⟩:=h
   exact ⟨⟨m,ps,cc,pc,a,dd,ct,t,kn,st,pt,by show p.apu.T≤s.T;rcases d with d|d<;>omega,pl,fun x hx=>sl x (c x hx)⟩,Nat.le_succ _⟩
 ·cases hs
def ZaK (s:Zac):Zac:={s with pic:=ZbA s.pic s.T,snd:=ZbB s.snd s.T}
theorem ZiV {s:Zac} (h:Zar s):Zar (ZaK s)∧Za8 (ZaK s).pic s.T=none∧Za9 (ZaK s).snd s.T=none:=by
 have a:=ZiC (m:=s.T) (Q:=fun w=>w.ppu.T≤s.T∧ ∀x,x∈w.list→x.1≤s.T) (fun w v hw hq hs=>by
  obtain ⟨a,b,c,d⟩:=Zc6 hw hs
  exact ⟨by have:=hq.1;rcases d with d|d<;>omega,fun x hx=>hq.2 x (c x hx)⟩) _ (Nat.le_refl _) h.pic ⟨h.pt,h.pl⟩
 have b:=ZiD (m:=s.T) (Q:=fun w=>w.apu.T≤s.T∧ ∀x,x∈w.list→x.1≤s.T) (fun w v hw hq hs=>by
  obtain ⟨a,b,c,d⟩:=Zc7 hw hs
  exact ⟨by have:=hq.1;rcases d with d|d<;>omega,fun x hx=>hq.2 x (c x hx)⟩) _ (Nat.le_refl _) h.snd ⟨h.st,h.sl⟩
 obtain ⟨m,ps,cc,pc,sd,dd,ct,t,kn,st,pt,sdt,pl,sl⟩:=h
 exact ⟨⟨m,ps,cc,a.1,b.1,dd,ct,t,kn,st,a.2.1.1,b.2.1.1,a.2.1.2,b.2.1.2⟩,a.2.2,b.2.2⟩

end Go.Proofs.YtleidaafbhojfaaGreatDoor.Plain
