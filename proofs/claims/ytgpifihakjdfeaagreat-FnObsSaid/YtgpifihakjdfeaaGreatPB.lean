/- Plain laws of the printed functions: Exec, UnitM, LockM, SplitM. No condition beyond those that each lemma states. -/
import Derived.Test.YtgpifihakjdfeaaGreatPA
set_option linter.unusedVariables false
set_option linter.unusedSimpArgs false
namespace Go.Proofs.YtgpifihakjdfeaaGreat.Plain
open Go Go.Tev
theorem ofInt_wrap (b:BitVec 64):BitVec.ofInt 64 (IntKind.i64.wrap (b.toNat:Int))=b:=by
 rw[IntKind.wrap_i64]
 apply BitVec.eq_of_toNat_eq
 rw[ofInt_toNat]
 have h:=b.isLt
 omega
theorem ofInt_bOr (x y:Int):BitVec.ofInt 64 (bOr .i64 x y)=BitVec.ofInt 64 x|||BitVec.ofInt 64 y:=ofInt_wrap (BitVec.ofInt 64 x|||BitVec.ofInt 64 y)
theorem ofInt_bXor (x y:Int):BitVec.ofInt 64 (bXor .i64 x y)=BitVec.ofInt 64 x^^^BitVec.ofInt 64 y:=ofInt_wrap (BitVec.ofInt 64 x^^^BitVec.ofInt 64 y)
theorem ofInt_bAnd (x y:Int):BitVec.ofInt 64 (bAnd .i64 x y)=BitVec.ofInt 64 x&&&BitVec.ofInt 64 y:=ofInt_wrap (BitVec.ofInt 64 x&&&BitVec.ofInt 64 y)
theorem mod_of_and {x y:Int} (h:BitVec.ofInt 64 x&&&BitVec.ofInt 64 255=BitVec.ofInt 64 y&&&BitVec.ofInt 64 255):x%256=y%256:=by
 rw[←bAnd_255 x,←bAnd_255 y]
 show IntKind.i64.wrap (BitVec.ofInt 64 x&&&BitVec.ofInt 64 255).toNat=IntKind.i64.wrap (BitVec.ofInt 64 y&&&BitVec.ofInt 64 255).toNat
 rw[h]
theorem bAnd_mask (a b:Int):bAnd .i64 (a%256) (b%256)%256=bAnd .i64 a b%256:=by
 apply mod_of_and
 rw[ofInt_bAnd,ofInt_bAnd,←bAnd_255 a,←bAnd_255 b,ofInt_bAnd,ofInt_bAnd]
 ext i
 simp only[BitVec.getElem_and]
 cases (BitVec.ofInt 64 a)[i]<;>cases (BitVec.ofInt 64 b)[i]<;>cases (BitVec.ofInt 64 255)[i]<;>rfl
theorem bOr_mask (a b:Int):bOr .i64 (a%256) (b%256)%256=bOr .i64 a b%256:=by
 apply mod_of_and
 rw[ofInt_bOr,ofInt_bOr,←bAnd_255 a,←bAnd_255 b,ofInt_bAnd,ofInt_bAnd]
 ext i
 simp only[BitVec.getElem_and,BitVec.getElem_or]
 cases (BitVec.ofInt 64 a)[i]<;>cases (BitVec.ofInt 64 b)[i]<;>cases (BitVec.ofInt 64 255)[i]<;>rfl
theorem bXor_mask (a b:Int):bXor .i64 (a%256) (b%256)%256=bXor .i64 a b%256:=by
 apply mod_of_and
 rw[ofInt_bXor,ofInt_bXor,←bAnd_255 a,←bAnd_255 b,ofInt_bAnd,ofInt_bAnd]
 ext i
 simp only[BitVec.getElem_and,BitVec.getElem_xor]
 cases (BitVec.ofInt 64 a)[i]<;>cases (BitVec.ofInt 64 b)[i]<;>cases (BitVec.ofInt 64 255)[i]<;>rfl
theorem bXor_64 {a b:Int} (ha:0≤a∧a≤63) (hb:0≤b∧b≤63):0≤bXor .i64 a b∧bXor .i64 a b≤63:=by
 have e1:(BitVec.ofInt 64 a).toNat=a.toNat:=by rw[ofInt_toNat,Int.emod_eq_of_lt (by omega) (by omega)]
 have e2:(BitVec.ofInt 64 b).toNat=b.toNat:=by rw[ofInt_toNat,Int.emod_eq_of_lt (by omega) (by omega)]
 have e3:(BitVec.ofInt 64 a^^^BitVec.ofInt 64 b).toNat<2^6:=by
  rw[BitVec.toNat_xor,e1,e2]
  exact Nat.xor_lt_two_pow (by omega) (by omega)
 have:bXor .i64 a b=((BitVec.ofInt 64 a^^^BitVec.ofInt 64 b).toNat:Int):=by
  show wI ((BitVec.ofInt 64 a^^^BitVec.ofInt 64 b).toNat:Int)=_
  exact wI_id (by omega) (by omega)
 rw[this]
 omega
def setPc (c:CpuM) (p:Int):CpuM:={c with pc:=p}
def setC (c:CpuM) (b:Bool):CpuM:={c with c:=b}
def setI (c:CpuM) (b:Bool):CpuM:={c with i:=b}
def addT (c:CpuM) (b:Int):CpuM:=setC (setAT c (addS c.a b c.c%256)) (ltI 255 (addS c.a b c.c))
def subT (c:CpuM) (b:Int):CpuM:=setC (setAT c (subS c.a b c.c%256)) (leI 0 (subS c.a b c.c))
def cpiT (c:CpuM) (b:Int):CpuM:={c with z:=eqI ((c.a%256-b%256)%256) 0,n:=ltI 127 ((c.a%256-b%256)%256),c:=leI (b%256) (c.a%256)}
def reckonT (c:CpuM) (op arg v:Int):CpuM:=
 if op=1 then setAT c arg else if op=2∨op=14 then setAT c v else if op=4 then addT c arg else if op=29 then addT c v else if op=5 then subT c arg
 else if op=6 then setAT c (bAnd .i64 c.a arg)else if op=7 then setAT c (bOr .i64 c.a arg)else if op=8 then setAT c (bXor .i64 c.a arg)else if op=9 then cpiT c arg else c
def isReckon (op:Int):Bool:=decide (op=1∨op=2∨op=14∨op=4∨op=29∨op=5∨op=6∨op=7∨op=8∨op=9)
def turnT (c:CpuM) (op:Int):CpuM:=
 if op=10 then setXT c c.a else if op=11 then setAT c c.x else if op=12 then setXT c (c.x+1)else if op=13 then setXT c (c.x-1)
 else if op=25 then setI c true else if op=26 then setI c false else if op=27 then setC c true else if op=28 then setC c false else c
def isTurn (op:Int):Bool:=decide (op=10∨op=11∨op=12∨op=13∨op=25∨op=26∨op=27∨op=28)
def backC (x:MemM) (c:CpuM):CpuM:=setPc (pullC (pullC c)) (joinN (pullV x c) (pullV x (pullC c)))
def shr8 (p:Int):Int:=p.fdiv 256
def pushPcM (x:MemM) (c:CpuM):MemM:=pushM (pushM x c (shr8 c.pc)) (pushC c) c.pc
def pushPcC (c:CpuM):CpuM:=pushC (pushC c)
def flowM (x:MemM) (c:CpuM) (op:Int):MemM:=if op=20 then pushPcM x c else if op=22 then pushM x c c.a else x
def flowC (x:MemM) (c:CpuM) (op arg:Int):CpuM:=
 if op=16 then (if c.z then c else setPc c (arg%65536))else if op=17 then (if c.z then setPc c (arg%65536)else c)else if op=18 then (if c.c then setPc c (arg%65536)else c)
 else if op=19 then setPc c (arg%65536)else if op=20 then setPc (pushPcC c) (arg%65536)else if op=21 then backC x c else if op=22 then pushC c else if op=23 then setAT (pullC c) (pullV x c)
 else if op=24 then backC x (wfT (pullC c) (pullV x c))else c
def stepPc (c:CpuM) (op:Int):CpuM:=setPc c ((c.pc+opLenN op)%65536)
def execM (x:MemM) (c:CpuM) (op:Int):MemM:=flowM x (stepPc c op) op
def execC (x:MemM) (c:CpuM) (op arg v:Int):CpuM:=
 if isReckon op then reckonT (stepPc c op) op arg v else if isTurn op then turnT (stepPc c op) op else flowC x (stepPc c op) op arg
theorem setPc_P {c:CpuM} {p:Int} (h:CpuP c) (hp:0≤p∧p≤65535):CpuP (setPc c p):=⟨h.a,h.x,h.s,hp⟩
theorem setC_P {c:CpuM} {b:Bool} (h:CpuP c):CpuP (setC c b):=⟨h.a,h.x,h.s,h.pc⟩
theorem setI_P {c:CpuM} {b:Bool} (h:CpuP c):CpuP (setI c b):=⟨h.a,h.x,h.s,h.pc⟩
theorem mod65536 (x:Int):0≤x%65536∧x%65536≤65535:=by omega
theorem joinN_b (a b:Int):0≤joinN a b∧joinN a b≤65535:=by unfold joinN;omega
theorem backC_P {x:MemM} {c:CpuM} (h:CpuP c):CpuP (backC x c):=setPc_P (pullC_P (pullC_P h)) (joinN_b _ _)
theorem pushPcC_P {c:CpuM} (h:CpuP c):CpuP (pushPcC c):=pushC_P (pushC_P h)
theorem pushPcM_P {x:MemM} {c:CpuM} (h:RamP x):RamP (pushPcM x c):=pushM_P (pushM_P h _ _) _ _
theorem reckonT_P {c:CpuM} {op arg v:Int} (h:CpuP c):CpuP (reckonT c op arg v):=by
 unfold reckonT addT subT
 repeat' split
 all_goals first|exact setAT_P h|exact setC_P (setAT_P h)|exact h|exact ⟨h.a,h.x,h.s,h.pc⟩
theorem turnT_P {c:CpuM} {op:Int} (h:CpuP c):CpuP (turnT c op):=by
 unfold turnT
 repeat' split
 all_goals first|exact setXT_P h|exact setAT_P h|exact setI_P h|exact setC_P h|exact h
theorem flowM_P {x:MemM} {c:CpuM} {op:Int} (h:RamP x):RamP (flowM x c op):=by
 unfold flowM
 repeat' split
 all_goals first|exact pushPcM_P h|exact pushM_P h _ _|exact h
theorem flowC_P {x:MemM} {c:CpuM} {op arg:Int} (h:CpuP c):CpuP (flowC x c op arg):=by
 unfold flowC
 repeat' split
 all_goals first|exact h|exact setPc_P h (mod65536 _)|exact setPc_P (pushPcC_P h) (mod65536 _)|exact backC_P h|exact pushC_P h|exact setAT_P (pullC_P h)|exact backC_P (wfT_P (pullC_P h))
theorem stepPc_P {c:CpuM} {op:Int} (h:CpuP c):CpuP (stepPc c op):=setPc_P h (mod65536 _)
theorem execM_P {x:MemM} {c:CpuM} {op:Int} (h:RamP x):RamP (execM x c op):=flowM_P h
theorem execC_P {x:MemM} {c:CpuM} {op arg v:Int} (h:CpuP c):CpuP (execC x c op arg v):=by
 unfold execC
 repeat' split
 all_goals first|exact reckonT_P (stepPc_P h)|exact turnT_P (stepPc_P h)|exact flowC_P (stepPc_P h)
theorem execM_bank (x:MemM) (c:CpuM) (op:Int):(execM x c op).bank=x.bank:=by
 unfold execM flowM pushPcM
 repeat' split
 all_goals rfl
theorem MemP.of_ram {f:List (List Int)} {x y:MemM} (h:MemP f x) (hy:RamP y) (hb:y.bank=x.bank):MemP f y:=⟨h.img,hy,by rw[hb];exact h.b0,by rw[hb];exact h.b1⟩
def enterM (x:MemM) (c:CpuM):MemM:=pushM (pushPcM x c) (pushPcC c) (flagsT c)
def enterC (c:CpuM) (to:Int):CpuM:=setPc (setI (pushC (pushPcC c)) true) to
theorem enterM_P {x:MemM} {c:CpuM} (h:RamP x):RamP (enterM x c):=pushM_P (pushPcM_P h) _ _
theorem enterC_P {c:CpuM} {to:Int} (h:CpuP c) (ht:0≤to∧to≤65535):CpuP (enterC c to):=setPc_P (setI_P (pushC_P (pushPcC_P h))) ht
def opT (f:List (List Int)) (x:MemM) (pc:Int):Int:=peekT f x pc
def argT (f:List (List Int)) (x:MemM) (pc:Int):Int:=
 if opLenN (peekT f x pc)=2 then peekT f x (pc+1)else if opLenN (peekT f x pc)=3 then joinN (peekT f x (pc+1)) (peekT f x (pc+2))else 0
theorem opLenN_b (n:Int):1≤opLenN n∧opLenN n≤3:=by
 unfold opLenN
 split
 ·rename_i h
  rcases ops_cases h with rfl|rfl|rfl|rfl|rfl|rfl|rfl|rfl|rfl|rfl|rfl|rfl|rfl|rfl|rfl|rfl|rfl|rfl|rfl|rfl|rfl|rfl|rfl|rfl|rfl|rfl|rfl|rfl|rfl|rfl<;>decide
 ·decide
theorem opCycN_b (n:Int):2≤opCycN n∧opCycN n≤6:=by
 unfold opCycN
 split
 ·rename_i h
  rcases ops_cases h with rfl|rfl|rfl|rfl|rfl|rfl|rfl|rfl|rfl|rfl|rfl|rfl|rfl|rfl|rfl|rfl|rfl|rfl|rfl|rfl|rfl|rfl|rfl|rfl|rfl|rfl|rfl|rfl|rfl|rfl<;>decide
 ·decide
theorem argT_b {f:List (List Int)} {x:MemM} (h:MemP f x) (pc:Int):0≤argT f x pc∧argT f x pc≤65535:=by
 unfold argT
 split
 ·have:=peekT_byte h (pc+1);omega
 split
 ·exact joinN_b _ _
 ·decide
def accA (op arg x:Int):Int:=if opAccN op=0 then 0 else if op=14∨op=15 then (arg+x)%65536 else arg%65536
def accV (op a:Int):Int:=if opAccN op=2 then a%256 else 0
def ColP (l:List Int):Prop:= ∀n,n∈l→0≤n∧n≤63
structure PpuP (p:PpuM):Prop where
 t:0≤p.T∧p.T≤20000
 ctrl:0≤p.ctrl∧p.ctrl≤255
 scroll:0≤p.scroll∧p.scroll≤255
 addr:0≤p.addr∧p.addr≤15
 pal:0≤p.pal∧p.pal≤63
 len:p.table.length=16
 table:ColP p.table
 dots:(p.dots.length:Int)=if 48<p.T%64 then 0 else p.T%64
 cols:ColP p.dots
theorem ppuOk_iff {p:PpuM}:ppuOk p.t=true↔PpuP p:=by
 unfold ppuOk ppuNum ppuRows PpuM.t
 simp only[Bool.and_eq_true,inR_iff,allR_iff,eqI_iff]
 constructor
 ·rintro ⟨⟨a,b,c,d,e⟩,f,g,h,i⟩
  refine ⟨a,b,c,d,e,by omega,g,?_,i⟩
  rw[h,dotsN,tmod_nn a.1]
 ·rintro ⟨a,b,c,d,e,f,g,h,i⟩
  refine ⟨⟨a,b,c,d,e⟩,by omega,g,?_,i⟩
  rw[h,dotsN,tmod_nn a.1]
theorem PpuP.s {p:PpuM} (h:PpuP p):ppuOkS p.t:=by
 have h1:=h.len
 have h2:=h.dots
 refine ⟨by show p.table.length≤_;omega,?_⟩
 show p.dots.length≤_
 split at h2<;>omega
def dotN (p:PpuM) (at':Int):Int:=bXor .i64 (rdE .i p.table ((at'%8+p.scroll+at'/8)%16)) p.pal
theorem dotN_col {p:PpuM} (h:PpuP p) (a:Int):0≤dotN p a∧dotN p a≤63:=
 bXor_64 (h.table _ (rdE_mem (e:= .i) (by omega) (by rw[h.len];omega))) h.pal
def tickP (p:PpuM):PpuM:=
 if p.T%64<48 then {p with T:=p.T+1,dots:=p.dots++[dotN p (p.T%64)]}
 else if p.T%64=48 then {p with T:=p.T+1,blank:=true,dots:=[]}
 else if p.T%64=63 then {p with T:=p.T+1,blank:=false}
 else {p with T:=p.T+1}
def toldP (p:PpuM):Bool:=decide (p.T%64=48)
def frameP (p:PpuM):List Int:=if p.T%64=48 then p.dots else []
def asksP (p:PpuM):Bool:=decide (p.T%64=48)&&ltI 127 p.ctrl
theorem tickP_t (p:PpuM):(tickP p).T=p.T+1:=by
 unfold tickP
 repeat' split
 all_goals rfl
theorem tickP_P {p:PpuM} (h:PpuP p) (ht:p.T<20000):PpuP (tickP p):=by
 obtain ⟨a,b,c,d,e,f,g,hd,i⟩:=h
 have hp:PpuP p:=⟨a,b,c,d,e,f,g,hd,i⟩
 unfold tickP
 split
 ·rename_i h1
  refine ⟨⟨by show 0≤p.T+1;omega,by show p.T+1≤20000;omega⟩,b,c,d,e,f,g,?_,fun n hn=> ?_⟩
  ·show ((p.dots++[dotN p (p.T%64)]).length:Int)=if 48< (p.T+1)%64 then 0 else (p.T+1)%64
   rw[List.length_append,List.length_singleton]
   rw[if_neg (by omega)]at hd
   rw[if_neg (by omega)]
   omega
  ·rcases List.mem_append.1 hn with h2|h2
   ·exact i n h2
   ·rw[List.mem_singleton.1 h2];exact dotN_col hp _
 split
 ·rename_i h1 h2
  refine ⟨⟨by show 0≤p.T+1;omega,by show p.T+1≤20000;omega⟩,b,c,d,e,f,g,?_,fun n hn=>by cases hn⟩
  show (0:Int)=if 48< (p.T+1)%64 then 0 else (p.T+1)%64
  rw[if_pos (by omega)]
 split
 ·rename_i h1 h2 h3
  refine ⟨⟨by show 0≤p.T+1;omega,by show p.T+1≤20000;omega⟩,b,c,d,e,f,g,?_,i⟩
  show (p.dots.length:Int)=if 48< (p.T+1)%64 then 0 else (p.T+1)%64
  rw[if_pos (by omega)]at hd
  split<;>omega
 ·rename_i h1 h2 h3
  refine ⟨⟨by show 0≤p.T+1;omega,by show p.T+1≤20000;omega⟩,b,c,d,e,f,g,?_,i⟩
  show (p.dots.length:Int)=if 48< (p.T+1)%64 then 0 else (p.T+1)%64
  rw[if_pos (by omega)]at hd
  rw[if_pos (by omega)]
  exact hd
theorem frameP_len {p:PpuM} (h:PpuP p) (ht:toldP p=true):(frameP p).length=48:=by
 have h1:p.T%64=48:=by simpa [toldP] using ht
 have hd:=h.dots
 unfold frameP
 rw[if_pos h1]
 rw[if_neg (by omega),h1]at hd
 omega
def writeP (p:PpuM) (reg v:Int):PpuM:=
 if reg=0 then {p with ctrl:=v%256}else if reg=1 then {p with scroll:=v%256}else if reg=3 then {p with addr:=(v%256)%16}
 else if reg=4 then {p with addr:=(p.addr+1)%16,table:=p.table.set p.addr.toNat ((v%256)%64)}
 else if reg=5 then {p with pal:=(v%256)%64}else p
theorem ColP.set {l:List Int} (h:ColP l) (i:Nat) {v:Int} (hv:0≤v∧v≤63):ColP (l.set i v):=fun n hn=>by
 rcases List.mem_or_eq_of_mem_set hn with h1|h1
 ·exact h n h1
 ·rw[h1];exact hv
theorem writeP_P {p:PpuM} (h:PpuP p) (reg v:Int):PpuP (writeP p reg v):=by
 have hp:=h
 obtain ⟨a,b,c,d,e,f,g,hd,i⟩:=h
 unfold writeP
 split
 ·exact ⟨a,mod256 v,c,d,e,f,g,hd,i⟩
 split
 ·exact ⟨a,b,mod256 v,d,e,f,g,hd,i⟩
 split
 ·exact ⟨a,b,c,by show 0≤(v%256)%16∧(v%256)%16≤15;omega,e,f,g,hd,i⟩
 split
 ·exact ⟨a,b,c,by show 0≤(p.addr+1)%16∧(p.addr+1)%16≤15;omega,e,by show (p.table.set _ _).length=16;rw[List.length_set];exact f,g.set _ (by omega),hd,i⟩
 split
 ·exact ⟨a,b,c,d,by show 0≤(v%256)%64∧(v%256)%64≤63;omega,f,g,hd,i⟩
 ·exact hp
theorem writeP_t (p:PpuM) (reg v:Int):(writeP p reg v).T=p.T:=by
 unfold writeP
 repeat' split
 all_goals rfl
def readP (p:PpuM) (reg:Int):PpuM:=if reg=2 then {p with blank:=false}else if reg=4 then {p with addr:=(p.addr+1)%16}else p
def readPV (p:PpuM) (reg:Int):Int:=if reg=2 then 128*flagN p.blank else if reg=4 then rdE .i p.table p.addr else 0
theorem readP_P {p:PpuM} (h:PpuP p) (reg:Int):PpuP (readP p reg):=by
 have hp:=h
 obtain ⟨a,b,c,d,e,f,g,hd,i⟩:=h
 unfold readP
 split
 ·exact ⟨a,b,c,d,e,f,g,hd,i⟩
 split
 ·exact ⟨a,b,c,by show 0≤(p.addr+1)%16∧(p.addr+1)%16≤15;omega,e,f,g,hd,i⟩
 ·exact hp
theorem readP_t (p:PpuM) (reg:Int):(readP p reg).T=p.T:=by
 unfold readP
 repeat' split
 all_goals rfl
theorem readPV_b {p:PpuM} (h:PpuP p) (reg:Int):0≤readPV p reg∧readPV p reg≤255:=by
 unfold readPV
 split
 ·have:=flagN_range p.blank;omega
 split
 ·have:=h.table _ (rdE_mem (e:= .i) (l:=p.table) h.addr.1 (by have:=h.addr.2;rw[h.len];omega));omega
 ·decide
structure ApuP (a:ApuM):Prop where
 t:0≤a.T∧a.T≤20000
 period:0≤a.period∧a.period≤255
 count:0≤a.count∧a.count≤255
 bit:0≤a.bit∧a.bit≤1
 len:0≤a.len∧a.len≤31
theorem apuOk_iff {a:ApuM}:apuOk a.t=true↔ApuP a:=by
 unfold apuOk ApuM.t
 simp only[Bool.and_eq_true,inR_iff]
 constructor
 ·rintro ⟨a,b,c,d,e⟩;exact ⟨a,b,c,d,e⟩
 ·rintro ⟨a,b,c,d,e⟩;exact ⟨a,b,c,d,e⟩
def countA (a:ApuM):ApuM:=
 if a.count=0 then (if 0<a.len then {a with count:=a.period,bit:=1-a.bit}else {a with count:=a.period})else {a with count:=a.count-1}
def beatA (a:ApuM):ApuM:=
 if a.T%32=0∧0<a.len then {a with len:=a.len-1,irq:=a.irq|| (eqI (a.len-1) 0&&a.asks)}else a
def tickA (a:ApuM):ApuM:={beatA (countA a)with T:=a.T+1}
def toldA (a:ApuM):Bool:=eqI (a.T%16) 15
def sampleA (a:ApuM):Int:=if a.T%16=15∧(beatA (countA a)).len≠0 then 8*(beatA (countA a)).bit else 0
theorem countA_P {a:ApuM} (h:ApuP a):ApuP (countA a):=by
 have hp:=h
 obtain ⟨t,p,c,b,l⟩:=h
 unfold countA
 split
 ·split
  ·exact ⟨t,p,p,by show 0≤1-a.bit∧1-a.bit≤1;omega,l⟩
  ·exact ⟨t,p,p,b,l⟩
 ·exact ⟨t,p,by show 0≤a.count-1∧a.count-1≤255;omega,b,l⟩
theorem beatA_P {a:ApuM} (h:ApuP a):ApuP (beatA a):=by
 have hp:=h
 obtain ⟨t,p,c,b,l⟩:=h
 unfold beatA
 split
 ·rename_i h1
  exact ⟨t,p,c,b,by show 0≤a.len-1∧a.len-1≤31;omega⟩
 ·exact hp
theorem tickA_P {a:ApuM} (h:ApuP a) (ht:a.T<20000):ApuP (tickA a):=by
 obtain ⟨t,p,c,b,l⟩:=beatA_P (countA_P h)
 have:=h.t
 exact ⟨⟨by show 0≤a.T+1;omega,by show a.T+1≤20000;omega⟩,p,c,b,l⟩
def writeA (a:ApuM) (reg v:Int):ApuM:=
 if reg=0 then {a with period:=v%256}else if reg=1 then {a with len:=(v%256)%32}
 else if reg=2 then {a with asks:=eqI ((v%256)%2) 1,irq:=a.irq&&eqI ((v%256)%2) 1}
 else if reg=3 then {a with irq:=false}else a
theorem writeA_P {a:ApuM} (h:ApuP a) (reg v:Int):ApuP (writeA a reg v):=by
 have hp:=h
 obtain ⟨t,p,c,b,l⟩:=h
 unfold writeA
 split
 ·exact ⟨t,mod256 v,c,b,l⟩
 split
 ·exact ⟨t,p,c,b,by show 0≤(v%256)%32∧(v%256)%32≤31;omega⟩
 split
 ·exact ⟨t,p,c,b,l⟩
 split
 ·exact ⟨t,p,c,b,l⟩
 ·exact hp
theorem writeA_t (a:ApuM) (reg v:Int):(writeA a reg v).T=a.T:=by
 unfold writeA
 repeat' split
 all_goals rfl
def readA (a:ApuM) (reg:Int):ApuM:=if reg=2 then {a with irq:=false}else a
def readAV (a:ApuM) (reg:Int):Int:=if reg=2 then 128*flagN a.irq+flagN (ltI 0 a.len)else 0
theorem readA_P {a:ApuM} (h:ApuP a) (reg:Int):ApuP (readA a reg):=by
 have hp:=h
 obtain ⟨t,p,c,b,l⟩:=h
 unfold readA
 split
 ·exact ⟨t,p,c,b,l⟩
 ·exact hp
theorem readA_t (a:ApuM) (reg:Int):(readA a reg).T=a.T:=by
 unfold readA
 split<;>rfl
theorem readAV_b (a:ApuM) (reg:Int):0≤readAV a reg∧readAV a reg≤255:=by
 unfold readAV
 split
 ·have:=flagN_range a.irq
  have:=flagN_range (ltI 0 a.len)
  omega
 ·decide
structure PadsP (l:List Int):Prop where
 len:l.length≤20
 bytes:BytesP l
theorem padsOk_iff {l:List Int}:padsOk l=true↔PadsP l:=by
 unfold padsOk
 rw[Bool.and_eq_true,leI_iff,allR_iff]
 exact ⟨fun ⟨a,b⟩=>⟨by omega,b⟩,fun ⟨a,b⟩=>⟨by omega,b⟩⟩
def padAt (l:List Int) (t:Int):Int:=if l.length=0 then 0 else rdE .i l ((t/64)% (l.length:Int))
theorem padAt_b {l:List Int} (h:PadsP l) (t:Int):0≤padAt l t∧padAt l t≤255:=by
 unfold padAt
 split
 ·decide
 ·exact h.bytes _ (rdE_mem (e:= .i) (Int.emod_nonneg _ (by omega)) (Int.emod_lt_of_pos _ (by omega)))
def writeD (x:PadM) (l:List Int) (t v:Int):PadM:={held:=eqI (v%2) 1,shift:=if eqI (v%2) 1||x.held then padAt l t else x.shift}
def readD (x:PadM) (l:List Int) (t:Int):PadM:=if x.held then {held:=true,shift:=padAt l t}else {held:=false,shift:=x.shift/2}
def readDV (x:PadM) (l:List Int) (t:Int):Int:=if x.held then padAt l t%2 else x.shift%2
def PadP (x:PadM):Prop:=0≤x.shift∧x.shift≤255
theorem writeD_P {x:PadM} {l:List Int} {t v:Int} (h:PadP x) (hl:PadsP l):PadP (writeD x l t v):=by
 unfold writeD PadP
 simp only
 split
 ·exact padAt_b hl t
 ·exact h
theorem readD_P {x:PadM} {l:List Int} {t:Int} (h:PadP x) (hl:PadsP l):PadP (readD x l t):=by
 unfold readD
 split
 ·exact padAt_b hl t
 ·unfold PadP at h⊢
  show 0≤x.shift/2∧x.shift/2≤255
  omega
theorem readDV_b (x:PadM) (l:List Int) (t:Int):0≤readDV x l t∧readDV x l t≤255:=by
 unfold readDV
 split<;>omega
structure LockM where
 img:List (List Int)
 pads:List Int
 mem:MemM
 cpu:CpuM
 ppu:PpuM
 apu:ApuM
 pad:PadM
 nmi:Bool
 steps:Int
 frames:List (List Int)
 samples:List Int
 reads:List Int
def LockM.t (l:LockM):Tup lockL:=(l.img,(l.pads,(l.mem.ram,(l.mem.bank,(l.cpu.a,(l.cpu.x,(l.cpu.s,(l.cpu.pc,(l.cpu.z,(l.cpu.n,(l.cpu.c,(l.cpu.i,
 (l.ppu.T,(l.ppu.ctrl,(l.ppu.scroll,(l.ppu.addr,(l.ppu.pal,(l.ppu.blank,(l.ppu.table,(l.ppu.dots,
 (l.apu.T,(l.apu.period,(l.apu.count,(l.apu.bit,(l.apu.len,(l.apu.asks,(l.apu.irq,(l.pad.held,(l.pad.shift,(l.nmi,(l.steps,(l.frames,(l.samples,(l.reads,()))))))))))))))))))))))))))))))))))
def framesN (t:Int):Int:=(t+15)/64
structure LockP (l:LockM):Prop where
 mem:MemP l.img l.mem
 pads:PadsP l.pads
 cpu:CpuP l.cpu
 ppu:PpuP l.ppu
 apu:ApuP l.apu
 pad:PadP l.pad
 t:l.apu.T=l.ppu.T
 s0:0≤l.steps
 s1:l.steps≤l.ppu.T
 fr: ∀f,f∈l.frames→f.length=48
 frn:(l.frames.length:Int)=framesN l.ppu.T
 sam:(l.samples.length:Int)=l.ppu.T/16
theorem framesOk_iff {f:List (List Int)} {t:Int} (ht:0≤t):framesOk f t=true↔(∀l,l∈f→l.length=48)∧(f.length:Int)=framesN t:=by
 unfold framesOk framesN
 rw[Bool.and_eq_true,List.all_eq_true,eqI_iff,Int.tdiv_eq_ediv_of_nonneg (by omega)]
 constructor
 ·rintro ⟨a,b⟩;exact ⟨fun l hl=>by have:=eqI_iff.1 (a l hl);omega,b⟩
 ·rintro ⟨a,b⟩;exact ⟨fun l hl=>eqI_iff.2 (by have:=a l hl;omega),b⟩
theorem samplesOk_iff {s:List Int} {t:Int} (ht:0≤t):samplesOk s t=true↔(s.length:Int)=t/16:=by
 unfold samplesOk
 rw[eqI_iff,Int.tdiv_eq_ediv_of_nonneg ht]
theorem bulk_48: ∀{f:List (List Int)},(∀l,l∈f→l.length=48)→bulk f=48*f.length
 | [],_=>rfl
 |x::f,h=>by
  simp only[bulk,List.length_cons]
  rw[bulk_48 fun l hl=>h l (List.mem_cons_of_mem _ hl),h x List.mem_cons_self]
  omega
theorem small_frames {f:List (List Int)} (h: ∀l,l∈f→l.length=48) (hn:f.length≤1048576):small f:=
 ⟨by omega,fun l hl=>by have:=h l hl;omega,by rw[bulk_48 h];omega⟩
theorem LockP.s {l:LockM} (h:LockP l) (hr:l.reads.length≤4398046511104):lockOkS l.t:=by
 have h1:=h.ppu.t
 have h2:=h.frn
 have h3:=h.sam
 have h4:=h.mem.ram.len
 have h5:=h.pads.len
 unfold framesN at h2
 exact ⟨h.mem.img.small,by show l.pads.length≤_;omega,by show l.mem.1.length≤_;omega,h.ppu.s,small_frames (f:=l.frames) h.fr (by omega),by show l.samples.length≤_;omega,hr⟩
def readL (l:LockM) (a:Int):LockM:=
 if (rgT a).1=2 then {l with ppu:=readP l.ppu (rgT a).2,reads:=l.reads++[readPV l.ppu (rgT a).2]}
 else if (rgT a).1=3 then {l with apu:=readA l.apu (rgT a).2,reads:=l.reads++[readAV l.apu (rgT a).2]}
 else if (rgT a).1=4 then {l with pad:=readD l.pad l.pads l.ppu.T,reads:=l.reads++[readDV l.pad l.pads l.ppu.T]}
 else l
def readLV (l:LockM) (a:Int):Int:=
 if (rgT a).1=2 then readPV l.ppu (rgT a).2 else if (rgT a).1=3 then readAV l.apu (rgT a).2 else if (rgT a).1=4 then readDV l.pad l.pads l.ppu.T else peekT l.img l.mem a
def writeL (l:LockM) (a v:Int):LockM:=
 if (rgT a).1=2 then {l with ppu:=writeP l.ppu (rgT a).2 v}else if (rgT a).1=3 then {l with apu:=writeA l.apu (rgT a).2 v}
 else if (rgT a).1=4 then {l with pad:=writeD l.pad l.pads l.ppu.T v}else {l with mem:=pokeT l.img l.mem a v}
theorem readL_P {l:LockM} (h:LockP l) (a:Int):LockP (readL l a):=by
 have hp:=h
 obtain ⟨m,ps,c,p,u,d,t,s0,s1,f,fn,sm⟩:=h
 unfold readL
 split
 ·exact ⟨m,ps,c,readP_P p _,u,d,t.trans (readP_t _ _).symm,s0,by rw[show ((readP l.ppu (rgT a).2).T:Int)=l.ppu.T from readP_t _ _];exact s1,f,by show _=framesN (readP l.ppu (rgT a).2).T;rw[readP_t];exact fn,by show _=((readP l.ppu (rgT a).2).T:Int)/16;rw[readP_t];exact sm⟩
 split
 ·exact ⟨m,ps,c,p,readA_P u _,d,(readA_t _ _).trans t,s0,s1,f,fn,sm⟩
 split
 ·exact ⟨m,ps,c,p,u,readD_P d ps,t,s0,s1,f,fn,sm⟩
 ·exact hp
theorem readLV_b {l:LockM} (h:LockP l) (a:Int):0≤readLV l a∧readLV l a≤255:=by
 unfold readLV
 split
 ·exact readPV_b h.ppu _
 split
 ·exact readAV_b _ _
 split
 ·exact readDV_b _ _ _
 ·exact peekT_byte h.mem a
theorem writeL_P {l:LockM} (h:LockP l) (a v:Int):LockP (writeL l a v):=by
 have hp:=h
 obtain ⟨m,ps,c,p,u,d,t,s0,s1,f,fn,sm⟩:=h
 unfold writeL
 split
 ·exact ⟨m,ps,c,writeP_P p _ _,u,d,t.trans (writeP_t _ _ _).symm,s0,by rw[show ((writeP l.ppu (rgT a).2 v).T:Int)=l.ppu.T from writeP_t _ _ _];exact s1,f,by show _=framesN (writeP l.ppu (rgT a).2 v).T;rw[writeP_t];exact fn,by show _=((writeP l.ppu (rgT a).2 v).T:Int)/16;rw[writeP_t];exact sm⟩
 split
 ·exact ⟨m,ps,c,p,writeA_P u _ _,d,(writeA_t _ _ _).trans t,s0,s1,f,fn,sm⟩
 split
 ·exact ⟨m,ps,c,p,u,writeD_P d ps,t,s0,s1,f,fn,sm⟩
 ·exact ⟨pokeT_P m _ _,ps,c,p,u,d,t,s0,s1,f,fn,sm⟩
theorem readL_t (l:LockM) (a:Int):(readL l a).ppu.T=l.ppu.T:=by
 unfold readL
 repeat' split
 all_goals first|exact readP_t _ _|rfl
theorem writeL_t (l:LockM) (a v:Int):(writeL l a v).ppu.T=l.ppu.T:=by
 unfold writeL
 repeat' split
 all_goals first|exact writeP_t _ _ _|rfl
theorem readL_img (l:LockM) (a:Int):(readL l a).img=l.img∧(readL l a).mem=l.mem∧(readL l a).cpu=l.cpu∧(readL l a).steps=l.steps∧(readL l a).pads=l.pads∧(readL l a).nmi=l.nmi:=by
 unfold readL
 repeat' split
 all_goals exact ⟨rfl,rfl,rfl,rfl,rfl,rfl⟩
theorem writeL_img (l:LockM) (a v:Int):(writeL l a v).img=l.img∧(writeL l a v).cpu=l.cpu∧(writeL l a v).steps=l.steps∧(writeL l a v).reads=l.reads∧(writeL l a v).pads=l.pads∧(writeL l a v).nmi=l.nmi:=by
 unfold writeL
 repeat' split
 all_goals exact ⟨rfl,rfl,rfl,rfl,rfl,rfl⟩
theorem readL_reads (l:LockM) (a:Int):(readL l a).reads.length≤l.reads.length+1:=by
 unfold readL
 repeat' split
 all_goals simp
def vecN (f:List (List Int)) (x:MemM) (v:Int):Int:=joinN (peekT f x v) (peekT f x (v+1))
def interL (l:LockM) (v:Int):LockM:={l with mem:=enterM l.mem l.cpu,cpu:=enterC l.cpu (vecN l.img l.mem v)}
theorem vecN_b (f:List (List Int)) (x:MemM) (v:Int):0≤vecN f x v∧vecN f x v≤65535:=joinN_b _ _
theorem interL_P {l:LockM} (h:LockP l) (v:Int):LockP (interL l v):=by
 obtain ⟨m,ps,c,p,u,d,t,s0,s1,f,fn,sm⟩:=h
 exact ⟨m.of_ram (enterM_P m.ram) rfl,ps,enterC_P c (vecN_b _ _ _),p,u,d,t,s0,s1,f,fn,sm⟩
def doExec (l:LockM) (op arg v:Int):LockM:={l with mem:=execM l.mem l.cpu op,cpu:=execC l.mem l.cpu op arg v}
theorem doExec_P {l:LockM} (h:LockP l) (op arg v:Int):LockP (doExec l op arg v):=by
 obtain ⟨m,ps,c,p,u,d,t,s0,s1,f,fn,sm⟩:=h
 exact ⟨m.of_ram (execM_P m.ram) (execM_bank _ _ _),ps,execC_P c,p,u,d,t,s0,s1,f,fn,sm⟩
def opL (l:LockM) (op arg:Int):LockM:=
 if opAccN op=1 then doExec (readL l (accA op arg l.cpu.x)) op arg (readLV l (accA op arg l.cpu.x))
 else if opAccN op=2 then doExec (writeL l (accA op arg l.cpu.x) (l.cpu.a%256)) op arg 0
 else doExec l op arg 0
theorem opL_P {l:LockM} (h:LockP l) (op arg:Int):LockP (opL l op arg):=by
 unfold opL
 split
 ·exact doExec_P (readL_P h _) _ _ _
 split
 ·exact doExec_P (writeL_P h _ _) _ _ _
 ·exact doExec_P h _ _ _
theorem opL_t (l:LockM) (op arg:Int):(opL l op arg).ppu.T=l.ppu.T:=by
 unfold opL
 split
 ·exact readL_t _ _
 split
 ·exact writeL_t _ _ _
 ·rfl
theorem opL_steps (l:LockM) (op arg:Int):(opL l op arg).steps=l.steps:=by
 unfold opL
 split
 ·exact (readL_img _ _).2.2.2.1
 split
 ·exact (writeL_img _ _ _).2.2.1
 ·rfl
theorem opL_reads (l:LockM) (op arg:Int):(opL l op arg).reads.length≤l.reads.length+1:=by
 unfold opL
 split
 ·exact readL_reads _ _
 split
 ·show (writeL l _ _).reads.length≤_;rw[(writeL_img _ _ _).2.2.2.1];omega
 ·show l.reads.length≤_;omega
def tickL (l:LockM):LockM:=
 {l with ppu:=tickP l.ppu,apu:=tickA l.apu,nmi:=l.nmi||asksP l.ppu,frames:=if toldP l.ppu then l.frames++[frameP l.ppu]else l.frames,samples:=if toldA l.apu then l.samples++[sampleA l.apu]else l.samples}
theorem tickL_P {l:LockM} (h:LockP l) (ht:l.ppu.T<20000):LockP (tickL l):=by
 obtain ⟨m,ps,c,p,u,d,t,s0,s1,f,fn,sm⟩:=h
 have p0:=p.t.1
 refine ⟨m,ps,c,tickP_P p ht,tickA_P u (by omega),d,?_,s0,?_,?_,?_,?_⟩
 ·show l.apu.T+1=(tickP l.ppu).T
  rw[tickP_t,t]
 ·show l.steps≤((tickP l.ppu).T:Int)
  rw[tickP_t];omega
 ·intro x hx
  have hx:x∈(if toldP l.ppu then l.frames++[frameP l.ppu]else l.frames):=hx
  split at hx
  ·rename_i ht
   rcases List.mem_append.1 hx with h1|h1
   ·exact f x h1
   ·rw[List.mem_singleton.1 h1];exact frameP_len p ht
  ·exact f x hx
 ·show ((if toldP l.ppu then l.frames++[frameP l.ppu]else l.frames).length:Int)=framesN (tickP l.ppu).T
  rw[tickP_t]
  unfold framesN toldP at*
  by_cases h1:l.ppu.T%64=48
  ·simp only[h1,decide_true,if_true,List.length_append,List.length_singleton]
   omega
  ·simp only[h1,decide_false,Bool.false_eq_true,if_false]
   omega
 ·show ((if toldA l.apu then l.samples++[sampleA l.apu]else l.samples).length:Int)=((tickP l.ppu).T:Int)/16
  rw[tickP_t]
  by_cases h1:l.apu.T%16=15
  ·rw[show toldA l.apu=true from eqI_t h1,if_pos rfl,List.length_append,List.length_singleton]
   omega
  ·rw[show toldA l.apu=false from eqI_f h1,if_neg (by simp)]
   omega
theorem tickL_t (l:LockM):(tickL l).ppu.T=l.ppu.T+1:=tickP_t _
def ticksL:Nat→LockM→LockM
 |0,l=>l
 |n+1,l=>ticksL n (tickL l)
theorem ticksL_P: ∀{n:Nat} {l:LockM},LockP l→l.ppu.T+n≤20000→LockP (ticksL n l)∧(ticksL n l).ppu.T=l.ppu.T+n∧(ticksL n l).steps=l.steps∧(ticksL n l).reads=l.reads
 |0,l,h,ht=>⟨h,by show l.ppu.T=l.ppu.T+0;omega,rfl,rfl⟩
 |n+1,l,h,ht=>by
  obtain ⟨a,b,c,d⟩:=ticksL_P (n:=n) (tickL_P h (by omega)) (by rw[tickL_t];omega)
  refine ⟨a,?_,c,d⟩
  show (ticksL n (tickL l)).ppu.T=_
  rw[b,tickL_t]
  omega
def askedL (l:LockM):Bool:=l.nmi|| (l.apu.irq&& !l.cpu.i)
def fetchOp (l:LockM):Int:=opT l.img l.mem l.cpu.pc
def fetchArg (l:LockM):Int:=argT l.img l.mem l.cpu.pc
def cyclesL (l:LockM):Int:=if askedL l then 7 else opCycN (fetchOp l)
def doL (l:LockM):LockM:=
 if l.nmi then interL {l with nmi:=false} 65530 else if l.apu.irq&& !l.cpu.i then interL l 65534 else opL l (fetchOp l) (fetchArg l)
def mayL (l:LockM):Bool:=decide (l.ppu.T+cyclesL l≤20000)
def stepL (l:LockM):LockM:=let m:=ticksL (cyclesL l).toNat (doL l);{m with steps:=m.steps+1}
theorem doL_P {l:LockM} (h:LockP l):LockP (doL l):=by
 unfold doL
 split
 ·exact interL_P (l:={l with nmi:=false}) ⟨h.mem,h.pads,h.cpu,h.ppu,h.apu,h.pad,h.t,h.s0,h.s1,h.fr,h.frn,h.sam⟩ _
 split
 ·exact interL_P h _
 ·exact opL_P h _ _
theorem doL_t (l:LockM):(doL l).ppu.T=l.ppu.T:=by
 unfold doL
 split
 ·rfl
 split
 ·rfl
 ·exact opL_t _ _ _
theorem doL_steps (l:LockM):(doL l).steps=l.steps:=by
 unfold doL
 split
 ·rfl
 split
 ·rfl
 ·exact opL_steps _ _ _
theorem doL_reads (l:LockM):(doL l).reads.length≤l.reads.length+1:=by
 unfold doL
 split
 ·show l.reads.length≤_;omega
 split
 ·show l.reads.length≤_;omega
 ·exact opL_reads _ _ _
theorem cyclesL_b (l:LockM):2≤cyclesL l∧cyclesL l≤7:=by
 unfold cyclesL
 split
 ·omega
 ·have:=opCycN_b (fetchOp l);omega
theorem stepL_P {l:LockM} (h:LockP l) (hm:mayL l=true):LockP (stepL l)∧(stepL l).ppu.T=l.ppu.T+cyclesL l∧(stepL l).steps=l.steps+1∧(stepL l).reads.length≤l.reads.length+1:=by
 have hm:l.ppu.T+cyclesL l≤20000:=by simpa [mayL] using hm
 have hc:=cyclesL_b l
 have hd:=doL_t l
 obtain ⟨a,b,c,d⟩:=ticksL_P (n:=(cyclesL l).toNat) (doL_P h) (by omega)
 have e:(stepL l).ppu.T=l.ppu.T+cyclesL l:=by
  show (ticksL (cyclesL l).toNat (doL l)).ppu.T=_
  rw[b,hd];omega
 have e2:(stepL l).steps=l.steps+1:=by
  show (ticksL (cyclesL l).toNat (doL l)).steps+1=_
  rw[c,doL_steps]
 obtain ⟨m,ps,cc,p,u,dd,t,s0,s1,f,fn,sm⟩:=a
 refine ⟨⟨m,ps,cc,p,u,dd,t,by have:=h.s0;omega,by have:=h.s1;have:=h.s0;rw[e,e2];omega,f,fn,sm⟩,e,e2,?_⟩
 show (ticksL (cyclesL l).toNat (doL l)).reads.length≤_
 rw[d]
 exact doL_reads l
def runL:Nat→LockM→LockM×Nat
 |0,l=>(l,0)
 |n+1,l=>if mayL l then ((runL n (stepL l)).1,(runL n (stepL l)).2+1)else (l,0)
theorem runL_P: ∀{n:Nat} {l:LockM},LockP l→LockP (runL n l).1∧(runL n l).2≤n∧(runL n l).1.reads.length≤l.reads.length+n∧(runL n l).1.steps=l.steps+(runL n l).2
 |0,l,h=>⟨h,Nat.le_refl _,Nat.le_refl _,by show l.steps=l.steps+0;omega⟩
 |n+1,l,h=>by
  unfold runL
  split
  ·rename_i hm
   obtain ⟨a,b,c,d⟩:=stepL_P h hm
   obtain ⟨e,f,g,i⟩:=runL_P (n:=n) a
   exact ⟨e,by show (runL n (stepL l)).2+1≤n+1;omega,by show (runL n (stepL l)).1.reads.length≤_;omega,by show (runL n (stepL l)).1.steps=l.steps+(((runL n (stepL l)).2+1:Nat):Int);omega⟩
  ·exact ⟨h,Nat.zero_le _,by show l.reads.length≤_;omega,by show l.steps=l.steps+0;omega⟩
abbrev Rc:=Int×Int×Int
def RcP (x:Rc):Prop:=(0≤x.1∧x.1≤20000)∧(0≤x.2.1∧x.2.1≤7)∧(0≤x.2.2∧x.2.2≤255)
structure RingP (cap:Int) (l:List Rc):Prop where
 rec': ∀x,x∈l→RcP x
 ord:l.Pairwise (fun a b=>a.1≤b.1)
 c0:1≤cap
 c1:cap≤16
 len:(l.length:Int)≤cap
structure PicM where
 ppu:PpuM
 cap:Int
 list:List Rc
 frames:List (List Int)
structure SndM where
 apu:ApuM
 cap:Int
 list:List Rc
 samples:List Int
def PicM.t (w:PicM):Tup picL:=(w.ppu.T,(w.ppu.ctrl,(w.ppu.scroll,(w.ppu.addr,(w.ppu.pal,(w.ppu.blank,(w.ppu.table,(w.ppu.dots,(w.cap,(w.list,(w.frames,())))))))))))
def SndM.t (w:SndM):Tup sndL:=(w.apu.T,(w.apu.period,(w.apu.count,(w.apu.bit,(w.apu.len,(w.apu.asks,(w.apu.irq,(w.cap,(w.list,(w.samples,()))))))))))
structure PicP (w:PicM):Prop where
 ppu:PpuP w.ppu
 ring:RingP w.cap w.list
 lo: ∀x,x∈w.list→w.ppu.T≤x.1
 fr: ∀f,f∈w.frames→f.length=48
 frn:(w.frames.length:Int)=framesN w.ppu.T
structure SndP (w:SndM):Prop where
 apu:ApuP w.apu
 ring:RingP w.cap w.list
 lo: ∀x,x∈w.list→w.apu.T≤x.1
 sam:(w.samples.length:Int)=w.apu.T/16
theorem PicP.s {w:PicM} (h:PicP w):picOkS w.t:=by
 have h1:=h.ppu.t
 have h2:=h.frn
 have h3:=h.ring.len
 have h4:=h.ring.c1
 unfold framesN at h2
 exact ⟨h.ppu.s,by show w.list.length≤_;omega,small_frames (f:=w.frames) h.fr (by omega)⟩
theorem SndP.s {w:SndM} (h:SndP w):sndOkS w.t:=by
 have h1:=h.apu.t
 have h2:=h.sam
 have h3:=h.ring.len
 have h4:=h.ring.c1
 exact ⟨by show w.list.length≤_;omega,by show w.samples.length≤_;omega⟩
theorem RingP.tail {cap:Int} {x:Rc} {l:List Rc} (h:RingP cap (x::l)):RingP cap l:=
 ⟨fun y hy=>h.rec' y (List.mem_cons_of_mem _ hy),(List.pairwise_cons.1 h.ord).2,h.c0,h.c1,by have:=h.len;simp only[List.length_cons]at this;omega⟩
structure SplitM where
 img:List (List Int)
 pads:List Int
 mem:MemM
 cpu:CpuM
 pad:PadM
 T:Int
 nmi:Bool
 ctrl:Int
 known:Bool
 knownAt:Int
 steps:Int
 reads:List Int
 pic:PicM
 snd:SndM
def SplitM.t (s:SplitM):Tup splitL:=(s.img,(s.pads,(s.mem.ram,(s.mem.bank,(s.cpu.a,(s.cpu.x,(s.cpu.s,(s.cpu.pc,(s.cpu.z,(s.cpu.n,(s.cpu.c,(s.cpu.i,(s.pad.held,(s.pad.shift,
 (s.T,(s.nmi,(s.ctrl,(s.known,(s.knownAt,(s.steps,(s.reads,
 (s.pic.ppu.T,(s.pic.ppu.ctrl,(s.pic.ppu.scroll,(s.pic.ppu.addr,(s.pic.ppu.pal,(s.pic.ppu.blank,(s.pic.ppu.table,(s.pic.ppu.dots,(s.pic.cap,(s.pic.list,(s.pic.frames,s.snd.t))))))))))))))))))))))))))))))))
structure SplitP (s:SplitM):Prop where
 mem:MemP s.img s.mem
 pads:PadsP s.pads
 cpu:CpuP s.cpu
 pic:PicP s.pic
 snd:SndP s.snd
 pad:PadP s.pad
 ctrl:0≤s.ctrl∧s.ctrl≤255
 t:0≤s.T∧s.T≤20000
 known:0≤s.knownAt∧s.knownAt≤s.T
 steps:0≤s.steps∧s.steps≤s.T
 pt:s.pic.ppu.T≤s.T
 st:s.snd.apu.T≤s.T
 pl: ∀x,x∈s.pic.list→x.1≤s.T
 sl: ∀x,x∈s.snd.list→x.1≤s.T
theorem SplitP.s {s:SplitM} (h:SplitP s) (hr:s.reads.length≤4398046511104):splitOkS s.t:=by
 have h4:=h.mem.ram.len
 have h5:=h.pads.len
 exact ⟨h.mem.img.small,by show s.pads.length≤_;omega,by show s.mem.1.length≤_;omega,hr,h.pic.s,h.snd.s⟩

end Go.Proofs.YtgpifihakjdfeaaGreat.Plain
