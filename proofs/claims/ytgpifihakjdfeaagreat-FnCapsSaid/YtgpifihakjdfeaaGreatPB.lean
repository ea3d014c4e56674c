/- Plain laws of the printed functions: Exec, UnitM, LockM, SplitM. No condition beyond those that each lemma states. -/
import Derived.Test.YtgpifihakjdfeaaGreatPA
set_option linter.unusedVariables false
set_option linter.unusedSimpArgs false
namespace Go.Proofs.YtgpifihakjdfeaaGreat.Plain
open Go Go.Tev
theorem bXor_64 {a b:Int} (ha:0≤a∧a≤63) (hb:0≤b∧b≤63):0≤bXor .i64 a b∧bXor .i64 a b≤63:=by
 have e1:(BitVec.ofInt 64 a).toNat=a.toNat:=by rw[ofInt_toNat,Int.emod_eq_of_lt (by omega) (by omega)]
 have e2:(BitVec.ofInt 64 b).toNat=b.toNat:=by rw[ofInt_toNat,Int.emod_eq_of_lt (by omega) (by omega)]
 have e3:(BitVec.ofInt 64 a^^^BitVec.ofInt 64 b).toNat<2^6:=by
  rw[BitVec.toNat_xor,e1,e2]
  exact Nat.xor_lt_two_pow (by omega) (by omega)
 have:bXor .i64 a b=((BitVec.ofInt 64 a^^^BitVec.ofInt 64 b).toNat:Int):=by
  show wI ((BitVec.ofInt 64 a^^^BitVec.ofInt 64 b).toNat:Int)=_
  exact wI_id (by omega) (by omega)
 rw[this]
 omega
def setPc (c:CpuM) (p:Int):CpuM:={c with pc:=p}
def setC (c:CpuM) (b:Bool):CpuM:={c with c:=b}
def setI (c:CpuM) (b:Bool):CpuM:={c with i:=b}
def addT (c:CpuM) (b:Int):CpuM:=setC (setAT c (addS c.a b c.c%256)) (ltI 255 (addS c.a b c.c))
def subT (c:CpuM) (b:Int):CpuM:=setC (setAT c (subS c.a b c.c%256)) (leI 0 (subS c.a b c.c))
def cpiT (c:CpuM) (b:Int):CpuM:={c with z:=eqI ((c.a%256-b%256)%256) 0,n:=ltI 127 ((c.a%256-b%256)%256),c:=leI (b%256) (c.a%256)}
def reckonT (c:CpuM) (op arg v:Int):CpuM:=
 if op=1 then setAT c arg else if op=2∨op=14 then setAT c v else if op=4 then addT c arg else if op=29 then addT c v else if op=5 then subT c arg
 else if op=6 then setAT c (bAnd .i64 c.a arg)else if op=7 then setAT c (bOr .i64 c.a arg)else if op=8 then setAT c (bXor .i64 c.a arg)else if op=9 then cpiT c arg else c
def isReckon (op:Int):Bool:=decide (op=1∨op=2∨op=14∨op=4∨op=29∨op=5∨op=6∨op=7∨op=8∨op=9)
def turnT (c:CpuM) (op:Int):CpuM:=
 if op=10 then setXT c c.a else if op=11 then setAT c c.x else if op=12 then setXT c (c.x+1)else if op=13 then setXT c (c.x-1)
 else if op=25 then setI c true else if op=26 then setI c false else if op=27 then setC c true else if op=28 then setC c false else c
def isTurn (op:Int):Bool:=decide (op=10∨op=11∨op=12∨op=13∨op=25∨op=26∨op=27∨op=28)
def backC (x:MemM) (c:CpuM):CpuM:=setPc (pullC (pullC c)) (joinN (pullV x c) (pullV x (pullC c)))
def shr8 (p:Int):Int:=p.fdiv 256
def pushPcM (x:MemM) (c:CpuM):MemM:=pushM (pushM x c (shr8 c.pc)) (pushC c) c.pc
def pushPcC (c:CpuM):CpuM:=pushC (pushC c)
def flowM (x:MemM) (c:CpuM) (op:Int):MemM:=if op=20 then pushPcM x c else if op=22 then pushM x c c.a else x
def flowC (x:MemM) (c:CpuM) (op arg:Int):CpuM:=
 if op=16 then (if c.z then c else setPc c (arg%65536))else if op=17 then (if c.z then setPc c (arg%65536)else c)else if op=18 then (if c.c then setPc c (arg%65536)else c)
 else if op=19 then setPc c (arg%65536)else if op=20 then setPc (pushPcC c) (arg%65536)else if op=21 then backC x c else if op=22 then pushC c else if op=23 then setAT (pullC c) (pullV x c)
 else if op=24 then backC x (wfT (pullC c) (pullV x c))else c
def stepPc (c:CpuM) (op:Int):CpuM:=setPc c ((c.pc+opLenN op)%65536)
def execM (x:MemM) (c:CpuM) (op:Int):MemM:=flowM x (stepPc c op) op
def execC (x:MemM) (c:CpuM) (op arg v:Int):CpuM:=
 if isReckon op then reckonT (stepPc c op) op arg v else if isTurn op then turnT (stepPc c op) op else flowC x (stepPc c op) op arg
theorem setPc_P {c:CpuM} {p:Int} (h:CpuP c) (hp:0≤p∧p≤65535):CpuP (setPc c p):=⟨h.a,h.x,h.s,hp⟩
theorem setC_P {c:CpuM} {b:Bool} (h:CpuP c):CpuP (setC c b):=⟨h.a,h.x,h.s,h.pc⟩
theorem setI_P {c:CpuM} {b:Bool} (h:CpuP c):CpuP (setI c b):=⟨h.a,h.x,h.s,h.pc⟩
theorem mod65536 (x:Int):0≤x%65536∧x%65536≤65535:=by omega
theorem joinN_b (a b:Int):0≤joinN a b∧joinN a b≤65535:=by unfold joinN;omega
theorem backC_P {x:MemM} {c:CpuM} (h:CpuP c):CpuP (backC x c):=setPc_P (pullC_P (pullC_P h)) (joinN_b _ _)
theorem pushPcC_P {c:CpuM} (h:CpuP c):CpuP (pushPcC c):=pushC_P (pushC_P h)
theorem pushPcM_P {x:MemM} {c:CpuM} (h:RamP x):RamP (pushPcM x c):=pushM_P (pushM_P h _ _) _ _
theorem reckonT_P {c:CpuM} {op arg v:Int} (h:CpuP c):CpuP (reckonT c op arg v):=by
 unfold reckonT addT subT
 repeat' split
 all_goals first|exact setAT_P h|exact setC_P (setAT_P h)|exact h|exact ⟨h.a,h.x,h.s,h.pc⟩
theorem turnT_P {c:CpuM} {op:Int} (h:CpuP c):CpuP (turnT c op):=by
 unfold turnT
 repeat' split
 all_goals first|exact setXT_P h|exact setAT_P h|exact setI_P h|exact setC_P h|exact h
theorem flowM_P {x:MemM} {c:CpuM} {op:Int} (h:RamP x):RamP (flowM x c op):=by
 unfold flowM
 repeat' split
 all_goals first|exact pushPcM_P h|exact pushM_P h _ _|exact h
theorem flowC_P {x:MemM} {c:CpuM} {op arg:Int} (h:CpuP c):CpuP (flowC x c op arg):=by
 unfold flowC
 repeat' split
 all_goals first|exact h|exact setPc_P h (mod65536 _)|exact setPc_P (pushPcC_P h) (mod65536 _)|exact backC_P h|exact pushC_P h|exact setAT_P (pullC_P h)|exact backC_P (wfT_P (pullC_P h))
theorem stepPc_P {c:CpuM} {op:Int} (h:CpuP c):CpuP (stepPc c op):=setPc_P h (mod65536 _)
theorem execM_P {x:MemM} {c:CpuM} {op:Int} (h:RamP x):RamP (execM x c op):=flowM_P h
theorem execC_P {x:MemM} {c:CpuM} {op arg v:Int} (h:CpuP c):CpuP (execC x c op arg v):=by
 unfold execC
 repeat' split
 all_goals first|exact reckonT_P (stepPc_P h)|exact turnT_P (stepPc_P h)|exact flowC_P (stepPc_P h)
theorem execM_bank (x:MemM) (c:CpuM) (op:Int):(execM x c op).bank=x.bank:=by
 unfold execM flowM pushPcM
 repeat' split
 all_goals rfl
theorem MemP.of_ram {f:List (List Int)} {x y:MemM} (h:MemP f x) (hy:RamP y) (hb:y.bank=x.bank):MemP f y:=⟨h.img,hy,by rw[hb];exact h.b0,by rw[hb];exact h.b1⟩
def enterM (x:MemM) (c:CpuM):MemM:=pushM (pushPcM x c) (pushPcC c) (flagsT c)
def enterC (c:CpuM) (to:Int):CpuM:=setPc (setI (pushC (pushPcC c)) true) to
theorem enterM_P {x:MemM} {c:CpuM} (h:RamP x):RamP (enterM x c):=pushM_P (pushPcM_P h) _ _
theorem enterC_P {c:CpuM} {to:Int} (h:CpuP c) (ht:0≤to∧to≤65535):CpuP (enterC c to):=setPc_P (setI_P (pushC_P (pushPcC_P h))) ht
def opT (f:List (List Int)) (x:MemM) (pc:Int):Int:=peekT f x pc
def argT (f:List (List Int)) (x:MemM) (pc:Int):Int:=
 if opLenN (peekT f x pc)=2 then peekT f x (pc+1)else if opLenN (peekT f x pc)=3 then joinN (peekT f x (pc+1)) (peekT f x (pc+2))else 0
theorem opLenN_b (n:Int):1≤opLenN n∧opLenN n≤3:=by
 unfold opLenN
 split
 ·rename_i h
  rcases ops_cases h with rfl|rfl|rfl|rfl|rfl|rfl|rfl|rfl|rfl|rfl|rfl|rfl|rfl|rfl|rfl|rfl|rfl|rfl|rfl|rfl|rfl|rfl|rfl|rfl|rfl|rfl|rfl|rfl|rfl|rfl<;>decide
 ·decide
theorem opCycN_b (n:Int):2≤opCycN n∧opCycN n≤6:=by
 unfold opCycN
 split
 ·rename_i h
  rcases ops_cases h with rfl|rfl|rfl|rfl|rfl|rfl|rfl|rfl|rfl|rfl|rfl|rfl|rfl|rfl|rfl|rfl|rfl|rfl|rfl|rfl|rfl|rfl|rfl|rfl|rfl|rfl|rfl|rfl|rfl|rfl<;>decide
 ·decide
theorem argT_b {f:List (List Int)} {x:MemM} (h:MemP f x) (pc:Int):0≤argT f x pc∧argT f x pc≤65535:=by
 unfold argT
 split
 ·have:=peekT_byte h (pc+1);omega
 split
 ·exact joinN_b _ _
 ·decide
def accA (op arg x:Int):Int:=if opAccN op=0 then 0 else if op=14∨op=15 then (arg+x)%65536 else arg%65536
def accV (op a:Int):Int:=if opAccN op=2 then a%256 else 0
def ColP (l:List Int):Prop:= ∀n,n∈l→0≤n∧n≤63
structure PpuP (p:PpuM):Prop where
 t:0≤p.T∧p.T≤20000
 ctrl:0≤p.ctrl∧p.ctrl≤255
 scroll:0≤p.scroll∧p.scroll≤255
 addr:0≤p.addr∧p.addr≤15
 pal:0≤p.pal∧p.pal≤63
 len:p.table.length=16
 table:ColP p.table
 dots:(p.dots.length:Int)=if 48<p.T%64 then 0 else p.T%64
 cols:ColP p.dots
theorem ppuOk_iff {p:PpuM}:ppuOk p.t=true↔PpuP p:=by
 unfold ppuOk ppuNum ppuRows PpuM.t
 simp only[Bool.and_eq_true,inR_iff,allR_iff,eqI_iff]
 constructor
 ·rintro ⟨⟨a,b,c,d,e⟩,f,g,h,i⟩
  refine ⟨a,b,c,d,e,by omega,g,?_,i⟩
  rw[h,dotsN,tmod_nn a.1]
 ·rintro ⟨a,b,c,d,e,f,g,h,i⟩
  refine ⟨⟨a,b,c,d,e⟩,by omega,g,?_,i⟩
  rw[h,dotsN,tmod_nn a.1]
theorem PpuP.s {p:PpuM} (h:PpuP p):ppuOkS p.t:=by
 have h1:=h.len
 have h2:=h.dots
 refine ⟨by show p.table.length≤_;omega,?_⟩
 show p.dots.length≤_
 split at h2<;>omega
def dotN (p:PpuM) (at':Int):Int:=bXor .i64 (rdE .i p.table ((at'%8+p.scroll+at'/8)%16)) p.pal
theorem dotN_col {p:PpuM} (h:PpuP p) (a:Int):0≤dotN p a∧dotN p a≤63:=
 bXor_64 (h.table _ (rdE_mem (e:= .i) (by omega) (by rw[h.len];omega))) h.pal
def tickP (p:PpuM):PpuM:=
 if p.T%64<48 then {p with T:=p.T+1,dots:=p.dots++[dotN p (p.T%64)]}
 else if p.T%64=48 then {p with T:=p.T+1,blank:=true,dots:=[]}
 else if p.T%64=63 then {p with T:=p.T+1,blank:=false}
 else {p with T:=p.T+1}
def toldP (p:PpuM):Bool:=decide (p.T%64=48)
def frameP (p:PpuM):List Int:=if p.T%64=48 then p.dots else []
def asksP (p:PpuM):Bool:=decide (p.T%64=48)&&ltI 127 p.ctrl
theorem tickP_t (p:PpuM):(tickP p).T=p.T+1:=by
 unfold tickP
 repeat' split
 all_goals rfl
theorem tickP_P {p:PpuM} (h:PpuP p) (ht:p.T<20000):PpuP (tickP p):=by
 obtain ⟨a,b,c,d,e,f,g,hd,i⟩:=h
 have hp:PpuP p:=⟨a,b,c,d,e,f,g,hd,i⟩
 unfold tickP
 split
 ·rename_i h1
  refine ⟨⟨by show 0≤p.T+1;omega,by show p.T+1≤20000;omega⟩,b,c,d,e,f,g,?_,fun n hn=> ?_⟩
  ·show ((p.dots++[dotN p (p.T%64)]).length:Int)=if 48< (p.T+1)%64 then 0 else (p.T+1)%64
   rw[List.length_append,List.length_singleton]
   rw[if_neg (by omega)]at hd
   rw[if_neg (by omega)]
   omega
  ·rcases List.mem_append.1 hn with h2|h2
   ·exact i n h2
   ·rw[List.mem_singleton.1 h2];exact dotN_col hp _
 split
 ·rename_i h1 h2
  refine ⟨⟨by show 0≤p.T+1;omega,by show p.T+1≤20000;omega⟩,b,c,d,e,f,g,?_,fun n hn=>by cases hn⟩
  show (0:Int)=if 48< (p.T+1)%64 then 0 else (p.T+1)%64
  rw[if_pos (by omega)]
 split
 ·rename_i h1 h2 h3
  refine ⟨⟨by show 0≤p.T+1;omega,by show p.T+1≤20000;omega⟩,b,c,d,e,f,g,?_,i⟩
  show (p.dots.length:Int)=if 48< (p.T+1)%64 then 0 else (p.T+1)%64
  rw[if_pos (by omega)]at hd
  split<;>omega
 ·rename_i h1 h2 h3
  refine ⟨⟨by show 0≤p.T+1;omega,by show p.T+1≤20000;omega⟩,b,c,d,e,f,g,?_,i⟩
  show (p.dots.length:Int)=if 48< (p.T+1)%64 then 0 else (p.T+1)%64
  rw[if_pos (by omega)]at hd
  rw[if_pos (by omega)]
  exact hd
theorem frameP_len {p:PpuM} (h:PpuP p) (ht:toldP p=true):(frameP p).length=48:=by
 have h1:p.T%64=48:=by simpa [toldP] using ht
 have hd:=h.dots
 unfold frameP
 rw[if_pos h1]
 rw[if_neg (by omega),h1]at hd
 omega
def writeP (p:PpuM) (reg v:Int):PpuM:=
 if reg=0 then {p with ctrl:=v%256}else if reg=1 then {p with scroll:=v%256}else if reg=3 then {p with addr:=(v%256)%16}
 else if reg=4 then {p with addr:=(p.addr+1)%16,table:=p.table.set p.addr.toNat ((v%256)%64)}
 else if reg=5 then {p with pal:=(v%256)%64}else p
theorem ColP.set {l:List Int} (h:ColP l) (i:Nat) {v:Int} (hv:0≤v∧v≤63):ColP (l.set i v):=fun n hn=>by
 rcases List.mem_or_eq_of_mem_set hn with h1|h1
 ·exact h n h1
 ·rw[h1];exact hv
theorem writeP_P {p:PpuM} (h:PpuP p) (reg v:Int):PpuP (writeP p reg v):=by
 have hp:=h
 obtain ⟨a,b,c,d,e,f,g,hd,i⟩:=h
 unfold writeP
 split
 ·exact ⟨a,mod256 v,c,d,e,f,g,hd,i⟩
 split
 ·exact ⟨a,b,mod256 v,d,e,f,g,hd,i⟩
 split
 ·exact ⟨a,b,c,by show 0≤(v%256)%16∧(v%256)%16≤15;omega,e,f,g,hd,i⟩
 split
 ·exact ⟨a,b,c,by show 0≤(p.addr+1)%16∧(p.addr+1)%16≤15;omega,e,by show (p.table.set _ _).length=16;rw[List.length_set];exact f,g.set _ (by omega),hd,i⟩
 split
 ·exact ⟨a,b,c,d,by show 0≤(v%256)%64∧(v%256)%64≤63;omega,f,g,hd,i⟩
 ·exact hp
theorem writeP_t (p:PpuM) (reg v:Int):(writeP p reg v).T=p.T:=by
 unfold writeP
 repeat' split
 all_goals rfl
def readP (p:PpuM) (reg:Int):PpuM:=if reg=2 then {p with blank:=false}else if reg=4 then {p with addr:=(p.addr+1)%16}else p
def readPV (p:PpuM) (reg:Int):Int:=if reg=2 then 128*flagN p.blank else if reg=4 then rdE .i p.table p.addr else 0
theorem readP_P {p:PpuM} (h:PpuP p) (reg:Int):PpuP (readP p reg):=by
 have hp:=h
 obtain ⟨a,b,c,d,e,f,g,hd,i⟩:=h
 unfold readP
 split
 ·exact ⟨a,b,c,d,e,f,g,hd,i⟩
 split
 ·exact ⟨a,b,c,by show 0≤(p.addr+1)%16∧(p.addr+1)%16≤15;omega,e,f,g,hd,i⟩
 ·exact hp
theorem readP_t (p:PpuM) (reg:Int):(readP p reg).T=p.T:=by
 unfold readP
 repeat' split
 all_goals rfl
theorem readPV_b {p:PpuM} (h:PpuP p) (reg:Int):0≤readPV p reg∧readPV p reg≤255:=by
 unfold readPV
 split
 ·have:=flagN_range p.blank;omega
 split
 ·have:=h.table _ (rdE_mem (e:= .i) (l:=p.table) h.addr.1 (by have:=h.addr.2;rw[h.len];omega));omega
 ·decide
structure ApuP (a:ApuM):Prop where
 t:0≤a.T∧a.T≤20000
 period:0≤a.period∧a.period≤255
 count:0≤a.count∧a.count≤255
 bit:0≤a.bit∧a.bit≤1
 len:0≤a.len∧a.len≤31
theorem apuOk_iff {a:ApuM}:apuOk a.t=true↔ApuP a:=by
 unfold apuOk ApuM.t
 simp only[Bool.and_eq_true,inR_iff]
 constructor
 ·rintro ⟨a,b,c,d,e⟩;exact ⟨a,b,c,d,e⟩
 ·rintro ⟨a,b,c,d,e⟩;exact ⟨a,b,c,d,e⟩
def countA (a:ApuM):ApuM:=
 if a.count=0 then (if 0<a.len then {a with count:=a.period,bit:=1-a.bit}else {a with count:=a.period})else {a with count:=a.count-1}
def beatA (a:ApuM):ApuM:=
 if a.T%32=0∧0<a.len then {a with len:=a.len-1,irq:=a.irq|| (eqI (a.len-1) 0&&a.asks)}else a
def tickA (a:ApuM):ApuM:={beatA (countA a)with T:=a.T+1}
def toldA (a:ApuM):Bool:=eqI (a.T%16) 15
def sampleA (a:ApuM):Int:=if a.T%16=15∧(beatA (countA a)).len≠0 then 8*(beatA (countA a)).bit else 0
theorem countA_P {a:ApuM} (h:ApuP a):ApuP (countA a):=by
 have hp:=h
 obtain ⟨t,p,c,b,l⟩:=h
 unfold countA
 split
 ·split
  ·exact ⟨t,p,p,by show 0≤1-a.bit∧1-a.bit≤1;omega,l⟩
  ·exact ⟨t,p,p,b,l⟩
 ·exact ⟨t,p,by show 0≤a.count-1∧a.count-1≤255;omega,b,l⟩
theorem beatA_P {a:ApuM} (h:ApuP a):ApuP (beatA a):=by
 have hp:=h
 obtain ⟨t,p,c,b,l⟩:=h
 unfold beatA
 split
 ·rename_i h1
  exact ⟨t,p,c,b,by show 0≤a.len-1∧a.len-1≤31;omega⟩
 ·exact hp
theorem tickA_P {a:ApuM} (h:ApuP a) (ht:a.T<20000):ApuP (tickA a):=by
 obtain ⟨t,p,c,b,l⟩:=beatA_P (countA_P h)
 have:=h.t
 exact ⟨⟨by show 0≤a.T+1;omega,by show a.T+1≤20000;omega⟩,p,c,b,l⟩
def writeA (a:ApuM) (reg v:Int):ApuM:=
 if reg=0 then {a with period:=v%256}else if reg=1 then {a with len:=(v%256)%32}
 else if reg=2 then {a with asks:=eqI ((v%256)%2) 1,irq:=a.irq&&eqI ((v%256)%2) 1}
 else if reg=3 then {a with irq:=false}else a
theorem writeA_P {a:ApuM} (h:ApuP a) (reg v:Int):ApuP (writeA a reg v):=by
 have hp:=h
 obtain ⟨t,p,c,b,l⟩:=h
 unfold writeA
 split
 ·exact ⟨t,mod256 v,c,b,l⟩
 split
 ·exact ⟨t,p,c,b,by show 0≤(v%256)%32∧(v%256)%32≤31;omega⟩
 split
 ·exact ⟨t,p,c,b,l⟩
 split
 ·exact ⟨t,p,c,b,l⟩
 ·exact hp
theorem writeA_t (a:ApuM) (reg v:Int):(writeA a reg v).T=a.T:=by
 unfold writeA
 repeat' split
 all_goals rfl
def readA (a:ApuM) (reg:Int):ApuM:=if reg=2 then {a with irq:=false}else a
def readAV (a:ApuM) (reg:Int):Int:=if reg=2 then 128*flagN a.irq+flagN (ltI 0 a.len)else 0
theorem readA_P {a:ApuM} (h:ApuP a) (reg:Int):ApuP (readA a reg):=by
 have hp:=h
 obtain ⟨t,p,c,b,l⟩:=h
 unfold readA
 split
 ·exact ⟨t,p,c,b,l⟩
 ·exact hp
theorem readA_t (a:ApuM) (reg:Int):(readA a reg).T=a.T:=by
 unfold readA
 split<;>rfl
theorem readAV_b (a:ApuM) (reg:Int):0≤readAV a reg∧readAV a reg≤255:=by
 unfold readAV
 split
 ·have:=flagN_range a.irq
  have:=flagN_range (ltI 0 a.len)
  omega
 ·decide
structure PadsP (l:List Int):Prop where
 len:l.length≤20
 bytes:BytesP l
theorem padsOk_iff {l:List Int}:padsOk l=true↔PadsP l:=by
 unfold padsOk
 rw[Bool.and_eq_true,leI_iff,allR_iff]
 exact ⟨fun ⟨a,b⟩=>⟨by omega,b⟩,fun ⟨a,b⟩=>⟨by omega,b⟩⟩
def padAt (l:List Int) (t:Int):Int:=if l.length=0 then 0 else rdE .i l ((t/64)% (l.length:Int))
theorem padAt_b {l:List Int} (h:PadsP l) (t:Int):0≤padAt l t∧padAt l t≤255:=by
 unfold padAt
 split
 ·decide
 ·exact h.bytes _ (rdE_mem (e:= .i) (Int.emod_nonneg _ (by omega)) (Int.emod_lt_of_pos _ (by omega)))
def writeD (x:PadM) (l:List Int) (t v:Int):PadM:={held:=eqI (v%2) 1,shift:=if eqI (v%2) 1||x.held then padAt l t else x.shift}
def readD (x:PadM) (l:List Int) (t:Int):PadM:=if x.held then {held:=true,shift:=padAt l t}else {held:=false,shift:=x.shift/2}
def readDV (x:PadM) (l:List Int) (t:Int):Int:=if x.held then padAt l t%2 else x.shift%2
def PadP (x:PadM):Prop:=0≤x.shift∧x.shift≤255
theorem writeD_P {x:PadM} {l:List Int} {t v:Int} (h:PadP x) (hl:PadsP l):PadP (writeD x l t v):=by
 unfold writeD PadP
 simp only
 split
 ·exact padAt_b hl t
 ·exact h
theorem readD_P {x:PadM} {l:List Int} {t:Int} (h:PadP x) (hl:PadsP l):PadP (readD x l t):=by
 unfold readD
 split
 ·exact padAt_b hl t
 ·unfold PadP at h⊢
  show 0≤x.shift/2∧x.shift/2≤255
  omega
theorem readDV_b (x:PadM) (l:List Int) (t:Int):0≤readDV x l t∧readDV x l t≤255:=by
 unfold readDV
 split<;>omega
structure LockM where
 img:List (List Int)
 pads:List Int
 mem:MemM
 cpu:CpuM
 ppu:PpuM
 apu:ApuM
 pad:PadM
 nmi:Bool
 steps:Int
 frames:List (List Int)
 samples:List Int
 reads:List Int
def LockM.t (l:LockM):Tup lockL:=(l.img,(l.pads,(l.mem.ram,(l.mem.bank,(l.cpu.a,(l.cpu.x,(l.cpu.s,(l.cpu.pc,(l.cpu.z,(l.cpu.n,(l.cpu.c,(l.cpu.i,
 (l.ppu.T,(l.ppu.ctrl,(l.ppu.scroll,(l.ppu.addr,(l.ppu.pal,(l.ppu.blank,(l.ppu.table,(l.ppu.dots,
 (l.apu.T,(l.apu.period,(l.apu.count,(l.apu.bit,(l.apu.len,(l.apu.asks,(l.apu.irq,(l.pad.held,(l.pad.shift,(l.nmi,(l.steps,(l.frames,(l.samples,(l.reads,()))))))))))))))))))))))))))))))))))
def framesN (t:Int):Int:=(t+15)/64
structure LockP (l:LockM):Prop where
 mem:MemP l.img l.mem
 pads:PadsP l.pads
 cpu:CpuP l.cpu
 ppu:PpuP l.ppu
 apu:ApuP l.apu
 pad:PadP l.pad
 t:l.apu.T=l.ppu.T
 s0:0≤l.steps
 s1:l.steps≤l.ppu.T
 fr: ∀f,f∈l.frames→f.length=48
 frn:(l.frames.length:Int)=framesN l.ppu.T
 sam:(l.samples.length:Int)=l.ppu.T/16
theorem framesOk_iff {f:List (List Int)} {t:Int} (ht:0≤t):framesOk f t=true↔(∀l,l∈f→l.length=48)∧(f.length:Int)=framesN t:=by
 unfold framesOk framesN
 rw[Bool.and_eq_true,List.all_eq_true,eqI_iff,Int.tdiv_eq_ediv_of_nonneg (by omega)]
 constructor
 ·rintro ⟨a,b⟩;exact ⟨fun l hl=>by have:=eqI_iff.1 (a l hl);omega,b⟩
 ·rintro ⟨a,b⟩;exact ⟨fun l hl=>eqI_iff.2 (by have:=a l hl;omega),b⟩
theorem samplesOk_iff {s:List Int} {t:Int} (ht:0≤t):samplesOk s t=true↔(s.length:Int)=t/16:=by
 unfold samplesOk
 rw[eqI_iff,Int.tdiv_eq_ediv_of_nonneg ht]
theorem bulk_48: ∀{f:List (List Int)},(∀l,l∈f→l.length=48)→bulk f=48*f.length
 | [],_=>rfl
 |x::f,h=>by
  simp only[bulk,List.length_cons]
  rw[bulk_48 fun l hl=>h l (List.mem_cons_of_mem _ hl),h x List.mem_cons_self]
  omega
theorem small_frames {f:List (List Int)} (h: ∀l,l∈f→l.length=48) (hn:f.length≤1048576):small f:=
 ⟨by omega,fun l hl=>by have:=h l hl;omega,by rw[bulk_48 h];omega⟩
theorem LockP.s {l:LockM} (h:LockP l) (hr:l.reads.length≤4398046511104):lockOkS l.t:=by
 have h1:=h.ppu.t
 have h2:=h.frn
 have h3:=h.sam
 have h4:=h.mem.ram.len
 have h5:=h.pads.len
 unfold framesN at h2
 exact ⟨h.mem.img.small,by show l.pads.length≤_;omega,by show l.mem.1.length≤_;omega,h.ppu.s,small_frames (f:=l.frames) h.fr (by omega),by show l.samples.length≤_;omega,hr⟩
def readL (l:LockM) (a:Int):LockM:=
 if (rgT a).1=2 then {l with ppu:=readP l.ppu (rgT a).2,reads:=l.reads++[readPV l.ppu (rgT a).2]}
 else if (rgT a).1=3 then {l with apu:=readA l.apu (rgT a).2,reads:=l.reads++[readAV l.apu (rgT a).2]}
 else if (rgT a).1=4 then {l with pad:=readD l.pad l.pads l.ppu.T,reads:=l.reads++[readDV l.pad l.pads l.ppu.T]}
 else l
def readLV (l:LockM) (a:Int):Int:=
 if (rgT a).1=2 then readPV l.ppu (rgT a).2 else if (rgT a).1=3 then readAV l.apu (rgT a).2 else if (rgT a).1=4 then readDV l.pad l.pads l.ppu.T else peekT l.img l.mem a
def writeL (l:LockM) (a v:Int):LockM:=
 if (rgT a).1=2 then {l with ppu:=writeP l.ppu (rgT a).2 v}else if (rgT a).1=3 then {l with apu:=writeA l.apu (rgT a).2 v}
 else if (rgT a).1=4 then {l with pad:=writeD l.pad l.pads l.ppu.T v}else {l with mem:=pokeT l.img l.mem a v}
theorem readL_P {l:LockM} (h:LockP l) (a:Int):LockP (readL l a):=by
 have hp:=h
 obtain ⟨m,ps,c,p,u,d,t,s0,s1,f,fn,sm⟩:=h
 unfold readL
 split
 ·exact ⟨m,ps,c,readP_P p _,u,d,t.trans (readP_t _ _).symm,s0,by rw[show ((readP l.ppu (rgT a).2).T:Int)=l.ppu.T from readP_t _ _];exact s1,f,by show _=framesN (readP l.ppu (rgT a).2).T;rw[readP_t];exact fn,by show _=((readP l.ppu (rgT a).2).T:Int)/16;rw[readP_t];exact sm⟩
 split
 ·exact ⟨m,ps,c,p,readA_P u _,d,(readA_t _ _).trans t,s0,s1,f,fn,sm⟩
 split
 ·exact ⟨m,ps,c,p,u,readD_P d ps,t,s0,s1,f,fn,sm⟩
 ·exact hp
theorem writeL_P {l:LockM} (h:LockP l) (a v:Int):LockP (writeL l a v):=by
 have hp:=h
 obtain ⟨m,ps,c,p,u,d,t,s0,s1,f,fn,sm⟩:=h
 unfold writeL
 split
 ·exact ⟨m,ps,c,writeP_P p _ _,u,d,t.trans (writeP_t _ _ _).symm,s0,by rw[show ((writeP l.ppu (rgT a).2 v).T:Int)=l.ppu.T from writeP_t _ _ _];exact s1,f,by show _=framesN (writeP l.ppu (rgT a).2 v).T;rw[writeP_t];exact fn,by show _=((writeP l.ppu (rgT a).2 v).T:Int)/16;rw[writeP_t];exact sm⟩
 split
 ·exact ⟨m,ps,c,p,writeA_P u _ _,d,(writeA_t _ _ _).trans t,s0,s1,f,fn,sm⟩
 split
 ·exact ⟨m,ps,c,p,u,writeD_P d ps,t,s0,s1,f,fn,sm⟩
 ·exact ⟨pokeT_P m _ _,ps,c,p,u,d,t,s0,s1,f,fn,sm⟩
theorem readL_t (l:LockM) (a:Int):(readL l a).ppu.T=l.ppu.T:=by
 unfold readL
 repeat' split
 all_goals first|exact readP_t _ _|rfl
theorem writeL_t (l:LockM) (a v:Int):(writeL l a v).ppu.T=l.ppu.T:=by
 unfold writeL
 repeat' split
 all_goals first|exact writeP_t _ _ _|rfl
theorem readL_img (l:LockM) (a:Int):(readL l a).img=l.img∧(readL l a).mem=l.mem∧(readL l a).cpu=l.cpu∧(readL l a).steps=l.steps∧(readL l a).pads=l.pads∧(readL l a).nmi=l.nmi:=by
 unfold readL
 repeat' split
 all_goals exact ⟨rfl,rfl,rfl,rfl,rfl,rfl⟩
theorem writeL_img (l:LockM) (a v:Int):(writeL l a v).img=l.img∧(writeL l a v).cpu=l.cpu∧(writeL l a v).steps=l.steps∧(writeL l a v).reads=l.reads∧(writeL l a v).pads=l.pads∧(writeL l a v).nmi=l.nmi:=by
 unfold writeL
 repeat' split
 all_goals exact ⟨rfl,rfl,rfl,rfl,rfl,rfl⟩
theorem readL_reads (l:LockM) (a:Int):(readL l a).reads.length≤l.reads.length+1:=by
 unfold readL
 repeat' split
 all_goals simp
def vecN (f:List (List Int)) (x:MemM) (v:Int):Int:=joinN (peekT f x v) (peekT f x (v+1))
def interL (l:LockM) (v:Int):LockM:={l with mem:=enterM l.mem l.cpu,cpu:=enterC l.cpu (vecN l.img l.mem v)}
theorem vecN_b (f:List (List Int)) (x:MemM) (v:Int):0≤vecN f x v∧vecN f x v≤65535:=joinN_b _ _
theorem interL_P {l:LockM} (h:LockP l) (v:Int):LockP (interL l v):=by
 obtain ⟨m,ps,c,p,u,d,t,s0,s1,f,fn,sm⟩:=h
 exact ⟨m.of_ram (enterM_P m.ram) rfl,ps,enterC_P c (vecN_b _ _ _),p,u,d,t,s0,s1,f,fn,sm⟩
def doExec (l:LockM) (op arg v:Int):LockM:={l with mem:=execM l.mem l.cpu op,cpu:=execC l.mem l.cpu op arg v}
theorem doExec_P {l:LockM} (h:LockP l) (op arg v:Int):LockP (doExec l op arg v):=by
 obtain ⟨m,ps,c,p,u,d,t,s0,s1,f,fn,sm⟩:=h
 exact ⟨m.of_ram (execM_P m.ram) (execM_bank _ _ _),ps,execC_P c,p,u,d,t,s0,s1,f,fn,sm⟩
def opL (l:LockM) (op arg:Int):LockM:=
 if opAccN op=1 then doExec (readL l (accA op arg l.cpu.x)) op arg (readLV l (accA op arg l.cpu.x))
 else if opAccN op=2 then doExec (writeL l (accA op arg l.cpu.x) (l.cpu.a%256)) op arg 0
 else doExec l op arg 0
theorem opL_P {l:LockM} (h:LockP l) (op arg:Int):LockP (opL l op arg):=by
 unfold opL
 split
 ·exact doExec_P (readL_P h _) _ _ _
 split
 ·exact doExec_P (writeL_P h _ _) _ _ _
 ·exact doExec_P h _ _ _
theorem opL_t (l:LockM) (op arg:Int):(opL l op arg).ppu.T=l.ppu.T:=by
 unfold opL
 split
 ·exact readL_t _ _
 split
 ·exact writeL_t _ _ _
 ·rfl
theorem opL_steps (l:LockM) (op arg:Int):(opL l op arg).steps=l.steps:=by
 unfold opL
 split
 ·exact (readL_img _ _).2.2.2.1
 split
 ·exact (writeL_img _ _ _).2.2.1
 ·rfl
theorem opL_reads (l:LockM) (op arg:Int):(opL l op arg).reads.length≤l.reads.length+1:=by
 unfold opL
 split
 ·exact readL_reads _ _
 split
 ·show (writeL l _ _).reads.length≤_;rw[(writeL_img _ _ _).2.2.2.1];omega
 ·show l.reads.length≤_;omega
def tickL (l:LockM):LockM:=
 {l with ppu:=tickP l.ppu,apu:=tickA l.apu,nmi:=l.nmi||asksP l.ppu,frames:=if toldP l.ppu then l.frames++[frameP l.ppu]else l.frames,samples:=if toldA l.apu then l.samples++[sampleA l.apu]else l.samples}
theorem tickL_P {l:LockM} (h:LockP l) (ht:l.ppu.T<20000):LockP (tickL l):=by
 obtain ⟨m,ps,c,p,u,d,t,s0,s1,f,fn,sm⟩:=h
 have p0:=p.t.1
 refine ⟨m,ps,c,tickP_P p ht,tickA_P u (by omega),d,?_,s0,?_,?_,?_,?_⟩
 ·show l.apu.T+1=(tickP l.ppu).T
  rw[tickP_t,t]
 ·show l.steps≤((tickP l.ppu).T:Int)
  rw[tickP_t];omega
 ·intro x hx
  have hx:x∈(if toldP l.ppu then l.frames++[frameP l.ppu]else l.frames):=hx
  split at hx
  ·rename_i ht
   rcases List.mem_append.1 hx with h1|h1
   ·exact f x h1
   ·rw[List.mem_singleton.1 h1];exact frameP_len p ht
  ·exact f x hx
 ·show ((if toldP l.ppu then l.frames++[frameP l.ppu]else l.frames).length:Int)=framesN (tickP l.ppu).T
  rw[tickP_t]
  unfold framesN toldP at*
  by_cases h1:l.ppu.T%64=48
  ·simp only[h1,decide_true,if_true,List.length_append,List.length_singleton]
   omega
  ·simp only[h1,decide_false,Bool.false_eq_true,if_false]
   omega
 ·show ((if toldA l.apu then l.samples++[sampleA l.apu]else l.samples).length:Int)=((tickP l.ppu).T:Int)/16
  rw[tickP_t]
  by_cases h1:l.apu.T%16=15
  ·rw[show toldA l.apu=true from eqI_t h1,if_pos rfl,List.length_append,List.length_singleton]
   omega
  ·rw[show toldA l.apu=false from eqI_f h1,if_neg (by simp)]
   omega
theorem tickL_t (l:LockM):(tickL l).ppu.T=l.ppu.T+1:=tickP_t _
def ticksL:Nat→LockM→LockM
 |0,l=>l
 |n+1,l=>ticksL n (tickL l)
theorem ticksL_P: ∀{n:Nat} {l:LockM},LockP l→l.ppu.T+n≤20000→LockP (ticksL n l)∧(ticksL n l).ppu.T=l.ppu.T+n∧(ticksL n l).steps=l.steps∧(ticksL n l).reads=l.reads
 |0,l,h,ht=>⟨h,by show l.ppu.T=l.ppu.T+0;omega,rfl,rfl⟩
 |n+1,l,h,ht=>by
  obtain ⟨a,b,c,d⟩:=ticksL_P (n:=n) (tickL_P h (by omega)) (by rw[tickL_t];omega)
  refine ⟨a,?_,c,d⟩
  show (ticksL n (tickL l)).ppu.T=_
  rw[b,tickL_t]
  omega
def askedL (l:LockM):Bool:=l.nmi|| (l.apu.irq&& !l.cpu.i)
def fetchOp (l:LockM):Int:=opT l.img l.mem l.cpu.pc
def fetchArg (l:LockM):Int:=argT l.img l.mem l.cpu.pc
def cyclesL (l:LockM):Int:=if askedL l then 7 else opCycN (fetchOp l)
def doL (l:LockM):LockM:=
 if l.nmi then interL {l with nmi:=false} 65530 else if l.apu.irq&& !l.cpu.i then interL l 65534 else opL l (fetchOp l) (fetchArg l)
def mayL (l:LockM):Bool:=decide (l.ppu.T+cyclesL l≤20000)
def stepL (l:LockM):LockM:=let m:=ticksL (cyclesL l).toNat (doL l);{m with steps:=m.steps+1}
theorem doL_P {l:LockM} (h:LockP l):LockP (doL l):=by
 unfold doL
 split
 ·exact interL_P (l:={l with nmi:=false}) ⟨h.mem,h.pads,h.cpu,h.ppu,h.apu,h.pad,h.t,h.s0,h.s1,h.fr,h.frn,h.sam⟩ _
 split
 ·exact interL_P h _
 ·exact opL_P h _ _
theorem doL_t (l:LockM):(doL l).ppu.T=l.ppu.T:=by
 unfold doL
 split
 ·rfl
 split
 ·rfl
 ·exact opL_t _ _ _
theorem doL_steps (l:LockM):(doL l).steps=l.steps:=by
 unfold doL
 split
 ·rfl
 split
 ·rfl
 ·exact opL_steps _ _ _
theorem doL_reads (l:LockM):(doL l).reads.length≤l.reads.length+1:=by
 unfold doL
 split
 ·show l.reads.length≤_;omega
 split
 ·show l.reads.length≤_;omega
 ·exact opL_reads _ _ _
theorem cyclesL_b (l:LockM):2≤cyclesL l∧cyclesL l≤7:=by
 unfold cyclesL
 split
 ·omega
 ·have:=opCycN_b (fetchOp l);omega
theorem stepL_P {l:LockM} (h:LockP l) (hm:mayL l=true):LockP (stepL l)∧(stepL l).ppu.T=l.ppu.T+cyclesL l∧(stepL l).steps=l.steps+1∧(stepL l).reads.length≤l.reads.length+1:=by
 have hm:l.ppu.T+cyclesL l≤20000:=by simpa [mayL] using hm
 have hc:=cyclesL_b l
 have hd:=doL_t l
 obtain ⟨a,b,c,d⟩:=ticksL_P (n:=(cyclesL l).toNat) (doL_P h) (by omega)
 have e:(stepL l).ppu.T=l.ppu.T+cyclesL l:=by
  show (ticksL (cyclesL l).toNat (doL l)).ppu.T=_
  rw[b,hd];omega
 have e2:(stepL l).steps=l.steps+1:=by
  show (ticksL (cyclesL l).toNat (doL l)).steps+1=_
  rw[c,doL_steps]
 obtain ⟨m,ps,cc,p,u,dd,t,s0,s1,f,fn,sm⟩:=a
 refine ⟨⟨m,ps,cc,p,u,dd,t,by have:=h.s0;omega,by have:=h.s1;have:=h.s0;rw[e,e2];omega,f,fn,sm⟩,e,e2,?_⟩
 show (ticksL (cyclesL l).toNat (doL l)).reads.length≤_
 rw[d]
 exact doL_reads l
def runL:Nat→LockM→LockM×Nat
 |0,l=>(l,0)
 |n+1,l=>if mayL l then ((runL n (stepL l)).1,(runL n (stepL l)).2+1)else (l,0)
theorem runL_P: ∀{n:Nat} {l:LockM},LockP l→LockP (runL n l).1∧(runL n l).2≤n∧(runL n l).1.reads.length≤l.reads.length+n∧(runL n l).1.steps=l.steps+(runL n l).2
 |0,l,h=>⟨h,Nat.le_refl _,Nat.le_refl _,by show l.steps=l.steps+0;omega⟩
 |n+1,l,h=>by
  unfold runL
  split
  ·rename_i hm
   obtain ⟨a,b,c,d⟩:=stepL_P h hm
   obtain ⟨e,f,g,i⟩:=runL_P (n:=n) a
   exact ⟨e,by show (runL n (stepL l)).2+1≤n+1;omega,by show (runL n (stepL l)).1.reads.length≤_;omega,by show (runL n (stepL l)).1.steps=l.steps+(((runL n (stepL l)).2+1:Nat):Int);omega⟩
  ·exact ⟨h,Nat.zero_le _,by show l.reads.length≤_;omega,by show l.steps=l.steps+0;omega⟩
abbrev Rc:=Int×Int×Int
def RcP (x:Rc):Prop:=(0≤x.1∧x.1≤20000)∧(0≤x.2.1∧x.2.1≤7)∧(0≤x.2.2∧x.2.2≤255)
structure RingP (cap:Int) (l:List Rc):Prop where
 rec': ∀x,x∈l→RcP x
 ord:l.Pairwise (fun a b=>a.1≤b.1)
 c0:1≤cap
 c1:cap≤16
 len:(l.length:Int)≤cap
theorem ord_of_next {l:List Rc} (h: ∀i,(hi:i+1<l.length)→l[i].1≤l[i+1].1):l.Pairwise (fun a b=>a.1≤b.1):=by
 rw[List.pairwise_iff_getElem]
 intro i j hi hj hij
 induction j with
 |zero=>omega
 |succ j ih=>
  rcases Nat.lt_or_ge i j with h1|h1
  ·exact Int.le_trans (ih (by omega) h1) (h j hj)
  ·have:i=j:=by omega
   subst this
   exact h i hj
theorem ringOk_iff {r:Tup ringL}:ringOk r=true↔RingP r.1 r.2.1:=by
 unfold ringOk
 rw[Bool.and_eq_true,Bool.and_eq_true,List.all_eq_true,inR_iff,leI_iff]
 have hg: ∀i,(hi:i<r.2.1.length)→rdE .t r.2.1 (i:Int)=r.2.1[i]:=fun i hi=>rdE_nat .t r.2.1 i hi
 constructor
 ·rintro ⟨h,⟨c0,c1⟩,hl⟩
  have key: ∀i,(hi:i<r.2.1.length)→RcP r.2.1[i]∧(i≠0→ ¬(r.2.1[i]).1< (rdE .t r.2.1 ((i-1:Nat):Int)).1):=fun i hi=>by
   have:=h i (by rw[List.mem_range'];exact ⟨i,hi,by omega⟩)
   unfold ringAt at this
   rw[hg i hi]at this
   simp only[Bool.and_eq_true,inR_iff,Bool.or_eq_true,decide_eq_true_eq,Bool.not_eq_true']at this
   obtain ⟨a,b,c,d⟩:=this
   refine ⟨⟨a,b,c⟩,fun h0=> ?_⟩
   rcases d with d|d
   ·exact absurd d h0
   ·intro hlt
    rw[show ltI (r.2.1[i]).1 (rdE .t r.2.1 ((i-1:Nat):Int)).1=true from ltI_t hlt]at d
    cases d
  refine ⟨fun x hx=> ?_,ord_of_next fun i hi=> ?_,c0,c1,hl⟩
  ·obtain ⟨i,hi,rfl⟩:=List.getElem_of_mem hx
   exact (key i hi).1
  ·have:=(key (i+1) hi).2 (by omega)
   rw[Nat.add_sub_cancel,hg i (by omega)]at this
   omega
 ·rintro ⟨h,ho,c0,c1,hl⟩
  refine ⟨fun i hi=> ?_,⟨c0,c1⟩,hl⟩
  rw[List.mem_range']at hi
  obtain ⟨j,hj,e⟩:=hi
  have hi:i<r.2.1.length:=by omega
  unfold ringAt
  rw[hg i hi]
  obtain ⟨a,b,c⟩:=h _ (List.getElem_mem hi)
  simp only[Bool.and_eq_true,inR_iff,Bool.or_eq_true,decide_eq_true_eq,Bool.not_eq_true']
  refine ⟨a,b,c,?_⟩
  by_cases h0:i=0
  ·exact .inl h0
  ·right
   rw[hg (i-1) (by omega)]
   have:=List.pairwise_iff_getElem.1 ho (i-1) i (by omega) hi (by omega)
   exact ltI_f (by omega)
theorem ringHead_iff {r:Tup ringL} {t:Int} (h:r.2.1.Pairwise (fun a b=>a.1≤b.1)):ringHead r t=true↔ ∀x,x∈r.2.1→t≤x.1:=by
 unfold ringHead
 obtain ⟨cap,l,_⟩:=r
 simp only at h⊢
 cases l with
 |nil=>simp
 |cons y l=>
  simp only[List.length_cons,Nat.add_one_ne_zero,if_false]
  rw[show rdE .t (y::l) (0:Int)=y from rfl,leI_iff]
  constructor
  ·intro h1 x hx
   cases hx with
   |head=>exact h1
   |tail _ hx=>exact Int.le_trans h1 ((List.pairwise_cons.1 h).1 x hx)
  ·intro h1;exact h1 y List.mem_cons_self
theorem ringLast_iff {r:Tup ringL} {t:Int} (h:r.2.1.Pairwise (fun a b=>a.1≤b.1)):ringLast r t=true↔ ∀x,x∈r.2.1→x.1≤t:=by
 unfold ringLast
 obtain ⟨cap,l,_⟩:=r
 simp only at h⊢
 by_cases h0:l.length=0
 ·have:l=[]:=List.eq_nil_of_length_eq_zero h0
  subst this
  simp
 ·rw[if_neg h0,rdE_nat .t l (l.length-1) (by omega),leI_iff]
  constructor
  ·intro h1 x hx
   obtain ⟨i,hi,rfl⟩:=List.getElem_of_mem hx
   rcases Nat.lt_or_ge i (l.length-1)with h2|h2
   ·exact Int.le_trans (List.pairwise_iff_getElem.1 h i (l.length-1) hi (by omega) h2) h1
   ·have:i=l.length-1:=by omega
    subst this
    exact h1
  ·intro h1;exact h1 _ (List.getElem_mem _)
structure PicM where
 ppu:PpuM
 cap:Int
 list:List Rc
 frames:List (List Int)
structure SndM where
 apu:ApuM
 cap:Int
 list:List Rc
 samples:List Int
def PicM.t (w:PicM):Tup picL:=(w.ppu.T,(w.ppu.ctrl,(w.ppu.scroll,(w.ppu.addr,(w.ppu.pal,(w.ppu.blank,(w.ppu.table,(w.ppu.dots,(w.cap,(w.list,(w.frames,())))))))))))
def SndM.t (w:SndM):Tup sndL:=(w.apu.T,(w.apu.period,(w.apu.count,(w.apu.bit,(w.apu.len,(w.apu.asks,(w.apu.irq,(w.cap,(w.list,(w.samples,()))))))))))
structure PicP (w:PicM):Prop where
 ppu:PpuP w.ppu
 ring:RingP w.cap w.list
 lo: ∀x,x∈w.list→w.ppu.T≤x.1
 fr: ∀f,f∈w.frames→f.length=48
 frn:(w.frames.length:Int)=framesN w.ppu.T
structure SndP (w:SndM):Prop where
 apu:ApuP w.apu
 ring:RingP w.cap w.list
 lo: ∀x,x∈w.list→w.apu.T≤x.1
 sam:(w.samples.length:Int)=w.apu.T/16
theorem picOk_iff {w:PicM}:picOk w.t=true↔PicP w:=by
 unfold picOk
 simp only[Bool.and_eq_true]
 constructor
 ·rintro ⟨a,b,c,d⟩
  have a:=ppuOk_iff.1 (show ppuOk w.ppu.t=true from a)
  have b:=ringOk_iff.1 b
  have d:=(framesOk_iff a.t.1).1 (show framesOk w.frames w.ppu.T=true from d)
  exact ⟨a,b,(ringHead_iff b.ord).1 c,d.1,d.2⟩
 ·rintro ⟨a,b,c,d,e⟩
  exact ⟨ppuOk_iff.2 a,ringOk_iff.2 b,(ringHead_iff (r:=(w.cap,(w.list,()))) b.ord).2 c,(framesOk_iff a.t.1).2 ⟨d,e⟩⟩
theorem sndOk_iff {w:SndM}:sndOk w.t=true↔SndP w:=by
 unfold sndOk
 simp only[Bool.and_eq_true]
 constructor
 ·rintro ⟨a,b,c,d⟩
  have a:=apuOk_iff.1 (show apuOk w.apu.t=true from a)
  have b:=ringOk_iff.1 b
  have d:=(samplesOk_iff a.t.1).1 (show samplesOk w.samples w.apu.T=true from d)
  exact ⟨a,b,(ringHead_iff b.ord).1 c,d⟩
 ·rintro ⟨a,b,c,d⟩
  exact ⟨apuOk_iff.2 a,ringOk_iff.2 b,(ringHead_iff (r:=(w.cap,(w.list,()))) b.ord).2 c,(samplesOk_iff a.t.1).2 d⟩
theorem PicP.s {w:PicM} (h:PicP w):picOkS w.t:=by
 have h1:=h.ppu.t
 have h2:=h.frn
 have h3:=h.ring.len
 have h4:=h.ring.c1
 unfold framesN at h2
 exact ⟨h.ppu.s,by show w.list.length≤_;omega,small_frames (f:=w.frames) h.fr (by omega)⟩
theorem SndP.s {w:SndM} (h:SndP w):sndOkS w.t:=by
 have h1:=h.apu.t
 have h2:=h.sam
 have h3:=h.ring.len
 have h4:=h.ring.c1
 exact ⟨by show w.list.length≤_;omega,by show w.samples.length≤_;omega⟩
theorem RingP.tail {cap:Int} {x:Rc} {l:List Rc} (h:RingP cap (x::l)):RingP cap l:=
 ⟨fun y hy=>h.rec' y (List.mem_cons_of_mem _ hy),(List.pairwise_cons.1 h.ord).2,h.c0,h.c1,by have:=h.len;simp only[List.length_cons]at this;omega⟩
def due (l:List Rc) (t:Int):Bool:=match l with| []=>false|x::_=>decide (x.1=t)
def headR (l:List Rc):Rc:=match l with| []=>(0,(0,0))|x::_=>x
def stepPic (w:PicM) (mark:Int):Option PicM:=
 if due w.list w.ppu.T then some {w with ppu:=writeP w.ppu (headR w.list).2.1 (headR w.list).2.2,list:=w.list.tail}
 else if w.ppu.T<mark∧w.ppu.T<20000 then some {w with ppu:=tickP w.ppu,frames:=if toldP w.ppu then w.frames++[frameP w.ppu]else w.frames}else none
def stepSnd (w:SndM) (mark:Int):Option SndM:=
 if due w.list w.apu.T then some {w with apu:=writeA w.apu (headR w.list).2.1 (headR w.list).2.2,list:=w.list.tail}
 else if w.apu.T<mark∧w.apu.T<20000 then some {w with apu:=tickA w.apu,samples:=if toldA w.apu then w.samples++[sampleA w.apu]else w.samples}else none
theorem due_cons {l:List Rc} {t:Int} (h:due l t=true):l=headR l::l.tail∧(headR l).1=t:=by
 unfold due headR at*
 cases l with
 |nil=>cases h
 |cons x l=>exact ⟨rfl,by simpa using h⟩
theorem not_due {l:List Rc} {t:Int} (ho:l.Pairwise (fun a b=>a.1≤b.1)) (hl: ∀x,x∈l→t≤x.1) (h:due l t=false): ∀x,x∈l→t+1≤x.1:=by
 unfold due at h
 cases l with
 |nil=>intro x hx;cases hx
 |cons y l=>
  have h:y.1≠t:=by simpa using h
  have h1:=hl y List.mem_cons_self
  intro x hx
  cases hx with
  |head=>omega
  |tail _ hx=>have:=(List.pairwise_cons.1 ho).1 x hx;omega
theorem stepPic_P {w v:PicM} {mark:Int} (h:PicP w) (hs:stepPic w mark=some v):PicP v∧v.cap=w.cap∧(∀x,x∈v.list→x∈w.list)∧
  (v.ppu.T=w.ppu.T∧v.list.length+1=w.list.length∨v.ppu.T=w.ppu.T+1∧w.ppu.T<mark∧w.ppu.T<20000∧v.list=w.list):=by
 obtain ⟨p,r,lo,f,fn⟩:=h
 unfold stepPic at hs
 split at hs
 ·rename_i hd
  obtain ⟨e,e1⟩:=due_cons hd
  simp only[Option.some.injEq]at hs
  subst hs
  rw[e]at r lo
  refine ⟨⟨writeP_P p _ _,r.tail,fun x hx=> ?_,f,?_⟩,rfl,fun x hx=> ?_, .inl ⟨writeP_t _ _ _,?_⟩⟩
  ·show (writeP w.ppu _ _).T≤x.1
   rw[writeP_t]
   exact lo x (List.mem_cons_of_mem _ hx)
  ·show (w.frames.length:Int)=framesN (writeP w.ppu _ _).T
   rw[writeP_t];exact fn
  ·show x∈w.list
   rw[e];exact List.mem_cons_of_mem _ hx
  ·show w.list.tail.length+1=w.list.length
   conv=>rhs;rw[e]
   rfl
 ·split at hs
  ·rename_i hd hm
   simp only[Option.some.injEq]at hs
   subst hs
   have hd:due w.list w.ppu.T=false:=by simpa using hd
   have p0:=p.t.1
   refine ⟨⟨tickP_P p hm.2,r,fun x hx=> ?_,fun x hx=> ?_,?_⟩,rfl,fun x hx=>hx, .inr ⟨tickP_t _,hm.1,hm.2,rfl⟩⟩
   ·show (tickP w.ppu).T≤x.1
    rw[tickP_t]
    exact not_due r.ord lo hd x hx
   ·have hx:x∈(if toldP w.ppu then w.frames++[frameP w.ppu]else w.frames):=hx
    split at hx
    ·rename_i ht
     rcases List.mem_append.1 hx with h1|h1
     ·exact f x h1
     ·rw[List.mem_singleton.1 h1];exact frameP_len p ht
    ·exact f x hx
   ·show ((if toldP w.ppu then w.frames++[frameP w.ppu]else w.frames).length:Int)=framesN (tickP w.ppu).T
    rw[tickP_t]
    unfold framesN toldP at*
    by_cases h1:w.ppu.T%64=48
    ·simp only[h1,decide_true,if_true,List.length_append,List.length_singleton]
     omega
    ·simp only[h1,decide_false,Bool.false_eq_true,if_false]
     omega
  ·cases hs
theorem stepSnd_P {w v:SndM} {mark:Int} (h:SndP w) (hs:stepSnd w mark=some v):SndP v∧v.cap=w.cap∧(∀x,x∈v.list→x∈w.list)∧
  (v.apu.T=w.apu.T∧v.list.length+1=w.list.length∨v.apu.T=w.apu.T+1∧w.apu.T<mark∧w.apu.T<20000∧v.list=w.list):=by
 obtain ⟨p,r,lo,fn⟩:=h
 unfold stepSnd at hs
 split at hs
 ·rename_i hd
  obtain ⟨e,e1⟩:=due_cons hd
  simp only[Option.some.injEq]at hs
  subst hs
  rw[e]at r lo
  refine ⟨⟨writeA_P p _ _,r.tail,fun x hx=> ?_,?_⟩,rfl,fun x hx=> ?_, .inl ⟨writeA_t _ _ _,?_⟩⟩
  ·show (writeA w.apu _ _).T≤x.1
   rw[writeA_t]
   exact lo x (List.mem_cons_of_mem _ hx)
  ·show (w.samples.length:Int)=(writeA w.apu _ _).T/16
   rw[writeA_t];exact fn
  ·show x∈w.list
   rw[e];exact List.mem_cons_of_mem _ hx
  ·show w.list.tail.length+1=w.list.length
   conv=>rhs;rw[e]
   rfl
 ·split at hs
  ·rename_i hd hm
   simp only[Option.some.injEq]at hs
   subst hs
   have hd:due w.list w.apu.T=false:=by simpa using hd
   have p0:=p.t.1
   refine ⟨⟨tickA_P p hm.2,r,fun x hx=>not_due r.ord lo hd x hx,?_⟩,rfl,fun x hx=>hx, .inr ⟨rfl,hm.1,hm.2,rfl⟩⟩
   show ((if toldA w.apu then w.samples++[sampleA w.apu]else w.samples).length:Int)=(w.apu.T+1)/16
   by_cases h1:w.apu.T%16=15
   ·rw[show toldA w.apu=true from eqI_t h1,if_pos rfl,List.length_append,List.length_singleton]
    omega
   ·rw[show toldA w.apu=false from eqI_f h1,if_neg (by simp)]
    omega
  ·cases hs
def catchPic:Nat→PicM→Int→PicM
 |0,w,_=>w
 |n+1,w,m=>match stepPic w m with|none=>w|some v=>catchPic n v m
def catchSnd:Nat→SndM→Int→SndM
 |0,w,_=>w
 |n+1,w,m=>match stepSnd w m with|none=>w|some v=>catchSnd n v m
def leftPic (w:PicM):Nat:=w.list.length+(20000-w.ppu.T).toNat
def leftSnd (w:SndM):Nat:=w.list.length+(20000-w.apu.T).toNat
theorem leftPic_lt {w v:PicM} {m:Int} (h:PicP w) (hs:stepPic w m=some v):leftPic v<leftPic w:=by
 obtain ⟨a,_,_,c⟩:=stepPic_P h hs
 unfold leftPic
 have:=h.ppu.t
 rcases c with ⟨c,d⟩| ⟨c,d,e,f⟩
 ·rw[c];omega
 ·rw[c,f];omega
theorem leftSnd_lt {w v:SndM} {m:Int} (h:SndP w) (hs:stepSnd w m=some v):leftSnd v<leftSnd w:=by
 obtain ⟨a,_,_,c⟩:=stepSnd_P h hs
 unfold leftSnd
 have:=h.apu.t
 rcases c with ⟨c,d⟩| ⟨c,d,e,f⟩
 ·rw[c];omega
 ·rw[c,f];omega
def caughtPic (w:PicM) (m:Int):PicM:=catchPic (leftPic w) w m
def caughtSnd (w:SndM) (m:Int):SndM:=catchSnd (leftSnd w) w m
theorem catchPic_enough: ∀{n:Nat} {w:PicM} {m:Int},PicP w→leftPic w≤n→catchPic n w m=caughtPic w m:=by
 intro n
 induction n using Nat.strongRecOn with
 |ind n ih=>
  intro w m h hn
  unfold caughtPic
  cases n with
  |zero=>rw[show leftPic w=0 by omega]
  |succ n=>
   cases hs:stepPic w m with
   |none=>
    rw[show catchPic (n+1) w m=w by rw[catchPic,hs]]
    cases leftPic w with
    |zero=>rfl
    |succ k=>rw[catchPic,hs]
   |some v=>
    have h1:=leftPic_lt h hs
    rw[show catchPic (n+1) w m=catchPic n v m by rw[catchPic,hs]]
    rw[ih n (by omega) (stepPic_P h hs).1 (by omega)]
    obtain ⟨k,hk⟩: ∃k,leftPic w=k+1:=⟨leftPic w-1,by omega⟩
    rw[hk,show catchPic (k+1) w m=catchPic k v m by rw[catchPic,hs]]
    exact (ih k (by omega) (stepPic_P h hs).1 (by omega)).symm
theorem catchSnd_enough: ∀{n:Nat} {w:SndM} {m:Int},SndP w→leftSnd w≤n→catchSnd n w m=caughtSnd w m:=by
 intro n
 induction n using Nat.strongRecOn with
 |ind n ih=>
  intro w m h hn
  unfold caughtSnd
  cases n with
  |zero=>rw[show leftSnd w=0 by omega]
  |succ n=>
   cases hs:stepSnd w m with
   |none=>
    rw[show catchSnd (n+1) w m=w by rw[catchSnd,hs]]
    cases leftSnd w with
    |zero=>rfl
    |succ k=>rw[catchSnd,hs]
   |some v=>
    have h1:=leftSnd_lt h hs
    rw[show catchSnd (n+1) w m=catchSnd n v m by rw[catchSnd,hs]]
    rw[ih n (by omega) (stepSnd_P h hs).1 (by omega)]
    obtain ⟨k,hk⟩: ∃k,leftSnd w=k+1:=⟨leftSnd w-1,by omega⟩
    rw[hk,show catchSnd (k+1) w m=catchSnd k v m by rw[catchSnd,hs]]
    exact (ih k (by omega) (stepSnd_P h hs).1 (by omega)).symm
theorem caughtPic_some {w v:PicM} {m:Int} (h:PicP w) (hs:stepPic w m=some v):caughtPic w m=caughtPic v m:=by
 have h1:=leftPic_lt h hs
 obtain ⟨k,hk⟩: ∃k,leftPic w=k+1:=⟨leftPic w-1,by omega⟩
 unfold caughtPic
 rw[hk,show catchPic (k+1) w m=catchPic k v m by rw[catchPic,hs]]
 exact catchPic_enough (stepPic_P h hs).1 (by omega)
theorem caughtPic_none {w:PicM} {m:Int} (hs:stepPic w m=none):caughtPic w m=w:=by
 unfold caughtPic
 cases leftPic w with
 |zero=>rfl
 |succ k=>rw[catchPic,hs]
theorem caughtSnd_some {w v:SndM} {m:Int} (h:SndP w) (hs:stepSnd w m=some v):caughtSnd w m=caughtSnd v m:=by
 have h1:=leftSnd_lt h hs
 obtain ⟨k,hk⟩: ∃k,leftSnd w=k+1:=⟨leftSnd w-1,by omega⟩
 unfold caughtSnd
 rw[hk,show catchSnd (k+1) w m=catchSnd k v m by rw[catchSnd,hs]]
 exact catchSnd_enough (stepSnd_P h hs).1 (by omega)
theorem caughtSnd_none {w:SndM} {m:Int} (hs:stepSnd w m=none):caughtSnd w m=w:=by
 unfold caughtSnd
 cases leftSnd w with
 |zero=>rfl
 |succ k=>rw[catchSnd,hs]
theorem caughtPic_ind {Q:PicM→Prop} {m:Int} (hq: ∀w v,PicP w→Q w→stepPic w m=some v→Q v): ∀(n:Nat) {w:PicM},leftPic w≤n→PicP w→Q w→PicP (caughtPic w m)∧Q (caughtPic w m)∧stepPic (caughtPic w m) m=none
 |0,w,hn,h,q=>by
  cases hs:stepPic w m with
  |none=>rw[caughtPic_none hs];exact ⟨h,q,hs⟩
  |some v=>have:=leftPic_lt h hs;omega
 |n+1,w,hn,h,q=>by
  cases hs:stepPic w m with
  |none=>rw[caughtPic_none hs];exact ⟨h,q,hs⟩
  |some v=>
   rw[caughtPic_some h hs]
   exact caughtPic_ind hq n (by have:=leftPic_lt h hs;omega) (stepPic_P h hs).1 (hq w v h q hs)
theorem caughtSnd_ind {Q:SndM→Prop} {m:Int} (hq: ∀w v,SndP w→Q w→stepSnd w m=some v→Q v): ∀(n:Nat) {w:SndM},leftSnd w≤n→SndP w→Q w→SndP (caughtSnd w m)∧Q (caughtSnd w m)∧stepSnd (caughtSnd w m) m=none
 |0,w,hn,h,q=>by
  cases hs:stepSnd w m with
  |none=>rw[caughtSnd_none hs];exact ⟨h,q,hs⟩
  |some v=>have:=leftSnd_lt h hs;omega
 |n+1,w,hn,h,q=>by
  cases hs:stepSnd w m with
  |none=>rw[caughtSnd_none hs];exact ⟨h,q,hs⟩
  |some v=>
   rw[caughtSnd_some h hs]
   exact caughtSnd_ind hq n (by have:=leftSnd_lt h hs;omega) (stepSnd_P h hs).1 (hq w v h q hs)
structure SplitM where
 img:List (List Int)
 pads:List Int
 mem:MemM
 cpu:CpuM
 pad:PadM
 T:Int
 nmi:Bool
 ctrl:Int
 known:Bool
 knownAt:Int
 steps:Int
 reads:List Int
 pic:PicM
 snd:SndM
def SplitM.t (s:SplitM):Tup splitL:=(s.img,(s.pads,(s.mem.ram,(s.mem.bank,(s.cpu.a,(s.cpu.x,(s.cpu.s,(s.cpu.pc,(s.cpu.z,(s.cpu.n,(s.cpu.c,(s.cpu.i,(s.pad.held,(s.pad.shift,
 (s.T,(s.nmi,(s.ctrl,(s.known,(s.knownAt,(s.steps,(s.reads,
 (s.pic.ppu.T,(s.pic.ppu.ctrl,(s.pic.ppu.scroll,(s.pic.ppu.addr,(s.pic.ppu.pal,(s.pic.ppu.blank,(s.pic.ppu.table,(s.pic.ppu.dots,(s.pic.cap,(s.pic.list,(s.pic.frames,s.snd.t))))))))))))))))))))))))))))))))
structure SplitP (s:SplitM):Prop where
 mem:MemP s.img s.mem
 pads:PadsP s.pads
 cpu:CpuP s.cpu
 pic:PicP s.pic
 snd:SndP s.snd
 pad:PadP s.pad
 ctrl:0≤s.ctrl∧s.ctrl≤255
 t:0≤s.T∧s.T≤20000
 known:0≤s.knownAt∧s.knownAt≤s.T
 steps:0≤s.steps∧s.steps≤s.T
 pt:s.pic.ppu.T≤s.T
 st:s.snd.apu.T≤s.T
 pl: ∀x,x∈s.pic.list→x.1≤s.T
 sl: ∀x,x∈s.snd.list→x.1≤s.T
theorem splitOk_iff {s:SplitM}:splitOk s.t=true↔SplitP s:=by
 unfold splitOk splitParts splitNum splitEnd
 simp only[Bool.and_eq_true,inR_iff]
 constructor
 ·rintro ⟨⟨a,b,c,d,e⟩,⟨f,g,h,i,j⟩,k,l,m,n⟩
  have d:=picOk_iff.1 (show picOk s.pic.t=true from d)
  have e:=sndOk_iff.1 (show sndOk s.snd.t=true from e)
  exact ⟨memOk_iff.1 a,padsOk_iff.1 b,cpuOk_iff.1 c,d,e,f,g,h,i,j,leI_iff.1 k,leI_iff.1 l,(ringLast_iff d.ring.ord).1 m,(ringLast_iff e.ring.ord).1 n⟩
 ·rintro ⟨a,b,c,d,e,f,g,h,i,j,k,l,m,n⟩
  exact ⟨⟨memOk_iff.2 a,padsOk_iff.2 b,cpuOk_iff.2 c,picOk_iff.2 d,sndOk_iff.2 e⟩,⟨f,g,h,i,j⟩,leI_iff.2 k,leI_iff.2 l,(ringLast_iff (r:=(s.pic.cap,(s.pic.list,()))) d.ring.ord).2 m,(ringLast_iff (r:=(s.snd.cap,(s.snd.list,()))) e.ring.ord).2 n⟩
theorem SplitP.s {s:SplitM} (h:SplitP s) (hr:s.reads.length≤4398046511104):splitOkS s.t:=by
 have h4:=h.mem.ram.len
 have h5:=h.pads.len
 exact ⟨h.mem.img.small,by show s.pads.length≤_;omega,by show s.mem.1.length≤_;omega,hr,h.pic.s,h.snd.s⟩
def picUpM (s:SplitM):Bool:=eqI s.pic.ppu.T s.T&&eqI (s.pic.list.length:Int) 0
def sndUpM (s:SplitM):Bool:=eqI s.snd.apu.T s.T&&eqI (s.snd.list.length:Int) 0
def beatN (a b:Int):Bool:=decide ((a+31)/32< (b+31)/32)
def blankN (a b:Int):Bool:=decide ((a+15)/64< (b+15)/64)
def overN (s:SplitM) (n:Int):Int:=if 20000<s.T+n then 5 else 0
def mustM (s:SplitM):Bool:= !s.nmi&&(!s.cpu.i&&beatN s.knownAt s.T)
def askM (s:SplitM):Bool:=(if beatN s.knownAt s.T then s.snd.apu.irq else s.known)&& !s.cpu.i
def opS (s:SplitM):Int:=opT s.img s.mem s.cpu.pc
def argS (s:SplitM):Int:=argT s.img s.mem s.cpu.pc
def adrS (s:SplitM):Int:=accA (opS s) (argS s) s.cpu.x
def waitM (s:SplitM):Int:=
 if s.nmi then overN s 7 else if mustM s&& !sndUpM s then 2 else if askM s then overN s 7
 else if opAccN (opS s)=1∧(rgT (adrS s)).1=2∧picUpM s=false then 1 else if opAccN (opS s)=1∧(rgT (adrS s)).1=3∧sndUpM s=false then 2
 else if opAccN (opS s)=2∧(rgT (adrS s)).1=2∧s.pic.cap≤(s.pic.list.length:Int)then 3 else if opAccN (opS s)=2∧(rgT (adrS s)).1=3∧s.snd.cap≤(s.snd.list.length:Int)then 4
 else overN s (opCycN (opS s))
def knowS (s:SplitM) (b:Bool):SplitM:={s with known:=b,knownAt:=s.T}
def readS (s:SplitM) (a:Int):SplitM:=
 if (rgT a).1=2 then {s with pic:={s.pic with ppu:=readP s.pic.ppu (rgT a).2},reads:=s.reads++[readPV s.pic.ppu (rgT a).2]}
 else if (rgT a).1=3 then
  (if (rgT a).2=2 then {s with snd:={s.snd with apu:=readA s.snd.apu (rgT a).2},known:=false,knownAt:=s.T,reads:=s.reads++[readAV s.snd.apu (rgT a).2]}
  else {s with snd:={s.snd with apu:=readA s.snd.apu (rgT a).2},reads:=s.reads++[readAV s.snd.apu (rgT a).2]})
 else if (rgT a).1=4 then {s with pad:=readD s.pad s.pads s.T,reads:=s.reads++[readDV s.pad s.pads s.T]}
 else s
def readSV (s:SplitM) (a:Int):Int:=
 if (rgT a).1=2 then readPV s.pic.ppu (rgT a).2 else if (rgT a).1=3 then readAV s.snd.apu (rgT a).2 else if (rgT a).1=4 then readDV s.pad s.pads s.T else peekT s.img s.mem a
def writeS (s:SplitM) (a v:Int):SplitM:=
 if (rgT a).1=2 then {s with pic:={s.pic with list:=s.pic.list++[(s.T,((rgT a).2,v))]},ctrl:=if (rgT a).2=0 then v else s.ctrl}
 else if (rgT a).1=3 then
  (if (rgT a).2=3∨(rgT a).2=2∧v%2=0 then {s with snd:={s.snd with list:=s.snd.list++[(s.T,((rgT a).2,v))]},known:=false,knownAt:=s.T}
  else {s with snd:={s.snd with list:=s.snd.list++[(s.T,((rgT a).2,v))]}})
 else if (rgT a).1=4 then {s with pad:=writeD s.pad s.pads s.T v}else {s with mem:=pokeT s.img s.mem a v}
def interS (s:SplitM) (v:Int):SplitM:={s with mem:=enterM s.mem s.cpu,cpu:=enterC s.cpu (vecN s.img s.mem v)}
def execS (s:SplitM) (op arg v:Int):SplitM:={s with mem:=execM s.mem s.cpu op,cpu:=execC s.mem s.cpu op arg v}
def opDo (s:SplitM):SplitM:=
 if opAccN (opS s)=1 then execS (readS s (adrS s)) (opS s) (argS s) (readSV s (adrS s))
 else if opAccN (opS s)=2 then execS (writeS s (adrS s) (s.cpu.a%256)) (opS s) (argS s) 0
 else execS s (opS s) (argS s) 0
def learnS (s:SplitM):SplitM:=if mustM s then knowS s s.snd.apu.irq else s
def doneS (s:SplitM):SplitM×Int:=
 if s.nmi then (interS {s with nmi:=false} 65530,7)else if s.known&& !s.cpu.i then (interS s 65534,7)else (opDo s,opCycN (opS s))
def endS (a:Int) (r:SplitM×Int):SplitM:={r.1 with T:=a+r.2,nmi:=ltI 127 r.1.ctrl&&blankN a (a+r.2),steps:=r.1.steps+1}
def stepS (s:SplitM):SplitM:=endS s.T (doneS (learnS s))
structure StepFacts (s:SplitM) (s':SplitM):Prop where
 img:s'.img=s.img
 pads:s'.pads=s.pads
 T:s'.T=s.T
 nmi:s'.nmi=s.nmi
 steps:s'.steps=s.steps
 reads:s'.reads.length≤s.reads.length+1
structure ReadyP (s:SplitM):Prop where
 p:SplitP s
 room:opAccN (opS s)=2→(rgT (adrS s)).1=2→(s.pic.list.length:Int)<s.pic.cap
 room':opAccN (opS s)=2→(rgT (adrS s)).1=3→(s.snd.list.length:Int)<s.snd.cap
theorem readS_P {s:SplitM} (h:SplitP s) (a:Int):SplitP (readS s a):=by
 have hp:=h
 obtain ⟨m,ps,c,pc,sd,d,ct,t,kn,st,pt,sdt,pl,sl⟩:=h
 unfold readS
 split
 ·exact ⟨m,ps,c,⟨readP_P pc.ppu _,pc.ring,fun x hx=>by show (readP s.pic.ppu _).T≤_;rw[readP_t];exact pc.lo x hx,pc.fr,by show _=framesN (readP s.pic.ppu _).T;rw[readP_t];exact pc.frn⟩,sd,d,ct,t,kn,st,by show (readP s.pic.ppu _).T≤_;rw[readP_t];exact pt,sdt,pl,sl⟩
 split
 ·have sd':SndP {s.snd with apu:=readA s.snd.apu (rgT a).2}:=⟨readA_P sd.apu _,sd.ring,fun x hx=>by show (readA s.snd.apu _).T≤_;rw[readA_t];exact sd.lo x hx,by show _=(readA s.snd.apu _).T/16;rw[readA_t];exact sd.sam⟩
  have sdt':(readA s.snd.apu (rgT a).2).T≤s.T:=by rw[readA_t];exact sdt
  split
  ·exact ⟨m,ps,c,pc,sd',d,ct,t,⟨t.1,Int.le_refl _⟩,st,pt,sdt',pl,sl⟩
  ·exact ⟨m,ps,c,pc,sd',d,ct,t,kn,st,pt,sdt',pl,sl⟩
 split
 ·exact ⟨m,ps,c,pc,sd,readD_P d ps,ct,t,kn,st,pt,sdt,pl,sl⟩
 ·exact hp
theorem readSV_b {s:SplitM} (h:SplitP s) (a:Int):0≤readSV s a∧readSV s a≤255:=by
 unfold readSV
 split
 ·exact readPV_b h.pic.ppu _
 split
 ·exact readAV_b _ _
 split
 ·exact readDV_b _ _ _
 ·exact peekT_byte h.mem a
theorem readS_f (s:SplitM) (a:Int):StepFacts s (readS s a)∧(readS s a).cpu=s.cpu∧(readS s a).mem=s.mem:=by
 unfold readS
 repeat' split
 all_goals exact ⟨⟨rfl,rfl,rfl,rfl,rfl,by simp⟩,rfl,rfl⟩
theorem RingP.app {cap:Int} {l:List Rc} (h:RingP cap l) {x:Rc} (hx:RcP x) (hl: ∀y,y∈l→y.1≤x.1) (hc:(l.length:Int)<cap):RingP cap (l++[x]):=
 ⟨fun y hy=>by
  rcases List.mem_append.1 hy with h1|h1
  ·exact h.rec' y h1
  ·rw[List.mem_singleton.1 h1];exact hx,
 List.pairwise_append.2 ⟨h.ord,List.pairwise_singleton _ _,fun a ha b hb=>by rw[List.mem_singleton.1 hb];exact hl a ha⟩,h.c0,h.c1,by rw[List.length_append,List.length_singleton];omega⟩
theorem writeS_P {s:SplitM} (h:SplitP s) {a v:Int} (hv:0≤v∧v≤255) (r1:(rgT a).1=2→(s.pic.list.length:Int)<s.pic.cap) (r2:(rgT a).1=3→(s.snd.list.length:Int)<s.snd.cap):SplitP (writeS s a v):=by
 have hp:=h
 obtain ⟨m,ps,c,pc,sd,d,ct,t,kn,st,pt,sdt,pl,sl⟩:=h
 have app: ∀{l:List Rc} {lo:Int},(∀x,x∈l→lo≤x.1)→lo≤s.T→ ∀x,x∈l++[(s.T,((rgT a).2,v))]→lo≤x.1:=fun h1 h2 x hx=>by
  rcases List.mem_append.1 hx with h3|h3
  ·exact h1 x h3
  ·rw[List.mem_singleton.1 h3];exact h2
 have app2: ∀{l:List Rc},(∀x,x∈l→x.1≤s.T)→ ∀x,x∈l++[(s.T,((rgT a).2,v))]→x.1≤s.T:=fun h1 x hx=>by
  rcases List.mem_append.1 hx with h3|h3
  ·exact h1 x h3
  ·rw[List.mem_singleton.1 h3];exact Int.le_refl _
 unfold writeS
 split
 ·rename_i e
  have hr:0≤(rgT a).2∧(rgT a).2≤7:=by
   rcases rgT_cases a with ⟨e',h0,h1⟩| ⟨e',h0,h1⟩| ⟨e',h0,h1⟩| ⟨e',h0⟩| ⟨e',h0,h1⟩| ⟨e',h0,h1⟩| ⟨e',h0⟩<;>omega
  refine ⟨m,ps,c,⟨pc.ppu,pc.ring.app ⟨t,hr,hv⟩ pl (r1 e),app pc.lo pt,pc.fr,pc.frn⟩,sd,d,?_,t,kn,st,pt,sdt,app2 pl,sl⟩
  show 0≤(if (rgT a).2=0 then v else s.ctrl)∧(if (rgT a).2=0 then v else s.ctrl)≤255
  split
  ·exact hv
  ·exact ct
 split
 ·rename_i e
  have hr:0≤(rgT a).2∧(rgT a).2≤7:=by
   rcases rgT_cases a with ⟨e',h0,h1⟩| ⟨e',h0,h1⟩| ⟨e',h0,h1⟩| ⟨e',h0⟩| ⟨e',h0,h1⟩| ⟨e',h0,h1⟩| ⟨e',h0⟩<;>omega
  have sd':SndP {s.snd with list:=s.snd.list++[(s.T,((rgT a).2,v))]}:=⟨sd.apu,sd.ring.app ⟨t,hr,hv⟩ sl (r2 e),app sd.lo sdt,sd.sam⟩
  split
  ·exact ⟨m,ps,c,pc,sd',d,ct,t,⟨t.1,Int.le_refl _⟩,st,pt,sdt,pl,app2 sl⟩
  ·exact ⟨m,ps,c,pc,sd',d,ct,t,kn,st,pt,sdt,pl,app2 sl⟩
 split
 ·exact ⟨m,ps,c,pc,sd,writeD_P d ps,ct,t,kn,st,pt,sdt,pl,sl⟩
 ·exact ⟨pokeT_P m _ _,ps,c,pc,sd,d,ct,t,kn,st,pt,sdt,pl,sl⟩
theorem writeS_f (s:SplitM) (a v:Int):StepFacts s (writeS s a v)∧(writeS s a v).cpu=s.cpu:=by
 unfold writeS
 repeat' split
 all_goals exact ⟨⟨rfl,rfl,rfl,rfl,rfl,Nat.le_succ _⟩,rfl⟩
theorem interS_P {s:SplitM} (h:SplitP s) (v:Int):SplitP (interS s v):=by
 obtain ⟨m,ps,c,pc,sd,d,ct,t,kn,st,pt,sdt,pl,sl⟩:=h
 exact ⟨m.of_ram (enterM_P m.ram) rfl,ps,enterC_P c (vecN_b _ _ _),pc,sd,d,ct,t,kn,st,pt,sdt,pl,sl⟩
theorem execS_P {s:SplitM} (h:SplitP s) (op arg v:Int):SplitP (execS s op arg v):=by
 obtain ⟨m,ps,c,pc,sd,d,ct,t,kn,st,pt,sdt,pl,sl⟩:=h
 exact ⟨m.of_ram (execM_P m.ram) (execM_bank _ _ _),ps,execC_P c,pc,sd,d,ct,t,kn,st,pt,sdt,pl,sl⟩
theorem StepFacts.exec {s s':SplitM} (h:StepFacts s s') (op arg v:Int):StepFacts s (execS s' op arg v):=⟨h.img,h.pads,h.T,h.nmi,h.steps,h.reads⟩
theorem opDo_P {s:SplitM} (h:ReadyP s):SplitP (opDo s)∧StepFacts s (opDo s):=by
 unfold opDo
 split
 ·exact ⟨execS_P (readS_P h.p _) _ _ _,(readS_f s _).1.exec _ _ _⟩
 split
 ·rename_i e
  exact ⟨execS_P (writeS_P h.p (mod256 _) (h.room e) (h.room' e)) _ _ _,(writeS_f s _ _).1.exec _ _ _⟩
 ·exact ⟨execS_P h.p _ _ _,⟨rfl,rfl,rfl,rfl,rfl,Nat.le_succ _⟩⟩
theorem learnS_P {s:SplitM} (h:SplitP s):SplitP (learnS s):=by
 unfold learnS
 split
 ·obtain ⟨m,ps,c,pc,sd,d,ct,t,kn,st,pt,sdt,pl,sl⟩:=h
  exact ⟨m,ps,c,pc,sd,d,ct,t,⟨t.1,Int.le_refl _⟩,st,pt,sdt,pl,sl⟩
 ·exact h
theorem learnS_same (s:SplitM):(learnS s).img=s.img∧(learnS s).mem=s.mem∧(learnS s).cpu=s.cpu∧(learnS s).pic=s.pic∧(learnS s).snd=s.snd∧(learnS s).T=s.T∧(learnS s).nmi=s.nmi∧(learnS s).steps=s.steps∧(learnS s).reads=s.reads∧(learnS s).pads=s.pads:=by
 unfold learnS
 split<;>exact ⟨rfl,rfl,rfl,rfl,rfl,rfl,rfl,rfl,rfl,rfl⟩
theorem learn_known (s:SplitM) (hn:s.nmi=false):((learnS s).known&& !s.cpu.i)=askM s:=by
 unfold learnS mustM askM
 rw[hn]
 cases hI:s.cpu.i with
 |true=>simp
 |false=>
  cases hb:beatN s.knownAt s.T with
  |true=>simp[knowS]
  |false=>simp
theorem overN_zero {s:SplitM} {n:Int} (h:overN s n=0):s.T+n≤20000:=by
 unfold overN at h
 split at h
 ·omega
 ·omega
theorem stepS_P {s:SplitM} (h:SplitP s) (hw:waitM s=0):SplitP (stepS s)∧(stepS s).steps=s.steps+1∧(stepS s).reads.length≤s.reads.length+1∧s.T< (stepS s).T∧(stepS s).T≤s.T+7∧(stepS s).img=s.img∧(stepS s).pads=s.pads:=by
 have hL:=learnS_P h
 obtain ⟨e1,e2,e3,e4,e5,e6,e7,e8,e9,e10⟩:=learnS_same s
 have eop:opS (learnS s)=opS s:=by unfold opS;rw[e1,e2,e3]
 have earg:argS (learnS s)=argS s:=by unfold argS;rw[e1,e2,e3]
 have eadr:adrS (learnS s)=adrS s:=by unfold adrS;rw[eop,earg,e3]
 have key: ∃s' n,doneS (learnS s)=(s',n)∧SplitP s'∧2≤n∧n≤7∧s.T+n≤20000∧s'.T=s.T∧s'.steps=s.steps∧s'.reads.length≤s.reads.length+1∧s'.img=s.img∧s'.pads=s.pads:=by
  unfold waitM at hw
  unfold doneS
  rw[e7]
  cases hn:s.nmi with
  |true=>
   rw[hn,if_pos rfl]at hw
   rw[if_pos rfl]
   have h2:SplitP {learnS s with nmi:=false}:=⟨hL.mem,hL.pads,hL.cpu,hL.pic,hL.snd,hL.pad,hL.ctrl,hL.t,hL.known,hL.steps,hL.pt,hL.st,hL.pl,hL.sl⟩
   exact ⟨_,_,rfl,interS_P h2 _,by omega,by omega,overN_zero hw,e6,e8,by show (learnS s).reads.length≤_;rw[e9];omega,e1,e10⟩
  |false=>
   rw[hn,if_neg (by simp)]at hw
   rw[if_neg (by simp),e3,learn_known s hn]
   split at hw
   ·omega
   split at hw
   ·rename_i ha
    rw[ha,if_pos rfl]
    exact ⟨_,_,rfl,interS_P hL _,by omega,by omega,overN_zero hw,e6,e8,by show (learnS s).reads.length≤_;rw[e9];omega,e1,e10⟩
   ·rename_i ha
    rw[if_neg ha]
    split at hw
    ·omega
    split at hw
    ·omega
    split at hw
    ·omega
    rename_i h3
    split at hw
    ·omega
    rename_i h4
    have hc:=opCycN_b (opS s)
    have hr:ReadyP (learnS s):=⟨hL,fun a b=>by rw[eop]at a;rw[eadr]at b;rw[e4];rcases Int.lt_or_le (s.pic.list.length:Int) s.pic.cap with h5|h5;exact h5;exact absurd ⟨a,b,h5⟩ h3,
     fun a b=>by rw[eop]at a;rw[eadr]at b;rw[e5];rcases Int.lt_or_le (s.snd.list.length:Int) s.snd.cap with h5|h5;exact h5;exact absurd ⟨a,b,h5⟩ h4⟩
    obtain ⟨p,f⟩:=opDo_P hr
    exact ⟨_,_,rfl,p,by rw[eop];omega,by rw[eop];omega,by rw[eop];exact overN_zero hw,by rw[f.T,e6],by rw[f.steps,e8],by have:=f.reads;rw[e9]at this;exact this,by rw[f.img,e1],by rw[f.pads,e10]⟩
 obtain ⟨s',n,e,p,n1,n2,n3,t1,t2,t3,t4,t5⟩:=key
 unfold stepS
 rw[e]
 have k1:=h.t
 have k2:=h.steps
 obtain ⟨m,ps,c,pc,sd,d,ct,t,kn,st,pt,sdt,pl,sl⟩:=p
 rw[t1]at kn pt sdt pl sl
 refine ⟨⟨m,ps,c,pc,sd,d,ct,⟨by show 0≤s.T+n;omega,n3⟩,⟨kn.1,by show s'.knownAt≤s.T+n;omega⟩,⟨by show 0≤s'.steps+1;omega,by show s'.steps+1≤s.T+n;omega⟩,by show (s'.pic.ppu.1:Int)≤s.T+n;omega,by show (s'.snd.apu.1:Int)≤s.T+n;omega,
  fun x hx=>by have:=pl x hx;show x.1≤s.T+n;omega,fun x hx=>by have:=sl x hx;show x.1≤s.T+n;omega⟩,?_,t3,?_,?_,t4,t5⟩
 ·show s'.steps+1=s.steps+1;rw[t2]
 ·show s.T<s.T+n;omega
 ·show s.T+n≤s.T+7;omega
def pickM (s:SplitM) (who:Int):Option SplitM:=
 if who=0 then (if waitM s=0 then some (stepS s)else none)
 else if who=1 then (stepPic s.pic s.T).map fun p=>{s with pic:=p}else if who=2 then (stepSnd s.snd s.T).map fun p=>{s with snd:=p}else none
theorem pickM_P {s v:SplitM} {who:Int} (h:SplitP s) (hs:pickM s who=some v):SplitP v∧v.reads.length≤s.reads.length+1:=by
 unfold pickM at hs
 split at hs
 ·split at hs
  ·rename_i hw
   simp only[Option.some.injEq]at hs
   subst hs
   obtain ⟨a,_,b,_⟩:=stepS_P h hw
   exact ⟨a,b⟩
  ·cases hs
 split at hs
 ·cases hp:stepPic s.pic s.T with
  |none=>rw[hp]at hs;cases hs
  |some p=>
   rw[hp]at hs
   simp only[Option.map_some,Option.some.injEq]at hs
   subst hs
   obtain ⟨a,b,c,d⟩:=stepPic_P h.pic hp
   have:=h.pt
   obtain ⟨m,ps,cc,pc,sd,dd,ct,t,kn,st,pt,sdt,pl,sl⟩:=h
   exact ⟨⟨m,ps,cc,a,sd,dd,ct,t,kn,st,by show p.ppu.T≤s.T;rcases d with d|d<;>omega,sdt,fun x hx=>pl x (c x hx),sl⟩,Nat.le_succ _⟩
 split at hs
 ·cases hp:stepSnd s.snd s.T with
  |none=>rw[hp]at hs;cases hs
  |some p=>
   rw[hp]at hs
   simp only[Option.map_some,Option.some.injEq]at hs
   subst hs
   obtain ⟨a,b,c,d⟩:=stepSnd_P h.snd hp
   have:=h.st
   obtain ⟨m,ps,cc,pc,sd,dd,ct,t,kn,st,pt,sdt,pl,sl⟩:=h
   exact ⟨⟨m,ps,cc,pc,a,dd,ct,t,kn,st,pt,by show p.apu.T≤s.T;rcases d with d|d<;>omega,pl,fun x hx=>sl x (c x hx)⟩,Nat.le_succ _⟩
 ·cases hs
def levelM (s:SplitM):SplitM:={s with pic:=caughtPic s.pic s.T,snd:=caughtSnd s.snd s.T}
theorem levelM_P {s:SplitM} (h:SplitP s):SplitP (levelM s)∧stepPic (levelM s).pic s.T=none∧stepSnd (levelM s).snd s.T=none:=by
 have a:=caughtPic_ind (m:=s.T) (Q:=fun w=>w.ppu.T≤s.T∧ ∀x,x∈w.list→x.1≤s.T) (fun w v hw hq hs=>by
  obtain ⟨a,b,c,d⟩:=stepPic_P hw hs
  exact ⟨by have:=hq.1;rcases d with d|d<;>omega,fun x hx=>hq.2 x (c x hx)⟩) _ (Nat.le_refl _) h.pic ⟨h.pt,h.pl⟩
 have b:=caughtSnd_ind (m:=s.T) (Q:=fun w=>w.apu.T≤s.T∧ ∀x,x∈w.list→x.1≤s.T) (fun w v hw hq hs=>by
  obtain ⟨a,b,c,d⟩:=stepSnd_P hw hs
  exact ⟨by have:=hq.1;rcases d with d|d<;>omega,fun x hx=>hq.2 x (c x hx)⟩) _ (Nat.le_refl _) h.snd ⟨h.st,h.sl⟩
 obtain ⟨m,ps,cc,pc,sd,dd,ct,t,kn,st,pt,sdt,pl,sl⟩:=h
 exact ⟨⟨m,ps,cc,a.1,b.1,dd,ct,t,kn,st,a.2.1.1,b.2.1.1,a.2.1.2,b.2.1.2⟩,a.2.2,b.2.2⟩

end Go.Proofs.YtgpifihakjdfeaaGreat.Plain
