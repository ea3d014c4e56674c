/- An evaluator of Go functions on plain values and its soundness. No condition beyond those that each lemma states. -/
import Derived.Test.YtcbdldlphpjmbaaGreatDoorW4
import Derived.Deep.Matrix
import Derived.Deep.Strs
import Derived.ChangeSlices
import Derived.SizedLaws
import Derived.ProofKit
import Derived.ChangeOld
import Derived.Carry
import Derived.IntWalk
set_option linter.unusedSimpArgs false
set_option linter.unusedVariables false
namespace Go.Tev
def ZhY [Glb] (P:Program):List (Nat×Fn)→Prop
 | []=>True| (k,f)::r=>Zy P k f∧ZhY P r
theorem Qf [Glb] {P:Program}: ∀{l:List (Nat×Fn)},ZhY P l→ ∀g f,Z6 l g=some f→Zy P g f
 | [],_,g,f,h=>by cases h
 | (k,f')::r,hl,g,f,h=>by
  simp only[Z6]at h;cases e:Nat.beq g k with
  |true=>
   rw[e,Zb]at h;obtain rfl:=Nat.eq_of_beq_eq_true e;obtain rfl:=Option.some.inj h;exact hl.1
  |false=>
   rw[e,Zd]at h;exact Qf hl.2 g f h
def Zt [Glb] (P:Program) (nt:Nat) (E:ZH):List Code→Prop
 | []=>True|c::r=>(∀l,E.loops (UE c)=some l→ZP P nt c l)∧Zt P nt E r
theorem Zt.append [Glb] {P:Program} {nt:Nat} {E:ZH}: ∀{a b:List Code},Zt P nt E (a++b)→Zt P nt E a∧Zt P nt E b
 | [],_,h=>⟨trivial,h⟩
 |_::_,_,h=>⟨⟨h.1,(Zt.append h.2).1⟩,(Zt.append h.2).2⟩
theorem ZcA [Glb] {P:Program} {nt:Nat} {E:ZH}: ∀{c:Code},Zt P nt E (Kg c)→XT P nt E c:=by
 intro c;induction c with
 |seq a b iha ihb=>exact fun h=>⟨iha (Zt.append h).1,ihb (Zt.append h).2⟩
 |cond x a b iha ihb=>exact fun h=>⟨iha (Zt.append h).1,ihb (Zt.append h).2⟩
 |block i c ih=>exact fun h=>ih h
 |loop c ih=>exact fun h=>h.1
 |_=>intro _;trivial
theorem Zt.one [Glb] {P:Program} {nt:Nat} {E:ZH} {c:Code} {r:List Code} {l:ZJ} (h1:E.loops (UE c)=some l) (h:ZP P nt c l) (hr:Zt P nt E r):Zt P nt E (c::r):=
 ⟨fun l' h'=>by rw[h1]at h';obtain rfl:=Option.some.inj h';exact h,hr⟩
theorem Zt.of_list [Glb] {P:Program} {nt:Nat} {E:ZH} {c l:List Code} (h:c=l) (k:Zt P nt E l):Zt P nt E c:=h▸k
def Zfc (f:Func) (ins outs:List Ty):Bool:=
 Zea f&&(!(f.name== "runtime.NumGoroutine")&&(XO ins&&(XO outs&&(XF outs&&(Nat.ble ins.length 8&&(Nat.ble outs.length 8&&Nat.ble ins.length f.ntmps))))))
theorem Qk [Glb] {E:ZH} {P:Program} {g:FuncId} {f:Func} {ins outs:List Ty} {run:PTup ins→Option (PTup outs×BTup ins)} (hP:E.env.prog=P) (hE: ∀g f,E.env.fns g=some f→Zy P g f) (hm:P.follows .mixedOrders=true)
  (hg:P.funcs[g]? =some f) (hs:Zfc f ins outs=true) (hl:Zt P f.ntmps E (Kg (Zm f))) (hrun: ∀y,Z8 E f ins outs y=run y):Zy P g ⟨ins,outs,run, .nor⟩:=by
 subst hP;simp only[Zfc,Bool.and_eq_true,Bool.not_eq_true']at hs;obtain ⟨h0,h1,h2,h3,h4,h5,h6,h7⟩:=hs;cases hb:f.body with
 |none=>rw[Zea,hb]at h0;cases h0
 |some c=>
  rw[Zm,hb]at hl;exact Zq7 hE hm hg hb h1 (ZcA hl) h2 h3 h4 h5 h6 h7 fun y r h=>by rw[hrun,h]
def ZjW (f:Func) (ins outs:List Ty):Bool:=
 Zea f&&(!(f.name== "runtime.NumGoroutine")&&(XO ins&&(XO outs&&(Nat.ble ins.length 8&&(Nat.ble outs.length 8&&Nat.ble ins.length f.ntmps)))))
theorem ZrE [Glb] {E:ZH} {P:Program} {g:FuncId} {f:Func} {ins outs:List Ty} {run:PTup ins→Option (PTup outs×BTup ins)} (hP:E.env.prog=P) (hE: ∀g f,E.env.fns g=some f→Zy P g f) (hm:P.follows .mixedOrders=true)
  (hg:P.funcs[g]? =some f) (hs:ZjW f ins outs=true) (hl:Zt P f.ntmps E (Kg (Zm f))) (hrun: ∀y,Zr6 E f ins outs y=run y):Zy P g ⟨ins,outs,run, .lnt⟩:=by
 subst hP;simp only[ZjW,Bool.and_eq_true,Bool.not_eq_true']at hs;obtain ⟨h0,h1,h2,h3,h5,h6,h7⟩:=hs;cases hb:f.body with
 |none=>rw[Zea,hb]at h0;cases h0
 |some c=>
  rw[Zm,hb]at hl;exact Zq8 hE hm hg hb h1 (ZcA hl) h2 h3 h5 h6 h7 fun y r h=>by rw[hrun,h]
abbrev CK [Glb] (P:Program) (x:Nat×Fn):Prop:=Zy P x.1 x.2
theorem fn0 [Glb] {E:ZH} {P:Program} {g:FuncId} {f:Func} {ins outs:List Ty} {run:PTup ins→Option (PTup outs×BTup ins)} (hrun: ∀y,Z8 E f ins outs y=run y) (hE: ∀g f,E.env.fns g=some f→Zy P g f) (hP:E.env.prog=P) (hm:P.follows .mixedOrders=true)
  (hg:P.funcs[g]? =some f) (hs:Zfc f ins outs=true) (hl:Kg (Zm f)=[]):Zy P g ⟨ins,outs,run, .nor⟩:=Qk hP hE hm hg hs (Zt.of_list (l:=[]) hl trivial) hrun
def ZjX (f:Func) (ins:List Ty) (ts:List LT):Bool:=
 Zea f&&(!(f.name== "runtime.NumGoroutine")&&(XO ins&&(Nat.ble ts.length 63&&(VX ts&&(Nat.ble ins.length 8&&Nat.ble ins.length f.ntmps)))))
theorem ZrF [Glb] {E:ZH} {P:Program} {g:FuncId} {f:Func} {ins:List Ty} {ts:List LT} {run:PTup ins→Option (PTup [.a ts, .v .bool]×BTup ins)} (hP:E.env.prog=P) (hE: ∀g f,E.env.fns g=some f→Zy P g f) (hm:P.follows .mixedOrders=true)
  (hg:P.funcs[g]? =some f) (hs:ZjX f ins ts=true) (hl:Zt P f.ntmps E (Kg (Zm f))) (hrun: ∀y,Zr7 E f ins ts y=run y):Zy P g ⟨ins,[.a ts, .v .bool],run, .may⟩:=by
 subst hP;simp only[ZjX,Bool.and_eq_true,Bool.not_eq_true']at hs;obtain ⟨h0,h1,h2,h3,h4,h5,h6⟩:=hs;cases hb:f.body with
 |none=>rw[Zea,hb]at h0;cases h0
 |some c=>
  rw[Zm,hb]at hl;exact Zra hE hm hg hb h1 (ZcA hl) h2 h3 h4 h5 h6 fun y r h=>by rw[hrun,h]
@[irreducible] def fuel : Nat := 2 ^ 100
theorem ZZ:2^64<fuel:=by unfold fuel;decide
theorem Z0 [Glb] {E:ZH} {P:Program} {c:Code} {l:ZJ} {nt:Nat} (hP:E.env.prog=P) (hE: ∀g f,E.env.fns g=some f→Zy P g f) (hm:P.follows .mixedOrders=true) (hl:Zt P nt E (Kg c))
  (nn:Nat→PTup l.cty→PTup l.bty→PTup l.vty→Option (Sum (PTup l.vty) (PTup l.rty)×BTup l.bty)) (h0: ∀x y z,nn 0 x y z=none) (hS: ∀n x y z,ZX E c l nt (fun y z=>nn n x y z) x y z=nn (n+1) x y z) (hr:l.run=nn fuel):ZP P nt c l:=by
 subst hP;refine ZqU hE hm (ZcA hl) fun x y z r h=>⟨fuel,?_⟩;have key: ∀n x y z,ZnM E c l nt n x y z=nn n x y z:=by
  intro n;induction n with
  |zero=>intro x y z;rw[h0];rfl
  |succ n ih=>intro x y z;rw[←hS];simp only[ZnM];congr 1;funext y z;exact ih x y z
 rw[key,←hr];exact h
section
open Go.ChangeShapes Go.WideShapes Go.Deep
def Zrh (n:Int):Prop:= -9223372036854775808≤n∧n≤9223372036854775807
def wfE:(e:E)→e.C→Prop
 | .i,(n:Int)=>Zrh n
 | .b,(n:Int)=>0≤n∧n≤255
 | .s,(s:ByteArray)=>s.size≤maxLen
 | .o,_=>True
 | .t,(x:Int×Int×Int)=>Zrh x.1∧Zrh x.2.1∧Zrh x.2.2
 | .n,(l:List Int)=>l.length≤maxLen∧ ∀n,n∈l→Zrh n
def wfL:(t:LT)→t.D→Prop
 | .int k,(n:Int)=>(Lit.int k n).wf=true
 | .bool,_=>True
 | .str,(s:ByteArray)=>s.size≤maxLen
 | .fn _,_=>True
 | .mb _,_=>True
 | .sl _ e,(l:List e.C)=>l.length≤maxLen∧ ∀x,x∈l→wfE e x
def Xx:(ts:List LT)→Tup ts→Prop
 | [],_=>True|t::ts,x=>wfL t x.1∧Xx ts x.2
def wfT:(t:Ty)→t.D→Prop
 | .v t,x=>wfL t x| .a ts,x=>Xx ts x| .p ts,x=>Xx ts x| .r ts,x=>Xx ts x
def ZsD:(ts:List Ty)→PTup ts→Prop
 | [],_=>True|t::ts,x=>wfT t x.1∧ZsD ts x.2
theorem ZfH {n:Int} (h:(Lit.int .i64 n).wf=true):Zrh n:=by
 have:(decide (IntKind.i64.min≤n)&&decide (n≤IntKind.i64.max))=true:=h;simp only[Bool.and_eq_true,decide_eq_true_eq]at this;exact this
theorem ZrZ {n:Int} (h:(Lit.int .u8 n).wf=true):0≤n∧n≤255:=by
 have:(decide (IntKind.u8.min≤n)&&decide (n≤IntKind.u8.max))=true:=h;simp only[Bool.and_eq_true,decide_eq_true_eq]at this;exact this
def ZfB (g:TypeId→Option (List LT)) (P:Program) (t:TypeId):List Field→Nat→Option (List LT)
 | [],off=>bif Nat.beq off (P.cellsOf t)then some []else none
 |f::r,off=>bif Nat.beq f.offset off then (match g f.type,ZfB g P t r (off+P.cellsOf f.type)with
  |some a,some b=>bif Nat.beq a.length (P.cellsOf f.type)then some (a++b)else none
  |_,_=>none)else none
def Zsv:Option (List LT)→Bool|some [.int .i64, .int .i64, .int .i64]=>true|_=>false
def Vw (P:Program):Nat→TypeId→Option (List LT)
 |0,_=>none
 |n+1,t=>match P.underlying t with
  |some (.int k)=>some [.int k]
  |some .bool=>some [.bool]
  |some .string=>some [.str]
  |some (.slice e)=>(match Xo P t with
   |some .i=>some [.sl false .i]
   |some .b=>some [.sl false .b]
   |some .s=>some [.sl false .s]
   |some .n=>bif Nat.beq (P.cellsOf (P.elem e)) 1 then some [.sl false .n]else none
   |some .t=>bif Zsv (Vw P n e)then some [.sl false .t]else none
   |_=>none)
  |some (.struct fs)=>ZfB (Vw P n) P t fs.toList 0
  |_=>none
def tyT (P:Program) (t:TypeId):Option Ty:=
 match P.underlying t with
 |some (.struct _)=>(match Vw P 20 t with|some ts=>some (.a ts)|none=>none)
 |_=>(match Vw P 20 t with|some [t]=>some (.v t)|_=>none)
def ZrY (P:Program):List TypeId→Option (List Ty)
 | []=>some []|t::r=>match tyT P t,ZrY P r with|some a,some b=>some (a::b)|_,_=>none
def Xz (ps:List MemPlace) (b:Nat):Prop:= ∃x,x∈ps∧x.block=b
def Yc (a:Addr):Option (Nat×Nat):=match a.spot with|none=>some (a.block,a.off)|some _=>none
theorem Zgi (a:Addr):pt (Yc a) (some a)=some a:=by
 unfold Yc;cases h:a.spot with
 |none=>simp only[pt,adr];congr 1;cases a;simp_all
 |some s=>rfl
theorem Wc {a:Addr} {b o:Nat} (h:Yc a=some (b,o)):a=adr (b,o):=by
 unfold Yc at h;cases hs:a.spot with
 |none=>rw[hs]at h;cases h;cases a;simp_all [adr]
 |some s=>rw[hs]at h;cases h
theorem ZdB {a:Addr} (h:Yc a=none):Vl (some a):=by
 unfold Yc at h;cases hs:a.spot with
 |none=>rw[hs]at h;cases h
 |some s=>exact .inr ⟨a,rfl,by rw[hs];rfl⟩
theorem Zfn {w:World} {a:Addr} {cap:Nat} {v:Value} (h:Yc a=none) (hc:0<cap→w.cell? (a.add 0)=some v):cap=0:=by
 rcases Nat.eq_zero_or_pos cap with h0|h0
 ·exact h0
 ·have:=hc h0;unfold Yc at h;cases hs:a.spot with
  |none=>rw[hs]at h;cases h
  |some s=>
   unfold World.cell? at this;simp only[Addr.add,if_true,hs,Option.isSome_some]at this;split at this<;>cases this
theorem Zf9 {a:Addr} {n i:Nat} (h:i<n):(.cell a.block (a.off+i))∈MemPlace.row a n:=by
 simp only[MemPlace.row,List.mem_map,List.mem_range];exact ⟨i,h,rfl⟩
section
variable {H:Type} {enc:TypeId×Value→H} {P:Program} {w:World} {held:Bool}
theorem ZhG [Glb] {t e:TypeId} {k:IntKind} {ek:E} {fuel:Nat} {cs:List Value} {x:DataW H×List MemPlace} (ht:P.underlying t=some (.slice e)) (he:P.underlying e=some (.int k)) (hc:P.cellsOf e=1)
  (hk:(ek= .i∧k= .i64)∨(ek= .b∧k= .u8)) (h:DataW.trod enc P w 0 (fun _=>true) held fuel t cs=some x):
  ∃v,cs=[v]∧ ∃l:List ek.C,Z1 w (.sl false ek) l v ZC (Xz x.2)∧wfL (.sl false ek) l:=by
 rcases open_ints ht he hc h with ⟨rfl,_⟩| ⟨a,len,cap,zs,rfl,_,hl,hm,hz,hx,hcell,hw⟩
 ·refine ⟨_,rfl,[],⟨none,0,⟨fun _=>⟨none,0,0,none⟩,none⟩,rfl,Uh w false ek,fun b hb=> ?_⟩,Nat.zero_le _,fun _ h=>by cases h⟩;rcases hb with ⟨h,_⟩| ⟨_,i,h,_⟩<;>cases h
 ·simp only[if_true]at hz;have hlt:(zs.take len).length=len:=by rw[List.length_take];omega
  have hn:Yc a=none→cap=0:=fun h=>Zfn h (fun h0=>hcell 0 (by omega));have key: ∃l:List ek.C,l.length=len∧(∀i,(h:i<l.length)→ ∀j,j<ek.sz→w.cell? (a.add (i*ek.sz+j))=some (elV ek l[i] ⟨none,0,0,none⟩ j))∧ek.sz=1∧ek≠ .n∧ ∀x,x∈l→wfE ek x:=by
   rcases hk with ⟨rfl,rfl⟩| ⟨rfl,rfl⟩
   ·refine ⟨zs.take len,hlt,fun i hi j hj=> ?_,rfl,(by simp),fun x hx=>ZfH (hw x (List.mem_of_mem_take hx))⟩;obtain rfl:j=0:=by simp[E.sz]at hj;exact hj
    have hi':i<len:=by rw[←hlt];exact hi
    have:=hcell i (by omega);simp only[E.sz,Nat.mul_one,Nat.add_zero,elV];rw[this];simp[List.getD,show i<zs.length by omega]
   ·refine ⟨zs.take len,hlt,fun i hi j hj=> ?_,rfl,(by simp),fun x hx=>ZrZ (hw x (List.mem_of_mem_take hx))⟩;obtain rfl:j=0:=by simp[E.sz]at hj;exact hj
    have hi':i<len:=by rw[←hlt];exact hi
    have:=hcell i (by omega);simp only[E.sz,Nat.mul_one,Nat.add_zero,elV];rw[this];simp[List.getD,show i<zs.length by omega]
  obtain ⟨l,h1,h2,h3,h4,h5⟩:=key;refine ⟨_,rfl,l,⟨Yc a,cap,⟨fun _=>⟨none,0,0,none⟩,some a⟩,?_,⟨by omega,fun h=>⟨hn h,ZdB h⟩,fun b o ea=>⟨fun i hi j hj=> ?_,fun h=>by cases h⟩,?_⟩,fun b hb=> ?_⟩,by rw[h1];omega,h5⟩
  ·simp only[slV,Zgi,h1]
  ·have:=h2 i hi j hj;rw[Wc ea,XU]at this;rw[Nat.add_assoc];exact this
  ·cases ek<;>first|trivial|exact absurd rfl h4
  ·rcases hb with ⟨hp,o,ea⟩| ⟨en,_⟩
   ·refine ⟨.cell a.block (a.off+0),?_,by rw[Wc ea];rfl⟩;rw[hx];exact Zf9 (by omega)
   ·exact absurd en h4
theorem ZmE [Glb] {t e:TypeId} {fuel:Nat} {cs:List Value} {x:DataW H×List MemPlace} (ht:P.underlying t=some (.slice e)) (he:P.underlying e=some .string) (hc:P.cellsOf e=1)
  (h:DataW.trod enc P w 0 (fun _=>true) held fuel t cs=some x):
  ∃v,cs=[v]∧ ∃l:List ByteArray,Z1 w (.sl false .s) l v ZC (Xz x.2)∧wfL (.sl false .s) l:=by
 rcases open_strs ht he hc h with ⟨rfl,_⟩| ⟨a,len,cap,m,Sx,rfl,_,hl,hm,hmm,hx,hcell⟩
 ·refine ⟨_,rfl,[],⟨none,0,⟨fun _=>⟨none,0,0,none⟩,none⟩,rfl,Uh w false .s,fun b hb=> ?_⟩,Nat.zero_le _,fun _ h=>by cases h⟩;rcases hb with ⟨h,_⟩| ⟨_,i,h,_⟩<;>cases h
 ·simp only[if_true]at hmm;subst hmm;have hn:Yc a=none→m=0:=fun h=>Zfn h (fun h0=>(hcell 0 h0).1);have hlen:(List.map Sx (List.range len)).length=len:=by simp
  refine ⟨_,rfl,(List.range len).map Sx,⟨Yc a,m,⟨fun _=>⟨none,0,0,none⟩,some a⟩,?_,⟨by rw[hlen];exact hl,fun h=>⟨hn h,ZdB h⟩,fun b o ea=>⟨fun i hi j hj=> ?_,fun h=>by cases h⟩,trivial⟩,fun b hb=> ?_⟩,by rw[hlen];omega,fun x hx=> ?_⟩
  ·simp only[slV,Zgi];rw[show (List.map Sx (List.range len)).length=len from hlen]
  ·obtain rfl:j=0:=by simp[E.sz]at hj;exact hj
   have hi':i<len:=by rw[←hlen];exact hi
   have:=(hcell i (by omega)).1;rw[Wc ea,XU]at this;simp only[E.sz,Nat.mul_one,Nat.add_zero,elV];rw[this];simp
  ·rcases hb with ⟨hp,o,ea⟩| ⟨en,_⟩
   ·refine ⟨.cell a.block (a.off+0),?_,by rw[Wc ea];rfl⟩;rw[hx];rw[hlen]at hp;exact Zf9 (by omega)
   ·cases en
  ·simp only[List.mem_map,List.mem_range]at hx;obtain ⟨i,hi,rfl⟩:=hx;exact (hcell i (by omega)).2
theorem ZmD [Glb] {t e q:TypeId} {fuel:Nat} {cs:List Value} {x:DataW H×List MemPlace} (ht:P.underlying t=some (.slice e)) (he:P.underlying e=some (.slice q)) (hq:P.underlying q=some (.int .i64))
  (ce:P.cellsOf e=1) (cq:P.cellsOf q=1) (h:DataW.trod enc P w 0 (fun _=>true) held fuel t cs=some x):
  ∃v,cs=[v]∧ ∃l:List (List Int),Z1 w (.sl false .n) l v ZC (Xz x.2)∧wfL (.sl false .n) l:=by
 rcases open_int_rows ht he hq ce cq h with ⟨rfl,_⟩| ⟨a,len,cap,A,Ln,C,Z,rfl,_,hl,hm,hx,hr⟩
 ·refine ⟨_,rfl,[],⟨none,0,⟨fun _=>⟨none,0,0,none⟩,none⟩,rfl,Uh w false .n,fun b hb=> ?_⟩,Nat.zero_le _,fun _ h=>by cases h⟩;rcases hb with ⟨h,_⟩| ⟨_,i,h,_⟩<;>cases h
 ·have hn:Yc a=none→cap=0:=fun h=>Zfn h (fun h0=>(hr 0 h0).1);have hlen:(List.map (fun r=>(Z r).take (Ln r)) (List.range len)).length=len:=by simp
  have hzl: ∀r,r<cap→((Z r).take (Ln r)).length=Ln r:=fun r h=>by
   obtain ⟨_,h1,_,h2,_⟩:=hr r h;rw[List.length_take];omega
  let ip:Nat→IP:=fun r=>⟨(A r).bind Yc,C r,Ln r,A r⟩
  have hptq: ∀r,pt ((A r).bind Yc) (A r)=A r:=fun r=>by
   cases hA:A r with
   |none=>rfl
   |some a'=>exact Zgi a'
  have hA': ∀r b o,(A r).bind Yc=some (b,o)→A r=some (adr (b,o)):=fun r b o h=>by
   cases hA:A r with
   |none=>rw[hA]at h;cases h
   |some a'=>rw[hA]at h;rw[Wc h]
  have hnr: ∀r,r<cap→(A r).bind Yc=none→C r=0∧Vl (A r):=fun r hrc h=>by
   obtain ⟨_,_,_,h2,_,h3,h4⟩:=hr r hrc;cases hA:A r with
   |none=>exact ⟨h3 hA, .inl rfl⟩
   |some a'=>
    rw[hA]at h;exact ⟨Zfn h fun h0=>(h4 a' hA).2 0 h0,ZdB h⟩
  refine ⟨_,rfl,(List.range len).map fun r=>(Z r).take (Ln r),⟨Yc a,cap,⟨ip,some a⟩,?_,⟨by rw[hlen];exact hl,fun h=>⟨hn h,ZdB h⟩,fun b o ea=>⟨fun i hi j hj=> ?_,fun h=>by cases h⟩,?_⟩,fun b hb=> ?_⟩,by rw[hlen];omega,fun x hx=> ?_⟩
  ·simp only[slV,Zgi];rw[show (List.map (fun r=>(Z r).take (Ln r)) (List.range len)).length=len from hlen]
  ·obtain rfl:j=0:=by simp[E.sz]at hj;exact hj
   have hi':i<len:=by rw[←hlen];exact hi
   have:=(hr i (by omega)).1;rw[Wc ea,XU]at this;simp only[E.sz,Nat.mul_one,Nat.add_zero,elV,slV];rw[this];show _=some (Value.slice (pt ((A i).bind Yc) (A i)) (Ln i) (C i));rw[hptq]
  ·refine ⟨fun i hi=> ?_,fun h=>by cases h⟩;have hi':i<len:=by rw[←hlen];exact hi
   obtain ⟨_,h1,h2,h3,h4,h5,h6⟩:=hr i (by omega);have hz:=hzl i (by omega);refine ⟨?_,?_,fun h=>hnr i (by omega) h,fun b o ea=>⟨fun j hj=> ?_,fun h=>by cases h⟩⟩
   ·simp only[List.getElem_map,List.getElem_range];exact hz.symm
   ·simp only[List.getElem_map,List.getElem_range,hz];exact h1
   have ha:=hA' i b o ea;have hj':j<Ln i:=by rw[←hz];simpa using hj
   have:=(h6 _ ha).2 j (by omega);rw[XU]at this;rw[this];simp[List.getD,show j< (Z i).length by omega]
  ·rw[hx];rcases hb with ⟨hp,o,ea⟩| ⟨_,i,hi,hp,o,ea⟩
   ·refine ⟨.cell a.block (a.off+0),?_,by rw[Wc ea];rfl⟩;rw[hlen]at hp;exact List.mem_append_left _ (Zf9 (by omega))
   ·have hi':i<len:=by rw[←hlen];exact hi
    have ha:=hA' i b o ea;obtain ⟨_,h1,h2,h3,h4,h5,h6⟩:=hr i (by omega);have hp:0<Ln i:=hp;refine ⟨.cell b (o+0),List.mem_append_right _ (List.mem_flatMap.2 ⟨i,List.mem_range.2 (by omega),?_⟩),rfl⟩;simp only[intRowPlaces,ha];exact Zf9 (a:=adr (b,o)) (by omega)
  ·simp only[List.mem_map,List.mem_range]at hx;obtain ⟨i,hi,rfl⟩:=hx;obtain ⟨_,h1,h2,h3,h4,_⟩:=hr i (by omega);exact ⟨by rw[hzl i (by omega)];omega,fun n hn=>ZfH (h4 n (List.mem_of_mem_take hn))⟩
end
end
section
open Go.ChangeShapes Go.WideShapes Go.Deep
theorem ZqC {P:Program} {e:TypeId} (h:KA P e=some .i):P.underlying e=some (.int .i64):=by
 unfold KA at h;split at h<;>first|assumption| (cases h;done)| (split at h<;>cases h)
theorem ZqB {P:Program} {e:TypeId} (h:KA P e=some .b):P.underlying e=some (.int .u8):=by
 unfold KA at h;split at h<;>first|assumption| (cases h;done)| (split at h<;>cases h)
theorem ZqE {P:Program} {e:TypeId} (h:KA P e=some .s):P.underlying e=some .string:=by
 unfold KA at h;split at h<;>first|assumption| (cases h;done)| (split at h<;>cases h)
theorem ZqD {P:Program} {e:TypeId} (h:KA P e=some .n): ∃q,P.underlying e=some (.slice q)∧P.underlying q=some (.int .i64):=by
 unfold KA at h;split at h<;>first| (cases h;done)| (rename_i q hq;split at h<;>first| (cases h;done)|exact ⟨q,hq,by assumption⟩)
def Zr1:(a:List LT)→{b:List LT}→Tup a→Tup b→Tup (a++b)
 | [],_,_,y=>y|_::a,_,x,y=>(x.1,Zr1 a x.2 y)
theorem Z9.cat [Glb] {w:World} {L:Nat→Prop}: ∀{a b:List LT} {x:Tup a} {y:Tup b} {vs us:List Value},Z9 w a x vs ZC L→Z9 w b y us ZC L→Z9 w (a++b) (Zr1 a x y) (vs++us) ZC L
 | [],_,_,_,[],_,_,k=>k
 | [],_,_,_,_::_,_,h,_=>h.elim
 |_::_,_,_,_,[],_,h,_=>h.elim
 |_::a,b,x,y,v::vs,us,⟨S1,S2,h1,h2,h3,h4,h5⟩,k=>
  ⟨ZC,ZC,h1.mono h4 (fun _ h=>h),Z9.cat (a:=a) (h2.mono h5 (fun _ h=>h)) k,(fun _ _ h=>h.elim),(fun _ _ h=>h),(fun _ _ h=>h)⟩
theorem Xx.cat: ∀{a b:List LT} {x:Tup a} {y:Tup b},Xx a x→Xx b y→Xx (a++b) (Zr1 a x y)
 | [],_,_,_,_,k=>k
 |_::a,b,x,y,h,k=>⟨h.1,Xx.cat (a:=a) h.2 k⟩
theorem Z9.one {w:World} {t:LT} {x:t.D} {v:Value} {L:Nat→Prop} (h:Z1 w t x v ZC L):Z9 w [t] (x,()) [v] ZC L:=
 ⟨ZC,ZC,h,trivial,(fun _ _ h=>h.elim),(fun _ _ h=>h),(fun _ _ h=>h)⟩
section
variable {H:Type} {enc:TypeId×Value→H} {P:Program} {w:World} {held:Bool}
theorem ZnY [Glb] {t e:TypeId} {fuel:Nat} {cs:List Value} {x:DataW H×List MemPlace} (ht:P.underlying t=some (.slice e)) (hc:P.cellsOf e=3)
  (ih: ∀(fuel:Nat) (cs:List Value) (x:DataW H×List MemPlace),DataW.trod enc P w 0 (fun _=>true) held fuel e cs=some x→ ∃y:Tup [.int .i64, .int .i64, .int .i64],Z9 w [.int .i64, .int .i64, .int .i64] y cs ZC (Xz x.2)∧Xx [.int .i64, .int .i64, .int .i64] y)
  (h:DataW.trod enc P w 0 (fun _=>true) held fuel t cs=some x):
  ∃v,cs=[v]∧ ∃l:List (Int×Int×Int),Z1 w (.sl false .t) l v ZC (Xz x.2)∧wfL (.sl false .t) l:=by
 rcases open_slice ht h with ⟨rfl,_⟩| ⟨a,len,cap,m,n,D,Pl,rfl,_,hl,hm,hmm,hx,hel⟩
 ·refine ⟨_,rfl,[],⟨none,0,⟨fun _=>⟨none,0,0,none⟩,none⟩,rfl,Uh w false .t,fun b hb=> ?_⟩,Nat.zero_le _,fun _ h=>by cases h⟩;rcases hb with ⟨h,_⟩| ⟨_,i,h,_⟩<;>cases h
 ·simp only[if_true]at hmm;subst hmm;rw[hc]at hel hx;have each: ∀i,i<m→ ∃z:Int×Int×Int,w.cell? (a.add (i*3))=some (.int .i64 z.1)∧w.cell? (a.add (i*3+1))=some (.int .i64 z.2.1)∧w.cell? (a.add (i*3+2))=some (.int .i64 z.2.2)∧wfE .t z:=by
   intro i hi;obtain ⟨cs',h1,h2⟩:=hel i hi;obtain ⟨y,hy,hw⟩:=ih _ _ _ h2;obtain ⟨_,hlen,hcell⟩:=World.cells?_some h1;obtain ⟨y0,y1,y2,u⟩:=y
   match cs',hlen with
   | [c0,c1,c2],_=>
    obtain ⟨_,_,r0,⟨_,_,r1,⟨_,_,r2,_⟩,_⟩,_⟩:=hy;have r0:c0= .int .i64 y0:=r0;have r1:c1= .int .i64 y1:=r1;have r2:c2= .int .i64 y2:=r2;subst r0 r1 r2;have g0:=hcell 0 (by omega);have g1:=hcell 1 (by omega);have g2:=hcell 2 (by omega);rw[add_add]at g0 g1 g2;exact ⟨(y0,y1,y2),g0,g1,g2,ZfH hw.1,ZfH hw.2.1,ZfH hw.2.2.1⟩
  obtain ⟨Z,hZ⟩:=choose_lt each;have hn:Yc a=none→m=0:=fun h=>Zfn h (fun h0=>by simpa using (hZ 0 h0).1);have hlen:(List.map Z (List.range len)).length=len:=by simp
  refine ⟨_,rfl,(List.range len).map Z,⟨Yc a,m,⟨fun _=>⟨none,0,0,none⟩,some a⟩,?_,⟨by rw[hlen];exact hl,fun h=>⟨hn h,ZdB h⟩,fun b o ea=>⟨fun i hi j hj=> ?_,fun h=>by cases h⟩,trivial⟩,fun b hb=> ?_⟩,by rw[hlen];omega,fun x hx=> ?_⟩
  ·simp only[slV,Zgi];rw[show (List.map Z (List.range len)).length=len from hlen]
  ·have hi':i<len:=by rw[←hlen];exact hi
   obtain ⟨g0,g1,g2,_⟩:=hZ i (by omega);rw[Wc ea,XU]at g0 g1 g2;simp only[E.sz]at hj⊢
   match j,hj with
   |0,_=>simp only[Nat.add_zero,elV];rw[g0];simp
   |1,_=>simp only[elV,Nat.add_assoc];rw[g1];simp
   |2,_=>simp only[elV,Nat.add_assoc];rw[g2];simp
  ·rcases hb with ⟨hp,o,ea⟩| ⟨en,_⟩
   ·refine ⟨.cell a.block (a.off+0),?_,by rw[Wc ea];rfl⟩;rw[hlen]at hp;rw[hx];exact List.mem_append_left _ (Zf9 (by omega))
   ·cases en
  ·simp only[List.mem_map,List.mem_range]at hx;obtain ⟨i,hi,rfl⟩:=hx;exact (hZ i (by omega)).2.2.2
theorem Zge [Glb] {g:TypeId→Option (List LT)} {t:TypeId} {n:Nat} {cs:List Value} (hl:cs.length=P.cellsOf t)
  (ih: ∀(u:TypeId) (ts:List LT),g u=some ts→ ∀(cs:List Value) (x:DataW H×List MemPlace),DataW.trod enc P w 0 (fun _=>true) held n u cs=some x→ ∃y:Tup ts,Z9 w ts y cs ZC (Xz x.2)∧Xx ts y):
  ∀(fl:List Field) (off:Nat) (ts:List LT) (xs:List (DataW H×List MemPlace)),ZfB g P t fl off=some ts→xs.length=fl.length→
   (∀(i:Nat) (f:Field),fl[i]? =some f→DataW.trod enc P w 0 (fun _=>true) held n f.type ((cs.drop f.offset).take (P.cellsOf f.type))=xs[i]?)→
   ∃y:Tup ts,Z9 w ts y (cs.drop off) ZC (Xz (xs.flatMap (·.2)))∧Xx ts y
 | [],off,ts,xs,h,hx,_=>by
  simp only[ZfB]at h;cases hb:Nat.beq off (P.cellsOf t)with
  |false=>rw[hb]at h;cases h
  |true=>
   rw[hb,Zb,Zg]at h;subst h;have:=Nat.eq_of_beq_eq_true hb;rw[List.drop_eq_nil_of_le (by omega)];exact ⟨(),trivial,trivial⟩
 |f::fl,off,ts,xs,h,hx,hf=>by
  simp only[ZfB]at h;cases hb:Nat.beq f.offset off with
  |false=>rw[hb]at h;cases h
  |true=>
   rw[hb,Zb]at h;obtain rfl:=Nat.eq_of_beq_eq_true hb;split at h
   ·rename_i a b ha hbb;cases hb2:Nat.beq a.length (P.cellsOf f.type)with
    |false=>rw[hb2]at h;cases h
    |true=>
     rw[hb2,Zb,Zg]at h;subst h;cases xs with
     |nil=>simp at hx
     |cons x0 xs=>
      have h0:=hf 0 f rfl;simp only[List.getElem?_cons_zero]at h0;obtain ⟨y1,r1,w1⟩:=ih _ _ ha _ _ h0;obtain ⟨y2,r2,w2⟩:=Zge hl ih fl _ _ xs hbb (by simpa using hx) (fun i f' hf'=>by simpa using hf (i+1) f' (by simpa using hf'));refine ⟨Zr1 a y1 y2,?_,Xx.cat w1 w2⟩;have e:cs.drop f.offset=(cs.drop f.offset).take (P.cellsOf f.type)++cs.drop (f.offset+P.cellsOf f.type):=by
       rw[←List.drop_drop,List.take_append_drop]
      rw[e];refine Z9.cat (r1.mono (fun _ _ h=>h) fun b ⟨z,hz,hb⟩=>⟨z,by simp[hz],hb⟩) (r2.mono (fun _ _ h=>h) fun b ⟨z,hz,hb⟩=>⟨z,?_,hb⟩);simp only[List.flatMap_cons,List.mem_append];exact .inr hz
   ·cases h
theorem ZbG [Glb]: ∀(n:Nat) (t:TypeId) (ts:List LT),Vw P n t=some ts→ ∀(fuel:Nat) (cs:List Value) (x:DataW H×List MemPlace),DataW.trod enc P w 0 (fun _=>true) held fuel t cs=some x→
  ∃y:Tup ts,Z9 w ts y cs ZC (Xz x.2)∧Xx ts y
 |0,_,_,h,_,_,_,_=>by cases h
 |n+1,t,ts,h,fuel,cs,x,hx=>by
  simp only[Vw]at h;have one: ∀{lt:LT},(∃v,cs=[v]∧ ∃l:lt.D,Z1 w lt l v ZC (Xz x.2)∧wfL lt l)→ ∃y:Tup [lt],Z9 w [lt] y cs ZC (Xz x.2)∧Xx [lt] y:=by
   rintro lt ⟨v,rfl,l,h1,h2⟩;exact ⟨(l,()),Z9.one h1,h2,trivial⟩
  split at h
  ·rename_i k hu;simp only[Zg]at h;subst h;obtain ⟨m,rfl,_,hw⟩:=DataW.trod_int hu hx;exact one ⟨_,rfl,m,rfl,hw⟩
  ·rename_i hu;simp only[Zg]at h;subst h;obtain ⟨b,rfl,_⟩:=DataW.trod_bool hu hx;exact one ⟨_,rfl,b,rfl,trivial⟩
  ·rename_i hu;simp only[Zg]at h;subst h;obtain ⟨s,rfl,_,hw⟩:=DataW.trod_string hu hx;exact one ⟨_,rfl,s,rfl,hw⟩
  ·rename_i e hu;have key: ∀{ek:E},Xo P t=some ek→P.cellsOf e=ek.sz∧KA P e=some ek:=fun {ek} he=>by
    obtain ⟨et,i,h1,h2,h3,_,_,h4⟩:=Vr he;rw[hu]at h1;simp only[Zg,TypeDesc.slice.injEq]at h1;subst h1;exact ⟨by simp[Program.cellsOf,h2,h3],h4⟩
   split at h
   ·rename_i he;obtain ⟨k1,k2⟩:=key he;simp only[Zg]at h;subst h;exact one (ZhG (ek:= .i) hu (ZqC k2) k1 (.inl ⟨rfl,rfl⟩) hx)
   ·rename_i he;obtain ⟨k1,k2⟩:=key he;simp only[Zg]at h;subst h;exact one (ZhG (ek:= .b) hu (ZqB k2) k1 (.inr ⟨rfl,rfl⟩) hx)
   ·rename_i he;obtain ⟨k1,k2⟩:=key he;simp only[Zg]at h;subst h;exact one (ZmE hu (ZqE k2) k1 hx)
   ·rename_i he;obtain ⟨k1,k2⟩:=key he;obtain ⟨q,hq1,hq2⟩:=ZqD k2;cases hb:Nat.beq (P.cellsOf (P.elem e)) 1 with
    |false=>rw[hb]at h;cases h
    |true=>
    rw[hb,Zb,Zg]at h;subst h;have kq:P.cellsOf q=1:=by
     have:P.elem e=q:=by simp[Program.elem,hq1]
     rw[this]at hb;exact Nat.eq_of_beq_eq_true hb
    exact one (ZmD hu hq1 hq2 k1 kq hx)
   ·rename_i he;obtain ⟨k1,k2⟩:=key he;cases hb:Zsv (Vw P n e)with
    |false=>rw[hb]at h;cases h
    |true=>
     rw[hb,Zb,Zg]at h;subst h;have hr:Vw P n e=some [.int .i64, .int .i64, .int .i64]:=by
      unfold Zsv at hb;split at hb
      ·assumption
      ·cases hb
     exact one (ZnY hu k1 (fun fuel cs x=>ZbG n e _ hr fuel cs x) hx)
   ·cases h
  ·rename_i fs hu;obtain ⟨xs,m,rfl,rfl,hl,hlen,hf⟩:=DataW.trod_struct hu hx;have:=Zge (g:=Vw P n) (n:=m) hl (fun u ts hg cs x hh=>ZbG n u ts hg m cs x hh) fs.toList 0 ts xs h (by simpa using hlen) (fun i f hi=>hf i f (by simpa using hi));simpa using this
  ·cases h
theorem ZqX [Glb] {r:Reach} {base:Nat} {t:TypeId} {ty:Ty} {v:Value} {d:DataW H} {ps:List MemPlace} (ht:tyT P t=some ty) (hv:Value.okWide P w r base t v) (h:DataW.Trod enc P w 0 (fun _=>true) held t v d ps):
  ∃y:ty.D,KU w ty y v ZC (Xz ps)∧wfT ty y:=by
 obtain ⟨fuel,h⟩:=h;unfold tyT at ht;split at ht
 ·rename_i fs hu;split at ht
  ·rename_i ts hts;simp only[Zg]at ht;subst ht;simp only[Value.okWide,hu]at hv;obtain ⟨cs,rfl,_,_⟩:=hv;obtain ⟨y,h1,h2⟩:=ZbG 20 t ts hts _ _ _ h;exact ⟨y,⟨cs.toList,by simp,h1⟩,h2⟩
  ·cases ht
 ·rename_i hns;split at ht
  ·rename_i lt hts;simp only[Zg]at ht;subst ht;obtain ⟨y,h1,h2⟩:=ZbG 20 t _ hts _ _ _ h;have hag: ∀cs,v≠ .agg cs:=by
    rintro cs rfl;simp only[Vw]at hts;unfold Value.okWide at hv;split at hts<;>simp_all [Cell.okWide,Cell.ok]
   have hc:v.cells= #[v]:=by
    cases v<;>first|rfl|exact absurd rfl (hag _)
   rw[hc]at h1;obtain ⟨S1,S2,h1,_,_,h3,_⟩:=h1;exact ⟨y.1,Z1.mono h1 h3 (fun _ h=>h),h2.1⟩
  ·cases ht
theorem KU.monoL [Glb] {L L':Nat→Prop} {t:Ty} {x:t.D} {v:Value} (hl: ∀b,L b→L' b) (hp:t.isP=false) (h:KU w t x v ZC L):KU w t x v ZC L':=by
 cases t with
 |v t=>exact Z1.mono h (fun _ _ h=>h) hl
 |a ts=>obtain ⟨cs,e,k⟩:=h;exact ⟨cs,e,k.mono (fun _ _ h=>h) hl⟩
 |p ts=>cases hp
 |r ts=>obtain ⟨b,o,cs,e,q1,q2,k,q3⟩:=h;exact ⟨b,o,cs,e,q1,q2,k.mono (fun _ _ h=>h) hl,hl b q3⟩
theorem ZG.monoL [Glb] {L L':Nat→Prop} (hl: ∀b,L b→L' b): ∀{ts:List Ty} {x:PTup ts} {vs:List Value},plains ts=true→ZG w ts x vs ZC L→ZG w ts x vs ZC L'
 | [],_,[],_,_=>trivial
 | [],_,_::_,_,h=>h.elim
 |_::_,_,[],_,h=>h.elim
 |t::ts,x,v::vs,hp,⟨S1,S2,h1,h2,h3,h4,h5⟩=>by
  simp only[plains,Bool.and_eq_true]at hp;have n1:S1=ZC:=by funext b o;exact propext ⟨fun h=>h4 b o h,fun h=>h.elim⟩
  have n2:S2=ZC:=by funext b o;exact propext ⟨fun h=>h5 b o h,fun h=>h.elim⟩
  subst n1 n2;exact ⟨ZC,ZC,h1.monoL hl (by cases t<;>first|rfl|cases hp.1),h2.monoL hl hp.2,h3,h4,h5⟩
theorem ZlA [Glb] {r:Reach} {base:Nat}: ∀{params:List TypeId} {tys:List Ty} {args:List Value} {ds:List (DataW H)} {ps:List MemPlace},ZrY P params=some tys→plains tys=true→
  (∀(j:Nat) t v,params[j]? =some t→args[j]? =some v→Value.okWide P w r base t v)→DataW.TrodAll enc P w 0 (fun _=>true) held params args ds ps→
  ∃y:PTup tys,ZG w tys y args ZC (Xz ps)∧ZsD tys y
 | [],tys,args,ds,ps,h,_,_,ha=>by
  simp only[ZrY,Zg]at h;subst h;obtain ⟨rfl,rfl,rfl⟩:=trodAll_nil ha;exact ⟨(),trivial,trivial⟩
 |t::params,tys,args,ds,ps,h,hp,hv,ha=>by
  simp only[ZrY]at h;split at h
  ·rename_i a b h1 h2;simp only[Zg]at h;subst h;obtain ⟨v,vs,d,ds',p,q,rfl,rfl,rfl,k1,k2⟩:=trodAll_cons ha;simp only[plains,Bool.and_eq_true]at hp;obtain ⟨y1,r1,w1⟩:=ZqX h1 (hv 0 t v rfl rfl) k1;obtain ⟨y2,r2,w2⟩:=ZlA h2 hp.2 (fun j u x hj hx=>hv (j+1) u x (by simpa using hj) (by simpa using hx)) k2;refine ⟨(y1,y2),⟨ZC,ZC,r1.monoL (fun b ⟨z,hz,hb⟩=>⟨z,List.mem_append_left _ hz,hb⟩) (by cases a<;>first|rfl|cases hp.1),r2.monoL (fun b ⟨z,hz,hb⟩=>⟨z,List.mem_append_right _ hz,hb⟩) hp.2,(fun _ _ h=>h.elim),(fun _ _ h=>h),(fun _ _ h=>h)⟩,w1,w2⟩
  ·cases h
theorem ZeA {base:Nat} {spare:Nat→Bool}: ∀{params:List TypeId} {args:List Value} {ds:List (DataW H)} {ps:List MemPlace},DataW.TrodAll enc P w base spare held params args ds ps→ ∀x,x∈ps→x.block<w.heap.size
 | [],args,ds,ps,h=>by
  obtain ⟨rfl,rfl,rfl⟩:=trodAll_nil h;intro x hx;cases hx
 |t::params,args,ds,ps,h=>by
  obtain ⟨v,vs,d,ds',p,q,rfl,rfl,rfl,⟨n,k1⟩,k2⟩:=trodAll_cons h;intro x hx;rcases List.mem_append.1 hx with hx|hx
  ·exact DataW.trod_lt n _ _ _ k1 x hx
  ·exact ZeA k2 x hx
def ZlO (P:Program):List TypeId→Bool| []=>true|t::r=>P.readableRec t&&(Nat.blt t P.types.size&&ZlO P r)
theorem ZdY [Glb] {w':World} (hl:laidOutB P=true) (hb:Go.RowKit.Below w.heap.size w w'): ∀{params:List TypeId} {args:List Value} {ds:List (DataW H)} {ps:List MemPlace},ZlO P params=true→DataW.TrodAll enc P w 0 (fun _=>true) true params args ds ps→
  DataW.TrodAll enc P w' 0 (fun b=>decide (b<w.heap.size)) true params args ds ps
 | [],args,ds,ps,_,h=>by
  obtain ⟨rfl,rfl,rfl⟩:=trodAll_nil h;exact trodAll_mk0
 |t::params,args,ds,ps,hp,h=>by
  simp only[ZlO,Bool.and_eq_true]at hp;have hlt:=ZeA h;obtain ⟨v,vs,d,ds',p,q,rfl,rfl,rfl,k1,k2⟩:=trodAll_cons h;exact ⟨p,q,Go.RowKit.Below.trod hl hp.1 (Nat.le_of_ble_eq_true hp.2.1) k1 hb (fun x hx=>hlt x (List.mem_append_left _ hx)),ZdY hl hb hp.2.2 k2,rfl⟩
theorem ZnJ [Glb] {g:FuncId} {ins:List Ty} {run:PTup ins→Option (PTup [.v .bool]×BTup ins)} {args:Array Value} {ps:List MemPlace} {y:PTup ins} (hk:Zy P g ⟨ins,[.v .bool],run, .nor⟩) (hy:ZG w ins y args.toList ZC (Xz ps)) (hl: ∀x,x∈ps→x.block<w.heap.size) (hg: ∀b,Glb.blk b→b<w.heap.size) (hgf:Glb.fact w)
  (hr: ∃b,run y=some ((true,()),b)):Calls P g args w fun e w'=>e= .returned (.bool true)∧Go.RowKit.Below w.heap.size w w':=by
 obtain ⟨b,hr⟩:=hr;refine (hk.calls w y args.toList ZC (fun b=>Xz ps b∨Glb.blk b) (hy.mono (fun _ _ h=>h) (fun _ h=> .inl h)) (fun _ _ h=>h.elim) (fun _ _ h=>h.elim) (fun b h=>h.elim (fun ⟨x,hx,hb⟩=>hb▸hl x hx) (hg b)) (fun _ h=> .inr h) hgf _ hr).mono fun e w' h=> ?_;obtain ⟨vs,SO,SB,rfl,ho,_,_,_,hf⟩:=h
 match vs,ho with
 | [v],⟨_,_,hv,_⟩=>
  have hv:v= .bool true:=hv;subst hv;exact ⟨rfl,hf.below⟩
end
end
theorem Zr {x:Int} (h1: -9223372036854775808≤x) (h2:x≤9223372036854775807):wI x=x:=by
 show IntKind.i64.wrap x=x;rw[IntKind.wrap_i64];omega
theorem Zs {α:Type} (l:List α):Zf l=(l.length:Int):=rfl
theorem Qn (e:E) (l:List e.C) (i:Nat) (h:i<l.length):rdE e l (i:Int)=l[i]:=by
 simp[rdE,List.getD,h]
theorem Ql {i:Nat} (h:i<9223372036854775807):wI ((i:Int)+1)=((i+1:Nat):Int):=by
 rw[Zr (by omega) (by omega)];omega
theorem Zl {x y:Int} (h:x<y):ltI x y=true:=ZB h
theorem Zx {x y:Int} (h: ¬x<y):ltI x y=false:=Zw h
theorem Zp {x y:Int} (h:x≤y):leI x y=true:=ZB h
theorem JG {x y:Int} (h: ¬x≤y):leI x y=false:=Zw h
theorem ZI {x y:Nat} (h:x≤y):leN x y=true:=ZB h
theorem Qo (x y:Int):eqI x y=decide (x=y):=by unfold eqI;by_cases h:x=y<;>simp[h]
theorem ZrR (x y:Int):neI x y= !decide (x=y):=by unfold neI;by_cases h:x=y<;>simp[h]
theorem Zsm (x y:Int):leI x y=decide (x≤y):=rfl
theorem Zn {x y:Int} (h:x=y):eqI x y=true:=by simp[Qo,h]
theorem Zi {x y:Int} (h:x≠y):eqI x y=false:=by simp[Qo,h]
theorem QS {x y:Int} (h:x≠y):neI x y=true:=by simp[ZrR,h]
theorem Ja {x y:Int} (h:x=y):neI x y=false:=by simp[ZrR,h]
theorem J0 {α:Type} {l:List α} {i:Nat} (h:i<l.length):l.drop i=l[i]::l.drop (i+1):=(List.drop_eq_getElem_cons h)
theorem ZaP (x:Int):(BitVec.ofInt 64 x).toNat=(x%18446744073709551616).toNat:=by
 rw[BitVec.toNat_ofInt];rfl
theorem Zh1 (x:Int) (k:Nat) (hk:k≤32):ZL .i64 x (2^k-1:Nat)=x% (2^k:Nat):=by
 have h2:2^k≤2^32:=Nat.pow_le_pow_right (by omega) hk;have hpos:0<2^k:=Nat.pow_pos (by omega);have e1:(BitVec.ofInt 64 ((2^k-1:Nat):Int)).toNat=2^k-1:=by
  rw[ZaP];have:((2^k-1:Nat):Int)%18446744073709551616=((2^k-1:Nat):Int):=Int.emod_eq_of_lt (by omega) (by omega);rw[this];omega
 have e2:(BitVec.ofInt IntKind.i64.bits x&&&BitVec.ofInt IntKind.i64.bits ((2^k-1:Nat):Int)).toNat=(x% (2^k:Nat)).toNat:=by
  show (BitVec.ofInt 64 x&&&BitVec.ofInt 64 ((2^k-1:Nat):Int)).toNat=_;rw[BitVec.toNat_and,e1,Nat.and_two_pow_sub_one_eq_mod,ZaP];have hd:((2^k:Nat):Int)∣18446744073709551616:=by
   have:(18446744073709551616:Int)=((2^k:Nat):Int)*((2^(64-k):Nat):Int):=by
    rw[←Int.natCast_mul,←Nat.pow_add,show k+(64-k)=64 by omega];rfl
   exact ⟨_,this⟩
  have h3:(x%18446744073709551616)% ((2^k:Nat):Int)=x% ((2^k:Nat):Int):=Int.emod_emod_of_dvd x hd;have h4:0≤x%18446744073709551616:=Int.emod_nonneg _ (by omega);rw[←h3,Int.toNat_emod h4 (Int.natCast_nonneg _),Int.toNat_natCast]
 unfold ZL;rw[e2];have h5:0≤x% ((2^k:Nat):Int):=Int.emod_nonneg _ (by omega);have h6:x% ((2^k:Nat):Int)< ((2^k:Nat):Int):=Int.emod_lt_of_pos _ (by omega);rw[show (((x% ((2^k:Nat):Int)).toNat:Nat):Int)=x% ((2^k:Nat):Int) by omega];exact Zr (by omega) (by omega)
theorem Kx (x:Int):ZL .i64 x 255=x%256:=Zh1 x 8 (by omega)
theorem Zhc (x:Int):ZL .i64 x 65535=x%65536:=Zh1 x 16 (by omega)
theorem U5 (x:Int):ZL .i64 x 1=x%2:=Zh1 x 1 (by omega)
theorem Zah {α T:Type} (F:Nat→Nat→List α→Option T) (l:List α) (good:List α→T) (h1: ∀k i out,(h:i<l.length)→out.length=i→F (k+1) i out=F k (i+1) (out++[l[i]]))
  (h2: ∀k out,out.length=l.length→F (k+1) l.length out=some (good out)): ∀(k i:Nat) (out:List α),i≤l.length→out.length=i→l.length-i<k→F k i out=some (good (out++l.drop i))
 |0,_,_,_,_,h=>absurd h (by omega)
 |k+1,i,out,hi,ho,hk=>by
  by_cases h:i<l.length
  ·rw[h1 k i out h ho,Zah F l good h1 h2 k (i+1) _ (by omega) (by simp[ho]) (by omega),J0 h];simp
  ·have:i=l.length:=by omega
   subst this;rw[h2 k out ho,List.drop_length,List.append_nil]
theorem Za {A B:Type} {x:Option A} {y:A} {f:A→Option B} {z:Option B} (h:x=some y) (k:f y=z):x.bind f=z:=by rw[h];exact k
theorem ZbZ {T:Type} (F:Nat→Nat→Option T) (n:Nat) (p:Nat→Bool) (good bad:T) (h1: ∀k i,i<n→p i=true→F (k+1) i=F k (i+1))
  (h2: ∀k i,i<n→p i=false→F (k+1) i=some bad) (h3: ∀k,F (k+1) n=some good): ∀(k i:Nat),i≤n→n-i<k→F k i=some (if (List.range' i (n-i)).all p then good else bad)
 |0,_,_,h=>absurd h (by omega)
 |k+1,i,hi,hk=>by
  by_cases h:i<n
  ·rw[show n-i=(n-(i+1))+1 by omega,List.range'_succ,List.all_cons];cases hq:p i with
   |true=>rw[h1 k i h hq,ZbZ F n p good bad h1 h2 h3 k (i+1) (by omega) (by omega),Bool.true_and]
   |false=>rw[h2 k i h hq,Bool.false_and];rfl
  ·have:i=n:=by omega
   subst this;rw[h3 k,Nat.sub_self];rfl
theorem Kv {α T:Type} (F:Nat→Nat→Option T) (l:List α) (q:α→Bool) (good bad:T) (h1: ∀k i,(h:i<l.length)→q l[i]=true→F (k+1) i=F k (i+1))
  (h2: ∀k i,(h:i<l.length)→q l[i]=false→F (k+1) i=some bad) (h3: ∀k,F (k+1) l.length=some good): ∀(k i:Nat),i≤l.length→l.length-i<k→F k i=some (if (l.drop i).all q then good else bad)
 |0,_,_,h=>absurd h (by omega)
 |k+1,i,hi,hk=>by
  by_cases h:i<l.length
  ·rw[J0 h,List.all_cons];cases hq:q l[i]with
   |true=>rw[h1 k i h hq,Kv F l q good bad h1 h2 h3 k (i+1) (by omega) (by omega),Bool.true_and]
   |false=>rw[h2 k i h hq,Bool.false_and];rfl
  ·have:i=l.length:=by omega
   subst this;rw[h3 k,List.drop_length];rfl
theorem Q7 {U V:Type} (c x:Bool) (u:U) (v:V):(bif c then some ((x,u),v)else some ((false,u),v))=some ((c&&x,u),v):=by cases c<;>rfl
theorem Ur {U V:Type} (c x:Bool) (u:U) (v:V):(bif !c then some ((false,u),v)else some ((x,u),v))=some ((c&&x,u),v):=by cases c<;>rfl
end Go.Tev
