/- An evaluator of Go functions on plain values and its soundness. No condition beyond those that each lemma states. -/
import Derived.Test.YtmlahgmhbdpkjaaGreatDoorW4
import Derived.Deep.Matrix
import Derived.Deep.Strs
import Derived.ChangeSlices
import Derived.SizedLaws
import Derived.ProofKit
import Derived.ChangeOld
import Derived.Carry
import Derived.IntWalk
set_option linter.unusedSimpArgs false
set_option linter.unusedVariables false
namespace Go.Tev
def ZlF [Glb] (P:Program):List (Nat×Fn)→Prop
 | []=>True| (k,f)::r=>Zal P k f∧ZlF P r
theorem ZaE [Glb] {P:Program}: ∀{l:List (Nat×Fn)},ZlF P l→ ∀g f,fnsL l g=some f→Zal P g f
 | [],_,g,f,h=>by cases h
 | (k,f')::r,hl,g,f,h=>by
  simp only[fnsL]at h
  cases e:Nat.beq g k with
  |true=>
   rw[e,cond_true]at h
   obtain rfl:=Nat.eq_of_beq_eq_true e
   obtain rfl:=Option.some.inj h
   exact hl.1
  |false=>
   rw[e,cond_false]at h
   exact ZaE hl.2 g f h
def Zad [Glb] (P:Program) (nt:Nat) (E:CEnv):List Code→Prop
 | []=>True|c::r=>(∀l,E.loops (Zn9 c)=some l→ZaS P nt c l)∧Zad P nt E r
theorem Zad.append [Glb] {P:Program} {nt:Nat} {E:CEnv}: ∀{a b:List Code},Zad P nt E (a++b)→Zad P nt E a∧Zad P nt E b
 | [],_,h=>⟨trivial,h⟩
 |_::_,_,h=>⟨⟨h.1,(Zad.append h.2).1⟩,(Zad.append h.2).2⟩
theorem ZhO [Glb] {P:Program} {nt:Nat} {E:CEnv}: ∀{c:Code},Zad P nt E (Zc6 c)→Zc1 P nt E c:=by
 intro c
 induction c with
 |seq a b iha ihb=>exact fun h=>⟨iha (Zad.append h).1,ihb (Zad.append h).2⟩
 |cond x a b iha ihb=>exact fun h=>⟨iha (Zad.append h).1,ihb (Zad.append h).2⟩
 |block i c ih=>exact fun h=>ih h
 |loop c ih=>exact fun h=>h.1
 |_=>intro _;trivial
theorem Zad.one [Glb] {P:Program} {nt:Nat} {E:CEnv} {c:Code} {r:List Code} {l:Zbb} (h1:E.loops (Zn9 c)=some l) (h:ZaS P nt c l) (hr:Zad P nt E r):Zad P nt E (c::r):=
 ⟨fun l' h'=>by rw[h1]at h';obtain rfl:=Option.some.inj h';exact h,hr⟩
theorem Zad.of_list [Glb] {P:Program} {nt:Nat} {E:CEnv} {c l:List Code} (h:c=l) (k:Zad P nt E l):Zad P nt E c:=h▸k
def ZiQ (f:Func) (ins outs:List Ty):Bool:=
 ZlW f&&(!(f.name== "runtime.NumGoroutine")&&(Zff ins&&(Zff outs&&(owns outs&&(Nat.ble ins.length 8&&(Nat.ble outs.length 8&&Nat.ble ins.length f.ntmps))))))
theorem Zcd [Glb] {E:CEnv} {P:Program} {g:FuncId} {f:Func} {ins outs:List Ty} {run:PTup ins→Option (PTup outs×BTup ins)} (hP:E.env.prog=P) (hE: ∀g f,E.env.fns g=some f→Zal P g f) (hm:P.follows .mixedOrders=true)
  (hg:P.funcs[g]? =some f) (hs:ZiQ f ins outs=true) (hl:Zad P f.ntmps E (Zc6 (Zag f))) (hrun: ∀y,tevF E f ins outs y=run y):Zal P g ⟨ins,outs,run, .nor⟩:=by
 subst hP
 simp only[ZiQ,Bool.and_eq_true,Bool.not_eq_true']at hs
 obtain ⟨h0,h1,h2,h3,h4,h5,h6,h7⟩:=hs
 cases hb:f.body with
 |none=>rw[ZlW,hb]at h0;cases h0
 |some c=>
  rw[Zag,hb]at hl
  exact ZuY hE hm hg hb h1 (ZhO hl) h2 h3 h4 h5 h6 h7 fun y r h=>by rw[hrun,h]
def ZnG (f:Func) (ins outs:List Ty):Bool:=
 ZlW f&&(!(f.name== "runtime.NumGoroutine")&&(Zff ins&&(Zff outs&&(Nat.ble ins.length 8&&(Nat.ble outs.length 8&&Nat.ble ins.length f.ntmps)))))
theorem Zvq [Glb] {E:CEnv} {P:Program} {g:FuncId} {f:Func} {ins outs:List Ty} {run:PTup ins→Option (PTup outs×BTup ins)} (hP:E.env.prog=P) (hE: ∀g f,E.env.fns g=some f→Zal P g f) (hm:P.follows .mixedOrders=true)
  (hg:P.funcs[g]? =some f) (hs:ZnG f ins outs=true) (hl:Zad P f.ntmps E (Zc6 (Zag f))) (hrun: ∀y,tevL E f ins outs y=run y):Zal P g ⟨ins,outs,run, .lnt⟩:=by
 subst hP
 simp only[ZnG,Bool.and_eq_true,Bool.not_eq_true']at hs
 obtain ⟨h0,h1,h2,h3,h5,h6,h7⟩:=hs
 cases hb:f.body with
 |none=>rw[ZlW,hb]at h0;cases h0
 |some c=>
  rw[Zag,hb]at hl
  exact ZuZ hE hm hg hb h1 (ZhO hl) h2 h3 h5 h6 h7 fun y r h=>by rw[hrun,h]
abbrev CK [Glb] (P:Program) (x:Nat×Fn):Prop:=Zal P x.1 x.2
theorem fn0 [Glb] {E:CEnv} {P:Program} {g:FuncId} {f:Func} {ins outs:List Ty} {run:PTup ins→Option (PTup outs×BTup ins)} (hrun: ∀y,tevF E f ins outs y=run y) (hE: ∀g f,E.env.fns g=some f→Zal P g f) (hP:E.env.prog=P) (hm:P.follows .mixedOrders=true)
  (hg:P.funcs[g]? =some f) (hs:ZiQ f ins outs=true) (hl:Zc6 (Zag f)=[]):Zal P g ⟨ins,outs,run, .nor⟩:=Zcd hP hE hm hg hs (Zad.of_list (l:=[]) hl trivial) hrun
@[irreducible] def fuel : Nat := 2 ^ 100
theorem Zat:2^64<fuel:=by unfold fuel;decide
theorem ZbS [Glb] {E:CEnv} {P:Program} {c:Code} {l:Zbb} {nt:Nat} (hP:E.env.prog=P) (hE: ∀g f,E.env.fns g=some f→Zal P g f) (hm:P.follows .mixedOrders=true) (hl:Zad P nt E (Zc6 c))
  (nn:Nat→PTup l.cty→PTup l.bty→PTup l.vty→Option (Sum (PTup l.vty) (PTup l.rty)×BTup l.bty)) (h0: ∀x y z,nn 0 x y z=none) (hS: ∀n x y z,Zak E c l nt (fun y z=>nn n x y z) x y z=nn (n+1) x y z) (hr:l.run=nn fuel):ZaS P nt c l:=by
 subst hP
 refine ZuD hE hm (ZhO hl) fun x y z r h=>⟨fuel,?_⟩
 have key: ∀n x y z,ZrL E c l nt n x y z=nn n x y z:=by
  intro n
  induction n with
  |zero=>intro x y z;rw[h0];rfl
  |succ n ih=>intro x y z;rw[←hS];simp only[ZrL];congr 1;funext y z;exact ih x y z
 rw[key,←hr];exact h
section
open Go.ChangeShapes Go.WideShapes Go.Deep
def i64B (n:Int):Prop:= -9223372036854775808≤n∧n≤9223372036854775807
def wfE:(e:E)→e.C→Prop
 | .i,(n:Int)=>i64B n
 | .b,(n:Int)=>0≤n∧n≤255
 | .s,(s:ByteArray)=>s.size≤maxLen
 | .o,_=>True
 | .t,(x:Int×Int×Int)=>i64B x.1∧i64B x.2.1∧i64B x.2.2
 | .n,(l:List Int)=>l.length≤maxLen∧ ∀n,n∈l→i64B n
def wfL:(t:LT)→t.D→Prop
 | .int k,(n:Int)=>(Lit.int k n).wf=true
 | .bool,_=>True
 | .str,(s:ByteArray)=>s.size≤maxLen
 | .fn _,_=>True
 | .mb _,_=>True
 | .sl _ e,(l:List e.C)=>l.length≤maxLen∧ ∀x,x∈l→wfE e x
def wfLs:(ts:List LT)→Tup ts→Prop
 | [],_=>True|t::ts,x=>wfL t x.1∧wfLs ts x.2
def wfT:(t:Ty)→t.D→Prop
 | .v t,x=>wfL t x| .a ts,x=>wfLs ts x| .p ts,x=>wfLs ts x| .r ts,x=>wfLs ts x
def wfTs:(ts:List Ty)→PTup ts→Prop
 | [],_=>True|t::ts,x=>wfT t x.1∧wfTs ts x.2
theorem Zjj {n:Int} (h:(Lit.int .i64 n).wf=true):i64B n:=by
 have:(decide (IntKind.i64.min≤n)&&decide (n≤IntKind.i64.max))=true:=h
 simp only[Bool.and_eq_true,decide_eq_true_eq]at this
 exact this
theorem ZvK {n:Int} (h:(Lit.int .u8 n).wf=true):0≤n∧n≤255:=by
 have:(decide (IntKind.u8.min≤n)&&decide (n≤IntKind.u8.max))=true:=h
 simp only[Bool.and_eq_true,decide_eq_true_eq]at this
 exact this
def Zje (g:TypeId→Option (List LT)) (P:Program) (t:TypeId):List Field→Nat→Option (List LT)
 | [],off=>bif Nat.beq off (P.cellsOf t)then some []else none
 |f::r,off=>bif Nat.beq f.offset off then (match g f.type,Zje g P t r (off+P.cellsOf f.type)with
  |some a,some b=>bif Nat.beq a.length (P.cellsOf f.type)then some (a++b)else none
  |_,_=>none)else none
def recB:Option (List LT)→Bool|some [.int .i64, .int .i64, .int .i64]=>true|_=>false
def Zeb (P:Program):Nat→TypeId→Option (List LT)
 |0,_=>none
 |n+1,t=>match P.underlying t with
  |some (.int k)=>some [.int k]
  |some .bool=>some [.bool]
  |some .string=>some [.str]
  |some (.slice e)=>(match Zgw P t with
   |some .i=>some [.sl false .i]
   |some .b=>some [.sl false .b]
   |some .s=>some [.sl false .s]
   |some .n=>bif Nat.beq (P.cellsOf (P.elem e)) 1 then some [.sl false .n]else none
   |some .t=>bif recB (Zeb P n e)then some [.sl false .t]else none
   |_=>none)
  |some (.struct fs)=>Zje (Zeb P n) P t fs.toList 0
  |_=>none
def tyT (P:Program) (t:TypeId):Option Ty:=
 match P.underlying t with
 |some (.struct _)=>(match Zeb P 20 t with|some ts=>some (.a ts)|none=>none)
 |_=>(match Zeb P 20 t with|some [t]=>some (.v t)|_=>none)
def tysT (P:Program):List TypeId→Option (List Ty)
 | []=>some []|t::r=>match tyT P t,tysT P r with|some a,some b=>some (a::b)|_,_=>none
def blkP (ps:List MemPlace) (b:Nat):Prop:= ∃x,x∈ps∧x.block=b
def prOf (a:Addr):Option (Nat×Nat):=match a.spot with|none=>some (a.block,a.off)|some _=>none
theorem ZjO (a:Addr):pt (prOf a) (some a)=some a:=by
 unfold prOf
 cases h:a.spot with
 |none=>simp only[pt,adr];congr 1;cases a;simp_all
 |some s=>rfl
theorem Zcu {a:Addr} {b o:Nat} (h:prOf a=some (b,o)):a=adr (b,o):=by
 unfold prOf at h
 cases hs:a.spot with
 |none=>rw[hs]at h;cases h;cases a;simp_all [adr]
 |some s=>rw[hs]at h;cases h
theorem Zg9 {a:Addr} (h:prOf a=none):OddQ (some a):=by
 unfold prOf at h
 cases hs:a.spot with
 |none=>rw[hs]at h;cases h
 |some s=>exact .inr ⟨a,rfl,by rw[hs];rfl⟩
theorem Zi4 {w:World} {a:Addr} {cap:Nat} {v:Value} (h:prOf a=none) (hc:0<cap→w.cell? (a.add 0)=some v):cap=0:=by
 rcases Nat.eq_zero_or_pos cap with h0|h0
 ·exact h0
 ·have:=hc h0
  unfold prOf at h
  cases hs:a.spot with
  |none=>rw[hs]at h;cases h
  |some s=>
   unfold World.cell? at this
   simp only[Addr.add,if_true,hs,Option.isSome_some]at this
   split at this<;>cases this
theorem ZjD {a:Addr} {n i:Nat} (h:i<n):(.cell a.block (a.off+i))∈MemPlace.row a n:=by
 simp only[MemPlace.row,List.mem_map,List.mem_range]
 exact ⟨i,h,rfl⟩
section
variable {H:Type} {enc:TypeId×Value→H} {P:Program} {w:World} {held:Bool}
theorem Zlq [Glb] {t e:TypeId} {k:IntKind} {ek:E} {fuel:Nat} {cs:List Value} {x:DataW H×List MemPlace} (ht:P.underlying t=some (.slice e)) (he:P.underlying e=some (.int k)) (hc:P.cellsOf e=1)
  (hk:(ek= .i∧k= .i64)∨(ek= .b∧k= .u8)) (h:DataW.trod enc P w 0 (fun _=>true) held fuel t cs=some x):
  ∃v,cs=[v]∧ ∃l:List ek.C,Za7 w (.sl false ek) l v noFp (blkP x.2)∧wfL (.sl false ek) l:=by
 rcases open_ints ht he hc h with ⟨rfl,_⟩| ⟨a,len,cap,zs,rfl,_,hl,hm,hz,hx,hcell,hw⟩
 ·refine ⟨_,rfl,[],⟨none,0,⟨fun _=>⟨none,0,0,none⟩,none⟩,rfl,Zdu w false ek,fun b hb=> ?_⟩,Nat.zero_le _,fun _ h=>by cases h⟩
  rcases hb with ⟨h,_⟩| ⟨_,i,h,_⟩<;>cases h
 ·simp only[if_true]at hz
  have hlt:(zs.take len).length=len:=by rw[List.length_take];omega
  have hn:prOf a=none→cap=0:=fun h=>Zi4 h (fun h0=>hcell 0 (by omega))
  have key: ∃l:List ek.C,l.length=len∧(∀i,(h:i<l.length)→ ∀j,j<ek.sz→w.cell? (a.add (i*ek.sz+j))=some (elV ek l[i] ⟨none,0,0,none⟩ j))∧ek.sz=1∧ek≠ .n∧ ∀x,x∈l→wfE ek x:=by
   rcases hk with ⟨rfl,rfl⟩| ⟨rfl,rfl⟩
   ·refine ⟨zs.take len,hlt,fun i hi j hj=> ?_,rfl,(by simp),fun x hx=>Zjj (hw x (List.mem_of_mem_take hx))⟩
    obtain rfl:j=0:=by simp[E.sz]at hj;exact hj
    have hi':i<len:=by rw[←hlt];exact hi
    have:=hcell i (by omega)
    simp only[E.sz,Nat.mul_one,Nat.add_zero,elV]
    rw[this]
    simp[List.getD,show i<zs.length by omega]
   ·refine ⟨zs.take len,hlt,fun i hi j hj=> ?_,rfl,(by simp),fun x hx=>ZvK (hw x (List.mem_of_mem_take hx))⟩
    obtain rfl:j=0:=by simp[E.sz]at hj;exact hj
    have hi':i<len:=by rw[←hlt];exact hi
    have:=hcell i (by omega)
    simp only[E.sz,Nat.mul_one,Nat.add_zero,elV]
    rw[this]
    simp[List.getD,show i<zs.length by omega]
  obtain ⟨l,h1,h2,h3,h4,h5⟩:=key
  refine ⟨_,rfl,l,⟨prOf a,cap,⟨fun _=>⟨none,0,0,none⟩,some a⟩,?_,⟨by omega,fun h=>⟨hn h,Zg9 h⟩,fun b o ea=>⟨fun i hi j hj=> ?_,fun h=>by cases h⟩,?_⟩,fun b hb=> ?_⟩,by rw[h1];omega,h5⟩
  ·simp only[slV,ZjO,h1]
  ·have:=h2 i hi j hj
   rw[Zcu ea,ZcC]at this
   rw[Nat.add_assoc]
   exact this
  ·cases ek<;>first|trivial|exact absurd rfl h4
  ·rcases hb with ⟨hp,o,ea⟩| ⟨en,_⟩
   ·refine ⟨.cell a.block (a.off+0),?_,by rw[Zcu ea];rfl⟩
    rw[hx]
    exact ZjD (by omega)
   ·exact absurd en h4
theorem ZqE [Glb] {t e:TypeId} {fuel:Nat} {cs:List Value} {x:DataW H×List MemPlace} (ht:P.underlying t=some (.slice e)) (he:P.underlying e=some .string) (hc:P.cellsOf e=1)
  (h:DataW.trod enc P w 0 (fun _=>true) held fuel t cs=some x):
  ∃v,cs=[v]∧ ∃l:List ByteArray,Za7 w (.sl false .s) l v noFp (blkP x.2)∧wfL (.sl false .s) l:=by
 rcases open_strs ht he hc h with ⟨rfl,_⟩| ⟨a,len,cap,m,Sx,rfl,_,hl,hm,hmm,hx,hcell⟩
 ·refine ⟨_,rfl,[],⟨none,0,⟨fun _=>⟨none,0,0,none⟩,none⟩,rfl,Zdu w false .s,fun b hb=> ?_⟩,Nat.zero_le _,fun _ h=>by cases h⟩
  rcases hb with ⟨h,_⟩| ⟨_,i,h,_⟩<;>cases h
 ·simp only[if_true]at hmm
  subst hmm
  have hn:prOf a=none→m=0:=fun h=>Zi4 h (fun h0=>(hcell 0 h0).1)
  have hlen:(List.map Sx (List.range len)).length=len:=by simp
  refine ⟨_,rfl,(List.range len).map Sx,⟨prOf a,m,⟨fun _=>⟨none,0,0,none⟩,some a⟩,?_,⟨by rw[hlen];exact hl,fun h=>⟨hn h,Zg9 h⟩,fun b o ea=>⟨fun i hi j hj=> ?_,fun h=>by cases h⟩,trivial⟩,fun b hb=> ?_⟩,by rw[hlen];omega,fun x hx=> ?_⟩
  ·simp only[slV,ZjO]
   rw[show (List.map Sx (List.range len)).length=len from hlen]
  ·obtain rfl:j=0:=by simp[E.sz]at hj;exact hj
   have hi':i<len:=by rw[←hlen];exact hi
   have:=(hcell i (by omega)).1
   rw[Zcu ea,ZcC]at this
   simp only[E.sz,Nat.mul_one,Nat.add_zero,elV]
   rw[this]
   simp
  ·rcases hb with ⟨hp,o,ea⟩| ⟨en,_⟩
   ·refine ⟨.cell a.block (a.off+0),?_,by rw[Zcu ea];rfl⟩
    rw[hx]
    rw[hlen]at hp
    exact ZjD (by omega)
   ·cases en
  ·simp only[List.mem_map,List.mem_range]at hx
   obtain ⟨i,hi,rfl⟩:=hx
   exact (hcell i (by omega)).2
theorem ZqD [Glb] {t e q:TypeId} {fuel:Nat} {cs:List Value} {x:DataW H×List MemPlace} (ht:P.underlying t=some (.slice e)) (he:P.underlying e=some (.slice q)) (hq:P.underlying q=some (.int .i64))
  (ce:P.cellsOf e=1) (cq:P.cellsOf q=1) (h:DataW.trod enc P w 0 (fun _=>true) held fuel t cs=some x):
  ∃v,cs=[v]∧ ∃l:List (List Int),Za7 w (.sl false .n) l v noFp (blkP x.2)∧wfL (.sl false .n) l:=by
 rcases open_int_rows ht he hq ce cq h with ⟨rfl,_⟩| ⟨a,len,cap,A,Ln,C,Z,rfl,_,hl,hm,hx,hr⟩
 ·refine ⟨_,rfl,[],⟨none,0,⟨fun _=>⟨none,0,0,none⟩,none⟩,rfl,Zdu w false .n,fun b hb=> ?_⟩,Nat.zero_le _,fun _ h=>by cases h⟩
  rcases hb with ⟨h,_⟩| ⟨_,i,h,_⟩<;>cases h
 ·have hn:prOf a=none→cap=0:=fun h=>Zi4 h (fun h0=>(hr 0 h0).1)
  have hlen:(List.map (fun r=>(Z r).take (Ln r)) (List.range len)).length=len:=by simp
  have hzl: ∀r,r<cap→((Z r).take (Ln r)).length=Ln r:=fun r h=>by
   obtain ⟨_,h1,_,h2,_⟩:=hr r h
   rw[List.length_take];omega
  let ip:Nat→IP:=fun r=>⟨(A r).bind prOf,C r,Ln r,A r⟩
  have hptq: ∀r,pt ((A r).bind prOf) (A r)=A r:=fun r=>by
   cases hA:A r with
   |none=>rfl
   |some a'=>exact ZjO a'
  have hA': ∀r b o,(A r).bind prOf=some (b,o)→A r=some (adr (b,o)):=fun r b o h=>by
   cases hA:A r with
   |none=>rw[hA]at h;cases h
   |some a'=>rw[hA]at h;rw[Zcu h]
  have hnr: ∀r,r<cap→(A r).bind prOf=none→C r=0∧OddQ (A r):=fun r hrc h=>by
   obtain ⟨_,_,_,h2,_,h3,h4⟩:=hr r hrc
   cases hA:A r with
   |none=>exact ⟨h3 hA, .inl rfl⟩
   |some a'=>
    rw[hA]at h
    exact ⟨Zi4 h fun h0=>(h4 a' hA).2 0 h0,Zg9 h⟩
  refine ⟨_,rfl,(List.range len).map fun r=>(Z r).take (Ln r),⟨prOf a,cap,⟨ip,some a⟩,?_,⟨by rw[hlen];exact hl,fun h=>⟨hn h,Zg9 h⟩,fun b o ea=>⟨fun i hi j hj=> ?_,fun h=>by cases h⟩,?_⟩,fun b hb=> ?_⟩,by rw[hlen];omega,fun x hx=> ?_⟩
  ·simp only[slV,ZjO]
   rw[show (List.map (fun r=>(Z r).take (Ln r)) (List.range len)).length=len from hlen]
  ·obtain rfl:j=0:=by simp[E.sz]at hj;exact hj
   have hi':i<len:=by rw[←hlen];exact hi
   have:=(hr i (by omega)).1
   rw[Zcu ea,ZcC]at this
   simp only[E.sz,Nat.mul_one,Nat.add_zero,elV,slV]
   rw[this]
   show _=some (Value.slice (pt ((A i).bind prOf) (A i)) (Ln i) (C i))
   rw[hptq]
  ·refine ⟨fun i hi=> ?_,fun h=>by cases h⟩
   have hi':i<len:=by rw[←hlen];exact hi
   obtain ⟨_,h1,h2,h3,h4,h5,h6⟩:=hr i (by omega)
   have hz:=hzl i (by omega)
   refine ⟨?_,?_,fun h=>hnr i (by omega) h,fun b o ea=>⟨fun j hj=> ?_,fun h=>by cases h⟩⟩
   ·simp only[List.getElem_map,List.getElem_range];exact hz.symm
   ·simp only[List.getElem_map,List.getElem_range,hz];exact h1
   have ha:=hA' i b o ea
   have hj':j<Ln i:=by rw[←hz];simpa using hj
   have:=(h6 _ ha).2 j (by omega)
   rw[ZcC]at this
   rw[this]
   simp[List.getD,show j< (Z i).length by omega]
  ·rw[hx]
   rcases hb with ⟨hp,o,ea⟩| ⟨_,i,hi,hp,o,ea⟩
   ·refine ⟨.cell a.block (a.off+0),?_,by rw[Zcu ea];rfl⟩
    rw[hlen]at hp
    exact List.mem_append_left _ (ZjD (by omega))
   ·have hi':i<len:=by rw[←hlen];exact hi
    have ha:=hA' i b o ea
    obtain ⟨_,h1,h2,h3,h4,h5,h6⟩:=hr i (by omega)
    have hp:0<Ln i:=hp
    refine ⟨.cell b (o+0),List.mem_append_right _ (List.mem_flatMap.2 ⟨i,List.mem_range.2 (by omega),?_⟩),rfl⟩
    simp only[intRowPlaces,ha]
    exact ZjD (a:=adr (b,o)) (by omega)
  ·simp only[List.mem_map,List.mem_range]at hx
   obtain ⟨i,hi,rfl⟩:=hx
   obtain ⟨_,h1,h2,h3,h4,_⟩:=hr i (by omega)
   exact ⟨by rw[hzl i (by omega)];omega,fun n hn=>Zjj (h4 n (List.mem_of_mem_take hn))⟩
end
end
section
open Go.ChangeShapes Go.WideShapes Go.Deep
theorem Zuo {P:Program} {e:TypeId} (h:Ziv P e=some .i):P.underlying e=some (.int .i64):=by
 unfold Ziv at h;split at h<;>first|assumption| (cases h;done)| (split at h<;>cases h)
theorem Zun {P:Program} {e:TypeId} (h:Ziv P e=some .b):P.underlying e=some (.int .u8):=by
 unfold Ziv at h;split at h<;>first|assumption| (cases h;done)| (split at h<;>cases h)
theorem Zuq {P:Program} {e:TypeId} (h:Ziv P e=some .s):P.underlying e=some .string:=by
 unfold Ziv at h;split at h<;>first|assumption| (cases h;done)| (split at h<;>cases h)
theorem Zup {P:Program} {e:TypeId} (h:Ziv P e=some .n): ∃q,P.underlying e=some (.slice q)∧P.underlying q=some (.int .i64):=by
 unfold Ziv at h
 split at h<;>first| (cases h;done)| (rename_i q hq;split at h<;>first| (cases h;done)|exact ⟨q,hq,by assumption⟩)
def catT:(a:List LT)→{b:List LT}→Tup a→Tup b→Tup (a++b)
 | [],_,_,y=>y|_::a,_,x,y=>(x.1,catT a x.2 y)
theorem Zbc.cat [Glb] {w:World} {L:Nat→Prop}: ∀{a b:List LT} {x:Tup a} {y:Tup b} {vs us:List Value},Zbc w a x vs noFp L→Zbc w b y us noFp L→Zbc w (a++b) (catT a x y) (vs++us) noFp L
 | [],_,_,_,[],_,_,k=>k
 | [],_,_,_,_::_,_,h,_=>h.elim
 |_::_,_,_,_,[],_,h,_=>h.elim
 |_::a,b,x,y,v::vs,us,⟨S1,S2,h1,h2,h3,h4,h5⟩,k=>
  ⟨noFp,noFp,h1.mono h4 (fun _ h=>h),Zbc.cat (a:=a) (h2.mono h5 (fun _ h=>h)) k,(fun _ _ h=>h.elim),(fun _ _ h=>h),(fun _ _ h=>h)⟩
theorem wfLs.cat: ∀{a b:List LT} {x:Tup a} {y:Tup b},wfLs a x→wfLs b y→wfLs (a++b) (catT a x y)
 | [],_,_,_,_,k=>k
 |_::a,b,x,y,h,k=>⟨h.1,wfLs.cat (a:=a) h.2 k⟩
theorem Zbc.one {w:World} {t:LT} {x:t.D} {v:Value} {L:Nat→Prop} (h:Za7 w t x v noFp L):Zbc w [t] (x,()) [v] noFp L:=
 ⟨noFp,noFp,h,trivial,(fun _ _ h=>h.elim),(fun _ _ h=>h),(fun _ _ h=>h)⟩
section
variable {H:Type} {enc:TypeId×Value→H} {P:Program} {w:World} {held:Bool}
theorem ZrX [Glb] {t e:TypeId} {fuel:Nat} {cs:List Value} {x:DataW H×List MemPlace} (ht:P.underlying t=some (.slice e)) (hc:P.cellsOf e=3)
  (ih: ∀(fuel:Nat) (cs:List Value) (x:DataW H×List MemPlace),DataW.trod enc P w 0 (fun _=>true) held fuel e cs=some x→ ∃y:Tup [.int .i64, .int .i64, .int .i64],Zbc w [.int .i64, .int .i64, .int .i64] y cs noFp (blkP x.2)∧wfLs [.int .i64, .int .i64, .int .i64] y)
  (h:DataW.trod enc P w 0 (fun _=>true) held fuel t cs=some x):
  ∃v,cs=[v]∧ ∃l:List (Int×Int×Int),Za7 w (.sl false .t) l v noFp (blkP x.2)∧wfL (.sl false .t) l:=by
 rcases open_slice ht h with ⟨rfl,_⟩| ⟨a,len,cap,m,n,D,Pl,rfl,_,hl,hm,hmm,hx,hel⟩
 ·refine ⟨_,rfl,[],⟨none,0,⟨fun _=>⟨none,0,0,none⟩,none⟩,rfl,Zdu w false .t,fun b hb=> ?_⟩,Nat.zero_le _,fun _ h=>by cases h⟩
  rcases hb with ⟨h,_⟩| ⟨_,i,h,_⟩<;>cases h
 ·simp only[if_true]at hmm
  subst hmm
  rw[hc]at hel hx
  have each: ∀i,i<m→ ∃z:Int×Int×Int,w.cell? (a.add (i*3))=some (.int .i64 z.1)∧w.cell? (a.add (i*3+1))=some (.int .i64 z.2.1)∧w.cell? (a.add (i*3+2))=some (.int .i64 z.2.2)∧wfE .t z:=by
   intro i hi
   obtain ⟨cs',h1,h2⟩:=hel i hi
   obtain ⟨y,hy,hw⟩:=ih _ _ _ h2
   obtain ⟨_,hlen,hcell⟩:=World.cells?_some h1
   obtain ⟨y0,y1,y2,u⟩:=y
   match cs',hlen with
   | [c0,c1,c2],_=>
    obtain ⟨_,_,r0,⟨_,_,r1,⟨_,_,r2,_⟩,_⟩,_⟩:=hy
    have r0:c0= .int .i64 y0:=r0
    have r1:c1= .int .i64 y1:=r1
    have r2:c2= .int .i64 y2:=r2
    subst r0 r1 r2
    have g0:=hcell 0 (by omega)
    have g1:=hcell 1 (by omega)
    have g2:=hcell 2 (by omega)
    rw[add_add]at g0 g1 g2
    exact ⟨(y0,y1,y2),g0,g1,g2,Zjj hw.1,Zjj hw.2.1,Zjj hw.2.2.1⟩
  obtain ⟨Z,hZ⟩:=choose_lt each
  have hn:prOf a=none→m=0:=fun h=>Zi4 h (fun h0=>by simpa using (hZ 0 h0).1)
  have hlen:(List.map Z (List.range len)).length=len:=by simp
  refine ⟨_,rfl,(List.range len).map Z,⟨prOf a,m,⟨fun _=>⟨none,0,0,none⟩,some a⟩,?_,⟨by rw[hlen];exact hl,fun h=>⟨hn h,Zg9 h⟩,fun b o ea=>⟨fun i hi j hj=> ?_,fun h=>by cases h⟩,trivial⟩,fun b hb=> ?_⟩,by rw[hlen];omega,fun x hx=> ?_⟩
  ·simp only[slV,ZjO]
   rw[show (List.map Z (List.range len)).length=len from hlen]
  ·have hi':i<len:=by rw[←hlen];exact hi
   obtain ⟨g0,g1,g2,_⟩:=hZ i (by omega)
   rw[Zcu ea,ZcC]at g0 g1 g2
   simp only[E.sz]at hj⊢
   match j,hj with
   |0,_=>simp only[Nat.add_zero,elV];rw[g0];simp
   |1,_=>simp only[elV,Nat.add_assoc];rw[g1];simp
   |2,_=>simp only[elV,Nat.add_assoc];rw[g2];simp
  ·rcases hb with ⟨hp,o,ea⟩| ⟨en,_⟩
   ·refine ⟨.cell a.block (a.off+0),?_,by rw[Zcu ea];rfl⟩
    rw[hlen]at hp
    rw[hx]
    exact List.mem_append_left _ (ZjD (by omega))
   ·cases en
  ·simp only[List.mem_map,List.mem_range]at hx
   obtain ⟨i,hi,rfl⟩:=hx
   exact (hZ i (by omega)).2.2.2
theorem ZjM [Glb] {g:TypeId→Option (List LT)} {t:TypeId} {n:Nat} {cs:List Value} (hl:cs.length=P.cellsOf t)
  (ih: ∀(u:TypeId) (ts:List LT),g u=some ts→ ∀(cs:List Value) (x:DataW H×List MemPlace),DataW.trod enc P w 0 (fun _=>true) held n u cs=some x→ ∃y:Tup ts,Zbc w ts y cs noFp (blkP x.2)∧wfLs ts y):
  ∀(fl:List Field) (off:Nat) (ts:List LT) (xs:List (DataW H×List MemPlace)),Zje g P t fl off=some ts→xs.length=fl.length→
   (∀(i:Nat) (f:Field),fl[i]? =some f→DataW.trod enc P w 0 (fun _=>true) held n f.type ((cs.drop f.offset).take (P.cellsOf f.type))=xs[i]?)→
   ∃y:Tup ts,Zbc w ts y (cs.drop off) noFp (blkP (xs.flatMap (·.2)))∧wfLs ts y
 | [],off,ts,xs,h,hx,_=>by
  simp only[Zje]at h
  cases hb:Nat.beq off (P.cellsOf t)with
  |false=>rw[hb]at h;cases h
  |true=>
   rw[hb,cond_true,Option.some.injEq]at h
   subst h
   have:=Nat.eq_of_beq_eq_true hb
   rw[List.drop_eq_nil_of_le (by omega)]
   exact ⟨(),trivial,trivial⟩
 |f::fl,off,ts,xs,h,hx,hf=>by
  simp only[Zje]at h
  cases hb:Nat.beq f.offset off with
  |false=>rw[hb]at h;cases h
  |true=>
   rw[hb,cond_true]at h
   obtain rfl:=Nat.eq_of_beq_eq_true hb
   split at h
   ·rename_i a b ha hbb
    cases hb2:Nat.beq a.length (P.cellsOf f.type)with
    |false=>rw[hb2]at h;cases h
    |true=>
     rw[hb2,cond_true,Option.some.injEq]at h
     subst h
     cases xs with
     |nil=>simp at hx
     |cons x0 xs=>
      have h0:=hf 0 f rfl
      simp only[List.getElem?_cons_zero]at h0
      obtain ⟨y1,r1,w1⟩:=ih _ _ ha _ _ h0
      obtain ⟨y2,r2,w2⟩:=ZjM hl ih fl _ _ xs hbb (by simpa using hx) (fun i f' hf'=>by simpa using hf (i+1) f' (by simpa using hf'))
      refine ⟨catT a y1 y2,?_,wfLs.cat w1 w2⟩
      have e:cs.drop f.offset=(cs.drop f.offset).take (P.cellsOf f.type)++cs.drop (f.offset+P.cellsOf f.type):=by
       rw[←List.drop_drop,List.take_append_drop]
      rw[e]
      refine Zbc.cat (r1.mono (fun _ _ h=>h) fun b ⟨z,hz,hb⟩=>⟨z,by simp[hz],hb⟩) (r2.mono (fun _ _ h=>h) fun b ⟨z,hz,hb⟩=>⟨z,?_,hb⟩)
      simp only[List.flatMap_cons,List.mem_append]
      exact .inr hz
   ·cases h
theorem ZeZ [Glb]: ∀(n:Nat) (t:TypeId) (ts:List LT),Zeb P n t=some ts→ ∀(fuel:Nat) (cs:List Value) (x:DataW H×List MemPlace),DataW.trod enc P w 0 (fun _=>true) held fuel t cs=some x→
  ∃y:Tup ts,Zbc w ts y cs noFp (blkP x.2)∧wfLs ts y
 |0,_,_,h,_,_,_,_=>by cases h
 |n+1,t,ts,h,fuel,cs,x,hx=>by
  simp only[Zeb]at h
  have one: ∀{lt:LT},(∃v,cs=[v]∧ ∃l:lt.D,Za7 w lt l v noFp (blkP x.2)∧wfL lt l)→ ∃y:Tup [lt],Zbc w [lt] y cs noFp (blkP x.2)∧wfLs [lt] y:=by
   rintro lt ⟨v,rfl,l,h1,h2⟩
   exact ⟨(l,()),Zbc.one h1,h2,trivial⟩
  split at h
  ·rename_i k hu
   simp only[Option.some.injEq]at h
   subst h
   obtain ⟨m,rfl,_,hw⟩:=DataW.trod_int hu hx
   exact one ⟨_,rfl,m,rfl,hw⟩
  ·rename_i hu
   simp only[Option.some.injEq]at h
   subst h
   obtain ⟨b,rfl,_⟩:=DataW.trod_bool hu hx
   exact one ⟨_,rfl,b,rfl,trivial⟩
  ·rename_i hu
   simp only[Option.some.injEq]at h
   subst h
   obtain ⟨s,rfl,_,hw⟩:=DataW.trod_string hu hx
   exact one ⟨_,rfl,s,rfl,hw⟩
  ·rename_i e hu
   have key: ∀{ek:E},Zgw P t=some ek→P.cellsOf e=ek.sz∧Ziv P e=some ek:=fun {ek} he=>by
    obtain ⟨et,i,h1,h2,h3,_,_,h4⟩:=ZbL he
    rw[hu]at h1
    simp only[Option.some.injEq,TypeDesc.slice.injEq]at h1
    subst h1
    exact ⟨by simp[Program.cellsOf,h2,h3],h4⟩
   split at h
   ·rename_i he
    obtain ⟨k1,k2⟩:=key he
    simp only[Option.some.injEq]at h
    subst h
    exact one (Zlq (ek:= .i) hu (Zuo k2) k1 (.inl ⟨rfl,rfl⟩) hx)
   ·rename_i he
    obtain ⟨k1,k2⟩:=key he
    simp only[Option.some.injEq]at h
    subst h
    exact one (Zlq (ek:= .b) hu (Zun k2) k1 (.inr ⟨rfl,rfl⟩) hx)
   ·rename_i he
    obtain ⟨k1,k2⟩:=key he
    simp only[Option.some.injEq]at h
    subst h
    exact one (ZqE hu (Zuq k2) k1 hx)
   ·rename_i he
    obtain ⟨k1,k2⟩:=key he
    obtain ⟨q,hq1,hq2⟩:=Zup k2
    cases hb:Nat.beq (P.cellsOf (P.elem e)) 1 with
    |false=>rw[hb]at h;cases h
    |true=>
    rw[hb,cond_true,Option.some.injEq]at h
    subst h
    have kq:P.cellsOf q=1:=by
     have:P.elem e=q:=by simp[Program.elem,hq1]
     rw[this]at hb
     exact Nat.eq_of_beq_eq_true hb
    exact one (ZqD hu hq1 hq2 k1 kq hx)
   ·rename_i he
    obtain ⟨k1,k2⟩:=key he
    cases hb:recB (Zeb P n e)with
    |false=>rw[hb]at h;cases h
    |true=>
     rw[hb,cond_true,Option.some.injEq]at h
     subst h
     have hr:Zeb P n e=some [.int .i64, .int .i64, .int .i64]:=by
      unfold recB at hb
      split at hb
      ·assumption
      ·cases hb
     exact one (ZrX hu k1 (fun fuel cs x=>ZeZ n e _ hr fuel cs x) hx)
   ·cases h
  ·rename_i fs hu
   obtain ⟨xs,m,rfl,rfl,hl,hlen,hf⟩:=DataW.trod_struct hu hx
   have:=ZjM (g:=Zeb P n) (n:=m) hl (fun u ts hg cs x hh=>ZeZ n u ts hg m cs x hh) fs.toList 0 ts xs h (by simpa using hlen) (fun i f hi=>hf i f (by simpa using hi))
   simpa using this
  ·cases h
theorem ZuI [Glb] {r:Reach} {base:Nat} {t:TypeId} {ty:Ty} {v:Value} {d:DataW H} {ps:List MemPlace} (ht:tyT P t=some ty) (hv:Value.okWide P w r base t v) (h:DataW.Trod enc P w 0 (fun _=>true) held t v d ps):
  ∃y:ty.D,ZiV w ty y v noFp (blkP ps)∧wfT ty y:=by
 obtain ⟨fuel,h⟩:=h
 unfold tyT at ht
 split at ht
 ·rename_i fs hu
  split at ht
  ·rename_i ts hts
   simp only[Option.some.injEq]at ht
   subst ht
   simp only[Value.okWide,hu]at hv
   obtain ⟨cs,rfl,_,_⟩:=hv
   obtain ⟨y,h1,h2⟩:=ZeZ 20 t ts hts _ _ _ h
   exact ⟨y,⟨cs.toList,by simp,h1⟩,h2⟩
  ·cases ht
 ·rename_i hns
  split at ht
  ·rename_i lt hts
   simp only[Option.some.injEq]at ht
   subst ht
   obtain ⟨y,h1,h2⟩:=ZeZ 20 t _ hts _ _ _ h
   have hag: ∀cs,v≠ .agg cs:=by
    rintro cs rfl
    simp only[Zeb]at hts
    unfold Value.okWide at hv
    split at hts<;>simp_all [Cell.okWide,Cell.ok]
   have hc:v.cells= #[v]:=by
    cases v<;>first|rfl|exact absurd rfl (hag _)
   rw[hc]at h1
   obtain ⟨S1,S2,h1,_,_,h3,_⟩:=h1
   exact ⟨y.1,Za7.mono h1 h3 (fun _ h=>h),h2.1⟩
  ·cases ht
theorem ZiV.monoL [Glb] {L L':Nat→Prop} {t:Ty} {x:t.D} {v:Value} (hl: ∀b,L b→L' b) (hp:t.isP=false) (h:ZiV w t x v noFp L):ZiV w t x v noFp L':=by
 cases t with
 |v t=>exact Za7.mono h (fun _ _ h=>h) hl
 |a ts=>obtain ⟨cs,e,k⟩:=h;exact ⟨cs,e,k.mono (fun _ _ h=>h) hl⟩
 |p ts=>cases hp
 |r ts=>obtain ⟨b,o,cs,e,q1,q2,k,q3⟩:=h;exact ⟨b,o,cs,e,q1,q2,k.mono (fun _ _ h=>h) hl,hl b q3⟩
theorem Zam.monoL [Glb] {L L':Nat→Prop} (hl: ∀b,L b→L' b): ∀{ts:List Ty} {x:PTup ts} {vs:List Value},plains ts=true→Zam w ts x vs noFp L→Zam w ts x vs noFp L'
 | [],_,[],_,_=>trivial
 | [],_,_::_,_,h=>h.elim
 |_::_,_,[],_,h=>h.elim
 |t::ts,x,v::vs,hp,⟨S1,S2,h1,h2,h3,h4,h5⟩=>by
  simp only[plains,Bool.and_eq_true]at hp
  have n1:S1=noFp:=by funext b o;exact propext ⟨fun h=>h4 b o h,fun h=>h.elim⟩
  have n2:S2=noFp:=by funext b o;exact propext ⟨fun h=>h5 b o h,fun h=>h.elim⟩
  subst n1 n2
  exact ⟨noFp,noFp,h1.monoL hl (by cases t<;>first|rfl|cases hp.1),h2.monoL hl hp.2,h3,h4,h5⟩
theorem Zpl [Glb] {r:Reach} {base:Nat}: ∀{params:List TypeId} {tys:List Ty} {args:List Value} {ds:List (DataW H)} {ps:List MemPlace},tysT P params=some tys→plains tys=true→
  (∀(j:Nat) t v,params[j]? =some t→args[j]? =some v→Value.okWide P w r base t v)→DataW.TrodAll enc P w 0 (fun _=>true) held params args ds ps→
  ∃y:PTup tys,Zam w tys y args noFp (blkP ps)∧wfTs tys y
 | [],tys,args,ds,ps,h,_,_,ha=>by
  simp only[tysT,Option.some.injEq]at h
  subst h
  obtain ⟨rfl,rfl,rfl⟩:=trodAll_nil ha
  exact ⟨(),trivial,trivial⟩
 |t::params,tys,args,ds,ps,h,hp,hv,ha=>by
  simp only[tysT]at h
  split at h
  ·rename_i a b h1 h2
   simp only[Option.some.injEq]at h
   subst h
   obtain ⟨v,vs,d,ds',p,q,rfl,rfl,rfl,k1,k2⟩:=trodAll_cons ha
   simp only[plains,Bool.and_eq_true]at hp
   obtain ⟨y1,r1,w1⟩:=ZuI h1 (hv 0 t v rfl rfl) k1
   obtain ⟨y2,r2,w2⟩:=Zpl h2 hp.2 (fun j u x hj hx=>hv (j+1) u x (by simpa using hj) (by simpa using hx)) k2
   refine ⟨(y1,y2),⟨noFp,noFp,r1.monoL (fun b ⟨z,hz,hb⟩=>⟨z,List.mem_append_left _ hz,hb⟩) (by cases a<;>first|rfl|cases hp.1),r2.monoL (fun b ⟨z,hz,hb⟩=>⟨z,List.mem_append_right _ hz,hb⟩) hp.2,(fun _ _ h=>h.elim),(fun _ _ h=>h),(fun _ _ h=>h)⟩,w1,w2⟩
  ·cases h
theorem Zh6 {base:Nat} {spare:Nat→Bool}: ∀{params:List TypeId} {args:List Value} {ds:List (DataW H)} {ps:List MemPlace},DataW.TrodAll enc P w base spare held params args ds ps→ ∀x,x∈ps→x.block<w.heap.size
 | [],args,ds,ps,h=>by
  obtain ⟨rfl,rfl,rfl⟩:=trodAll_nil h
  intro x hx
  cases hx
 |t::params,args,ds,ps,h=>by
  obtain ⟨v,vs,d,ds',p,q,rfl,rfl,rfl,⟨n,k1⟩,k2⟩:=trodAll_cons h
  intro x hx
  rcases List.mem_append.1 hx with hx|hx
  ·exact DataW.trod_lt n _ _ _ k1 x hx
  ·exact Zh6 k2 x hx
def ZpD (P:Program):List TypeId→Bool| []=>true|t::r=>P.readableRec t&&(Nat.blt t P.types.size&&ZpD P r)
theorem Zhr [Glb] {w':World} (hl:laidOutB P=true) (hb:Go.RowKit.Below w.heap.size w w'): ∀{params:List TypeId} {args:List Value} {ds:List (DataW H)} {ps:List MemPlace},ZpD P params=true→DataW.TrodAll enc P w 0 (fun _=>true) true params args ds ps→
  DataW.TrodAll enc P w' 0 (fun b=>decide (b<w.heap.size)) true params args ds ps
 | [],args,ds,ps,_,h=>by
  obtain ⟨rfl,rfl,rfl⟩:=trodAll_nil h
  exact trodAll_mk0
 |t::params,args,ds,ps,hp,h=>by
  simp only[ZpD,Bool.and_eq_true]at hp
  have hlt:=Zh6 h
  obtain ⟨v,vs,d,ds',p,q,rfl,rfl,rfl,k1,k2⟩:=trodAll_cons h
  exact ⟨p,q,Go.RowKit.Below.trod hl hp.1 (Nat.le_of_ble_eq_true hp.2.1) k1 hb (fun x hx=>hlt x (List.mem_append_left _ hx)),Zhr hl hb hp.2.2 k2,rfl⟩
theorem ZrI [Glb] {g:FuncId} {ins:List Ty} {run:PTup ins→Option (PTup [.v .bool]×BTup ins)} {args:Array Value} {ps:List MemPlace} {y:PTup ins} (hk:Zal P g ⟨ins,[.v .bool],run, .nor⟩) (hy:Zam w ins y args.toList noFp (blkP ps)) (hl: ∀x,x∈ps→x.block<w.heap.size) (hg: ∀b,Glb.blk b→b<w.heap.size) (hgf:Glb.fact w)
  (hr: ∃b,run y=some ((true,()),b)):Calls P g args w fun e w'=>e= .returned (.bool true)∧Go.RowKit.Below w.heap.size w w':=by
 obtain ⟨b,hr⟩:=hr
 refine (hk.calls w y args.toList noFp (fun b=>blkP ps b∨Glb.blk b) (hy.mono (fun _ _ h=>h) (fun _ h=> .inl h)) (fun _ _ h=>h.elim) (fun _ _ h=>h.elim) (fun b h=>h.elim (fun ⟨x,hx,hb⟩=>hb▸hl x hx) (hg b)) (fun _ h=> .inr h) hgf _ hr).mono fun e w' h=> ?_
 obtain ⟨vs,SO,SB,rfl,ho,_,_,_,hf⟩:=h
 match vs,ho with
 | [v],⟨_,_,hv,_⟩=>
  have hv:v= .bool true:=hv
  subst hv
  exact ⟨rfl,hf.below⟩
end
end
theorem Zau {x:Int} (h1: -9223372036854775808≤x) (h2:x≤9223372036854775807):wI x=x:=by
 show IntKind.i64.wrap x=x
 rw[IntKind.wrap_i64];omega
theorem Zab {α:Type} (l:List α):lenI l=(l.length:Int):=rfl
theorem ZaA (e:E) (l:List e.C) (i:Nat) (h:i<l.length):rdE e l (i:Int)=l[i]:=by
 simp[rdE,List.getD,h]
theorem ZaW {i:Nat} (h:i<9223372036854775807):wI ((i:Int)+1)=((i+1:Nat):Int):=by
 rw[Zau (by omega) (by omega)];omega
theorem Zaj {x y:Int} (h:x<y):ltI x y=true:=decide_eq_true h
theorem ZaB {x y:Int} (h: ¬x<y):ltI x y=false:=decide_eq_false h
theorem Zao {x y:Int} (h:x≤y):leI x y=true:=decide_eq_true h
theorem Zf5 {x y:Int} (h: ¬x≤y):leI x y=false:=decide_eq_false h
theorem Zc5 {x y:Nat} (h:x≤y):leN x y=true:=decide_eq_true h
theorem ZgU (x y:Int):eqI x y=decide (x=y):=by unfold eqI;by_cases h:x=y<;>simp[h]
theorem ZvB (x y:Int):neI x y= !decide (x=y):=by unfold neI;by_cases h:x=y<;>simp[h]
theorem Zav {x y:Int} (h:x=y):eqI x y=true:=by simp[ZgU,h]
theorem Zaq {x y:Int} (h:x≠y):eqI x y=false:=by simp[ZgU,h]
theorem Zdh {x y:Int} (h:x≠y):neI x y=true:=by simp[ZvB,h]
theorem ZdJ {x y:Int} (h:x=y):neI x y=false:=by simp[ZvB,h]
theorem ZaY {α:Type} {l:List α} {i:Nat} (h:i<l.length):l.drop i=l[i]::l.drop (i+1):=(List.drop_eq_getElem_cons h)
theorem ZeY (x:Int):(BitVec.ofInt 64 x).toNat=(x%18446744073709551616).toNat:=by
 rw[BitVec.toNat_ofInt];rfl
theorem ZlJ (x:Int) (k:Nat) (hk:k≤32):bAnd .i64 x (2^k-1:Nat)=x% (2^k:Nat):=by
 have h2:2^k≤2^32:=Nat.pow_le_pow_right (by omega) hk
 have hpos:0<2^k:=Nat.pow_pos (by omega)
 have e1:(BitVec.ofInt 64 ((2^k-1:Nat):Int)).toNat=2^k-1:=by
  rw[ZeY]
  have:((2^k-1:Nat):Int)%18446744073709551616=((2^k-1:Nat):Int):=Int.emod_eq_of_lt (by omega) (by omega)
  rw[this];omega
 have e2:(BitVec.ofInt IntKind.i64.bits x&&&BitVec.ofInt IntKind.i64.bits ((2^k-1:Nat):Int)).toNat=(x% (2^k:Nat)).toNat:=by
  show (BitVec.ofInt 64 x&&&BitVec.ofInt 64 ((2^k-1:Nat):Int)).toNat=_
  rw[BitVec.toNat_and,e1,Nat.and_two_pow_sub_one_eq_mod,ZeY]
  have hd:((2^k:Nat):Int)∣18446744073709551616:=by
   have:(18446744073709551616:Int)=((2^k:Nat):Int)*((2^(64-k):Nat):Int):=by
    rw[←Int.natCast_mul,←Nat.pow_add,show k+(64-k)=64 by omega];rfl
   exact ⟨_,this⟩
  have h3:(x%18446744073709551616)% ((2^k:Nat):Int)=x% ((2^k:Nat):Int):=Int.emod_emod_of_dvd x hd
  have h4:0≤x%18446744073709551616:=Int.emod_nonneg _ (by omega)
  rw[←h3,Int.toNat_emod h4 (Int.natCast_nonneg _),Int.toNat_natCast]
 unfold bAnd
 rw[e2]
 have h5:0≤x% ((2^k:Nat):Int):=Int.emod_nonneg _ (by omega)
 have h6:x% ((2^k:Nat):Int)< ((2^k:Nat):Int):=Int.emod_lt_of_pos _ (by omega)
 rw[show (((x% ((2^k:Nat):Int)).toNat:Nat):Int)=x% ((2^k:Nat):Int) by omega]
 exact Zau (by omega) (by omega)
theorem ZiH (x:Int):bAnd .i64 x 255=x%256:=ZlJ x 8 (by omega)
theorem ZkU (x:Int):bAnd .i64 x 65535=x%65536:=ZlJ x 16 (by omega)
theorem Zq1 (x:Int):bAnd .i64 x 1=x%2:=ZlJ x 1 (by omega)
theorem Zdc {α T:Type} (F:Nat→Nat→List α→Option T) (l:List α) (good:List α→T) (h1: ∀k i out,(h:i<l.length)→out.length=i→F (k+1) i out=F k (i+1) (out++[l[i]]))
  (h2: ∀k out,out.length=l.length→F (k+1) l.length out=some (good out)): ∀(k i:Nat) (out:List α),i≤l.length→out.length=i→l.length-i<k→F k i out=some (good (out++l.drop i))
 |0,_,_,_,_,h=>absurd h (by omega)
 |k+1,i,out,hi,ho,hk=>by
  by_cases h:i<l.length
  ·rw[h1 k i out h ho,Zdc F l good h1 h2 k (i+1) _ (by omega) (by simp[ho]) (by omega),ZaY h]
   simp
  ·have:i=l.length:=by omega
   subst this
   rw[h2 k out ho,List.drop_length,List.append_nil]
theorem Zaa {A B:Type} {x:Option A} {y:A} {f:A→Option B} {z:Option B} (h:x=some y) (k:f y=z):x.bind f=z:=by rw[h];exact k
theorem Zfi {T:Type} (F:Nat→Nat→Option T) (n:Nat) (p:Nat→Bool) (good bad:T) (h1: ∀k i,i<n→p i=true→F (k+1) i=F k (i+1))
  (h2: ∀k i,i<n→p i=false→F (k+1) i=some bad) (h3: ∀k,F (k+1) n=some good): ∀(k i:Nat),i≤n→n-i<k→F k i=some (if (List.range' i (n-i)).all p then good else bad)
 |0,_,_,h=>absurd h (by omega)
 |k+1,i,hi,hk=>by
  by_cases h:i<n
  ·rw[show n-i=(n-(i+1))+1 by omega,List.range'_succ,List.all_cons]
   cases hq:p i with
   |true=>rw[h1 k i h hq,Zfi F n p good bad h1 h2 h3 k (i+1) (by omega) (by omega),Bool.true_and]
   |false=>rw[h2 k i h hq,Bool.false_and];rfl
  ·have:i=n:=by omega
   subst this
   rw[h3 k,Nat.sub_self]
   rfl
theorem ZaL {α T:Type} (F:Nat→Nat→Option T) (l:List α) (q:α→Bool) (good bad:T) (h1: ∀k i,(h:i<l.length)→q l[i]=true→F (k+1) i=F k (i+1))
  (h2: ∀k i,(h:i<l.length)→q l[i]=false→F (k+1) i=some bad) (h3: ∀k,F (k+1) l.length=some good): ∀(k i:Nat),i≤l.length→l.length-i<k→F k i=some (if (l.drop i).all q then good else bad)
 |0,_,_,h=>absurd h (by omega)
 |k+1,i,hi,hk=>by
  by_cases h:i<l.length
  ·rw[ZaY h,List.all_cons]
   cases hq:q l[i]with
   |true=>rw[h1 k i h hq,ZaL F l q good bad h1 h2 h3 k (i+1) (by omega) (by omega),Bool.true_and]
   |false=>rw[h2 k i h hq,Bool.false_and];rfl
  ·have:i=l.length:=by omega
   subst this
   rw[h3 k,List.drop_length]
   rfl
theorem ZaF {U V:Type} (c x:Bool) (u:U) (v:V):(bif c then some ((x,u),v)else some ((false,u),v))=some ((c&&x,u),v):=by cases c<;>rfl
theorem Zdx {U V:Type} (c x:Bool) (u:U) (v:V):(bif !c then some ((false,u),v)else some ((x,u),v))=some ((c&&x,u),v):=by cases c<;>rfl
theorem Zdd (a:Int):eqI a a=true:=Zav rfl
end Go.Tev
