/- Plain laws of the printed functions: Sim, Sim2. No condition beyond those that each lemma states. -/
import Derived.Test.YtleidaafbhojfaaGreatDoorPE
set_option linter.unusedVariables false
set_option linter.unusedSimpArgs false
namespace Go.Proofs.YtleidaafbhojfaaGreatDoor.Plain
open Go Go.Tev
theorem ZjQ {w v:Z6} {a b:Int} (hab:a≤b) (h:Z2 w a=some v):Z2 w b=some v:=by
 unfold Z2 at h⊢
 split at h
 ·rename_i hd;rw[if_pos hd];exact h
 ·rename_i hd
  rw[if_neg hd]
  split at h
  ·rename_i hm;rw[if_pos ⟨by omega,hm.2⟩];exact h
  ·cases h
theorem ZjR {w v:Z7} {a b:Int} (hab:a≤b) (h:Z3 w a=some v):Z3 w b=some v:=by
 unfold Z3 at h⊢
 split at h
 ·rename_i hd;rw[if_pos hd];exact h
 ·rename_i hd
  rw[if_neg hd]
  split at h
  ·rename_i hm;rw[if_pos ⟨by omega,hm.2⟩];exact h
  ·cases h
theorem Zcx {a b:Int} (hab:a≤b): ∀(n:Nat) {w:Z6},Yl w≤n→Q4 w→Qa w b=Qa (Qa w a) b
 |0,w,hn,h=>by
  cases hs:Z2 w a with
  |none=>rw[Kp hs]
  |some v=>have:=Vx h hs;omega
 |n+1,w,hn,h=>by
  cases hs:Z2 w a with
  |none=>rw[Kp hs]
  |some v=>
   rw[Vq h hs,Vq h (ZjQ hab hs)]
   exact Zcx hab n (by have:=Vx h hs;omega) (Kh h hs).1
theorem Zcy {a b:Int} (hab:a≤b): ∀(n:Nat) {w:Z7},Ym w≤n→QT w→ZK w b=ZK (ZK w a) b
 |0,w,hn,h=>by
  cases hs:Z3 w a with
  |none=>rw[Kq hs]
  |some v=>have:=Vy h hs;omega
 |n+1,w,hn,h=>by
  cases hs:Z3 w a with
  |none=>rw[Kq hs]
  |some v=>
   rw[Vr h hs,Vr h (ZjR hab hs)]
   exact Zcy hab n (by have:=Vy h hs;omega) (Ki h hs).1
theorem Znk {w:Z6} {m:Int} (h:Q4 w) (ht:w.ppu.T≤m) (hm:m≤20000) (hl: ∀x,x∈w.list→x.1≤m) (hs:Z2 w m=none):w.list=[]∧w.ppu.T=m:=by
 unfold Z2 at hs
 split at hs
 ·cases hs
 rename_i hd
 split at hs
 ·cases hs
 have e:w.ppu.T=m:=by omega
 refine ⟨?_,e⟩
 cases hw:w.list with
 |nil=>rfl
 |cons x l=>
  have h1:=hl x (by rw[hw];exact List.mem_cons_self)
  have h2:=h.lo x (by rw[hw];exact List.mem_cons_self)
  exact absurd (show due w.list w.ppu.T=true by rw[hw];exact decide_eq_true (by omega)) hd
theorem Znl {w:Z7} {m:Int} (h:QT w) (ht:w.apu.T≤m) (hm:m≤20000) (hl: ∀x,x∈w.list→x.1≤m) (hs:Z3 w m=none):w.list=[]∧w.apu.T=m:=by
 unfold Z3 at hs
 split at hs
 ·cases hs
 rename_i hd
 split at hs
 ·cases hs
 have e:w.apu.T=m:=by omega
 refine ⟨?_,e⟩
 cases hw:w.list with
 |nil=>rfl
 |cons x l=>
  have h1:=hl x (by rw[hw];exact List.mem_cons_self)
  have h2:=h.lo x (by rw[hw];exact List.mem_cons_self)
  exact absurd (show due w.list w.apu.T=true by rw[hw];exact decide_eq_true (by omega)) hd
theorem ZoK {w:Z6} {m:Int} (hl:w.list=[]) (ht:m≤w.ppu.T):Z2 w m=none:=by
 unfold Z2
 rw[if_neg (by rw[hl];simp[due]),if_neg (by omega)]
theorem ZoL {w:Z7} {m:Int} (hl:w.list=[]) (ht:m≤w.apu.T):Z3 w m=none:=by
 unfold Z3
 rw[if_neg (by rw[hl];simp[due]),if_neg (by omega)]
theorem Zfa {s:Zc} (h:Zq s):((Qa s.pic s.T).list=[]∧(Qa s.pic s.T).ppu.T=s.T)∧(ZK s.snd s.T).list=[]∧(ZK s.snd s.T).apu.T=s.T:=by
 obtain ⟨p,a,b⟩:=Ux h
 exact ⟨Znk p.pic p.pt p.t.2 p.pl a,Znl p.snd p.st p.t.2 p.sl b⟩
def VY (w:Z6) (x:Rc):Z6:={w with list:=w.list++[x]}
def VZ (w:Z7) (x:Rc):Z7:={w with list:=w.list++[x]}
theorem ZkM {w v:Z6} {m:Int} {x:Rc} (hx:x.1=m) (h:Z2 w m=some v):Z2 (VY w x) m=some (VY v x):=by
 obtain ⟨p,cap,l,f⟩:=w
 unfold VY
 unfold Z2 at h⊢
 cases l with
 |nil=>
  simp only[due,Bool.false_eq_true,if_false]at h
  split at h
  ·rename_i hm
   simp only[Option.some.injEq]at h
   subst h
   simp only[List.nil_append,due]
   rw[if_neg (by simp only[decide_eq_true_eq];omega),if_pos hm]
  ·cases h
 |cons y ys=>
  simp only[List.cons_append,due,Q8,List.tail_cons]at h⊢
  split at h
  ·rename_i hd
   simp only[Option.some.injEq]at h
   subst h
   rw[if_pos hd]
  ·rename_i hd
   rw[if_neg hd]
   split at h
   ·rename_i hm
    simp only[Option.some.injEq]at h
    subst h
    rw[if_pos hm]
    rfl
   ·cases h
theorem ZkN {w v:Z7} {m:Int} {x:Rc} (hx:x.1=m) (h:Z3 w m=some v):Z3 (VZ w x) m=some (VZ v x):=by
 obtain ⟨p,cap,l,f⟩:=w
 unfold VZ
 unfold Z3 at h⊢
 cases l with
 |nil=>
  simp only[due,Bool.false_eq_true,if_false]at h
  split at h
  ·rename_i hm
   simp only[Option.some.injEq]at h
   subst h
   simp only[List.nil_append,due]
   rw[if_neg (by simp only[decide_eq_true_eq];omega),if_pos hm]
  ·cases h
 |cons y ys=>
  simp only[List.cons_append,due,Q8,List.tail_cons]at h⊢
  split at h
  ·rename_i hd
   simp only[Option.some.injEq]at h
   subst h
   rw[if_pos hd]
  ·rename_i hd
   rw[if_neg hd]
   split at h
   ·rename_i hm
    simp only[Option.some.injEq]at h
    subst h
    rw[if_pos hm]
    rfl
   ·cases h
theorem ZhP {m:Int} {x:Rc} (hx:x.1=m) (hm:m≤20000): ∀(n:Nat) {w:Z6},Yl w≤n→Q4 w→Q4 (VY w x)→w.ppu.T≤m→(∀y,y∈w.list→y.1≤m)→
  Qa (VY w x) m={Qa w m with ppu:=Je (Qa w m).ppu x.2.1 x.2.2}:=by
 have none': ∀{w:Z6},Q4 w→Q4 (VY w x)→w.ppu.T≤m→(∀y,y∈w.list→y.1≤m)→Z2 w m=none→Qa (VY w x) m={Qa w m with ppu:=Je (Qa w m).ppu x.2.1 x.2.2}:=fun {w} h ha ht hl hs=>by
  obtain ⟨e,et⟩:=Znk h ht hm hl hs
  rw[Kp hs]
  obtain ⟨p,cap,l,f⟩:=w
  have e:l=[]:=e
  have et:p.T=m:=et
  subst e
  have h1:Z2 (VY ⟨p,cap,[],f⟩ x) m=some ⟨Je p x.2.1 x.2.2,cap,[],f⟩:=by
   unfold Z2 VY
   simp only[List.nil_append,due,Q8,List.tail_cons]
   rw[if_pos (by simp only[decide_eq_true_eq];omega)]
  rw[Vq ha h1]
  exact Kp (ZoK rfl (by show m≤(Je p _ _).T;rw[Wy];omega))
 intro n
 induction n with
 |zero=>
  intro w hn h ha ht hl
  cases hs:Z2 w m with
  |none=>exact none' h ha ht hl hs
  |some v=>have:=Vx h hs;omega
 |succ n ih=>
  intro w hn h ha ht hl
  cases hs:Z2 w m with
  |none=>exact none' h ha ht hl hs
  |some v=>
   have ha':=ZkM hx hs
   rw[Vq h hs,Vq ha ha']
   obtain ⟨a,b,c,d⟩:=Kh h hs
   exact ih (by have:=Vx h hs;omega) a (Kh ha ha').1 (by rcases d with d|d<;>omega) fun y hy=>hl y (c y hy)
theorem Zc6 {m:Int} {x:Rc} (hx:x.1=m) (hm:m≤20000): ∀(n:Nat) {w:Z7},Ym w≤n→QT w→QT (VZ w x)→w.apu.T≤m→(∀y,y∈w.list→y.1≤m)→
  ZK (VZ w x) m={ZK w m with apu:=J3 (ZK w m).apu x.2.1 x.2.2}:=by
 have none': ∀{w:Z7},QT w→QT (VZ w x)→w.apu.T≤m→(∀y,y∈w.list→y.1≤m)→Z3 w m=none→ZK (VZ w x) m={ZK w m with apu:=J3 (ZK w m).apu x.2.1 x.2.2}:=fun {w} h ha ht hl hs=>by
  obtain ⟨e,et⟩:=Znl h ht hm hl hs
  rw[Kq hs]
  obtain ⟨p,cap,l,f⟩:=w
  have e:l=[]:=e
  have et:p.T=m:=et
  subst e
  have h1:Z3 (VZ ⟨p,cap,[],f⟩ x) m=some ⟨J3 p x.2.1 x.2.2,cap,[],f⟩:=by
   unfold Z3 VZ
   simp only[List.nil_append,due,Q8,List.tail_cons]
   rw[if_pos (by simp only[decide_eq_true_eq];omega)]
  rw[Vr ha h1]
  exact Kq (ZoL rfl (by show m≤(J3 p _ _).T;rw[ZdP];omega))
 intro n
 induction n with
 |zero=>
  intro w hn h ha ht hl
  cases hs:Z3 w m with
  |none=>exact none' h ha ht hl hs
  |some v=>have:=Vy h hs;omega
 |succ n ih=>
  intro w hn h ha ht hl
  cases hs:Z3 w m with
  |none=>exact none' h ha ht hl hs
  |some v=>
   have ha':=ZkN hx hs
   rw[Vr h hs,Vr ha ha']
   obtain ⟨a,b,c,d⟩:=Ki h hs
   exact ih (by have:=Vy h hs;omega) a (Ki ha ha').1 (by rcases d with d|d<;>omega) fun y hy=>hl y (c y hy)
def ZoE (w:Z6):Z6:={w with ppu:=QX w.ppu,frames:=if Js w.ppu then w.frames++[JZ w.ppu]else w.frames}
def ZoD (w:Z7):Z7:={w with apu:=KL w.apu,samples:=if Yd w.apu then w.samples++[KJ w.apu]else w.samples}
def ZjZ:Nat→Z6→Z6|0,w=>w|n+1,w=>ZjZ n (ZoE w)
def ZjY:Nat→Z7→Z7|0,w=>w|n+1,w=>ZjY n (ZoD w)
theorem ZmL {w:Z6} {m:Int} (hl:w.list=[]) (ht:w.ppu.T<m) (hm:w.ppu.T<20000):Z2 w m=some (ZoE w):=by
 unfold Z2
 rw[if_neg (by rw[hl];simp[due]),if_pos ⟨ht,hm⟩]
 rfl
theorem ZmK {w:Z7} {m:Int} (hl:w.list=[]) (ht:w.apu.T<m) (hm:w.apu.T<20000):Z3 w m=some (ZoD w):=by
 unfold Z3
 rw[if_neg (by rw[hl];simp[due]),if_pos ⟨ht,hm⟩]
 rfl
theorem Zc9: ∀(n:Nat) {w:Z6},Q4 w→w.list=[]→w.ppu.T+n≤20000→Qa w (w.ppu.T+n)=ZjZ n w
 |0,w,h,hl,ht=>Kp (ZoK hl (by omega))
 |n+1,w,h,hl,ht=>by
  have hs:=ZmL (w:=w) (m:=w.ppu.T+((n+1:Nat):Int)) hl (by omega) (by omega)
  rw[Vq h hs]
  have e:(ZoE w).ppu.T=w.ppu.T+1:=Wv _
  have ih:=Zc9 n (Kh h hs).1 (show (ZoE w).list=[]from hl) (by rw[e];omega)
  rw[e,show w.ppu.T+1+(n:Int)=w.ppu.T+((n+1:Nat):Int) by omega]at ih
  exact ih
theorem Zc8: ∀(n:Nat) {w:Z7},QT w→w.list=[]→w.apu.T+n≤20000→ZK w (w.apu.T+n)=ZjY n w
 |0,w,h,hl,ht=>Kq (ZoL hl (by omega))
 |n+1,w,h,hl,ht=>by
  have hs:=ZmK (w:=w) (m:=w.apu.T+((n+1:Nat):Int)) hl (by omega) (by omega)
  rw[Vr h hs]
  have e:(ZoD w).apu.T=w.apu.T+1:=rfl
  have ih:=Zc8 n (Ki h hs).1 (show (ZoD w).list=[]from hl) (by rw[e];omega)
  rw[e,show w.apu.T+1+(n:Int)=w.apu.T+((n+1:Nat):Int) by omega]at ih
  exact ih
theorem ZhB: ∀(n:Nat) (l:Zm) (w:Z6),w.ppu=l.ppu→w.frames=l.frames→(ZjZ n w).ppu=(ZU n l).ppu∧(ZjZ n w).frames=(ZU n l).frames
 |0,_,_,a,b=>⟨a,b⟩
 |n+1,l,w,a,b=>ZhB n (Jh l) (ZoE w) (by show QX w.ppu=QX l.ppu;rw[a]) (by show (if Js w.ppu then w.frames++[JZ w.ppu]else w.frames)=(if Js l.ppu then l.frames++[JZ l.ppu]else l.frames);rw[a,b])
theorem ZhC: ∀(n:Nat) (l:Zm) (w:Z7),w.apu=l.apu→w.samples=l.samples→(ZjY n w).apu=(ZU n l).apu∧(ZjY n w).samples=(ZU n l).samples
 |0,_,_,a,b=>⟨a,b⟩
 |n+1,l,w,a,b=>ZhC n (Jh l) (ZoD w) (by show KL w.apu=KL l.apu;rw[a]) (by show (if Yd w.apu then w.samples++[KJ w.apu]else w.samples)=(if Yd l.apu then l.samples++[KJ l.apu]else l.samples);rw[a,b])
theorem Zhy (p:ZJ):(QX p).ctrl=p.ctrl:=by
 unfold QX
 repeat' split
 all_goals rfl
theorem Zgr: ∀(n:Nat) (l:Zm),(ZU n l).cpu=l.cpu∧(ZU n l).pad=l.pad∧(ZU n l).ppu.ctrl=l.ppu.ctrl∧(ZU n l).steps=l.steps
 |0,_=>⟨rfl,rfl,rfl,rfl⟩
 |n+1,l=>by
  obtain ⟨a,b,c,d⟩:=Zgr n (Jh l)
  exact ⟨a,b,c.trans (Zhy _),d⟩
theorem ZhA: ∀(n:Nat) (l:Zm),(ZU n l).nmi=(l.nmi|| (ltI 127 l.ppu.ctrl&&Vp l.ppu.T (l.ppu.T+n)))
 |0,l=>by
  rw[show Vp l.ppu.T (l.ppu.T+((0:Nat):Int))=false from decide_eq_false (by omega),Bool.and_false,Bool.or_false]
  rfl
 |n+1,l=>by
  show (ZU n (Jh l)).nmi=_
  rw[ZhA n (Jh l),show (Jh l).ppu.ctrl=l.ppu.ctrl from Zhy _,Zgq,show (Jh l).nmi=(l.nmi|| (decide (l.ppu.T%64=48)&&ltI 127 l.ppu.ctrl))from rfl]
  rw[show Vp l.ppu.T (l.ppu.T+((n+1:Nat):Int))=(decide (l.ppu.T%64=48)||Vp (l.ppu.T+1) (l.ppu.T+1+n)) by unfold Vp;rw[←Bool.decide_or];exact decide_eq_decide.2 (by omega)]
  cases l.nmi<;>cases ltI 127 l.ppu.ctrl<;>cases decide (l.ppu.T%64=48)<;>simp
theorem Zox {a:Qj} (h:a.T%32≠0):(KL a).irq=a.irq:=by
 show (V2 (KY a)).irq=a.irq
 have e:(KY a).irq=a.irq∧(KY a).T=a.T:=by
  unfold KY
  repeat' split
  all_goals exact ⟨rfl,rfl⟩
 unfold V2
 rw[if_neg (by rw[e.2];omega)]
 exact e.1
theorem Zhz: ∀(n:Nat) (l:Zm),Jv l.apu.T (l.apu.T+n)=false→(ZU n l).apu.irq=l.apu.irq
 |0,l,_=>rfl
 |n+1,l,h=>by
  have h:=of_decide_eq_false h
  show (ZU n (Jh l)).apu.irq=_
  rw[Zhz n (Jh l) (decide_eq_false (by show¬(l.apu.T+1+31)/32< (l.apu.T+1+n+31)/32;omega))]
  exact Zox (by omega)
def ZF (s:Zc):Zm:=⟨s.img,s.pads,s.mem,s.cpu,(Qa s.pic s.T).ppu,(ZK s.snd s.T).apu,s.pad,s.nmi,s.steps,(Qa s.pic s.T).frames,(ZK s.snd s.T).samples,s.reads⟩
structure JR (s:Zc):Prop where
 p:Zq s
 ctrl:s.ctrl=(Qa s.pic s.T).ppu.ctrl
 known:Jv s.knownAt s.T=false→s.known=(ZK s.snd s.T).apu.irq
theorem Zih {s:Zc} (h:Zq s):(ZF s).ppu.T=s.T∧(ZF s).apu.T=s.T:=⟨(Zfa h).1.2,(Zfa h).2.2⟩
theorem Zn1 {s:Zc} (h:Xr s=true):s.pic.list=[]∧s.pic.ppu.T=s.T:=by
 unfold Xr at h
 rw[Bool.and_eq_true,Xk,Xk]at h
 exact ⟨List.eq_nil_of_length_eq_zero (by omega),h.1⟩
theorem Zom {s:Zc} (h:JW s=true):s.snd.list=[]∧s.snd.apu.T=s.T:=by
 unfold JW at h
 rw[Bool.and_eq_true,Xk,Xk]at h
 exact ⟨List.eq_nil_of_length_eq_zero (by omega),h.1⟩
theorem ZqZ {s:Zc} (h:Xr s=true):Qa s.pic s.T=s.pic:=by
 obtain ⟨a,b⟩:=Zn1 h
 exact Kp (ZoK a (by omega))
theorem ZkF {s:Zc} (h:JW s=true):ZK s.snd s.T=s.snd:=by
 obtain ⟨a,b⟩:=Zom h
 exact Kq (ZoL a (by omega))
theorem Zpi {s:Zc} (h:JR s) {b:Bool} (hb:b=(ZK s.snd s.T).apu.irq):JR (Jk s b):=by
 obtain ⟨⟨m,ps,c,pc,sd,d,ct,t,kn,st,pt,sdt,pl,sl⟩,hc,hk⟩:=h
 exact ⟨⟨m,ps,c,pc,sd,d,ct,t,⟨t.1,Int.le_refl _⟩,st,pt,sdt,pl,sl⟩,hc,fun _=>hb⟩
theorem Zjg {s:Zc} (h:JR s) (hw:Jm s=true→JW s=true):JR (Zw s)∧ZF (Zw s)=ZF s:=by
 unfold Zw
 cases hm:Jm s with
 |true=>
  rw[if_pos rfl]
  exact ⟨Zpi h (by rw[ZkF (hw hm)]),rfl⟩
 |false=>rw[if_neg (by simp)];exact ⟨h,rfl⟩
theorem Zi6 {s:Zc} (h:JR s) (v:Int):JR (Wa s v)∧ZF (Wa s v)=Jx (ZF s) v:=⟨⟨Zib h.p v,h.ctrl,h.known⟩,rfl⟩
theorem ZhY {s:Zc} (h:JR s) (op arg v:Int):JR (Uo s op arg v)∧ZF (Uo s op arg v)=ZiS (ZF s) op arg v:=⟨⟨ZhX h.p op arg v,h.ctrl,h.known⟩,rfl⟩
theorem Zmv (p:ZJ) (r:Int):(Jq p r).ctrl=p.ctrl:=by
 unfold Jq
 repeat' split
 all_goals rfl
theorem ZpM {s:Zc} (h:JR s) (a:Int) (h2:(rgT a).1=2→Xr s=true) (h3:(rgT a).1=3→JW s=true):
  JR (Jz s a)∧ZF (Jz s a)=Jp (ZF s) a∧Kd s a=KG (ZF s) a:=by
 have hP:=Zky h.p a
 obtain ⟨eT,eU⟩:=Zih h.p
 unfold Jz at hP⊢
 unfold Jp Kd KG
 by_cases e2:(rgT a).1=2
 ·simp only[if_pos e2]at hP⊢
  have hc:=ZqZ (h2 e2)
  obtain ⟨hl,ht⟩:=Zn1 (h2 e2)
  have hn:Qa {s.pic with ppu:=Jq s.pic.ppu (rgT a).2} s.T={s.pic with ppu:=Jq s.pic.ppu (rgT a).2}:=Kp (ZoK hl (by show s.T≤(Jq _ _).T;rw[Wn];omega))
  have hct:=h.ctrl
  rw[hc]at hct
  refine ⟨⟨hP,?_,h.known⟩,?_,?_⟩
  ·show s.ctrl=(Qa {s.pic with ppu:=Jq s.pic.ppu (rgT a).2} s.T).ppu.ctrl
   rw[hn]
   exact hct.trans (Zmv _ _).symm
  ·unfold ZF
   simp only[hn,hc]
  ·show Kc s.pic.ppu _=Kc (Qa s.pic s.T).ppu _
   rw[hc]
 simp only[if_neg e2]at hP⊢
 by_cases e3:(rgT a).1=3
 ·simp only[if_pos e3]at hP⊢
  have hc:=ZkF (h3 e3)
  obtain ⟨hl,ht⟩:=Zom (h3 e3)
  have hn:ZK {s.snd with apu:=JM s.snd.apu (rgT a).2} s.T={s.snd with apu:=JM s.snd.apu (rgT a).2}:=Kq (ZoL hl (by show s.T≤(JM _ _).T;rw[ZfZ];omega))
  have hkn:=h.known
  rw[hc]at hkn
  by_cases e22:(rgT a).2=2
  ·simp only[if_pos e22]at hP⊢
   refine ⟨⟨hP,h.ctrl,fun _=> ?_⟩,?_,?_⟩
   ·show false=(ZK {s.snd with apu:=JM s.snd.apu (rgT a).2} s.T).apu.irq
    rw[hn,e22]
    rfl
   ·unfold ZF
    simp only[hn,hc]
   ·show YV s.snd.apu _=YV (ZK s.snd s.T).apu _
    rw[hc]
  ·simp only[if_neg e22]at hP⊢
   refine ⟨⟨hP,h.ctrl,fun hb=> ?_⟩,?_,?_⟩
   ·show s.known=(ZK {s.snd with apu:=JM s.snd.apu (rgT a).2} s.T).apu.irq
    rw[hn]
    show s.known=(JM s.snd.apu (rgT a).2).irq
    rw[JM,if_neg e22]
    exact hkn hb
   ·unfold ZF
    simp only[hn,hc]
   ·show YV s.snd.apu _=YV (ZK s.snd s.T).apu _
    rw[hc]
 simp only[if_neg e3]at hP⊢
 by_cases e4:(rgT a).1=4
 ·simp only[if_pos e4]at hP⊢
  rw[eT]
  exact ⟨⟨hP,h.ctrl,h.known⟩,rfl,rfl⟩
 ·simp only[if_neg e4]at hP⊢
  exact ⟨h,trivial,rfl⟩
theorem ZkU (p:ZJ) (r v:Int):(Je p r v).ctrl=if r=0 then v%256 else p.ctrl:=by
 unfold Je
 by_cases h:r=0
 ·rw[if_pos h,if_pos h]
 ·rw[if_neg h,if_neg h]
  repeat' split
  all_goals rfl
theorem ZhF (a:Qj) (r v:Int):(J3 a r v).irq=if r=3∨r=2∧v%2=0 then false else a.irq:=by
 unfold J3
 by_cases h0:r=0
 ·rw[if_pos h0,if_neg (by omega)]
 rw[if_neg h0]
 by_cases h1:r=1
 ·rw[if_pos h1,if_neg (by omega)]
 rw[if_neg h1]
 by_cases h2:r=2
 ·rw[if_pos h2]
  by_cases hv:v%2=0
  ·rw[if_pos (.inr ⟨h2,hv⟩),show eqI ((v%256)%2) 1=false from Zd (by omega),Bool.and_false]
  ·rw[if_neg (by omega),show eqI ((v%256)%2) 1=true from Zi (by omega),Bool.and_true]
 rw[if_neg h2]
 by_cases h3:r=3
 ·rw[if_pos h3,if_pos (.inl h3)]
 ·rw[if_neg h3,if_neg (by omega)]
theorem ZoU {s:Zc} (h:JR s) {a v:Int} (hv:0≤v∧v≤255) (r1:(rgT a).1=2→(s.pic.list.length:Int)<s.pic.cap) (r2:(rgT a).1=3→(s.snd.list.length:Int)<s.snd.cap):
  JR (JC s a v)∧ZF (JC s a v)=Jt (ZF s) a v:=by
 have hP:=Ze0 h.p hv r1 r2
 obtain ⟨eT,eU⟩:=Zih h.p
 unfold JC at hP⊢
 unfold Jt
 by_cases e2:(rgT a).1=2
 ·simp only[if_pos e2]at hP⊢
  have hc:Qa {s.pic with list:=s.pic.list++[(s.T,((rgT a).2,v))]} s.T={Qa s.pic s.T with ppu:=Je (Qa s.pic s.T).ppu (rgT a).2 v}:=
   ZhP (x:=(s.T,((rgT a).2,v))) rfl h.p.t.2 _ (Nat.le_refl _) h.p.pic hP.pic h.p.pt h.p.pl
  refine ⟨⟨hP,?_,h.known⟩,?_⟩
  ·show (if (rgT a).2=0 then v else s.ctrl)=(Qa {s.pic with list:=s.pic.list++[(s.T,((rgT a).2,v))]} s.T).ppu.ctrl
   rw[hc,h.ctrl]
   show _=(Je _ _ _).ctrl
   rw[ZkU,show v%256=v by omega]
  ·unfold ZF
   simp only[hc]
 simp only[if_neg e2]at hP⊢
 by_cases e3:(rgT a).1=3
 ·simp only[if_pos e3]at hP⊢
  by_cases e4:(rgT a).2=3∨(rgT a).2=2∧v%2=0
  ·simp only[if_pos e4]at hP⊢
   have hc:ZK {s.snd with list:=s.snd.list++[(s.T,((rgT a).2,v))]} s.T={ZK s.snd s.T with apu:=J3 (ZK s.snd s.T).apu (rgT a).2 v}:=
    Zc6 (x:=(s.T,((rgT a).2,v))) rfl h.p.t.2 _ (Nat.le_refl _) h.p.snd hP.snd h.p.st h.p.sl
   refine ⟨⟨hP,h.ctrl,fun _=> ?_⟩,?_⟩
   ·show false=(ZK {s.snd with list:=s.snd.list++[(s.T,((rgT a).2,v))]} s.T).apu.irq
    rw[hc]
    show _=(J3 _ _ _).irq
    rw[ZhF,if_pos e4]
   ·unfold ZF
    simp only[hc]
  ·simp only[if_neg e4]at hP⊢
   have hc:ZK {s.snd with list:=s.snd.list++[(s.T,((rgT a).2,v))]} s.T={ZK s.snd s.T with apu:=J3 (ZK s.snd s.T).apu (rgT a).2 v}:=
    Zc6 (x:=(s.T,((rgT a).2,v))) rfl h.p.t.2 _ (Nat.le_refl _) h.p.snd hP.snd h.p.st h.p.sl
   refine ⟨⟨hP,h.ctrl,fun hb=> ?_⟩,?_⟩
   ·show s.known=(ZK {s.snd with list:=s.snd.list++[(s.T,((rgT a).2,v))]} s.T).apu.irq
    rw[hc]
    show _=(J3 _ _ _).irq
    rw[ZhF,if_neg e4]
    exact h.known hb
   ·unfold ZF
    simp only[hc]
 simp only[if_neg e3]at hP⊢
 by_cases e4:(rgT a).1=4
 ·simp only[if_pos e4,eT]at hP⊢
  exact ⟨⟨hP,h.ctrl,h.known⟩,rfl⟩
 ·simp only[if_neg e4]at hP⊢
  exact ⟨⟨hP,h.ctrl,h.known⟩,rfl⟩
theorem Zpu {a b:Zm} (h1:a.img=b.img) (h2:a.pads=b.pads) (h3:a.mem=b.mem) (h4:a.cpu=b.cpu) (h5:a.ppu=b.ppu) (h6:a.apu=b.apu) (h7:a.pad=b.pad) (h8:a.nmi=b.nmi) (h9:a.steps=b.steps)
  (h10:a.frames=b.frames) (h11:a.samples=b.samples) (h12:a.reads=b.reads):a=b:=by
 cases a
 cases b
 simp only at*
 subst h1 h2 h3 h4 h5 h6 h7 h8 h9 h10 h11 h12
 rfl
theorem ZqC {s:Zc} {n:Int} (h:JR s) (hn:s.nmi=false) (n0:0≤n) (ht:s.T+n≤20000) (hP:Zq (WJ s.T (s,n))):
  JR (WJ s.T (s,n))∧ZF (WJ s.T (s,n))={ZU n.toNat (ZF s)with steps:=(ZU n.toNat (ZF s)).steps+1}:=by
 have hL:=(Ux h.p).1
 obtain ⟨⟨c1,c2⟩,c3,c4⟩:=Zfa h.p
 have hn':s.T+n=s.T+(n.toNat:Int):=by omega
 have e1:Qa s.pic (s.T+n)=ZjZ n.toNat (Qa s.pic s.T):=by
  rw[Zcx (a:=s.T) (by omega) _ (Nat.le_refl _) h.p.pic,hn']
  have:=Zc9 n.toNat (w:=Qa s.pic s.T) hL.pic c1 (by rw[c2];omega)
  rw[c2]at this
  exact this
 have e2:ZK s.snd (s.T+n)=ZjY n.toNat (ZK s.snd s.T):=by
  rw[Zcy (a:=s.T) (by omega) _ (Nat.le_refl _) h.p.snd,hn']
  have:=Zc8 n.toNat (w:=ZK s.snd s.T) hL.snd c3 (by rw[c4];omega)
  rw[c4]at this
  exact this
 obtain ⟨p1,p2⟩:=ZhB n.toNat (ZF s) (Qa s.pic s.T) rfl rfl
 obtain ⟨u1,u2⟩:=ZhC n.toNat (ZF s) (ZK s.snd s.T) rfl rfl
 obtain ⟨q1,q2,q3,q4⟩:=Zgr n.toNat (ZF s)
 obtain ⟨r1,r2,r3,r4,r5⟩:=Zar n.toNat (ZF s)
 have qn:=ZhA n.toNat (ZF s)
 rw[show (ZF s).nmi=s.nmi from rfl,hn,Bool.false_or,show (ZF s).ppu.T=s.T from c2,←hn',show (ZF s).ppu.ctrl=s.ctrl from h.ctrl.symm]at qn
 have qi:=Zhz n.toNat (ZF s)
 rw[show (ZF s).apu.T=s.T from c4,←hn']at qi
 refine ⟨⟨hP,?_,fun hb=> ?_⟩,Zpu r1.symm r2.symm r3.symm q1.symm ?_ ?_ q2.symm qn.symm ?_ ?_ ?_ r5.symm⟩
 ·show s.ctrl=(Qa s.pic (s.T+n)).ppu.ctrl
  rw[e1,p1,q3]
  exact h.ctrl
 ·have hb:Jv s.knownAt (s.T+n)=false:=hb
  show s.known=(ZK s.snd (s.T+n)).apu.irq
  have h1:=of_decide_eq_false hb
  have hk:=h.p.known
  rw[e2,u1,qi (decide_eq_false (by omega))]
  exact h.known (decide_eq_false (by omega))
 ·show (Qa s.pic (s.T+n)).ppu=_
  rw[e1,p1]
 ·show (ZK s.snd (s.T+n)).apu=_
  rw[e2,u1]
 ·show s.steps+1=(ZU n.toNat (ZF s)).steps+1
  rw[q4]
  rfl
 ·show (Qa s.pic (s.T+n)).frames=_
  rw[e1,p2]
 ·show (ZK s.snd (s.T+n)).samples=_
  rw[e2,u2]
theorem ZpO {s:Zc} (h:JR s) (hw:QG s=0):QH (ZF s)=true∧JR (Yq s)∧ZF (Yq s)=QF (ZF s):=by
 have hPs:=(Zgm h.p hw).1
 obtain ⟨eT,eU⟩:=Zih h.p
 obtain ⟨e1,e2,e3,e4,e5,e6,e7,e8,e9,e10⟩:=ZcT s
 have key: ∃s' n,JY (Zw s)=(s',n)∧JR s'∧s'.nmi=false∧ZF s'=doL (ZF s)∧Qz (ZF s)=n∧s'.T=s.T∧s.T+n≤20000∧0≤n:=by
  have hwt:=hw
  unfold QG at hw
  unfold JY
  rw[e7]
  cases hn:s.nmi with
  |true=>
   rw[hn,if_pos rfl]at hw
   rw[if_pos rfl]
   have hm:Jm s=false:=by unfold Jm;rw[hn];rfl
   obtain ⟨L1,L2⟩:=Zjg h (fun h=>by rw[hm]at h;cases h)
   have L1':JR {Zw s with nmi:=false}:=⟨⟨L1.p.mem,L1.p.pads,L1.p.cpu,L1.p.pic,L1.p.snd,L1.p.pad,L1.p.ctrl,L1.p.t,L1.p.known,L1.p.steps,L1.p.pt,L1.p.st,L1.p.pl,L1.p.sl⟩,L1.ctrl,L1.known⟩
   obtain ⟨I1,I2⟩:=Zi6 L1' 65530
   refine ⟨_,_,rfl,I1,rfl,?_,?_,e6,Wg hw,by omega⟩
   ·rw[I2]
    unfold doL
    rw[show (ZF s).nmi=true from hn,if_pos rfl,←L2]
    rfl
   ·unfold Qz XG
    rw[show (ZF s).nmi=true from hn,Bool.true_or,if_pos rfl]
  |false=>
   rw[hn,if_neg (by simp)]at hw
   rw[if_neg (by simp),e3,ZcU s hn]
   have hup:Jm s=true→JW s=true:=fun hm=>by
    cases hu:JW s with
    |true=>rfl
    |false=>rw[hm,hu,Bool.not_false,Bool.and_true,if_pos rfl]at hw;omega
   obtain ⟨L1,L2⟩:=Zjg h hup
   have hask:Jf s=((ZF s).apu.irq&& !(ZF s).cpu.i):=by
    unfold Jf
    show _=((ZK s.snd s.T).apu.irq&& !s.cpu.i)
    cases hI:s.cpu.i with
    |true=>simp
    |false=>
     rw[Bool.not_false,Bool.and_true,Bool.and_true]
     cases hb:Jv s.knownAt s.T with
     |true=>
      rw[if_pos rfl,ZkF (hup (by unfold Jm;rw[hn,hI,hb];rfl))]
     |false=>rw[if_neg (by simp)];exact h.known hb
   rw[if_neg (by
    cases hm:Jm s with
    |true=>rw[hup hm];simp
    |false=>simp)]at hw
   have hnL:(ZF s).nmi=false:=hn
   have hd:doL (ZF s)=if Jf s=true then Jx (ZF s) 65534 else opL (ZF s) (opS s) (QN s):=by
    unfold doL
    rw[hnL,if_neg (by simp),←hask]
    rfl
   have hcy:Qz (ZF s)=if Jf s=true then 7 else Qm (opS s):=by
    unfold Qz XG
    rw[hnL,Bool.false_or,←hask]
    rfl
   rw[hd,hcy]
   cases ha:Jf s with
   |true=>
    rw[ha,if_pos rfl]at hw
    simp only[if_true,eq_self]
    obtain ⟨I1,I2⟩:=Zi6 L1 65534
    exact ⟨_,_,rfl,I1,e7.trans hn,by rw[I2,L2],rfl,e6,Wg hw,by omega⟩
   |false=>
    rw[ha,if_neg (by simp)]at hw
    simp only[Bool.false_eq_true,if_false]
    have eop:opS (Zw s)=opS s:=by unfold opS;rw[e1,e2,e3]
    have earg:QN (Zw s)=QN s:=by unfold QN;rw[e1,e2,e3]
    have eadr:Zz (Zw s)=Zz s:=by unfold Zz;rw[eop,earg,e3]
    have epu:Xr (Zw s)=Xr s:=by unfold Xr;rw[e4,e6]
    have esu:JW (Zw s)=JW s:=by unfold JW;rw[e5,e6]
    have hc:=UD (opS s)
    refine ⟨_,_,rfl,?_⟩
    unfold XW
    rw[eop,earg,eadr]
    unfold opL
    have fad:QQ (opS s) (QN s) (ZF s).cpu.x=Zz s:=rfl
    rw[fad]
    split at hw
    ·omega
    rename_i h1
    split at hw
    ·omega
    rename_i h2
    split at hw
    ·omega
    rename_i h3
    split at hw
    ·omega
    rename_i h4
    have hov:=Wg hw
    by_cases k1:ZG (opS s)=1
    ·rw[if_pos k1,if_pos k1]
     obtain ⟨R1,R2,R3⟩:=ZpM L1 (Zz s) (fun e=>by rw[epu];cases hp:Xr s with|true=>rfl|false=>exact absurd ⟨k1,e,hp⟩ h1) (fun e=>by rw[esu];cases hp:JW s with|true=>rfl|false=>exact absurd ⟨k1,e,hp⟩ h2)
     obtain ⟨X1,X2⟩:=ZhY R1 (opS s) (QN s) (Kd (Zw s) (Zz s))
     have f:=(Zio (Zw s) (Zz s)).1
     exact ⟨X1,(show (Jz (Zw s) (Zz s)).nmi=false by rw[f.nmi,e7,hn]),by rw[X2,R2,R3,L2],rfl,(show (Jz (Zw s) (Zz s)).T=s.T by rw[f.T,e6]),hov,by omega⟩
    ·rw[if_neg k1,if_neg k1]
     by_cases k2:ZG (opS s)=2
     ·rw[if_pos k2,if_pos k2]
      obtain ⟨R1,R2⟩:=ZoU L1 (a:=Zz s) (v:=(Zw s).cpu.a%256) (mod256 _)
       (fun e=>by rw[e4];rcases Int.lt_or_le (s.pic.list.length:Int) s.pic.cap with h5|h5;exact h5;exact absurd ⟨k2,e,h5⟩ h3)
       (fun e=>by rw[e5];rcases Int.lt_or_le (s.snd.list.length:Int) s.snd.cap with h5|h5;exact h5;exact absurd ⟨k2,e,h5⟩ h4)
      obtain ⟨X1,X2⟩:=ZhY R1 (opS s) (QN s) 0
      have f:=(Ze1 (Zw s) (Zz s) ((Zw s).cpu.a%256)).1
      exact ⟨X1,(show (JC (Zw s) (Zz s) _).nmi=false by rw[f.nmi,e7,hn]),by rw[X2,R2,L2,e3];rfl,rfl,(show (JC (Zw s) (Zz s) _).T=s.T by rw[f.T,e6]),hov,by omega⟩
     ·rw[if_neg k2,if_neg k2]
      obtain ⟨X1,X2⟩:=ZhY L1 (opS s) (QN s) 0
      exact ⟨X1,(show (Zw s).nmi=false by rw[e7,hn]),by rw[X2,L2],rfl,(show (Zw s).T=s.T from e6),hov,by omega⟩
 obtain ⟨s',n,ed,hs',hn',hl',hc',ht',hle,h0⟩:=key
 have hst:Yq s=WJ s'.T (s',n):=by unfold Yq;rw[ed,ht']
 rw[hst]at hPs⊢
 obtain ⟨E1,E2⟩:=ZqC hs' hn' h0 (by omega) hPs
 refine ⟨decide_eq_true (by rw[eT,hc'];exact hle),E1,?_⟩
 rw[E2,hl']
 unfold QF
 rw[hc']
theorem ZjB: ∀(n:Nat) (l:Zm),(Qp n l).2=n→QH (Qp n l).1=true→Qp (n+1) l=(QF (Qp n l).1,n+1)
 |0,l,_,hm=>by rw[Zhr (show QH l=true from hm)];rfl
 |n+1,l,h,hm=>by
  cases hq:QH l with
  |false=>rw[Zog hq]at h;cases h
  |true=>
   rw[Zhr hq]at h hm
   have h:(Qp n (QF l)).2+1=n+1:=h
   rw[Zhr (j:=n+1) hq,Zhr (j:=n) hq,ZjB n (QF l) (by omega) hm]
def Y9 (f:List (List Int)) (p:List Int) (cap:Int):Zc:=⟨f,p,Yt,Zjm f,⟨false,0⟩,0,false,0,false,0,0,[],⟨⟨0,0,0,0,0,false,List.replicate 16 0,[]⟩,cap,[],[]⟩,⟨⟨0,0,0,0,0,false,false⟩,cap,[],[]⟩⟩
theorem Zjn {cap:Int} (hc:1≤cap∧cap≤16):Vk cap []:=⟨(fun x hx=>by cases hx),List.Pairwise.nil,hc.1,hc.2,(show (0:Int)≤cap by omega)⟩
theorem Zp6 {f:List (List Int)} {p:List Int} {cap:Int} (h:YE f) (hp:J4 p) (hc:1≤cap∧cap≤16):Zq (Y9 f p cap):=
 ⟨ZeS h,hp,Zlk f,⟨Zlm,Zjn hc,(fun x hx=>by cases hx),(fun x hx=>by cases hx),by show (0:Int)=YA 0;decide⟩,
  ⟨Zlj,Zjn hc,(fun x hx=>by cases hx),by show (0:Int)=0/16;decide⟩,⟨Int.le_refl _,(by show (0:Int)≤255;decide)⟩,⟨Int.le_refl _,(by show (0:Int)≤255;decide)⟩,⟨Int.le_refl _,(by show (0:Int)≤20000;decide)⟩,
  ⟨Int.le_refl _,Int.le_refl _⟩,⟨Int.le_refl _,Int.le_refl _⟩,Int.le_refl _,Int.le_refl _,(fun x hx=>by cases hx),(fun x hx=>by cases hx)⟩
structure US (s:Zc):Prop where
 sim:JR s
 run: ∃k:Nat,s.steps=k∧Qp k (YC s.img s.pads)=(ZF s,k)
 time:s.T≤7*s.steps
theorem ZqU (f:List (List Int)) (p:List Int) (cap:Int):Qa (Y9 f p cap).pic 0=(Y9 f p cap).pic∧ZK (Y9 f p cap).snd 0=(Y9 f p cap).snd:=
 ⟨Kp (ZoK rfl (Int.le_refl _)),Kq (ZoL rfl (Int.le_refl _))⟩
theorem Zo1 {f:List (List Int)} {p:List Int} {cap:Int} (h:YE f) (hp:J4 p) (hc:1≤cap∧cap≤16):US (Y9 f p cap):=by
 obtain ⟨a,b⟩:=ZqU f p cap
 have e:ZF (Y9 f p cap)=YC f p:=by
  unfold ZF
  rw[show (Y9 f p cap).T=0 from rfl,a,b]
  rfl
 refine ⟨⟨Zp6 h hp hc,?_,fun _=> ?_⟩,⟨0,rfl,?_⟩,by show (0:Int)≤7*0;decide⟩
 ·rw[show (Y9 f p cap).T=0 from rfl,a];rfl
 ·rw[show (Y9 f p cap).T=0 from rfl,b];rfl
 ·rw[e];rfl
theorem Zq0 {s:Zc} {p:Z6} (h:JR s) (hs:Z2 s.pic s.T=some p):JR {s with pic:=p}∧ZF {s with pic:=p}=ZF s:=by
 have hc:=Vq h.p.pic hs
 have hP:Zq {s with pic:=p}:=(Zkv (who:=1) h.p (by unfold KE;rw[if_neg (by omega),if_pos rfl,hs];rfl)).1
 refine ⟨⟨hP,?_,h.known⟩,?_⟩
 ·show s.ctrl=(Qa p s.T).ppu.ctrl
  rw[←hc];exact h.ctrl
 ·unfold ZF
  simp only[←hc]
theorem Zq8 {s:Zc} {p:Z7} (h:JR s) (hs:Z3 s.snd s.T=some p):JR {s with snd:=p}∧ZF {s with snd:=p}=ZF s:=by
 have hc:=Vr h.p.snd hs
 have hP:Zq {s with snd:=p}:=(Zkv (who:=2) h.p (by unfold KE;rw[if_neg (by omega),if_neg (by omega),if_pos rfl,hs];rfl)).1
 refine ⟨⟨hP,h.ctrl,fun hb=> ?_⟩,?_⟩
 ·show s.known=(ZK p s.T).apu.irq
  rw[←hc];exact h.known hb
 ·unfold ZF
  simp only[←hc]
theorem Zm3 {s:Zc} (h:US s) (hw:QG s=0):US (Yq s):=by
 obtain ⟨a,b,c⟩:=ZpO h.sim hw
 obtain ⟨k,hk,hr⟩:=h.run
 obtain ⟨_,f1,_,_,f2,f3,f4⟩:=Zgm h.sim.p hw
 have ht:=h.time
 refine ⟨b,⟨k+1,by omega,?_⟩,by omega⟩
 rw[f3,f4,ZjB k (YC s.img s.pads) (by rw[hr]) (by rw[hr];exact a),hr,c]
theorem Zm2 {s:Zc} (h:US s) (who:Int):US (QI s who)∧(QI s who).steps≤s.steps+1:=by
 by_cases h0:who=0
 ·subst h0
  rw[(UF s).1]
  unfold QD
  split
  ·rename_i hw
   exact ⟨Zm3 h hw,by have:=(Zgm h.sim.p hw).2.1;omega⟩
  ·exact ⟨h,by omega⟩
 by_cases h1:who=1
 ·subst h1
  rw[(Zhm s).1]
  cases hs:Z2 s.pic s.T with
  |none=>exact ⟨h,by show s.steps≤_;omega⟩
  |some p=>
   obtain ⟨a,b⟩:=Zq0 h.sim hs
   obtain ⟨k,hk,hr⟩:=h.run
   exact ⟨⟨a,⟨k,hk,by rw[←b]at hr;exact hr⟩,h.time⟩,by show s.steps≤_;omega⟩
 by_cases h2:who=2
 ·subst h2
  rw[(Zhn s).1]
  cases hs:Z3 s.snd s.T with
  |none=>exact ⟨h,by show s.steps≤_;omega⟩
  |some p=>
   obtain ⟨a,b⟩:=Zq8 h.sim hs
   obtain ⟨k,hk,hr⟩:=h.run
   exact ⟨⟨a,⟨k,hk,by rw[←b]at hr;exact hr⟩,h.time⟩,by show s.steps≤_;omega⟩
 ·rw[(Zho s h0 h1 h2).1]
  exact ⟨h,by omega⟩

end Go.Proofs.YtleidaafbhojfaaGreatDoor.Plain
