/- An evaluator of Go functions on plain values and its soundness. No condition beyond those that each lemma states. -/
import Derived.Test.YtcbdldlphpjmbaaGreatDoorW2
import Derived.Orders
import Derived.KernelRfl
set_option linter.unusedSimpArgs false
set_option linter.unusedVariables false
namespace Go.Tev
theorem ZD.scrub {loc:Loc} {ks:List Nat} {x:SV} {v:Value} (h:ZD loc x v):ZD loc (JW ks x) v:=by
 cases x<;>simp only[JW]<;>first
  |exact h
  | (cases hm:Q9 _ ks with
     |true=>
      rw[Zb];simp only[ZD]at h⊢
      first
       | (obtain ⟨_,_,_,_,_,_,_,_,_,_,_,_,rfl⟩:=h;rfl)
       | (obtain ⟨_,_,_,_,_,_,_,rfl⟩:=h;rfl)
       | (obtain ⟨_,_,_,_,_,_,_,_,_,rfl⟩:=h;rfl)
     |false=>rw[Zd];exact h)
theorem ZkH (ks:List Nat) (x:SV):JW ks (JW ks x)=JW ks x:=by
 cases x<;>simp only[JW]<;>first
  |rfl
  | (cases hm:Q9 _ ks with
     |true=>rw[Zb]
     |false=>rw[Zd];simp only[JW,hm,Zd])
theorem Zom {a a':Option (Nat×Nat)} {q q':Option Addr} {n n' c c':Nat} (h:slV a q n c=slV a' q' n' c') (ho:a=none→Vl q) (ho':a'=none→Vl q'):a'=a∧n'=n∧c'=c:=by
 simp only[slV,Value.slice.injEq]at h;refine ⟨?_,h.2.1.symm,h.2.2.symm⟩;have h1:=h.1;cases a with
 |none=>
  cases a' with
  |none=>rfl
  |some p=>
   simp only[pt]at h1;rcases ho rfl with e| ⟨s,e,hs⟩
   ·rw[e]at h1;cases h1
   ·rw[e]at h1;simp only[Zg]at h1;subst h1;cases hs
 |some p=>
  cases a' with
  |none=>
   simp only[pt]at h1;rcases ho' rfl with e| ⟨s,e,hs⟩
   ·rw[e]at h1;cases h1
   ·rw[e]at h1;simp only[Zg]at h1;subst h1;cases hs
  |some p'=>
   simp only[pt,Zg,adr,Addr.mk.injEq,and_true]at h1;obtain ⟨b,o⟩:=p;obtain ⟨b',o'⟩:=p';obtain ⟨rfl,rfl⟩:=h1;rfl
theorem Qq.ips {w:World} {ow:Bool} {e:E} {a:Option (Nat×Nat)} {cap:Nat} {l:List e.C} {ips ips2:Ips} (h:Qq w ow e a cap l ips) (he:e≠ .n) (hq:a=none→Vl ips2.q):Qq w ow e a cap l ips2:=by
 obtain ⟨h1,h2,h3,h4⟩:=h;refine ⟨h1,fun hn=>⟨(h2 hn).1,hq hn⟩,fun b o ea=>⟨fun i hi j hj=> ?_,(h3 b o ea).2⟩,?_⟩
 ·rw[(h3 b o ea).1 i hi j hj];cases e<;>first|rfl|exact absurd rfl he
 ·cases e<;>first|trivial|exact absurd rfl he
theorem Qq.q {w:World} {ow:Bool} {e:E} {a:Option (Nat×Nat)} {cap:Nat} {l:List e.C} {ips:Ips} {q:Option Addr} (h:Qq w ow e a cap l ips) (hq:a=none→Vl q):Qq w ow e a cap l ⟨ips.f,q⟩:=by
 obtain ⟨h1,h2,h3,h4⟩:=h;refine ⟨h1,fun hn=>⟨(h2 hn).1,hq hn⟩,h3,?_⟩;cases e<;>exact h4
theorem YO.turn {loc loc':Loc} {w:World} {j:Nat} {z:Row} (hm: ∀x u,okS x=true→ZD loc x u→ZD loc' x u) (hl:loc' j=loc j) (h:YO w loc j z):YO w loc' j z:=by
 have cell: ∀b o y,Xy w loc b o y→Xy w loc' b o y:=fun b o y h=>by
  cases y<;>first
   |trivial
   | (obtain ⟨k3,v,k4,k5,k6⟩:=h;exact ⟨k3,v,k4,hm _ _ k3 k5,k6⟩)
 cases z with
 |dead=>trivial
 |scrub=>trivial
 |box cs=>obtain ⟨b,o,e,k1,k2⟩:=h;exact ⟨b,o,by rw[hl];exact e,k1,fun q hq=>cell _ _ _ (k2 q hq)⟩
 |rbox cs=>obtain ⟨b,o,e,k2⟩:=h;exact ⟨b,o,by rw[hl];exact e,fun q hq=>cell _ _ _ (k2 q hq)⟩
 |row ow e l=>obtain ⟨a,c,p,e,k⟩:=h;exact ⟨a,c,p,by rw[hl];exact e,k⟩
def Vk (loc0 loc:Loc):Prop:= ∀id a cap len e ips,loc0 id=some (.row a cap len e ips)→ ∃ips',loc id=some (.row a cap len e ips')∧ips'.q=ips.q∧(e≠ .n→ips'=ips)
theorem Vk.refl (loc:Loc):Vk loc loc:=fun id a cap len e ips h=>⟨ips,h,rfl,fun _=>rfl⟩
theorem Vk.trans {a b c:Loc} (h:Vk a b) (k:Vk b c):Vk a c:=fun id x cap len e ips hh=>by
 obtain ⟨ips1,e1,q1,n1⟩:=h id x cap len e ips hh;obtain ⟨ips2,e2,q2,n2⟩:=k id x cap len e ips1 e1;exact ⟨ips2,e2,q2.trans q1,fun hn=>(n2 hn).trans (n1 hn)⟩
structure VW [Glb] (rows:Rows) (us:Us) (loc loc':Loc) (w:World) (S:Fp) (L:Nat→Prop) (S1:Fp):Prop where
 heap:Heap (Zj rows us) loc' w S L
 like:Vk loc loc'
 keep: ∀ks,(∀i,i∈Q2 us→i∈ks)→ ∀x u,ZD loc x u→ZD loc' (JW ks x) u
 owned: ∀b o,Qa (Zj rows us) loc' b o→Qa rows loc b o∨S1 b o
theorem VW.refl [Glb] {rows:Rows} {loc:Loc} {w:World} {S:Fp} {L:Nat→Prop} (H:Heap rows loc w S L) (S1:Fp):VW rows [] loc loc w S L S1:=
 ⟨H, .refl _,fun _ _ _ _ h=>h.scrub,fun _ _ h=> .inl h⟩
theorem Zk2 [Glb] {rows0 rows:Rows} {loc0 loc:Loc} {w0 w:World} {S0 S S1:Fp} {L0 L:Nat→Prop} (H0:Heap rows0 loc0 w0 S0 L0) (K:Vk loc0 loc) (H:Heap rows loc w S L) {t:LT} {x:t.D} {sv:SV} {v:Value} {us:Us}
  (h:YQ rows0 t x sv=some us) (hv:ZD loc0 sv v) (hr:Z1 w t x v S1 (fun _=>False)) (hS:Sub2 S1 S) (hd:Dis (Qa rows loc) S1): ∃loc',VW rows us loc loc' w S L S1:=by
 cases t with
 |sl ow e=>
  cases ow with
  |false=>simp only[YQ]at h;cases h
  |true=>
   cases sv<;>simp only[YQ]at h<;>first| (cases h;done)|skip
   ·simp only[Zg]at h;subst h;exact ⟨loc, .refl H _⟩
   ·rename_i id;split at h
    ·rename_i e' l0 hrow;cases hs:E.same e e' with
     |false=>rw[hs]at h;cases h
     |true=>
      rw[hs,Zb]at h;have he:e=e':=by cases e<;>cases e'<;>first|rfl| (simp[E.same]at hs)
      subst he;simp only[Zg]at h;subst h;obtain ⟨a,cap,ips,el,R0⟩:=H0.ok id _ hrow;obtain ⟨a1,cap1,len1,e1,ips1,el1,rfl⟩:=hv;rw[el]at el1;simp only[Zg,Pl.row.injEq]at el1;obtain ⟨rfl,rfl,rfl,rfl,rfl⟩:=el1;obtain ⟨a',cap',ips',ev,R,B⟩:=hr;obtain ⟨rfl,hlen,rfl⟩:=Zom ev (fun h=>(R0.2.1 h).2) (fun h=>(R.2.1 h).2);obtain ⟨ips2,el2,hq2,hn2⟩:=K id _ _ _ _ _ el;have hodd:a'=none→Vl ips.q:=fun h=>(R0.2.1 h).2;by_cases hn:e= .n
      ·subst hn;have e0:Zj rows (scr .n id++[(id, .row true .n x)])=QD rows id (.row true .n x):=Zd2 rows [] id (.row true .n x)
       let ips3:Ips:=⟨ips'.f,ips2.q⟩
       have el3:Jk loc id (.row a' cap' l0.length .n ips3) id=some (.row a' cap' l0.length .n ips3):=Yi _ _ _;have hkeep: ∀ks,id∈ks→ ∀x u,ZD loc x u→ZD (Jk loc id (.row a' cap' l0.length .n ips3)) (JW ks x) u:=fun ks hk x u h=>
        ZD.inner el2 el3 rfl (fun j hj=>YX _ _ hj) hk h
       have hown: ∀b o,own (Jk loc id (.row a' cap' l0.length .n ips3)) id (.row true .n x) b o→S1 b o:=by
        rintro b o ⟨a0,c0,n0,e0,p0,e1,hp⟩;rw[el3]at e1;simp only[Zg,Pl.row.injEq]at e1;obtain ⟨rfl,rfl,rfl,rfl,rfl⟩:=e1;refine B b ?_ o;rw[hlen];exact hp
       refine ⟨Jk loc id (.row a' cap' l0.length .n ips3),?_,fun j a cap len e ips hj=> ?_,fun ks hk=>hkeep ks (hk id (by simp[Wi,scr,Q2])),?_⟩
       ·rw[e0];refine H.upd id _ (fun j hj=>YX _ _ hj) (fun j z hj ez=>(H.ok j z ez).turn (fun y u hy hr=> ?_) (YX _ _ hj)) ⟨a',cap',ips3,by rw[hlen];exact el3,Qq.q R (by rw[hq2];exact hodd)⟩ (fun j z hj ez b o h1 h2=>hd b o ⟨j,z,ez,h1⟩ (hown b o h2)) (fun _ _ h=>h)
         (fun b o h=>hS b o (hown b o h)) (fun _ h=>h.elim) H.dis H.ltS
        have:=hkeep [id] (List.mem_singleton.2 rfl) y u hr;rwa [Zgq hy]at this
       ·by_cases hji:j=id
        ·subst hji;rw[el2]at hj;simp only[Zg,Pl.row.injEq]at hj;obtain ⟨rfl,rfl,rfl,rfl,rfl⟩:=hj;exact ⟨ips3,el3,rfl,fun h=>absurd rfl h⟩
        ·exact ⟨ips,by rw[YX _ _ hji];exact hj,rfl,fun _=>rfl⟩
       ·rintro b o ⟨j,z,ez,hz⟩;rw[e0]at ez;by_cases hji:j=id
        ·subst hji;rw[QT]at ez;cases ez;exact .inr (hown b o hz)
        ·rw[QA _ _ hji]at ez;rw[VB (YX loc _ hji)]at hz;exact .inl ⟨j,z,ez,hz⟩
      ·have e0:scr e id++[(id, .row true e x)]=[(id, .row true e x)]:=by cases e<;>first|rfl|exact absurd rfl hn
       have hi:=hn2 hn;subst hi;have hown: ∀b o,own loc id (.row true e x) b o→S1 b o:=by
        rintro b o ⟨a0,c0,n0,e0,p0,e1,hp⟩;rw[el2]at e1;simp only[Zg,Pl.row.injEq]at e1;obtain ⟨rfl,rfl,rfl,rfl,rfl⟩:=e1;refine B b ?_ o;rcases hp with hp| ⟨he,_⟩
        ·exact .inl hp
        ·exact absurd he hn
       rw[e0];refine ⟨loc,?_, .refl _,fun ks _ y u h=>h.scrub,?_⟩
       ·simp only[Zj];exact H.upd id _ (fun _ _=>rfl) (fun j y _ e=>H.ok j y e) ⟨a',cap',ips2,by rw[hlen];exact el2,Qq.ips R hn hodd⟩ (fun j z hj ez b o h1 h2=>hd b o ⟨j,z,ez,h1⟩ (hown b o h2)) (fun _ _ h=>h)
         (fun b o h=>hS b o (hown b o h)) (fun _ h=>h.elim) H.dis H.ltS
       ·rintro b o ⟨j,z,ez,hz⟩;simp only[Zj]at ez;by_cases hji:j=id
        ·subst hji;rw[QT]at ez;cases ez;exact .inr (hown b o hz)
        ·rw[QA _ _ hji]at ez;exact .inl ⟨j,z,ez,hz⟩
    ·cases h
 |mb e=>simp only[YQ]at h;cases h
 |_=>simp only[YQ,Zg]at h;subst h;exact ⟨loc, .refl H _⟩
theorem VW.trans [Glb] {rows:Rows} {us us':Us} {l0 l1 l2:Loc} {w:World} {S S1 S2 S3:Fp} {L:Nat→Prop} (h:VW rows us l0 l1 w S L S1) (k:VW (Zj rows us) us' l1 l2 w S L S2) (h1:Sub2 S1 S3) (h2:Sub2 S2 S3):VW rows (us++us') l0 l2 w S L S3:=by
 refine ⟨by rw[Qd];exact k.heap,h.like.trans k.like,fun ks hk x u hr=> ?_,fun b o hb=> ?_⟩
 ·rw[Wi]at hk;have:=k.keep ks (fun i hi=>hk i (List.mem_append_right _ hi)) _ _ (h.keep ks (fun i hi=>hk i (List.mem_append_left _ hi)) x u hr);rwa [ZkH]at this
 ·rw[Qd]at hb;exact (k.owned b o hb).elim (fun hb=>(h.owned b o hb).imp_right (h1 b o)) (fun hb=> .inr (h2 b o hb))
theorem ZiS [Glb] {rows0:Rows} {loc0:Loc} {w0 w:World} {S0 S:Fp} {L0 L:Nat→Prop} (H0:Heap rows0 loc0 w0 S0 L0): ∀{ts:List LT} {x:Tup ts} {svs:List SV} {vs:List Value} {us:Us} {rows:Rows} {loc:Loc} {S1:Fp} (_:Vk loc0 loc) (_:Heap rows loc w S L)
  (_:XV rows0 ts x svs=some us) (_:Z3 loc0 svs vs) (_:Z9 w ts x vs S1 (fun _=>False)) (_:Sub2 S1 S) (_:Dis (Qa rows loc) S1),∃loc',VW rows us loc loc' w S L S1
 | [],_,[],vs,us,rows,loc,S1,_,H,h,_,_,_,_=>by simp only[XV,Zg]at h;subst h;exact ⟨loc, .refl H _⟩
 | [],_,_::_,_,_,_,_,_,_,_,h,_,_,_,_=>by simp only[XV]at h;cases h
 |_::_,_,[],_,_,_,_,_,_,_,h,_,_,_,_=>by simp only[XV]at h;cases h
 |_::_,_,_::_,[],_,_,_,_,_,_,_,hv,_,_,_=>hv.elim
 |t::ts,x,sv::svs,v::vs,us,rows,loc,S1,K,H,h,hv,hr,hS,hd=>by
  simp only[XV]at h;split at h
  ·rename_i a ha;split at h
   ·rename_i b hb;simp only[Zg]at h;subst h;obtain ⟨Sa,Sb,r1,r2,dab,sa,sb⟩:=hr;obtain ⟨l1,T1⟩:=Zk2 H0 K H ha hv.1 r1 (fun b o h=>hS b o (sa b o h)) (fun b o h k=>hd b o h (sa b o k));obtain ⟨l2,T2⟩:=ZiS H0 (K.trans T1.like) T1.heap hb hv.2 r2 (fun b o h=>hS b o (sb b o h)) (fun b o h k=>(T1.owned b o h).elim (fun h=>hd b o h (sb b o k)) (fun h=>dab b o h k));exact ⟨l2,T1.trans T2 sa sb⟩
   ·cases h
  ·cases h
theorem Zo1 [Glb] {rows0:Rows} {loc0:Loc} {w0 w:World} {S0 S S1:Fp} {L0 L:Nat→Prop} (H0:Heap rows0 loc0 w0 S0 L0) {t:Ty} {x:t.D} {tv:TV} {v:Value} {us:Us} {rows:Rows} {loc:Loc} (K:Vk loc0 loc) (H:Heap rows loc w S L)
  (h:Yp rows0 t x tv=some us) (hv:ZK loc0 tv v) (hr:KU w t x v S1 (fun _=>False)) (hS:Sub2 S1 S) (hd:Dis (Qa rows loc) S1): ∃loc',VW rows us loc loc' w S L S1:=by
 cases t with
 |v t=>
  cases tv with
  |tup l=>simp only[Yp]at h;cases h
  |c c=>cases c with
   |agg l=>simp only[Yp]at h;cases h
   |s sv=>
    by_cases hu:sv= .undef
    ·subst hu;cases t with
     |sl ow e=>cases ow<;>(simp only[Yp,YQ]at h;cases h)
     |mb e=>simp only[Yp,YQ]at h;cases h
     |_=>simp only[Yp,YQ,Zg]at h;subst h;exact ⟨loc, .refl H _⟩
    ·exact Zk2 H0 K H h (by cases sv<;>first|exact hv|exact absurd rfl hu) hr hS hd
 |a ts=>
  cases tv with
  |tup l=>simp only[Yp]at h;cases h
  |c c=>cases c with
   |s y=>simp only[Yp]at h;cases h
   |agg l=>
    obtain ⟨cs,rfl,hrel⟩:=hv;obtain ⟨cs',e,r⟩:=hr;have:cs'=cs:=by
     simp only[Value.agg.injEq]at e;have:=congrArg Array.toList e;simpa using this.symm
    subst this;exact ZiS H0 K H h hrel r hS hd
 |p ts=>simp only[Yp]at h;cases h
 |r ts=>simp only[Yp]at h;cases h
theorem JT.row {w:World} {l:List Int} {p:IP} (h:JT w true l p):Qq w true .i p.a p.cap l ⟨fun _=>⟨none,0,0,none⟩,p.q⟩:=by
 obtain ⟨g1,g2,g3,g4⟩:=h;refine ⟨g2,g3,fun b o ea=>⟨fun j hj j' hj'=> ?_,fun ho=>by simpa [E.sz] using (g4 b o ea).2 ho⟩,trivial⟩;obtain rfl:j'=0:=by simp[E.sz]at hj';exact hj'
 have:=(g4 b o ea).1 j hj;simpa only[E.sz,Nat.mul_one,Nat.add_zero,elV] using this
theorem Zpg [Glb] {rows:Rows} {loc:Loc} {w w':World} {S S1:Fp} {L:Nat→Prop} (H:Heap rows loc w S L) {id:Nat} {l:List (List Int)} (hr:rows id=some (.row true .n l)) {a:Option (Nat×Nat)} {cap:Nat} {ips:Ips} (el:loc id=some (.row a cap l.length .n ips))
  {i:Nat} (hi:i<l.length) {l':List Int} (hin:JT w' true l' (ips i)) (hs: ∀b o,S1 b o→ ∃o',(ips i).a=some (b,o')) (hf:Frame S1 w w'):Heap (QD rows id (.row true .n (l.set i l'))) loc w' S L:=by
 obtain ⟨a',cap',ips',el',R⟩:=H.ok id _ hr;rw[el]at el';simp only[Zg,Pl.row.injEq,true_and]at el';obtain ⟨rfl,rfl,rfl⟩:=el';obtain ⟨r1,r2,r3,r4,r5⟩:=R;have r5:=r5 rfl;have hsub: ∀b o,S1 b o→own loc id (.row true .n l) b o:=fun b o h=>by
  obtain ⟨o',e⟩:=hs b o h;exact ⟨_,_,_,_,ips,el, .inr ⟨rfl,i,hi,o',e⟩⟩
 have H1:Heap (QD rows id .dead) loc w' S L:=(H.kill id).frame hf (fun j z ez b o hz h=>by
  by_cases hj:j=id
  ·subst hj;rw[QT]at ez;cases ez;exact hz.elim
  ·rw[QA _ _ hj]at ez;exact H.sep j id z _ hj ez hr b o hz (hsub b o h)) (fun b hb o h=>H.dis b o (H.inS id _ hr b o (hsub b o h)) hb)
 have eset:(l.set i l').length=l.length:=by simp
 have hown: ∀b o,own loc id (.row true .n (l.set i l')) b o→own loc id (.row true .n l) b o:=fun b o h=>h;have hout: ∀b o,a=some (b,o)→ ∀o',¬S1 b o':=fun b o ea o' h=>by
  obtain ⟨o2,e⟩:=hs b o' h;exact r5.2 i hi b o2 e (by rw[ea];rfl)
 rw[show QD rows id (.row true .n (l.set i l'))=QD (QD rows id .dead) id (.row true .n (l.set i l'))from (ZdZ rows id .dead _).symm];refine H1.upd id _ (fun _ _=>rfl) (fun j y _ e=>H1.ok j y e) ⟨a,cap,ips,by rw[eset];exact el,by rw[eset];exact r1,r2,fun b o ea=>⟨fun k hk j hj=> ?_,fun ho=>hf.ownB ((r3 b o ea).2 ho)⟩,?_,fun _=>⟨?_,?_⟩⟩ (fun j z hj ez b o h1 h2=> ?_) (fun _ _ h=>h)
  (fun b o h=>H.inS id _ hr b o (hown b o h)) (fun _ h=>h.elim) H.dis H1.ltS
 ·have hk':k<l.length:=by simpa using hk
  rw[hf.cell (Uq ((r3 b o ea).1 k hk' j hj)) (hout b o ea _)];exact (r3 b o ea).1 k hk' j hj
 ·intro k hk;have hk':k<l.length:=by simpa using hk
  by_cases hki:k=i
  ·subst hki;rw[List.getElem_set_self];exact hin
  ·rw[List.getElem_set_ne (Ne.symm hki)];refine (r4 k hk').frame hf fun b o ea _ o' h=> ?_;obtain ⟨o2,e⟩:=hs b o' h;exact r5.1 k i hk' hi hki b o b o2 ea e rfl
 ·intro p q hp hq;exact r5.1 p q (by simpa using hp) (by simpa using hq)
 ·intro p hp;exact r5.2 p (by simpa using hp)
 ·rw[QA _ _ hj]at ez;exact H.sep j id z _ hj ez hr b o h1 (hown b o h2)
theorem Zav [Glb] {R:Type} {K:TV→Us→Option R} {x:Option F} {r:R} (h:KB K x=some r): ∃f,x=some f∧(∀c,c∈f.checks→c=true)∧K f.v f.us=some r:=by
 cases x with
 |none=>simp[KB]at h
 |some f=>exact ⟨f,rfl,(ZfF h).1,(ZfF h).2⟩
theorem Zhm [Glb] {f:F} (hc: ∀c,c∈f.checks→c=true):KB (fun v us=>some (v,us)) (some f)=some (f.v,f.us):=Zmj _ hc
abbrev ZY (env:Env) (fresh:Nat) (op:Op) (st:St):Option (TV×Us):=Q4 env fresh op st fun v us=>some (v,us)
theorem Zl4 {R:Type} {f:Fn} {fresh:Nat} {st:St} {args:List TV} {K:TV→Us→Option R} {r:R} (h:Ky f fresh st args K=some r):
  ∃v us,Ky f fresh st args (fun v us=>some (v,us))=some (v,us)∧K v us=some r:=by
 unfold Ky at h⊢;cases hk:f.kd with
 |nor=>
  rw[hk]at h;simp only[U8]at h⊢;split at h
  ·rename_i y us ht;cases hr:f.run y with
   |none=>rw[hr]at h;cases h
   |some r=>
    rw[hr]at h;simp only[Zo]at h⊢;cases hb:Ji f.ins r.2 args (Zj st.rows us) (fresh+512)with
    |false=>rw[hb]at h;cases h
    |true=>rw[hb]at h;exact ⟨_,_,rfl,h⟩
  ·cases h
 |ali=>
  rw[hk]at h;simp only at h⊢;unfold U7 at h⊢;split at h
  ·rename_i ins ts ts' run kd;simp only;split at h
   ·rename_i y us ht;cases hr:run y with
    |none=>rw[hr]at h;cases h
    |some r=>
     rw[hr]at h;simp only[Zo]at h⊢;cases hb:Ji ins r.2 args (Zj st.rows us) (fresh+512)with
     |false=>rw[hb]at h;cases h
     |true=>
      rw[hb,Zb]at h;rw[Zb];cases hbool:r.1.2.2.1 with
      |false=>rw[hbool]at h;exact ⟨_,_,rfl,h⟩
      |true=>rw[hbool]at h;exact ⟨_,_,rfl,h⟩
   ·cases h
  ·cases h
 |lnt=>
  rw[hk]at h;simp only[U9]at h⊢;cases hn:Xs f.ins with
  |false=>rw[hn]at h;cases h
  |true=>
   rw[hn,Zb]at h;rw[Zb];split at h
   ·rename_i y us ht;cases hr:f.run y with
    |none=>rw[hr]at h;cases h
    |some r=>rw[hr]at h;exact ⟨_,_,rfl,h⟩
   ·cases h
 |may=>
  rw[hk]at h;simp only at h⊢;unfold Zl5 at h⊢;split at h
  ·rename_i ins ts run kd;simp only;cases hn:Xs ins with
   |false=>rw[hn]at h;cases h
   |true=>
    rw[hn,Zb]at h;rw[Zb];split at h
    ·rename_i y us ht;cases hz:run y with
     |none=>rw[hz]at h;cases h
     |some z=>
      rw[hz]at h;simp only[Zo]at h⊢;cases hb:z.1.2.1 with
      |true=>rw[hb]at h;exact ⟨_,_,rfl,h⟩
      |false=>rw[hb]at h;exact ⟨_,_,rfl,h⟩
    ·cases h
  ·cases h
 |inp=>
  rw[hk]at h;simp only at h⊢;unfold Zl2 at h⊢;split at h
  ·rename_i run kd id i k;split at h
   ·rename_i l hr;cases hz:run (rdE .n l i,(k,()))with
    |none=>rw[hz]at h;cases h
    |some z=>rw[hz]at h;exact ⟨_,_,rfl,h⟩
   ·cases h
  ·rename_i t t' run kd tv k _;cases hn:t.noP with
   |false=>rw[hn]at h;cases h
   |true=>
    rw[hn,Zb]at h;rw[Zb];split at h
    ·rename_i y us ht;cases hz:run y with
     |none=>rw[hz]at h;cases h
     |some z=>
      rw[hz]at h;simp only[Zo]at h⊢;split at h
      ·exact ⟨_,_,rfl,h⟩
      ·cases h
    ·cases h
  ·cases h
theorem ZhT [Glb] {R:Type} {env:Env} {fresh:Nat} {op:Op} {st:St} {K:TV→Us→Option R} {r:R} (h:Q4 env fresh op st K=some r):
  ∃v us,ZY env fresh op st=some (v,us)∧K v us=some r:=by
 have d:KB K (Qe env.prog fresh st op)=some r→(ZY env fresh op st=KB (fun v us=>some (v,us)) (Qe env.prog fresh st op))→ ∃v us,ZY env fresh op st=some (v,us)∧K v us=some r:=fun h e=>by
  obtain ⟨f,hf,hc,hk⟩:=Zav h;exact ⟨f.v,f.us,by rw[e,hf];exact Zhm hc,hk⟩
 cases op with
 |pick c a b=>
  simp only[ZY,Q4]at h⊢;split at h
  ·rename_i x e;cases x with
   |true=>exact ⟨_,_,rfl,h⟩
   |false=>exact ⟨_,_,rfl,h⟩
  ·cases h
 |call c=>
  simp only[ZY,Q4]at h⊢;split at h
  ·rename_i f hcal;split at h
   ·rename_i g e;split at h
    ·exact Zl4 h
    ·cases h
   ·cases h
  ·rename_i b hcal;obtain ⟨f,hf,hc,hk⟩:=Zav h;exact ⟨f.v,f.us,by rw[hf];exact Zhm hc,hk⟩
  ·cases h
 |_=>exact d h rfl
theorem Zq1 (t:Ty) (x:t.D) (id:Nat): ∃c,(Yy t x id).1= .c c:=by cases t<;>exact ⟨_,rfl⟩
theorem Zp0 [Glb] {loc:Loc}: ∀{ts:List Ty} {x:PTup ts} {id:Nat} {vs:List Value},Jp loc (Qz ts x id).1 vs→YY loc (cvs (Qz ts x id).1) vs
 | [],_,_,[],_=>trivial
 | [],_,_,_::_,h=>h.elim
 |_::_,_,_,[],h=>h.elim
 |t::ts,x,id,v::vs,h=>by
  obtain ⟨c,e⟩:=Zq1 t x.1 id;have h1:ZK loc (Yy t x.1 id).1 v:=h.1;have h2:=Zp0 h.2;simp only[Qz,e,cvs];rw[e]at h1;exact ⟨h1,h2⟩
theorem ZkA [Glb] {loc:Loc}: ∀{ts:List Ty} {x:PTup ts} {id:Nat} {vs:List Value},Jp loc (Qz ts x id).1 vs→ZK loc (Zpy (Qz ts x id).1) (WU vs)
 | [],_,_,[],_=>⟨[],rfl,trivial⟩
 | [],_,_,_::_,h=>h.elim
 |_::_,_,_,[],h=>h.elim
 | [t],x,id,[v],h=>h.1
 | [t],x,id,_::_::_,h=>h.2.elim
 |_::_::_,x,id,[_],h=>h.2.elim
 |_::_::_,x,id,v::v'::vs,h=>⟨v::v'::vs,rfl,Zp0 h⟩
theorem Zne [Glb] {P:Program} {st:St} {loc:Loc} {w:World} {S:Fp} {L:Nat→Prop} (H:Heap st.rows loc w S L) {fresh:Nat} (hid: ∀k,fresh≤k→k<fresh+1024→st.rows k=none) {g:FuncId} {f:Fn} (hf:Zy P g f) (hkd:f.kd= .nor)
  {tvs:List TV} {args:List Value} (hv:Jp loc tvs args) {v:TV} {us:Us} (h:U8 f fresh st tvs (fun v us=>some (v,us))=some (v,us)):
  Calls P g args.toArray w fun e w'=> ∃val,e= .returned val∧Z4 st.rows loc w S L us v val w':=by
 unfold U8 at h;split at h
 ·rename_i y us1 ht;cases hr:f.run y with
  |none=>rw[hr]at h;cases h
  |some r=>
   rw[hr]at h;simp only[Zo]at h;cases hpb:Ji f.ins r.2 tvs (Zj st.rows us1) (fresh+512)with
   |false=>rw[hpb]at h;cases h
   |true=>
   rw[hpb]at h;simp only[Zb,Zg,Zz]at h;obtain ⟨rfl,rfl⟩:=h;obtain ⟨S1,L1,T,hrel,hdl,hls,hll,hlent,hLL⟩:=Zbs H ht hv;refine Calls.mono (hf.calls w y args S1 L1 hrel hdl hls hll (fun b hb=>hLL b (H.gl.1 b hb)) H.gl.2 r hr) ?_;rintro e w' ⟨vs,SO,SB,hret,ho,hb,hdis,hsub,hfr⟩;rw[hkd]at hret ho;refine ⟨_,hret,?_⟩;have hS1:Sub2 S1 S:=Qa.mono T H;have Hf:Heap (Zj st.rows us1) loc w' S L:=T.heap.frame hfr (fun i x ex b o ho hh=>(T.apart b o ⟨i,x,ex,ho⟩).2 hh) (fun b hb o hh=>H.dis b o (hS1 b o hh) hb);have new: ∀b o,SO b o∨SB b o→S b o∨w.heap.size≤b:=fun b o h=>(hsub b o h).1.imp_left (hS1 b o);have H2:Heap (Zj st.rows us1) loc w' (Z7 S (Z7 SO SB)) L:=Hf.widen (Z7 SO SB) (fun b o h hl=>(new b o h).elim (fun h=>H.dis b o h hl) (fun h=>by have:=H.ltL b hl;omega)) (fun b o h=>(hsub b o h).2);have hown:Dis (Qa (Zj st.rows us1) loc) (Z7 SO SB):=fun b o h hh=>(hsub b o hh).1.elim (fun hh=>(T.apart b o h).2 hh) (fun hh=>by
    obtain ⟨i,x,ex,hx⟩:=h;have:=T.heap.own_lt ex hx;omega)
   have free: ∀k,fresh≤k→k<fresh+1024→Zj st.rows us1 k=none:=fun k h1 h2=>T.none k (hid k h1 h2);obtain ⟨loc2,P2,n2⟩:=US (base:=fresh+512) H2 (fun k h1 h2=>free k (by omega) (by have:=hf.nin;omega)) hb hlent (fun b o h=> .inr (.inr h)) (fun b o h hh=>hown b o h (.inr hh)) hf.inOk;have d3:Dis (Qa (Zj (Zj st.rows us1) (Qt f.ins r.2 tvs (Zj st.rows us1) (fresh+512))) loc2) SO:=fun b o h hh=>(P2.owned b o h).elim (fun h=>hown b o h (.inl hh)) (fun h=>hdis b o hh h);obtain ⟨loc3,P3,k3,_,_,_,_⟩:=We (id:=fresh) P2.heap (fun k h1 h2=>n2 k (free k h1 (by have:=hf.nout;omega)) (.inl (by have:=hf.nout;omega))) ho (fun b o h=> .inr (.inl h)) (fun b h=>h.elim) d3 hf.outOk;refine Z4.ext (loc':=loc3) (S':=Z7 S (Z7 SO SB)) ?_ ?_ (ZkA k3) (P2.ext.trans P3.ext) (fun b o h=>h.elim .inl (new b o)) (hfr.mono hS1)
   ·rw[Qd,Qd];exact P3.heap
   ·exact Jr.append (Zbr ht) (Jr.append (UR _ _ _ _ _) (ZdF _ _ _))
 ·cases h
theorem Zo5 [Glb] {P:Program} {st:St} {loc:Loc} {w:World} {S:Fp} {L:Nat→Prop} (H:Heap st.rows loc w S L) {fresh:Nat} (hid: ∀k,fresh≤k→k<fresh+1024→st.rows k=none) {g:FuncId} {f:Fn} (hf:Zy P g f) (hkd:f.kd= .lnt)
  {tvs:List TV} {args:List Value} (hv:Jp loc tvs args) {v:TV} {us:Us} (h:U9 f fresh st tvs (fun v us=>some (v,us))=some (v,us)):
  Calls P g args.toArray w fun e w'=> ∃val,e= .returned val∧Z4 st.rows loc w S L us v val w':=by
 unfold U9 at h;cases hn:Xs f.ins with
 |false=>rw[hn]at h;cases h
 |true=>
 rw[hn,Zb]at h;split at h
 ·rename_i y us1 ht;cases hr:f.run y with
  |none=>rw[hr]at h;cases h
  |some r=>
   rw[hr]at h;simp only[Zo,Zg,Zz]at h;obtain ⟨rfl,rfl⟩:=h;obtain ⟨S1,T,hrel,hdl,hls⟩:=ZkV H ht hv;refine Calls.mono (hf.calls w y args S1 L hrel hdl hls H.ltL H.gl.1 H.gl.2 r hr) ?_;rintro e w' ⟨vs,SO,SB,hret,ho,hb,hdis,hsub,hfr⟩;rw[hkd]at hret ho;refine ⟨_,hret,?_⟩;have hS1:Sub2 S1 S:=Qa.mono T H;have Hf:Heap (Zj st.rows us1) loc w' S L:=T.heap.frame hfr (fun i x ex b o ho hh=>(T.apart b o ⟨i,x,ex,ho⟩).2 hh) (fun b hb o hh=>H.dis b o (hS1 b o hh) hb);have new: ∀b o,SO b o→S b o∨w.heap.size≤b:=fun b o h=>(hsub b o (.inl h)).1.imp_left (hS1 b o);have H2:Heap (Zj st.rows us1) loc w' (Z7 S SO) L:=Hf.widen SO (fun b o h hl=>(new b o h).elim (fun h=>H.dis b o h hl) (fun h=>by have:=H.ltL b hl;omega)) (fun b o h=>(hsub b o (.inl h)).2);have hown:Dis (Qa (Zj st.rows us1) loc) SO:=fun b o h hh=>(hsub b o (.inl hh)).1.elim (fun hh=>(T.apart b o h).2 hh) (fun hh=>by
    obtain ⟨i,x,ex,hx⟩:=h;have:=T.heap.own_lt ex hx;omega)
   have free: ∀k,fresh≤k→k<fresh+1024→Zj st.rows us1 k=none:=fun k h1 h2=>T.none k (hid k h1 h2);obtain ⟨loc3,P3,k3,_,_,_,_⟩:=We (id:=fresh) H2 (fun k h1 h2=>free k h1 (by have:=hf.nout;omega)) ho (fun b o h=> .inr h) (fun b h=>h) hown hf.outOk;refine Z4.ext (loc':=loc3) (S':=Z7 S SO) ?_ ?_ (ZkA k3) P3.ext (fun b o h=>h.elim .inl (new b o)) (hfr.mono hS1)
   ·rw[Qd];exact P3.heap
   ·exact Jr.append (ZkU ht) (ZdF _ _ _)
 ·cases h
theorem Zo6 [Glb] {P:Program} {st:St} {loc:Loc} {w:World} {S:Fp} {L:Nat→Prop} (H:Heap st.rows loc w S L) {g:FuncId} {f:Fn} (hf:Zy P g f) (hkd:f.kd= .inp)
  {tvs:List TV} {args:List Value} (hv:Jp loc tvs args) {v:TV} {us:Us} (h:Zl2 f st tvs (fun v us=>some (v,us))=some (v,us)):
  Calls P g args.toArray w fun e w'=> ∃val,e= .returned val∧Z4 st.rows loc w S L us v val w':=by
 unfold Zl2 at h;split at h
 ·rename_i run kd id i k;simp only at hkd;subst hkd;split at h
  ·rename_i l hrow;cases hz:run (rdE .n l i,(k,()))with
   |none=>rw[hz]at h;cases h
   |some z=>
    rw[hz]at h;simp only[Zo,Zg,Zz]at h;obtain ⟨rfl,rfl⟩:=h
    match args,hv with
    | [v1,v2],hv=>
     obtain ⟨h1,h2,_⟩:=hv;obtain ⟨a,cap,len,ips,el,hi0,hi,rfl⟩:=h1;have h2:v2= .int .i64 k:=h2;subst h2;obtain ⟨a',cap',ips',el',R⟩:=H.ok id _ hrow;rw[el]at el';simp only[Zg,Pl.row.injEq,true_and]at el';obtain ⟨rfl,rfl,rfl,rfl⟩:=el';have hrd:rdE .n l i=l[i.toNat]:=by simp[rdE,hi]
     have hin:JT w true l[i.toNat] (ips i.toNat):=R.2.2.2.1 i.toNat hi
     let S1:Fp:=fun b _=> ∃o,(ips i.toNat).a=some (b,o)
     have hS1:Sub2 S1 S:=fun b o ⟨o',e⟩=>H.inS id _ hrow b o ⟨_,_,_,_,ips,el, .inr ⟨rfl,i.toNat,hi,o',e⟩⟩;refine Calls.mono (hf.calls w (rdE .n l i,(k,())) [slV (ips i.toNat).a (ips i.toNat).q (ips i.toNat).len (ips i.toNat).cap, .int .i64 k] S1 Glb.blk ⟨S1,ZC,⟨(ips i.toNat).a,(ips i.toNat).cap,⟨fun _=>⟨none,0,0,none⟩,(ips i.toNat).q⟩,by rw[hrd,←hin.1],by rw[hrd];exact hin.row,fun b hb o=> ?_⟩,⟨ZC,ZC,rfl,trivial,fun _ _ h=>h.elim,fun _ _ h=>h,fun _ _ h=>h⟩,fun _ _ _ h=>h,fun _ _ h=>h,fun _ _ h=>h.elim⟩ (fun b o h hb=>H.dis b o (hS1 b o h) (H.gl.1 b hb)) (fun b o h=>H.ltS b o (hS1 b o h)) (fun b hb=>H.ltL b (H.gl.1 b hb)) (fun _ h=>h) H.gl.2 z hz) ?_
     ·rcases hb with ⟨o,h⟩| ⟨h,_⟩
      ·exact ⟨o,h⟩
      ·cases h
     ·rintro e w' ⟨vs,SO,SB,⟨v0,v1,as,hargs,rfl,rfl⟩,ho,hb,hdis,hsub,hfr⟩;simp only[List.cons.injEq]at hargs;obtain ⟨rfl,rfl⟩:=hargs;obtain ⟨Sa,Sb,hn,⟨Sc,Sd,hl,_⟩,_⟩:=ho;have hn:v0= .int .i64 z.1.1:=hn;subst hn;obtain ⟨a2,cap2,ips2,ev,R2,_⟩:=hl;obtain ⟨e1,e2,e3⟩:=Zom ev (fun h=>(hin.2.2.1 h).2) (fun h=>(R2.2.1 h).2);have i2:=Zka R2;refine ⟨_,rfl,loc,S,?_,rfl,fun x u h=>h.scrub,fun _ _ h=> .inl h,hfr.mono hS1⟩;simp only[Zj];refine Zpg (S1:=S1) H hrow el hi ?_ (fun _ _ h=>h) hfr;obtain ⟨j1,j2,j3,j4⟩:=i2;exact ⟨e2.symm,by rw[←e3];exact j2,hin.2.2.1,fun b o e=>by rw[←e1]at e;rw[←e3];exact j4 b o e⟩
  ·cases h
 ·rename_i t t' run kd tv k _;simp only at hkd;subst hkd;cases hn:t.noP with
  |false=>rw[hn]at h;cases h
  |true=>
   rw[hn,Zb]at h;split at h
   ·rename_i y us1 ht;cases hz:run y with
    |none=>rw[hz]at h;cases h
    |some z=>
     rw[hz]at h;simp only[Zo]at h;split at h
     ·rename_i b hb;simp only[Zg,Zz]at h;obtain ⟨rfl,rfl⟩:=h;obtain ⟨S1,L1,T,hrel,hdl,hls,hll,hlent,hLL⟩:=Zbs H ht hv;refine Calls.mono (hf.calls w y args S1 L1 hrel hdl hls hll (fun b hb=>hLL b (H.gl.1 b hb)) H.gl.2 z hz) ?_;rintro e w' ⟨vs,SO,SB,⟨v0,v1,as,rfl,rfl,rfl⟩,ho,hbk,hdis,hsub,hfr⟩;obtain ⟨Sa,Sb,hn,⟨Sc,Sd,hl,_,_,hsc,_⟩,_,_,hsb⟩:=ho;have hn:v0= .int .i64 z.1.1:=hn;subst hn;have hS1:Sub2 S1 S:=Qa.mono T H;have Hf:Heap (Zj st.rows us1) loc w' S L:=T.heap.frame hfr (fun i x ex b o ho hh=>(T.apart b o ⟨i,x,ex,ho⟩).2 hh) (fun b hb o hh=>H.dis b o (hS1 b o hh) hb);have new: ∀b o,SO b o→S b o∨w.heap.size≤b:=fun b o h=>(hsub b o (.inl h)).1.imp_left (hS1 b o);have H2:Heap (Zj st.rows us1) loc w' (Z7 S SO) L:=Hf.widen SO (fun b o h hl=>(new b o h).elim (fun h=>H.dis b o h hl) (fun h=>by have:=H.ltL b hl;omega)) (fun b o h=>(hsub b o (.inl h)).2);have hown:Dis (Qa (Zj st.rows us1) loc) SO:=fun b o h hh=>(hsub b o (.inl hh)).1.elim (fun hh=>(T.apart b o h).2 hh) (fun hh=>by
       obtain ⟨i,x,ex,hx⟩:=h;have:=T.heap.own_lt ex hx;omega)
      obtain ⟨loc2,T2⟩:=Zo1 H (.refl loc) H2 hb hv.1 hl (fun b o h=> .inr (hsb b o (hsc b o h))) (fun b o h k=>hown b o h (hsb b o (hsc b o k)));refine ⟨_,rfl,loc2,Z7 S SO,?_,rfl,?_,fun b o h=>h.elim .inl (new b o),hfr.mono hS1⟩
      ·rw[Qd];exact T2.heap
      ·refine T2.keep _ fun i hi=> ?_;rw[Wi];exact List.mem_append_right _ hi
     ·cases h
   ·cases h
 ·cases h
theorem ZgM {loc:Loc}: ∀{ts:List LT} {cs:List Value},cs.length=ts.length→J9 cs→Z3 loc (ZoN ts) cs
 | [],[],_,_=>trivial
 | [],_::_,h,_=>by simp at h
 |_::_,[],h,_=>by simp at h
 |_::ts,c::cs,h,k=>⟨k.1,ZgM (by simpa using h) k.2⟩
theorem Zo7 [Glb] {P:Program} {st:St} {loc:Loc} {w:World} {S:Fp} {L:Nat→Prop} (H:Heap st.rows loc w S L) {fresh:Nat} (hid: ∀k,fresh≤k→k<fresh+1024→st.rows k=none) {g:FuncId} {f:Fn} (hf:Zy P g f) (hkd:f.kd= .may)
  {tvs:List TV} {args:List Value} (hv:Jp loc tvs args) {v:TV} {us:Us} (h:Zl5 f fresh st tvs (fun v us=>some (v,us))=some (v,us)):
  Calls P g args.toArray w fun e w'=> ∃val,e= .returned val∧Z4 st.rows loc w S L us v val w':=by
 unfold Zl5 at h;split at h
 ·rename_i ins ts run kd;simp only at hkd;subst hkd;cases hn:Xs ins with
  |false=>rw[hn]at h;cases h
  |true=>
  rw[hn,Zb]at h;split at h
  ·rename_i y us1 ht;cases hr:run y with
   |none=>rw[hr]at h;cases h
   |some r=>
    rw[hr]at h;simp only[Zo]at h;obtain ⟨S1,L1,T,hrel,hdl,hls,hll,hlent,hLL⟩:=Zbs H ht hv;refine Calls.mono (hf.calls w y args S1 L1 hrel hdl hls hll (fun b hb=>hLL b (H.gl.1 b hb)) H.gl.2 r hr) ?_;rintro e w' ⟨vs,SO,SB,hret,⟨cs,rfl,hlen,hone,hls2⟩,hb,hdis,hsub,hfr⟩;refine ⟨_,hret,?_⟩;have hS1:Sub2 S1 S:=Qa.mono T H;have Hf:Heap (Zj st.rows us1) loc w' S L:=T.heap.frame hfr (fun i x ex b o ho hh=>(T.apart b o ⟨i,x,ex,ho⟩).2 hh) (fun b hb o hh=>H.dis b o (hS1 b o hh) hb);cases hbool:r.1.2.1 with
    |false=>
     rw[hbool]at h;simp only[Zd,Zg,Zz]at h;obtain ⟨rfl,rfl⟩:=h;refine Z4.ext (loc':=loc) (S':=S) Hf (Zbr ht) ?_ (.refl _) (fun b o h=> .inl h) (hfr.mono hS1);exact ⟨[.agg cs.toArray, .bool false],rfl,⟨cs,rfl,ZgM hlen hone⟩,rfl,trivial⟩
    |true=>
     rw[hbool]at h;simp only[Zb,Zg,Zz]at h;obtain ⟨rfl,rfl⟩:=h;have hls3:=hls2 hbool;have new: ∀b o,SO b o→S b o∨w.heap.size≤b:=fun b o h=>(hsub b o (.inl h)).1.imp_left (hS1 b o);have H2:Heap (Zj st.rows us1) loc w' (Z7 S SO) L:=Hf.widen SO (fun b o h hl=>(new b o h).elim (fun h=>H.dis b o h hl) (fun h=>by have:=H.ltL b hl;omega)) (fun b o h=>(hsub b o (.inl h)).2);have hown:Dis (Qa (Zj st.rows us1) loc) SO:=fun b o h hh=>(hsub b o (.inl hh)).1.elim (fun hh=>(T.apart b o h).2 hh) (fun hh=>by
      obtain ⟨i,x,ex,hx⟩:=h;have:=T.heap.own_lt ex hx;omega)
     have hts:ts.length≤63:=hf.outOk.1;have free: ∀k,fresh≤k→k<fresh+1024→Zj st.rows us1 k=none:=fun k h1 h2=>T.none k (hid k h1 h2);obtain ⟨loc3,P3,k3,_,_,_,_,_⟩:=ZcD (id:=fresh) H2 (fun k h1 h2=>free k h1 (by omega)) hls3 (fun b o h=> .inr h) (fun b h=>h.elim) hown;refine Z4.ext (loc':=loc3) (S':=Z7 S SO) ?_ ?_ ?_ P3.ext (fun b o h=>h.elim .inl (new b o)) (hfr.mono hS1)
     ·rw[Qd];exact P3.heap
     ·exact Jr.append (Zbr ht) (ZcC _ _ _)
     ·exact ⟨[.agg cs.toArray, .bool true],rfl,⟨cs,rfl,k3⟩,rfl,trivial⟩
  ·cases h
 ·cases h
theorem Zo3 [Glb] {P:Program} {st:St} {loc:Loc} {w:World} {S:Fp} {L:Nat→Prop} (H:Heap st.rows loc w S L) {fresh:Nat} (hid: ∀k,fresh≤k→k<fresh+1024→st.rows k=none) {g:FuncId} {f:Fn} (hf:Zy P g f) (hkd:f.kd= .ali)
  {tvs:List TV} {args:List Value} (hv:Jp loc tvs args) {v:TV} {us:Us} (h:U7 f fresh st tvs (fun v us=>some (v,us))=some (v,us)):
  Calls P g args.toArray w fun e w'=> ∃val,e= .returned val∧Z4 st.rows loc w S L us v val w':=by
 unfold U7 at h;split at h
 ·rename_i ins ts ts' run kd;simp only at hkd;subst hkd;split at h
  ·rename_i y us1 ht;cases hr:run y with
   |none=>rw[hr]at h;cases h
   |some r=>
    rw[hr]at h;simp only[Zo]at h;cases hpb:Ji ins r.2 tvs (Zj st.rows us1) (fresh+512)with
    |false=>rw[hpb]at h;cases h
    |true=>
    rw[hpb,Zb]at h;obtain ⟨S1,L1,T,hrel,hdl,hls,hll,hlent,hLL⟩:=Zbs H ht hv;refine Calls.mono (hf.calls w y args S1 L1 hrel hdl hls hll (fun b hb=>hLL b (H.gl.1 b hb)) H.gl.2 r hr) ?_;rintro e w' ⟨vs,SO,SB,hret,⟨hoT,hoF⟩,hb,hdis,hsub,hfr⟩;refine ⟨_,hret,?_⟩;have hS1:Sub2 S1 S:=Qa.mono T H;have Hf:Heap (Zj st.rows us1) loc w' S L:=T.heap.frame hfr (fun i x ex b o ho hh=>(T.apart b o ⟨i,x,ex,ho⟩).2 hh) (fun b hb o hh=>H.dis b o (hS1 b o hh) hb);have new: ∀b o,SO b o∨SB b o→S b o∨w.heap.size≤b:=fun b o h=>(hsub b o h).1.imp_left (hS1 b o);have H2:Heap (Zj st.rows us1) loc w' (Z7 S (Z7 SO SB)) L:=Hf.widen (Z7 SO SB) (fun b o h hl=>(new b o h).elim (fun h=>H.dis b o h hl) (fun h=>by have:=H.ltL b hl;omega)) (fun b o h=>(hsub b o h).2);have hown:Dis (Qa (Zj st.rows us1) loc) (Z7 SO SB):=fun b o h hh=>(hsub b o hh).1.elim (fun hh=>(T.apart b o h).2 hh) (fun hh=>by
     obtain ⟨i,x,ex,hx⟩:=h;have:=T.heap.own_lt ex hx;omega)
    have free: ∀k,fresh≤k→k<fresh+1024→Zj st.rows us1 k=none:=fun k h1 h2=>T.none k (hid k h1 h2);have hnin:ins.length≤8:=hf.nin;have hts:ts.length≤63:=hf.outOk.1;have hts':ts'.length≤63:=hf.outOk.2.1;obtain ⟨loc2,P2,n2⟩:=US (base:=fresh+512) H2 (fun k h1 h2=>free k (by omega) (by have h2:k<fresh+512+64*ins.length:=h2;omega)) hb hlent (fun b o h=> .inr (.inr h)) (fun b o h hh=>hown b o h (.inr hh)) hf.inOk;have d3:Dis (Qa (Zj (Zj st.rows us1) (Qt ins r.2 tvs (Zj st.rows us1) (fresh+512))) loc2) SO:=fun b o h hh=>(P2.owned b o h).elim (fun h=>hown b o h (.inl hh)) (fun h=>hdis b o hh h);cases hbool:r.1.2.2.1 with
    |false=>
     rw[hbool]at h;simp only[Zd,Zg,Zz]at h;obtain ⟨rfl,rfl⟩:=h;obtain ⟨loc3,P3,k3,_,_,_,_⟩:=We (id:=fresh) P2.heap (fun k h1 h2=>n2 k (free k h1 (by have:([.a ts, .a ts']:List Ty).length=2:=rfl;omega)) (.inl (by have:([.a ts, .a ts']:List Ty).length=2:=rfl;omega))) (hoF hbool) (fun b o h=> .inr (.inl h)) (fun b h=>h.elim) d3 ⟨hts,hts',trivial⟩;refine Z4.ext (loc':=loc3) (S':=Z7 S (Z7 SO SB)) ?_ ?_ (ZkA k3) (P2.ext.trans P3.ext) (fun b o h=>h.elim .inl (new b o)) (hfr.mono hS1)
     ·rw[Qd,Qd];exact P3.heap
     ·exact Jr.append (Zbr ht) (Jr.append (UR _ _ _ _ _) (ZdF _ _ _))
    |true=>
     rw[hbool]at h;simp only[Zb,Zg,Zz]at h;obtain ⟨rfl,rfl⟩:=h;obtain ⟨v0,rfl,Sa,Sb,⟨cs,rfl,hls2⟩,_,_,hsa,_⟩:=hoT hbool;obtain ⟨loc3,P3,k3,_,_,_,_,_⟩:=ZcD (id:=fresh) P2.heap (fun k h1 h2=>n2 k (free k h1 (by omega)) (.inl (by omega))) hls2 (fun b o h=> .inr (.inl (hsa b o h))) (fun b h=>h.elim) (fun b o h hh=>d3 b o h (hsa b o hh));refine Z4.ext (loc':=loc3) (S':=Z7 S (Z7 SO SB)) ?_ ?_ ?_ (P2.ext.trans P3.ext) (fun b o h=>h.elim .inl (new b o)) (hfr.mono hS1)
     ·rw[Qd,Qd];exact P3.heap
     ·exact Jr.append (Zbr ht) (Jr.append (UR _ _ _ _ _) (ZcC _ _ _))
     ·exact ⟨[.agg cs.toArray, .agg cs.toArray],rfl,⟨cs,rfl,k3⟩,⟨cs,rfl,k3⟩,trivial⟩
  ·cases h
 ·cases h
theorem Zo4 [Glb] {P:Program} {st:St} {loc:Loc} {w:World} {S:Fp} {L:Nat→Prop} (H:Heap st.rows loc w S L) {fresh:Nat} (hid: ∀k,fresh≤k→k<fresh+1024→st.rows k=none) {g:FuncId} {f:Fn} (hf:Zy P g f)
  {tvs:List TV} {args:List Value} (hv:Jp loc tvs args) {v:TV} {us:Us} (h:Ky f fresh st tvs (fun v us=>some (v,us))=some (v,us)):
  Calls P g args.toArray w fun e w'=> ∃val,e= .returned val∧Z4 st.rows loc w S L us v val w':=by
 unfold Ky at h;cases hk:f.kd with
 |nor=>rw[hk]at h;exact Zne H hid hf hk hv h
 |inp=>rw[hk]at h;exact Zo6 H hf hk hv h
 |lnt=>rw[hk]at h;exact Zo5 H hid hf hk hv h
 |may=>rw[hk]at h;exact Zo7 H hid hf hk hv h
 |ali=>rw[hk]at h;exact Zo3 H hid hf hk hv h
theorem Zss [Glb] {env:Env} {st:St} {loc:Loc} {a:Act} {w:World} {S:Fp} {L:Nat→Prop} (hE: ∀g f,env.fns g=some f→Zy env.prog g f) (H:Heap st.rows loc w S L) (ht: ∀t,ZK loc (st.tmps t) (a.tmps.getD t undef))
  {fresh:Nat} (hid: ∀k,fresh≤k→k<fresh+1024→st.rows k=none) {o:Oper} {v:TV} {us:Us} (h:ZY env fresh o.op st=some (v,us)) {next:Act→World→Prop} {Q:Exit→Act→World→Prop}
  (hn: ∀val w',Z4 st.rows loc w S L us v val w'→next (a.put o.dst val) w'):o.wp env.prog a w next Q:=by
 have ev:=fun x=>Znr ht x;have hid0:st.rows fresh=none:=hid fresh (Nat.le_refl _) (by omega);have fin:(∃val w',ZoX env.prog a o w val w'∧Z4 st.rows loc w S L us v val w')→o.wp env.prog a w next Q:=by
  rintro ⟨val,w',hr| ⟨hr,rfl⟩,hd⟩
  ·unfold Oper.wp;rw[hr];exact hn val w' hd
  ·unfold Oper.wp;rw[hr];exact hn undef w' hd
 have d: ∀{op:Op},o.op=op→ZY env fresh op st=KB (fun v us=>some (v,us)) (Qe env.prog fresh st op)→ZY env fresh op st=some (v,us)→o.wp env.prog a w next Q:=fun {op} ho e h=>by
  rw[e]at h;obtain ⟨f,hf,hc,hk⟩:=Zav h;simp only[Zg,Zz]at hk;obtain ⟨rfl,rfl⟩:=hk;exact fin (Zct H ht hid0 ho hf hc)
 cases hop:o.op with
 |pick c x y=>
  rw[hop]at h;simp only[ZY,Q4]at h;split at h
  ·rename_i b e;have hc:=ev c;rw[e]at hc;have hc:a.eval c= .bool b:=hc;refine fin ⟨if b then a.eval x else a.eval y,w, .inl ?_,?_⟩
   ·simp only[execOp,hop,hc];simp[asBool]
   ·cases b with
    |true=>simp only[Zb,Zg,Zz]at h;obtain ⟨rfl,rfl⟩:=h;exact Z4.quiet H (ev x)
    |false=>simp only[Zd,Zg,Zz]at h;obtain ⟨rfl,rfl⟩:=h;exact Z4.quiet H (ev y)
  ·cases h
 |call c=>
  rw[hop]at h;simp only[ZY,Q4]at h;have hargs:Jp loc (evs st c.args.toList) (c.args.toList.map a.eval):=Zp2 ht _;split at h
  ·rename_i x hcal;split at h
   ·rename_i g e;split at h
    ·rename_i f hf;have hx:=ev x;rw[e]at hx;have hx:a.eval x= .func (.func g) #[] #[]:=hx;have hok:=hE g f hf;obtain ⟨fn,h1,h2,h3⟩:=hok.enters;have hrun:(execOp a.eval o).run env.prog w= .ok (.enter g (c.args.map a.eval)) w:=by
      simp only[execOp,hop,resolve,hcal,hx,Deferred.ofValue,Sem.run_bind,Sem.run_pure,Result.andThen_ok,invoke,callFunc,run_program,h1];simp[h2,h3]
     unfold Oper.wp;rw[hrun,Oper.upon_enter];have:=Zo4 H hid hok hargs h;have he:(c.args.toList.map a.eval).toArray=c.args.map a.eval:=by apply Array.ext';simp
     rw[he]at this;refine Calls.mono this ?_;rintro e w' ⟨val,rfl,hd⟩;exact hn val w' hd
    ·cases h
   ·cases h
  ·rename_i b hcal;obtain ⟨f,hf,hc,hk⟩:=Zav h;simp only[Zg,Zz]at hk;obtain ⟨rfl,rfl⟩:=hk;obtain ⟨val,w',hr,hd⟩:=Znv (ty:=o.type) (cst:=c.args.map fun| .const _=>true|_=>false) (args:=c.args.map a.eval) H hid0 (by simpa using hargs) hf hc;refine fin ⟨val,w', .inl ?_,hd⟩;simp only[execOp,hop,resolve,hcal,Sem.run_bind,Sem.run_pure,Result.andThen_ok,invoke];exact hr
  ·cases h
 |_=>rw[hop]at h;exact d hop rfl h
structure XR where
 w:World
 S:Fp
 L:Nat→Prop
 a:Act
 ts:List Nat
 rows:Nat→Value→Prop
 boxes:Nat→Value→Prop
def JR [Glb] (B:XR) (st:St) (a:Act) (w:World):Prop:=
 ∃loc S,Heap st.rows loc w S B.L∧(∀t,ZK loc (st.tmps t) (a.tmps.getD t undef))∧(a.tmps.size=st.nt∧st.nt=B.a.tmps.size)∧a.defers=[]∧(∀b o,S b o→B.S b o∨B.w.heap.size≤b)∧Frame B.S B.w w∧
  (∀t,t∉B.ts→a.tmps.getD t undef=B.a.tmps.getD t undef)∧(∀id u,B.rows id u→ZD loc (.slf id) u)∧ ∀id u,B.boxes id u→ZD loc (.ptr id 0) u
theorem Z3.map {loc loc':Loc} {g:SV→SV} (h: ∀x u,ZD loc x u→ZD loc' (g x) u): ∀{xs:List SV} {vs:List Value},Z3 loc xs vs→Z3 loc' (xs.map g) vs
 | [],[],_=>trivial
 |_::_,_::_,r=>⟨h _ _ r.1,Z3.map h r.2⟩
 | [],_::_,r=>r.elim
 |_::_,[],r=>r.elim
theorem Ym.scrub [Glb] {loc loc':Loc} {ks:List Nat} (h: ∀x u,ZD loc x u→ZD loc' (JW ks x) u) {x:CV} {v:Value} (r:Ym loc x v):Ym loc' (ZlM ks x) v:=by
 cases x with
 |s x=>
  by_cases hx:x= .undef
  ·subst hx;trivial
  ·exact Vj (h x v (Vn r hx))
 |agg l=>obtain ⟨cs,e,r⟩:=r;exact ⟨cs,e,r.map h⟩
theorem YY.scrub [Glb] {loc loc':Loc} {ks:List Nat} (h: ∀x u,ZD loc x u→ZD loc' (JW ks x) u): ∀{xs:List CV} {vs:List Value},YY loc xs vs→YY loc' (xs.map (ZlM ks)) vs
 | [],[],_=>trivial
 |_::_,_::_,r=>⟨r.1.scrub h,YY.scrub h r.2⟩
 | [],_::_,r=>r.elim
 |_::_,[],r=>r.elim
theorem ZK.scrub [Glb] {loc loc':Loc} {ks:List Nat} (h: ∀x u,ZD loc x u→ZD loc' (JW ks x) u) {x:TV} {v:Value} (r:ZK loc x v):ZK loc' (Zqd ks x) v:=by
 cases x with
 |c x=>exact Ym.scrub h r
 |tup l=>obtain ⟨cs,e,r⟩:=r;exact ⟨cs,e,r.scrub h⟩
theorem Ym.keep [Glb] {loc loc':Loc} (h: ∀x u,ZD loc x u→ZD loc' (JW [] x) u) {x:TV} {v:Value} (r:ZK loc x v):ZK loc' x v:=by
 have h': ∀x u,ZD loc x u→ZD loc' x u:=fun x u r=>by have:=h x u r;rwa [Zer]at this
 cases x with
 |c x=>
  cases x with
  |s x=>
   by_cases hx:x= .undef
   ·subst hx;trivial
   ·exact Vj (h' x v (Vn r hx))
  |agg l=>obtain ⟨cs,e,r⟩:=r;exact ⟨cs,e,by have:=r.map (g:=id) h';rwa [List.map_id]at this⟩
 |tup l=>
  obtain ⟨cs,e,r⟩:=r;refine ⟨cs,e,?_⟩;clear e;induction l generalizing cs with
  |nil=>cases cs<;>first|trivial|exact r.elim
  |cons x l ih=>
   cases cs with
   |nil=>exact r.elim
   |cons c cs=>
    refine ⟨?_,ih cs r.2⟩;cases x with
    |s x=>
     by_cases hx:x= .undef
     ·subst hx;trivial
     ·exact Vj (h' x _ (Vn r.1 hx))
    |agg l=>obtain ⟨cs,e,r⟩:=r.1;exact ⟨cs,e,by have:=r.map (g:=id) h';rwa [List.map_id]at this⟩
theorem ZjK [Glb] {loc loc':Loc} {f:Nat→TV} {ks:List Nat} (h: ∀x u,ZD loc x u→ZD loc' (JW ks x) u) {t:Nat} {v:Value} (r:ZK loc (f t) v):ZK loc' (ZlL f ks t) v:=by
 cases ks with
 |nil=>exact Ym.keep h r
 |cons k ks=>exact ZK.scrub h r
theorem ZpE (a:Act) (dst:Option Tmp) (v:Value):(a.put dst v).tmps.size=a.tmps.size:=by cases dst<;>simp[Act.put]
theorem ZmI (a:Act) (dst:Option Tmp) (v:Value):(a.put dst v).defers=a.defers:=by cases dst<;>rfl
theorem ZpD {a:Act} {d:Nat} (h:d<a.tmps.size) (v:Value):(a.put (some d) v).tmps.getD d undef=v:=by simp[Act.put,h]
theorem ZjH {a:Act} {d t:Nat} (h:t≠d) (v:Value):(a.put (some d) v).tmps.getD t undef=a.tmps.getD t undef:=by
 simp only[Act.put,Array.getD_eq_getD_getElem?,Array.getElem?_setIfInBounds_ne (Ne.symm h)]
theorem ZrB {st:St} {d:Nat} (h:JC st (some d)=true):d<st.nt:=by
 have:d+1≤st.nt:=by simpa [JC,Nat.blt] using h
 omega
theorem Ui (st:St) (dst:Option Nat) (v:TV) (us:Us):(st.app dst v us).rows=Zj st.rows us:=by cases dst<;>rfl
theorem ZiQ (st:St) (dst:Option Nat) (v:TV) (us:Us):(st.app dst v us).nt=st.nt:=by cases dst<;>rfl
theorem Ze1 (st:St) (dst:Option Nat) (v:TV) (us:Us):(st.app dst v us).next=st.next:=by cases dst<;>rfl
theorem JR.done [Glb] {B:XR} {st:St} {a:Act} {w w':World} {loc:Loc} {S:Fp} (ht: ∀t,ZK loc (st.tmps t) (a.tmps.getD t undef)) (hs:a.tmps.size=st.nt∧st.nt=B.a.tmps.size) (hd:a.defers=[])
  (hS: ∀b o,S b o→B.S b o∨B.w.heap.size≤b) (hf:Frame B.S B.w w) (hk: ∀t,t∉B.ts→a.tmps.getD t undef=B.a.tmps.getD t undef) (hr: ∀id u,B.rows id u→ZD loc (.slf id) u) (hb: ∀id u,B.boxes id u→ZD loc (.ptr id 0) u)
  {dst:Option Nat} (hts: ∀d,dst=some d→d∈B.ts) {v:TV} {us:Us} {val:Value} (h:Z4 st.rows loc w S B.L us v val w') (hdst:JC st dst=true):
  JR B (st.app dst v us) (a.put dst val) w':=by
 obtain ⟨loc',S',H',hv,hsc,hS',hfr⟩:=h;have hle:=hf.size;refine ⟨loc',S',?_,?_,?_,by rw[ZmI];exact hd,fun b o h=>(hS' b o h).elim (hS b o) (fun h=> .inr (by omega)),hf.trans hfr fun x o hx h=>(hS x o h).resolve_right (by omega),?_,fun id u h=>hsc (.slf id) u (hr id u h),fun id u h=>hsc (.ptr id 0) u (hb id u h)⟩
 ·cases dst<;>exact H'
 ·intro t;cases dst with
  |none=>exact ZjK hsc (ht t)
  |some d=>
   by_cases e:t=d
   ·subst e;simp only[St.app,Zd0];rw[ZpD (by rw[hs.1];exact ZrB hdst)];exact hv
   ·simp only[St.app,Zbu _ _ e];rw[ZjH e];exact ZjK hsc (ht t)
 ·rw[ZpE,ZiQ];exact hs
 ·intro t htt;cases dst with
  |none=>exact hk t htt
  |some d=>rw[ZjH (fun e=>htt (by rw[e];exact hts d rfl))];exact hk t htt
def W9 (env:Env) (all:List Oper) (o:Oper) (fresh:Nat) (st:St):Option (TV×Us):=
 match o.guard with
 |none=>ZY env fresh o.op st
 |some (j,want)=>match all[j]? with
  |some oj=>match oj.dst with
   |some t=>match st.tmps t with
    | .c (.s (.bool b))=>bif b==want then ZY env fresh o.op st else some (Jy,[])
    | .c (.s .void)=>some (Jy,[])
    |_=>none
   |none=>none
  |none=>none
theorem Zj7 [Glb] {r:Nat→TV} {i:Nat} {x:TV} (h:r i=x):XP r i x=r:=by
 funext j;by_cases e:j=i
 ·subst e;rw[Zd0,h]
 ·rw[Zbu _ _ e]
theorem ZgI [Glb] {R:Type} {env:Env} {fresh:Nat} {o:Oper} {st:St} {K:St→Option R} {r:R} (h:ZrX env fresh o st K=some r):
  JC st o.dst=true∧ ∃v us,ZY env fresh o.op st=some (v,us)∧YB (fresh+1024) us=true∧K (st.app o.dst v us)=some r:=by
 unfold ZrX at h;cases hd:JC st o.dst with
 |false=>rw[hd]at h;cases h
 |true=>
  rw[hd,Zb]at h;obtain ⟨v,us,h1,h2⟩:=ZhT h;cases hu:YB (fresh+1024) us with
  |false=>rw[hu]at h2;cases h2
  |true=>rw[hu,Zb]at h2;exact ⟨rfl,v,us,h1,hu,h2⟩
theorem ZhM {R:Type} {o:Oper} {st:St} {K:St→Option R} {r:R} (h:ZmL o st K=some r):JC st o.dst=true∧K (st.app o.dst Jy [])=some r:=by
 unfold ZmL at h;cases hd:JC st o.dst with
 |false=>rw[hd]at h;cases h
 |true=>rw[hd,Zb]at h;exact ⟨rfl,h⟩
theorem ZgJ [Glb] {R:Type} {env:Env} {all:List Oper} {o:Oper} {l:List Oper} {fresh:Nat} {st:St} {K:St→Option R} {r:R} (h:Xd env all (o::l) fresh st K=some r):
  JC st o.dst=true∧ ∃v us,W9 env all o fresh st=some (v,us)∧YB (fresh+1024) us=true∧Xd env all l (fresh+1024) (st.app o.dst v us) K=some r:=by
 simp only[Xd]at h;unfold W9;cases hg:o.guard with
 |none=>
  rw[hg]at h;exact ZgI h
 |some g=>
  obtain ⟨j,want⟩:=g;rw[hg]at h;simp only at h⊢;cases hj:all[j]? with
  |none=>rw[hj]at h;cases h
  |some oj=>
   rw[hj]at h;simp only at h⊢;cases ht:oj.dst with
   |none=>rw[ht]at h;cases h
   |some t=>
    rw[ht]at h;simp only at h⊢;have sk:ZmL o st (fun st'=>Xd env all l (fresh+1024) st' K)=some r→JC st o.dst=true∧ ∃v us,(some (Jy,[]):Option (TV×Us))=some (v,us)∧YB (fresh+1024) us=true∧Xd env all l (fresh+1024) (st.app o.dst v us) K=some r:=fun h=>
     ⟨(ZhM h).1,_,_,rfl,rfl,(ZhM h).2⟩
    split at h
    ·rename_i b e;have hs: ∀b',b=b'→({st with tmps:=XP st.tmps t (.c (.s (.bool b')))}:St)=st:=fun b' hb=>by
      subst hb;rw[Zj7 e]
     rw[e];cases b with
     |true=>
      rw[hs true rfl,Zb]at h;cases want with
      |true=>exact ZgI (by simpa only[Zb] using h)
      |false=>exact sk (by simpa only[Zd] using h)
     |false=>
      rw[hs false rfl,Zd]at h;cases want with
      |true=>exact sk (by simpa only[Zb] using h)
      |false=>exact ZgI (by simpa only[Zd] using h)
    ·rename_i e;rw[e];exact sk h
    ·cases h
theorem getD_some {a:Array Value} {t:Nat} {b:Bool} (h:a.getD t undef= .bool b):a[t]? =some (.bool b):=by
 rw[Array.getD_eq_getD_getElem?]at h;cases hx:a[t]? with
 |none=>rw[hx]at h;cases h
 |some x=>rw[hx]at h;simp only[Option.getD_some]at h;rw[h]
theorem Zex [Glb] {env:Env} {ops:Array Oper} {st:St} {a:Act} {w:World} {B:XR} (hE: ∀g f,env.fns g=some f→Zy env.prog g f) (G:JR B st a w) {i:Nat} {o:Oper} (ho:ops[i]? =some o) (hts: ∀d,o.dst=some d→d∈B.ts)
  {fresh:Nat} (hid: ∀k,fresh≤k→k<fresh+1024→st.rows k=none) {v:TV} {us:Us} (h:W9 env ops.toList o fresh st=some (v,us)) (hdst:JC st o.dst=true) {next:Act→World→Prop} {Q:Exit→Act→World→Prop}
  (hn: ∀a' w',JR B (st.app o.dst v us) a' w'→next a' w'):wpOp env.prog ops Q i next a w:=by
 obtain ⟨loc,S,H,ht,hs,hd,hS,hf,hk,hr,hb⟩:=G;have run:ZY env fresh o.op st=some (v,us)→o.wp env.prog a w next Q:=fun h=>Zss hE H ht hid h fun val w' hdone=>hn _ _ (JR.done ht hs hd hS hf hk hr hb hts hdone hdst)
 have skip:(v,us)=(Jy,[])→next (a.put o.dst undef) w:=fun h=>by
  obtain ⟨rfl,rfl⟩:=Prod.mk.inj h;exact hn _ _ (JR.done ht hs hd hS hf hk hr hb hts (Z4.quiet H (v:=Jy) (val:=undef) rfl) hdst)
 unfold wpOp;simp only[ho];unfold W9 at h;cases hg:o.guard with
 |none=>
  rw[hg]at h;simp only[Region.wanted,hg,if_true];exact .inl (run h)
 |some g=>
  obtain ⟨j,want⟩:=g;rw[hg]at h;simp only at h;cases hj:ops.toList[j]? with
  |none=>rw[hj]at h;cases h
  |some oj=>
   rw[hj]at h;simp only at h;cases hjd:oj.dst with
   |none=>rw[hjd]at h;cases h
   |some t=>
    rw[hjd]at h;simp only at h;have hj':ops[j]? =some oj:=by simpa using hj
    have htt:=ht t;split at h
    ·rename_i b e;rw[e]at htt;have hb:a.tmps.getD t undef= .bool b:=htt;have hy:yielded ops a.tmps j=some b:=by simp[yielded,hj',hjd,getD_some hb]
     simp only[Region.wanted,hg,hy];by_cases hbw:b=want
     ·subst hbw;simp only[BEq.rfl,Zb]at h⊢;simp only[if_true];exact .inl (run h)
     ·have h1:(b==want)=false:=by simpa using hbw
      have h2:((some b:Option Bool)==some want)=false:=by simpa using hbw
      rw[h1,Zd]at h;simp only[h2,Bool.false_eq_true,if_false];exact skip (Option.some.inj h).symm
    ·rename_i e;rw[e]at htt;have hb:a.tmps.getD t undef=undef:=htt;have hy:yielded ops a.tmps j=none:=by
      simp only[yielded,hj',hjd,Zo];cases hx:a.tmps[t]? with
      |none=>rfl
      |some x=>
       rw[Array.getD_eq_getD_getElem?,hx]at hb;simp only[Option.getD_some]at hb;rw[hb];rfl
     simp only[Region.wanted,hg,hy];have h2:((none:Option Bool)==some want)=false:=rfl;simp only[h2,Bool.false_eq_true,if_false];exact skip (Option.some.inj h).symm
    ·cases h
theorem ZgN [Glb] {rows:Rows} {n:Nat}: ∀{us:Us},YB n us=true→ ∀k,n≤k→Zj rows us k=rows k:=by
 intro us;induction us generalizing rows with
 |nil=>intro _ k _;rfl
 |cons p us ih=>
  intro h k hk;obtain ⟨i,x⟩:=p;simp only[YB]at h;cases hb:Nat.blt i n with
  |false=>rw[hb]at h;cases h
  |true=>
   rw[hb,Zb]at h;have:i+1≤n:=by simpa [Nat.blt] using hb
   simp only[Zj];rw[ih h k hk,QA _ _ (by omega)]
theorem Zj3 [Glb] {R:Type} {env:Env} (hE: ∀g f,env.fns g=some f→Zy env.prog g f) {ops:Array Oper} {B:XR} (hts: ∀o,o∈ops.toList→ ∀d,o.dst=some d→d∈B.ts) {K:St→Option R} {r:R} {Q:Exit→Act→World→Prop}:
  ∀(l:List Oper) (i fresh:Nat) (st:St) (a:Act) (w:World),ops.toList.drop i=l→Xd env ops.toList l fresh st K=some r→JR B st a w→(∀k,fresh≤k→st.rows k=none)→
   (∀st' a' w',JR B st' a' w'→st'.nt=st.nt→st'.next=st.next→(∀k,fresh+1024*l.length≤k→st'.rows k=none)→K st'=some r→Q .normal a' w')→wpOps env.prog ops Q (List.range' i l.length) a w
 | [],i,fresh,st,a,w,_,h,G,hf,hq=>hq st a w G rfl rfl (fun k hk=>hf k (by simpa using hk)) h
 |o::l,i,fresh,st,a,w,hl,h,G,hf,hq=>by
  obtain ⟨hdst,v,us,hst,hus,hrest⟩:=ZgJ h;have ho:ops[i]? =some o:=by
   have:(ops.toList.drop i)[0]? =some o:=by rw[hl];rfl
   simpa using this
  have hl':ops.toList.drop (i+1)=l:=by
   rw[←List.drop_drop,hl];rfl
  rw[List.length_cons,List.range'_succ,wpOps_cons];refine Zex hE G ho (hts o (by have:=Array.mem_of_getElem? ho;simpa using this)) (fun k h1 _=>hf k h1) hst hdst fun a' w' G'=> ?_;refine Zj3 hE hts l (i+1) (fresh+1024) _ a' w' hl' hrest G' (fun k hk=>by rw[Ui,ZgN hus k hk];exact hf k (by omega)) fun st' a'' w'' G'' h1 h2 h3 h4=> ?_;exact hq st' a'' w'' G'' (by rw[h1,ZiQ]) (by rw[h2,Ze1]) (fun k hk=>h3 k (by rw[List.length_cons]at hk;omega)) h4
def QV (p q:Rows):Prop:= ∀id,p id=some .dead∨p id=q id
theorem QV.upd [Glb] {p q:Rows} (h:QV p q) (i:Nat) (x:Row):QV (QD p i x) (QD q i x):=fun id=>by
 by_cases e:id=i
 ·subst e;rw[QT,QT];exact .inr rfl
 ·rw[QA _ _ e,QA _ _ e];exact h id
theorem QV.app [Glb] {p q:Rows} (h:QV p q): ∀us:Us,QV (Zj p us) (Zj q us):=by
 intro us;induction us generalizing p q with
 |nil=>exact h
 |cons a us ih=>exact ih (h.upd a.1 a.2)
theorem Za3 {p q:Rows} (s:QV p q) {e:E} {sv:SV} {r:List e.C×Option (Nat×Bool)} (h:Qv p e sv=some r):Qv q e sv=some r:=by
 cases sv with
 |slf id=>rcases s id with k|k<;>simp only[Qv,k]at h⊢ <;>first|exact h|cases h
 |sld id o=>rcases s id with k|k<;>simp only[Qv,k]at h⊢ <;>first|exact h|cases h
 |slt id n=>rcases s id with k|k<;>simp only[Qv,k]at h⊢ <;>first|exact h|cases h
 |nslf id i=>cases e<;>rcases s id with k|k<;>simp only[Qv,k]at h⊢ <;>first|exact h|cases h
 |nil=>exact h
 |_=>simp only[Qv]at h<;>cases h
theorem ZcF [Glb] {p q:Rows} (s:QV p q) {t:LT} {v:SV} {r:t.D×Us×List Nat} (hm:t.isMb=false) (h:QQ p t v=some r):QQ q t v=some r:=by
 cases t with
 |mb e=>cases hm
 |sl own e=>
  simp only[QQ]at h⊢;cases hs:Qv p e v with
  |none=>rw[hs]at h;cases h
  |some x=>rw[hs]at h;rw[Za3 s hs];exact h
 |_=>cases v<;>first|exact h| (simp only[QQ]at h<;>cases h)
theorem ZmA {t:LT} {ts:List LT} (h:WS (t::ts)=true):t.isMb=false∧WS ts=true:=by
 simp only[WS]at h;cases hb:t.isMb with
 |true=>rw[hb]at h;cases h
 |false=>rw[hb]at h;exact ⟨rfl,h⟩
theorem ZmB {t:Ty} {ts:List Ty} (h:Ki (t::ts)=true):t.noMb=true∧Ki ts=true:=by
 simp only[Ki]at h;cases hb:t.noMb with
 |false=>rw[hb]at h;cases h
 |true=>rw[hb]at h;exact ⟨rfl,h⟩
theorem ZbQ [Glb]: ∀{ts:List LT} {p q:Rows} {vs:List SV} {r:Tup ts×Us×List Nat},WS ts=true→QV p q→QN p ts vs=some r→QN q ts vs=some r
 | [],_,_,[],_,_,_,h=>h
 | [],_,_,_::_,_,_,_,h=>by simp only[QN]at h;cases h
 |_::_,_,_,[],_,_,_,h=>by simp only[QN]at h;cases h
 |t::ts,p,q,v::vs,r,hm,s,h=>by
  obtain ⟨hm1,hm2⟩:=ZmA hm;simp only[QN]at h⊢;cases h1:QQ p t v with
  |none=>rw[h1]at h;cases h
  |some x=>
   obtain ⟨x,us,ls⟩:=x;rw[h1]at h;rw[ZcF s hm1 h1];simp only at h⊢;cases h2:QN (Zj p us) ts vs with
   |none=>rw[h2]at h;cases h
   |some y=>rw[h2]at h;rw[ZbQ hm2 (s.app us) h2];exact h
theorem ZkW [Glb] {p q:Rows} (s:QV p q) {t:Ty} {v:TV} {r:t.D×Us×List Nat} (hm:t.noMb=true) (h:Qp p t v=some r):Qp q t v=some r:=by
 cases t with
 |v t=>
  cases v with
  |tup l=>simp only[Qp]at h;cases h
  |c c=>cases c with
   |s x=>exact ZcF (t:=t) s (by simpa [Ty.noMb] using hm) h
   |agg l=>simp only[Qp]at h;cases h
 |a ts=>
  cases v with
  |tup l=>simp only[Qp]at h;cases h
  |c c=>cases c with
   |s x=>simp only[Qp]at h;cases h
   |agg l=>exact ZbQ (ts:=ts) hm s h
 |p ts=>
  cases v with
  |tup l=>simp only[Qp]at h;cases h
  |c c=>cases c with
   |agg l=>simp only[Qp]at h;cases h
   |s x=>cases x with
    |ptr id off=>
     rcases s id with k|k
     ·simp only[Qp,k]at h;cases h
     ·simp only[Qp,k]at h⊢;split at h
      ·rename_i cs _;cases hb:Nat.ble (off+ts.length) cs.length with
       |false=>rw[hb]at h;cases h
       |true=>
        rw[hb,Zb]at h;simp only[Zb];split at h
        ·rename_i w hw;cases h2:QN (QD p id (.box (Qu cs off w))) ts ((cs.drop off).take ts.length)with
         |none=>rw[h2]at h;cases h
         |some y=>rw[h2]at h;rw[ZbQ hm (s.upd _ _) h2];exact h
        ·cases h
      ·cases h
    |_=>simp only[Qp]at h;cases h
 |r ts=>
  cases v with
  |tup l=>simp only[Qp]at h;cases h
  |c c=>cases c with
   |agg l=>simp only[Qp]at h;cases h
   |s x=>cases x with
    |ptr id off=>
     rcases s id with k|k
     ·simp only[Qp,K0,k]at h;cases h
     ·have kb:K0 q id=K0 p id:=by simp only[K0,k]
      simp only[Qp,kb]at h⊢;split at h
      ·rename_i cs _;cases hb:rOk ts&&Nat.ble (off+ts.length) cs.length with
       |false=>rw[hb]at h;cases h
       |true=>
        rw[hb,Zb]at h;simp only[Zb];cases h2:QN p ts ((cs.drop off).take ts.length)with
        |none=>rw[h2]at h;cases h
        |some y=>rw[h2]at h;rw[ZbQ hm s h2];exact h
      ·cases h
    |_=>simp only[Qp]at h;cases h
theorem Zcm [Glb]: ∀{ts:List Ty} {p q:Rows} {vs:List TV} {r:PTup ts×Us×List Nat},Ki ts=true→QV p q→QO p ts vs=some r→QO q ts vs=some r
 | [],_,_,[],_,_,_,h=>h
 | [],_,_,_::_,_,_,_,h=>by simp only[QO]at h;cases h
 |_::_,_,_,[],_,_,_,h=>by simp only[QO]at h;cases h
 |t::ts,p,q,v::vs,r,hm,s,h=>by
  obtain ⟨hm1,hm2⟩:=ZmB hm;simp only[QO]at h⊢;cases h1:Qp p t v with
  |none=>rw[h1]at h;cases h
  |some x=>
   obtain ⟨x,us,ls⟩:=x;rw[h1]at h;rw[ZkW s hm1 h1];simp only at h⊢;cases h2:QO (Zj p us) ts vs with
   |none=>rw[h2]at h;cases h
   |some y=>rw[h2]at h;rw[Zcm hm2 (s.app us) h2];exact h
theorem Zbv {np:Bool} {p q:Rows} (s:QV p q): ∀{ls:List Nat},JA np p ls=true→JA np q ls=true
 | [],_=>rfl
 |id::ls,h=>by
  rcases s id with k|k<;>simp only[JA,k]at h⊢
  ·cases h
  ·split at h
   ·exact Zbv s h
   ·exact Zbv s h
   ·simp only[Bool.and_eq_true]at h⊢;exact ⟨h.1,h.2.1,Zbv s h.2.2⟩
   ·cases h
theorem ZcV {p q:Rows} (s:QV p q): ∀{ls:List Nat},Xg p ls=true→Xg q ls=true
 | [],_=>rfl
 |id::ls,h=>by
  rcases s id with k|k<;>simp only[Xg,k]at h⊢
  ·cases h
  ·split at h
   ·exact ZcV s h
   ·exact ZcV s h
   ·cases h
theorem Za9 [Glb] {p q:Rows} (s:QV p q) {ts:List Ty} {vs:List TV} {r:PTup ts×Us} (h:Xc p ts vs=some r):Xc q ts vs=some r:=by
 simp only[Xc]at h⊢;cases hm:Ki ts with
 |false=>rw[hm]at h;cases h
 |true=>
 rw[hm,Zb]at h;rw[Zb];cases h1:QO p ts vs with
 |none=>rw[h1]at h;cases h
 |some x=>
  obtain ⟨x,us,ls⟩:=x;rw[h1]at h;rw[Zcm hm s h1];simp only at h⊢;cases hb:JA (Xs ts) (Zj p us) ls with
  |false=>rw[hb]at h;cases h
  |true=>rw[hb]at h;rw[Zbv (s.app us) hb];exact h
theorem ZiE [Glb] {p q:Rows} (s:QV p q) {ts:List Ty} {vs:List TV} {r:PTup ts×Us} (h:Ws p ts vs=some r):Ws q ts vs=some r:=by
 simp only[Ws]at h⊢;cases hm:Ki ts with
 |false=>rw[hm]at h;cases h
 |true=>
 rw[hm,Zb]at h;rw[Zb];cases h1:QO p ts vs with
 |none=>rw[h1]at h;cases h
 |some x=>
  obtain ⟨x,us,ls⟩:=x;rw[h1]at h;rw[Zcm hm s h1];simp only at h⊢;cases hb:Xg (Zj p us) ls with
  |false=>rw[hb]at h;cases h
  |true=>rw[hb]at h;rw[ZcV (s.app us) hb];exact h
theorem Zhd {p q:Rows} (s:QV p q) {t:LT} {x:t.D} {v:SV} {b:Us} (h:YQ p t x v=some b):YQ q t x v=some b:=by
 cases t with
 |sl ow e=>
  cases ow with
  |true=>
   cases v with
   |slf id=>rcases s id with k|k<;>simp only[YQ,k]at h⊢ <;>first|exact h|cases h
   |nil=>exact h
   |_=>simp only[YQ]at h<;>cases h
  |false=>simp only[YQ]at h;cases h
 |mb e=>simp only[YQ]at h;cases h
 |_=>exact h
theorem Zfi [Glb] {p q:Rows} (s:QV p q): ∀{ts:List LT} {x:Tup ts} {vs:List SV} {b:Us},XV p ts x vs=some b→XV q ts x vs=some b
 | [],_,[],_,h=>h
 | [],_,_::_,_,h=>by simp only[XV]at h;cases h
 |_::_,_,[],_,h=>by simp only[XV]at h;cases h
 |t::ts,x,v::vs,b,h=>by
  simp only[XV]at h⊢;cases h1:YQ p t x.1 v with
  |none=>rw[h1]at h;cases h
  |some a=>
   rw[h1]at h;rw[Zhd s h1];simp only at h⊢;cases h2:XV p ts x.2 vs with
   |none=>rw[h2]at h;cases h
   |some c=>rw[h2]at h;rw[Zfi s h2];exact h
theorem Zl1 [Glb] {p q:Rows} (s:QV p q) {t:Ty} {x:t.D} {v:TV} {b:Us} (h:Yp p t x v=some b):Yp q t x v=some b:=by
 cases t with
 |v t=>
  cases v with
  |tup l=>simp only[Yp]at h;cases h
  |c c=>cases c with
   |s y=>exact Zhd s h
   |agg l=>simp only[Yp]at h;cases h
 |a ts=>
  cases v with
  |tup l=>simp only[Yp]at h;cases h
  |c c=>cases c with
   |s y=>simp only[Yp]at h;cases h
   |agg l=>exact Zfi s h
 |p ts=>simp only[Yp]at h;cases h
 |r ts=>simp only[Yp]at h;cases h
theorem ZpP {p q:Rows} {e:E} {cv:CV} (h:e≠ .n):Jc p e cv=Jc q e cv:=by
 cases e<;>first|exact absurd rfl h|kernel_rfl
theorem ZgK [Glb] {p q:Rows} (s:QV p q) {e:E} {cv:CV} {r:e.C×Us} (h:Jc p e cv=some r):Jc q e cv=some r:=by
 cases e with
 |n=>
  cases cv with
  |agg l=>simp only[Jc]at h;cases h
  |s v=>
   simp only[Jc]at h⊢;cases h1:QQ p (.sl true .i) v with
   |none=>rw[h1]at h;cases h
   |some x=>rw[h1]at h;rw[ZcF s rfl h1];exact h
 |_=>rw[ZpP (p:=q) (q:=p) (by simp)];exact h
theorem ZhV [Glb] {e:E}: ∀{cvs:List CV} {p q:Rows} {r:List e.C×Us},QV p q→Vg p e cvs=some r→Vg q e cvs=some r
 | [],_,_,_,_,h=>h
 |v::vs,p,q,r,s,h=>by
  simp only[Vg]at h⊢;cases h1:Jc p e v with
  |none=>rw[h1]at h;cases h
  |some x=>
   obtain ⟨x,us⟩:=x;rw[h1]at h;rw[ZgK s h1];simp only at h⊢;cases h2:Vg (Zj p us) e vs with
   |none=>rw[h2]at h;cases h
   |some y=>rw[h2]at h;rw[ZhV (s.app us) h2];exact h
theorem Zmw {P:Program} {p q:Rows} (s:QV p q) {t:TypeId} {v:TV} {f:F} (h:Kf P p t v=some f):Kf P q t v=some f:=by
 cases v with
 |tup l=>simp only[Kf]at h;cases h
 |c c=>cases c with
  |agg l=>simp only[Kf]at h;cases h
  |s x=>cases x with
   |ptr id o=>rcases s id with k|k<;>simp only[Kf,K0,k]at h⊢ <;>first|exact h|cases h
   |eptr id i o=>rcases s id with k|k<;>simp only[Kf,k]at h⊢ <;>first|exact h|cases h
   |nptr id i j=>rcases s id with k|k<;>simp only[Kf,k]at h⊢ <;>first|exact h|cases h
   |_=>simp only[Kf]at h;cases h
theorem ZnK {p q:Rows} (s:QV p q) {v:TV} {f:F} (h:KD p v=some f):KD q v=some f:=by
 cases v with
 |tup l=>simp only[KD]at h;cases h
 |c c=>cases c with
  |agg l=>simp only[KD]at h;cases h
  |s x=>cases x with
   |slf id=>rcases s id with k|k<;>simp only[KD,k]at h⊢ <;>first|exact h|cases h
   |sld id o=>rcases s id with k|k<;>simp only[KD,k]at h⊢ <;>first|exact h|cases h
   |slt id o=>rcases s id with k|k<;>simp only[KD,k]at h⊢ <;>first|exact h|cases h
   |nslf id i=>rcases s id with k|k<;>simp only[KD,k]at h⊢ <;>first|exact h|cases h
   |nil=>exact h
   |_=>simp only[KD]at h;cases h
theorem ZnA {p q:Rows} (s:QV p q) {e:E} {i:Int} {v:SV} {f:F} (h:K5 p e i v=some f):K5 q e i v=some f:=by
 cases v with
 |slf id=>rcases s id with k|k<;>simp only[K5,k]at h⊢ <;>first|exact h|cases h
 |sld id o=>rcases s id with k|k<;>simp only[K5,k]at h⊢ <;>first|exact h|cases h
 |slt id o=>rcases s id with k|k<;>simp only[K5,k]at h⊢ <;>first|exact h|cases h
 |nslf id j=>rcases s id with k|k<;>simp only[K5,k]at h⊢ <;>first|exact h|cases h
 |_=>simp only[K5]at h;cases h
theorem ZkK {P:Program} {p q:Rows} (s:QV p q) {t:TypeId} {v:TV} {lo hi:Option TV} {f:F} (h:Wm P p t v lo hi=some f):Wm P q t v lo hi=some f:=by
 unfold Wm at h;split at h
 ·exact h
 ·exact h
 ·exact h
 ·rename_i id k lo;rcases s id with k|k<;>simp only[Wm,k]at h⊢ <;>first|exact h|cases h
 ·rename_i id k lo;rcases s id with k|k<;>simp only[Wm,k]at h⊢ <;>first|exact h|cases h
 ·rename_i id i k lo;rcases s id with k|k<;>simp only[Wm,k]at h⊢ <;>first|exact h|cases h
 ·cases h
theorem ZiR [Glb] {P:Program} {p q:Rows} (s:QV p q) {fresh:Nat} {t:TypeId} {v x:TV} {f:F} (h:Uj P p fresh t v x=some f):Uj P q fresh t v x=some f:=by
 unfold Uj at h;split at h
 ·rename_i sv sx;simp only[Uj];split at h
  ·rename_i e he;cases h1:Qv p e sv with
   |none=>rw[h1]at h;cases h
   |some y=>
    obtain ⟨l,own⟩:=y;rw[h1]at h;rw[Za3 s h1];simp only at h⊢;cases h2:Qv (Zj p (WJ own)) e sx with
    |none=>rw[h2]at h;cases h
    |some z=>rw[h2]at h;rw[Za3 (s.app _) h2];exact h
  ·cases h
 ·cases h
theorem Zl7 [Glb] {P:Program} {p q:Rows} (s:QV p q) {src dst:TypeId} {v:TV} {f:F} (h:WA P p src dst v=some f):WA P q src dst v=some f:=by
 cases v with
 |tup l=>simp only[WA]at h;cases h
 |c c=>cases c with
  |agg l=>simp only[WA]at h;cases h
  |s x=>
   cases x with
   |int k n=>exact h
   |_=>
    simp only[WA]at h⊢;split at h
    ·rename_i l o he hd hs;rw[he,hd,Za3 s hs];exact h
    ·cases h
theorem ZkT [Glb] {P:Program} {p q:Rows} (s:QV p q) {t:TypeId} {v u:TV} {f:F} (h:Xa P p t v u=some f):Xa P q t v u=some f:=by
 cases v with
 |tup l=>simp only[Xa]at h;cases h
 |c c=>cases c with
  |agg l=>simp only[Xa]at h;cases h
  |s x=>cases x with
   |ptr id off=>rcases s id with k|k<;>simp only[Xa,k]at h⊢ <;>first|exact h|cases h
   |nptr id i j=>
    cases u with
    |tup l=>simp only[Xa]at h;cases h
    |c c=>cases c with
     |agg l=>simp only[Xa]at h;cases h
     |s y=>
      cases y with
      |int kk n=>cases kk<;>rcases s id with k|k<;>simp only[Xa,k]at h⊢ <;>first|exact h| (cases h;done)|skip
      |_=>simp only[Xa]at h<;>cases h
   |eptr id i off=>
    cases u with
    |tup l=>simp only[Xa]at h;cases h
    |c v=>
     rcases s id with k|k
     ·simp only[Xa,k]at h;cases h
     ·simp only[Xa,k]at h⊢;split at h
      ·rename_i e l hrow;cases e with
       |t=>
        cases v with
        |agg l'=>
         simp only at h⊢;cases h1:Jc p .t (.agg l')with
         |none=>rw[h1]at h;cases h
         |some x=>rw[h1]at h;rw[ZgK s h1];exact h
        |s y=>
         cases y with
         |int k n=>cases k<;>exact h
         |_=>simp only[Jc]at h;cases h
       |n=>
        cases v with
        |agg l'=>simp only[Jc]at h;cases h
        |s y=>
         have d:(match QQ p (.sl true .i) y with
           |some (x,us,_)=>bif Nat.beq off 0&&Nat.beq (P.cellsOf t) 1 then some (⟨[],Jy,us++[(id, .scrub),(id, .row true .n (l.set i.toNat x))]⟩:F)else none
           |none=>none)=some f→(match QQ q (.sl true .i) y with
           |some (x,us,_)=>bif Nat.beq off 0&&Nat.beq (P.cellsOf t) 1 then some (⟨[],Jy,us++[(id, .scrub),(id, .row true .n (l.set i.toNat x))]⟩:F)else none
           |none=>none)=some f:=fun h=>by
          cases h1:QQ p (.sl true .i) y with
          |none=>rw[h1]at h;cases h
          |some x=>rw[h1]at h;rw[ZcF s rfl h1];exact h
         cases y with
         |nsld id' i' o=>exact h
         |_=>exact d h
       |_=>
        simp only at h⊢;split at h
        ·rename_i h1;rw[ZgK s h1];exact h
        ·cases h
      ·cases h
   |_=>simp only[Xa]at h;cases h
theorem Zmd [Glb] {P:Program} {st st':St} (ht:st'.tmps=st.tmps) (s:QV st.rows st'.rows) {fresh:Nat} {op:Op} {f:F} (h:Qe P fresh st op=some f):Qe P fresh st' op=some f:=by
 have ev: ∀x,st'.ev x=st.ev x:=fun x=>by cases x<;>simp[St.ev,ht]
 have pe: ∀l,VD st' l=VD st l:=fun l=>by
  induction l with
  |nil=>rfl
  |cons a l ih=>obtain ⟨i,x⟩:=a;simp only[VD,ev,ih]
 have oe: ∀x,KI st' x=KI st x:=fun x=>by cases x<;>simp[KI,ev]
 unfold Qe at h;split at h
 ·simpa only[Qe,ev] using h
 ·simpa only[Qe,ev] using h
 ·exact h
 ·simpa only[Qe,ev] using h
 ·simpa only[Qe,pe] using h
 ·simp only[Qe,pe];split at h
  ·rename_i e vs he ho;cases hb:(Nat.beq vs.length _&&Nat.ble _ 1000)with
   |false=>rw[hb]at h;cases h
   |true=>
    rw[hb,Zb]at h;simp only[Zb];cases h1:Vg st.rows e vs with
    |none=>rw[h1]at h;cases h
    |some x=>rw[h1]at h;rw[ZhV s h1];exact h
  ·cases h
 ·simpa only[Qe,ev] using Zmw s h
 ·simpa only[Qe,ev] using ZkT s h
 ·simpa only[Qe,ev] using h
 ·simpa only[Qe,ev] using h
 ·simpa only[Qe,ev] using h
 ·simpa only[Qe,ev] using Zl7 s h
 ·simpa only[Qe,ev] using h
 ·simpa only[Qe,ev,oe] using ZkK s h
 ·simpa only[Qe,ev] using h
 ·simpa only[Qe,ev] using h
 ·simp only[Qe,ev];split at h
  ·exact ZnA s h
  ·cases h
 ·simpa only[Qe,ev] using h
 ·simpa only[Qe,ev] using h
 ·cases h
theorem Zki [Glb] {P:Program} {st st':St} (s:QV st.rows st'.rows) {fresh:Nat} {b:Builtin} {ats:List TypeId} {args:List TV} {f:F} (h:K3 P fresh st b ats args=some f):K3 P fresh st' b ats args=some f:=by
 unfold K3 at h;split at h
 ·simp only[K3];split at h
  ·exact h
  ·exact ZnK s h
  ·cases h
 ·simp only[K3];rename_i x y t t';cases hb:Nat.beq t t' with
  |false=>rw[hb]at h;cases h
  |true=>rw[hb,Zb]at h;exact ZiR s h
 ·exact h
 ·exact h
 ·cases h
theorem Zbn [Glb]: ∀{ts:List Ty} {x:BTup ts} {vs:List TV} {p q:Rows} {base:Nat},QV p q→Ji ts x vs p base=true→Ji ts x vs q base=true∧Qt ts x vs q base=Qt ts x vs p base
 | [],_,_,_,_,_,_,_=>by unfold Ji Qt;exact ⟨rfl,rfl⟩
 | .v _::r,x,[],_,_,_,_,h=>by unfold Ji at h;cases h
 | .a _::r,x,[],_,_,_,_,h=>by unfold Ji at h;cases h
 | .p _::r,x,[],_,_,_,_,h=>by unfold Ji at h;cases h
 | .r _::r,x,[],_,_,_,_,h=>by unfold Ji at h;cases h
 | .v _::r,x,_::vs,p,q,base,s,h=>by unfold Ji at h;unfold Ji Qt;exact Zbn s h
 | .a _::r,x,_::vs,p,q,base,s,h=>by unfold Ji at h;unfold Ji Qt;exact Zbn s h
 | .r _::r,x,_::vs,p,q,base,s,h=>by unfold Ji at h;unfold Ji Qt;exact Zbn s h
 | .p ts::r,x,v::vs,p,q,base,s,h=>by
  cases v with
  |tup l=>unfold Ji at h;cases h
  |c c=>
   cases c with
   |agg l=>unfold Ji at h;cases h
   |s sv=>
    cases sv with
    |ptr id off=>
     simp only[Ji,Qt]at h⊢;rcases s id with k|k
     ·rw[k]at h;cases h
     ·rw[k]at h;split at h
      ·rename_i cs hcs;rw[k,hcs];simp only;have ih:=Zbn (s.app ((QX ts x.1 ((cs.drop off).take ts.length) base).2++[(id, .box (Qu cs off (QX ts x.1 ((cs.drop off).take ts.length) base).1))])) h;exact ⟨ih.1,by rw[ih.2]⟩
      ·cases h
    |_=>unfold Ji at h;cases h
theorem Zpc {st st':St} (ht:st'.tmps=st.tmps): ∀l:List Operand,evs st' l=evs st l:=by
 have ev: ∀x,st'.ev x=st.ev x:=fun x=>by cases x<;>simp[St.ev,ht]
 intro l;induction l with
 |nil=>rfl
 |cons a l ih=>simp only[evs,ev,ih]
theorem Zl3 [Glb] {f:Fn} {fresh:Nat} {st st':St} {args:List TV} (s:QV st.rows st'.rows) {r:TV×Us} (h:Ky f fresh st args (fun v us=>some (v,us))=some r):Ky f fresh st' args (fun v us=>some (v,us))=some r:=by
 unfold Ky at h⊢;cases hk:f.kd with
 |nor=>
  rw[hk]at h;simp only[U8]at h⊢;cases h1:Xc st.rows f.ins args with
  |none=>rw[h1]at h;cases h
  |some yu=>
   obtain ⟨y,us⟩:=yu;rw[h1]at h;rw[Za9 s h1];simp only at h⊢;cases hr:f.run y with
   |none=>rw[hr]at h;cases h
   |some z=>
    rw[hr]at h;simp only[Zo]at h⊢;cases hb:Ji f.ins z.2 args (Zj st.rows us) (fresh+512)with
    |false=>rw[hb]at h;cases h
    |true=>
     rw[hb]at h;obtain ⟨k1,k2⟩:=Zbn (s.app us) hb;rw[k1,k2];exact h
 |lnt=>
  rw[hk]at h;simp only[U9]at h⊢;cases hn:Xs f.ins with
  |false=>rw[hn]at h;cases h
  |true=>
   rw[hn,Zb]at h;rw[Zb];cases h1:Ws st.rows f.ins args with
   |none=>rw[h1]at h;cases h
   |some yu=>rw[h1]at h;rw[ZiE s h1];exact h
 |may=>
  rw[hk]at h;simp only at h⊢;unfold Zl5 at h⊢;split at h
  ·rename_i ins ts run kd;simp only;cases hn:Xs ins with
   |false=>rw[hn]at h;cases h
   |true=>
    rw[hn,Zb]at h;rw[Zb];cases h1:Xc st.rows ins args with
    |none=>rw[h1]at h;cases h
    |some yu=>rw[h1]at h;rw[Za9 s h1];exact h
  ·cases h
 |ali=>
  rw[hk]at h;simp only at h⊢;unfold U7 at h⊢;split at h
  ·rename_i ins ts ts' run kd;simp only;cases h1:Xc st.rows ins args with
   |none=>rw[h1]at h;cases h
   |some yu=>
    obtain ⟨y,us⟩:=yu;rw[h1]at h;rw[Za9 s h1];simp only at h⊢;cases hr:run y with
    |none=>rw[hr]at h;cases h
    |some z=>
     rw[hr]at h;simp only[Zo]at h⊢;cases hb:Ji ins z.2 args (Zj st.rows us) (fresh+512)with
     |false=>rw[hb]at h;cases h
     |true=>
      rw[hb]at h;obtain ⟨k1,k2⟩:=Zbn (s.app us) hb;rw[k1,k2];exact h
  ·cases h
 |inp=>
  rw[hk]at h;simp only at h⊢;unfold Zl2 at h⊢;split at h
  ·rename_i run kd id i k;rcases s id with e|e
   ·simp only[e]at h;cases h
   ·simp only at h⊢;rw[←e];exact h
  ·rename_i t t' run kd tv k _;cases hn:t.noP with
   |false=>rw[hn]at h;cases h
   |true=>
    rw[hn,Zb]at h;simp only[Zb];cases h1:Xc st.rows [t, .v (.int .i64)] [tv, .c (.s (.int .i64 k))]with
    |none=>rw[h1]at h;cases h
    |some yu=>
     obtain ⟨y,us⟩:=yu;rw[h1]at h;rw[Za9 s h1];simp only at h⊢;cases hr:run y with
     |none=>rw[hr]at h;cases h
     |some z=>
      rw[hr]at h;simp only[Zo]at h⊢;cases hb:Yp st.rows t' z.1.2.1 tv with
      |none=>rw[hb]at h;cases h
      |some b=>rw[hb]at h;rw[Zl1 s hb];exact h
  ·cases h
theorem ZmC [Glb] {env:Env} {st st':St} (ht:st'.tmps=st.tmps) (s:QV st.rows st'.rows) {fresh:Nat} {op:Op} {r:TV×Us} (h:ZY env fresh op st=some r):ZY env fresh op st'=some r:=by
 have ev: ∀x,st'.ev x=st.ev x:=fun x=>by cases x<;>simp[St.ev,ht]
 have d: ∀{x y:Option F},(∀f,x=some f→y=some f)→KB (fun v us=>some (v,us)) x=some r→KB (fun v us=>some (v,us)) y=some r:=fun {x y} hxy h=>by
  obtain ⟨f,hf,_,_⟩:=Zav h;rw[hf]at h;rw[hxy f hf];exact h
 have D: ∀op,ZY env fresh op st=KB (fun v us=>some (v,us)) (Qe env.prog fresh st op)→ZY env fresh op st'=KB (fun v us=>some (v,us)) (Qe env.prog fresh st' op)→ZY env fresh op st=some r→ZY env fresh op st'=some r:=
  fun op e e' h=>by rw[e]at h;rw[e'];exact d (fun f hf=>Zmd ht s hf) h
 cases op with
 |pick c a b=>
  simp only[ZY,Q4,ev]at h⊢;exact h
 |call c=>
  simp only[ZY,Q4,ev,Zpc ht]at h⊢;split at h
  ·split at h
   ·split at h
    ·exact Zl3 s h
    ·cases h
   ·cases h
  ·exact d (fun f hf=>Zki s hf) h
  ·cases h
 |_=>exact D _ rfl rfl h
theorem ZbH {st st':St}: ∀{l:List (Nat×Operand)},(∀x,x∈l.map (·.2)→st'.ev x=st.ev x)→VD st' l=VD st l
 | [],_=>rfl
 | (i,x)::l,h=>by
  simp only[VD];rw[h x (by simp),ZbH (l:=l) fun y hy=>h y (by simp only[List.map_cons,List.mem_cons];exact .inr hy)]
theorem Zi0 {st st':St}: ∀{l:List Operand},(∀x,x∈l→st'.ev x=st.ev x)→evs st' l=evs st l
 | [],_=>rfl
 |x::l,h=>by
  simp only[evs];rw[h x (by simp),Zi0 (l:=l) fun y hy=>h y (by simp[hy])]
theorem Zkc {R:Type} {st st':St} (hr:st'.rows=st.rows) (f:Fn) (fresh:Nat) (args:List TV) (K:TV→Us→Option R):Ky f fresh st' args K=Ky f fresh st args K:=by
 unfold Ky U8 U9 Zl2 Zl5 U7;rw[hr]
theorem Zkx [Glb] {env:Env} {st st':St} (hr:st'.rows=st.rows) {fresh:Nat} {op:Op} (h: ∀x,x∈op.operands.toList→st'.ev x=st.ev x):ZY env fresh op st'=ZY env fresh op st:=by
 cases op<;>simp only[Op.operands]at h
 case move x=>simp only[ZY,Q4,Qe,h x (by simp)]
 case assign x=>simp only[ZY,Q4,Qe,h x (by simp)]
 case box t x=>simp only[ZY,Q4,Qe,h x (by simp)]
 case pick c a b=>simp only[ZY,Q4,h c (by simp),h a (by simp),h b (by simp)]
 case build t ps=>simp only[ZY,Q4,Qe,ZbH (l:=ps.toList) (fun x hx=>h x (by simpa using hx))]
 case buildSlice t n ps=>simp only[ZY,Q4,Qe,ZbH (l:=ps.toList) (fun x hx=>h x (by simpa using hx)),hr]
 case load t x=>simp only[ZY,Q4,Qe,h x (by simp),hr]
 case store t x y=>simp only[ZY,Q4,Qe,h x (by simp),h y (by simp),hr]
 case nilCheck x=>simp only[ZY,Q4,Qe,h x (by simp)]
 case binOp o t x y b=>simp only[ZY,Q4,Qe,h x (by simp),h y (by simp)]
 case unOp o t x=>cases o<;>simp only[ZY,Q4,Qe,h x (by simp)]
 case convert s d x=>simp only[ZY,Q4,Qe,h x (by simp),hr]
 case makeSlice t l c=>simp only[ZY,Q4,Qe,h l (by simp)]
 case slice t x lo hi mx=>
  cases mx with
  |some m=>rfl
  |none=>
   have hlo:KI st' lo=KI st lo:=by cases lo with|none=>rfl|some y=>simp only[KI];rw[h y (by simp)]
   have hhi:KI st' hi=KI st hi:=by cases hi with|none=>rfl|some y=>simp only[KI];rw[h y (by simp)]
   simp only[ZY,Q4,Qe,h x (by simp),hlo,hhi,hr]
 case fieldAddr t x k=>simp only[ZY,Q4,Qe,h x (by simp)]
 case field t x k=>simp only[ZY,Q4,Qe,h x (by simp)]
 case indexAddr t x i=>simp only[ZY,Q4,Qe,h x (by simp),h i (by simp),hr]
 case index t x i=>simp only[ZY,Q4,Qe,h x (by simp),h i (by simp)]
 case extract x k=>simp only[ZY,Q4,Qe,h x (by simp)]
 case call c=>
  have ha:evs st' c.args.toList=evs st c.args.toList:=Zi0 fun x hx=>h x (by simp only[Call.operands,Array.toList_append,List.mem_append];exact .inr hx);simp only[ZY,Q4,ha];cases hc:c.callee with
  |value f=>
   have hf:st'.ev f=st.ev f:=h f (by simp[Call.operands,hc]);simp only[hf,Zkc hr]
  |builtin b=>
   simp only;have:K3 env.prog fresh st' b c.argTypes.toList (evs st c.args.toList)=K3 env.prog fresh st b c.argTypes.toList (evs st c.args.toList):=by
    simp only[K3,hr]
   rw[this]
  |invoke r m=>rfl
 all_goals first|rfl| (simp only[ZY,Q4,Qe];done)
theorem WQ {x:Nat}: ∀{l:List Nat},Q9 x l=true↔x∈l
 | []=>by simp[Q9]
 |y::r=>by
  simp only[Q9,List.mem_cons];cases hb:Nat.beq x y with
  |true=>simp[Nat.eq_of_beq_eq_true hb]
  |false=>
   have:x≠y:=fun e=>by subst e;simp at hb
   simp only[Zd,this,false_or];exact WQ
theorem Zbt {t:Nat}: ∀{l:List Operand},Operand.tmp t∈l→t∈Zj5 l
 | .tmp t'::r,h=>by
  simp only[Zj5];cases h with
  |head=>simp
  |tail _ h=>simp[Zbt h]
 | .const _::r,h=>by cases h with|tail _ h=>exact Zbt (l:=r) h
 | .func _::r,h=>by cases h with|tail _ h=>exact Zbt (l:=r) h
 | .global _::r,h=>by cases h with|tail _ h=>exact Zbt (l:=r) h
def inR (fresh k:Nat):Prop:=fresh≤k∧k<fresh+1024
theorem Zp8 {fresh k:Nat}:(Nat.ble fresh k&&Nat.blt k (fresh+1024))=true↔inR fresh k:=by
 simp only[Bool.and_eq_true,Nat.ble_eq,Nat.blt_eq,inR]
theorem Zky [Glb] {env:Env} {st:St} {fresh:Nat} {op:Op} {vis:List Nat} {r:TV×Us} (hn: ∀k,inR fresh k→st.rows k=none) (h:ZY env fresh op (Ko st (Ya op) vis fresh)=some r):ZY env fresh op st=some r:=by
 have h1:ZY env fresh op ⟨(Ko st (Ya op) vis fresh).tmps,st.rows,st.nt,st.next⟩=some r:=ZmC (st:=Ko st (Ya op) vis fresh) (st':=⟨(Ko st (Ya op) vis fresh).tmps,st.rows,st.nt,st.next⟩) rfl (fun id=>by
  show (bif Q9 id vis then st.rows id else (bif Nat.ble fresh id&&Nat.blt id (fresh+1024)then none else some .dead))=_∨(bif Q9 id vis then st.rows id else (bif Nat.ble fresh id&&Nat.blt id (fresh+1024)then none else some .dead))=st.rows id
  cases Q9 id vis with
  |true=>exact .inr rfl
  |false=>
   cases hb:(Nat.ble fresh id&&Nat.blt id (fresh+1024))with
   |true=>rw[Zd,Zb];exact .inr (hn id (Zp8.1 hb)).symm
   |false=>exact .inl rfl) h
 rw[←h1];symm;refine Zkx (st:=st) (st':=⟨(Ko st (Ya op) vis fresh).tmps,st.rows,st.nt,st.next⟩) rfl fun x hx=> ?_;cases x with
 |tmp t=>
  show (bif Q9 t (Ya op)then st.tmps t else Wu)=st.tmps t
  rw[show Q9 t (Ya op)=true from WQ.2 (Zbt hx),Zb]
 |_=>rfl
theorem ZkF [Glb] {st st':St} {ts vis:List Nat} {fresh:Nat} (ht: ∀x,x∈ts→st'.tmps x=st.tmps x) (hv: ∀id,id∈vis→st'.rows id=st.rows id) (hnt:st'.nt=st.nt) (hne:st'.next=st.next):
  Ko st' ts vis fresh=Ko st ts vis fresh:=by
 unfold Ko;have h1:(fun t=>bif Q9 t ts then st'.tmps t else Wu)=fun t=>bif Q9 t ts then st.tmps t else Wu:=by
  funext t;cases hb:Q9 t ts with
  |true=>simp only[Zb];exact ht t (WQ.1 hb)
  |false=>rfl
 have h2:(fun id=>bif Q9 id vis then st'.rows id else (bif Nat.ble fresh id&&Nat.blt id (fresh+1024)then none else some Row.dead))=fun id=>bif Q9 id vis then st.rows id else (bif Nat.ble fresh id&&Nat.blt id (fresh+1024)then none else some Row.dead):=by
  funext id;cases hb:Q9 id vis with
  |true=>simp only[Zb];exact hv id (WQ.1 hb)
  |false=>rfl
 rw[h1,h2,hnt,hne]
def KQ (env:Env) (all:List Oper) (o:Oper) (fresh:Nat) (st:St) (uses vis:List Nat) (v:TV) (us:Us):Prop:=
 match o.guard with
 |none=>uses=[]++Ya o.op∧ZY env fresh o.op (Ko st (Ya o.op) vis fresh)=some (v,us)
 |some (j,want)=> ∃oj t,all[j]? =some oj∧oj.dst=some t∧
   ((∃b,st.tmps t= .c (.s (.bool b))∧((b=want∧uses=[t]++Ya o.op∧ZY env fresh o.op (Ko st (Ya o.op) vis fresh)=some (v,us))∨(b≠want∧uses=[t]∧v=Jy∧us=[])))∨
    (st.tmps t= .c (.s .void)∧uses=[t]∧v=Jy∧us=[]))
theorem KQ.step [Glb] {env:Env} {all:List Oper} {o:Oper} {fresh:Nat} {st st':St} {uses vis:List Nat} {v:TV} {us:Us} (h:KQ env all o fresh st uses vis v us) (ht: ∀x,x∈uses→st'.tmps x=st.tmps x)
  (hv: ∀id,id∈vis→st'.rows id=st.rows id) (hn: ∀k,inR fresh k→st'.rows k=none) (hnt:st'.nt=st.nt) (hne:st'.next=st.next):W9 env all o fresh st'=some (v,us):=by
 have run:(∀x,x∈Ya o.op→x∈uses)→ZY env fresh o.op (Ko st (Ya o.op) vis fresh)=some (v,us)→ZY env fresh o.op st'=some (v,us):=fun hs h=>by
  refine Zky hn (vis:=vis) ?_;rw[ZkF (fun x hx=>ht x (hs x hx)) hv hnt hne];exact h
 unfold KQ at h;unfold W9;cases hg:o.guard with
 |none=>
  rw[hg]at h;obtain ⟨hu,h⟩:=h;exact run (fun x hx=>by rw[hu];exact hx) h
 |some g=>
  obtain ⟨j,want⟩:=g;rw[hg]at h;obtain ⟨oj,t,hj,hjd,h⟩:=h;simp only[hj,hjd];rcases h with ⟨b,hb,h⟩| ⟨hb,hu,rfl,rfl⟩
  ·rcases h with ⟨rfl,hu,h⟩| ⟨hne',hu,rfl,rfl⟩
   ·rw[ht t (by rw[hu];simp),hb];simp only[BEq.rfl,Zb];exact run (fun x hx=>by rw[hu];simp[hx]) h
   ·rw[ht t (by rw[hu];simp),hb];have:(b==want)=false:=by simpa using hne'
    simp only[this,Zd]
  ·rw[ht t (by rw[hu];simp),hb]
structure VV (env:Env) (all:List Oper) (fresh:Nat) (s:Nat→St) (v:Nat→TV) (u:Nat→Us) (t:Nat→Tr) (m:Nat→Nat) (o:Oper) (i:Nat):Prop where
 dst:JC (s i) o.dst=true
 ans: ∃uses vis,KQ env all o fresh (s i) uses vis (v i) (u i)∧t i=⟨i,o.dst,uses,vis,QF (u i),fresh⟩
 next:s (i+1)=(s i).app o.dst (v i) (u i)
 lt:YB (fresh+1024) (u i)=true
 ns:Q2 (u i)=[]
 back:YE i o.after.toList=true
 mask:m i=Jq ((List.range i).map m) o.after.toList
 apart: ∀j,j<i→Nat.testBit (m i) j=false→apart (t j) (t i)=true
theorem Zgc {m:Nat} {tr:Tr}: ∀{l:List Tr},KG m tr l=true→ ∀x,x∈l→Nat.testBit m x.idx=false→apart x tr=true
 | [],_,_,h,_=>by cases h
 |y::l,h,x,hx,hb=>by
  simp only[KG]at h;cases hy:Nat.testBit m y.idx with
  |true=>
   rw[hy,Zb]at h;cases hx with
   |head=>rw[hy]at hb;cases hb
   |tail _ hx=>exact Zgc h x hx hb
  |false=>
   rw[hy,Zd]at h;cases ha:Tev.apart y tr with
   |false=>rw[ha]at h;cases h
   |true=>
    rw[ha,Zb]at h;cases hx with
    |head=>exact ha
    |tail _ hx=>exact Zgc h x hx hb
theorem Zhi {R:Type} {fresh idx:Nat} {uses vis masks:List Nat} {trs:List Tr} {o:Oper} {st:St} {K:List Nat→List Tr→St→Option R} {v:TV} {us:Us} {r:R} (h:Zpb fresh idx uses vis masks trs o st K v us=some r):
  YE idx o.after.toList=true∧YB (fresh+1024) us=true∧Q2 us=[]∧KG (Jq masks o.after.toList) ⟨idx,o.dst,uses,vis,QF us,fresh⟩ trs=true∧
   K (masks++[Jq masks o.after.toList]) (⟨idx,o.dst,uses,vis,QF us,fresh⟩::trs) (st.app o.dst v us)=some r:=by
 unfold Zpb at h;cases hb:(YE idx o.after.toList&&(YB (fresh+1024) us&&(Ziq us&&KG (Jq masks o.after.toList) ⟨idx,o.dst,uses,vis,QF us,fresh⟩ trs)))with
 |false=>rw[hb]at h;cases h
 |true=>
  rw[hb,Zb]at h;simp only[Bool.and_eq_true]at hb;refine ⟨hb.1,hb.2.1,?_,hb.2.2.2,h⟩;have:=hb.2.2.1;unfold Ziq at this;split at this
  ·assumption
  ·cases this
theorem ZmT [Glb] {R:Type} {env:Env} {all:List Oper} {o:Oper} {l:List Oper} {fresh idx:Nat} {masks:List Nat} {trs:List Tr} {st:St} {K:St→Option R} {r:R} (hL:ZnI l idx masks o=false) (h:J5 env all (o::l) fresh idx masks trs st K=some r):
  JC st o.dst=true∧ ∃v us uses vis,KQ env all o fresh st uses vis v us∧YE idx o.after.toList=true∧YB (fresh+1024) us=true∧Q2 us=[]∧
   KG (Jq masks o.after.toList) ⟨idx,o.dst,uses,vis,QF us,fresh⟩ trs=true∧
   J5 env all l (fresh+1024) (idx+1) (masks++[Jq masks o.after.toList]) (⟨idx,o.dst,uses,vis,QF us,fresh⟩::trs) (st.app o.dst v us) K=some r:=by
 have dr: ∀{g:List Nat},drO env fresh idx g masks trs o st (fun ms ts st'=>J5 env all l (fresh+1024) (idx+1) ms ts st' K)=some r→JC st o.dst=true∧ ∃v us vis,ZY env fresh o.op (Ko st (Ya o.op) vis fresh)=some (v,us)∧
   YE idx o.after.toList=true∧YB (fresh+1024) us=true∧Q2 us=[]∧KG (Jq masks o.after.toList) ⟨idx,o.dst,g++Ya o.op,vis,QF us,fresh⟩ trs=true∧
   J5 env all l (fresh+1024) (idx+1) (masks++[Jq masks o.after.toList]) (⟨idx,o.dst,g++Ya o.op,vis,QF us,fresh⟩::trs) (st.app o.dst v us) K=some r:=fun {g} h=>by
  unfold drO at h;cases hd:JC st o.dst with
  |false=>rw[hd]at h;cases h
  |true=>
   rw[hd,Zb]at h;obtain ⟨v,us,h1,h2⟩:=ZhT h;exact ⟨rfl,v,us,_,h1,Zhi h2⟩
 have sk: ∀{g:List Nat},Zhj fresh idx g masks trs o st (fun ms ts st'=>J5 env all l (fresh+1024) (idx+1) ms ts st' K)=some r→JC st o.dst=true∧
   YE idx o.after.toList=true∧YB (fresh+1024) []=true∧Q2 []=[]∧KG (Jq masks o.after.toList) ⟨idx,o.dst,g,[],QF [],fresh⟩ trs=true∧
   J5 env all l (fresh+1024) (idx+1) (masks++[Jq masks o.after.toList]) (⟨idx,o.dst,g,[],QF [],fresh⟩::trs) (st.app o.dst Jy []) K=some r:=fun {g} h=>by
  unfold Zhj at h;cases hd:JC st o.dst with
  |false=>rw[hd]at h;cases h
  |true=>
   rw[hd,Zb]at h;exact ⟨rfl,Zhi h⟩
 simp only[J5]at h;rw[hL,Zd]at h;cases hg:o.guard with
 |none=>
  rw[hg]at h;obtain ⟨hd,v,us,vis,h1,h2⟩:=dr h;exact ⟨hd,v,us,_,vis,by unfold KQ;rw[hg];exact ⟨rfl,h1⟩,h2⟩
 |some g=>
  obtain ⟨j,want⟩:=g;rw[hg]at h;simp only at h;cases hj:all[j]? with
  |none=>rw[hj]at h;cases h
  |some oj=>
   rw[hj]at h;simp only at h;cases ht:oj.dst with
   |none=>rw[ht]at h;cases h
   |some t=>
    rw[ht]at h;simp only at h;split at h
    ·rename_i b e;have hs: ∀b',b=b'→({st with tmps:=XP st.tmps t (.c (.s (.bool b')))}:St)=st:=fun b' hb=>by
      subst hb;rw[Zj7 e]
     have yes:b=want→drO env fresh idx [t] masks trs o st (fun ms ts st'=>J5 env all l (fresh+1024) (idx+1) ms ts st' K)=some r→JC st o.dst=true∧ ∃v us uses vis,KQ env all o fresh st uses vis v us∧YE idx o.after.toList=true∧YB (fresh+1024) us=true∧Q2 us=[]∧
       KG (Jq masks o.after.toList) ⟨idx,o.dst,uses,vis,QF us,fresh⟩ trs=true∧
       J5 env all l (fresh+1024) (idx+1) (masks++[Jq masks o.after.toList]) (⟨idx,o.dst,uses,vis,QF us,fresh⟩::trs) (st.app o.dst v us) K=some r:=fun hb h=>by
      obtain ⟨hd,v,us,vis,h1,h2⟩:=dr h;exact ⟨hd,v,us,_,vis,by unfold KQ;rw[hg];exact ⟨oj,t,hj,ht, .inl ⟨b,e, .inl ⟨hb,rfl,h1⟩⟩⟩,h2⟩
     have no:b≠want→Zhj fresh idx [t] masks trs o st (fun ms ts st'=>J5 env all l (fresh+1024) (idx+1) ms ts st' K)=some r→JC st o.dst=true∧ ∃v us uses vis,KQ env all o fresh st uses vis v us∧YE idx o.after.toList=true∧YB (fresh+1024) us=true∧Q2 us=[]∧
       KG (Jq masks o.after.toList) ⟨idx,o.dst,uses,vis,QF us,fresh⟩ trs=true∧
       J5 env all l (fresh+1024) (idx+1) (masks++[Jq masks o.after.toList]) (⟨idx,o.dst,uses,vis,QF us,fresh⟩::trs) (st.app o.dst v us) K=some r:=fun hb h=>by
      obtain ⟨hd,h2⟩:=sk h;exact ⟨hd,Jy,[],_,[],by unfold KQ;rw[hg];exact ⟨oj,t,hj,ht, .inl ⟨b,e, .inr ⟨hb,rfl,rfl,rfl⟩⟩⟩,h2⟩
     cases b with
     |true=>
      rw[hs true rfl,Zb]at h;cases want with
      |true=>exact yes rfl (by simpa only[Zb] using h)
      |false=>exact no (by simp) (by simpa only[Zd] using h)
     |false=>
      rw[hs false rfl,Zd]at h;cases want with
      |true=>exact no (by simp) (by simpa only[Zb] using h)
      |false=>exact yes rfl (by simpa only[Zd] using h)
    ·rename_i e;obtain ⟨hd,h2⟩:=sk h;exact ⟨hd,Jy,[],_,[],by unfold KQ;rw[hg];exact ⟨oj,t,hj,ht, .inr ⟨e,rfl,rfl,rfl⟩⟩,h2⟩
    ·cases h
theorem ZmU [Glb] {R:Type} {env:Env} {all:List Oper} {o:Oper} {l:List Oper} {fresh idx:Nat} {masks:List Nat} {trs:List Tr} {st:St} {K:St→Option R} {r:R} (hL:ZnI l idx masks o=true) (h:J5 env all (o::l) fresh idx masks trs st K=some r):
  l=[]∧YE idx o.after.toList=true∧UB (Jq masks o.after.toList) idx=true∧Xd env all [o] fresh st K=some r:=by
 simp only[J5]at h;rw[hL,Zb]at h;unfold ZnI at hL;simp only[Bool.and_eq_true]at hL;refine ⟨?_,hL.2.1,hL.2.2,h⟩;cases l with
 |nil=>rfl
 |cons a b=>cases hL.1
theorem Zj2 [Glb] {R:Type} {env:Env} {all:List Oper} {f0:Nat} {K:St→Option R} {r:R}: ∀(l:List Oper) (idx:Nat) (masks:List Nat) (trs:List Tr) (st:St),masks.length=idx→trs.length=idx→(∀(k:Nat) (x:Tr),trs.reverse[k]? =some x→x.idx=k)→
  J5 env all l (f0+1024*idx) idx masks trs st K=some r→
  ∃(s:Nat→St) (v:Nat→TV) (u:Nat→Us) (t:Nat→Tr) (m:Nat→Nat) (n:Nat),(List.range idx).map m=masks∧((List.range idx).map t).reverse=trs∧s idx=st∧
   (n=l.length∧K (s (idx+n))=some r∨ ∃o,l[n]? =some o∧n+1=l.length∧YE (idx+n) o.after.toList=true∧UB (Jq ((List.range (idx+n)).map m) o.after.toList) (idx+n)=true∧Xd env all [o] (f0+1024*(idx+n)) (s (idx+n)) K=some r)∧
   ∀k o,k<n→l[k]? =some o→VV env all (f0+1024*(idx+k)) s v u t m o (idx+k)
 | [],idx,masks,trs,st,hm,ht,_,h=>by
  refine ⟨fun _=>st,fun _=>Jy,fun _=>[],fun k=>(trs.reverse[k]?).getD ⟨0,none,[],[],[],0⟩,fun k=>masks.getD k 0,0,?_,?_,rfl, .inl ⟨rfl,h⟩,fun k o hk=>by omega⟩
  ·apply List.ext_getElem
   ·simp[hm]
   ·intro i h1 h2;simp[List.getD,h2]
  ·have:(List.range idx).map (fun k=>(trs.reverse[k]?).getD ⟨0,none,[],[],[],0⟩)=trs.reverse:=by
    apply List.ext_getElem
    ·simp[ht]
    ·intro i h1 h2;simp at h2;simp[h2]
   rw[this,List.reverse_reverse]
 |o::l,idx,masks,trs,st,hm,ht,hx,h=>by
  cases hL:ZnI l idx masks o with
  |true=>
   obtain ⟨rfl,h1,h2,h3⟩:=ZmU hL h;have em:(List.range idx).map (fun k=>masks.getD k 0)=masks:=by
    apply List.ext_getElem
    ·simp[hm]
    ·intro i h1 h2;simp[List.getD,h2]
   refine ⟨fun _=>st,fun _=>Jy,fun _=>[],fun k=>(trs.reverse[k]?).getD ⟨0,none,[],[],[],0⟩,fun k=>masks.getD k 0,0,em,?_,rfl, .inr ⟨o,rfl,rfl,h1,?_,h3⟩,fun k o hk=>by omega⟩
   ·have:(List.range idx).map (fun k=>(trs.reverse[k]?).getD ⟨0,none,[],[],[],0⟩)=trs.reverse:=by
     apply List.ext_getElem
     ·simp[ht]
     ·intro i h1 h2;simp at h2;simp[h2]
    rw[this,List.reverse_reverse]
   ·rw[Nat.add_zero,em];exact h2
  |false=>
  obtain ⟨hd,v0,us0,uses,vis,hans,hback,hlt,hns,hok,hrest⟩:=ZmT hL h;have hfr:f0+1024*idx+1024=f0+1024*(idx+1):=by omega
  rw[hfr]at hrest;obtain ⟨s,v,u,t,m,n,hm',ht',hs,hK,hF⟩:=Zj2 l (idx+1) _ _ _ (by simp[hm]) (by simp[ht]) (fun k x hk=>by
   rw[List.reverse_cons]at hk;by_cases hlt:k<trs.reverse.length
   ·rw[List.getElem?_append_left hlt]at hk;exact hx k x hk
   ·rw[List.getElem?_append_right (by omega)]at hk;have:k-trs.reverse.length=0:=by
     rcases Nat.eq_zero_or_pos (k-trs.reverse.length)with h|h
     ·exact h
     ·rw[List.getElem?_eq_none (by simp;simp at h;omega)]at hk;cases hk
    rw[this]at hk;simp only[List.getElem?_cons_zero,Zg]at hk;subst hk;simp at this hlt;show idx=k;omega) hrest
  rw[List.range_succ,List.map_append,List.map_singleton]at hm' ht';obtain ⟨hm1,hm2⟩:=List.append_inj' hm' rfl;rw[List.reverse_append,List.reverse_singleton,List.singleton_append]at ht';obtain ⟨ht1,ht2⟩:=List.cons.inj ht';simp only[List.cons.injEq,and_true]at hm2;have ne: ∀k,idx+1≤k→k≠idx:=fun k hk=>by omega
  refine ⟨fun k=>if k=idx then st else s k,fun k=>if k=idx then v0 else v k,fun k=>if k=idx then us0 else u k,t,m,n+1,hm1,ht2,by simp,?_,?_⟩
  ·have e:idx+(n+1)=idx+1+n:=by omega
   rw[e];simp only[ne (idx+1+n) (by omega),if_false];rcases hK with ⟨h1,h2⟩| ⟨o',h1,h2,h3⟩
   ·exact .inl ⟨by rw[h1];rfl,h2⟩
   ·exact .inr ⟨o',by rw[List.getElem?_cons_succ];exact h1,by rw[List.length_cons,←h2],h3⟩
  ·intro k o' hkn hk;cases k with
   |zero=>
    simp only[List.getElem?_cons_zero,Zg]at hk;subst hk;simp only[Nat.add_zero];refine ⟨by simpa using hd,⟨uses,vis,by simpa using hans,by simpa using ht1⟩,?_,by simpa using hlt,by simpa using hns,hback,by rw[hm1];exact hm2,fun j hj hb=> ?_⟩
    ·simp only[ne (idx+1) (by omega),if_false,if_true];exact hs
    ·rw[hm2]at hb;rw[ht1];refine Zgc hok (t j) ?_ ?_
     ·rw[←ht2];simp only[List.mem_reverse,List.mem_map,List.mem_range];exact ⟨j,hj,rfl⟩
     ·have hjx:(t j).idx=j:=hx j (t j) (by rw[←ht2];simp[hj]);rw[hjx];exact hb
   |succ k=>
    simp only[List.getElem?_cons_succ]at hk;have F:=hF k o' (by omega) hk;have hi:idx+(k+1)=idx+1+k:=by omega
    rw[hi];have e1:idx+1+k≠idx:=by omega
    have e2:idx+1+k+1≠idx:=by omega
    exact ⟨by simpa [e1] using F.dst,by simpa [e1] using F.ans,by simpa [e1,e2] using F.next,by simpa [e1] using F.lt,by simpa [e1] using F.ns,F.back,F.mask,F.apart⟩
theorem Zcr [Glb] {x:Nat}: ∀{a b:List Nat},WC a b=true→x∈a→ ¬x∈b
 | [],_,_,h=>by cases h
 |y::a,b,h,hx=>by
  simp only[WC]at h;cases hb:Q9 y b with
  |true=>rw[hb]at h;cases h
  |false=>
   rw[hb,Zd]at h;cases hx with
   |head=>exact fun hc=>by rw[WQ.2 hc]at hb;cases hb
   |tail _ hx=>exact Zcr h hx
theorem ZlC [Glb] {fresh x:Nat}: ∀{a:List Nat},Zr4 fresh a=true→x∈a→ ¬inR fresh x
 | [],_,h=>by cases h
 |y::a,h,hx=>by
  simp only[Zr4]at h;cases hb:(Nat.ble fresh y&&Nat.blt y (fresh+1024))with
  |true=>rw[hb]at h;cases h
  |false=>
   rw[hb,Zd]at h;cases hx with
   |head=>exact fun hc=>by rw[Zp8.2 hc]at hb;cases hb
   |tail _ hx=>exact ZlC h hx
structure Zqh (a b:Tr):Prop where
 ab: ∀x,a.dst=some x→x∉b.uses
 ba: ∀x,b.dst=some x→x∉a.uses
 dd: ∀x,a.dst=some x→b.dst≠some x
 wr: ∀x,x∈a.wr→x∉b.rd
 rw_: ∀x,x∈b.wr→x∉a.rd
 ww: ∀x,x∈a.wr→x∉b.wr
 fr: ∀x,x∈b.wr→ ¬inR a.fresh x
theorem Zha [Glb] {a b:Tr} (h:apart a b=true):Zqh a b:=by
 simp only[apart,Bool.and_eq_true,Bool.not_eq_true']at h;obtain ⟨h1,h2,h3,h4,h5,h6,h7⟩:=h;refine ⟨fun x e hx=> ?_,fun x e hx=> ?_,fun x e e'=> ?_,fun x hx=>Zcr h4 hx,fun x hx=>Zcr h5 hx,fun x hx=>Zcr h6 hx,fun x hx=>ZlC h7 hx⟩
 ·rw[e]at h1;simp only[Zr3]at h1;rw[WQ.2 hx]at h1;cases h1
 ·rw[e]at h2;simp only[Zr3]at h2;rw[WQ.2 hx]at h2;cases h2
 ·rw[e,e']at h3;simp[ZrT]at h3
theorem Zdd [Glb] {r:Rows}: ∀{us:Us} {id:Nat},id∉QF us→Zj r us id=r id:=by
 intro us;induction us generalizing r with
 |nil=>intro id _;rfl
 |cons p us ih=>
  intro id h;obtain ⟨i,x⟩:=p;simp only[QF,List.mem_cons,not_or]at h;simp only[Zj];rw[ih h.2,QA _ _ h.1]
theorem Zqj [Glb] {r r':Rows}: ∀{us:Us} {id:Nat},id∈QF us→Zj r us id=Zj r' us id:=by
 intro us;induction us generalizing r r' with
 |nil=>intro id h;cases h
 |cons p us ih=>
  intro id h;obtain ⟨i,x⟩:=p;simp only[Zj];by_cases hu:id∈QF us
  ·exact ih hu
  ·simp only[QF,List.mem_cons]at h;have:=h.resolve_right hu;subst this;rw[Zdd hu,Zdd hu,QT,QT]
theorem ZpR {n:Nat}: ∀{us:Us},YB n us=true→ ∀x,x∈QF us→x<n:=by
 intro us;induction us with
 |nil=>intro _ x h;cases h
 |cons p us ih=>
  intro h x hx;obtain ⟨i,y⟩:=p;simp only[YB]at h;cases hb:Nat.blt i n with
  |false=>rw[hb]at h;cases h
  |true=>
   rw[hb,Zb]at h;have h2:i+1≤n:=by simpa [Nat.blt] using hb
   simp only[QF,List.mem_cons]at hx;rcases hx with rfl|hx
   ·omega
   ·exact ih h x hx
theorem Zdz {ms:List Nat} {j:Nat}: ∀{es:List Edge},Nat.testBit (Jq ms es) j=true→ ∃e,e∈es∧XW e=true∧(e.on=j∨Nat.testBit (ms.getD e.on 0) j=true)
 | [],h=>by simp[Jq]at h
 |e::es,h=>by
  simp only[Jq]at h;cases hb:XW e with
  |false=>
   rw[hb,Zd]at h;obtain ⟨e',he,h⟩:=Zdz h;exact ⟨e',by simp[he],h⟩
  |true=>
   rw[hb,Zb]at h;have h:((2^e.on|||ms.getD e.on 0)|||Jq ms es).testBit j=true:=h;rw[Nat.testBit_or,Nat.testBit_or,Bool.or_eq_true,Bool.or_eq_true]at h;rcases h with (h|h)|h
   ·rw[Nat.testBit_two_pow]at h;exact ⟨e,by simp,hb, .inl (by simpa using h)⟩
   ·exact ⟨e,by simp,hb, .inr h⟩
   ·obtain ⟨e',he,h⟩:=Zdz h;exact ⟨e',by simp[he],h⟩
theorem U6 {i:Nat}: ∀{es:List Edge},YE i es=true→ ∀e,e∈es→XW e=true→e.on<i
 | [],_,_,h,_=>by cases h
 |e::es,h,e',he,hb=>by
  simp only[YE]at h;cases hbe:XW e with
  |false=>
   rw[hbe,Zd]at h;cases he with
   |head=>rw[hbe]at hb;cases hb
   |tail _ he=>exact U6 h e' he hb
  |true=>
   rw[hbe,Zb]at h;cases hl:Nat.blt e.on i with
   |false=>rw[hl]at h;cases h
   |true=>
    rw[hl,Zb]at h;cases he with
    |head=>
     have:e.on+1≤i:=by simpa [Nat.blt] using hl
     omega
    |tail _ he=>exact U6 h e' he hb
theorem Zfl (e:Edge):Region.binds .any e=XW e:=by
 unfold Region.binds XW;cases e.ground<;>rfl
theorem Zok {s:Nat→St} {n x:Nat} {P:Nat→Prop} (hs: ∀i,i<n→ ¬P i→(s (i+1)).tmps x=(s i).tmps x): ∀d k,k+d≤n→(∀j,k≤j→j<k+d→ ¬P j)→(s (k+d)).tmps x=(s k).tmps x
 |0,_,_,_=>rfl
 |d+1,k,hk,h=>by
  have:=hs (k+d) (by omega) (h (k+d) (by omega) (by omega));rw[show k+(d+1)=k+d+1 by omega,this];exact Zok hs d k (by omega) (fun j h1 h2=>h j h1 (by omega))
theorem Zoj {s:Nat→St} {n x:Nat} {P:Nat→Prop} (hs: ∀i,i<n→ ¬P i→(s (i+1)).rows x=(s i).rows x): ∀d k,k+d≤n→(∀j,k≤j→j<k+d→ ¬P j)→(s (k+d)).rows x=(s k).rows x
 |0,_,_,_=>rfl
 |d+1,k,hk,h=>by
  have:=hs (k+d) (by omega) (h (k+d) (by omega) (by omega));rw[show k+(d+1)=k+d+1 by omega,this];exact Zoj hs d k (by omega) (fun j h1 h2=>h j h1 (by omega))
theorem Zm9 {P:Nat→Prop} {f:Nat→Nat→Prop} (hf: ∀d k,(∀j,k≤j→j<k+d→ ¬P j)→f (k+d) k) (sym: ∀a b,f a b→f b a) {k k':Nat} (h: ∀j,P j→(j<k↔j<k')):f k k':=by
 rcases Nat.le_total k k' with hle|hle
 ·obtain ⟨d,rfl⟩:=Nat.exists_eq_add_of_le hle;exact sym _ _ (hf d k fun j h1 h2 hp=>by have:=h j hp;omega)
 ·obtain ⟨d,rfl⟩:=Nat.exists_eq_add_of_le hle;exact hf d k' fun j h1 h2 hp=>by have:=h j hp;omega
structure Jf (N:Nat) (env:Env) (ops:Array Oper) (f0:Nat) (s:Nat→St) (v:Nat→TV) (u:Nat→Us) (t:Nat→Tr) (m:Nat→Nat):Prop where
 le:N≤ops.size
 fact: ∀k o,k<N→ops[k]? =some o→VV env ops.toList (f0+1024*k) s v u t m o k
 fresh: ∀k,f0≤k→(s 0).rows k=none
abbrev Lst (listed:Array Bool) (j:Nat):Prop:=listed.getD j false=true
structure Inv (N:Nat) (ops:Array Oper) (s:Nat→St) (t:Nat→Tr) (listed:Array Bool) (st:St):Prop where
 size:listed.size=ops.size
 down: ∀j o,Lst listed j→ops[j]? =some o→ ∀e,e∈o.after.toList→XW e=true→Lst listed e.on
 tmp: ∀x,∃k,k≤N∧(∀j,j<N→(t j).dst=some x→(Lst listed j↔j<k))∧st.tmps x=(s k).tmps x
 row: ∀x,∃k,k≤N∧(∀j,j<N→x∈(t j).wr→(Lst listed j↔j<k))∧st.rows x=(s k).rows x
 nt:st.nt=(s 0).nt
 next:st.next=(s 0).next
section
variable {N:Nat} {env:Env} {ops:Array Oper} {f0:Nat} {s:Nat→St} {v:Nat→TV} {u:Nat→Us} {t:Nat→Tr} {m:Nat→Nat}
theorem Ze2 (st:St) (dst:Option Nat) (v:TV) {us:Us} (h:Q2 us=[]):(st.app dst v us).tmps=match dst with|some d=>XP st.tmps d v|none=>st.tmps:=by
 cases dst<;>simp only[St.app,h,ZlL]
theorem Jf.at (R:Jf N env ops f0 s v u t m) {i:Nat} (hi:i<N): ∃o,ops[i]? =some o∧VV env ops.toList (f0+1024*i) s v u t m o i:=
 ⟨ops[i]'(by have:=R.le;omega),by simp[show i<ops.size by have:=R.le;omega],R.fact i _ hi (by simp[show i<ops.size by have:=R.le;omega])⟩
theorem VV.trDst {all:List Oper} {f:Nat} {o:Oper} {i:Nat} (F:VV env all f s v u t m o i):(t i).dst=o.dst:=by
 obtain ⟨_,_,_,e⟩:=F.ans;rw[e]
theorem VV.trWr {all:List Oper} {f:Nat} {o:Oper} {i:Nat} (F:VV env all f s v u t m o i):(t i).wr=QF (u i):=by
 obtain ⟨_,_,_,e⟩:=F.ans;rw[e]
theorem VV.trFr {all:List Oper} {f:Nat} {o:Oper} {i:Nat} (F:VV env all f s v u t m o i):(t i).fresh=f:=by
 obtain ⟨_,_,_,e⟩:=F.ans;rw[e]
theorem Jf.tmpStep [Glb] (R:Jf N env ops f0 s v u t m) {i x:Nat} (hi:i<N) (h: ¬(t i).dst=some x):(s (i+1)).tmps x=(s i).tmps x:=by
 obtain ⟨o,ho,F⟩:=R.at hi;rw[F.trDst]at h;rw[F.next,Ze2 _ _ _ F.ns];cases hd:o.dst with
 |none=>rfl
 |some d=>exact Zbu _ _ (fun e=>h (by rw[hd,e]))
theorem Jf.rowStep [Glb] (R:Jf N env ops f0 s v u t m) {i x:Nat} (hi:i<N) (h: ¬x∈(t i).wr):(s (i+1)).rows x=(s i).rows x:=by
 obtain ⟨o,ho,F⟩:=R.at hi;rw[F.trWr]at h;rw[F.next,Ui,Zdd h]
theorem Jf.tmpSame [Glb] (R:Jf N env ops f0 s v u t m) {x k k':Nat} (hk:k≤N) (hk':k'≤N) (h: ∀j,j<N→(t j).dst=some x→(j<k↔j<k')):(s k).tmps x=(s k').tmps x:=
 Zm9 (P:=fun j=>j<N∧(t j).dst=some x) (f:=fun a b=>a≤N→b≤N→(s a).tmps x=(s b).tmps x)
  (fun d k h ha _=>Zok (n:=N) (P:=fun j=>j<N∧(t j).dst=some x) (fun i hi hp=>R.tmpStep hi fun e=>hp ⟨hi,e⟩) d k ha h) (fun a b h hb ha=>(h ha hb).symm) (fun j hj=>h j hj.1 hj.2) hk hk'
theorem Jf.rowSame [Glb] (R:Jf N env ops f0 s v u t m) {x k k':Nat} (hk:k≤N) (hk':k'≤N) (h: ∀j,j<N→x∈(t j).wr→(j<k↔j<k')):(s k).rows x=(s k').rows x:=
 Zm9 (P:=fun j=>j<N∧x∈(t j).wr) (f:=fun a b=>a≤N→b≤N→(s a).rows x=(s b).rows x)
  (fun d k h ha _=>Zoj (n:=N) (P:=fun j=>j<N∧x∈(t j).wr) (fun i hi hp=>R.rowStep hi fun e=>hp ⟨hi,e⟩) d k ha h) (fun a b h hb ha=>(h ha hb).symm) (fun j hj=>h j hj.1 hj.2) hk hk'
theorem Jf.ntAt [Glb] (R:Jf N env ops f0 s v u t m): ∀i,i≤N→(s i).nt=(s 0).nt∧(s i).next=(s 0).next
 |0,_=>⟨rfl,rfl⟩
 |i+1,h=>by
  obtain ⟨o,ho,F⟩:=R.at (i:=i) (by omega);have:=R.ntAt i (by omega);rw[F.next,ZiQ,Ze1];exact this
theorem Jf.noneAt [Glb] (R:Jf N env ops f0 s v u t m): ∀i,i≤N→ ∀k,f0+1024*i≤k→(s i).rows k=none
 |0,_,k,hk=>R.fresh k (by omega)
 |i+1,h,k,hk=>by
  obtain ⟨o,ho,F⟩:=R.at (i:=i) (by omega);have hk2:f0+1024*i+1024≤k:=by
   clear F ho;rw[Nat.mul_succ,←Nat.add_assoc]at hk;exact hk
  have e:=ZgN (rows:=(s i).rows) F.lt k hk2;rw[F.next,Ui,e];exact R.noneAt i (by omega) k (by omega)
theorem Jf.anc [Glb] (R:Jf N env ops f0 s v u t m) {listed:Array Bool} {st:St} (I:Inv N ops s t listed st): ∀p,p<N→Lst listed p→ ∀j,Nat.testBit (m p) j=true→Lst listed j:=by
 intro p;induction p using Nat.strongRecOn with
 |_ p ih=>
  intro hp hl j hj;obtain ⟨o,ho,F⟩:=R.at hp;rw[F.mask]at hj;obtain ⟨e,he,hb,h⟩:=Zdz hj;have hlt:=U6 F.back e he hb;have hle:=I.down p o hl ho e he hb;rcases h with h|h
  ·rw[←h];exact hle
  ·have hm:((List.range p).map m).getD e.on 0=m e.on:=by simp[List.getD,hlt]
   rw[hm]at h;exact ih e.on hlt (by omega) hle j h
theorem Jf.ancEdges [Glb] (R:Jf N env ops f0 s v u t m) {listed:Array Bool} {st:St} (I:Inv N ops s t listed st) {i:Nat} {es:List Edge} (hi:i≤N) (hback:YE i es=true) (hall: ∀e,e∈es→XW e=true→Lst listed e.on) {j:Nat}
  (hj:Nat.testBit (Jq ((List.range i).map m) es) j=true):Lst listed j:=by
 obtain ⟨e,he,hb,h⟩:=Zdz hj;have hlt:=U6 hback e he hb;have hle:=hall e he hb;rcases h with h|h
 ·rw[←h];exact hle
 ·have hm:((List.range i).map m).getD e.on 0=m e.on:=by simp[List.getD,hlt]
  rw[hm]at h;exact R.anc I e.on (by omega) hle j h
theorem Jf.ancReady [Glb] (R:Jf N env ops f0 s v u t m) {listed:Array Bool} {st:St} (I:Inv N ops s t listed st) {i:Nat} {o:Oper} (hi:i<N) (ho:ops[i]? =some o) (hall: ∀e,e∈o.after.toList→XW e=true→Lst listed e.on) {j:Nat} (hj:Nat.testBit (m i) j=true):Lst listed j:=by
 have F:=R.fact i o hi ho;rw[F.mask]at hj;exact R.ancEdges I (by omega) F.back hall hj
theorem WP {listed:Array Bool} {i j:Nat} (h:j≠i):Lst (listed.setIfInBounds i true) j↔Lst listed j:=by
 unfold Lst;rw[getD_set_ne false (Ne.symm h)]
theorem Ze5 {listed:Array Bool} {i:Nat} (h:i<listed.size):Lst (listed.setIfInBounds i true) i:=by
 simp[Lst,h]
theorem Jf.ready [Glb] (R:Jf N env ops f0 s v u t m) {listed:Array Bool} {st:St} (I:Inv N ops s t listed st) {i:Nat} {o:Oper} (hi:i<N) (ho:ops[i]? =some o) (hun: ¬Lst listed i) (hall: ∀e,e∈o.after.toList→XW e=true→Lst listed e.on):
  W9 env ops.toList o (f0+1024*i) st=some (v i,u i)∧JC st o.dst=true∧(∀k,f0+1024*i≤k→k<f0+1024*i+1024→st.rows k=none)∧Inv N ops s t (listed.setIfInBounds i true) (st.app o.dst (v i) (u i)):=by
 have F:=R.fact i o hi ho;have hsz':=R.le;obtain ⟨uses,vis,hans,htr⟩:=F.ans;have hnt:=R.ntAt i (by omega);have before: ∀j,j<i→ ¬Lst listed j→Zqh (t j) (t i):=fun j hj hl=>Zha (F.apart j hj (by
  cases hb:Nat.testBit (m i) j with
  |false=>rfl
  |true=>exact absurd (R.ancReady I hi ho hall hb) hl))
 have behind: ∀j,j<N→i<j→Lst listed j→Zqh (t i) (t j):=fun j hjn hj hl=>by
  obtain ⟨oj,hoj,Fj⟩:=R.at hjn;exact Zha (Fj.apart i hj (by
   cases hb:Nat.testBit (m j) i with
   |false=>rfl
   |true=>exact absurd (R.anc I j hjn hl i hb) hun))
 have eqT: ∀x,(∀j,j<N→(t j).dst=some x→(Lst listed j↔j<i))→st.tmps x=(s i).tmps x:=fun x h=>by
  obtain ⟨k,hk,hw,e⟩:=I.tmp x;rw[e];exact R.tmpSame hk (by omega) fun j hj hd=>(hw j hj hd).symm.trans (h j hj hd)
 have eqR: ∀x,(∀j,j<N→x∈(t j).wr→(Lst listed j↔j<i))→st.rows x=(s i).rows x:=fun x h=>by
  obtain ⟨k,hk,hw,e⟩:=I.row x;rw[e];exact R.rowSame hk (by omega) fun j hj hd=>(hw j hj hd).symm.trans (h j hj hd)
 have hT: ∀x,x∈uses→st.tmps x=(s i).tmps x:=fun x hx=>eqT x fun j hj hd=>by
  constructor
  ·intro hl;rcases Nat.lt_trichotomy j i with h|h|h
   ·exact h
   ·subst h;exact absurd hl hun
   ·exact absurd (by rw[htr];exact hx) ((behind j hj h hl).ba x hd)
  ·intro hlt;by_cases hl:Lst listed j
   ·exact hl
   ·exact absurd (by rw[htr];exact hx) ((before j hlt hl).ab x hd)
 have hV: ∀x,x∈vis→st.rows x=(s i).rows x:=fun x hx=>eqR x fun j hj hd=>by
  constructor
  ·intro hl;rcases Nat.lt_trichotomy j i with h|h|h
   ·exact h
   ·subst h;exact absurd hl hun
   ·exact absurd (by rw[htr];exact hx) ((behind j hj h hl).rw_ x hd)
  ·intro hlt;by_cases hl:Lst listed j
   ·exact hl
   ·exact absurd (by rw[htr];exact hx) ((before j hlt hl).wr x hd)
 have hN: ∀k,inR (f0+1024*i) k→st.rows k=none:=fun k hk=>by
  rw[eqR k fun j hj hd=> ?_]
  ·exact R.noneAt i (by omega) k hk.1
  ·obtain ⟨oj,hoj,Fj⟩:=R.at hj;constructor
   ·intro hl;rcases Nat.lt_trichotomy j i with h|h|h
    ·exact h
    ·subst h;exact absurd hl hun
    ·have:=(behind j hj h hl).fr k hd;rw[F.trFr]at this;exact absurd hk this
   ·intro hlt;rw[Fj.trWr]at hd;have:=ZpR Fj.lt k hd;have:=hk.1;omega
 refine ⟨hans.step hT hV hN (by rw[I.nt,hnt.1]) (by rw[I.next,hnt.2]),?_,fun k h1 h2=>hN k ⟨h1,h2⟩,?_⟩
 ·have:=F.dst;unfold JC at this⊢;rw[I.nt];rw[hnt.1]at this;exact this
 ·have hsz:i<listed.size:=by rw[I.size];omega
  refine ⟨by simp[I.size],?_,?_,?_,by rw[ZiQ,I.nt],by rw[Ze1,I.next]⟩
  ·intro j oj hl hoj e he hb;by_cases hji:j=i
   ·subst hji;rw[ho]at hoj;cases hoj;exact getD_set_true (hall e he hb)
   ·exact getD_set_true (I.down j oj ((WP hji).1 hl) hoj e he hb)
  ·intro x;by_cases hx:o.dst=some x
   ·refine ⟨i+1,by omega,fun j hj hd=> ?_,?_⟩
    ·by_cases hji:j=i
     ·subst hji;exact ⟨fun _=>by omega,fun _=>Ze5 hsz⟩
     ·rw[WP hji];constructor
      ·intro hl;rcases Nat.lt_trichotomy j i with h|h|h
       ·omega
       ·exact absurd h hji
       ·exact absurd hd ((behind j hj h hl).dd x (by rw[htr];exact hx))
      ·intro hlt;by_cases hl:Lst listed j
       ·exact hl
       ·exact absurd (by rw[htr];exact hx) ((before j (by omega) hl).dd x hd)
    ·rw[F.next,Ze2 _ _ _ F.ns,Ze2 _ _ _ F.ns,hx];simp only[Zd0]
   ·obtain ⟨k,hk,hw,e⟩:=I.tmp x;refine ⟨k,hk,fun j hj hd=> ?_,?_⟩
    ·have hji:j≠i:=fun h=>by subst h;rw[F.trDst]at hd;exact hx hd
     rw[WP hji];exact hw j hj hd
    ·rw[←e,Ze2 _ _ _ F.ns];cases hd:o.dst with
     |none=>rfl
     |some d=>exact Zbu _ _ (fun h=>hx (by rw[hd,h]))
  ·intro x;by_cases hx:x∈QF (u i)
   ·refine ⟨i+1,by omega,fun j hj hd=> ?_,?_⟩
    ·by_cases hji:j=i
     ·subst hji;exact ⟨fun _=>by omega,fun _=>Ze5 hsz⟩
     ·rw[WP hji];constructor
      ·intro hl;rcases Nat.lt_trichotomy j i with h|h|h
       ·omega
       ·exact absurd h hji
       ·exact absurd hd ((behind j hj h hl).ww x (by rw[F.trWr];exact hx))
      ·intro hlt;by_cases hl:Lst listed j
       ·exact hl
       ·exact absurd (by rw[F.trWr];exact hx) ((before j (by omega) hl).ww x hd)
    ·rw[F.next,Ui,Ui];exact Zqj hx
   ·obtain ⟨k,hk,hw,e⟩:=I.row x;refine ⟨k,hk,fun j hj hd=> ?_,?_⟩
    ·have hji:j≠i:=fun h=>by subst h;rw[F.trWr]at hd;exact hx hd
     rw[WP hji];exact hw j hj hd
    ·rw[←e,Ui,Zdd hx]
theorem Jf.all [Glb] (R:Jf N env ops f0 s v u t m) {listed:Array Bool} {st:St} (I:Inv N ops s t listed st) (h:Region.ready .any ops listed=[]): ∀j,j<N→Lst listed j:=by
 intro j;induction j using Nat.strongRecOn with
 |_ j ih=>
  intro hj;cases hl:listed.getD j false with
  |true=>exact hl
  |false=>
   obtain ⟨o,ho,F⟩:=R.at hj;have hm:j∈Region.ready .any ops listed:=mem_ready.2 ⟨by
    have:j<listed.size:=by rw[I.size];have:=R.le;omega
    simp only[Array.getD_eq_getD_getElem?,Array.getElem?_eq_getElem this,Option.getD_some]at hl⊢;exact hl,o,ho,fun e he hb=>by
    rw[Zfl]at hb;have:=U6 F.back e (by simpa using he) hb;exact ih e.on this (by omega)⟩
   rw[h]at hm;cases hm
theorem Jf.done [Glb] (R:Jf N env ops f0 s v u t m) {listed:Array Bool} {st:St} (I:Inv N ops s t listed st) (h: ∀j,j<N→Lst listed j):st=s N:=by
 have hT:st.tmps=(s N).tmps:=by
  funext x;obtain ⟨k,hk,hw,e⟩:=I.tmp x;rw[e];exact R.tmpSame hk (Nat.le_refl _) fun j hj hd=>⟨fun _=>hj,fun _=>(hw j hj hd).1 (h j hj)⟩
 have hR:st.rows=(s N).rows:=by
  funext x;obtain ⟨k,hk,hw,e⟩:=I.row x;rw[e];exact R.rowSame hk (Nat.le_refl _) fun j hj hd=>⟨fun _=>hj,fun _=>(hw j hj hd).1 (h j hj)⟩
 have hnt:=R.ntAt N (Nat.le_refl _);have h1:=I.nt;have h2:=I.next;generalize s N=z at*;cases st;cases z;simp only at hT hR hnt h1 h2;rw[hT,hR,h1,h2,hnt.1,hnt.2]
theorem ZrP {listed:Array Bool} {j:Nat} (hj:j<listed.size):Lst listed j∨listed[j]? =some false:=by
 unfold Lst;rw[Array.getD_eq_getD_getElem?,Array.getElem?_eq_getElem hj];cases listed[j]<;>simp
theorem Zhp {m:Nat}: ∀{n:Nat},UB m n=true→ ∀j,j<n→Nat.testBit m j=true
 |0,_,_,h=>absurd h (Nat.not_lt_zero _)
 |n+1,h,j,hj=>by
  simp only[UB]at h;cases ht:Nat.testBit m n with
  |false=>rw[ht]at h;cases h
  |true=>
   rw[ht,Zb]at h;rcases Nat.lt_or_ge j n with h1|h1
   ·exact Zhp h j h1
   ·obtain rfl:j=n:=by omega
    exact ht
theorem Zj8 {P:Program} {ops:Array Oper} {Q:Exit→Act→World→Prop} {listed:Array Bool} {a:Act} {w:World} (h:Region.ready .any ops listed=[]) (hq:Q .normal a w): ∀fuel,wpAny P .any ops Q fuel listed a w
 |0=>⟨h,hq⟩
 |fuel+1=>⟨fun _=>hq,fun i hi=>by rw[h]at hi;cases hi⟩
theorem ZjI {ops:Array Oper} {listed:Array Bool} (hs:listed.size=ops.size) (h: ∀j,j<ops.size→Lst listed j):Region.ready .any ops listed=[]:=by
 cases hrd:Region.ready .any ops listed with
 |nil=>rfl
 |cons j js=>
  have hm:j∈Region.ready .any ops listed:=by rw[hrd];simp
  obtain ⟨h1,o,ho,_⟩:=mem_ready.1 hm;have hj:j<ops.size:=(Array.getElem?_eq_some_iff.1 ho).1;have h2:=h j hj;have:j<listed.size:=by rw[hs];exact hj
  simp only[Lst,Array.getD_eq_getD_getElem?,Array.getElem?_eq_getElem this,Option.getD_some]at h1 h2;rw[h1]at h2;cases h2
def ZsE [Glb] (N:Nat) (env:Env) (ops:Array Oper) (f0:Nat) (s:Nat→St) (m:Nat→Nat) (B:XR) (Q:Exit→Act→World→Prop):Prop:=
 (N=ops.size∧ ∀a w,JR B (s N) a w→Q .normal a w)∨
 ∃o vv uu,ops[N]? =some o∧N+1=ops.size∧YE N o.after.toList=true∧UB (Jq ((List.range N).map m) o.after.toList) N=true∧
  W9 env ops.toList o (f0+1024*N) (s N)=some (vv,uu)∧JC (s N) o.dst=true∧ ∀a w,JR B ((s N).app o.dst vv uu) a w→Q .normal a w
theorem Jf.any [Glb] (R:Jf N env ops f0 s v u t m) (hE: ∀g f,env.fns g=some f→Zy env.prog g f) {B:XR} (hts: ∀o,o∈ops.toList→ ∀d,o.dst=some d→d∈B.ts) {Q:Exit→Act→World→Prop} (hend:ZsE N env ops f0 s m B Q):
  ∀(fuel:Nat) (rest:List Nat) (listed:Array Bool) (st:St) (a:Act) (w:World),rest.length≤fuel→(∀j,j<ops.size→ ¬Lst listed j→j∈rest)→Inv N ops s t listed st→ ¬Lst listed N→JR B st a w→wpAny env.prog .any ops Q fuel listed a w
 |0,rest,listed,st,a,w,hf,hr,I,hN,G=>by
  have hle:=R.le;have hnil:rest=[]:=List.eq_nil_of_length_eq_zero (by omega);have hall: ∀j,j<ops.size→Lst listed j:=fun j hj=>by
   cases hl:listed.getD j false with
   |true=>exact hl
   |false=>have:=hr j hj (fun hc=>Bool.false_ne_true (hl.symm.trans hc));rw[hnil]at this;cases this
  rcases hend with ⟨hz,hq⟩| ⟨o,vv,uu,ho,hz,_⟩
  ·exact Zj8 (ZjI I.size hall) (hq a w (by rw[←R.done I fun j hj=>hall j (by omega)];exact G)) 0
  ·exact absurd (hall N (by omega)) hN
 |fuel+1,rest,listed,st,a,w,hf,hr,I,hN,G=>by
  have hle:=R.le;refine ⟨fun h=> ?_,fun i hi=> ?_⟩
  ·have hall:=R.all I h;rcases hend with ⟨hz,hq⟩| ⟨o,vv,uu,ho,hz,he,_⟩
   ·exact hq a w (by rw[←R.done I hall];exact G)
   ·have hm:N∈Region.ready .any ops listed:=mem_ready.2 ⟨by
     rcases ZrP (listed:=listed) (j:=N) (by rw[I.size];omega)with h1|h1
     ·exact absurd h1 hN
     ·rw[Array.getD_eq_getD_getElem?,h1];rfl,o,ho,fun e hee hb=>by
     rw[Zfl]at hb;exact hall e.on (U6 he e (by simpa using hee) hb)⟩
    rw[h]at hm;cases hm
  ·obtain ⟨h1,o,ho,hall⟩:=mem_ready.1 hi;have hin:i<ops.size:=(Array.getElem?_eq_some_iff.1 ho).1;have hun: ¬Lst listed i:=by
    have:i<listed.size:=by rw[I.size];exact hin
    simp only[Lst,Array.getD_eq_getD_getElem?,Array.getElem?_eq_getElem this,Option.getD_some]at h1⊢;rw[h1];simp
   have hall': ∀e,e∈o.after.toList→XW e=true→Lst listed e.on:=fun e he hb=>hall e (by simpa using he) (by rw[Zfl];exact hb);have hts': ∀d,o.dst=some d→d∈B.ts:=hts o (by have:=Array.mem_of_getElem? ho;simpa using this);rcases Nat.lt_or_ge i N with hiN|hiN
   ·obtain ⟨k1,k2,k3,k4⟩:=R.ready I hiN ho hun hall';refine Zex hE G ho hts' k3 k1 k2 fun a' w' G'=> ?_;have hmem:=hr i hin hun;refine R.any hE hts hend fuel (rest.erase i) _ _ a' w' (by rw[List.length_erase_of_mem hmem];omega) (fun j hj hl=> ?_) k4 (fun h=>hN ((WP (by omega)).1 h)) G';have hji:j≠i:=fun h=>by subst h;exact hl (Ze5 (by rw[I.size];exact hin))
    exact (List.mem_erase_of_ne hji).2 (hr j hj fun h=>hl ((WP hji).2 h))
   ·rcases hend with ⟨hz,hq⟩| ⟨o',vv,uu,ho',hz,he,hfull,hst,hd,hq⟩
    ·omega
    ·obtain rfl:i=N:=by omega
     rw[ho]at ho';cases ho';have hallN: ∀j,j<i→Lst listed j:=fun j hj=>R.ancEdges I (Nat.le_refl _) he hall' (Zhp hfull j hj);have es:=R.done I hallN;subst es;refine Zex hE G ho hts' (fun k hk _=>R.noneAt i (Nat.le_refl _) k hk) hst hd fun a' w' G'=> ?_;refine Zj8 (ZjI (by simp[I.size]) fun j hj=> ?_) (hq a' w' G') fuel;by_cases hji:j=i
     ·subst hji;exact Ze5 (by rw[I.size];exact hj)
     ·exact (WP hji).2 (hallN j (by omega))
end
theorem ZpO [Glb] {R:Type} {env:Env} (hE: ∀g f,env.fns g=some f→Zy env.prog g f) {ops:Array Oper} {B:XR} (hts: ∀o,o∈ops.toList→ ∀d,o.dst=some d→d∈B.ts) {K:St→Option R} {r:R} {Q:Exit→Act→World→Prop} {st:St} {a:Act} {w:World}
  (h:J5 env ops.toList ops.toList st.next 0 [] [] st K=some r) (G:JR B st a w) (hf: ∀k,st.next≤k→st.rows k=none)
  (hq: ∀st' a' w',JR B st' a' w'→st'.nt=st.nt→st'.next=st.next→(∀k,st.next+1024*ops.toList.length≤k→st'.rows k=none)→K st'=some r→Q .normal a' w'):
  wpAny env.prog .any ops Q ops.size (Array.replicate ops.size false) a w:=by
 obtain ⟨s,v,u,t,m,n,_,_,hs,hK,hF⟩:=Zj2 (f0:=st.next) ops.toList 0 [] [] st rfl rfl (fun k x h=>by simp at h) (by simpa using h);subst hs;simp only[Nat.zero_add,Array.length_toList]at hK;have hn:n≤ops.size:=by rcases hK with ⟨h,_⟩| ⟨_,_,h,_⟩<;>omega
 have RR:Jf n env ops (s 0).next s v u t m:=⟨hn,fun k o hk ho=>by have:=hF k o hk (by simpa using ho);simpa using this,hf⟩;have hnt:=RR.ntAt n (Nat.le_refl _);have hend:ZsE n env ops (s 0).next s m B Q:=by
  rcases hK with ⟨hz,hK⟩| ⟨o,ho,hz,h1,h2,h3⟩
  ·subst hz;exact .inl ⟨rfl,fun a' w' G'=>hq _ a' w' G' hnt.1 hnt.2 (fun k hk=>RR.noneAt ops.size (Nat.le_refl _) k (by simpa using hk)) hK⟩
  ·obtain ⟨hd,vv,uu,hst,hus,hrest⟩:=ZgJ h3;refine .inr ⟨o,vv,uu,by simpa using ho,hz,h1,h2,hst,hd,fun a' w' G'=>hq _ a' w' G' (by rw[ZiQ];exact hnt.1) (by rw[Ze1];exact hnt.2) (fun k hk=> ?_) hrest⟩;have hk2:(s 0).next+1024*n+1024≤k:=by
    rw[Array.length_toList,←hz,Nat.mul_succ,←Nat.add_assoc]at hk;exact hk
   rw[Ui,ZgN hus k hk2];exact RR.noneAt n (Nat.le_refl _) k (by omega)
 have no: ∀j,¬Lst (Array.replicate ops.size false) j:=fun j h=>by
  unfold Lst at h;rw[Array.getD_eq_getD_getElem?]at h;by_cases hj:j<ops.size
  ·simp[hj]at h
  ·simp[Array.getElem?_eq_none (show (Array.replicate ops.size false).size≤j by simp;omega)]at h
 refine RR.any hE hts hend ops.size (List.range ops.size) _ (s 0) a w (by simp) (fun j hj _=>by simpa using hj) ?_ ?_ G
 rotate_left
 ·exact no n
 exact ⟨by simp,fun j o h=>absurd h (no j),fun x=>⟨0,by omega,fun j _ _=>⟨fun h=>absurd h (no j),fun h=>by omega⟩,rfl⟩,fun x=>⟨0,by omega,fun j _ _=>⟨fun h=>absurd h (no j),fun h=>by omega⟩,rfl⟩,rfl,rfl⟩
end Go.Tev
