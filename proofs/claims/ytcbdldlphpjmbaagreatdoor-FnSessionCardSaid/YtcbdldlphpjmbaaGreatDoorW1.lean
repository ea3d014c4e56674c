/- An evaluator of Go functions on plain values and its soundness. No condition beyond those that each lemma states. -/
import Derived.Test.YtcbdldlphpjmbaaGreatDoorW0
import Derived.WalkKit
set_option linter.unusedSimpArgs false
set_option linter.unusedVariables false
namespace Go.Tev
def Z1 (w:World):(t:LT)→t.D→Value→Fp→(Nat→Prop)→Prop
 | .int k,(n:Int),v,_,_=>v= .int k n
 | .bool,(b:Bool),v,_,_=>v= .bool b
 | .str,(s:ByteArray),v,_,_=>v= .string s
 | .fn f,_,v,_,_=>v= .func (.func f) #[] #[]
 | .mb e,x,v,S,_=>match (x:Option (List e.C))with
  |some l=> ∃a cap ips,v=slV a ips.q (List.length (α:=e.C) l) cap∧Qq w true e a cap l ips∧ ∀b,Y9 a (List.length (α:=e.C) l) e ips b→ ∀o,S b o
  |none=>v.oneCell'=true
 | .sl true e,l,v,S,_=> ∃a cap ips,v=slV a ips.q (List.length (α:=e.C) l) cap∧Qq w true e a cap l ips∧ ∀b,Y9 a (List.length (α:=e.C) l) e ips b→ ∀o,S b o
 | .sl false e,l,v,_,L=> ∃a cap ips,v=slV a ips.q (List.length (α:=e.C) l) cap∧Qq w false e a cap l ips∧ ∀b,Ke a (List.length (α:=e.C) l) e ips b→L b
def Dis (S S':Fp):Prop:= ∀b o,S b o→ ¬S' b o
def Sub2 (S S':Fp):Prop:= ∀b o,S b o→S' b o
def Z9 (w:World):(ts:List LT)→Tup ts→List Value→Fp→(Nat→Prop)→Prop
 | [],_,[],_,_=>True
 |t::ts,x,v::vs,S,L=> ∃S1 S2,Z1 w t x.1 v S1 L∧Z9 w ts x.2 vs S2 L∧Dis S1 S2∧Sub2 S1 S∧Sub2 S2 S
 |_,_,_,_,_=>False
def KR (w:World) (b o:Nat) (cs:List Value):Prop:= ∀j,(h:j<cs.length)→w.cell? (adr (b,o+j))=some cs[j]
def rng (b o n:Nat):Fp:=fun b' o'=>b'=b∧o≤o'∧o'<o+n
def KU (w:World):(t:Ty)→t.D→Value→Fp→(Nat→Prop)→Prop
 | .v t,x,v,S,L=>Z1 w t x v S L
 | .a ts,x,v,S,L=> ∃cs:List Value,v= .agg cs.toArray∧Z9 w ts x cs S L
 | .p ts,x,v,S,L=> ∃b o cs S1,v= .pointer (some (adr (b,o)))∧Xe w b (o+ts.length)∧cs.length=ts.length∧KR w b o cs∧
   Z9 w ts x cs S1 L∧Sub2 S1 S∧Sub2 (rng b o ts.length) S∧Dis S1 (rng b o ts.length)
 | .r ts,x,v,S,L=> ∃b o cs,v= .pointer (some (adr (b,o)))∧cs.length=ts.length∧KR w b o cs∧Z9 w ts x cs S L∧L b
def ZG (w:World):(ts:List Ty)→PTup ts→List Value→Fp→(Nat→Prop)→Prop
 | [],_,[],_,_=>True
 |t::ts,x,v::vs,S,L=> ∃S1 S2,KU w t x.1 v S1 L∧ZG w ts x.2 vs S2 L∧Dis S1 S2∧Sub2 S1 S∧Sub2 S2 S
 |_,_,_,_,_=>False
theorem JT.lend {w:World} {ow:Bool} {l:List Int} {p:IP} (h:JT w ow l p):JT w false l p:=
 ⟨h.1,h.2.1,h.2.2.1,fun b o e=>⟨(h.2.2.2 b o e).1,fun h=>by cases h⟩⟩
theorem Qq.lend [Glb] {w:World} {ow:Bool} {e:E} {a:Option (Nat×Nat)} {cap:Nat} {l:List e.C} {ips:Ips} (h:Qq w ow e a cap l ips):Qq w false e a cap l ips:=by
 obtain ⟨h1,h2,h3,h4⟩:=h;refine ⟨h1,h2,fun b o ea=>⟨(h3 b o ea).1,fun h=>by cases h⟩,?_⟩;cases e with
 |n=>exact ⟨fun i hi=>(h4.1 i hi).lend,fun h=>by cases h⟩
 |_=>trivial
theorem Qq.take {w:World} {ow:Bool} {e:E} {a:Option (Nat×Nat)} {cap:Nat} {l:List e.C} {ips:Ips} (h:Qq w ow e a cap l ips) (n:Nat):Qq w ow e a cap (l.take n) ips:=by
 obtain ⟨h1,h2,h3,h4⟩:=h;have hle:(l.take n).length≤l.length:=by simp;omega
 refine ⟨by omega,h2,fun b o ea=>⟨fun i hi j hj=> ?_,(h3 b o ea).2⟩,?_⟩
 ·rw[(h3 b o ea).1 i (by omega) j hj];congr 2;simp
 ·cases e with
  |n=>
   refine ⟨fun i hi=> ?_,fun ho=>⟨fun i j hi hj=>(h4.2 ho).1 i j (by omega) (by omega),fun i hi=>(h4.2 ho).2 i (by omega)⟩⟩;have:=h4.1 i (by omega);rw[List.getElem_take];exact this
  |_=>trivial
theorem Zia (e:E):0<e.sz:=by cases e<;>decide
theorem Qq.drop {w:World} {ow:Bool} {e:E} {a:Option (Nat×Nat)} {cap:Nat} {l:List e.C} {ips:Ips} (h:Qq w ow e a cap l ips) (k:Nat) (hk:k≤l.length):
  Qq w ow e (if cap=k then a else a.map fun p=>(p.1,p.2+k*e.sz)) (cap-k) (l.drop k) ⟨fun i=>ips (i+k),ips.q⟩:=by
 obtain ⟨h1,h2,h3,h4⟩:=h;have hl:(l.drop k).length=l.length-k:=List.length_drop;refine ⟨by omega,?_,?_,?_⟩
 ·intro hn;have:a=none:=by
   by_cases hc:cap=k
   ·rw[Ze hc]at hn;exact hn
   ·rw[Zc hc]at hn;cases a<;>simp at hn;rfl
  have:=h2 this;exact ⟨by omega,this.2⟩
 ·intro b o ea;by_cases hc:cap=k
  ·rw[Ze hc]at ea;obtain ⟨_,g2⟩:=h3 b o ea;refine ⟨fun i hi=>by omega,fun ho=> ?_⟩;obtain ⟨c,ty,e1,e2⟩:=g2 ho;exact ⟨c,ty,e1,by rw[show cap-k=0 by omega];omega⟩
  ·rw[Zc hc]at ea;cases a with
   |none=>simp at ea
   |some p=>
    simp only[Option.map_some,Zg,Zz]at ea;obtain ⟨g1,g2⟩:=h3 p.1 p.2 rfl;obtain ⟨rfl,rfl⟩:=ea;refine ⟨fun i hi j hj=> ?_,fun ho=> ?_⟩
    ·have:=g1 (i+k) (by omega) j hj;rw[show p.2+k*e.sz+i*e.sz+j=p.2+(i+k)*e.sz+j by rw[Nat.add_mul];omega,this];congr 2;rw[List.getElem_drop];congr 1;omega
    ·obtain ⟨c,ty,e1,e2⟩:=g2 ho;refine ⟨c,ty,e1,?_⟩;have:k*e.sz+(cap-k)*e.sz=cap*e.sz:=by rw[←Nat.add_mul];congr 1;omega
     omega
 ·have hout:(Option.map (·.1) (if cap=k then a else a.map fun p=>(p.1,p.2+k*e.sz)))=a.map (·.1):=by
   split
   ·rfl
   ·cases a<;>rfl
  rw[hout];cases e with
  |n=>
   refine ⟨fun i hi=> ?_,fun ho=>⟨fun i j hi hj hne=>(h4.2 ho).1 (i+k) (j+k) (by omega) (by omega) (by omega),fun i hi=>(h4.2 ho).2 (i+k) (by omega)⟩⟩;have:=h4.1 (i+k) (by omega);rw[List.getElem_drop];simpa [Nat.add_comm] using this
  |_=>trivial
theorem ZmF {a:Option (Nat×Nat)} {cap len:Nat} {e:E} {ips:Ips} {k b:Nat} (hk:k≤len)
  (h:Y9 (if cap=k then a else a.map fun p=>(p.1,p.2+k*e.sz)) (len-k) e ⟨fun i=>ips (i+k),ips.q⟩ b):Y9 a len e ips b:=by
 rcases h with ⟨o,h⟩| ⟨he,i,hi,o,h⟩
 ·left;by_cases hc:cap=k
  ·rw[Ze hc]at h;exact ⟨o,h⟩
  ·rw[Zc hc]at h;cases a with
   |none=>simp at h
   |some p=>simp only[Option.map_some,Zg,Zz]at h;exact ⟨p.2,by rw[←h.1]⟩
 ·exact .inr ⟨he,i+k,by omega,o,h⟩
theorem Zmt {a:Option (Nat×Nat)} {cap len:Nat} {e:E} {ips:Ips} {k b:Nat} (hk:k≤len)
  (h:Ke (if cap=k then a else a.map fun p=>(p.1,p.2+k*e.sz)) (len-k) e ⟨fun i=>ips (i+k),ips.q⟩ b):Ke a len e ips b:=by
 rcases h with ⟨hl,o,h⟩| ⟨he,i,hi,hl,o,h⟩
 ·left;refine ⟨by omega,?_⟩;by_cases hc:cap=k
  ·rw[Ze hc]at h;exact ⟨o,h⟩
  ·rw[Zc hc]at h;cases a with
   |none=>simp at h
   |some p=>simp only[Option.map_some,Zg,Zz]at h;exact ⟨p.2,by rw[←h.1]⟩
 ·exact .inr ⟨he,i+k,by omega,hl,o,h⟩
theorem Zmv {a:Option (Nat×Nat)} {n len:Nat} {e:E} {ips:Ips} {b:Nat} (h:Ke a (min n len) e ips b):Ke a len e ips b:=by
 rcases h with ⟨hl,h⟩| ⟨he,i,hi,h⟩
 ·exact .inl ⟨by omega,h⟩
 ·exact .inr ⟨he,i,by omega,h⟩
def Qa (rows:Rows) (loc:Loc):Fp:=fun b o=> ∃i x,rows i=some x∧own loc i x b o
def ZoW:Row→Option Row→Prop
 | .row o e l,y=>y=some (.row o e l)| .rbox cs,y=>y=some (.rbox cs)| .box _,y=> ∃cs,y=some (.box cs)|_,_=>True
def KT (rows rows':Rows):Prop:= ∀id x,rows' id=some x→ZoW x (rows id)
theorem ZoW.refl {x:Row} {y:Option Row} (h:y=some x):ZoW x y:=by subst h;cases x<;>first|rfl|trivial|exact ⟨_,rfl⟩
theorem KT.trans {a b c:Rows} (h:KT a b) (k:KT b c):KT a c:=fun id x hh=>by
 have h1:=k id x hh;cases x with
 |row o e l=>exact h id _ h1
 |rbox cs=>exact h id _ h1
 |box cs=>obtain ⟨cs',e⟩:=h1;exact (h id (.box cs') e: ∃cs,_)
 |_=>trivial
theorem KT.refl [Glb] (a:Rows):KT a a:=fun _ _ h=>ZoW.refl h
def VU (S:Fp):Prop:= ∀b o o',S b o→S b o'
structure J8 [Glb] (rows rows':Rows) (loc:Loc) (w:World) (S:Fp) (L:Nat→Prop) (S1:Fp):Prop where
 heap:Heap rows' loc w S L
 from_:Sub2 S1 (Qa rows loc)
 apart: ∀b o,Qa rows' loc b o→Qa rows loc b o∧ ¬S1 b o
 sub:KT rows rows'
 some: ∀id,rows id≠none→rows' id≠none
 none: ∀id,rows id=Option.none→rows' id=Option.none
 boxes: ∀id (cs:List SV),rows id=Option.some (.box cs)→ ∃cs':List SV,rows' id=Option.some (.box cs')∧cs'.length=cs.length∧ ∀(j:Nat) (c:SV),cs[j]? =Option.some c→ ¬XE c→cs'[j]? =Option.some c
def ZC:Fp:=fun _ _=>False
def Z7 (S S':Fp):Fp:=fun b o=>S b o∨S' b o
theorem J8.refl [Glb] {rows:Rows} {loc:Loc} {w:World} {S:Fp} {L:Nat→Prop} (H:Heap rows loc w S L):J8 rows rows loc w S L ZC:=
 ⟨H,fun _ _ h=>h.elim,fun _ _ h=>⟨h,fun h=>h⟩, .refl _,fun _ h=>h,fun _ h=>h,fun _ cs h=>⟨cs,h,rfl,fun _ _ h _=>h⟩⟩
theorem J8.trans [Glb] {r0 r1 r2:Rows} {loc:Loc} {w:World} {S S1 S2:Fp} {L:Nat→Prop} (h:J8 r0 r1 loc w S L S1) (k:J8 r1 r2 loc w S L S2):
  J8 r0 r2 loc w S L (Z7 S1 S2)∧Dis S1 S2:=
 ⟨⟨k.heap,fun b o hb=>hb.elim (h.from_ b o) (fun hb=>(h.apart b o (k.from_ b o hb)).1),
  fun b o hb=>⟨(h.apart b o (k.apart b o hb).1).1,fun hs=>hs.elim (h.apart b o (k.apart b o hb).1).2 (k.apart b o hb).2⟩,
  h.sub.trans k.sub,fun id hh=>k.some id (h.some id hh),fun id hh=>k.none id (h.none id hh),
  fun id cs hh=>by
   obtain ⟨c1,e1,l1,g1⟩:=h.boxes id cs hh;obtain ⟨c2,e2,l2,g2⟩:=k.boxes id c1 e1;exact ⟨c2,e2,l2.trans l1,fun j c hc hn=>g2 j c (g1 j c hc hn) hn⟩⟩,
  fun b o h1 h2=>(h.apart b o (k.from_ b o h2)).2 h1⟩
def Zhz (np:Bool) (L:Nat→Prop) (loc:Loc) (rowsF:Rows) (b:Nat):Prop:=
 L b∨(∃id e l,rowsF id=some (.row true e l)∧own loc id (.row true e l) b 0)∨(np=true∧ ∃id cs,rowsF id=some (.box cs)∧ ∃o,own loc id (.box cs) b o)
theorem Vz:VU ZC:=fun _ _ _ h=>h.elim
theorem ZlB {S S':Fp} (h:VU S) (k:VU S'):VU (Z7 S S'):=fun b o o' x=>x.imp (h b o o') (k b o o')
theorem Zoi (loc:Loc) (id:Nat) (ow:Bool) (e:E) (l:List e.C):VU (own loc id (.row ow e l)):=by cases ow<;>exact fun _ _ _ h=>h
theorem ZaE {e e':E} {l:List e.C} {l':List e'.C} (h:Znf e e' l=some l'):e=e'∧HEq l' l:=by
 cases e<;>cases e'<;>simp only[Znf]at h<;>first
  | (cases h;exact ⟨rfl,HEq.rfl⟩)
  | (cases h;done)
theorem ZbB {k k':IntKind} (h:KC k k'=true):k=k':=by
 cases k<;>cases k'<;>first|rfl| (simp[KC]at h)
theorem ZaK [Glb] {rows:Rows} {loc:Loc} {w:World} {S:Fp} {L:Nat→Prop} (H:Heap rows loc w S L) {e:E} {sv:SV} {l:List e.C} {io:Option (Nat×Bool)} {v:Value}
  (h:Qv rows e sv=some (l,io)) (hv:ZD loc sv v):
  (io=none∧l=[]∧v= .slice none 0 0)∨
  ∃id o e' row ow a cap ips,io=some (id,o)∧rows id=some (.row ow e' row)∧v=slV a ips.q l.length cap∧Qq w ow e a cap l ips∧(o=true→ow=true)∧
   (∀b,Y9 a l.length e ips b→ow=true→own loc id (.row ow e' row) b 0)∧(∀b,Ke a l.length e ips b→ow=false→KE loc id (.row ow e' row) b):=by
 have main: ∀id ow e' row,rows id=some (.row ow e' row)→ ∃a cap ips,loc id=some (.row a cap row.length e' ips)∧Qq w ow e' a cap row ips∧
   (∀b,Y9 a row.length e' ips b→ow=true→own loc id (.row ow e' row) b 0)∧(∀b,Ke a row.length e' ips b→ow=false→KE loc id (.row ow e' row) b):=by
  intro id ow e' row hr;obtain ⟨a,cap,ips,el,k⟩:=H.ok id _ hr;refine ⟨a,cap,ips,el,k,fun b hb ho=> ?_,fun b hb ho=> ?_⟩
  ·subst ho;exact ⟨a,cap,_,e',ips,el,hb⟩
  ·subst ho;exact ⟨a,cap,_,e',ips,el,hb⟩
 cases sv with
 |nil=>
  simp only[Qv,Zg,Zz]at h;exact .inl ⟨h.2.symm,h.1.symm,hv⟩
 |slf id=>
  simp only[Qv]at h;split at h
  ·rename_i ow e' row hr;split at h
   ·rename_i l' hc;simp only[Zg,Zz]at h;obtain ⟨rfl,rfl⟩:=h;obtain ⟨rfl,hl⟩:=ZaE hc;obtain rfl:=eq_of_heq hl;obtain ⟨a,cap,ips,el,k,k1,k2⟩:=main _ _ _ _ hr;obtain ⟨a',cap',len',e',ips',el',rfl⟩:=hv;rw[el]at el';simp only[Zg,Pl.row.injEq]at el';obtain ⟨rfl,rfl,rfl,rfl,rfl⟩:=el';exact .inr ⟨id,ow,_,_,ow,a,cap,ips,rfl,hr,rfl,k,fun h=>h,k1,k2⟩
   ·cases h
  ·cases h
 |sld id o=>
  simp only[Qv]at h;split at h
  ·rename_i ow e' row hr;split at h
   ·rename_i l' hc;simp only[Zg,Zz]at h;obtain ⟨rfl,rfl⟩:=h;obtain ⟨rfl,hl⟩:=ZaE hc;obtain rfl:=eq_of_heq hl;obtain ⟨a,cap,ips,el,k,k1,k2⟩:=main _ _ _ _ hr;obtain ⟨a',cap',len',e',ips',el',ho,hle,rfl⟩:=hv;rw[el]at el';simp only[Zg,Pl.row.injEq]at el';obtain ⟨rfl,rfl,rfl,rfl,rfl⟩:=el';refine .inr ⟨id,ow,_,_,ow,_,_,_,rfl,hr,?_,k.drop o.toNat hle,fun h=>h,fun b hb=>k1 b (ZmF (cap:=cap) hle ?_),fun b hb=>k2 b (Zmt (cap:=cap) hle ?_)⟩
    ·rw[List.length_drop]
    ·rw[List.length_drop]at hb;exact hb
    ·rw[List.length_drop]at hb;exact hb
   ·cases h
  ·cases h
 |slt id n=>
  simp only[Qv]at h;split at h
  ·rename_i ow e' row hr;split at h
   ·rename_i l' hc;simp only[Zg,Zz]at h;obtain ⟨rfl,rfl⟩:=h;obtain ⟨rfl,hl⟩:=ZaE hc;obtain rfl:=eq_of_heq hl;obtain ⟨a,cap,ips,el,k,k1,k2⟩:=main _ _ _ _ hr;obtain ⟨a',cap',len',e',ips',el',ho,hle,rfl⟩:=hv;rw[el]at el';simp only[Zg,Pl.row.injEq]at el';obtain ⟨rfl,rfl,rfl,rfl,rfl⟩:=el';have hl:(List.take n.toNat l').length=n.toNat:=by rw[List.length_take];omega
    refine .inr ⟨id,ow,_,_,ow,a,cap,ips,rfl,hr,by rw[hl],k.take n.toNat,fun h=>h,fun b hb=>k1 b ?_,fun b hb=>k2 b (Zmv (n:=n.toNat) ?_)⟩
    ·rcases hb with hb| ⟨he,i,hi,hb⟩
     ·exact .inl hb
     ·exact .inr ⟨he,i,by rw[hl]at hi;omega,hb⟩
    ·rw[List.length_take]at hb;exact hb
   ·cases h
  ·cases h
 |nslf id i=>
  cases e with
  |i=>
   simp only[Qv]at h;split at h
   ·rename_i ow row hr;simp only[Zg,Zz]at h;obtain ⟨rfl,rfl⟩:=h;obtain ⟨a,cap,ips,el,k,k1,k2⟩:=main _ _ _ _ hr;obtain ⟨a',cap',len',ips',el',hi0,hi,rfl⟩:=hv;rw[el]at el';simp only[Zg,Pl.row.injEq,true_and]at el';obtain ⟨rfl,rfl,rfl,rfl⟩:=el';have hrd:rdE .n row i=row[i.toNat]:=by simp[rdE,hi]
    obtain ⟨g1,g2,g3,g4⟩:=k.2.2.2.1 i.toNat hi;refine .inr ⟨id,false, .n,row,ow,(ips i.toNat).a,(ips i.toNat).cap,⟨fun _=>⟨none,0,0,none⟩,(ips i.toNat).q⟩,rfl,hr,?_,⟨?_,g3,fun b o ea=>⟨fun j hj j' hj'=> ?_,fun ho=> ?_⟩,trivial⟩,(fun h=>by cases h),fun b hb=>k1 b ?_,fun b hb=>k2 b ?_⟩
    ·rw[hrd,g1]
    ·rw[hrd];exact g2
    ·obtain rfl:j'=0:=by simp[E.sz]at hj';exact hj'
     have hj2:j<row[i.toNat].length:=by rw[←hrd];exact hj
     have:=(g4 b o ea).1 j hj2;simp only[E.sz,Nat.mul_one,Nat.add_zero,elV];rw[this];congr 2;simp[hrd]
    ·simpa [E.sz] using (g4 b o ea).2 ho
    ·rcases hb with ⟨o,ho⟩| ⟨he,_⟩
     ·exact .inr ⟨rfl,i.toNat,hi,o,ho⟩
     ·cases he
    ·rcases hb with ⟨hl,o,ho⟩| ⟨he,_⟩
     ·exact .inr ⟨rfl,i.toNat,hi,by rw[g1];rw[hrd]at hl;exact hl,o,ho⟩
     ·cases he
   ·cases h
  |_=>simp[Qv]at h
 |_=>simp[Qv]at h
theorem J8.kill [Glb] {rows:Rows} {loc:Loc} {w:World} {S:Fp} {L:Nat→Prop} (H:Heap rows loc w S L) {id:Nat} {x:Row} (e:rows id=Option.some x) (hx: ∀cs,x≠ .box cs):
  J8 rows (QD rows id .dead) loc w S L (own loc id x):=by
 refine ⟨H.kill id,fun b o h=>⟨id,x,e,h⟩,fun b o ⟨i,y,ey,hy⟩=> ?_,fun j y h=> ?_,fun j h=> ?_,fun j h=> ?_,fun j cs h=> ?_⟩
 ·by_cases hi:i=id
  ·subst hi;rw[QT]at ey;cases ey;exact hy.elim
  ·rw[QA rows _ hi]at ey;exact ⟨⟨i,y,ey,hy⟩,fun hx=>H.sep i id y x hi ey e b o hy hx⟩
 ·by_cases hj:j=id
  ·subst hj;rw[QT]at h;cases h;trivial
  ·rw[QA rows _ hj]at h;exact .refl h
 ·by_cases hj:j=id
  ·subst hj;rw[QT];simp
  ·rw[QA rows _ hj];exact h
 ·by_cases hj:j=id
  ·subst hj;rw[h]at e;cases e
  ·rw[QA rows _ hj];exact h
 ·by_cases hj:j=id
  ·subst hj;rw[h]at e;cases e;exact absurd rfl (hx cs)
  ·rw[QA rows _ hj];exact ⟨cs,h,rfl,fun _ _ h _=>h⟩
theorem Zbf {np:Bool} {rows:Rows}: ∀{ls:List Nat},JA np rows ls=true→ ∀id,id∈ls→(∃o e l,rows id=some (.row o e l))∨(∃cs,rows id=some (.rbox cs))∨ ∃cs,rows id=some (.box cs)∧np=true∧ZlU cs=true
 | [],_,_,h=>by cases h
 |i::r,h,id,hm=>by
  simp only[JA]at h;split at h
  ·rename_i o e l hr;cases hm with
   |head=>exact .inl ⟨o,e,l,hr⟩
   |tail _ hm=>exact Zbf h id hm
  ·rename_i cs hr;cases hm with
   |head=>exact .inr (.inl ⟨cs,hr⟩)
   |tail _ hm=>exact Zbf h id hm
  ·rename_i cs hr;simp only[Bool.and_eq_true]at h;cases hm with
   |head=>exact .inr (.inr ⟨cs,hr,h.1,h.2.1⟩)
   |tail _ hm=>exact Zbf h.2.2 id hm
  ·cases h
theorem ZoU {cs:List SV} (h:ZlU cs=true): ∃c r,cs=c::r∧XE c:=by
 cases cs with
 |nil=>cases h
 |cons c r=>exact ⟨c,r,rfl,by cases c<;>first|trivial| (simp[ZlU]at h)⟩
theorem Uh (w:World) (ow:Bool) (e:E):Qq w ow e none 0 ([]:List e.C) ⟨fun _=>⟨none,0,0,none⟩,none⟩:=by
 refine ⟨Nat.le_refl _,fun _=>⟨rfl, .inl rfl⟩,(fun _ _ h=>by cases h),?_⟩;cases e with
 |n=>exact ⟨(fun i h=>by cases h),fun _=>⟨(fun i j h=>by cases h),(fun i h=>by cases h)⟩⟩
 |_=>trivial
theorem Zis {loc:Loc} {x:SV} {v:Value} (hx:okS x=true) (h:ZD loc x v):v.oneCell'=true:=by
 cases x<;>simp only[ZD]at h<;>first
  | (simp[okS]at hx;done)
  |exact h
  | (subst h;rfl)
  | (obtain ⟨_,_,_,_,rfl⟩:=h;rfl)
  | (obtain ⟨_,_,_,_,_,_,_,_,_,rfl⟩:=h;rfl)
  | (obtain ⟨_,_,_,_,_,_,rfl⟩:=h;rfl)
  | (obtain ⟨_,_,_,_,_,_,_,_,rfl⟩:=h;rfl)
theorem ZcG [Glb] {rows:Rows} {loc:Loc} {w:World} {S:Fp} {L:Nat→Prop} (H:Heap rows loc w S L) {t:LT} {sv:SV} {x:t.D} {us:Us} {ls:List Nat} {v:Value}
  (h:QQ rows t sv=some (x,us,ls)) (hv:ZD loc sv v):
  ∃S1,J8 rows (Zj rows us) loc w S L S1∧VU S1∧ ∀np rowsF,KT (Zj rows us) rowsF→JA np rowsF ls=true→Z1 w t x v S1 (Zhz np L loc rowsF):=by
 cases t with
 |int k=>
  cases sv<;>simp only[QQ]at h<;>first| (cases h;done)|skip
  rename_i k' n;cases hk:KC k k' with
  |false=>rw[hk]at h;cases h
  |true=>
   rw[hk]at h;simp only[Zb,Zg,Zz]at h;obtain ⟨rfl,rfl,rfl⟩:=h;obtain rfl:=ZbB hk;exact ⟨ZC, .refl H,Vz,fun _ _ _ _=>hv⟩
 |bool=>
  cases sv<;>simp only[QQ]at h<;>first| (cases h;done)|skip
  simp only[Zg,Zz]at h;obtain ⟨rfl,rfl,rfl⟩:=h;exact ⟨ZC, .refl H,Vz,fun _ _ _ _=>hv⟩
 |str=>
  cases sv<;>simp only[QQ]at h<;>first| (cases h;done)|skip
  simp only[Zg,Zz]at h;obtain ⟨rfl,rfl,rfl⟩:=h;exact ⟨ZC, .refl H,Vz,fun _ _ _ _=>hv⟩
 |fn f=>
  cases sv<;>simp only[QQ]at h<;>first| (cases h;done)|skip
  rename_i f';cases hk:Nat.beq f f' with
  |false=>rw[hk]at h;cases h
  |true=>
   rw[hk]at h;simp only[Zb,Zg,Zz]at h;obtain ⟨_,rfl,rfl⟩:=h;obtain rfl:=Nat.eq_of_beq_eq_true hk;exact ⟨ZC, .refl H,Vz,fun _ _ _ _=>hv⟩
 |mb e=>
  have hu:sv≠ .undef:=by rintro rfl;simp[QQ]at h
  have h':(match Qv rows e sv with
   |some (l,none)=>some (some l,[],[])
   |some (l,some (id,o))=>bif o then some (some l,[(id, .dead)],[])else none
   |none=>bif okS sv then some (none,[],[])else none)=some (x,us,ls):=by
   cases sv<;>first|exact h|exact absurd rfl hu
  clear h;split at h'
  ·rename_i l hs;simp only[Zg,Zz]at h';obtain ⟨rfl,rfl,rfl⟩:=h';rcases ZaK H hs hv with ⟨_,rfl,rfl⟩| ⟨id,o,e',row,ow',a,cap,ips,hio,_⟩
   ·exact ⟨ZC, .refl H,Vz,fun _ _ _ _=>⟨none,0,⟨fun _=>⟨none,0,0,none⟩,none⟩,rfl,Uh w true e,fun b hb o=>by rcases hb with ⟨_,h⟩| ⟨_,i,hi,_⟩<;>first|cases h|cases hi⟩⟩
   ·cases hio
  ·rename_i l id o hs;rcases ZaK H hs hv with ⟨hio,_,_⟩| ⟨id',o',e',row,ow',a,cap,ips,hio,hr,rfl,hat,hown,k1,k2⟩
   ·cases hio
   ·simp only[Zg,Zz]at hio;obtain ⟨rfl,rfl⟩:=hio;cases o with
    |false=>cases h'
    |true=>
     simp only[Zb,Zg,Zz]at h';obtain ⟨rfl,rfl,rfl⟩:=h';obtain rfl:=hown rfl;exact ⟨own loc id (.row true e' row), .kill H hr (fun cs h=>by cases h),Zoi _ _ _ _ _,fun _ _ _ _=>⟨a,cap,ips,rfl,hat,fun b hb _=>k1 b hb rfl⟩⟩
  ·cases hk:okS sv with
   |false=>rw[hk]at h';cases h'
   |true=>
    rw[hk,Zb]at h';simp only[Zg,Zz]at h';obtain ⟨rfl,rfl,rfl⟩:=h';exact ⟨ZC, .refl H,Vz,fun _ _ _ _=>Zis hk hv⟩
 |sl ow e=>
  have h':(match Qv rows e sv with
   |some (l,none)=>some (l,[],[])
   |some (l,some (id,o))=>bif ow then (bif o then some (l,[(id, .dead)],[])else none)else some (l,[],[id])
   |none=>none)=some (x,us,ls):=by
   cases sv<;>exact h
  clear h;split at h'
  ·rename_i l hs;simp only[Zg,Zz]at h';obtain ⟨rfl,rfl,rfl⟩:=h';rcases ZaK H hs hv with ⟨_,rfl,rfl⟩| ⟨id,o,e',row,ow',a,cap,ips,hio,_⟩
   ·refine ⟨ZC, .refl H,Vz,fun _ _ _ _=> ?_⟩;cases ow with
    |true=>exact ⟨none,0,⟨fun _=>⟨none,0,0,none⟩,none⟩,rfl,Uh w true e,fun b hb o=>by rcases hb with ⟨_,h⟩| ⟨_,i,hi,_⟩<;>first|cases h|cases hi⟩
    |false=>exact ⟨none,0,⟨fun _=>⟨none,0,0,none⟩,none⟩,rfl,Uh w false e,fun b hb=>by rcases hb with ⟨_,_,h⟩| ⟨_,i,hi,_⟩<;>first|cases h|cases hi⟩
   ·cases hio
  ·rename_i l id o hs;rcases ZaK H hs hv with ⟨hio,_,_⟩| ⟨id',o',e',row,ow',a,cap,ips,hio,hr,rfl,hat,hown,k1,k2⟩
   ·cases hio
   ·simp only[Zg,Zz]at hio;obtain ⟨rfl,rfl⟩:=hio;cases ow with
    |true=>
     cases o with
     |false=>cases h'
     |true=>
      simp only[Zb,Zg,Zz]at h';obtain ⟨rfl,rfl,rfl⟩:=h';obtain rfl:=hown rfl;exact ⟨own loc id (.row true e' row), .kill H hr (fun cs h=>by cases h),Zoi _ _ _ _ _,fun _ _ _ _=>⟨a,cap,ips,rfl,hat,fun b hb _=>k1 b hb rfl⟩⟩
    |false=>
     simp only[Zd,Zg,Zz]at h';obtain ⟨rfl,rfl,rfl⟩:=h';refine ⟨ZC, .refl H,Vz,fun np rowsF hsub hal=>⟨a,cap,ips,rfl,hat.lend,fun b hb=> ?_⟩⟩;cases ow' with
     |false=>exact .inl (H.inL id _ hr b (k2 b hb rfl))
     |true=>
      rcases Zbf hal id (List.mem_singleton.2 rfl)with ⟨oF,eF,lF,hF⟩| ⟨cs,hF⟩| ⟨cs,hF,_⟩
      ·have hF2:rows id=_:=hsub id _ hF;rw[hr]at hF2;rw[←hF2]at hF;exact .inr (.inl ⟨id,e',row,hF,k1 b hb.pl rfl⟩)
      ·have hF2:rows id=_:=hsub id _ hF;rw[hr]at hF2;cases hF2
      ·obtain ⟨cs',hF2⟩: ∃cs',rows id=_:=hsub id _ hF;rw[hr]at hF2;cases hF2
  ·cases h'
theorem Qd (rows:Rows): ∀(us us':Us),Zj rows (us++us')=Zj (Zj rows us) us'
 | [],_=>rfl
 | (i,x)::us,us'=>Qd (QD rows i x) us us'
theorem Zag {np:Bool} {rows:Rows}: ∀{a b:List Nat},JA np rows (a++b)=true→JA np rows a=true∧JA np rows b=true
 | [],_,h=>⟨rfl,h⟩
 |i::r,b,h=>by
  simp only[List.cons_append,JA]at h⊢;split at h
  ·exact Zag h
  ·exact Zag h
  ·simp only[Bool.and_eq_true]at h⊢;have:=Zag h.2.2;exact ⟨⟨h.1,h.2.1,this.1⟩,this.2⟩
  ·cases h
theorem Z1.mono {w:World} {t:LT} {x:t.D} {v:Value} {S S':Fp} {L L':Nat→Prop} (h:Z1 w t x v S L) (hs:Sub2 S S') (hl: ∀b,L b→L' b):Z1 w t x v S' L':=by
 cases t with
 |sl ow e=>
  cases ow with
  |true=>obtain ⟨a,cap,ips,h1,h2,h3⟩:=h;exact ⟨a,cap,ips,h1,h2,fun b hb o=>hs b o (h3 b hb o)⟩
  |false=>obtain ⟨a,cap,ips,h1,h2,h3⟩:=h;exact ⟨a,cap,ips,h1,h2,fun b hb=>hl b (h3 b hb)⟩
 |mb e=>
  match x,h with
  |some l,h=>obtain ⟨a,cap,ips,h1,h2,h3⟩:=h;exact ⟨a,cap,ips,h1,h2,fun b hb o=>hs b o (h3 b hb o)⟩
  |none,h=>exact h
 |_=>exact h
theorem Z9.mono [Glb] {w:World} {S S':Fp} {L L':Nat→Prop} (hs:Sub2 S S') (hl: ∀b,L b→L' b): ∀{ts:List LT} {x:Tup ts} {vs:List Value},Z9 w ts x vs S L→Z9 w ts x vs S' L'
 | [],_,[],_=>trivial
 | [],_,_::_,h=>h.elim
 |_::_,_,[],h=>h.elim
 |_::_,_,_::_,⟨S1,S2,h1,h2,h3,h4,h5⟩=>⟨S1,S2,h1.mono (fun _ _ h=>h) hl,Z9.mono (fun _ _ h=>h) hl h2,h3,fun b o h=>hs b o (h4 b o h),fun b o h=>hs b o (h5 b o h)⟩
theorem ZdV [Glb] {loc:Loc} {w:World} {S:Fp} {L:Nat→Prop}: ∀{ts:List LT} {svs:List SV} {rows:Rows} {x:Tup ts} {us:Us} {ls:List Nat} {vs:List Value} (_:Heap rows loc w S L)
  (_:QN rows ts svs=some (x,us,ls)) (_:Z3 loc svs vs),
  ∃S1,J8 rows (Zj rows us) loc w S L S1∧VU S1∧ ∀np rowsF,KT (Zj rows us) rowsF→JA np rowsF ls=true→Z9 w ts x vs S1 (Zhz np L loc rowsF)
 | [],[],rows,x,us,ls,vs,H,h,hv=>by
  simp only[QN,Zg,Zz]at h;obtain ⟨_,rfl,rfl⟩:=h;cases vs with
  |nil=>exact ⟨ZC, .refl H,Vz,fun _ _ _ _=>trivial⟩
  |cons _ _=>exact hv.elim
 | [],_::_,_,_,_,_,_,_,h,_=>by simp[QN]at h
 |_::_,[],_,_,_,_,_,_,h,_=>by simp[QN]at h
 |t::ts,sv::svs,rows,x,us,ls,vs,H,h,hv=>by
  simp only[QN]at h;split at h
  ·rename_i x1 us1 ls1 h1;split at h
   ·rename_i x2 us2 ls2 h2;simp only[Zg,Zz]at h;obtain ⟨rfl,rfl,rfl⟩:=h;cases vs with
    |nil=>exact hv.elim
    |cons v vs=>
     obtain ⟨S1,T1,b1,k1⟩:=ZcG H h1 hv.1;obtain ⟨S2,T2,b2,k2⟩:=ZdV T1.heap h2 hv.2;obtain ⟨T,hd⟩:=T1.trans T2;refine ⟨Z7 S1 S2,by rw[Qd];exact T,ZlB b1 b2,fun np rowsF hsub hal=> ?_⟩;rw[Qd]at hsub;obtain ⟨ha1,ha2⟩:=Zag hal;exact ⟨S1,S2,k1 np rowsF (T2.sub.trans hsub) ha1,k2 np rowsF hsub ha2,hd,fun _ _ h=> .inl h,fun _ _ h=> .inr h⟩
   ·cases h
  ·cases h
theorem Zey: ∀{ts:List LT} {svs:List SV} {rows:Rows} {r:Tup ts×Us×List Nat},QN rows ts svs=some r→svs.length=ts.length
 | [],[],_,_,_=>rfl
 | [],_::_,_,_,h=>by simp[QN]at h
 |_::_,[],_,_,h=>by simp[QN]at h
 |t::ts,sv::svs,rows,r,h=>by
  simp only[QN]at h;split at h
  ·split at h
   ·rename_i h2;have:=Zey h2;simp[this]
   ·cases h
  ·cases h
theorem ZjZ {rows:Rows} {t:LT} {sv:SV} {r:t.D×Us×List Nat} (h:QQ rows t sv=some r):XE sv:=by
 cases sv<;>first
  |trivial
  | (cases t<;>simp[QQ,Qv,okS]at h)
theorem ZbS [Glb]: ∀{ts:List LT} {svs:List SV} {rows:Rows} {r:Tup ts×Us×List Nat},QN rows ts svs=some r→ ∀x,x∈svs→XE x
 | [],[],_,_,_,_,hx=>by cases hx
 | [],_::_,_,_,h,_,_=>by simp[QN]at h
 |_::_,[],_,_,h,_,_=>by simp[QN]at h
 |t::ts,sv::svs,rows,r,h,x,hx=>by
  simp only[QN]at h;split at h
  ·rename_i h1;split at h
   ·rename_i h2;cases hx with
    |head=>exact ZjZ h1
    |tail _ hx=>exact ZbS h2 x hx
   ·cases h
  ·cases h
theorem Zjm: ∀{ts:List LT} {vs q:List SV},Yt ts vs=some q→q.length=vs.length∧ ∀x,x∈q→ ¬XE x
 | [],[],q,h=>by simp only[Yt,Zg]at h;subst h;exact ⟨rfl,fun _ hx=>by cases hx⟩
 | [],_::_,q,h=>by simp[Yt]at h
 |t::ts,[],q,h=>by
  exfalso;cases t with
  |sl ow e=>cases ow<;>simp[Yt]at h
  |_=>simp[Yt]at h
 |t::ts,v::vs,q,h=>by
  have key: ∃r y,Yt ts vs=some r∧q=y::r∧ ¬XE y:=by
   cases t with
   |sl ow e=>
    cases ow with
    |false=>
     cases v<;>simp only[Yt]at h<;>first| (cases h;done)|skip
     split at h
     ·rename_i r hr;simp only[Zg]at h;exact ⟨r,_,hr,h.symm,fun h=>h⟩
     ·cases h
    |true=>
     simp only[Yt]at h;split at h
     ·rename_i r hr;simp only[Zg]at h;exact ⟨r,_,hr,h.symm,fun h=>h⟩
     ·cases h
   |_=>
    simp only[Yt]at h;split at h
    ·rename_i r hr;simp only[Zg]at h;exact ⟨r,_,hr,h.symm,fun h=>h⟩
    ·cases h
  obtain ⟨r,y,hr,rfl,hy⟩:=key;obtain ⟨k1,k2⟩:=Zjm hr;refine ⟨by simp[k1],fun x hx=> ?_⟩;cases hx with
  |head=>exact hy
  |tail _ hx=>exact k2 x hx
theorem Zes {cs vs:List SV} {off:Nat} (h:off+vs.length≤cs.length):(Qu cs off vs).length=cs.length:=by
 simp[Qu];omega
theorem Zcd {cs vs:List SV} {off j:Nat} (h:off+vs.length≤cs.length) (h1:off≤j) (h2:j<off+vs.length):(Qu cs off vs)[j]? =some (vs[j-off]'(by omega)):=by
 unfold Qu;rw[List.append_assoc,List.getElem?_append_right (by simp;omega),List.getElem?_append_left (by simp;omega)];simp[Nat.min_eq_left (show off≤cs.length by omega)]
theorem UW {cs vs:List SV} {off j:Nat} (h:off+vs.length≤cs.length) (h1:j<off∨off+vs.length≤j):(Qu cs off vs)[j]? =cs[j]? :=by
 unfold Qu;rcases h1 with h1|h1
 ·rw[List.append_assoc,List.getElem?_append_left (by simp;omega)];simp[h1]
 ·rw[List.getElem?_append_right (by simp;omega)];simp only[List.getElem?_drop];congr 1;simp;omega
theorem Zcp {w:World} {loc:Loc} {b:Nat}: ∀{cells:List SV} {o:Nat},(∀j,(h:j<cells.length)→Xy w loc b (o+j) cells[j])→(∀x,x∈cells→XE x)→
  ∃vs,vs.length=cells.length∧KR w b o vs∧Z3 loc cells vs∧J9 vs
 | [],o,_,_=>⟨[],rfl,(fun j h=>by cases h),trivial,trivial⟩
 |x::xs,o,h,hn=>by
  have h0:=h 0 (by simp);simp only[List.getElem_cons_zero,Nat.add_zero]at h0;have hx:=hn x (by simp);have h0':okS x=true∧ ∃v,w.cell? (adr (b,o))=some v∧ZD loc x v∧v.oneCell'=true:=by
   cases x<;>first|exact h0|exact hx.elim
  obtain ⟨_,v,e,r,one⟩:=h0';obtain ⟨vs,k1,k2,k3,k4⟩:=Zcp (cells:=xs) (o:=o+1) (fun j hj=>by
   have:=h (j+1) (by simpa using hj);rw[show o+1+j=o+(j+1) by omega];simpa using this) (fun y hy=>hn y (List.mem_cons_of_mem _ hy))
  refine ⟨v::vs,by simp[k1],fun j hj=> ?_,⟨r,k3⟩,one,k4⟩;cases j with
  |zero=>simpa using e
  |succ j=>
   have:=k2 j (by simpa using hj);rw[show o+(j+1)=o+1+j by omega];simpa using this
def Jt (loc:Loc):List LT→List SV→List Value→Prop
 | [],[],[]=>True
 | .sl false _::ts,c::cs,v::vs=>(∃k,c= .lsl k∧ZD loc (.slf k) v)∧Jt loc ts cs vs
 | .sl true _::ts,c::cs,_::vs=>c= .lent∧Jt loc ts cs vs
 | .int _::ts,c::cs,_::vs=>c= .lent∧Jt loc ts cs vs
 | .bool::ts,c::cs,_::vs=>c= .lent∧Jt loc ts cs vs
 | .str::ts,c::cs,_::vs=>c= .lent∧Jt loc ts cs vs
 | .fn _::ts,c::cs,_::vs=>c= .lent∧Jt loc ts cs vs
 | .mb _::ts,c::cs,_::vs=>c= .lent∧Jt loc ts cs vs
 |_,_,_=>False
theorem ZbD {loc:Loc}: ∀{ts:List LT} {cells q:List SV} {old:List Value},Yt ts cells=some q→Z3 loc cells old→Jt loc ts q old
 | [],[],q,[],h,_=>by simp only[Yt,Zg]at h;subst h;trivial
 |_,[],_,_::_,_,hr=>hr.elim
 |_,_::_,_,[],_,hr=>hr.elim
 | [],_::_,q,_::_,h,_=>by simp[Yt]at h
 |t::ts,[],q,[],h,_=>by
  exfalso;cases t with
  |sl ow e=>cases ow<;>simp[Yt]at h
  |_=>simp[Yt]at h
 |t::ts,v::vs,q,o::os,h,hr=>by
  cases t with
  |sl ow e=>
   cases ow with
   |false=>
    cases v<;>simp only[Yt]at h<;>first| (cases h;done)|skip
    split at h
    ·rename_i r hr';simp only[Zg]at h;subst h;exact ⟨⟨_,rfl,hr.1⟩,ZbD hr' hr.2⟩
    ·cases h
   |true=>
    simp only[Yt]at h;split at h
    ·rename_i r hr';simp only[Zg]at h;subst h;exact ⟨rfl,ZbD hr' hr.2⟩
    ·cases h
  |_=>
   simp only[Yt]at h;split at h
   ·rename_i r hr';simp only[Zg]at h;subst h;exact ⟨rfl,ZbD hr' hr.2⟩
   ·cases h
def Y0 (rows:Rows) (loc:Loc) (w:World) (id off:Nat) (ts:List LT) (v:Value):Prop:=
 ∃b o cs old,rows id=some (.box cs)∧loc id=some (.box b o cs.length)∧v= .pointer (some (adr (b,o+off)))∧off+ts.length≤cs.length∧
  Jt loc ts ((cs.drop off).take ts.length) old∧KR w b (o+off) old
def ZpZ (rows:Rows) (loc:Loc) (w:World):Ty→TV→Value→Prop
 | .p ts,tv,v=> ∃id off,tv= .c (.s (.ptr id off))∧Y0 rows loc w id off ts v
 |_,_,_=>True
def Je (rows:Rows) (loc:Loc) (w:World):List Ty→List TV→List Value→Prop
 | [],[],[]=>True
 |t::ts,tv::tvs,v::vs=>ZpZ rows loc w t tv v∧Je rows loc w ts tvs vs
 |_,_,_=>False
theorem Jt.len {loc:Loc}: ∀{ts:List LT} {cs:List SV} {vs:List Value},Jt loc ts cs vs→cs.length=ts.length∧vs.length=ts.length∧ ∀x,x∈cs→ ¬XE x
 | [],[],[],_=>⟨rfl,rfl,fun _ h=>by cases h⟩
 | [],[],_::_,h=>h.elim
 | [],_::_,_,h=>h.elim
 |t::ts,[],_,h=>by cases t with|sl ow e=>cases ow<;>exact h.elim|_=>exact h.elim
 |t::ts,_::_,[],h=>by cases t with|sl ow e=>cases ow<;>exact h.elim|_=>exact h.elim
 |t::ts,c::cs,v::vs,h=>by
  have key: ¬XE c∧Jt loc ts cs vs:=by
   cases t with
   |sl ow e=>
    cases ow with
    |false=>obtain ⟨⟨k,rfl,_⟩,h2⟩:=h;exact ⟨fun h=>h,h2⟩
    |true=>obtain ⟨rfl,h2⟩:=h;exact ⟨fun h=>h,h2⟩
   |_=>obtain ⟨rfl,h2⟩:=h;exact ⟨fun h=>h,h2⟩
  obtain ⟨k1,k2,k3⟩:=Jt.len key.2;refine ⟨by simp[k1],by simp[k2],fun x hx=> ?_⟩;cases hx with
  |head=>exact key.1
  |tail _ hx=>exact k3 x hx
theorem Y0.keep [Glb] {rows rows':Rows} {loc:Loc} {w:World} {id off:Nat} {ts:List LT} {v:Value}
  (h:Y0 rows loc w id off ts v) (k: ∀id (cs:List SV),rows id=some (.box cs)→ ∃cs':List SV,rows' id=some (.box cs')∧cs'.length=cs.length∧ ∀(j:Nat) (c:SV),cs[j]? =some c→ ¬XE c→cs'[j]? =some c):
  Y0 rows' loc w id off ts v:=by
 obtain ⟨b,o,cs,old,e,el,hv,hle,hl,ho⟩:=h;obtain ⟨cs',e',hlen,g⟩:=k id cs e;refine ⟨b,o,cs',old,e',by rw[hlen];exact el,hv,by omega,?_,ho⟩;have:(cs'.drop off).take ts.length=(cs.drop off).take ts.length:=by
  apply List.ext_getElem?;intro j;by_cases hj:j<ts.length
  ·rw[List.getElem?_take_of_lt hj,List.getElem?_take_of_lt hj,List.getElem?_drop,List.getElem?_drop];have h1:off+j<cs.length:=by omega
   have hm:cs[off+j]∈(cs.drop off).take ts.length:=List.mem_of_getElem (i:=j) (h:=by simp;omega) (by simp);rw[List.getElem?_eq_getElem h1,g (off+j) cs[off+j] (List.getElem?_eq_getElem h1) (hl.len.2.2 _ hm)]
  ·rw[List.getElem?_eq_none (by simp;omega),List.getElem?_eq_none (by simp;omega)]
 rw[this];exact hl
theorem Zj0 [Glb] {rows:Rows} {loc:Loc} {w:World} {S:Fp} {L:Nat→Prop} (H:Heap rows loc w S L) {t:Ty} {tv:TV} {x:t.D} {us:Us} {ls:List Nat} {v:Value}
  (h:Qp rows t tv=some (x,us,ls)) (hv:ZK loc tv v):
  ∃S1,J8 rows (Zj rows us) loc w S L S1∧(t.noP=true→VU S1)∧(∀np rowsF,KT (Zj rows us) rowsF→JA np rowsF ls=true→KU w t x v S1 (Zhz np L loc rowsF))∧ZpZ (Zj rows us) loc w t tv v:=by
 cases t with
 |v t=>
  cases tv with
  |tup l=>simp[Qp]at h
  |c c=>
   cases c with
   |agg l=>simp[Qp]at h
   |s sv=>
    have hs:ZD loc sv v:=by
     cases sv<;>first|exact hv|skip
     exfalso;cases t<;>simp[Qp,QQ,Qv]at h
    obtain ⟨S1,T,bk,k⟩:=ZcG H h hs;exact ⟨S1,T,fun _=>bk,k,trivial⟩
 |a ts=>
  cases tv with
  |tup l=>simp[Qp]at h
  |c c=>
   cases c with
   |s l=>simp[Qp]at h
   |agg l=>
    obtain ⟨cs,rfl,hr⟩:=hv;obtain ⟨S1,T,bk,k⟩:=ZdV H h hr;exact ⟨S1,T,fun _=>bk,fun np rowsF h1 h2=>⟨cs,rfl,k np rowsF h1 h2⟩,trivial⟩
 |r ts=>
  cases tv with
  |tup l=>simp[Qp]at h
  |c c=>
   cases c with
   |agg l=>simp[Qp]at h
   |s sv=>
    cases sv with
    |ptr id off=>
     simp only[Qp]at h;split at h
     ·rename_i cs hr;cases hb:rOk ts&&Nat.ble (off+ts.length) cs.length with
      |false=>rw[hb]at h;cases h
      |true=>
       rw[hb,Zb]at h;simp only[Bool.and_eq_true]at hb;have hle:off+ts.length≤cs.length:=Nat.le_of_ble_eq_true hb.2;have hts:0<ts.length:=by have:=hb.1;cases ts<;>first| (simp[rOk]at this;done)|simp
       split at h
       ·rename_i x' us' ls' ht;simp only[Zg,Zz]at h;obtain ⟨rfl,rfl,rfl⟩:=h;have hlen:=Zey ht;have hprop:=ZbS ht;obtain ⟨b,o,el,hcells,hlt⟩: ∃b o,loc id=some (.box b o cs.length)∧(∀j,(h:j<cs.length)→Xy w loc b (o+j) cs[j])∧(rows id=some (.box cs)∨L b):=by
         unfold K0 at hr;split at hr
         ·rename_i e;simp only[Zg]at hr;subst hr;obtain ⟨b,o,el,_,k⟩:=H.ok id _ e;exact ⟨b,o,el,k, .inl e⟩
         ·rename_i e;simp only[Zg]at hr;subst hr;obtain ⟨b,o,el,k⟩:=H.ok id _ e;exact ⟨b,o,el,k, .inr (H.inL id _ e b ⟨o,_,el⟩)⟩
         ·cases hr
        obtain ⟨b',o',n',el',rfl⟩:=hv;rw[el]at el';simp only[Zg,Pl.box.injEq]at el';obtain ⟨rfl,rfl,rfl⟩:=el';have hget: ∀j,(hj:j<ts.length)→((cs.drop off).take ts.length)[j]'(by omega)=cs[off+j]'(by omega):=fun j hj=>by simp
        obtain ⟨vs,g1,g2,g3,_⟩:=Zcp (w:=w) (loc:=loc) (b:=b) (cells:=(cs.drop off).take ts.length) (o:=o+off) (fun j hj=>by
         rw[hget j (by omega),Nat.add_assoc];exact hcells (off+j) (by omega)) hprop
        obtain ⟨S1,T,bk,k⟩:=ZdV H ht g3;refine ⟨S1,T,fun _=>bk,fun np rowsF hsub hal=>⟨b,o+off,vs,rfl,by omega,g2,k np rowsF hsub ?_,?_⟩,trivial⟩
        ·simp only[JA]at hal;split at hal
         ·exact hal
         ·exact hal
         ·simp only[Bool.and_eq_true]at hal;exact hal.2.2
         ·cases hal
        ·rcases hlt with hbox|hL
         ·obtain ⟨csT,hT,_⟩:=T.boxes id cs hbox;rcases Zbf hal id (List.mem_cons_self)with ⟨oF,eF,lF,hF⟩| ⟨c',hF⟩| ⟨c',hF,hnp,hw⟩
          ·have hF2:=hsub id _ hF;rw[hT]at hF2;cases hF2
          ·have hF2:=hsub id _ hF;rw[hT]at hF2;cases hF2
          ·obtain ⟨c,r,rfl,hc⟩:=ZoU hw;exact .inr (.inr ⟨hnp,id,_,hF,o,o,_,el,0,by simp,rfl,hc⟩)
         ·exact .inl hL
       ·cases h
     ·cases h
    |_=>simp[Qp]at h
 |p ts=>
  cases tv with
  |tup l=>simp[Qp]at h
  |c c=>
   cases c with
   |agg l=>simp[Qp]at h
   |s sv=>
    cases sv with
    |ptr id off=>
     simp only[Qp]at h;split at h
     ·rename_i cs hr;cases hb:Nat.ble (off+ts.length) cs.length with
      |false=>rw[hb]at h;cases h
      |true=>
       rw[hb,Zb]at h;have hle:off+ts.length≤cs.length:=Nat.le_of_ble_eq_true hb;split at h
       ·rename_i q hq;split at h
        ·rename_i x' us' ls' ht;simp only[Zg,Zz]at h;obtain ⟨rfl,rfl,rfl⟩:=h;have hlen:=Zey ht;have hprop:=ZbS ht;obtain ⟨hq1,hq2⟩:=Zjm hq;have hql:q.length=ts.length:=hq1.trans hlen;have hle':off+q.length≤cs.length:=by omega
         obtain ⟨b,o,el,hob,hcells⟩:=H.ok id _ hr;obtain ⟨b',o',n',el',rfl⟩:=hv;rw[el]at el';simp only[Zg,Pl.box.injEq]at el';obtain ⟨rfl,rfl,rfl⟩:=el';have hsl:=Zes hle';have hget: ∀j,(hj:j<ts.length)→((cs.drop off).take ts.length)[j]'(by omega)=cs[off+j]'(by omega):=fun j hj=>by simp
         obtain ⟨vs,g1,g2,g3,_⟩:=Zcp (w:=w) (loc:=loc) (b:=b) (cells:=(cs.drop off).take ts.length) (o:=o+off) (fun j hj=>by
          rw[hget j (by omega),Nat.add_assoc];exact hcells (off+j) (by omega)) hprop
         have hbox:YO w loc id (.box (Qu cs off q)):=by
          refine ⟨b,o,by rw[hsl];exact el,by rw[hsl];exact hob,fun j hj=> ?_⟩;rw[hsl]at hj;have hj':=hj;by_cases hin:off≤j∧j<off+q.length
          ·have hg:=Zcd hle' hin.1 hin.2;have:(Qu cs off q)[j]'(by omega)=q[j-off]'(by omega):=by
            have:=List.getElem?_eq_getElem (l:=Qu cs off q) (i:=j) (by omega);rw[this]at hg;exact Option.some.inj hg
           rw[this];have hnl:=hq2 _ (List.getElem_mem (l:=q) (n:=j-off) (by omega));generalize q[j-off]'(by omega)=y at hnl⊢;cases y<;>first|trivial|exact absurd trivial hnl
          ·have hg:=UW (vs:=q) hle' (j:=j) (by omega);have:(Qu cs off q)[j]'(by omega)=cs[j]'hj:=by
            rw[List.getElem?_eq_getElem (l:=Qu cs off q) (i:=j) (by omega),List.getElem?_eq_getElem hj]at hg;exact Option.some.inj hg
           rw[this];exact hcells j hj
         have hnot: ∀b' o',own loc id (.box (Qu cs off q)) b' o'→own loc id (.box cs) b' o'∧ ¬rng b (o+off) ts.length b' o':=by
          intro b' o' ⟨o0,n0,e0,j,hj,ho',hnl⟩;rw[el]at e0;simp only[Zg,Pl.box.injEq]at e0;obtain ⟨rfl,rfl,rfl⟩:=e0;rw[hsl]at hj;by_cases hin:off≤j∧j<off+q.length
          ·exfalso;have hg:=Zcd hle' hin.1 hin.2;rw[List.getElem?_eq_getElem (l:=Qu cs off q) (i:=j) (by omega)]at hg;rw[Option.some.inj hg]at hnl;exact hq2 _ (List.getElem_mem _) hnl
          ·have hg:=UW (vs:=q) hle' (j:=j) (by omega);rw[List.getElem?_eq_getElem (l:=Qu cs off q) (i:=j) (by omega),List.getElem?_eq_getElem hj]at hg;rw[Option.some.inj hg]at hnl;exact ⟨⟨o,_,el,j,hj,ho',hnl⟩,fun hr=>by unfold rng at hr;omega⟩
         have T0:J8 rows (QD rows id (.box (Qu cs off q))) loc w S L (rng b (o+off) ts.length):=by
          refine ⟨H.set hr hbox (fun b' o' h=>(hnot b' o' h).1) (fun _ h=>h.elim),?_,?_,?_,?_,?_,?_⟩
          ·rintro b' o' ⟨rfl,h1,h2⟩;refine ⟨id,_,hr,o,_,el,o'-o,by omega,by omega,?_⟩;have:=hprop (cs[o'-o]'(by omega)) (List.mem_of_getElem (i:=o'-o-off) (h:=by omega) (by rw[hget _ (by omega)];congr 1;omega));exact this
          ·rintro b' o' ⟨i,y,ey,hy⟩;by_cases hi:i=id
           ·subst hi;rw[QT]at ey;cases ey;exact ⟨⟨i,_,hr,(hnot b' o' hy).1⟩,(hnot b' o' hy).2⟩
           ·rw[QA rows _ hi]at ey;refine ⟨⟨i,y,ey,hy⟩,?_⟩;rintro ⟨rfl,h1,h2⟩;refine H.sep i id y _ hi ey hr b' o' hy ⟨o,_,el,o'-o,by omega,by omega,?_⟩;exact hprop (cs[o'-o]'(by omega)) (List.mem_of_getElem (i:=o'-o-off) (h:=by omega) (by rw[hget _ (by omega)];congr 1;omega))
          ·intro j y1 h1;by_cases hj:j=id
           ·subst hj;rw[QT]at h1;cases h1;exact ⟨_,hr⟩
           ·rw[QA rows _ hj]at h1;exact .refl h1
          ·intro j h1;by_cases hj:j=id
           ·subst hj;rw[QT];simp
           ·rw[QA rows _ hj];exact h1
          ·intro j h1;by_cases hj:j=id
           ·subst hj;rw[h1]at hr;cases hr
           ·rw[QA rows _ hj];exact h1
          ·intro j cs1 h1;by_cases hj:j=id
           ·subst hj;rw[hr]at h1;simp only[Zg,Row.box.injEq]at h1;subst h1;refine ⟨_,QT _ _ _,hsl,fun i c hc hn=> ?_⟩;by_cases hin:off≤i∧i<off+q.length
            ·exfalso;have hi:i<cs.length:=by omega
             rw[List.getElem?_eq_getElem hi]at hc;obtain rfl:=Option.some.inj hc;exact hn (hprop _ (List.mem_of_getElem (i:=i-off) (h:=by omega) (by rw[hget _ (by omega)];congr 1;omega)))
            ·rw[UW (vs:=q) hle' (by omega)];exact hc
           ·rw[QA rows _ hj];exact ⟨cs1,h1,rfl,fun _ _ h _=>h⟩
         obtain ⟨S1,T1,_,k1⟩:=ZdV T0.heap ht g3;obtain ⟨T,hd⟩:=T0.trans T1;refine ⟨_,T,(fun h=>by cases h),fun np rowsF hsub hal=>⟨b,o+off,vs,S1,rfl,?_,by omega,g2,k1 np rowsF hsub hal,fun _ _ h=> .inr h,fun _ _ h=> .inl h,fun b' o' h1 h2=>hd b' o' h2 h1⟩,id,off,rfl,?_⟩
         ·obtain ⟨c,ty,e1,e2⟩:=hob;exact ⟨c,ty,e1,by omega⟩
         ·refine Y0.keep (rows:=QD rows id (.box (Qu cs off q))) ⟨b,o,_,vs,QT _ _ _,by rw[hsl];exact el,rfl,by omega,?_,g2⟩ T1.boxes;have:((Qu cs off q).drop off).take ts.length=q:=by
           apply List.ext_getElem?;intro j;by_cases hj:j<ts.length
           ·rw[List.getElem?_take_of_lt hj,List.getElem?_drop,Zcd hle' (by omega) (by omega),List.getElem?_eq_getElem (by omega)];congr 2;omega
           ·rw[List.getElem?_eq_none (by simp;omega),List.getElem?_eq_none (by omega)]
          rw[this];exact ZbD hq g3
        ·cases h
       ·cases h
     ·cases h
    |_=>simp[Qp]at h
theorem UY [Glb] {loc:Loc} {w:World} {S:Fp} {L:Nat→Prop}: ∀{ts:List Ty} {tvs:List TV} {rows:Rows} {x:PTup ts} {us:Us} {ls:List Nat} {vs:List Value} (_:Heap rows loc w S L)
  (_:QO rows ts tvs=some (x,us,ls)) (_:Jp loc tvs vs),
  ∃S1,J8 rows (Zj rows us) loc w S L S1∧(Xs ts=true→VU S1)∧(∀np rowsF,KT (Zj rows us) rowsF→JA np rowsF ls=true→ZG w ts x vs S1 (Zhz np L loc rowsF))∧Je (Zj rows us) loc w ts tvs vs
 | [],[],rows,x,us,ls,vs,H,h,hv=>by
  simp only[QO,Zg,Zz]at h;obtain ⟨_,rfl,rfl⟩:=h;cases vs with
  |nil=>exact ⟨ZC, .refl H,fun _=>Vz,fun _ _ _ _=>trivial,trivial⟩
  |cons _ _=>exact hv.elim
 | [],_::_,_,_,_,_,_,_,h,_=>by simp[QO]at h
 |_::_,[],_,_,_,_,_,_,h,_=>by simp[QO]at h
 |t::ts,tv::tvs,rows,x,us,ls,vs,H,h,hv=>by
  simp only[QO]at h;split at h
  ·rename_i x1 us1 ls1 h1;split at h
   ·rename_i x2 us2 ls2 h2;simp only[Zg,Zz]at h;obtain ⟨rfl,rfl,rfl⟩:=h;cases vs with
    |nil=>exact hv.elim
    |cons v vs=>
     obtain ⟨S1,T1,b1,k1,m1⟩:=Zj0 H h1 hv.1;obtain ⟨S2,T2,b2,k2,m2⟩:=UY T1.heap h2 hv.2;obtain ⟨T,hd⟩:=T1.trans T2;refine ⟨Z7 S1 S2,by rw[Qd];exact T,fun hn=>by simp only[Xs,Bool.and_eq_true]at hn;exact ZlB (b1 hn.1) (b2 hn.2),fun np rowsF hsub hal=> ?_,?_,by rw[Qd];exact m2⟩
     ·rw[Qd]at hsub;obtain ⟨ha1,ha2⟩:=Zag hal;exact ⟨S1,S2,k1 np rowsF (T2.sub.trans hsub) ha1,k2 np rowsF hsub ha2,hd,fun _ _ h=> .inl h,fun _ _ h=> .inr h⟩
     ·rw[Qd];cases t with
      |p ts=>obtain ⟨id,off,e,m⟩:=m1;exact ⟨id,off,e,m.keep T2.boxes⟩
      |_=>trivial
   ·cases h
  ·cases h
theorem Zbs [Glb] {rows:Rows} {loc:Loc} {w:World} {S:Fp} {L:Nat→Prop} (H:Heap rows loc w S L) {ts:List Ty} {tvs:List TV} {x:PTup ts} {us:Us} {vs:List Value}
  (h:Xc rows ts tvs=some (x,us)) (hv:Jp loc tvs vs):
  ∃S1 L1,J8 rows (Zj rows us) loc w S L S1∧ZG w ts x vs S1 L1∧(∀b o,S1 b o→ ¬L1 b)∧(∀b o,S1 b o→b<w.heap.size)∧(∀b,L1 b→b<w.heap.size)∧Je (Zj rows us) loc w ts tvs vs∧(∀b,L b→L1 b):=by
 unfold Xc at h;cases hm:Ki ts with
 |false=>rw[hm]at h;cases h
 |true=>
 rw[hm,Zb]at h;split at h
 ·rename_i x' us' ls ht;cases ha:JA (Xs ts) (Zj rows us') ls with
  |false=>rw[ha]at h;cases h
  |true=>
   rw[ha]at h;simp only[Zb,Zg,Zz]at h;obtain ⟨rfl,rfl⟩:=h;obtain ⟨S1,T,bk,k,m⟩:=UY H ht hv;refine ⟨S1,Zhz (Xs ts) L loc (Zj rows us'),T,k _ _ (.refl _) ha,?_,?_,?_,m,fun b h=> .inl h⟩
   ·rintro b o hs (hl| ⟨id,e,l,hr,ho⟩| ⟨hnp,id,cs,hr,o',ho⟩)
    ·obtain ⟨i,y,ey,hy⟩:=T.from_ b o hs;exact H.dis b o (H.inS i y ey b o hy) hl
    ·exact (T.apart b o ⟨id,_,hr,ho⟩).2 hs
    ·exact (T.apart b o' ⟨id,_,hr,ho⟩).2 (bk hnp b o o' hs)
   ·intro b o hs;obtain ⟨i,y,ey,hy⟩:=T.from_ b o hs;exact H.ltS b o (H.inS i y ey b o hy)
   ·rintro b (hl| ⟨id,e,l,hr,ho⟩| ⟨_,id,cs,hr,o',ho⟩)
    ·exact H.ltL b hl
    ·exact T.heap.ltS b 0 (T.heap.inS id _ hr b 0 ho)
    ·exact T.heap.ltS b o' (T.heap.inS id _ hr b o' ho)
 ·cases h
theorem KU.mono [Glb] {w:World} {t:Ty} {x:t.D} {v:Value} {S S':Fp} {L L':Nat→Prop} (h:KU w t x v S L) (hs:Sub2 S S') (hl: ∀b,L b→L' b):KU w t x v S' L':=by
 cases t with
 |v t=>exact Z1.mono h hs hl
 |a ts=>obtain ⟨cs,e,r⟩:=h;exact ⟨cs,e,r.mono hs hl⟩
 |p ts=>obtain ⟨b,o,cs,S1,e,q1,q2,q3,r,s1,s2,d⟩:=h;exact ⟨b,o,cs,S1,e,q1,q2,q3,r.mono (fun _ _ h=>h) hl,fun b o h=>hs b o (s1 b o h),fun b o h=>hs b o (s2 b o h),d⟩
 |r ts=>obtain ⟨b,o,cs,e,q1,q2,r,lb⟩:=h;exact ⟨b,o,cs,e,q1,q2,r.mono hs hl,hl b lb⟩
theorem ZG.mono [Glb] {w:World} {S S':Fp} {L L':Nat→Prop} (hs:Sub2 S S') (hl: ∀b,L b→L' b): ∀{ts:List Ty} {x:PTup ts} {vs:List Value},ZG w ts x vs S L→ZG w ts x vs S' L'
 | [],_,[],_=>trivial
 | [],_,_::_,h=>h.elim
 |_::_,_,[],h=>h.elim
 |_::_,_,_::_,⟨S1,S2,h1,h2,h3,h4,h5⟩=>⟨S1,S2,h1.mono (fun _ _ h=>h) hl,ZG.mono (fun _ _ h=>h) hl h2,h3,fun b o h=>hs b o (h4 b o h),fun b o h=>hs b o (h5 b o h)⟩
theorem ZG.len {w:World} {L:Nat→Prop}: ∀{ts:List Ty} {x:PTup ts} {vs:List Value} {S:Fp},ZG w ts x vs S L→vs.length=ts.length
 | [],_,[],_,_=>rfl
 | [],_,_::_,_,h=>h.elim
 |_::_,_,[],_,h=>h.elim
 |_::_,_,_::_,_,⟨_,_,_,h,_⟩=>by simp[ZG.len h]
theorem Zh0 {rows:Rows}: ∀{ls:List Nat},Xg rows ls=true→JA false (fun id=>match rows id with|some (.row false e l)=>some (.row false e l)|some (.rbox cs)=>some (.rbox cs)|_=>none) ls=true
 | [],_=>rfl
 |id::r,h=>by
  simp only[Xg]at h;simp only[JA];split at h
  ·rename_i e;rw[e];exact Zh0 h
  ·rename_i e;rw[e];exact Zh0 h
  ·cases h
theorem ZgH [Glb] {rows:Rows} {loc:Loc} {w:World} {S:Fp} {L:Nat→Prop} (H:Heap rows loc w S L) {ts:List Ty} {tvs:List TV} {x:PTup ts} {us:Us} {ls:List Nat} {vs:List Value}
  (ht:QO rows ts tvs=some (x,us,ls)) (ha:Xg (Zj rows us) ls=true) (hv:Jp loc tvs vs): ∃S1,J8 rows (Zj rows us) loc w S L S1∧ZG w ts x vs S1 L:=by
 obtain ⟨S1,T,bk,k,m⟩:=UY H ht hv;have hL: ∀b,Zhz false L loc (fun id=>match Zj rows us id with|some (.row false e l)=>some (.row false e l)|some (.rbox cs)=>some (.rbox cs)|_=>none) b→L b:=by
  rintro b (h| ⟨id,e,l,hr,_⟩| ⟨h,_⟩)
  ·exact h
  ·exfalso;simp only at hr;split at hr<;>cases hr
  ·cases h
 refine ⟨S1,T,ZG.mono (fun _ _ h=>h) hL (k false _ (fun id y hy=> ?_) (Zh0 ha))⟩;split at hy
 ·rename_i e;cases hy;exact e
 ·rename_i e;cases hy;exact e
 ·cases hy
theorem ZkV [Glb] {rows:Rows} {loc:Loc} {w:World} {S:Fp} {L:Nat→Prop} (H:Heap rows loc w S L) {ts:List Ty} {tvs:List TV} {x:PTup ts} {us:Us} {vs:List Value}
  (h:Ws rows ts tvs=some (x,us)) (hv:Jp loc tvs vs):
  ∃S1,J8 rows (Zj rows us) loc w S L S1∧ZG w ts x vs S1 L∧(∀b o,S1 b o→ ¬L b)∧(∀b o,S1 b o→b<w.heap.size):=by
 unfold Ws at h;cases hm:Ki ts with
 |false=>rw[hm]at h;cases h
 |true=>
 rw[hm,Zb]at h;split at h
 ·rename_i x' us' ls ht;cases ha:Xg (Zj rows us') ls with
  |false=>rw[ha]at h;cases h
  |true=>
   rw[ha]at h;simp only[Zb,Zg,Zz]at h;obtain ⟨rfl,rfl⟩:=h;obtain ⟨S1,T,k⟩:=ZgH H ht ha hv;refine ⟨S1,T,k,fun b o hs hl=> ?_,fun b o hs=> ?_⟩
   ·obtain ⟨i,y,ey,hy⟩:=T.from_ b o hs;exact H.dis b o (H.inS i y ey b o hy) hl
   ·obtain ⟨i,y,ey,hy⟩:=T.from_ b o hs;exact H.ltS b o (H.inS i y ey b o hy)
 ·cases h
structure Xf [Glb] (rows rows':Rows) (loc loc':Loc) (w:World) (S:Fp) (L:Nat→Prop) (S1:Fp):Prop where
 heap:Heap rows' loc' w S L
 ext:Ext loc loc'
 owned: ∀b o,Qa rows' loc' b o→Qa rows loc b o∨S1 b o
theorem Xf.refl [Glb] {rows:Rows} {loc:Loc} {w:World} {S:Fp} {L:Nat→Prop} (H:Heap rows loc w S L) (S1:Fp):Xf rows rows loc loc w S L S1:=
 ⟨H, .refl _,fun _ _ h=> .inl h⟩
theorem Xf.trans [Glb] {r0 r1 r2:Rows} {l0 l1 l2:Loc} {w:World} {S S1 S2 S3:Fp} {L:Nat→Prop} (h:Xf r0 r1 l0 l1 w S L S1) (k:Xf r1 r2 l1 l2 w S L S2)
  (h1:Sub2 S1 S3) (h2:Sub2 S2 S3):Xf r0 r2 l0 l2 w S L S3:=
 ⟨k.heap,h.ext.trans k.ext,fun b o hb=>(k.owned b o hb).elim (fun hb=>(h.owned b o hb).imp_right (h1 b o)) (fun hb=> .inr (h2 b o hb))⟩
theorem Ziu [Glb] {rows:Rows} {loc:Loc} {w:World} {S S1:Fp} {L L1:Nat→Prop} (H:Heap rows loc w S L) {t:LT} {x:t.D} {v:Value} {id:Nat} (hid:rows id=none)
  (hr:Z1 w t x v S1 L1) (hS:Sub2 S1 S) (hL: ∀b,L1 b→L b) (hd:Dis (Qa rows loc) S1):
  ∃loc',Xf rows (Zj rows (JO t x id).2) loc loc' w S L S1∧ZD loc' (JO t x id).1 v∧(∀j,j≠id→Zj rows (JO t x id).2 j=rows j)∧
   okS (JO t x id).1=true∧v.oneCell'=true:=by
 cases t with
 |int k=>obtain rfl:=hr;exact ⟨loc, .refl H _,rfl,fun _ _=>rfl,rfl,rfl⟩
 |bool=>obtain rfl:=hr;exact ⟨loc, .refl H _,rfl,fun _ _=>rfl,rfl,rfl⟩
 |str=>obtain rfl:=hr;exact ⟨loc, .refl H _,rfl,fun _ _=>rfl,rfl,rfl⟩
 |fn f=>obtain rfl:=hr;exact ⟨loc, .refl H _,rfl,fun _ _=>rfl,rfl,rfl⟩
 |mb e=>
  match x,hr with
  |none,hr=>exact ⟨loc, .refl H _,hr,fun _ _=>rfl,rfl,hr⟩
  |some x,hr=>
   obtain ⟨a,cap,ips,rfl,hat,hb⟩:=hr;have hown: ∀b o,own (Jk loc id (.row a cap (List.length (α:=e.C) x) e ips)) id (.row true e x) b o→S1 b o:=by
    rintro b o ⟨a',cap',len',e',ips',el,hp⟩;rw[Yi]at el;simp only[Zg,Pl.row.injEq]at el;obtain ⟨rfl,rfl,rfl,rfl,rfl⟩:=el;exact hb b hp o
   refine ⟨Jk loc id (.row a cap (List.length (α:=e.C) x) e ips),⟨H.new hid _ _ ⟨a,cap,ips,Yi _ _ _,hat⟩ (fun j y ey b o h1 h2=>hd b o ⟨j,y,ey,h1⟩ (hown b o h2)) (fun _ _ h=>h)
    (fun b o h=>hS b o (hown b o h)) (fun _ h=>h.elim) H.dis H.ltS,VT _ (H.none id hid),?_⟩,⟨a,cap,_,e,ips,Yi _ _ _,rfl⟩,fun j hj=>QA rows _ hj,rfl,rfl⟩
   rintro b o ⟨i,y,ey,hy⟩;by_cases hi:i=id
   ·subst hi;simp only[JO,Zj]at ey;rw[QT]at ey;cases ey;exact .inr (hown b o hy)
   ·simp only[JO,Zj]at ey;rw[QA rows _ hi]at ey;rw[VB (YX loc _ hi)]at hy;exact .inl ⟨i,y,ey,hy⟩
 |sl ow e=>
  cases ow with
  |true=>
   obtain ⟨a,cap,ips,rfl,hat,hb⟩:=hr;have hown: ∀b o,own (Jk loc id (.row a cap (List.length (α:=e.C) x) e ips)) id (.row true e x) b o→S1 b o:=by
    rintro b o ⟨a',cap',len',e',ips',el,hp⟩;rw[Yi]at el;simp only[Zg,Pl.row.injEq]at el;obtain ⟨rfl,rfl,rfl,rfl,rfl⟩:=el;exact hb b hp o
   refine ⟨Jk loc id (.row a cap (List.length (α:=e.C) x) e ips),⟨H.new hid _ _ ⟨a,cap,ips,Yi _ _ _,hat⟩ (fun j y ey b o h1 h2=>hd b o ⟨j,y,ey,h1⟩ (hown b o h2)) (fun _ _ h=>h)
    (fun b o h=>hS b o (hown b o h)) (fun _ h=>h.elim) H.dis H.ltS,VT _ (H.none id hid),?_⟩,⟨a,cap,_,e,ips,Yi _ _ _,rfl⟩,fun j hj=>QA rows _ hj,rfl,rfl⟩
   rintro b o ⟨i,y,ey,hy⟩;by_cases hi:i=id
   ·subst hi;simp only[JO,Zj]at ey;rw[QT]at ey;cases ey;exact .inr (hown b o hy)
   ·simp only[JO,Zj]at ey;rw[QA rows _ hi]at ey;rw[VB (YX loc _ hi)]at hy;exact .inl ⟨i,y,ey,hy⟩
  |false=>
   obtain ⟨a,cap,ips,rfl,hat,hb⟩:=hr;refine ⟨Jk loc id (.row a cap (List.length (α:=e.C) x) e ips),⟨H.new hid _ _ ⟨a,cap,ips,Yi _ _ _,hat⟩ (fun j y ey b o h1 h2=>h2.elim) (fun _ _ h=>h)
    (fun b o h=>h.elim) ?_ H.dis H.ltS,VT _ (H.none id hid),?_⟩,⟨a,cap,_,e,ips,Yi _ _ _,rfl⟩,fun j hj=>QA rows _ hj,rfl,rfl⟩
   ·rintro b ⟨a',cap',len',e',ips',el,hp⟩;rw[Yi]at el;simp only[Zg,Pl.row.injEq]at el;obtain ⟨rfl,rfl,rfl,rfl,rfl⟩:=el;exact hL b (hb b hp)
   ·rintro b o ⟨i,y,ey,hy⟩;by_cases hi:i=id
    ·subst hi;simp only[JO,Zj]at ey;rw[QT]at ey;cases ey;exact hy.elim
    ·simp only[JO,Zj]at ey;rw[QA rows _ hi]at ey;rw[VB (YX loc _ hi)]at hy;exact .inl ⟨i,y,ey,hy⟩
theorem Xf.dis [Glb] {rows rows':Rows} {loc loc':Loc} {w:World} {S S1 S2:Fp} {L:Nat→Prop} (h:Xf rows rows' loc loc' w S L S1) (hd:Dis (Qa rows loc) S2) (h12:Dis S1 S2):Dis (Qa rows' loc') S2:=
 fun b o hb=>(h.owned b o hb).elim (hd b o) (h12 b o)
def Vp:List SV→Prop| []=>True|x::r=>okS x=true∧Vp r
theorem ZcD [Glb] {w:World} {S:Fp} {L:Nat→Prop}: ∀{ts:List LT} {rows:Rows} {loc:Loc} {S1:Fp} {L1:Nat→Prop} {x:Tup ts} {vs:List Value} {id:Nat} (_:Heap rows loc w S L)
  (_: ∀k,id≤k→k<id+ts.length→rows k=none) (_:Z9 w ts x vs S1 L1) (_:Sub2 S1 S) (_: ∀b,L1 b→L b) (_:Dis (Qa rows loc) S1),
  ∃loc',Xf rows (Zj rows (QC ts x id).2) loc loc' w S L S1∧Z3 loc' (QC ts x id).1 vs∧(∀j,j<id∨id+ts.length≤j→Zj rows (QC ts x id).2 j=rows j)∧
   Vp (QC ts x id).1∧J9 vs∧(QC ts x id).1.length=ts.length∧vs.length=ts.length
 | [],rows,loc,S1,L1,x,[],id,H,_,_,_,_,_=>⟨loc, .refl H _,trivial,fun _ _=>rfl,trivial,trivial,rfl,rfl⟩
 | [],_,_,_,_,_,_::_,_,_,_,h,_,_,_=>h.elim
 |_::_,_,_,_,_,_,[],_,_,_,h,_,_,_=>h.elim
 |t::ts,rows,loc,S1,L1,x,v::vs,id,H,hf,hr,hS,hL,hd=>by
  obtain ⟨Sa,Sb,r1,r2,dab,sa,sb⟩:=hr;obtain ⟨l1,P1,k1,o1,ok1,one1⟩:=Ziu H (hf id (Nat.le_refl _) (by simp)) r1 (fun b o h=>hS b o (sa b o h)) hL (fun b o h h'=>hd b o h (sa b o h'));obtain ⟨l2,P2,k2,o2,ok2,one2,len2,vl2⟩:=ZcD (id:=id+1) P1.heap (fun k h1 h2=>by rw[o1 k (by omega)];exact hf k (by omega) (by simp;omega)) r2 (fun b o h=>hS b o (sb b o h)) hL
   (P1.dis (fun b o h h'=>hd b o h (sb b o h')) dab)
  refine ⟨l2,?_,⟨k1.ext P2.ext,k2⟩,?_,⟨ok1,ok2⟩,⟨one1,one2⟩,by simp[QC,len2],by simp[vl2]⟩
  ·simp only[QC,Qd];exact P1.trans P2 sa sb
  ·intro j hj;simp only[QC,Qd];rw[o2 j (by simp at hj;omega),o1 j (by simp at hj;omega)]
theorem Zb1 {w:World} {loc:Loc} {b o:Nat} {x:SV} {v:Value} (hx:okS x=true) (e:w.cell? (adr (b,o))=some v) (r:ZD loc x v) (one:v.oneCell'=true):Xy w loc b o x:=by
 cases x<;>first
  |trivial
  |exact ⟨hx,v,e,r,one⟩
theorem Z3.get {loc:Loc}: ∀{xs:List SV} {vs:List Value} (_:Z3 loc xs vs) (j:Nat) (h:j<xs.length),∃h':j<vs.length,ZD loc xs[j] vs[j]
 |_::_,_::_,r,0,_=>⟨by simp,r.1⟩
 |_::_,_::_,r,j+1,h=>by
  obtain ⟨h',k⟩:=r.2.get j (by simpa using h);exact ⟨by simpa using h',by simpa using k⟩
 | [],[],_,_,h=>by simp at h
 | [],_::_,r,_,_=>r.elim
 |_::_,[],r,_,_=>r.elim
theorem Vp.get: ∀{xs:List SV} (_:Vp xs) (j:Nat) (h:j<xs.length),okS xs[j]=true
 |_::_,r,0,_=>r.1
 |_::_,r,j+1,h=>by simpa using r.2.get j (by simpa using h)
theorem J9.get: ∀{xs:List Value} (_:J9 xs) (j:Nat) (h:j<xs.length),xs[j].oneCell'=true
 |_::_,r,0,_=>r.1
 |_::_,r,j+1,h=>by simpa using r.2.get j (by simpa using h)
theorem Zgb {x:SV} (h:okS x=true):XE x:=by cases x<;>first|trivial| (simp[okS]at h)
def YL:Ty→Prop| .v _=>True| .a ts=>ts.length≤63| .p ts=>ts.length≤63| .r ts=>ts.length≤63
theorem ZpC [Glb] {rows:Rows} {loc:Loc} {w:World} {S S1:Fp} {L L1:Nat→Prop} (H:Heap rows loc w S L) {t:Ty} {x:t.D} {v:Value} {id:Nat} (hf: ∀k,id≤k→k<id+64→rows k=none)
  (hr:KU w t x v S1 L1) (hS:Sub2 S1 S) (hL: ∀b,L1 b→L b) (hd:Dis (Qa rows loc) S1) (hlen:YL t):
  ∃loc',Xf rows (Zj rows (Yy t x id).2) loc loc' w S L S1∧ZK loc' (Yy t x id).1 v∧(∀j,j<id∨id+64≤j→Zj rows (Yy t x id).2 j=rows j)∧
   (∀ts,t= .p ts→ ∃b o,v= .pointer (some (adr (b,o)))∧loc' (id+63)=some (.box b o ts.length)):=by
 cases t with
 |v t=>
  obtain ⟨l1,P1,k1,o1,ok1,_⟩:=Ziu H (hf id (Nat.le_refl _) (by omega)) hr hS hL hd;refine ⟨l1,P1,?_,fun j hj=>o1 j (by omega),fun ts h=>by cases h⟩;show Ym l1 (.s _) v;generalize (JO t x id).1=y at k1⊢;cases y<;>first|trivial|exact k1
 |a ts=>
  obtain ⟨cs,rfl,r⟩:=hr;obtain ⟨l1,P1,k1,o1,_⟩:=ZcD (id:=id) H (fun k h1 h2=>hf k h1 (by simp only[YL]at hlen;omega)) r hS hL hd;exact ⟨l1,P1,⟨cs,rfl,k1⟩,fun j hj=>o1 j (by simp only[YL]at hlen;omega),fun ts h=>by cases h⟩
 |p ts=>
  obtain ⟨b,o,cs,Sa,rfl,hob,hcl,hcs,r,sa,sr,dar⟩:=hr;simp only[YL]at hlen;obtain ⟨l1,P1,k1,o1,ok1,one1,len1,_⟩:=ZcD (id:=id) H (fun k h1 h2=>hf k h1 (by omega)) r (fun b o h=>hS b o (sa b o h)) hL (fun b o h h'=>hd b o h (sa b o h'));have hfree:Zj rows (QC ts x id).2 (id+63)=none:=by rw[o1 _ (by omega)];exact hf _ (by omega) (by omega)
  have hown: ∀b' o',own (Jk l1 (id+63) (.box b o ts.length)) (id+63) (.box (QC ts x id).1) b' o'→rng b o ts.length b' o':=by
   rintro b' o' ⟨o0,n0,e0,j,hj,rfl,_⟩;rw[Yi]at e0;simp only[Zg,Pl.box.injEq]at e0;obtain ⟨rfl,rfl,rfl⟩:=e0;exact ⟨rfl,by omega,by omega⟩
  have hd2:Dis (Qa (Zj rows (QC ts x id).2) l1) (rng b o ts.length):=P1.dis (fun b o h h'=>hd b o h (sr b o h')) dar;have hnew:Heap (QD (Zj rows (QC ts x id).2) (id+63) (.box (QC ts x id).1)) (Jk l1 (id+63) (.box b o ts.length)) w S L:=by
   refine P1.heap.new hfree _ _ ⟨b,o,by rw[Yi,len1],by rw[len1];exact hob,fun j hj=> ?_⟩ (fun j y ey b o h1 h2=>hd2 b o ⟨j,y,ey,h1⟩ (hown b o h2)) (fun _ _ h=>h)
    (fun b o h=>hS b o (sr b o (hown b o h))) (fun _ h=>h.elim) P1.heap.dis P1.heap.ltS
   obtain ⟨h',rj⟩:=k1.get j hj;exact Zb1 (ok1.get j hj) (hcs j h') (rj.ext (VT _ (P1.heap.none _ hfree))) (one1.get j h')
  refine ⟨Jk l1 (id+63) (.box b o ts.length),⟨?_,P1.ext.trans (VT _ (P1.heap.none _ hfree)),?_⟩,⟨b,o,_,Yi _ _ _,by rw[Nat.add_zero]⟩,?_,?_⟩
  ·simp only[Yy,Qd,Zj];exact hnew
  ·rintro b' o' ⟨i,y,ey,hy⟩;simp only[Yy,Qd,Zj]at ey;by_cases hi:i=id+63
   ·subst hi;rw[QT]at ey;cases ey;exact .inr (sr b' o' (hown b' o' hy))
   ·rw[QA _ _ hi]at ey;rw[VB (YX l1 _ hi)]at hy;exact (P1.owned b' o' ⟨i,y,ey,hy⟩).imp_right (sa b' o')
  ·intro j hj;simp only[Yy,Qd,Zj];rw[QA _ _ (by omega),o1 j (by omega)]
  ·intro ts' h;cases h;exact ⟨b,o,rfl,Yi _ _ _⟩
 |r ts=>
  obtain ⟨b,o,cs,rfl,hcl,hcs,r,lb⟩:=hr;simp only[YL]at hlen;obtain ⟨l1,P1,k1,o1,ok1,one1,len1,_⟩:=ZcD (id:=id) H (fun k h1 h2=>hf k h1 (by omega)) r hS hL hd;have hfree:Zj rows (QC ts x id).2 (id+63)=none:=by rw[o1 _ (by omega)];exact hf _ (by omega) (by omega)
  have hnew:Heap (QD (Zj rows (QC ts x id).2) (id+63) (.rbox (QC ts x id).1)) (Jk l1 (id+63) (.box b o ts.length)) w S L:=by
   refine P1.heap.new hfree _ _ ⟨b,o,by rw[Yi,len1],fun j hj=> ?_⟩ (fun j y ey b o h1 h2=>h2.elim) (fun _ _ h=>h)
    (fun b o h=>h.elim) ?_ P1.heap.dis P1.heap.ltS
   ·obtain ⟨h',rj⟩:=k1.get j hj;exact Zb1 (ok1.get j hj) (hcs j h') (rj.ext (VT _ (P1.heap.none _ hfree))) (one1.get j h')
   ·rintro b' ⟨o',n',e'⟩;rw[Yi]at e';simp only[Zg,Pl.box.injEq]at e';obtain ⟨rfl,_,_⟩:=e';exact hL b lb
  refine ⟨Jk l1 (id+63) (.box b o ts.length),⟨?_,P1.ext.trans (VT _ (P1.heap.none _ hfree)),?_⟩,⟨b,o,_,Yi _ _ _,by rw[Nat.add_zero]⟩,?_,fun ts' h=>by cases h⟩
  ·simp only[Yy,Qd,Zj];exact hnew
  ·rintro b' o' ⟨i,y,ey,hy⟩;simp only[Yy,Qd,Zj]at ey;by_cases hi:i=id+63
   ·subst hi;rw[QT]at ey;cases ey;exact hy.elim
   ·rw[QA _ _ hi]at ey;rw[VB (YX l1 _ hi)]at hy;exact P1.owned b' o' ⟨i,y,ey,hy⟩
  ·intro j hj;simp only[Yy,Qd,Zj];rw[QA _ _ (by omega),o1 j (by omega)]
def Jd:List Ty→Prop| []=>True|t::ts=>YL t∧Jd ts
def Kt (loc:Loc):List Ty→List Value→Nat→Prop
 | [],[],_=>True
 | .p ts::r,v::vs,id=>(∃b o,v= .pointer (some (adr (b,o)))∧loc (id+63)=some (.box b o ts.length))∧Kt loc r vs (id+64)
 | .v _::r,_::vs,id=>Kt loc r vs (id+64)
 | .a _::r,_::vs,id=>Kt loc r vs (id+64)
 | .r _::r,_::vs,id=>Kt loc r vs (id+64)
 |_,_,_=>False
theorem Kt.ext {loc loc':Loc} (h:Ext loc loc'): ∀{ts:List Ty} {vs:List Value} {id:Nat},Kt loc ts vs id→Kt loc' ts vs id
 | [],[],_,_=>trivial
 | [],_::_,_,k=>k.elim
 |t::_,[],_,k=>by cases t<;>exact k.elim
 |t::r,v::vs,id,k=>by
  cases t with
  |p ts=>obtain ⟨⟨b,o,e,el⟩,k2⟩:=k;exact ⟨⟨b,o,e,h _ _ el⟩,k2.ext h⟩
  |v _=>exact Kt.ext (ts:=r) h k
  |a _=>exact Kt.ext (ts:=r) h k
  |r _=>exact Kt.ext (ts:=r) h k
theorem We [Glb] {w:World} {S:Fp} {L:Nat→Prop}: ∀{ts:List Ty} {rows:Rows} {loc:Loc} {S1:Fp} {L1:Nat→Prop} {x:PTup ts} {vs:List Value} {id:Nat} (_:Heap rows loc w S L)
  (_: ∀k,id≤k→k<id+64*ts.length→rows k=none) (_:ZG w ts x vs S1 L1) (_:Sub2 S1 S) (_: ∀b,L1 b→L b) (_:Dis (Qa rows loc) S1) (_:Jd ts),
  ∃loc',Xf rows (Zj rows (Qz ts x id).2) loc loc' w S L S1∧Jp loc' (Qz ts x id).1 vs∧(∀j,j<id∨id+64*ts.length≤j→Zj rows (Qz ts x id).2 j=rows j)∧
   Kt loc' ts vs id∧(Qz ts x id).1.length=ts.length∧vs.length=ts.length
 | [],rows,loc,S1,L1,x,[],id,H,_,_,_,_,_,_=>⟨loc, .refl H _,trivial,fun _ _=>rfl,trivial,rfl,rfl⟩
 | [],_,_,_,_,_,_::_,_,_,_,h,_,_,_,_=>h.elim
 |_::_,_,_,_,_,_,[],_,_,_,h,_,_,_,_=>h.elim
 |t::ts,rows,loc,S1,L1,x,v::vs,id,H,hf,hr,hS,hL,hd,ht=>by
  obtain ⟨Sa,Sb,r1,r2,dab,sa,sb⟩:=hr;obtain ⟨l1,P1,k1,o1,b1⟩:=ZpC (id:=id) H (fun k h1 h2=>hf k h1 (by simp;omega)) r1 (fun b o h=>hS b o (sa b o h)) hL (fun b o h h'=>hd b o h (sa b o h')) ht.1;obtain ⟨l2,P2,k2,o2,b2,len2,vl2⟩:=We (id:=id+64) P1.heap (fun k h1 h2=>by rw[o1 k (by omega)];exact hf k (by omega) (by simp;omega)) r2 (fun b o h=>hS b o (sb b o h)) hL
   (P1.dis (fun b o h h'=>hd b o h (sb b o h')) dab) ht.2
  refine ⟨l2,?_,⟨k1.ext P2.ext,k2⟩,?_,?_,by simp[Qz,len2],by simp[vl2]⟩
  ·simp only[Qz,Qd];exact P1.trans P2 sa sb
  ·intro j hj;simp only[Qz,Qd];rw[o2 j (by simp at hj;omega),o1 j (by simp at hj;omega)]
  ·cases t with
   |p ts'=>
    obtain ⟨b,o,e,el⟩:=b1 ts' rfl;exact ⟨⟨b,o,e,P2.ext _ _ el⟩,b2⟩
   |v _=>exact b2
   |a _=>exact b2
   |r _=>exact b2
def Qi (w:World):(ts:List LT)→Tup ts→List Value→List Value→Fp→Prop
 | [],_,[],[],_=>True
 | .sl false _::ts,x,o::os,v::vs,S=>v=o∧Qi w ts x.2 os vs S
 | .sl true e::ts,x,_::os,v::vs,S=> ∃S1 S2,Z1 w (.sl true e) x.1 v S1 (fun _=>False)∧Qi w ts x.2 os vs S2∧Dis S1 S2∧Sub2 S1 S∧Sub2 S2 S
 | .int k::ts,x,_::os,v::vs,S=>Z1 w (.int k) x.1 v S (fun _=>False)∧Qi w ts x.2 os vs S
 | .bool::ts,x,_::os,v::vs,S=>Z1 w .bool x.1 v S (fun _=>False)∧Qi w ts x.2 os vs S
 | .str::ts,x,_::os,v::vs,S=>Z1 w .str x.1 v S (fun _=>False)∧Qi w ts x.2 os vs S
 | .fn f::ts,x,_::os,v::vs,S=>Z1 w (.fn f) x.1 v S (fun _=>False)∧Qi w ts x.2 os vs S
 | .mb e::ts,x,_::os,v::vs,S=> ∃S1 S2,Z1 w (.mb e) x.1 v S1 (fun _=>False)∧Qi w ts x.2 os vs S2∧Dis S1 S2∧Sub2 S1 S∧Sub2 S2 S
 |_,_,_,_,_=>False
def Vi (w w':World) (ts:List LT) (x:Tup ts) (v:Value) (S:Fp):Prop:=
 ∃b o old new S1,v= .pointer (some (adr (b,o)))∧old.length=ts.length∧KR w b o old∧KR w' b o new∧Qi w' ts x old new S1∧
  Sub2 S1 S∧Sub2 (rng b o ts.length) S∧Dis S1 (rng b o ts.length)
def Z5 (w w':World):(ts:List Ty)→BTup ts→List Value→Fp→Prop
 | [],_,[],_=>True
 | .p ts::r,x,v::vs,S=> ∃S1 S2,Vi w w' ts x.1 v S1∧Z5 w w' r x.2 vs S2∧Dis S1 S2∧Sub2 S1 S∧Sub2 S2 S
 | .v _::r,x,_::vs,S=>Z5 w w' r x vs S
 | .a _::r,x,_::vs,S=>Z5 w w' r x vs S
 | .r _::r,x,_::vs,S=>Z5 w w' r x vs S
 |_,_,_,_=>False
theorem Zgj [Glb] {w:World} {S:Fp} {L:Nat→Prop}: ∀{ts:List LT} {rows:Rows} {loc:Loc} {S1:Fp} {x:Tup ts} {os:List SV} {old new:List Value} {id:Nat} (_:Heap rows loc w S L)
  (_: ∀k,id≤k→k<id+ts.length→rows k=none) (_:Qi w ts x old new S1) (_:Jt loc ts os old) (_:Sub2 S1 S) (_:Dis (Qa rows loc) S1),
  ∃loc',Xf rows (Zj rows (QX ts x os id).2) loc loc' w S L S1∧Z3 loc' (QX ts x os id).1 new∧(∀j,j<id∨id+ts.length≤j→Zj rows (QX ts x os id).2 j=rows j)∧
   Vp (QX ts x os id).1∧J9 new∧(QX ts x os id).1.length=ts.length∧new.length=ts.length
 | [],rows,loc,S1,x,os,old,new,id,H,_,hb,hl,_,_=>by
  cases old with
  |nil=>
   cases new with
   |nil=>exact ⟨loc, .refl H _,trivial,fun _ _=>rfl,trivial,trivial,rfl,rfl⟩
   |cons _ _=>exact hb.elim
  |cons _ _=>cases new<;>exact hb.elim
 |t::ts,rows,loc,S1,x,os,old,new,id,H,hf,hb,hl,hS,hd=>by
  cases os with
  |nil=>cases old<;>(cases t with|sl ow e=>cases ow<;>exact hl.elim|_=>exact hl.elim)
  |cons c os=>
  cases old with
  |nil=>cases t with|sl ow e=>cases ow<;>exact hl.elim|_=>exact hl.elim
  |cons o old=>
  cases new with
  |nil=>cases t with|sl ow e=>cases ow<;>exact hb.elim|_=>exact hb.elim
  |cons v new=>
  by_cases hsh: ∃e,t= .sl false e
  ·obtain ⟨e,rfl⟩:=hsh;obtain ⟨⟨k,rfl,hk⟩,hl2⟩:=hl;obtain ⟨rfl,hb2⟩:=hb;obtain ⟨l2,P2,k2,o2,ok2,one2,len2,vl2⟩:=Zgj (id:=id+1) H (fun k h1 h2=>hf k (by omega) (by simp;omega)) hb2 hl2 hS hd;refine ⟨l2,P2,⟨hk.ext P2.ext,k2⟩,fun j hj=>o2 j (by simp at hj;omega),⟨rfl,ok2⟩,⟨?_,one2⟩,by simp[QX,len2],by simp[vl2]⟩;obtain ⟨a,cap,len,e,ips,_,rfl⟩:=hk;rfl
  ·have key: ∃Sa Sb,Z1 w t x.1 v Sa (fun _=>False)∧Qi w ts x.2 old new Sb∧Dis Sa Sb∧Sub2 Sa S1∧Sub2 Sb S1∧Jt loc ts os old∧
     (QX (t::ts) x (c::os) id)=((JO t x.1 id).1::(QX ts x.2 os (id+1)).1,(JO t x.1 id).2++(QX ts x.2 os (id+1)).2):=by
    cases t with
    |sl ow e=>
     cases ow with
     |false=>exact absurd ⟨e,rfl⟩ hsh
     |true=>obtain ⟨Sa,Sb,h1,h2,h3,h4,h5⟩:=hb;exact ⟨Sa,Sb,h1,h2,h3,h4,h5,hl.2,rfl⟩
    |int k=>exact ⟨ZC,S1,hb.1,hb.2,fun _ _ h=>h.elim,fun _ _ h=>h.elim,fun _ _ h=>h,hl.2,rfl⟩
    |bool=>exact ⟨ZC,S1,hb.1,hb.2,fun _ _ h=>h.elim,fun _ _ h=>h.elim,fun _ _ h=>h,hl.2,rfl⟩
    |str=>exact ⟨ZC,S1,hb.1,hb.2,fun _ _ h=>h.elim,fun _ _ h=>h.elim,fun _ _ h=>h,hl.2,rfl⟩
    |fn f=>exact ⟨ZC,S1,hb.1,hb.2,fun _ _ h=>h.elim,fun _ _ h=>h.elim,fun _ _ h=>h,hl.2,rfl⟩
    |mb e=>obtain ⟨Sa,Sb,h1,h2,h3,h4,h5⟩:=hb;exact ⟨Sa,Sb,h1,h2,h3,h4,h5,hl.2,rfl⟩
   obtain ⟨Sa,Sb,r1,r2,dab,sa,sb,hl2,e⟩:=key;obtain ⟨l1,P1,k1,o1,ok1,one1⟩:=Ziu H (hf id (Nat.le_refl _) (by simp)) r1 (fun b o h=>hS b o (sa b o h)) (fun _ h=>h.elim) (fun b o h h'=>hd b o h (sa b o h'));have hl3:Jt l1 ts os old:=by
    have: ∀{ts:List LT} {os:List SV} {old:List Value},Jt loc ts os old→Jt l1 ts os old:=by
     intro ts;induction ts with
     |nil=>intro os old h;cases os<;>cases old<;>first|trivial|exact h.elim
     |cons t ts ih=>
      intro os old h;cases os with
      |nil=>cases old<;>(cases t with|sl ow e=>cases ow<;>exact h.elim|_=>exact h.elim)
      |cons c os=>
       cases old with
       |nil=>cases t with|sl ow e=>cases ow<;>exact h.elim|_=>exact h.elim
       |cons o old=>
        cases t with
        |sl ow e=>
         cases ow with
         |false=>obtain ⟨⟨k,hk,hr⟩,h2⟩:=h;exact ⟨⟨k,hk,hr.ext P1.ext⟩,ih h2⟩
         |true=>exact ⟨h.1,ih h.2⟩
        |_=>exact ⟨h.1,ih h.2⟩
    exact this hl2
   obtain ⟨l2,P2,k2,o2,ok2,one2,len2,vl2⟩:=Zgj (id:=id+1) P1.heap (fun k h1 h2=>by rw[o1 k (by omega)];exact hf k (by omega) (by simp;omega)) r2 hl3 (fun b o h=>hS b o (sb b o h))
    (P1.dis (fun b o h h'=>hd b o h (sb b o h')) dab)
   rw[e];refine ⟨l2,?_,⟨k1.ext P2.ext,k2⟩,?_,⟨ok1,ok2⟩,⟨one1,one2⟩,by simp[len2],by simp[vl2]⟩
   ·simp only[Qd];exact P1.trans P2 sa sb
   ·intro j hj;simp only[Qd];rw[o2 j (by simp at hj;omega),o1 j (by simp at hj;omega)]
theorem Zl0 [Glb] {w w':World} {S S1:Fp} {L:Nat→Prop} {ts:List LT} {rows:Rows} {loc:Loc} {x:Tup ts} {v:Value} {id off base:Nat} (H:Heap rows loc w' S L)
  (hf: ∀k,base≤k→k<base+ts.length→rows k=none) (hb:Vi w w' ts x v S1) (hl:Y0 rows loc w id off ts v) (hS:Sub2 S1 S) (hd:Dis (Qa rows loc) S1):
  ∃cs loc',rows id=some (.box cs)∧Xf rows (Zj rows ((QX ts x ((cs.drop off).take ts.length) base).2++[(id, .box (Qu cs off (QX ts x ((cs.drop off).take ts.length) base).1))])) loc loc' w' S L S1∧
   (∀j,(j<base∨base+ts.length≤j)→j≠id→Zj rows ((QX ts x ((cs.drop off).take ts.length) base).2++[(id, .box (Qu cs off (QX ts x ((cs.drop off).take ts.length) base).1))]) j=rows j)∧
   (∀id' (cs':List SV),rows id'=some (.box cs')→ ∃cs2:List SV,Zj rows ((QX ts x ((cs.drop off).take ts.length) base).2++[(id, .box (Qu cs off (QX ts x ((cs.drop off).take ts.length) base).1))]) id'=some (.box cs2)∧
    cs2.length=cs'.length∧ ∀(j:Nat) (c:SV),cs'[j]? =some c→(id'=id→j<off∨off+ts.length≤j)→cs2[j]? =some c):=by
 obtain ⟨b,o,cs,old,er,el,rfl,hle,hlc,hold⟩:=hl;obtain ⟨b',o',old',new,Sa,ev,hol,hold',hnew,hls,sa,sr,dar⟩:=hb;simp only[Value.pointer.injEq,Zg,adr,Addr.mk.injEq,and_true]at ev;obtain ⟨rfl,rfl⟩:=ev;have hoo:old'=old:=by
  apply List.ext_getElem
  ·rw[hol,hlc.len.2.1]
  ·intro j h1 h2;have e1:=hold' j h1;have e2:=hold j h2;rw[e1]at e2;exact Option.some.inj e2
 subst hoo;have hid: ¬(base≤id∧id<base+ts.length):=fun h=>by rw[hf id h.1 h.2]at er;cases er
 obtain ⟨l1,P1,k1,o1,ok1,one1,len1,nl1⟩:=Zgj (id:=base) H hf hls hlc (fun b o h=>hS b o (sa b o h)) (fun b o h h'=>hd b o h (sa b o h'));generalize hq:QX ts x ((cs.drop off).take ts.length) base=q at*;have er1:Zj rows q.2 id=some (.box cs):=by rw[o1 id (by omega)];exact er
 have hle':off+q.1.length≤cs.length:=by omega
 have hsl:=Zes hle';obtain ⟨b2,o2,el2,hob,hcells⟩:=P1.heap.ok id _ er1;have el1:=P1.ext _ _ el;rw[el1]at el2;simp only[Zg,Pl.box.injEq]at el2;obtain ⟨rfl,rfl,_⟩:=el2;have hown: ∀b1 o1,own l1 id (.box (Qu cs off q.1)) b1 o1→own l1 id (.box cs) b1 o1∨rng b (o+off) ts.length b1 o1:=by
  rintro b1 o1 ⟨o0,n0,e0,j,hj,rfl,hnl⟩;rw[el1]at e0;simp only[Zg,Pl.box.injEq]at e0;obtain ⟨rfl,rfl,rfl⟩:=e0;rw[hsl]at hj;by_cases hin:off≤j∧j<off+q.1.length
  ·exact .inr ⟨rfl,by omega,by omega⟩
  ·left;have hg:=UW (vs:=q.1) hle' (j:=j) (by omega);rw[List.getElem?_eq_getElem (l:=Qu cs off q.1) (i:=j) (by omega),List.getElem?_eq_getElem hj]at hg;rw[Option.some.inj hg]at hnl;exact ⟨o,_,el1,j,hj,rfl,hnl⟩
 have hd2:Dis (Qa (Zj rows q.2) l1) (rng b (o+off) ts.length):=P1.dis (fun b o h h'=>hd b o h (sr b o h')) dar;have hbox:YO w' l1 id (.box (Qu cs off q.1)):=by
  refine ⟨b,o,by rw[hsl];exact el1,by rw[hsl];exact hob,fun j hj=> ?_⟩;rw[hsl]at hj;by_cases hin:off≤j∧j<off+q.1.length
  ·have hg:=Zcd hle' hin.1 hin.2;rw[List.getElem?_eq_getElem (l:=Qu cs off q.1) (i:=j) (by omega)]at hg;rw[Option.some.inj hg];obtain ⟨h',rj⟩:=k1.get (j-off) (by omega);have:=hnew (j-off) h';rw[show o+off+(j-off)=o+j by omega]at this;exact Zb1 (ok1.get (j-off) (by omega)) this rj (one1.get (j-off) h')
  ·have hg:=UW (vs:=q.1) hle' (j:=j) (by omega);rw[List.getElem?_eq_getElem (l:=Qu cs off q.1) (i:=j) (by omega),List.getElem?_eq_getElem hj]at hg;rw[Option.some.inj hg];exact hcells j hj
 refine ⟨cs,l1,er,?_⟩;rw[hq];refine ⟨⟨?_,P1.ext,?_⟩,?_,?_⟩
 ·rw[Qd];refine P1.heap.upd id _ (fun _ _=>rfl) (fun j y _ e=>P1.heap.ok j y e) hbox ?_ (fun _ _ h=>h) ?_ (fun _ h=>h.elim) P1.heap.dis P1.heap.ltS
  ·intro j y hj ey b1 o1 h1 h2;rcases hown b1 o1 h2 with h2|h2
   ·exact P1.heap.sep j id y _ hj ey er1 b1 o1 h1 h2
   ·exact hd2 b1 o1 ⟨j,y,ey,h1⟩ h2
  ·intro b1 o1 h;rcases hown b1 o1 h with h|h
   ·exact P1.heap.inS id _ er1 b1 o1 h
   ·exact hS b1 o1 (sr b1 o1 h)
 ·rintro b1 o1 ⟨i,y,ey,hy⟩;rw[Qd]at ey;simp only[Zj]at ey;by_cases hi:i=id
  ·subst hi;rw[QT]at ey;cases ey;rcases hown b1 o1 hy with h|h
   ·exact (P1.owned b1 o1 ⟨i,_,er1,h⟩).imp_right (sa b1 o1)
   ·exact .inr (sr b1 o1 h)
  ·rw[QA _ _ hi]at ey;exact (P1.owned b1 o1 ⟨i,y,ey,hy⟩).imp_right (sa b1 o1)
 ·intro j hj hji;rw[Qd];simp only[Zj];rw[QA _ _ hji,o1 j hj]
 ·intro id' cs' e';rw[Qd];simp only[Zj];by_cases hi:id'=id
  ·subst hi;rw[er]at e';simp only[Zg,Row.box.injEq]at e';subst e';refine ⟨_,QT _ _ _,hsl,fun j c hc hn=> ?_⟩;rw[UW (vs:=q.1) hle' (by have:=hn rfl;omega)];exact hc
  ·refine ⟨cs',?_,rfl,fun _ _ h _=>h⟩;rw[QA _ _ hi,o1 id' ?_]
   ·exact e'
   ·by_cases h:id'<base∨base+ts.length≤id'
    ·exact h
    ·have:=hf id' (by omega) (by omega);rw[this]at e';cases e'
theorem Jt.ext [Glb] {loc loc':Loc} (he:Ext loc loc'): ∀{ts:List LT} {os:List SV} {old:List Value},Jt loc ts os old→Jt loc' ts os old:=by
 intro ts;induction ts with
 |nil=>intro os old h;cases os<;>cases old<;>first|trivial|exact h.elim
 |cons t ts ih=>
  intro os old h;cases os with
  |nil=>cases old<;>(cases t with|sl ow e=>cases ow<;>exact h.elim|_=>exact h.elim)
  |cons c os=>
   cases old with
   |nil=>cases t with|sl ow e=>cases ow<;>exact h.elim|_=>exact h.elim
   |cons o old=>
    cases t with
    |sl ow e=>
     cases ow with
     |false=>obtain ⟨⟨k,hk,hr⟩,h2⟩:=h;exact ⟨⟨k,hk,hr.ext he⟩,ih h2⟩
     |true=>exact ⟨h.1,ih h.2⟩
    |_=>exact ⟨h.1,ih h.2⟩
theorem Y0.pos {rows:Rows} {loc:Loc} {w:World} {id off:Nat} {ts:List LT} {v:Value} (h:Y0 rows loc w id off ts v):
  ∃b o n,loc id=some (.box b o n)∧v= .pointer (some (adr (b,o+off))):=by
 obtain ⟨b,o,cs,old,_,el,hv,_⟩:=h;exact ⟨b,o,_,el,hv⟩
theorem Y0.beside [Glb] {rows rows':Rows} {loc loc':Loc} {w:World} {id off id' off':Nat} {ts ts':List LT} {v v':Value} (he:Ext loc loc')
  (h:Y0 rows loc w id' off' ts' v') (h0:Y0 rows loc w id off ts v)
  (k: ∀id' (cs':List SV),rows id'=some (.box cs')→ ∃cs2:List SV,rows' id'=some (.box cs2)∧cs2.length=cs'.length∧ ∀(j:Nat) (c:SV),cs'[j]? =some c→(id'=id→j<off∨off+ts.length≤j)→cs2[j]? =some c)
  (hd: ∀b o b' o',v= .pointer (some (adr (b,o)))→v'= .pointer (some (adr (b',o')))→Dis (rng b o ts.length) (rng b' o' ts'.length)):
  Y0 rows' loc' w id' off' ts' v':=by
 obtain ⟨b0,o0,n0,el0,rfl⟩:=h0.pos;obtain ⟨b,o,cs,old,e,el,rfl,hle,hl,ho⟩:=h;obtain ⟨cs',e',hlen,g⟩:=k id' cs e;refine ⟨b,o,cs',old,e',by rw[hlen];exact he _ _ el,rfl,by omega,?_,ho⟩;have:(cs'.drop off').take ts'.length=(cs.drop off').take ts'.length:=by
  apply List.ext_getElem?;intro j;by_cases hj:j<ts'.length
  ·rw[List.getElem?_take_of_lt hj,List.getElem?_take_of_lt hj,List.getElem?_drop,List.getElem?_drop];have h1:off'+j<cs.length:=by omega
   rw[List.getElem?_eq_getElem h1];refine g (off'+j) cs[off'+j] (List.getElem?_eq_getElem h1) fun hid=> ?_;subst hid;rw[el]at el0;simp only[Zg,Pl.box.injEq]at el0;obtain ⟨rfl,rfl,rfl⟩:=el0;have:=hd b (o+off) b (o+off') rfl rfl b (o+off'+j);unfold rng at this;by_cases hin:off≤off'+j∧off'+j<off+ts.length
   ·exact absurd ⟨rfl,by omega,by omega⟩ (this ⟨rfl,by omega,by omega⟩)
   ·omega
  ·rw[List.getElem?_eq_none (by simp;omega),List.getElem?_eq_none (by simp;omega)]
 rw[this];exact hl.ext he
theorem Je.beside [Glb] {rows rows':Rows} {loc loc':Loc} {w w':World} {id off:Nat} {ts:List LT} {v:Value} {S1:Fp} (he:Ext loc loc') (h0:Y0 rows loc w id off ts v)
  (k: ∀id' (cs':List SV),rows id'=some (.box cs')→ ∃cs2:List SV,rows' id'=some (.box cs2)∧cs2.length=cs'.length∧ ∀(j:Nat) (c:SV),cs'[j]? =some c→(id'=id→j<off∨off+ts.length≤j)→cs2[j]? =some c)
  (h1: ∀b o,v= .pointer (some (adr (b,o)))→Sub2 (rng b o ts.length) S1): ∀{ins:List Ty} {x:BTup ins} {tvs:List TV} {vs:List Value} {S2:Fp},Je rows loc w ins tvs vs→Z5 w w' ins x vs S2→Dis S1 S2→Je rows' loc' w ins tvs vs:=by
 intro ins;induction ins with
 |nil=>intro x tvs vs S2 h _ _;cases tvs<;>cases vs<;>first|trivial|exact h.elim
 |cons t r ih=>
  intro x tvs vs S2 h hb hd;cases tvs with
  |nil=>cases vs<;>exact h.elim
  |cons tv tvs=>
   cases vs with
   |nil=>exact h.elim
   |cons u vs=>
    cases t with
    |v _=>exact ⟨trivial,ih (x:=x) h.2 hb hd⟩
    |a _=>exact ⟨trivial,ih (x:=x) h.2 hb hd⟩
    |r _=>exact ⟨trivial,ih (x:=x) h.2 hb hd⟩
    |p ts'=>
     obtain ⟨Sa,Sb,hbox,hrest,hab,sa,sb⟩:=hb;refine ⟨?_,ih h.2 hrest (fun b o h h'=>hd b o h (sb b o h'))⟩;obtain ⟨id',off',e,hl⟩:=h.1;refine ⟨id',off',e,hl.beside he h0 k fun b o b' o' ev ev'=> ?_⟩;obtain ⟨b2,o2,_,_,_,e2,_,_,_,_,_,sr,_⟩:=hbox;rw[ev']at e2;simp only[Value.pointer.injEq,Zg,adr,Addr.mk.injEq,and_true]at e2;obtain ⟨rfl,rfl⟩:=e2;exact fun b3 o3 h3 h4=>hd b3 o3 (h1 b o ev b3 o3 h3) (sa b3 o3 (sr b3 o3 h4))
theorem US [Glb] {w w':World} {S:Fp} {L:Nat→Prop}: ∀{ins:List Ty} {rows:Rows} {loc:Loc} {S1:Fp} {x:BTup ins} {tvs:List TV} {vs:List Value} {base:Nat} (_:Heap rows loc w' S L)
  (_: ∀k,base≤k→k<base+64*ins.length→rows k=none) (_:Z5 w w' ins x vs S1) (_:Je rows loc w ins tvs vs) (_:Sub2 S1 S) (_:Dis (Qa rows loc) S1) (_:Jd ins),
  ∃loc',Xf rows (Zj rows (Qt ins x tvs rows base)) loc loc' w' S L S1∧(∀j,rows j=none→(j<base∨base+64*ins.length≤j)→Zj rows (Qt ins x tvs rows base) j=none)
 | [],rows,loc,S1,x,tvs,vs,base,H,_,_,_,_,_,_=>by
  cases tvs<;>exact ⟨loc, .refl H _,fun j h _=>h⟩
 |t::r,rows,loc,S1,x,tvs,vs,base,H,hf,hb,hl,hS,hd,ht=>by
  cases tvs with
  |nil=>cases vs<;>exact hl.elim
  |cons tv tvs=>
  cases vs with
  |nil=>exact hl.elim
  |cons v vs=>
  cases t with
  |v t'=>
   have e:Qt (.v t'::r) x (tv::tvs) rows base=Qt r x tvs rows (base+64):=by cases tv<;>rfl
   rw[e];obtain ⟨l1,P1,o1⟩:=US (ins:=r) (base:=base+64) H (fun k h1 h2=>hf k (by omega) (by simp;omega)) hb hl.2 hS hd ht.2;exact ⟨l1,P1,fun j hj hr=>o1 j hj (by simp at hr;omega)⟩
  |a t'=>
   have e:Qt (.a t'::r) x (tv::tvs) rows base=Qt r x tvs rows (base+64):=by cases tv<;>rfl
   rw[e];obtain ⟨l1,P1,o1⟩:=US (ins:=r) (base:=base+64) H (fun k h1 h2=>hf k (by omega) (by simp;omega)) hb hl.2 hS hd ht.2;exact ⟨l1,P1,fun j hj hr=>o1 j hj (by simp at hr;omega)⟩
  |r t'=>
   have e:Qt (.r t'::r) x (tv::tvs) rows base=Qt r x tvs rows (base+64):=by cases tv<;>rfl
   rw[e];obtain ⟨l1,P1,o1⟩:=US (ins:=r) (base:=base+64) H (fun k h1 h2=>hf k (by omega) (by simp;omega)) hb hl.2 hS hd ht.2;exact ⟨l1,P1,fun j hj hr=>o1 j hj (by simp at hr;omega)⟩
  |p ts=>
   obtain ⟨id,off,rfl,hla⟩:=hl.1;obtain ⟨Sa,Sb,hbox,hrest,hab,sa,sb⟩:=hb;have hlen:ts.length≤63:=ht.1;obtain ⟨cs,l1,er,P1,o1,bx⟩:=Zl0 (base:=base) H (fun k h1 h2=>hf k h1 (by simp;omega)) hbox hla (fun b o h=>hS b o (sa b o h)) (fun b o h h'=>hd b o h (sa b o h'));have e:Qt (.p ts::r) x (.c (.s (.ptr id off))::tvs) rows base=
     ((QX ts x.1 ((cs.drop off).take ts.length) base).2++[(id, .box (Qu cs off (QX ts x.1 ((cs.drop off).take ts.length) base).1))])++
       Qt r x.2 tvs (Zj rows ((QX ts x.1 ((cs.drop off).take ts.length) base).2++[(id, .box (Qu cs off (QX ts x.1 ((cs.drop off).take ts.length) base).1))])) (base+64):=by
    simp only[Qt,er]
   rw[e];generalize hus:(QX ts x.1 ((cs.drop off).take ts.length) base).2++[(id, .box (Qu cs off (QX ts x.1 ((cs.drop off).take ts.length) base).1))]=us at*;have hne: ∀j,rows j=none→j≠id:=fun j hj h=>by subst h;rw[er]at hj;cases hj
   have hl2:Je (Zj rows us) l1 w r tvs vs:=by
    refine Je.beside (S1:=Sa) P1.ext hla bx (fun b o ev=> ?_) hl.2 hrest hab;obtain ⟨b2,o2,_,_,_,e2,_,_,_,_,_,sr,_⟩:=hbox;rw[ev]at e2;simp only[Value.pointer.injEq,Zg,adr,Addr.mk.injEq,and_true]at e2;obtain ⟨rfl,rfl⟩:=e2;exact sr
   obtain ⟨l2,P2,o2⟩:=US (ins:=r) (base:=base+64) P1.heap (fun k h1 h2=>by
     have:=hf k (by omega) (by simp;omega);rw[o1 k (by omega) (hne k this)];exact this) hrest hl2 (fun b o h=>hS b o (sb b o h)) (P1.dis (fun b o h h'=>hd b o h (sb b o h')) hab) ht.2
   refine ⟨l2,?_,fun j hj hr=> ?_⟩
   ·rw[Qd];exact P1.trans P2 sa sb
   ·rw[Qd];refine o2 j ?_ (by simp at hr;omega);rw[o1 j (by simp at hr;omega) (hne j hj)];exact hj
def Z4 [Glb] (rows:Rows) (loc:Loc) (w:World) (S:Fp) (L:Nat→Prop) (us:Us) (v:TV) (val:Value) (w':World):Prop:=
 ∃loc' S',Heap (Zj rows us) loc' w' S' L∧ZK loc' v val∧(∀x u,ZD loc x u→ZD loc' (JW (Q2 us) x) u)∧(∀b o,S' b o→S b o∨w.heap.size≤b)∧Frame S w w'
theorem Zer (x:SV):JW [] x=x:=by cases x<;>rfl
theorem Z4.quiet [Glb] {rows:Rows} {loc:Loc} {w:World} {S:Fp} {L:Nat→Prop} (H:Heap rows loc w S L) {v:TV} {val:Value} (h:ZK loc v val):Z4 rows loc w S L [] v val w:=
 ⟨loc,S,H,h,fun x u r=>by rw[show Q2 ([]:Us)=[]from rfl,Zer];exact r,fun _ _ h=> .inl h, .refl _ _⟩
theorem Z4.ext [Glb] {rows:Rows} {loc loc':Loc} {w w':World} {S S':Fp} {L:Nat→Prop} {us:Us} {v:TV} {val:Value} (H:Heap (Zj rows us) loc' w' S' L) (hs:Q2 us=[]) (h:ZK loc' v val) (he:Ext loc loc')
  (hS: ∀b o,S' b o→S b o∨w.heap.size≤b) (hf:Frame S w w'):Z4 rows loc w S L us v val w':=
 ⟨loc',S',H,h,fun x u r=>by rw[hs,Zer];exact r.ext he,hS,hf⟩
theorem Zir {l:List SV} (h:okL l=true):Vp l:=by
 induction l with
 |nil=>trivial
 |cons x r ih=>simp only[okL,Bool.and_eq_true]at h;exact ⟨h.1,ih h.2⟩
theorem Z3.one [Glb] {loc:Loc}: ∀{l:List SV} {vs:List Value},Vp l→Z3 loc l vs→J9 vs
 | [],[],_,_=>trivial
 |_::_,_::_,h,r=>⟨Zis h.1 r.1,Z3.one h.2 r.2⟩
 | [],_::_,_,r=>r.elim
 |_::_,[],_,r=>r.elim
theorem Z3.len {loc:Loc}: ∀{l:List SV} {vs:List Value},Z3 loc l vs→l.length=vs.length
 | [],[],_=>rfl
 |_::_,_::_,r=>by simp[Z3.len r.2]
 | [],_::_,r=>r.elim
 |_::_,[],r=>r.elim
theorem Zng {v:Value} (h:v.oneCell'=true):v.cells=[v].toArray:=by
 cases v<;>first|rfl| (simp[Value.oneCell']at h)
theorem Vn {loc:Loc} {x:SV} {v:Value} (h:Ym loc (.s x) v) (hx:x≠ .undef):ZD loc x v:=by
 cases x<;>first|exact h|exact absurd rfl hx
theorem Zd4 [Glb] {loc:Loc} {tv:TV} {svs:List SV} {v:Value} (h:cellsOf tv=some svs) (r:ZK loc tv v): ∃vs:List Value,v.cells=vs.toArray∧Z3 loc svs vs∧Vp svs:=by
 cases tv with
 |tup l=>simp[cellsOf]at h
 |c c=>
  cases c with
  |agg l=>
   simp only[cellsOf]at h;cases hl:okL l with
   |false=>rw[hl]at h;cases h
   |true=>
    rw[hl,Zb,Zg]at h;subst h;obtain ⟨cs,rfl,r⟩:=r;exact ⟨cs,rfl,r,Zir hl⟩
  |s x=>
   have key: ∀(hx:x≠ .undef),cellsOf (.c (.s x))=(bif okS x then some [x]else none):=by
    intro hx;cases x<;>first|rfl|exact absurd rfl hx
   by_cases hx:x= .undef
   ·subst hx;simp[cellsOf]at h
   ·rw[key hx]at h;cases ho:okS x with
    |false=>rw[ho]at h;cases h
    |true=>
     rw[ho,Zb,Zg]at h;subst h;have rs:=Vn r hx;exact ⟨[v],Zng (Zis ho rs),⟨rs,trivial⟩,ho,trivial⟩
theorem ZiU (loc:Loc) (v:Value):ZD loc (V0 v) v:=by
 cases v with
 |slice a n c=>
  cases a with
  |some a=>rfl
  |none=>
   cases n with
   |zero=>cases c<;>rfl
   |succ n=>rfl
 |_=>first|trivial|rfl
theorem Zcq [Glb] (loc:Loc): ∀(cs:List Value),Z3 loc (cs.map V0) cs
 | []=>trivial
 |c::cs=>⟨ZiU loc c,Zcq loc cs⟩
theorem Vj {loc:Loc} {x:SV} {v:Value} (h:ZD loc x v):Ym loc (.s x) v:=by
 cases x<;>first|trivial|exact h
theorem Znj (v:Value) (h: ∀cs,v≠ .agg cs):Zni v= .c (.s (V0 v)):=by
 cases v<;>first|rfl|exact absurd rfl (h _)
theorem Znk [Glb] (loc:Loc) (v:Value):ZK loc (Zni v) v:=by
 by_cases h: ∃cs,v= .agg cs
 ·obtain ⟨cs,rfl⟩:=h;exact ⟨cs.toList,by simp,Zcq loc cs.toList⟩
 ·rw[Znj v (fun cs e=>h ⟨cs,e⟩)];exact Vj (ZiU loc v)
theorem Znr [Glb] {loc:Loc} {st:St} {a:Act} (h: ∀t,ZK loc (st.tmps t) (a.tmps.getD t undef)) (x:Operand):ZK loc (st.ev x) (a.eval x):=by
 cases x with
 |tmp t=>exact h t
 |const v=>exact Znk loc v
 |global g=>trivial
 |func f=>rfl
theorem Heap.alloc [Glb] {rows:Rows} {loc:Loc} {w:World} {S:Fp} {L:Nat→Prop} (H:Heap rows loc w S L) (o:Obj):Heap rows loc (w.alloc o) S L:=
 H.frame (Zbx ZC w o) (fun _ _ _ _ _ _ h=>h) (fun _ _ _ h=>h)
theorem Heap.widen [Glb] {rows:Rows} {loc:Loc} {w:World} {S:Fp} {L:Nat→Prop} (H:Heap rows loc w S L) (N:Fp) (hN: ∀b o,N b o→ ¬L b) (hlt: ∀b o,N b o→b<w.heap.size):Heap rows loc w (Z7 S N) L:=
 H.weaken (fun _ _ h=> .inl h) (fun b o h=>h.elim (H.dis b o) (hN b o)) (fun b o h=>h.elim (H.ltS b o) (hlt b o))
theorem Zp5 [Glb] {rows:Rows} {loc:Loc} {w:World} {S:Fp} {L:Nat→Prop} (H:Heap rows loc w S L) {id:Nat} (hid:rows id=none) {cs:List SV} {vs:List Value} (hr:Z3 loc cs vs) (hk:Vp cs) (ty:TypeId):
  Z4 rows loc w S L [(id, .box cs)] (.c (.s (.ptr id 0))) (.pointer (some ⟨w.heap.size,0,none⟩)) (w.alloc (.cells vs.toArray ty)):=by
 have H1:=(H.alloc (.cells vs.toArray ty)).widen (fun b _=>b=w.heap.size) (fun b o h hl=>by have:=H.ltL b hl;omega) (fun b o h=>by subst h;simp);have hlen:=hr.len;have hone:=hr.one hk;refine Z4.ext (loc':=Jk loc id (.box w.heap.size 0 cs.length)) (S':=Z7 S (fun b _=>b=w.heap.size)) ?_ rfl ⟨w.heap.size,0,_,Yi _ _ _,rfl⟩ (VT _ (H.none id hid)) ?_ (Zbx _ _ _)
 ·have hown: ∀b o,own (Jk loc id (.box w.heap.size 0 cs.length)) id (.box cs) b o→b=w.heap.size:=by
   rintro b o ⟨o0,n0,e,_⟩;rw[Yi]at e;simp only[Zg,Pl.box.injEq]at e;exact e.1.symm
  refine H1.new hid _ _ ⟨w.heap.size,0,Yi _ _ _,Zfg _ _ _ _ (by simp[hlen]),fun j hj=> ?_⟩ (fun j y ey b o h1 h2=> ?_) (fun _ _ h=>h) (fun b o h=> .inr (hown b o h)) (fun _ h=>h.elim) H1.dis H1.ltS
  ·obtain ⟨h',rj⟩:=hr.get j hj;refine Zb1 (v:=vs[j]) (hk.get j hj) ?_ (rj.ext (VT _ (H.none id hid))) (hone.get j h');rw[Zd1];simp[h']
  ·have:=H.own_lt ey h1;have:=hown b o h2;omega
 ·rintro b o (h|h)
  ·exact .inl h
  ·right;omega
theorem Zjs [Glb] {rows:Rows} {loc:Loc} {w':World} {S S1:Fp} {L:Nat→Prop} (H:Heap rows loc w' (Z7 S S1) L) {id:Nat} (hid:rows id=none) {e:E} {l:List e.C} {a:Option (Nat×Nat)} {cap:Nat} {ips:Ips}
  (hat:Qq w' true e a cap l ips) (hb: ∀b,Y9 a l.length e ips b→ ∀o,S1 b o) (hd:Dis (Qa rows loc) S1):
  ∃loc',Heap (QD rows id (.row true e l)) loc' w' (Z7 S S1) L∧Ext loc loc'∧ZD loc' (.slf id) (slV a ips.q l.length cap):=by
 obtain ⟨loc',P,r,_⟩:=Ziu (t:= .sl true e) (x:=l) (v:=slV a ips.q l.length cap) (L1:=fun _=>False) H hid ⟨a,cap,ips,rfl,hat,hb⟩ (fun b o h=> .inr h) (fun _ h=>h.elim) hd;exact ⟨loc',P.heap,P.ext,r⟩
theorem Zdb {P:Program} {t:TypeId} {x:Bool} (h:Ku P t=some x) (w:World):(isAgg t).run P w= .ok x w:=by
 unfold Ku at h;split at h
 ·rename_i fs hu;cases h;simp[isAgg,run_underlying hu w]
 ·rename_i n e hu;cases h;simp[isAgg,run_underlying hu w]
 ·rename_i d h1 h2 hu;cases h;cases d with
  |struct fs=>exact absurd rfl (h1 fs)
  |array n e=>exact absurd rfl (h2 n e)
  |_=>simp[isAgg,run_underlying hu w]
 ·cases h
theorem Zai {P:Program} {t:TypeId} {d:TypeDesc} (h:P.underlying t=some d): ∃i,P.info? t=some i:=by
 unfold Program.underlying at h;split at h
 ·rename_i h';exact ⟨_,h'⟩
 ·rename_i h';exact ⟨_,h'⟩
 ·cases h
theorem W5 {P:Program} {t:TypeId} {i:TypeInfo} (h:P.info? t=some i) (w:World):(sizeOf t).run P w= .ok (P.cellsOf t) w:=by
 simp[sizeOf,typeInfo,h,Program.cellsOf]
theorem ZiO [Glb] {P:Program} {t:TypeId} {x:Bool} (h:Ku P t=some x): ∃i,P.info? t=some i:=by
 unfold Ku at h;split at h
 ·rename_i hu;exact Zai hu
 ·rename_i hu;exact Zai hu
 ·rename_i hu;exact Zai hu
 ·cases h
theorem Zcc [Glb] {P:Program} {t:TypeId} (h:Ku P t=some true) {w:World} {b o:Nat} {vs:List Value} (hl:vs.length=P.cellsOf t) (hc:KR w b o vs):
  (loadVar t (adr (b,o))).run P w= .ok (.agg vs.toArray) w:=by
 obtain ⟨i,hi⟩:=ZiO h;have:=run_loadCells_list (P:=P) w (adr (b,o)) vs (fun j v hv=>by
  rw[XU];obtain ⟨hj,rfl⟩:=List.getElem?_eq_some_iff.1 hv;exact hc j hj)
 simp only[loadVar,Sem.run_bind,Zdb h,Result.andThen_ok,if_true,W5 hi,←hl,this,Sem.run_pure]
theorem ZaQ [Glb] {P:Program} {t:TypeId} (h:Ku P t=some false) {w:World} {b o:Nat} {v:Value} (hc:w.cell? (adr (b,o))=some v):
  (loadVar t (adr (b,o))).run P w= .ok v w:=by
 simp only[loadVar,Sem.run_bind,Zdb h,Result.andThen_ok,Bool.false_eq_true,if_false,run_load,hc]
theorem Zaf [Glb] {P:Program} {t:TypeId} {i:TypeInfo} (hi:P.info? t=some i) {w w':World} {a:Addr} {v:Value} {vs:List Value} (hv:v.cells=vs.toArray) (hl:vs.length=P.cellsOf t)
  (h:(storeCells a vs).run P w= .ok () w'):(storeVar t a v).run P w= .ok () w':=by
 simp only[storeVar,Sem.run_bind,W5 hi,Result.andThen_ok,hv];rw[Zc (by simp[hl])];simpa using h
theorem ZdZ [Glb] (r:Rows) (i:Nat) (x y:Row):QD (QD r i x) i y=QD r i y:=by
 funext j;by_cases h:j=i
 ·subst h;rw[QT,QT]
 ·rw[QA _ _ h,QA _ _ h,QA _ _ h]
theorem Z3.get? [Glb] {loc:Loc} {xs:List SV} {vs:List Value} (h:Z3 loc xs vs) (j:Nat) (hj:j<vs.length): ∃h':j<xs.length,ZD loc xs[j] vs[j]:=by
 have hl:=h.len;obtain ⟨_,r⟩:=h.get j (by omega);exact ⟨by omega,r⟩
theorem Heap.write [Glb] {rows:Rows} {loc:Loc} {w w':World} {S S1:Fp} {L:Nat→Prop} (H:Heap rows loc w S L) {id:Nat} {x y:Row} (e:rows id=some y) (hf:Frame S1 w w') (h1: ∀b o,S1 b o→own loc id y b o)
  (hok:YO w' loc id x) (ho: ∀b o,own loc id x b o→own loc id y b o) (hl: ∀b,KE loc id x b→L b):Heap (QD rows id x) loc w' S L:=by
 have H1:Heap (QD rows id .dead) loc w' S L:=(H.kill id).frame hf (fun i z ez b o hz hs=>by
   by_cases hi:i=id
   ·subst hi;rw[QT]at ez;cases ez;exact hz.elim
   ·rw[QA _ _ hi]at ez;exact H.sep i id z y hi ez e b o hz (h1 b o hs)) (fun b hb o hs=>H.dis b o (H.inS id y e b o (h1 b o hs)) hb)
 have H2:=H1.upd id x (fun _ _=>rfl) (fun j z hj ez=>H1.ok j z ez) hok (S':=S) (fun j z hj ez b o hz hx=>by
   rw[QA _ _ hj]at ez;exact H.sep j id z y hj ez e b o hz (ho b o hx)) (fun _ _ h=>h) (fun b o h=>H.inS id y e b o (ho b o h)) hl H1.dis H1.ltS
 rw[ZdZ]at H2;exact H2
theorem ZpV [Glb] {P:Program} {rows:Rows} {loc:Loc} {w:World} {S:Fp} {L:Nat→Prop} (H:Heap rows loc w S L) {id b o off:Nat} {cs svs:List SV} {vs:List Value} (e:rows id=some (.box cs))
  (el:loc id=some (.box b o cs.length)) (hle:off+svs.length≤cs.length) (hr:Z3 loc svs vs) (hk:Vp svs) (hn:okL ((cs.drop off).take svs.length)=true):
  ∃w',(storeCells (adr (b,o+off)) vs).run P w= .ok () w'∧Heap (QD rows id (.box (Qu cs off svs))) loc w' S L∧Frame S w w':=by
 obtain ⟨b',o',el',hob,hcells⟩:=H.ok id _ e;rw[el]at el';simp only[Zg,Pl.box.injEq]at el';obtain ⟨rfl,rfl,_⟩:=el';have hlen:=hr.len;obtain ⟨w',h1,h2,h3⟩:=Zac P b (o+off) (o+cs.length) vs 0 w hob (by omega) (hr.one hk);simp only[Nat.add_zero]at h2 h3;have hsl:=Zes hle;have hin: ∀j,off≤j→j<off+svs.length→ ∃h:j<cs.length,XE cs[j]:=fun j ha hb'=>by
  have hj:j<cs.length:=by omega
  have:=Zgb ((Zir hn).get (j-off) (by simp;omega));simp only[List.getElem_take,List.getElem_drop]at this;exact ⟨hj,by simpa [show off+(j-off)=j by omega] using this⟩
 have h1': ∀b1 o1,b1=b∧o+off≤o1∧o1<o+off+vs.length→own loc id (.box cs) b1 o1:=by
  rintro b1 o1 ⟨rfl,ha,hb'⟩;obtain ⟨hj,hnl⟩:=hin (o1-o) (by omega) (by omega);exact ⟨o,_,el,o1-o,hj,by omega,hnl⟩
 have hget: ∀j,(hj:j<cs.length)→(hlt:j< (Qu cs off svs).length)→(∃hi:j-off<svs.length,off≤j∧(Qu cs off svs)[j]=svs[j-off])∨((j<off∨off+svs.length≤j)∧(Qu cs off svs)[j]=cs[j]):=by
  intro j hj hlt;by_cases hin':off≤j∧j<off+svs.length
  ·left;have hg:=Zcd hle hin'.1 hin'.2;rw[List.getElem?_eq_getElem hlt]at hg;exact ⟨by omega,hin'.1,Option.some.inj hg⟩
  ·right;have hg:=UW (vs:=svs) hle (j:=j) (by omega);rw[List.getElem?_eq_getElem hlt,List.getElem?_eq_getElem hj]at hg;exact ⟨by omega,Option.some.inj hg⟩
 refine ⟨w',h1,H.write e h3 h1' ⟨b,o,by rw[hsl];exact el,by rw[hsl];exact h3.ownB hob,fun j hj=> ?_⟩ ?_ (fun _ h=>h.elim),h3.mono fun b1 o1 h=>H.inS id _ e b1 o1 (h1' b1 o1 h)⟩
 ·have hj':j<cs.length:=by omega
  rcases hget j hj' hj with ⟨hi,hoj,hg⟩| ⟨hout,hg⟩
  ·rw[hg];obtain ⟨h',rj⟩:=hr.get (j-off) hi;have:=h2 (j-off) h';rw[show o+off+(j-off)=o+j by omega]at this;exact Zb1 (hk.get _ hi) this rj ((hr.one hk).get _ h')
  ·rw[hg];exact (hcells j hj').frame h3 (fun _ h=>by omega)
 ·rintro b1 o1 ⟨o0,n0,e0,j,hj,rfl,hnl⟩;rw[el]at e0;simp only[Zg,Pl.box.injEq]at e0;obtain ⟨rfl,rfl,rfl⟩:=e0;have hj':j<cs.length:=by omega
  rcases hget j hj' hj with ⟨hi,hoj,hg⟩| ⟨hout,hg⟩
  ·obtain ⟨_,hn'⟩:=hin j hoj (by omega);exact ⟨o,_,el,j,hj',rfl,hn'⟩
  ·rw[hg]at hnl;exact ⟨o,_,el,j,hj',rfl,hnl⟩
theorem ZrC {loc:Loc} {e:E} {a:Option (Nat×Nat)} {cap len:Nat} {ips:Ips} {id off:Nat} {i:Int} (el:loc id=some (.row a cap len e ips)) (h0:0≤i) (hi:i.toNat<len) (x:e.C) (ho:off<e.sz):
  Ym loc (elS e x off id i) (elV e x (ips i.toNat) off):=by
 cases e with
 |t=>
  match off,ho with
  |0,_=>rfl
  |1,_=>rfl
  |2,_=>rfl
  |n+3,h=>exact absurd h (by simp[E.sz])
 |n=>exact ⟨a,cap,len,ips,el,h0,hi,rfl⟩
 |_=>rfl
theorem Wg {e:E} {l:List e.C} {i:Int} (h:i.toNat<l.length):rdE e l i=l[i.toNat]:=by simp[rdE,h]
theorem Zbl (P:Program) (t:TypeId) (a:Addr) (w:World):(Instr.loadAt t (.pointer (some a))).run P w=(loadVar t a).run P w:=by
 simp[Instr.loadAt,Instr.sureAddr]
theorem Zqp [Glb] {rows:Rows} {loc:Loc} {w:World} {S:Fp} {L:Nat→Prop} (H:Heap rows loc w S L) {id:Nat} {cs:List SV} (h:K0 rows id=some cs):
  ∃b o,loc id=some (.box b o cs.length)∧ ∀j,(h:j<cs.length)→Xy w loc b (o+j) cs[j]:=by
 unfold K0 at h;split at h
 ·rename_i e;simp only[Zg]at h;subst h;obtain ⟨b,o,el,_,k⟩:=H.ok id _ e;exact ⟨b,o,el,k⟩
 ·rename_i e;simp only[Zg]at h;subst h;exact H.ok id _ e
 ·cases h
theorem Zln [Glb] {P:Program} {rows:Rows} {loc:Loc} {w:World} {S:Fp} {L:Nat→Prop} (H:Heap rows loc w S L) {t:TypeId} {tv:TV} {v:Value} {f:F} (hv:ZK loc tv v) (h:Kf P rows t tv=some f):
  ∃val,(Instr.loadAt t v).run P w= .ok val w∧f.checks=[]∧f.us=[]∧ZK loc f.v val:=by
 unfold Kf at h;split at h
 ·rename_i id off;obtain ⟨b,o,n,el,rfl⟩:=hv;split at h
  ·rename_i cs hr;obtain ⟨b',o',el',hcells⟩:=Zqp H hr;rw[el]at el';simp only[Zg,Pl.box.injEq]at el';obtain ⟨rfl,rfl,rfl⟩:=el';split at h
   ·rename_i hk;cases hb:(Nat.ble (off+P.cellsOf t) cs.length&&okL ((cs.drop off).take (P.cellsOf t)))with
    |false=>rw[hb]at h;cases h
    |true=>
     rw[hb,Zb,Zg]at h;subst h;simp only[Bool.and_eq_true]at hb;have hle:=Nat.le_of_ble_eq_true hb.1;have hall:=Zir hb.2;obtain ⟨vs,g1,g2,g3,_⟩:=Zcp (w:=w) (loc:=loc) (b:=b) (cells:=(cs.drop off).take (P.cellsOf t)) (o:=o+off) (fun j hj=>by
      simp only[List.getElem_take,List.getElem_drop,Nat.add_assoc];exact hcells (off+j) (by simp at hj;omega)) (fun x hx=>by
      obtain ⟨j,hj,rfl⟩:=List.getElem_of_mem hx;exact Zgb (hall.get j hj))
     refine ⟨.agg vs.toArray,?_,rfl,rfl,vs,rfl,g3⟩;rw[Zbl];exact Zcc hk (by rw[g1];simp;omega) g2
   ·rename_i hk;split at h
    ·rename_i x hx;cases ho:okS x with
     |false=>rw[ho]at h;cases h
     |true=>
      rw[ho,Zb,Qj,Zg]at h;subst h;obtain ⟨hj,rfl⟩:=List.getElem?_eq_some_iff.1 hx;have hc:=hcells off hj;have hc': ∃v,w.cell? (adr (b,o+off))=some v∧ZD loc cs[off] v∧v.oneCell'=true:=by
       generalize cs[off]=y at hc ho;cases y<;>first|exact hc.2| (simp[okS]at ho)
      obtain ⟨u,e,r,_⟩:=hc';exact ⟨u,by rw[Zbl];exact ZaQ hk e,rfl,rfl,Vj r⟩
    ·cases h
   ·cases h
  ·cases h
 ·rename_i id i off;obtain ⟨b,o,cap,len,e,ips,el,h0,hi,rfl⟩:=hv;split at h
  ·rename_i ow e' l hr;obtain ⟨a',cap',ips',el',hat⟩:=H.ok id _ hr;rw[el]at el';simp only[Zg,Pl.row.injEq]at el';obtain ⟨rfl,rfl,rfl,rfl,rfl⟩:=el';have hcell:=(hat.2.2.1 b o rfl).1 i.toNat hi;split at h
   ·rename_i hk;split at h
    ·rename_i l';cases hb:(Nat.beq off 0&&Nat.beq (P.cellsOf t) 3)with
     |false=>rw[hb]at h;cases h
     |true=>
      rw[hb,Zb,Zg]at h;subst h;simp only[Bool.and_eq_true]at hb;obtain rfl:=Nat.eq_of_beq_eq_true hb.1;have h3:=Nat.eq_of_beq_eq_true hb.2;rw[Wg hi];refine ⟨.agg [.int .i64 (l'[i.toNat]).1, .int .i64 (l'[i.toNat]).2.1, .int .i64 (l'[i.toNat]).2.2].toArray,?_,rfl,rfl,
       [.int .i64 (l'[i.toNat]).1, .int .i64 (l'[i.toNat]).2.1, .int .i64 (l'[i.toNat]).2.2],rfl,rfl,rfl,rfl,trivial⟩
      rw[Zbl];refine Zcc hk (by rw[h3];rfl) fun j hj=> ?_;have:=hcell j hj;rw[Nat.add_zero];rw[this]
      match j,hj with
      |0,_=>rfl
      |1,_=>rfl
      |2,_=>rfl
      |n+3,h=>exact absurd h (by simp)
    ·cases h
   ·rename_i hk;cases hb:Nat.blt off e.sz with
    |false=>rw[hb]at h;cases h
    |true=>
     rw[hb,Zb,Zg]at h;subst h;have hoff:off<e.sz:=Nat.le_of_ble_eq_true hb;rw[Wg hi];refine ⟨elV e l[i.toNat] (ips i.toNat) off,?_,rfl,rfl,ZrC el h0 hi _ hoff⟩;rw[Zbl];exact ZaQ hk (hcell off hoff)
   ·cases h
  ·cases h
 ·rename_i id i j;obtain ⟨a,cap,len,ips,b,o,el,h0,hi,hb,hj0,hj,rfl⟩:=hv;split at h
  ·rename_i ow l hr;obtain ⟨a',cap',ips',el',hat⟩:=H.ok id _ hr;rw[el]at el';simp only[Zg,Pl.row.injEq,true_and]at el';obtain ⟨rfl,rfl,rfl,rfl⟩:=el';split at h
   ·rename_i hk;rw[Qj,Zg]at h;subst h;obtain ⟨g1,g2,g3,g4⟩:=hat.2.2.2.1 i.toNat hi;have hj':j.toNat<l[i.toNat].length:=by omega
    have:=(g4 b o hb).1 j.toNat hj';refine ⟨.int .i64 l[i.toNat][j.toNat],by rw[Zbl];exact ZaQ hk this,rfl,rfl,?_⟩;show Value.int .i64 _= .int .i64 _;congr 1;rw[Wg hi];simp[rdI,hj']
   ·cases h
  ·cases h
 ·cases h
theorem ZaV {α:Type} (l:List α) (i:Nat) (x:α) (k:Nat) (h:k< (l.set i x).length):(l.set i x)[k]=if k=i then x else l[k]'(by simpa using h):=by
 rw[List.getElem_set];split
 ·rename_i h;rw[Ze h.symm]
 ·rename_i h;rw[Zc (fun e=>h e.symm)]
theorem ZoV [Glb] {P:Program} {rows:Rows} {loc:Loc} {w:World} {S:Fp} {L:Nat→Prop} (H:Heap rows loc w S L) {id b o cap:Nat} {e:E} {l:List e.C} {ips:Ips} (er:rows id=some (.row true e l))
  (el:loc id=some (.row (some (b,o)) cap l.length e ips)) {i off:Nat} (hi:i<l.length) {x:e.C} {ip:IP} {vs:List Value} (hone:J9 vs) (hoff:off+vs.length≤e.sz)
  (hnew: ∀j,(h:j<vs.length)→vs[j]=elV e x ip (off+j)) (hold: ∀j,j<e.sz→(j<off∨off+vs.length≤j)→elV e l[i] (ips i) j=elV e x ip j):
  ∃w',(storeCells (adr (b,o+i*e.sz+off)) vs).run P w= .ok () w'∧Frame (fun b' o'=>b'=b) w w'∧
   (∀k,(hk:k< (l.set i x).length)→ ∀j,j<e.sz→w'.cell? (adr (b,o+k*e.sz+j))=some (elV e (l.set i x)[k] (if k=i then ip else ips k) j))∧Xe w' b (o+cap*e.sz)∧
   (∀b1 o1,b1=b→own loc id (.row true e l) b1 o1)∧l.length≤cap∧YZ w true (some b) e l ips:=by
 obtain ⟨a',cap',ips',el',hat⟩:=H.ok id _ er;rw[el]at el';simp only[Zg,Pl.row.injEq,true_and]at el';obtain ⟨rfl,rfl,rfl⟩:=el';obtain ⟨hc,hob⟩:=hat.2.2.1 b o rfl;have hob:=hob rfl;have hle:=hat.1;have hmul:(i+1)*e.sz≤cap*e.sz:=Nat.mul_le_mul_right _ (by omega);rw[Nat.add_mul,Nat.one_mul]at hmul;obtain ⟨w',h1,h2,h3⟩:=Zac P b (o+i*e.sz+off) (o+cap*e.sz) vs 0 w hob (by omega) hone;simp only[Nat.add_zero]at h2 h3;refine ⟨w',h1,h3.mono fun _ _ h=>h.1,fun k hk j hj=> ?_,h3.ownB hob,fun b1 o1 h=>⟨_,cap,_,e,ips,el, .inl ⟨o,by rw[h]⟩⟩,hle,hat.2.2.2⟩;have hk':k<l.length:=by simpa using hk
 rw[ZaV];by_cases hki:k=i
 ·subst hki;rw[Ze rfl,Ze rfl];by_cases hin:off≤j∧j<off+vs.length
  ·have:=h2 (j-off) (by omega);rw[show o+k*e.sz+off+(j-off)=o+k*e.sz+j by omega]at this;rw[this,hnew (j-off) (by omega),show off+(j-off)=j by omega]
  ·rw[h3.cell hob.lt (by omega),hc k hk' j hj,hold j hj (by omega)]
 ·rw[Zc hki,Zc hki,h3.cell hob.lt ?_,hc k hk' j hj];rintro ⟨_,ha,hb⟩;rcases Nat.lt_or_gt_of_ne hki with h|h
  ·have:=Nat.mul_le_mul_right e.sz (show k+1≤i by omega);rw[Nat.add_mul]at this;omega
  ·have:=Nat.mul_le_mul_right e.sz (show i+1≤k by omega);rw[Nat.add_mul]at this;omega
theorem ZhX [Glb] {P:Program} {rows:Rows} {loc:Loc} {w:World} {S:Fp} {L:Nat→Prop} (H:Heap rows loc w S L) {id b o cap:Nat} {e:E} {l:List e.C} {ips:Ips} (er:rows id=some (.row true e l))
  (el:loc id=some (.row (some (b,o)) cap l.length e ips)) {i off:Nat} (hi:i<l.length) {x:e.C} {vs:List Value} (hone:J9 vs) (hoff:off+vs.length≤e.sz) (hn:e≠ .n)
  (hnew: ∀j,(h:j<vs.length)→vs[j]=elV e x (ips i) (off+j)) (hold: ∀j,j<e.sz→(j<off∨off+vs.length≤j)→elV e l[i] (ips i) j=elV e x (ips i) j):
  ∃w',(storeCells (adr (b,o+i*e.sz+off)) vs).run P w= .ok () w'∧Heap (QD rows id (.row true e (l.set i x))) loc w' S L∧Frame S w w':=by
 obtain ⟨w',h1,h2,h3,h4,h5,h6,_⟩:=ZoV (P:=P) H er el hi (ip:=ips i) hone hoff hnew hold;have hown: ∀b1 o1,own loc id (.row true e (l.set i x)) b1 o1→own loc id (.row true e l) b1 o1:=fun _ _ h=>h;refine ⟨w',h1,H.write er h2 h5 ⟨some (b,o),cap,ips,by simpa using el,by simpa using h6,(fun h=>by cases h),fun b1 o1 e1=> ?_,?_⟩ hown (fun _ h=>h.elim),h2.mono fun b1 o1 h=>H.inS id _ er b1 o1 (h5 b1 o1 h)⟩
 ·simp only[Zg,Zz]at e1;obtain ⟨rfl,rfl⟩:=e1;refine ⟨fun k hk j hj=> ?_,fun _=>h4⟩;rw[h3 k hk j hj];by_cases hki:k=i
  ·subst hki;rw[Ze rfl]
  ·rw[Zc hki]
 ·cases e<;>first|trivial|exact absurd rfl hn
theorem Zar (P:Program) (t:TypeId) (a:Addr) (v:Value) (w:World):(Instr.storeAt t (.pointer (some a)) v).run P w=(storeVar t a v).run P w:=by
 simp[Instr.storeAt,Instr.sureAddr]
theorem ZeF {P:Program} {t:TypeId} (h:P.cellsOf t≠0): ∃i,P.info? t=some i:=by
 unfold Program.cellsOf at h;cases hi:P.info? t with
 |none=>rw[hi]at h;simp at h
 |some i=>exact ⟨i,rfl⟩
theorem Zka {w:World} {a:Option (Nat×Nat)} {cap:Nat} {l:List Int} {ips:Ips} (h:Qq w true .i a cap l ips):JT w true l ⟨a,cap,l.length,ips.q⟩:=by
 obtain ⟨h1,h2,h3,_⟩:=h;refine ⟨rfl,h1,h2,fun b o ea=>⟨fun j hj=> ?_,fun _=> ?_⟩⟩
 ·have:=(h3 b o ea).1 j hj 0 (by decide);simpa [E.sz,elV] using this
 ·simpa [E.sz] using (h3 b o ea).2 rfl
theorem Zd2 [Glb] (rows:Rows) (us:Us) (id:Nat) (x:Row):Zj rows (us++[(id, .scrub),(id,x)])=QD (Zj rows us) id x:=by
 rw[Qd];simp only[Zj];rw[ZdZ]
theorem Wi (a b:Us):Q2 (a++b)=Q2 a++Q2 b:=by
 induction a with
 |nil=>rfl
 |cons p r ih=>
  obtain ⟨i,x⟩:=p;cases x<;>simp[Q2,ih]
theorem Zkv {x:Nat}: ∀{l:List Nat},x∈l→Q9 x l=true
 |y::r,h=>by
  simp only[Q9];cases hb:Nat.beq x y with
  |true=>rfl
  |false=>
   cases h with
   |head=>simp at hb
   |tail _ h=>exact Zkv h
theorem ZD.inner [Glb] {loc loc':Loc} {id:Nat} {a:Option (Nat×Nat)} {cap len:Nat} {ips ips':Ips} (el:loc id=some (.row a cap len .n ips)) (el':loc' id=some (.row a cap len .n ips')) (hq:ips'.q=ips.q)
  (ho: ∀j,j≠id→loc' j=loc j) {ks:List Nat} (hk:id∈ks) {x:SV} {v:Value} (h:ZD loc x v):ZD loc' (JW ks x) v:=by
 have key: ∀j p,loc j=some p→j=id∨loc' j=some p:=fun j p e=>by
  by_cases hj:j=id
  ·exact .inl hj
  ·exact .inr (by rw[ho j hj];exact e)
 cases x<;>simp only[JW,ZD]at h⊢ <;>first
  |exact h
  | (obtain ⟨b,o,n,e,hv⟩:=h
     rcases key _ _ e with rfl|e'
     ·rw[el]at e;cases e
     ·exact ⟨b,o,n,e',hv⟩)
  | (obtain ⟨b,o,cap1,len1,e1,ips1,e,r⟩:=h
     rcases key _ _ e with rfl|e'
     ·rw[el]at e;simp only[Zg,Pl.row.injEq]at e;obtain ⟨rfl,rfl,rfl,rfl,rfl⟩:=e;exact ⟨b,o,_,_,_,_,el',r⟩
     ·exact ⟨b,o,cap1,len1,e1,ips1,e',r⟩)
  | (obtain ⟨a1,cap1,len1,e1,ips1,e,r⟩:=h
     rcases key _ _ e with rfl|e'
     ·rw[el]at e;simp only[Zg,Pl.row.injEq]at e;obtain ⟨rfl,rfl,rfl,rfl,rfl⟩:=e;exact ⟨_,_,_,_,_,el',by rw[hq];exact r⟩
     ·exact ⟨a1,cap1,len1,e1,ips1,e',r⟩)
  | (cases hm:Q9 _ ks with
     |true=>
      rw[Zb]
      first
       | (obtain ⟨_,_,_,_,_,_,_,_,_,_,_,_,rfl⟩:=h;rfl)
       | (obtain ⟨_,_,_,_,_,_,_,rfl⟩:=h;rfl)
       | (obtain ⟨_,_,_,_,_,_,_,_,_,rfl⟩:=h;rfl)
     |false=>
      rw[Zd]
      first
       | (obtain ⟨a1,cap1,len1,ips1,b,o,e,r⟩:=h
          rcases key _ _ e with rfl|e'
          ·rw[Zkv hk]at hm;cases hm
          ·exact ⟨a1,cap1,len1,ips1,b,o,e',r⟩)
       | (obtain ⟨a1,cap1,len1,ips1,e,r⟩:=h
          rcases key _ _ e with rfl|e'
          ·rw[Zkv hk]at hm;cases hm
          ·exact ⟨a1,cap1,len1,ips1,e',r⟩))
theorem Zgq {ks:List Nat} {x:SV} (h:okS x=true):JW ks x=x:=by cases x<;>first|rfl| (simp[okS]at h)
theorem ZhW [Glb] {P:Program} {rows:Rows} {loc:Loc} {w:World} {S S1:Fp} {L:Nat→Prop} (H:Heap rows loc w S L) {id b o cap:Nat} {l:List (List Int)} {ips:Ips} (er:rows id=some (.row true .n l))
  (el:loc id=some (.row (some (b,o)) cap l.length .n ips)) {i:Nat} (hi:i<l.length) {x:List Int} {ip:IP} (hx:JT w true x ip)
  (hb: ∀b1 o1,ip.a=some (b1,o1)→(∃o2,(ips i).a=some (b1,o2))∨ ∀o',S1 b1 o') (hd:Dis (Qa rows loc) S1) (hS:Sub2 S1 S):
  ∃w',(storeCells (adr (b,o+i)) [slV ip.a ip.q ip.len ip.cap]).run P w= .ok () w'∧Frame S w w'∧
   ∃loc',Heap (QD rows id (.row true .n (l.set i x))) loc' w' S L∧(∀ks,id∈ks→ ∀x u,ZD loc x u→ZD loc' (JW ks x) u):=by
 obtain ⟨w',h1,h2,h3,h4,h5,h6,h7⟩:=ZoV (P:=P) H er el hi (x:=x) (ip:=ip) (off:=0) (vs:=[slV ip.a ip.q ip.len ip.cap]) ⟨rfl,trivial⟩ (by simp[E.sz]) (fun j hj=>by
  obtain rfl:j=0:=by simpa using hj
  rfl) (fun j hj hjo=>by simp[E.sz]at hj;simp at hjo;omega)
 simp only[E.sz,Nat.mul_one,Nat.add_zero]at h1 h3 h4
 let ips':Ips:=⟨fun k=>if k=i then ip else ips k,ips.q⟩
 have eset:(l.set i x).length=l.length:=by simp
 have el':Jk loc id (.row (some (b,o)) cap l.length .n ips') id=some (.row (some (b,o)) cap l.length .n ips'):=Yi _ _ _;have hmono: ∀ks,id∈ks→ ∀x u,ZD loc x u→ZD (Jk loc id (.row (some (b,o)) cap l.length .n ips')) (JW ks x) u:=fun ks hk x u h=>
  ZD.inner el el' rfl (fun j hj=>YX _ _ hj) hk h
 have hne: ∀b1 o1,ip.a=some (b1,o1)→b1≠b:=by
  intro b1 o1 e1 e2;subst e2;rcases hb b1 o1 e1 with ⟨o2,e2⟩|hs
  ·exact (h7.2 rfl).2 i hi b1 o2 e2 rfl
  ·exact hd b1 0 ⟨id,_,er,h5 b1 0 rfl⟩ (hs 0)
 have hown: ∀b1 o1,own (Jk loc id (.row (some (b,o)) cap l.length .n ips')) id (.row true .n (l.set i x)) b1 o1→own loc id (.row true .n l) b1 o1∨S1 b1 o1:=by
  rintro b1 o1 ⟨a0,c0,n0,e0,p0,e1,hp⟩;rw[el']at e1;simp only[Zg,Pl.row.injEq]at e1;obtain ⟨rfl,rfl,rfl,rfl,rfl⟩:=e1;rcases hp with ⟨o2,h⟩| ⟨_,k,hk,o2,h⟩
  ·simp only[Zg,Zz]at h;exact .inl (h5 b1 o1 h.1.symm)
  ·by_cases hki:k=i
   ·subst hki;simp only[ips',if_true]at h;rcases hb b1 o2 h with ⟨o3,e3⟩|hs
    ·exact .inl ⟨_,_,_,_,ips,el, .inr ⟨rfl,k,hk,o3,e3⟩⟩
    ·exact .inr (hs o1)
   ·simp only[ips',Zc hki]at h;exact .inl ⟨_,_,_,_,ips,el, .inr ⟨rfl,k,hk,o2,h⟩⟩
 have hfr: ∀b1,b1≠b→ ∀o',¬(fun b' (o':Nat)=>b'=b) b1 o':=fun b1 h o' e=>h e;have H1:Heap (QD rows id .dead) loc w' S L:=(H.kill id).frame h2 (fun j z ez b1 o1 hz hs=>by
   by_cases hj:j=id
   ·subst hj;rw[QT]at ez;cases ez;exact hz.elim
   ·rw[QA _ _ hj]at ez;exact H.sep j id z _ hj ez er b1 o1 hz (h5 b1 o1 hs)) (fun b1 hb1 o1 hs=>H.dis b1 o1 (H.inS id _ er b1 o1 (h5 b1 o1 hs)) hb1)
 refine ⟨w',h1,h2.mono fun b1 o1 h=>H.inS id _ er b1 o1 (h5 b1 o1 h),_,?_,hmono⟩;rw[←ZdZ rows id .dead];refine H1.upd id _ (fun j hj=>YX _ _ hj) (fun j z hj ez=> ?_) ⟨some (b,o),cap,ips',by rw[eset];exact el',by rw[eset];exact h6,(fun h=>by cases h),fun b1 o1 e1=> ?_,?_⟩ (fun j z hj ez b1 o1 hz hx'=> ?_) (fun _ _ h=>h) (fun b1 o1 h=> ?_) (fun _ h=>h.elim) H1.dis H1.ltS
 ·have:=H1.ok j z ez;cases z with
  |dead=>trivial
  |scrub=>trivial
  |box cs=>
   obtain ⟨b1,o1,e1,k1,k2⟩:=this;refine ⟨b1,o1,by rw[YX _ _ hj];exact e1,k1,fun q hq=> ?_⟩;have:=k2 q hq;generalize cs[q]=y at this⊢;cases y<;>first
    |trivial
    | (obtain ⟨k3,v,k4,k5,k6⟩:=this
       refine ⟨k3,v,k4,?_,k6⟩;have:=hmono [id] (List.mem_singleton.2 rfl) _ _ k5;rw[Zgq k3]at this;exact this)
  |rbox cs=>
   obtain ⟨b1,o1,e1,k2⟩:=this;refine ⟨b1,o1,by rw[YX _ _ hj];exact e1,fun q hq=> ?_⟩;have:=k2 q hq;generalize cs[q]=y at this⊢;cases y<;>first
    |trivial
    | (obtain ⟨k3,v,k4,k5,k6⟩:=this
       refine ⟨k3,v,k4,?_,k6⟩;have:=hmono [id] (List.mem_singleton.2 rfl) _ _ k5;rw[Zgq k3]at this;exact this)
  |row ow e l1=>
   obtain ⟨a1,c1,p1,e1,k1⟩:=this;exact ⟨a1,c1,p1,by rw[YX _ _ hj];exact e1,k1⟩
 ·simp only[Zg,Zz]at e1;obtain ⟨rfl,rfl⟩:=e1;refine ⟨fun k hk j hj=> ?_,fun _=>by simpa [E.sz] using h4⟩;simpa [E.sz] using h3 k hk j hj
 ·refine ⟨fun k hk=> ?_,fun _=>⟨fun j k hj hk hjk b1 o1 b2 o2 e1 e2=> ?_,fun k hk b1 o1 e1 e2=> ?_⟩⟩
  ·rw[ZaV];by_cases hki:k=i
   ·subst hki;rw[Ze rfl];show JT w' true x (ips' k);simp only[ips',if_true];exact hx.frame h2 fun b1 o1 e1 _=>hfr b1 (hne b1 o1 e1)
   ·rw[Zc hki];show JT w' true _ (ips' k);simp only[ips',Zc hki];have hk':k<l.length:=by simpa using hk
    exact (h7.1 k hk').frame h2 fun b1 o1 e1 _=>hfr b1 (fun e=>(h7.2 rfl).2 k hk' b1 o1 e1 (by rw[e]))
  ·rw[eset]at hj hk;by_cases hji:j=i
   ·subst hji;have hki:k≠j:=fun h=>hjk h.symm;simp only[ips',if_true]at e1;simp only[ips',Zc hki]at e2;rcases hb b1 o1 e1 with ⟨o3,e3⟩|hs
    ·exact (h7.2 rfl).1 j k hi hk hjk b1 o3 b2 o2 e3 e2
    ·intro e;subst e;exact hd b1 0 ⟨id,_,er,_,_,_,_,ips,el, .inr ⟨rfl,k,hk,o2,e2⟩⟩ (hs 0)
   ·simp only[ips',Zc hji]at e1;by_cases hki:k=i
    ·subst hki;simp only[ips',if_true]at e2;rcases hb b2 o2 e2 with ⟨o3,e3⟩|hs
     ·exact (h7.2 rfl).1 j k hj hi hjk b1 o1 b2 o3 e1 e3
     ·intro e;subst e;exact hd b1 0 ⟨id,_,er,_,_,_,_,ips,el, .inr ⟨rfl,j,hj,o1,e1⟩⟩ (hs 0)
    ·simp only[ips',Zc hki]at e2;exact (h7.2 rfl).1 j k hj hk hjk b1 o1 b2 o2 e1 e2
  ·rw[eset]at hk;simp only[Option.map_some,Zg]at e2;by_cases hki:k=i
   ·subst hki;simp only[ips',if_true]at e1;exact hne b1 o1 e1 e2.symm
   ·simp only[ips',Zc hki]at e1;exact (h7.2 rfl).2 k hk b1 o1 e1 (by rw[e2])
 ·rw[QA _ _ hj]at ez;rcases hown b1 o1 hx' with h|h
  ·exact H.sep j id z _ hj ez er b1 o1 hz h
  ·exact hd b1 o1 ⟨j,z,ez,hz⟩ h
 ·rcases hown b1 o1 h with h|h
  ·exact H.inS id _ er b1 o1 h
  ·exact hS b1 o1 h
theorem ZkL [Glb] {rows:Rows} {e:E} {sv:SV} {l:List e.C} {id:Nat} (h:Qv rows e sv=some (l,some (id,true))): ∃l',rows id=some (.row true e l'):=by
 cases sv with
 |slf id'=>
  simp only[Qv]at h;split at h
  ·rename_i ow e' row hr;split at h
   ·rename_i l' hc;simp only[Zg,Zz]at h;obtain ⟨_,rfl,rfl⟩:=h;obtain ⟨rfl,_⟩:=ZaE hc;exact ⟨_,hr⟩
   ·cases h
  ·cases h
 |sld id' o=>
  simp only[Qv]at h;split at h
  ·rename_i ow e' row hr;split at h
   ·rename_i l' hc;simp only[Zg,Zz]at h;obtain ⟨_,rfl,rfl⟩:=h;obtain ⟨rfl,_⟩:=ZaE hc;exact ⟨_,hr⟩
   ·cases h
  ·cases h
 |slt id' n=>
  simp only[Qv]at h;split at h
  ·rename_i ow e' row hr;split at h
   ·rename_i l' hc;simp only[Zg,Zz]at h;obtain ⟨_,rfl,rfl⟩:=h;obtain ⟨rfl,_⟩:=ZaE hc;exact ⟨_,hr⟩
   ·cases h
  ·cases h
 |nslf id' i=>
  cases e with
  |i=>
   simp only[Qv]at h;split at h
   ·simp at h
   ·cases h
  |_=>simp[Qv]at h
 |nil=>simp[Qv]at h
 |_=>simp[Qv]at h
theorem ZjY [Glb] {rows:Rows} {e:E} {sv:SV} {x:(LT.sl true e).D} {us:Us} {ls:List Nat} (h:QQ rows (.sl true e) sv=some (x,us,ls)):
  ls=[]∧(us=[]∨ ∃id l,us=[(id, .dead)]∧rows id=some (.row true e l)):=by
 have h':(match Qv rows e sv with
   |some (l,none)=>some (l,([]:Us),([]:List Nat))
   |some (l,some (id,o))=>bif true then (bif o then some (l,[(id, .dead)],[])else none)else some (l,[],[id])
   |none=>none)=some (x,us,ls):=by
  cases sv<;>exact h
 split at h'
 ·simp only[Zg,Zz]at h';obtain ⟨_,rfl,rfl⟩:=h';exact ⟨rfl, .inl rfl⟩
 ·rename_i l id o hs;cases o with
  |false=>cases h'
  |true=>
   simp only[Zb,Zg,Zz]at h';obtain ⟨_,rfl,rfl⟩:=h';obtain ⟨l',hl⟩:=ZkL hs;exact ⟨rfl, .inr ⟨id,l',rfl,hl⟩⟩
 ·cases h'
theorem ZhU {rows:Rows} {loc:Loc} {e:E} (hn:e≠ .n) {cv:CV} {x:e.C} {us:Us} {v:Value} (h:Jc rows e cv=some (x,us)) (hv:Ym loc cv v):
  us=[]∧ ∃vs:List Value,v.cells=vs.toArray∧vs.length=e.sz∧J9 vs∧ ∀(p:IP) j,(hj:j<vs.length)→vs[j]=elV e x p j:=by
 cases e with
 |n=>exact absurd rfl hn
 |i=>
  cases cv with
  |agg l=>simp[Jc]at h
  |s y=>
   cases y<;>first| (simp[Jc]at h;done)|skip
   rename_i k n;cases k<;>simp[Jc]at h;obtain ⟨rfl,rfl⟩:=h;obtain rfl:=hv;refine ⟨rfl,[.int .i64 n],rfl,rfl,⟨rfl,trivial⟩,fun p j hj=> ?_⟩;obtain rfl:j=0:=by simpa using hj
   rfl
 |b=>
  cases cv with
  |agg l=>simp[Jc]at h
  |s y=>
   cases y<;>first| (simp[Jc]at h;done)|skip
   rename_i k n;cases k<;>simp[Jc]at h;obtain ⟨rfl,rfl⟩:=h;obtain rfl:=hv;refine ⟨rfl,[.int .u8 n],rfl,rfl,⟨rfl,trivial⟩,fun p j hj=> ?_⟩;obtain rfl:j=0:=by simpa using hj
   rfl
 |s=>
  cases cv with
  |agg l=>simp[Jc]at h
  |s y=>
   cases y<;>first| (simp[Jc]at h;done)|skip
   rename_i n;simp[Jc]at h;obtain ⟨rfl,rfl⟩:=h;obtain rfl:=hv;refine ⟨rfl,[.string n],rfl,rfl,⟨rfl,trivial⟩,fun p j hj=> ?_⟩;obtain rfl:j=0:=by simpa using hj
   rfl
 |o=>
  cases cv with
  |agg l=>simp[Jc]at h
  |s y=>
   cases y<;>first| (simp[Jc]at h;done)|skip
   rename_i n;simp[Jc]at h;obtain ⟨rfl,rfl⟩:=h;obtain rfl:=hv;refine ⟨rfl,[.bool n],rfl,rfl,⟨rfl,trivial⟩,fun p j hj=> ?_⟩;obtain rfl:j=0:=by simpa using hj
   rfl
 |t=>
  cases cv with
  |s y=>cases y<;>simp[Jc]at h
  |agg l=>
   have key: ∃a b c,l=[.int .i64 a, .int .i64 b, .int .i64 c]∧x=(a,b,c)∧us=[]:=by
    match l,h with
    | [.int .i64 a, .int .i64 b, .int .i64 c],h=>
     simp[Jc]at h;exact ⟨a,b,c,rfl,h.1.symm,h.2⟩
   obtain ⟨a,b,c,rfl,rfl,rfl⟩:=key;obtain ⟨cs,rfl,r⟩:=hv
   match cs,r with
   | [_,_,_],⟨rfl,rfl,rfl,_⟩=>
    refine ⟨rfl,_,rfl,rfl,⟨rfl,rfl,rfl,trivial⟩,fun p j hj=> ?_⟩
    match j,hj with
    |0,_=>rfl
    |1,_=>rfl
    |2,_=>rfl
    |n+3,h=>exact absurd h (by simp)
theorem JT.drop {w:World} {ow:Bool} {l:List Int} {p:IP} (h:JT w ow l p) (k:Nat) (hk:k≤l.length):
  JT w ow (l.drop k) ⟨if p.cap=k then p.a else p.a.map fun q=>(q.1,q.2+k),p.cap-k,p.len-k,p.q⟩:=by
 obtain ⟨h1,h2,h3,h4⟩:=h;have hl:(l.drop k).length=l.length-k:=List.length_drop;refine ⟨by simp only[hl,h1],by simp only[hl];omega,fun hn=> ?_,fun b o ea=> ?_⟩
 ·simp only at hn;have:p.a=none:=by
   by_cases hc:p.cap=k
   ·rw[Ze hc]at hn;exact hn
   ·rw[Zc hc]at hn;revert hn;cases p.a<;>simp
  have:=h3 this;exact ⟨by simp only;omega,this.2⟩
 ·simp only at ea;by_cases hc:p.cap=k
  ·rw[Ze hc]at ea;obtain ⟨_,g2⟩:=h4 b o ea;refine ⟨fun j hj=>by omega,fun ho=> ?_⟩;obtain ⟨c,ty,e1,e2⟩:=g2 ho;exact ⟨c,ty,e1,by simp only;omega⟩
  ·rw[Zc hc]at ea;cases hp:p.a with
   |none=>rw[hp]at ea;simp at ea
   |some q=>
    rw[hp]at ea;simp only[Option.map_some,Zg,Zz]at ea;obtain ⟨rfl,rfl⟩:=ea;obtain ⟨g1,g2⟩:=h4 q.1 q.2 (by rw[hp]);refine ⟨fun j hj=> ?_,fun ho=> ?_⟩
    ·have:=g1 (k+j) (by omega);rw[show q.2+k+j=q.2+(k+j) by omega,this];congr 2;rw[List.getElem_drop]
    ·obtain ⟨c,ty,e1,e2⟩:=g2 ho;exact ⟨c,ty,e1,by simp only;omega⟩
theorem Zbk [Glb] {P:Program} {t:TypeId} {n:Nat} (h:Nat.beq (P.cellsOf t) n=true) (hn:n≠0): ∃i,P.info? t=some i:=ZeF (by rw[Nat.eq_of_beq_eq_true h];exact hn)
theorem Z4.store [Glb] {rows:Rows} {loc:Loc} {w w':World} {S:Fp} {L:Nat→Prop} {us:Us} (H:Heap (Zj rows us) loc w' S L) (hs:Q2 us=[]) (hf:Frame S w w'):Z4 rows loc w S L us Jy undef w':=
 Z4.ext H hs rfl (Ext.refl _) (fun _ _ h=> .inl h) hf
theorem Zoy [Glb] {P:Program} {rows:Rows} {loc:Loc} {w:World} {S:Fp} {L:Nat→Prop} (H:Heap rows loc w S L) {t:TypeId} {tv tu:TV} {v u:Value} {f:F} (hv:ZK loc tv v) (hu:ZK loc tu u)
  (h:Xa P rows t tv tu=some f) (hc: ∀c,c∈f.checks→c=true):
  f.v=Jy∧ ∃w',(Instr.storeAt t v u).run P w= .ok () w'∧Z4 rows loc w S L f.us Jy undef w':=by
 unfold Xa at h;split at h
 ·rename_i id off;obtain ⟨b,o,n,el,rfl⟩:=hv;split at h
  ·rename_i cs vs hr hcells;obtain ⟨us,hcu,hrel,hall⟩:=Zd4 hcells hu;cases hb:((ZrG P t&&Nat.beq vs.length (P.cellsOf t))&&(Nat.ble (off+vs.length) cs.length&&okL ((cs.drop off).take vs.length)))with
   |false=>rw[hb]at h;cases h
   |true=>
    rw[hb,Zb,Zg]at h;subst h;simp only[Bool.and_eq_true]at hb;obtain ⟨⟨hb1,hb2⟩,hb3,hb4⟩:=hb;have hi: ∃i,P.info? t=some i:=by
     unfold ZrG at hb1;split at hb1
     ·rename_i i hi;exact ⟨i,hi⟩
     ·cases hb1
    obtain ⟨i,hi⟩:=hi;obtain ⟨b',o',el',_⟩:=H.ok id _ hr;rw[el]at el';simp only[Zg,Pl.box.injEq]at el';obtain ⟨rfl,rfl,rfl⟩:=el';obtain ⟨w',h1,h2,h3⟩:=ZpV (P:=P) H hr el (Nat.le_of_ble_eq_true hb3) hrel hall hb4;refine ⟨rfl,w',?_,Z4.store h2 rfl h3⟩;rw[Zar];exact Zaf hi hcu (by rw[←hrel.len];exact Nat.eq_of_beq_eq_true hb2) h1
  ·cases h
 ·rename_i id i off cv;obtain ⟨b,o,cap,len,e,ips,el,h0,hi,rfl⟩:=hv;split at h
  ·rename_i e' l hr;obtain ⟨a',cap',ips',el',hat⟩:=H.ok id _ hr;rw[el]at el';simp only[Zg,Pl.row.injEq]at el';obtain ⟨rfl,rfl,rfl,rfl,rfl⟩:=el';split at h
   ·
    rename_i l' id' i' k;obtain ⟨a2,cap2,len2,ips2,el2,_,_,hk0,hk,rfl⟩:=hu;split at h
    ·rename_i _ _ hii _ hb;subst hii;obtain rfl:=Nat.eq_of_beq_eq_true hb;rw[el]at el2;simp only[Zg,Pl.row.injEq,true_and]at el2;obtain ⟨rfl,rfl,rfl,rfl⟩:=el2;cases hb:(Nat.beq off 0&&Nat.beq (P.cellsOf t) 1)with
     |false=>rw[hb]at h;cases h
     |true=>
      rw[hb,Zb,Zg]at h;subst h;simp only[Bool.and_eq_true]at hb;obtain rfl:=Nat.eq_of_beq_eq_true hb.1;obtain ⟨ti,hti⟩:=Zbk hb.2 (by decide);have hin:=hat.2.2.2.1 i.toNat hi;have hkl:k.toNat≤(l'[i.toNat]).length:=by have:=hin.1;omega
      obtain ⟨w',h1,h2,loc',h3,h4⟩:=ZhW (P:=P) (S1:=ZC) H hr el hi (hin.drop k.toNat hkl) (fun b1 o1 e1=>by
       left;simp only at e1;by_cases hcc:(ips i.toNat).cap=k.toNat
       ·rw[Ze hcc]at e1;exact ⟨o1,e1⟩
       ·rw[Zc hcc]at e1;cases hp:(ips i.toNat).a with
        |none=>rw[hp]at e1;simp at e1
        |some q=>rw[hp]at e1;simp only[Option.map_some,Zg,Zz]at e1;exact ⟨q.2,by rw[←e1.1]⟩) (fun _ _ _ h=>h) (fun _ _ h=>h.elim)
      refine ⟨rfl,w',?_,loc',S,?_,rfl,h4 _ (by simp[Q2]),fun _ _ h=> .inl h,h2⟩
      ·rw[Zar];refine Zaf hti (vs:=[_]) rfl (by simpa using (Nat.eq_of_beq_eq_true hb.2).symm) ?_;simpa [E.sz] using h1
      ·have:=Zd2 rows [] id (.row true .n (l'.set i.toNat ((rdE .n l' i).drop k.toNat)));simp only[List.nil_append]at this;rw[this,Wg hi];exact h3
    ·cases h
   ·
    rename_i l' n;obtain rfl:=hu;cases hb:(Nat.blt off 3&&Nat.beq (P.cellsOf t) 1)with
    |false=>rw[hb]at h;cases h
    |true=>
     rw[hb,Zb,Zg]at h;subst h;simp only[Bool.and_eq_true]at hb;have hoff:off<3:=Nat.le_of_ble_eq_true hb.1;obtain ⟨ti,hti⟩:=Zbk hb.2 (by decide);rw[Wg hi];obtain ⟨w',h1,h2,h3⟩:=ZhX (P:=P) H hr el hi (off:=off) (x:=ZsL l'[i.toNat] n off) (vs:=[.int .i64 n]) ⟨rfl,trivial⟩ (by simp[E.sz];omega) (by simp) (fun j hj=>by
      obtain rfl:j=0:=by simpa using hj
      match off,hoff with
      |0,_=>rfl
      |1,_=>rfl
      |2,_=>rfl
      |m+3,h=>omega) (fun j hj hjo=>by
      simp only[E.sz]at hj;simp only[List.length_singleton]at hjo
      match off,hoff,j,hj,hjo with
      |0,_,1,_,_=>rfl
      |0,_,2,_,_=>rfl
      |1,_,0,_,_=>rfl
      |1,_,2,_,_=>rfl
      |2,_,0,_,_=>rfl
      |2,_,1,_,_=>rfl
      |0,_,0,_,h=>omega
      |1,_,1,_,h=>omega
      |2,_,2,_,h=>omega
      |m+3,h,_,_,_=>omega
      |_,_,m+3,h,_=>omega)
     refine ⟨rfl,w',?_,Z4.store h2 rfl h3⟩;rw[Zar];exact Zaf hti (vs:=[_]) rfl (by simpa using (Nat.eq_of_beq_eq_true hb.2).symm) h1
   ·
    rename_i l' sv hns;split at h
    ·rename_i x us ls htk;cases hb:(Nat.beq off 0&&Nat.beq (P.cellsOf t) 1)with
     |false=>rw[hb]at h;cases h
     |true=>
      rw[hb,Zb,Zg]at h;subst h;simp only[Bool.and_eq_true]at hb;obtain rfl:=Nat.eq_of_beq_eq_true hb.1;obtain ⟨ti,hti⟩:=Zbk hb.2 (by decide);obtain ⟨rfl,hus⟩:=ZjY htk;have hsv:ZD loc sv u:=Vn hu (by rintro rfl;simp[QQ,Qv]at htk);obtain ⟨S1,T,_,k⟩:=ZcG H htk hsv;obtain ⟨a2,cap2,ips2,rfl,hat2,hb2⟩:=k false _ (.refl _) rfl;have er1:Zj rows us id=some (.row true .n l'):=by
       rcases hus with rfl| ⟨id2,l2,rfl,hr2⟩
       ·exact hr
       ·simp only[Zj];have:id≠id2:=by rintro rfl;rw[hr]at hr2;cases hr2
        rw[QA _ _ this];exact hr
      have hscr:Q2 us=[]:=by rcases hus with rfl| ⟨id2,l2,rfl,_⟩<;>rfl
      obtain ⟨w',h1,h2,loc',h3,h4⟩:=ZhW (P:=P) (S1:=S1) T.heap er1 el hi (Zka hat2) (fun b1 o1 e1=> .inr fun o'=>hb2 b1 (.inl ⟨o1,e1⟩) o') (fun b1 o1 h=>(T.apart b1 o1 h).2)
       (fun b1 o1 h=>by obtain ⟨j,y,ey,hy⟩:=T.from_ b1 o1 h;exact H.inS j y ey b1 o1 hy)
      refine ⟨rfl,w',?_,loc',S,?_,rfl,h4 _ (by simp[Wi,Q2]),fun _ _ h=> .inl h,h2⟩
      ·rw[Zar];refine Zaf hti (vs:=[_]) rfl (by simpa using (Nat.eq_of_beq_eq_true hb.2).symm) ?_;simpa [E.sz] using h1
      ·rw[Zd2];exact h3
    ·cases h
   ·
    rename_i l' hn1 hn2 hn3;split at h
    ·rename_i x us htk;cases hb:(Nat.beq off 0&&Nat.beq (P.cellsOf t) e.sz)with
     |false=>rw[hb]at h;cases h
     |true=>
      rw[hb,Zb,Zg]at h;subst h;simp only[Bool.and_eq_true]at hb;obtain rfl:=Nat.eq_of_beq_eq_true hb.1;obtain ⟨ti,hti⟩:=Zbk hb.2 (by have:=Zia e;omega);have hne:e≠ .n:=by
       rintro rfl;cases cv with
       |s y=>exact hn3 _ y rfl HEq.rfl rfl
       |agg l=>simp[Jc]at htk
      obtain ⟨rfl,vs,hvs,hlen,hone,hel⟩:=ZhU hne htk hu;obtain ⟨w',h1,h2,h3⟩:=ZhX (P:=P) H hr el hi (off:=0) (x:=x) (vs:=vs) hone (by omega) hne (fun j hj=>by rw[Nat.zero_add];exact hel _ j hj) (fun j hj hjo=>by omega);refine ⟨rfl,w',?_,Z4.store h2 rfl h3⟩;rw[Zar];exact Zaf hti hvs (by rw[hlen];exact (Nat.eq_of_beq_eq_true hb.2).symm) h1
    ·cases h
  ·cases h
 ·rename_i id i j n;obtain ⟨a,cap,len,ips,b,o,el,h0,hi,hb,hj0,hj,rfl⟩:=hv;obtain rfl:=hu;split at h
  ·rename_i l hr;obtain ⟨a',cap',ips',el',hat⟩:=H.ok id _ hr;rw[el]at el';simp only[Zg,Pl.row.injEq,true_and]at el';obtain ⟨rfl,rfl,rfl,rfl⟩:=el';cases hb1:Nat.beq (P.cellsOf t) 1 with
   |false=>rw[hb1]at h;cases h
   |true=>
    rw[hb1,Zb,Zg]at h;subst h;obtain ⟨ti,hti⟩:=Zbk hb1 (by decide);obtain ⟨g1,g2,g3,g4⟩:=hat.2.2.2.1 i.toNat hi;obtain ⟨gc,gob⟩:=g4 b o hb;have gob:=gob rfl;have hjl:j.toNat<l[i.toNat].length:=by omega
    obtain ⟨w',h1,h2,h3⟩:=Zac P b (o+j.toNat) (o+(ips i.toNat).cap) [.int .i64 n] 0 w gob (by simp;omega) ⟨rfl,trivial⟩;simp only[Nat.add_zero,List.length_singleton]at h2 h3;rw[Wg hi];have hdist:=hat.2.2.2.2 rfl;have hown: ∀b1 o1,(b1=b∧o+j.toNat≤o1∧o1<o+j.toNat+1)→own loc id (.row true .n l) b1 o1:=by
     rintro b1 o1 ⟨rfl,_⟩;exact ⟨a,cap,_, .n,ips,el, .inr ⟨rfl,i.toNat,hi,o,hb⟩⟩
    have eset:(l.set i.toNat (List.set l[i.toNat] j.toNat n)).length=l.length:=by simp
    refine ⟨rfl,w',?_,Z4.store (H.write hr h3 hown ⟨a,cap,ips,by rw[eset];exact el,by rw[eset];exact hat.1,hat.2.1,fun b1 o1 e1=> ?_,?_⟩ ?_ (fun _ h=>h.elim)) rfl (h3.mono fun b1 o1 h=>H.inS id _ hr b1 o1 (hown b1 o1 h))⟩
    ·rw[Zar];exact Zaf hti (vs:=[_]) rfl (by simpa using (Nat.eq_of_beq_eq_true hb1).symm) h1
    ·have hbb:b1≠b:=by
      rintro rfl;exact hdist.2 i.toNat hi b1 o hb (by rw[e1];rfl)
     refine ⟨fun k hk q hq=> ?_,fun _=>h3.ownB ((hat.2.2.1 b1 o1 e1).2 rfl)⟩;have hk':k<l.length:=by omega
     have hold:=(hat.2.2.1 b1 o1 e1).1 k hk' q hq;rw[h3.cell (Uq hold) (fun h=>hbb h.1),hold];rfl
    ·refine ⟨fun k hk=> ?_,fun _=>⟨fun k q hk hq=>hdist.1 k q (by omega) (by omega),fun k hk=>hdist.2 k (by omega)⟩⟩;have hk':k<l.length:=by omega
     obtain ⟨q1,q2,q3,q4⟩:=hat.2.2.2.1 k hk';rw[ZaV];by_cases hki:k=i.toNat
     ·subst hki;rw[Ze rfl];refine ⟨by simp[q1],by simpa using q2,q3,fun b1 o1 e1=>⟨fun m hm=> ?_,fun _=>h3.ownB ((q4 b1 o1 e1).2 rfl)⟩⟩;rw[hb]at e1;simp only[Zg,Zz]at e1;obtain ⟨rfl,rfl⟩:=e1;have hm':m<l[i.toNat].length:=by simpa using hm
      rw[ZaV];by_cases hmj:m=j.toNat
      ·subst hmj;rw[Ze rfl];simpa using h2 0 (by simp)
      ·rw[Zc hmj,h3.cell gob.lt (by omega)];exact gc m hm'
     ·rw[Zc hki];refine JT.frame h3 (fun b1 o1 e1 _ o' h=> ?_) ⟨q1,q2,q3,q4⟩;exact hdist.1 k i.toNat hk' hi hki b1 o1 b o e1 hb h.1
    ·intro b1 o1 h;exact h
  ·cases h
 ·cases h
end Go.Tev
