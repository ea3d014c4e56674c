/- A law answers true. No condition. -/
import Derived.Test.YtcbdldlphpjmbaaGreatDoorPQ
set_option linter.unusedVariables false
set_option linter.unusedSimpArgs false
namespace Go.Proofs.YtcbdldlphpjmbaaGreatDoor.Plain
open Go Go.Tev
theorem ZkJ {b:List Int} {t:YM} (h:Cur b t):Ans (r17 ((b,t),())) (Dr b fun _:ByteArray=>True):=by
 unfold r17 m17;refine (ZnG h).bind ?_;rintro _ ⟨(v:ByteArray),t1,rfl,hc,hv⟩;dsimp only;generalize hz:(bz [97,116,32,50,53,48,10,98,121,116,101,32,49,50,56,10,98,121,116,101,32,49,57,50,10,98,121,116,101,32,48,10,98,121,116,101,32,49,57,50,10,98,121,116,101,32,49,54,48,10,98,121,116,101,32,49,57,50,10])=z;have hz:z.size≤200:=by rw[←hz];decide+kernel
 have hw:(v++z).size=v.size+z.size:=ByteArray.size_append;rw[ZI (show ByteArray.size v+z.size≤4611686018427387904 by omega),Zb];refine (Zca hc 12).bind ?_;rintro _ ⟨o,t2,rfl,hc,_⟩;dsimp only;cases o
 ·exact .ret ⟨_,_,rfl,hc,trivial⟩
 rw[Zb,hw,Zr (by omega) (by omega)];refine (Vu hc _).bind ?_;rintro _ ⟨(k:Int),t3,rfl,hc,hk,_⟩;obtain ⟨k0,k1⟩:=hk (by omega);dsimp only;have x1:((v++z).extract 0 k.toNat).size≤v.size+z.size:=by rw[ByteArray.size_extract];omega
 have x2:((v++z).extract k.toNat (v.size+z.size)).size≤v.size+z.size:=by rw[ByteArray.size_extract];omega
 have x3:(bz [120]).size=1:=rfl;have x4:((v++z).extract 0 k.toNat++bz [120]).size=((v++z).extract 0 k.toNat).size+(bz [120]).size:=ByteArray.size_append;rw[Zp k0,Zp (show k≤((v.size+z.size:Nat):Int) by omega),ZI (show ((v++z).extract 0 k.toNat).size+(bz [120]).size≤4611686018427387904 by omega),ZI (show ((v++z).extract 0 k.toNat++bz [120]).size+((v++z).extract k.toNat (v.size+z.size)).size≤4611686018427387904 by omega)];exact .ret ⟨_,_,rfl,hc,trivial⟩
theorem ZkI {b:List Int} {t:YM} (h:Cur b t):Ans (r20 ((b,t),())) (Dr b fun v:ByteArray=>v.size≤100):=by
 unfold r20 m20;refine (Zjh h _ (by decide)).bind ?_;rintro _ ⟨w,t1,rfl,hc,hw⟩;have hw:ByteArray.size w≤100:=by
  revert hw;revert w;decide+kernel
 exact .ret ⟨_,_,rfl,hc,hw⟩
theorem ZjL: ∀(k:Nat) (i:Int) (l:ByteArray),0≤i→i≤80→80-i<k→l.size+(80-i).toNat≤100000→Ans (n10_0 r18 r19 r16 r21 r20 r17 k () () (l,(i,()))) fun r=> ∃(l':ByteArray) (i':Int),r=(Sum.inl (l',(i',())),())∧l'.size≤100000
 |0,i,_,_,h,k,_=>absurd k (by omega)
 |k+1,i,l,h0,h1,hk,hl=>by
  unfold n10_0 w10_0;dsimp only;by_cases h:i<80
  ·have hw:(l++bz [10]).size=l.size+1:=ByteArray.size_append;rw[Zl h,Zb,ZI (show ByteArray.size l+ByteArray.size (bz [10])≤4611686018427387904 by rw[←ByteArray.size_append];omega),Zb,Zr (x:=i+1) (by omega) (by omega)];exact ZjL k (i+1) (l++bz [10]) (by omega) (by omega) (by omega) (by omega)
  ·rw[Zx h,Zd];exact .ret ⟨l,i,rfl,by omega⟩
theorem ZjM {b:List Int} (m:Int) (hm:m≤30): ∀(k:Nat) (i:Int) (l:ByteArray) (t:YM),Cur b t→0≤i→i≤m→m-i<k→l.size+101*(m-i).toNat≤90000→
  Ans (n10_1 r18 r19 r16 r21 r20 r17 L10_0 k (m,()) ((b,t),()) (l,(i,()))) fun r=> ∃(l':ByteArray) (i':Int) (t':YM),r=(Sum.inl (l',(i',())),((b,t'),()))∧Cur b t'∧l'.size≤90000
 |0,i,_,_,_,_,_,k,_=>absurd k (by omega)
 |k+1,i,l,t,hc,h0,h1,hk,hl=>by
  unfold n10_1 w10_1;dsimp only;by_cases h:i<m
  ·rw[Zl h,Zb];refine (ZkI hc).bind ?_;rintro _ ⟨(v:ByteArray),t1,rfl,hc,hv⟩;have hw1:(l++v).size=l.size+v.size:=ByteArray.size_append;have hw:(l++v++bz [10]).size=(l++v).size+1:=ByteArray.size_append;dsimp only;rw[ZI (show ByteArray.size l+ByteArray.size v≤4611686018427387904 by omega),Zb,ZI (show ByteArray.size (l++v)+ByteArray.size (bz [10])≤4611686018427387904 by rw[←ByteArray.size_append];omega),Zb,Zr (x:=i+1) (by omega) (by omega)];exact ZjM m hm k (i+1) (l++v++bz [10]) t1 hc (by omega) (by omega) (by omega) (by omega)
  ·rw[Zx h,Zd];exact .ret ⟨l,i,t,rfl,hc,by omega⟩
theorem ZgR {b:List Int} (hb:b.length≤1048576):Ans (r10 (b,())) fun r=> ∃(s:ByteArray) (p:List Int) (cap:Int) (lines:ByteArray),r=((s,(p,(cap,(lines,())))),())∧p.length≤100∧lines.size≤100000:=by
 unfold r10 m10;refine (Zpk b hb).bind ?_;rintro _ ⟨t,rfl,hc⟩;refine (ZkJ hc).bind ?_;rintro _ ⟨(s:ByteArray),t1,rfl,hc,_⟩;refine (Zg1 hc).bind ?_;rintro _ ⟨(p:List Int),t2,rfl,hc,hp⟩;refine (Vu hc 30).bind ?_;rintro _ ⟨(m:Int),t3,rfl,hc,hm,_⟩;obtain ⟨m0,m1⟩:=hm (by omega);dsimp only;refine (ZjM m (by omega) fuel 0 (bz []) t3 hc (by omega) m0 (by have:=ZZ;omega) (by show 0+101*(m-0).toNat≤90000;omega)).bind ?_;rintro _ ⟨l1,i1,t4,rfl,hc,hl⟩;show Ans ((r21 ((b,t4),((40:Int),()))).bind _) _;refine (Zca hc 40).bind ?_;rintro _ ⟨o,t5,rfl,hc,_⟩;dsimp only;cases o
 ·refine (Vu hc 4).bind ?_;rintro _ ⟨v,t6,rfl,hc,_⟩;exact .ret ⟨_,_,_,_,rfl,hp,by omega⟩
 ·refine (ZjL fuel 0 l1 (by omega) (by omega) (by have:=ZZ;omega) (by omega)).bind ?_;rintro _ ⟨l2,i2,rfl,h2⟩;refine (Vu hc 4).bind ?_;rintro _ ⟨v,t6,rfl,hc,_⟩;exact .ret ⟨_,_,_,_,rfl,hp,h2⟩
def Zrm (s:ByteArray) (k i f:Nat) (rest:List (List UInt8)):Prop:= ∀(u:Zh) (out:List UInt8) (c:Nat),ZA u→u.reads.length≤c*999→out.length≤c*4398046511201→c+rest.length≤80→
 ∃(z:Zh) (f' i':Int),n4_0 r12 r7 r11 r9 r10 r5 k (s,()) (u.t,()) (bz out,((f:Int),((c:Int),((i:Int),()))))=some (Sum.inl (bz (Wk u rest out),(f',(((c+rest.length:Nat):Int),(i',())))),(z.t,()))
theorem ZqS (s:ByteArray) (hs:s.data.toList.length≤4000000): ∀(k i f:Nat),f≤i→i≤s.data.toList.length+1→(i=s.data.toList.length+1→s.data.toList.length≤f)→s.data.toList.length+1-i<k→ ¬(10:UInt8)∈(s.data.toList.drop f).take (i-f)→Zrm s k i f (QG (s.data.toList.drop f)):=by
 have hsz:(s.size:Int)=(s.data.toList.length:Int):=by rw[Lib.size_eq]
 refine Zsy s.data.toList (Zrm s) ?_ ?_ ?_ ?_ ?_
 ·intro k i f rest h hf h10 ih u out c hP hr ho hc;unfold n4_0 w4_0;dsimp only;have e1:wI ((i:Int)+1)=((i+1:Nat):Int):=Ql (by omega);rw[hsz];simp only[Zp (show (i:Int)≤(s.data.toList.length:Int) by omega),Zl (show (i:Int)< (s.data.toList.length:Int) by omega),Zp (show (0:Int)≤(i:Int) by omega),Zb,Wy s i h,e1];rw[QS (show¬((s.data.toList[i]).toNat:Int)=10 from fun e=>h10 (UInt8.toNat_inj.1 (by show _=10;omega))),Zb]
  exact ih u out c hP hr ho hc
 ·intro k i f rest h hf h10 ih u out c hP hr ho hc;unfold n4_0 w4_0;dsimp only;have e1:wI ((i:Int)+1)=((i+1:Nat):Int):=Ql (by omega);have e4:wI ((c:Int)+1)=((c+1:Nat):Int):=Ql (by omega);have ecur:bts (s.extract (Int.toNat (f:Int)) (Int.toNat (i:Int)))=(s.data.toList.drop f).take (i-f):=by
   show (s.extract (Int.toNat (f:Int)) (Int.toNat (i:Int))).data.toList=_;rw[WF,Int.toNat_natCast,Int.toNat_natCast,List.drop_take]
  rw[hsz];simp only[Zp (show (i:Int)≤(s.data.toList.length:Int) by omega),Zl (show (i:Int)< (s.data.toList.length:Int) by omega),Zi (show¬(i:Int)=(s.data.toList.length:Int) by omega),Zp (show (0:Int)≤(i:Int) by omega),Zp (show (0:Int)≤(f:Int) by omega),Zp (show (f:Int)≤(i:Int) by omega),Zb,Zd,Wy s i h,e1,e4];rw[Ja (show ((s.data.toList[i]).toNat:Int)=10 by rw[h10];rfl),Zd];have hcl:(bts (s.extract (Int.toNat (f:Int)) (Int.toNat (i:Int)))).length≤4000000:=by rw[ecur,List.length_take,List.length_drop];omega
  have hsu:ZU u.t:=hP.s (by omega);have hc80:c+1≤80:=by rw[List.length_cons]at hc;omega
  obtain ⟨a1,a2,a3,a4⟩:=Ze9 (l:=bts (s.extract (Int.toNat (f:Int)) (Int.toNat (i:Int)))) (by omega) hP hr ho;obtain ⟨z,f',i',ez⟩:=ih (doM u (bts (s.extract (Int.toNat (f:Int)) (Int.toNat (i:Int))))).1 (YI out (doM u (bts (s.extract (Int.toNat (f:Int)) (Int.toNat (i:Int))))).2) (c+1) a1 a2 a3 (by rw[List.length_cons]at hc;omega);rw[ZfM u _ hcl hsu (by omega)];simp only[Zo];rw[show (s.extract (Int.toNat (f:Int)) (Int.toNat (i:Int))).data.toList=bts (s.extract (Int.toNat (f:Int)) (Int.toNat (i:Int)))from rfl,Zk3 hP,eqW];refine ⟨z,f',i',?_⟩;rw[←ecur,Wk,List.length_cons,show c+(rest.length+1)=c+1+rest.length by omega];show (bif !decide ((doM u (bts (s.extract (Int.toNat (f:Int)) (Int.toNat (i:Int))))).2=[])then _ else _)=_
  generalize doM u (bts (s.extract (Int.toNat (f:Int)) (Int.toNat (i:Int))))=g at ez a3 a4⊢;by_cases e:g.2=[]
  ·have e2:YI out g.2=out:=Ze e;rw[e2]at ez⊢;rw[ZB e,ZM,Zd];exact ez
  ·have e2:YI out g.2=(out++g.2)++[10]:=(Zc e).trans (List.append_assoc _ _ _).symm;rw[e2]at ez a3⊢;rw[List.length_append,List.length_append,List.length_singleton]at a3;have z1:ByteArray.size (bz out)+ByteArray.size (bz g.2)=out.length+g.2.length:=rfl;rw[Zw e,QE,Zb];dsimp only;rw[z1,ZI (show out.length+g.2.length≤4611686018427387904 by omega),Zb,YR];have z2:ByteArray.size (bz (out++g.2))+ByteArray.size (bz [10])=out.length+g.2.length+1:=by
    show (out++g.2).length+1=_;rw[List.length_append]
   rw[z2,ZI (show out.length+g.2.length+1≤4611686018427387904 by omega),Zb,YR];exact ez
 ·intro k f hf ih u out c hP hr ho hc;unfold n4_0 w4_0;dsimp only;have e1:wI ((s.data.toList.length:Int)+1)=((s.data.toList.length+1:Nat):Int):=Ql (by omega);have e4:wI ((c:Int)+1)=((c+1:Nat):Int):=Ql (by omega);have ecur:bts (s.extract (Int.toNat (f:Int)) (Int.toNat (s.data.toList.length:Int)))=(s.data.toList.drop f).take (s.data.toList.length-f):=by
   show (s.extract (Int.toNat (f:Int)) (Int.toNat (s.data.toList.length:Int))).data.toList=_;rw[WF,Int.toNat_natCast,Int.toNat_natCast,List.drop_take]
  rw[hsz];simp only[Zp (show (s.data.toList.length:Int)≤(s.data.toList.length:Int) by omega),Zx (show¬(s.data.toList.length:Int)< (s.data.toList.length:Int) by omega),Zn (show (s.data.toList.length:Int)=(s.data.toList.length:Int)from rfl),Zi (show¬(f:Int)=(s.data.toList.length:Int) by omega),Zp (show (0:Int)≤(s.data.toList.length:Int) by omega),Zp (show (0:Int)≤(f:Int) by omega),Zp (show (f:Int)≤(s.data.toList.length:Int) by omega),Zb,Zd,e1,e4];have hcl:(bts (s.extract (Int.toNat (f:Int)) (Int.toNat (s.data.toList.length:Int)))).length≤4000000:=by rw[ecur,List.length_take,List.length_drop];omega
  have hsu:ZU u.t:=hP.s (by omega);have hc80:c+1≤80:=by rw[List.length_cons]at hc;omega
  obtain ⟨a1,a2,a3,a4⟩:=Ze9 (l:=bts (s.extract (Int.toNat (f:Int)) (Int.toNat (s.data.toList.length:Int)))) (by omega) hP hr ho;obtain ⟨z,f',i',ez⟩:=ih (doM u (bts (s.extract (Int.toNat (f:Int)) (Int.toNat (s.data.toList.length:Int))))).1 (YI out (doM u (bts (s.extract (Int.toNat (f:Int)) (Int.toNat (s.data.toList.length:Int))))).2) (c+1) a1 a2 a3 (by rw[List.length_cons]at hc;omega);rw[ZfM u _ hcl hsu (by omega)];simp only[Zo];rw[show (s.extract (Int.toNat (f:Int)) (Int.toNat (s.data.toList.length:Int))).data.toList=bts (s.extract (Int.toNat (f:Int)) (Int.toNat (s.data.toList.length:Int)))from rfl,Zk3 hP,eqW];refine ⟨z,f',i',?_⟩;rw[←ecur,Wk,List.length_cons,show c+(([]:List (List UInt8)).length+1)=c+1+([]:List (List UInt8)).length by omega];show (bif !decide ((doM u (bts (s.extract (Int.toNat (f:Int)) (Int.toNat (s.data.toList.length:Int))))).2=[])then _ else _)=_
  generalize doM u (bts (s.extract (Int.toNat (f:Int)) (Int.toNat (s.data.toList.length:Int))))=g at ez a3 a4⊢;by_cases e:g.2=[]
  ·have e2:YI out g.2=out:=Ze e;rw[e2]at ez⊢;rw[ZB e,ZM,Zd];exact ez
  ·have e2:YI out g.2=(out++g.2)++[10]:=(Zc e).trans (List.append_assoc _ _ _).symm;rw[e2]at ez a3⊢;rw[List.length_append,List.length_append,List.length_singleton]at a3;have z1:ByteArray.size (bz out)+ByteArray.size (bz g.2)=out.length+g.2.length:=rfl;rw[Zw e,QE,Zb];dsimp only;rw[z1,ZI (show out.length+g.2.length≤4611686018427387904 by omega),Zb,YR];have z2:ByteArray.size (bz (out++g.2))+ByteArray.size (bz [10])=out.length+g.2.length+1:=by
    show (out++g.2).length+1=_;rw[List.length_append]
   rw[z2,ZI (show out.length+g.2.length+1≤4611686018427387904 by omega),Zb,YR];exact ez
 ·intro k ih u out c hP hr ho hc;unfold n4_0 w4_0;dsimp only;have e1:wI ((s.data.toList.length:Int)+1)=((s.data.toList.length+1:Nat):Int):=Ql (by omega);rw[hsz];simp only[Zp (show (s.data.toList.length:Int)≤(s.data.toList.length:Int) by omega),Zx (show¬(s.data.toList.length:Int)< (s.data.toList.length:Int) by omega),Zn (show (s.data.toList.length:Int)=(s.data.toList.length:Int)from rfl),Zb,Zd,e1];exact ih u out c hP hr ho hc
 ·intro k f u out c hP hr ho hc;unfold n4_0 w4_0;dsimp only;rw[hsz,JG (show¬((s.data.toList.length+1:Nat):Int)≤(s.data.toList.length:Int) by omega),Zd];exact ⟨u,_,_,rfl⟩
theorem plain4: ∀y:PTup i4,ZsD i4 y→ ∃b,r4 y=some ((true,()),b):=by
 rintro ⟨code,_⟩ ⟨hcode,_⟩;refine ⟨(),ZrS ?_⟩;unfold r4 m4;refine (Ans.of (Zrp code)).bind ?_;rintro _ rfl;dsimp only;refine ZrD code () () fun hb=> ?_;refine (ZgR hb).bind ?_;rintro _ ⟨t,p,cap,lines,rfl,hp,hl⟩;have hn:lines.data.toList.length≤4000000:=by rw[←Lib.size_eq];omega
 refine (Ans.of (ZgY t p cap lines (by omega) hn)).bind ?_;rintro _ rfl;refine (Ans.of (Zg8 t p cap lines (by omega) hn)).bind ?_;rintro _ rfl;dsimp only;rw[Zpu,Zd,beq_self_eq_true,ZM,Zd];unfold UU;by_cases h:(XK t.data.toList p cap).2=0
 ·rw[Ze h];by_cases h80:80< (QG lines.data.toList).length
  ·rw[Ze h80];exact Ans.if_t rfl (.ret (by
    show ((((bz []).toList==(bz []).toList,()),()):(Bool×Unit)×Unit)=_;rw[beq_self_eq_true]))
  ·rw[Zc h80];obtain ⟨e1,hP⟩:=Zc3 h;dsimp only;rw[Zx (show¬((QG lines.data.toList).length:Int)<0 by omega),Zd];refine (Ans.of (ZeL t p cap (by omega))).bind ?_;rintro _ rfl;rw[e1];obtain ⟨z,f',i',ez⟩:=ZqS lines hn fuel 0 0 (Nat.le_refl _) (Nat.zero_le _) (fun e=>by omega) (by have:=ZZ;omega) (by simp) (Vy [(QH t.data.toList).1] p cap) [] 0 hP (Nat.zero_le _) (Nat.zero_le _) (by rw[List.drop_zero];omega);rw[List.drop_zero,Nat.zero_add]at ez;refine (Ans.of ez).bind ?_;rintro _ rfl;refine Ans.if_t (beq_self_eq_true _) (.ret ?_);show ((eqI ((QG lines.data.toList).length:Int) ((QG lines.data.toList).length:Int),()),())=_;rw[Zn rfl]
 ·rw[Zc h];exact Ans.if_t rfl (.ret (by
    show ((((bz []).toList==(bz []).toList,()),()):(Bool×Unit)×Unit)=_;rw[beq_self_eq_true]))

end Go.Proofs.YtcbdldlphpjmbaaGreatDoor.Plain
