/- Plain laws of the printed functions: Str, Str3, CpuT. No condition beyond those that each lemma states. -/
import Derived.Test.YtjagjoolnoodaaaDoorPI
set_option linter.unusedVariables false
set_option linter.unusedSimpArgs false
namespace Go.Proofs.YtjagjoolnoodaaaDoor.Plain
open Go Go.Tev
def digs (n:Nat):List UInt8:=if n=0 then []else Lib.decDigits n
theorem digs_step {n:Nat} (h:n≠0):digs n=digs (n/10)++[UInt8.ofNat (48+n%10)]:=by
 unfold digs
 rw[if_neg h]
 by_cases h1:n<10
 ·rw[Lib.decDigits,dif_pos h1,if_pos (show n/10=0 by omega),List.nil_append,Nat.mod_eq_of_lt h1]
 ·rw[Lib.decDigits,dif_neg h1,if_neg (show n/10≠0 by omega)]
theorem wB_id {x:Int} (h1:0≤x) (h2:x≤255):wB x=x:=by
 show IntKind.u8.wrap x=x
 rw[IntKind.wrap_u8];omega
theorem strOf_cons (n:Nat) (l:List UInt8):strOf [((48+n%10:Nat):Int)]++(⟨l.toArray⟩:ByteArray)=⟨(UInt8.ofNat (48+n%10)::l).toArray⟩:=by
 apply ByteArray.ext
 rw[ByteArray.data_append]
 show (List.map (fun n:Int=>UInt8.ofNat n.toNat) [((48+n%10:Nat):Int)]).toArray++l.toArray=(UInt8.ofNat (48+n%10)::l).toArray
 rw[List.map_singleton,Int.toNat_natCast,List.append_toArray,List.singleton_append]
theorem l4Digits_exact: ∀(j k:Nat) (n:Nat) (l:List UInt8),n<10^j→n≤9223372036854775807→j<k→l.length+j≤100→
  n22_0 k () () ((n:Int),((⟨l.toArray⟩:ByteArray),()))=some (Sum.inl ((0:Int),((⟨(digs n++l).toArray⟩:ByteArray),())),())
 |_,0,_,_,_,_,h,_=>absurd h (by omega)
 |j,k+1,n,l,hn,hm,hk,hs=>by
  show (bif ltI 0 (n:Int)then _ else some (Sum.inl ((n:Int),((⟨l.toArray⟩:ByteArray),())),()))=_
  by_cases h0:0<n
  ·rw[ltI_t (show (0:Int)< (n:Int) by omega),cond_true]
   have hj:0<j:=by
    rcases Nat.eq_zero_or_pos j with e|e
    ·subst e;simp at hn;omega
    ·exact e
   obtain ⟨j,rfl⟩: ∃i,j=i+1:=⟨j-1,by omega⟩
   rw[leN_t (show (strOf [wB (wI (48+Int.tmod (n:Int) 10))]).size+(⟨l.toArray⟩:ByteArray).size≤4611686018427387904 by show 1+l.toArray.size≤_;rw[List.size_toArray];omega),cond_true]
   have e:wI (Int.tdiv (n:Int) 10)=((n/10:Nat):Int):=by rw[tdiv_nn (by omega),wI_id (by omega) (by omega)];omega
   rw[e]
   have e2:strOf [wB (wI (48+Int.tmod (n:Int) 10))]++(⟨l.toArray⟩:ByteArray)=⟨(UInt8.ofNat (48+n%10)::l).toArray⟩:=by
    have hw:wB (wI (48+Int.tmod (n:Int) 10))=((48+n%10:Nat):Int):=by
     obtain ⟨t0,t1⟩:=tmod_b (a:=(n:Int)) (n:=10) (by omega) (by omega)
     have et:Int.tmod (n:Int) 10=((n%10:Nat):Int):=by rw[Int.tmod_eq_emod_of_nonneg (by omega)];omega
     rw[et,wI_id (by omega) (by omega)]
     exact wB_id (by omega) (by omega)
    rw[hw]
    exact strOf_cons n l
   rw[e2]
   show n22_0 k () () (((n/10:Nat):Int),((⟨(UInt8.ofNat (48+n%10)::l).toArray⟩:ByteArray),()))=_
   rw[l4Digits_exact j k (n/10) (UInt8.ofNat (48+n%10)::l) (by rw[Nat.pow_succ]at hn;omega) (by omega) (by omega) (by rw[List.length_cons];omega),digs_step (n:=n) (by omega),List.append_assoc,List.singleton_append]
  ·obtain rfl:n=0:=by omega
   rw[ltI_f (by decide),cond_false]
   rfl
theorem l4Digits_ok (n:Nat) (hn:n≤9223372036854775807):r22 ((n:Int),())=some (((⟨(Lib.decDigits n).toArray⟩:ByteArray),()),()):=by
 unfold r22 m22
 dsimp only
 by_cases h:n=0
 ·subst h
  rw[show eqI ((0:Nat):Int) 0=true from rfl,cond_true,Lib.decDigits,dif_pos (by decide)]
  rfl
 ·rw[eqI_f (show¬(n:Int)=0 by omega),cond_false]
  refine bind_step (l4Digits_exact 20 fuel n [] (by omega) hn (by have:=fuel_big;omega) (by decide)) ?_
  rw[List.append_nil]
  unfold digs
  rw[if_neg h]
  rfl
theorem dec_rec (n:Nat):Lib.decDigits n=if n<10 then [UInt8.ofNat (48+n)]else Lib.decDigits (n/10)++[UInt8.ofNat (48+n%10)]:=by
 rw[Lib.decDigits]
 split<;>rfl
theorem dec_len: ∀(k n:Nat),n<10^(k+1)→(Lib.decDigits n).length≤k+1∧1≤(Lib.decDigits n).length
 |0,n,h=>by
  rw[dec_rec,if_pos (by simpa using h)]
  exact ⟨Nat.le_refl _,Nat.le_refl _⟩
 |k+1,n,h=>by
  rw[dec_rec]
  split
  ·exact ⟨by show 1≤_;omega,Nat.le_refl _⟩
  ·obtain ⟨a,b⟩:=dec_len k (n/10) (by rw[Nat.pow_succ]at h;omega)
   rw[List.length_append,List.length_singleton]
   exact ⟨by omega,by omega⟩
theorem bt_at (s:ByteArray) (i:Nat) (h:i<s.data.toList.length):bt s (i:Int)=((s.data.toList[i]).toNat:Int):=by
 unfold bt
 rw[Int.toNat_natCast,List.getD_eq_getElem?_getD,List.getElem?_eq_getElem h]
 rfl
theorem strEq (a:ByteArray) (l:List UInt8) (b:ByteArray) (h:b.data.toList=l):(a.toList==b.toList)=decide (a.data.toList=l):=by
 rw[ByteArray.toList_eq,ByteArray.toList_eq,h]
 by_cases e:a.data.toList=l
 ·rw[decide_eq_true e,e,beq_self_eq_true]
 ·rw[decide_eq_false e];exact beq_eq_false_iff_ne.2 e
theorem itoa_nat (n:Nat):Lib.itoa (n:Int)=Lib.decDigits n:=by
 unfold Lib.itoa
 rw[if_neg (by omega),Int.toNat_natCast]
theorem bz_app (a b:List UInt8):bz a++bz b=bz (a++b):=by
 apply ByteArray.ext
 rw[ByteArray.data_append]
 exact List.append_toArray ..
theorem bz_size (a:List UInt8):ByteArray.size (bz a)=a.length:=by
 show Array.size ⟨a⟩=_
 rfl
theorem implDigits_ok (n:Nat) (hn:n≤9223372036854775807):r24 ((n:Int),())=some ((bz (Lib.decDigits n),()),()):=by
 unfold r24 m24
 have h:r39 ((n:Int),())=some ((bz (Lib.decDigits n),()),()):=by
  show (bif decide (-9223372036854775808≤(n:Int))&&decide ((n:Int)≤9223372036854775807)then some ((bz (Lib.itoa (n:Int)),()),())else none)=_
  rw[decide_eq_true (by omega),decide_eq_true (by omega),itoa_nat]
  rfl
 exact bind_step h rfl
def decI (n:Int):List UInt8:=Lib.decDigits n.toNat
theorem decI_len {n:Int} (h1:n≤65535):(decI n).length≤5:=(dec_len 4 n.toNat (by omega)).1
def flgT (a b c d:Bool):List UInt8:=match a,b,c,d with
 |false,false,false,false=>[45]
 |a,b,c,d=>(if a then [67]else [])++(if b then [90]else [])++(if c then [73]else [])++(if d then [78]else [])
def cpuTextA (c:Tup cpuL):List UInt8:=if cpuOk c then [65]++decI c.1++[32,88]++decI c.2.1++[32,83]++decI c.2.2.1++[32,80,99]++decI c.2.2.2.1++[32]++flgT c.2.2.2.2.2.2.1 c.2.2.2.2.1 c.2.2.2.2.2.2.2.1 c.2.2.2.2.2.1 else []
theorem cpuOk_b {c:Tup cpuL} (h:cpuOk c=true):(0≤c.1∧c.1≤255)∧(0≤c.2.1∧c.2.1≤255)∧(0≤c.2.2.1∧c.2.2.1≤255)∧(0≤c.2.2.2.1∧c.2.2.2.1≤65535):=by
 unfold cpuOk at h
 simp only[Bool.and_eq_true,inR_iff]at h
 exact h
theorem cpuTextA_ne (c:Tup cpuL):decide (cpuTextA c=[])= !cpuOk c:=by
 unfold cpuTextA
 cases cpuOk c with
 |false=>rfl
 |true=>simp
theorem decS_ok {n:Int} (h0:0≤n) (h1:n≤65535):r22 (n,())=some ((bz (decI n),()),()):=by
 obtain ⟨k,rfl⟩:=Int.eq_ofNat_of_zero_le h0
 exact l4Digits_ok k (by omega)
theorem decP_ok {n:Int} (h0:0≤n) (h1:n≤65535):r24 (n,())=some ((bz (decI n),()),()):=by
 obtain ⟨k,rfl⟩:=Int.eq_ofNat_of_zero_le h0
 exact implDigits_ok k (by omega)
theorem leN_if {A:Type} {a b n:Nat} {x y:Option A} {r:A} (h:a≤n) (hb:b≤n) (hn:n+n≤4611686018427387904) (hx:x=some r):(bif leN (a+b) 4611686018427387904 then x else y)=some r:=by
 rw[leN_t (by omega),cond_true,hx]
theorem specCpuText_ok (c:Tup cpuL):r5 (c,())=some ((bz (cpuTextA c),()),()):=by
 unfold r5 m5
 refine bind_step (specCpuOk_ok c) ?_
 cases hk:cpuOk c with
 |false=>unfold cpuTextA;rw[hk];rfl
 |true=>
  obtain ⟨⟨a0,a1⟩,⟨x0,x1⟩,⟨s0,s1⟩,p0,p1⟩:=cpuOk_b hk
  obtain ⟨(a:Int),(x:Int),(s:Int),(p:Int),z,n,c,i,_⟩:=c
  have a0:(0:Int)≤a:=a0
  have a1:a≤(255:Int):=a1
  have x0:(0:Int)≤x:=x0
  have x1:x≤(255:Int):=x1
  have s0:(0:Int)≤s:=s0
  have s1:s≤(255:Int):=s1
  have p0:(0:Int)≤p:=p0
  have p1:p≤(65535:Int):=p1
  unfold cpuTextA
  rw[hk,if_pos rfl]
  rw[Bool.not_true,cond_false]
  have la:=decI_len (n:=a) (by omega)
  have lx:=decI_len (n:=x) (by omega)
  have ls:=decI_len (n:=s) (by omega)
  have lp:=decI_len (n:=p) (by omega)
  refine bind_step (decS_ok (n:=a) a0 (by omega)) ?_
  dsimp only
  generalize decI a=A at la⊢
  rw[bz_app,bz_app]
  refine leN_if (n:=100) (by rw[bz_size];simp) (by rw[bz_size];omega) (by decide) (leN_if (n:=100) (by rw[bz_size];simp;omega) (by rw[bz_size];simp) (by decide) ?_)
  refine bind_step (decS_ok (n:=x) x0 (by omega)) ?_
  dsimp only
  generalize decI x=X at lx⊢
  simp only[bz_app]
  refine leN_if (n:=100) (by rw[bz_size];simp;omega) (by rw[bz_size];omega) (by decide) (leN_if (n:=100) (by rw[bz_size];simp;omega) (by rw[bz_size];simp) (by decide) ?_)
  refine bind_step (decS_ok (n:=s) s0 (by omega)) ?_
  dsimp only
  generalize decI s=S at ls⊢
  simp only[bz_app]
  refine leN_if (n:=100) (by rw[bz_size];simp;omega) (by rw[bz_size];omega) (by decide) (leN_if (n:=100) (by rw[bz_size];simp;omega) (by rw[bz_size];simp) (by decide) ?_)
  refine bind_step (decS_ok (n:=p) p0 p1) ?_
  dsimp only
  generalize decI p=P at lp⊢
  simp only[bz_app]
  refine leN_if (n:=100) (by rw[bz_size];simp;omega) (by rw[bz_size];omega) (by decide) (leN_if (n:=100) (by rw[bz_size];simp;omega) (by rw[bz_size];simp) (by decide) ?_)
  generalize hQ:[65]++A++[32,88]++X++[32,83]++S++[32,80,99]++P++[32]=Q
  have lQ:Q.length≤50:=by rw[←hQ];simp;omega
  cases c<;>cases z<;>cases i<;>cases n<;>exact leN_if (n:=100) (by rw[bz_size];omega) (by rw[bz_size];simp) (by decide) rfl
theorem flags_loop (k:Nat) (c z i n:Bool):n7_0 r20 r24 r23 (k+5) ([c,z,i,n],(lenI [c,z,i,n],())) () (bz [],((0:Int),()))=
  some (Sum.inl (bz ((if c then [67]else [])++(if z then [90]else [])++(if i then [73]else [])++(if n then [78]else [])),((4:Int),())),()):=by
 cases c<;>cases z<;>cases i<;>cases n<;>rfl
theorem join5 (p q r s f:List UInt8) (h:p.length+q.length+r.length+s.length+f.length≤1000):r23 ((bz p::bz q::bz r::bz s::bz f::[]),(bz [32],()))=some ((bz (p++[32]++q++[32]++r++[32]++s++[32]++f),()),()):=by
 show (bif Nat.ble 5 140737488355328&&Nat.ble (Lib.join [p,q,r,s,f] [32]).length 140737488355328 then some ((bz (Lib.join [p,q,r,s,f] [32]),()),())else none)=_
 have e:Lib.join [p,q,r,s,f] [32]=p++[32]++q++[32]++r++[32]++s++[32]++f:=by simp[Lib.join,List.intercalate,List.append_assoc]
 rw[e]
 generalize hz:p++[32]++q++[32]++r++[32]++s++[32]++f=z
 have hl:z.length≤2000:=by rw[←hz];simp;omega
 have hb:Nat.ble z.length 140737488355328=true:=by rw[Nat.ble_eq];omega
 rw[hb]
 rfl
theorem implCpuText_ok (c:Tup cpuL):r7 (c,())=some ((bz (cpuTextA c),()),()):=by
 unfold r7 m7
 refine bind_step (implCpuOk_ok c) ?_
 cases hk:cpuOk c with
 |false=>unfold cpuTextA;rw[hk];rfl
 |true=>
  obtain ⟨⟨a0,a1⟩,⟨x0,x1⟩,⟨s0,s1⟩,p0,p1⟩:=cpuOk_b hk
  obtain ⟨(a:Int),(x:Int),(s:Int),(p:Int),z,n,c,i,_⟩:=c
  have a0:(0:Int)≤a:=a0
  have a1:a≤(255:Int):=a1
  have x0:(0:Int)≤x:=x0
  have x1:x≤(255:Int):=x1
  have s0:(0:Int)≤s:=s0
  have s1:s≤(255:Int):=s1
  have p0:(0:Int)≤p:=p0
  have p1:p≤(65535:Int):=p1
  unfold cpuTextA
  rw[hk,if_pos rfl]
  rw[Bool.not_true,cond_false]
  have la:=decI_len (n:=a) (by omega)
  have lx:=decI_len (n:=x) (by omega)
  have ls:=decI_len (n:=s) (by omega)
  have lp:=decI_len (n:=p) (by omega)
  obtain ⟨k,hf⟩: ∃k,fuel=k+5:=⟨fuel-5,by have:=fuel_big;omega⟩
  have hl:L7_0 ([c,z,i,n],(lenI [c,z,i,n],())) () (bz [],((0:Int),()))=some (Sum.inl (bz ((if c then [67]else [])++(if z then [90]else [])++(if i then [73]else [])++(if n then [78]else [])),((4:Int),())),()):=by
   unfold L7_0
   rw[hf]
   exact flags_loop k c z i n
  refine bind_step hl ?_
  have go: ∀f:List UInt8,f.length≤4→((r24 (a,())).bind fun u3=>bif leN ((bz [65]).size+u3.1.1.size) 4611686018427387904 then (r24 (x,())).bind fun u4=>bif leN ((bz [88]).size+u4.1.1.size) 4611686018427387904 then (r24 (s,())).bind fun u5=>
    bif leN ((bz [83]).size+u5.1.1.size) 4611686018427387904 then (r24 (p,())).bind fun u6=>bif leN ((bz [80,99]).size+u6.1.1.size) 4611686018427387904 then (r23 ((bz [65]++u3.1.1)::(bz [88]++u4.1.1)::(bz [83]++u5.1.1)::(bz [80,99]++u6.1.1)::bz f::[],(bz [32],()))).bind fun u7=>some (u7.1,())else none else none else none else none)=
    some ((bz ([65]++decI a++[32,88]++decI x++[32,83]++decI s++[32,80,99]++decI p++[32]++f),()),()):=fun f hf=>by
   refine bind_step (decP_ok (n:=a) a0 (by omega)) ?_
   refine leN_if (n:=100) (by rw[bz_size];simp) (by rw[bz_size];omega) (by decide) ?_
   refine bind_step (decP_ok (n:=x) x0 (by omega)) ?_
   refine leN_if (n:=100) (by rw[bz_size];simp) (by rw[bz_size];omega) (by decide) ?_
   refine bind_step (decP_ok (n:=s) s0 (by omega)) ?_
   refine leN_if (n:=100) (by rw[bz_size];simp) (by rw[bz_size];omega) (by decide) ?_
   refine bind_step (decP_ok (n:=p) p0 p1) ?_
   refine leN_if (n:=100) (by rw[bz_size];simp) (by rw[bz_size];omega) (by decide) ?_
   dsimp only
   rw[bz_app,bz_app,bz_app,bz_app]
   refine bind_step (join5 _ _ _ _ _ (by simp;omega)) ?_
   simp[List.append_assoc]
  show (bif (bz ((if c then [67]else [])++(if z then [90]else [])++(if i then [73]else [])++(if n then [78]else []))).toList==(bz []).toList then _ else _)=_
  rw[strEq _ [] (bz []) rfl]
  have g:=go (flgT c z i n) (by cases c<;>cases z<;>cases i<;>cases n<;>decide)
  cases c<;>cases z<;>cases i<;>cases n<;>exact g

end Go.Proofs.YtjagjoolnoodaaaDoor.Plain
