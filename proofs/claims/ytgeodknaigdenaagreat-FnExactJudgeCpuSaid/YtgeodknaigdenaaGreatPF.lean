/- Plain laws of the printed functions: LawFns, LawSp. No condition beyond those that each lemma states. -/
import Derived.Test.YtgeodknaigdenaaGreatPE
set_option linter.unusedVariables false
set_option linter.unusedSimpArgs false
namespace Go.Proofs.YtgeodknaigdenaaGreat.Plain
open Go Go.Tev
theorem neI_self (a:Int):neI a a=false:=neI_f rfl
theorem toImage_ok (l:List (List Int)) (h:small l):r85 ((l,()),())=some (((l,()),()),()):=by
 unfold r85 m85
 simp only[toIntSS_ok l h,Option.bind_some]
theorem toMem_ok (a:Tup memL) (h:a.1.length≤4398046511104):r87 (a,())=some ((a,()),()):=by
 unfold r87 m87
 simp only[toIntS_ok a.1 h,Option.bind_some]
theorem toCpu_ok (a:Tup cpuL):r88 (a,())=some ((a,()),()):=rfl
theorem toApu_ok (a:Tup apuL):r180 (a,())=some ((a,()),()):=rfl
theorem toPpu_ok (a:Tup ppuL) (h:ppuOkS a):r178 (a,())=some ((a,()),()):=by
 unfold r178 m178
 simp only[toIntS_ok _ h.1,Option.bind_some]
 rw[show r86 a.2.2.2.2.2.2.2=some ((a.2.2.2.2.2.2.2.1,()),())from toIntS_ok _ h.2]
 rfl
theorem eqImage_self (l:List (List Int)) (h:small l):r95 ((l,()),((l,()),()))=some ((true,()),()):=by
 unfold r95 m95
 simp only[eqIntSS_ok l l h,Option.bind_some,decide_true,Bool.not_true,cond_false]
theorem eqMem_self (a:Tup memL) (h:a.1.length≤4398046511104):r97 (a,(a,()))=some ((true,()),()):=by
 unfold r97 m97
 simp only[eqIntS_ok _ _ h,Option.bind_some,decide_true,Bool.not_true,cond_false,neI_self]
theorem eqCpu_self (a:Tup cpuL):r98 (a,(a,()))=some ((true,()),()):=by
 unfold r98 m98
 simp only[neI_self,beq_self_eq_true,Bool.not_true,cond_false]
theorem eqApu_self (a:Tup apuL):r184 (a,(a,()))=some ((true,()),()):=by
 unfold r184 m184
 simp only[neI_self,beq_self_eq_true,Bool.not_true,cond_false]
theorem eqPad_self (a:Tup padL):r99 (a,(a,()))=some ((true,()),()):=by
 unfold r99 m99
 simp only[neI_self,beq_self_eq_true,Bool.not_true,cond_false]
theorem eqPpu_self (a:Tup ppuL) (h:ppuOkS a):r182 (a,(a,()))=some ((true,()),()):=by
 unfold r182 m182
 rw[show r96 (a.2.2.2.2.2.2.2.1,a.2.2.2.2.2.2.2)=some ((true,()),())from by
  have:=eqIntS_ok a.2.2.2.2.2.2.2.1 a.2.2.2.2.2.2.2.1 h.2
  rw[decide_eq_true rfl]at this
  exact this]
 simp only[eqIntS_ok _ _ h.1,Option.bind_some,decide_true,Bool.not_true,cond_false,neI_self,beq_self_eq_true]
theorem sz1 (a:List Int) (n:Int) (h0:0≤n) (h1:n≤1048576) (hl:a.length≤maxLen): ∃m:Int,r79 (a,(n,()))=some ((m,()),())∧m≤n∧(0≤m→a.length≤1048576):=by
 refine ⟨left n a.length,szIntS_ok a n h0 h1 hl,?_,?_⟩<;>unfold left<;>split<;>omega
theorem sz2 (a:List (List Int)) (n:Int) (h0:0≤n) (h1:n≤1048576) (hw:wfL (.sl false .n) a): ∃m:Int,r173 (a,(n,()))=some ((m,()),())∧m≤n∧(0≤m→small a):=by
 refine ⟨left n (a.length+bulk a),szIntSS_ok a n h0 h1 hw.1 (fun l hl=>(hw.2 l hl).1),?_,?_⟩
 ·unfold left;split<;>omega
 ·unfold left
  split
  ·intro h;omega
  ·intro _
   refine ⟨by omega,fun l hl=> ?_,by omega⟩
   have:=bulk_mem hl
   omega
theorem szImage_ok (a:List (List Int)) (n:Int) (h0:0≤n) (h1:n≤1048576) (hw:wfL (.sl false .n) a): ∃m:Int,r78 ((a,()),(n,()))=some ((m,()),())∧m≤n∧(0≤m→small a):=by
 obtain ⟨m,e,h2,h3⟩:=sz2 a n h0 h1 hw
 unfold r78 m78
 simp only[e,Option.bind_some]
 by_cases hm:m<0
 ·exact ⟨-1,by rw[ltI_t hm];rfl,by omega,fun h=>absurd h (by decide)⟩
 ·exact ⟨m,by rw[ltI_f hm];rfl,h2,h3⟩
theorem szMem_ok (a:Tup memL) (n:Int) (h0:0≤n) (h1:n≤1048576) (hw:wfLs memL a): ∃m:Int,r80 (a,(n,()))=some ((m,()),())∧m≤n∧(0≤m→a.1.length≤1048576):=by
 obtain ⟨m,e,h2,h3⟩:=sz1 a.1 n h0 h1 hw.1.1
 unfold r80 m80
 simp only[e,Option.bind_some]
 by_cases hm:m<0
 ·exact ⟨-1,by rw[ltI_t hm];rfl,by omega,fun h=>absurd h (by decide)⟩
 ·exact ⟨m,by rw[ltI_f hm];rfl,h2,h3⟩
theorem szPpu_ok (a:Tup ppuL) (n:Int) (h0:0≤n) (h1:n≤1048576) (hw:wfLs ppuL a): ∃m:Int,r174 (a,(n,()))=some ((m,()),())∧m≤n∧(0≤m→ppuOkS a):=by
 obtain ⟨_,_,_,_,_,_,w1,w2,_⟩:=hw
 obtain ⟨m,e,h2,h3⟩:=sz1 a.2.2.2.2.2.2.1 n h0 h1 w1.1
 unfold r174 m174
 simp only[e,Option.bind_some]
 by_cases hm:m<0
 ·exact ⟨-1,by rw[ltI_t hm];rfl,by omega,fun h=>absurd h (by decide)⟩
 rw[ltI_f hm,cond_false]
 obtain ⟨m2,e2,h4,h5⟩:=sz1 a.2.2.2.2.2.2.2.1 m (by omega) (by omega) w2.1
 simp only[e2,Option.bind_some]
 by_cases hm2:m2<0
 ·exact ⟨-1,by rw[ltI_t hm2];rfl,by omega,fun h=>absurd h (by decide)⟩
 ·exact ⟨m2,by rw[ltI_f hm2];rfl,by omega,fun h=>⟨by have:=h3 (by omega);omega,by have:=h5 h;omega⟩⟩
theorem toRec_ok (y:PTup i302):r302 y=some ((y.1,()),()):=rfl
theorem eqRec_self (x:Tup [.int .i64, .int .i64, .int .i64]):r303 (x,(x,()))=some ((true,()),()):=by
 unfold r303 m303
 simp only[neI_self,cond_false]
theorem toRecS_loop (l:List (Int×Int×Int)) (hl:l.length≤4398046511104): ∀(k i:Nat) (out:List (Int×Int×Int)),i≤l.length→out.length=l.length→l.length-i<k→
  n254_0 r302 k (l,()) () ((i:Int),(out,()))=some (Sum.inl ((l.length:Int),(out.take i++l.drop i,())),())
 |0,_,_,_,_,h=>absurd h (by omega)
 |k+1,i,out,hi,ho,hk=>by
  unfold n254_0 w254_0
  simp only[lenI_def]
  by_cases h:i<l.length
  ·rw[ltI_t (by omega),leI_t (by omega),ltI_t (by omega),wI_succ (by omega)]
   simp only[cond_true,Int.toNat_natCast,toRec_ok,Option.bind_some]
   rw[rdE_nat .t l i h,toRecS_loop l hl k (i+1) _ (by omega) (by simpa using ho) (by omega),take_set h ho]
  ·have:i=l.length:=by omega
   subst this
   rw[ltI_f (by omega),cond_false,List.take_of_length_le (by omega),List.drop_length,List.append_nil]
theorem toRecS_ok (l:List (Int×Int×Int)) (hl:l.length≤4398046511104):r254 (l,())=some ((l,()),()):=by
 unfold r254 m254 L254_0
 simp only[lenI_def,Int.toNat_natCast]
 rw[leN_t (by simp only[E.most];omega)]
 have:=toRecS_loop l hl fuel 0 (List.replicate l.length (0,0,0)) (by omega) (by simp) (by have:=fuel_big;omega)
 simp only[Int.natCast_zero]at this
 simp only[cond_true,this]
 simp[sumElim]
theorem eqRecS_loop (a:List (Int×Int×Int)) (h1:a.length≤4398046511104): ∀(k i:Nat),i≤a.length→a.length-i<k→
  n255_0 r303 k (a,(a,())) () ((i:Int),())=some (Sum.inl ((a.length:Int),()),())
 |0,_,_,h=>absurd h (by omega)
 |k+1,i,hi,hk=>by
  unfold n255_0 w255_0
  simp only[lenI_def]
  by_cases h:i<a.length
  ·rw[ltI_t (by omega),leI_t (by omega),wI_succ (by omega)]
   simp only[cond_true]
   exact bind_step (eqRec_self ((rdE .t a (i:Int)).1,((rdE .t a (i:Int)).2.1,((rdE .t a (i:Int)).2.2,())))) (eqRecS_loop a h1 k (i+1) (by omega) (by omega))
  ·have:i=a.length:=by omega
   subst this
   rw[ltI_f (by omega),cond_false]
theorem eqRecS_self (a:List (Int×Int×Int)) (h1:a.length≤4398046511104):r255 (a,(a,()))=some ((true,()),()):=by
 unfold r255 m255 L255_0
 simp only[lenI_def]
 have:=eqRecS_loop a h1 fuel 0 (by omega) (by have:=fuel_big;omega)
 simp only[Int.natCast_zero]at this
 rw[neI_self,cond_false,this]
 rfl
theorem szRecS_ok (a:List (Int×Int×Int)) (n:Int) (h0:0≤n) (h1:n≤1048576) (hl:a.length≤maxLen): ∃m:Int,r253 (a,(n,()))=some ((m,()),())∧m≤n∧(0≤m→a.length≤1048576):=by
 refine ⟨left n a.length,?_,?_,?_⟩
 ·unfold r253 m253
  simp only[lenI_def]
  have:maxLen=9223372036854775807:=rfl
  rw[wI_id (by omega) (by omega)]
  by_cases h:n< (a.length:Int)
  ·rw[ltI_t (show n-(a.length:Int)<0 by omega)];simp[left,h]
  ·rw[ltI_f (by omega)];simp[left,h]
 ·unfold left;split<;>omega
 ·unfold left;split<;>omega
theorem toRing_ok (r:Tup ringL) (h:r.2.1.length≤4398046511104):r179 (r,())=some ((r,()),()):=by
 unfold r179 m179
 exact bind_step (toRecS_ok r.2.1 h) rfl
theorem toPicture_ok (w:Tup picL) (h:picOkS w):r90 (w,())=some ((w,()),()):=by
 unfold r90 m90
 exact bind_step (toPpu_ok (pcPpu w) h.1) (bind_step (toRing_ok (pcRing w) h.2.1) (bind_step (toIntSS_ok w.2.2.2.2.2.2.2.2.2.2.1 h.2.2) rfl))
theorem toSound_ok (w:Tup sndL) (h:sndOkS w):r91 (w,())=some ((w,()),()):=by
 unfold r91 m91
 exact bind_step (toApu_ok (sdApu w)) (bind_step (toRing_ok (sdRing w) h.1) (bind_step (toIntS_ok w.2.2.2.2.2.2.2.2.2.1 h.2) rfl))
theorem toSplit_ok (s:Tup splitL) (h:splitOkS s):r17 (s,())=some ((s,()),()):=by
 unfold r17 m17
 obtain ⟨h1,h2,h3,h4,h5,h6⟩:=h
 exact bind_step (toImage_ok (spImg s) h1) (bind_step (toIntS_ok (spPads s) h2) (bind_step (toMem_ok (spMem s) h3) (bind_step (toCpu_ok (spCpu s)) (bind_step (show r89 (spPad s,())=some ((spPad s,()),())from rfl) (bind_step (toIntS_ok (spReads s) h4) (bind_step (toPicture_ok (spPic s) h5) (bind_step (toSound_ok (spSnd s) h6) rfl)))))))
theorem eqRing_self (r:Tup ringL) (h:r.2.1.length≤4398046511104):r183 (r,(r,()))=some ((true,()),()):=by
 unfold r183 m183
 simp only[neI_self,cond_false]
 exact bind_step (eqRecS_self r.2.1 h) rfl
theorem eqPicture_self (w:Tup picL) (h:picOkS w):r100 (w,(w,()))=some ((true,()),()):=by
 unfold r100 m100
 refine bind_step (eqPpu_self (pcPpu w) h.1) (bind_step (eqRing_self (pcRing w) h.2.1) ?_)
 have:=eqIntSS_ok w.2.2.2.2.2.2.2.2.2.2.1 w.2.2.2.2.2.2.2.2.2.2.1 h.2.2
 rw[decide_eq_true rfl]at this
 exact bind_step this rfl
theorem eqSound_self (w:Tup sndL) (h:sndOkS w):r101 (w,(w,()))=some ((true,()),()):=by
 unfold r101 m101
 refine bind_step (eqApu_self (sdApu w)) (bind_step (eqRing_self (sdRing w) h.1) ?_)
 have:=eqIntS_ok w.2.2.2.2.2.2.2.2.2.1 w.2.2.2.2.2.2.2.2.2.1 h.2
 rw[decide_eq_true rfl]at this
 exact bind_step this rfl
theorem eqI_ok1 (a:List Int) (h:a.length≤4398046511104):r96 (a,(a,()))=some ((true,()),()):=by
 have:=eqIntS_ok a a h
 rwa [decide_eq_true rfl]at this
theorem eqSplit_self (s:Tup splitL) (h:splitOkS s):r19 (s,(s,()))=some ((true,()),()):=by
 unfold r19 m19
 obtain ⟨h1,h2,h3,h4,h5,h6⟩:=h
 refine bind_step (eqImage_self (spImg s) h1) (bind_step (eqI_ok1 (spPads s) h2) (bind_step (eqMem_self (spMem s) h3) (bind_step (eqCpu_self (spCpu s)) (bind_step (eqPad_self (spPad s)) ?_))))
 simp only[neI_self,beq_self_eq_true,Bool.not_true,cond_false]
 exact bind_step (eqI_ok1 (spReads s) h4) (bind_step (eqPicture_self (spPic s) h5) (bind_step (eqSound_self (spSnd s) h6) rfl))
theorem szRing_ok (r:Tup ringL) (n:Int) (h0:0≤n) (h1:n≤1048576) (hl:r.2.1.length≤maxLen): ∃m:Int,r175 (r,(n,()))=some ((m,()),())∧m≤n∧(0≤m→r.2.1.length≤1048576):=by
 obtain ⟨m,e,h2,h3⟩:=szRecS_ok r.2.1 n h0 h1 hl
 unfold r175 m175
 refine ⟨if m<0 then-1 else m,bind_step e ?_,by split<;>omega,by split<;>(intro;omega)⟩
 by_cases hm:m<0
 ·rw[ltI_t hm,if_pos hm];rfl
 ·rw[ltI_f hm,if_neg hm];rfl
theorem szPicture_ok (w:Tup picL) (n:Int) (h0:0≤n) (h1:n≤1048576) (hw:wfLs picL w): ∃m:Int,r81 (w,(n,()))=some ((m,()),())∧m≤n∧(0≤m→picOkS w):=by
 obtain ⟨p1,p2,p3,p4,p5,p6,p7,p8,rc,rl,fr,_⟩:=hw
 obtain ⟨m1,e1,l1,k1⟩:=szPpu_ok (pcPpu w) n h0 h1 ⟨p1,p2,p3,p4,p5,p6,p7,p8,trivial⟩
 unfold r81 m81
 by_cases hm1:m1<0
 ·exact ⟨-1,bind_step e1 (by rw[ltI_t hm1];rfl),by omega,fun h=>absurd h (by decide)⟩
 obtain ⟨m2,e2,l2,k2⟩:=szRing_ok (pcRing w) m1 (by omega) (by omega) rl.1
 by_cases hm2:m2<0
 ·exact ⟨-1,bind_step e1 (by rw[ltI_f hm1];exact bind_step e2 (by rw[ltI_t hm2];rfl)),by omega,fun h=>absurd h (by decide)⟩
 obtain ⟨m3,e3,l3,k3⟩:=sz2 w.2.2.2.2.2.2.2.2.2.2.1 m2 (by omega) (by omega) fr
 by_cases hm3:m3<0
 ·exact ⟨-1,bind_step e1 (by rw[ltI_f hm1];exact bind_step e2 (by rw[ltI_f hm2];exact bind_step e3 (by rw[ltI_t hm3];rfl))),by omega,fun h=>absurd h (by decide)⟩
 ·exact ⟨m3,bind_step e1 (by rw[ltI_f hm1];exact bind_step e2 (by rw[ltI_f hm2];exact bind_step e3 (by rw[ltI_f hm3];rfl))),by omega,fun h=>⟨k1 (by omega),by have:=k2 (by omega);omega,k3 h⟩⟩
theorem szSound_ok (w:Tup sndL) (n:Int) (h0:0≤n) (h1:n≤1048576) (hw:wfLs sndL w): ∃m:Int,r82 (w,(n,()))=some ((m,()),())∧m≤n∧(0≤m→sndOkS w):=by
 obtain ⟨_,_,_,_,_,_,_,rc,rl,sm,_⟩:=hw
 unfold r82 m82
 obtain ⟨m2,e2,l2,k2⟩:=szRing_ok (sdRing w) n (by omega) (by omega) rl.1
 by_cases hm2:m2<0
 ·exact ⟨-1,bind_step e2 (by rw[ltI_t hm2];rfl),by omega,fun h=>absurd h (by decide)⟩
 obtain ⟨m3,e3,l3,k3⟩:=sz1 w.2.2.2.2.2.2.2.2.2.1 m2 (by omega) (by omega) sm.1
 by_cases hm3:m3<0
 ·exact ⟨-1,bind_step e2 (by rw[ltI_f hm2];exact bind_step e3 (by rw[ltI_t hm3];rfl)),by omega,fun h=>absurd h (by decide)⟩
 ·exact ⟨m3,bind_step e2 (by rw[ltI_f hm2];exact bind_step e3 (by rw[ltI_f hm3];rfl)),by omega,fun h=>⟨by have:=k2 (by omega);omega,by have:=k3 h;omega⟩⟩
theorem szSplit_ok (s:Tup splitL) (n:Int) (h0:0≤n) (h1:n≤1048576) (hw:wfLs splitL s): ∃m:Int,r15 (s,(n,()))=some ((m,()),())∧m≤n∧(0≤m→splitOkS s∧(spReads s).length≤1048576):=by
 obtain ⟨wi,wp,wm,wb,c1,c2,c3,c4,c5,c6,c7,c8,d1,d2,t,nm,ct,kn,ka,st,rd,q1,q2,q3,q4,q5,q6,q7,q8,qr,ql,qf,ws⟩:=hw
 obtain ⟨m1,e1,l1,k1⟩:=szImage_ok s.1 n h0 h1 wi
 unfold r15 m15
 by_cases hm1:m1<0
 ·exact ⟨-1,bind_step e1 (by rw[ltI_t hm1];rfl),by omega,fun h=>absurd h (by decide)⟩
 obtain ⟨m2,e2,l2,k2⟩:=sz1 s.2.1 m1 (by omega) (by omega) wp.1
 by_cases hm2:m2<0
 ·exact ⟨-1,bind_step e1 (by rw[ltI_f hm1];exact bind_step e2 (by rw[ltI_t hm2];rfl)),by omega,fun h=>absurd h (by decide)⟩
 obtain ⟨m3,e3,l3,k3⟩:=szMem_ok (spMem s) m2 (by omega) (by omega) ⟨wm,wb,trivial⟩
 by_cases hm3:m3<0
 ·exact ⟨-1,bind_step e1 (by rw[ltI_f hm1];exact bind_step e2 (by rw[ltI_f hm2];exact bind_step e3 (by rw[ltI_t hm3];rfl))),by omega,fun h=>absurd h (by decide)⟩
 obtain ⟨m4,e4,l4,k4⟩:=sz1 (spReads s) m3 (by omega) (by omega) rd.1
 by_cases hm4:m4<0
 ·exact ⟨-1,bind_step e1 (by rw[ltI_f hm1];exact bind_step e2 (by rw[ltI_f hm2];exact bind_step e3 (by rw[ltI_f hm3];exact bind_step e4 (by rw[ltI_t hm4];rfl)))),by omega,fun h=>absurd h (by decide)⟩
 obtain ⟨m5,e5,l5,k5⟩:=szPicture_ok (spPic s) m4 (by omega) (by omega) ⟨q1,q2,q3,q4,q5,q6,q7,q8,qr,ql,qf,trivial⟩
 by_cases hm5:m5<0
 ·exact ⟨-1,bind_step e1 (by rw[ltI_f hm1];exact bind_step e2 (by rw[ltI_f hm2];exact bind_step e3 (by rw[ltI_f hm3];exact bind_step e4 (by rw[ltI_f hm4];exact bind_step e5 (by rw[ltI_t hm5];rfl))))),by omega,fun h=>absurd h (by decide)⟩
 obtain ⟨m6,e6,l6,k6⟩:=szSound_ok (spSnd s) m5 (by omega) (by omega) ws
 by_cases hm6:m6<0
 ·exact ⟨-1,bind_step e1 (by rw[ltI_f hm1];exact bind_step e2 (by rw[ltI_f hm2];exact bind_step e3 (by rw[ltI_f hm3];exact bind_step e4 (by rw[ltI_f hm4];exact bind_step e5 (by rw[ltI_f hm5];exact bind_step e6 (by rw[ltI_t hm6];rfl)))))),by omega,fun h=>absurd h (by decide)⟩
 ·refine ⟨m6,bind_step e1 (by rw[ltI_f hm1];exact bind_step e2 (by rw[ltI_f hm2];exact bind_step e3 (by rw[ltI_f hm3];exact bind_step e4 (by rw[ltI_f hm4];exact bind_step e5 (by rw[ltI_f hm5];exact bind_step e6 (by rw[ltI_f hm6];rfl)))))),by omega,fun h=>⟨⟨k1 (by omega),?_,?_,?_,k5 (by omega),k6 h⟩,k4 (by omega)⟩⟩
  ·have:=k2 (by omega);show s.2.1.length≤_;omega
  ·have:=k3 (by omega);show (spMem s).1.length≤_;omega
  ·have:=k4 (by omega);omega
def enMem (a:Tup memL) (k:Int):Int:=k+(a.1.length:Int)
def enPpu (a:Tup ppuL) (k:Int):Int:=k+(a.2.2.2.2.2.2.1.length:Int)+(a.2.2.2.2.2.2.2.1.length:Int)
def enRing (r:Tup ringL) (k:Int):Int:=k+3*(r.2.1.length:Int)
def enPic (w:Tup picL) (k:Int):Int:=enRing (pcRing w) (enPpu (pcPpu w) k)+(bulk w.2.2.2.2.2.2.2.2.2.2.1:Int)
def enSnd (w:Tup sndL) (k:Int):Int:=enRing (sdRing w) k+(w.2.2.2.2.2.2.2.2.2.1.length:Int)
theorem enPpu_b {a:Tup ppuL} {k:Int} (h:ppuOkS a):k≤enPpu a k∧enPpu a k≤k+8796093022208:=by
 obtain ⟨h1,h2⟩:=h
 unfold enPpu
 omega
theorem enRing_b {r:Tup ringL} {k:Int} (h:r.2.1.length≤4398046511104):k≤enRing r k∧enRing r k≤k+13194139533312:=by unfold enRing;omega
theorem enPic_b {w:Tup picL} {k:Int} (h:picOkS w):k≤enPic w k∧enPic w k≤k+26388279066624:=by
 obtain ⟨h1,h2,h3,_,h4⟩:=h
 have a:=enPpu_b (k:=k) h1
 have b:=enRing_b (k:=enPpu (pcPpu w) k) h2
 unfold enPic
 omega
theorem enSnd_b {w:Tup sndL} {k:Int} (h:sndOkS w):k≤enSnd w k∧enSnd w k≤k+17592186044416:=by
 obtain ⟨h1,h2⟩:=h
 have b:=enRing_b (k:=k) h1
 unfold enSnd
 omega
def enSplit (s:Tup splitL) (k:Int):Int:=enSnd (spSnd s) (enPic (spPic s) (enMem (spMem s) (k+(bulk (spImg s):Int)+((spPads s).length:Int))+((spReads s).length:Int)))
theorem enSplit_b {s:Tup splitL} (h:splitOkS s):1≤enSplit s 1∧enSplit s 1≤2305843009213693952:=by
 obtain ⟨⟨_,_,a1⟩,a2,a3,a4,a5,a6⟩:=h
 unfold enSplit
 have e1:enMem (spMem s) (1+(bulk (spImg s):Int)+((spPads s).length:Int))=1+(bulk (spImg s):Int)+((spPads s).length:Int)+((spMem s).1.length:Int):=rfl
 have b:=enPic_b (k:=enMem (spMem s) (1+(bulk (spImg s):Int)+((spPads s).length:Int))+((spReads s).length:Int)) a5
 have c:=enSnd_b (k:=enPic (spPic s) (enMem (spMem s) (1+(bulk (spImg s):Int)+((spPads s).length:Int))+((spReads s).length:Int))) a6
 omega
theorem room_of {s:SplitM} (h:s.reads.length≤1048576):Room s:=by unfold Room;omega

end Go.Proofs.YtgeodknaigdenaaGreat.Plain
