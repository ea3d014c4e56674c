/- Plain laws of the printed functions: Show. No condition beyond those that each lemma states. -/
import Derived.Test.YtjagjoolnoodaaaDoorPK
set_option linter.unusedVariables false
set_option linter.unusedSimpArgs false
namespace Go.Proofs.YtjagjoolnoodaaaDoor.Plain
open Go Go.Tev
def btsI (s:ByteArray):List Int:=s.data.toList.map fun b=>(b.toNat:Int)
theorem btsI_len (s:ByteArray):(btsI s).length=s.data.toList.length:=by simp only[btsI,List.length_map]
theorem btsI_drop (s:ByteArray) (i:Nat) (h:i<s.data.toList.length):(btsI s).drop i=bt s (i:Int)::(btsI s).drop (i+1):=by
 rw[bt_at s i h,drop_cons' (by rw[btsI_len];exact h)]
 simp only[btsI,List.getElem_map]
def shS:List Int→List Int| []=>[]|b::r=>if b=10 then shS r else wI (wI b-48)::shS r
def shI:List Int→Nat→List Int| [],_=>[]|b::r,i=>if i%9=8 then shI r (i+1)else wI (wI b-48)::shI r (i+1)
theorem shS_loop (s:ByteArray) (hs:s.data.toList.length≤1048576): ∀(k i:Nat) (acc:List Int),i≤s.data.toList.length→s.data.toList.length-i<k→acc.length≤i→
  n15_0 r11 k (s,()) () (acc,((i:Int),()))=some (Sum.inl (acc++shS ((btsI s).drop i),((s.data.toList.length:Int),())),())
 |0,_,_,_,h,_=>absurd h (by omega)
 |k+1,i,acc,hi,hk,ha=>by
  have hsz:(s.size:Int)=(s.data.toList.length:Int):=by rw[Lib.size_eq]
  unfold n15_0 w15_0
  dsimp only
  rw[hsz]
  by_cases hc:i<s.data.toList.length
  ·rw[ltI_t (show (i:Int)< (s.data.toList.length:Int) by omega),leI_t (show (0:Int)≤(i:Int) by omega),wI_succ (by omega),btsI_drop s i hc]
   simp only[cond_true,shS]
   by_cases h10:bt s (i:Int)=10
   ·rw[neI_f h10,cond_false,if_pos h10]
    exact shS_loop s hs k (i+1) acc (by omega) (by omega) (by omega)
   ·rw[neI_t h10,cond_true,if_neg h10,leN_t (by simp only[E.most,List.length_singleton];omega),cond_true]
    refine (shS_loop s hs k (i+1) _ (by omega) (by omega) (by simp;omega)).trans ?_
    rw[List.append_assoc,List.singleton_append]
  ·obtain rfl:i=s.data.toList.length:=by omega
   rw[ltI_f (by omega),cond_false,List.drop_of_length_le (by rw[btsI_len];omega)]
   simp only[shS,List.append_nil]
theorem shI_loop (s:ByteArray) (hs:s.data.toList.length≤1048576): ∀(k i:Nat) (acc:List Int),i≤s.data.toList.length→s.data.toList.length-i<k→acc.length≤i→
  n12_0 r10 k (s,((s.data.toList.length:Int),())) () (acc,((i:Int),()))=some (Sum.inl (acc++shI ((btsI s).drop i) i,((s.data.toList.length:Int),())),())
 |0,_,_,_,h,_=>absurd h (by omega)
 |k+1,i,acc,hi,hk,ha=>by
  have hsz:(s.size:Int)=(s.data.toList.length:Int):=by rw[Lib.size_eq]
  unfold n12_0 w12_0
  dsimp only
  rw[hsz]
  by_cases hc:i<s.data.toList.length
  ·have hm:Int.tmod (i:Int) 9=8↔i%9=8:=by
    rw[show (9:Int)=((9:Nat):Int)from rfl,←Int.ofNat_tmod];omega
   rw[ltI_t (show (i:Int)< (s.data.toList.length:Int) by omega),leI_t (show (0:Int)≤(i:Int) by omega),wI_succ (by omega),btsI_drop s i hc]
   simp only[cond_true,shI]
   by_cases h8:i%9=8
   ·rw[neI_f (hm.2 h8),cond_false,if_pos h8]
    exact shI_loop s hs k (i+1) acc (by omega) (by omega) (by omega)
   ·rw[neI_t (fun h=>h8 (hm.1 h)),cond_true,if_neg h8,leN_t (by simp only[E.most,List.length_singleton];omega),cond_true]
    refine (shI_loop s hs k (i+1) _ (by omega) (by omega) (by simp;omega)).trans ?_
    rw[List.append_assoc,List.singleton_append]
  ·obtain rfl:i=s.data.toList.length:=by omega
   rw[ltI_f (by omega),cond_false,List.drop_of_length_le (by rw[btsI_len];omega)]
   simp only[shI,List.append_nil]
def frGood (x:Int):Bool:=inR 0 63 x
def frAdd (i:Nat) (x:Int) (acc:List Int):List Int:=if Int.tmod (i:Int) 8=7 then (acc++[wB (wI (48+x))])++[10]else acc++[wB (wI (48+x))]
def frAll:List Int→Nat→List Int→List Int| [],_,acc=>acc|x::xs,i,acc=>frAll xs (i+1) (frAdd i x acc)
theorem frAdd_len (i:Nat) (x:Int) (acc:List Int) (h:acc.length≤2*i):(frAdd i x acc).length≤2*(i+1):=by
 unfold frAdd;split<;>simp<;>omega
theorem specFrame_loop (l:List Int) (hl:l.length≤1048576): ∀(k i:Nat) (acc:List Int),i≤l.length→l.length-i<k→acc.length≤2*i→
  n11_0 r28 k (l,()) () (acc,((i:Int),()))=some (if (l.drop i).all frGood=true then Sum.inl (frAll (l.drop i) i acc,((l.length:Int),()))else Sum.inr (bz [],()),())
 |0,_,_,_,h,_=>absurd h (by omega)
 |k+1,i,acc,hi,hk,ha=>by
  unfold n11_0 w11_0
  dsimp only
  rw[lenI_def]
  by_cases hc:i<l.length
  ·rw[ltI_t (show (i:Int)< (l.length:Int) by omega),leI_t (show (0:Int)≤(i:Int) by omega),wI_succ (by omega),rdE_nat .i l i hc,l1In_ok,drop_cons' hc]
   simp only[cond_true,Option.bind_some,List.all_cons]
   show (bif !frGood l[i]then _ else _)=_
   by_cases hg:frGood l[i]=true
   ·simp only[hg,Bool.not_true,cond_false,Bool.true_and]
    rw[leN_t (by simp only[E.most,List.length_singleton];omega),cond_true]
    have h:=specFrame_loop l hl k (i+1) (frAdd i l[i] acc) (by omega) (by omega) (frAdd_len i _ acc ha)
    rw[frAll,←h]
    unfold frAdd
    by_cases h7:Int.tmod (i:Int) 8=7
    ·rw[eqI_t h7,cond_true,if_pos h7,leN_t (by simp only[E.most,List.length_append,List.length_singleton];omega),cond_true]
    ·rw[eqI_f h7,cond_false,if_neg h7]
   ·have hg:=Bool.eq_false_iff.2 hg
    simp only[hg,Bool.not_false,cond_true,Bool.false_and]
    rfl
  ·obtain rfl:i=l.length:=by omega
   rw[ltI_f (by omega),cond_false,List.drop_length]
   rfl
theorem implFrame_loop (l:List Int) (hl:l.length≤1048576): ∀(k i:Nat) (acc:List Int),i≤l.length→l.length-i<k→acc.length≤2*i→
  n10_0 r27 k (l,((l.length:Int),())) () (acc,((i:Int),()))=some (Sum.inl (frAll (l.drop i) i acc,((l.length:Int),())),())
 |0,_,_,_,h,_=>absurd h (by omega)
 |k+1,i,acc,hi,hk,ha=>by
  unfold n10_0 w10_0
  dsimp only
  rw[lenI_def]
  by_cases hc:i<l.length
  ·rw[ltI_t (show (i:Int)< (l.length:Int) by omega),leI_t (show (0:Int)≤(i:Int) by omega),wI_succ (by omega),rdE_nat .i l i hc,drop_cons' hc]
   simp only[cond_true]
   rw[leN_t (by simp only[E.most,List.length_singleton];omega),cond_true]
   have h:=implFrame_loop l hl k (i+1) (frAdd i l[i] acc) (by omega) (by omega) (frAdd_len i _ acc ha)
   rw[frAll,←h]
   unfold frAdd
   by_cases h7:Int.tmod (i:Int) 8=7
   ·rw[eqI_t h7,cond_true,if_pos h7,leN_t (by simp only[E.most,List.length_append,List.length_singleton];omega),cond_true]
   ·rw[eqI_f h7,cond_false,if_neg h7]
  ·obtain rfl:i=l.length:=by omega
   rw[ltI_f (by omega),cond_false,List.drop_length]
   rfl
theorem colors_loop (l:List Int) (hl:l.length≤1048576): ∀(k i:Nat),i≤l.length→l.length-i<k→
  n27_0 r34 k (l,((l.length:Int),())) () ((i:Int),())=some (if (l.drop i).all frGood=true then Sum.inl ((l.length:Int),())else Sum.inr (false,()),())
 |0,_,_,h=>absurd h (by omega)
 |k+1,i,hi,hk=>by
  unfold n27_0 w27_0
  dsimp only
  rw[lenI_def]
  by_cases hc:i<l.length
  ·rw[ltI_t (show (i:Int)< (l.length:Int) by omega),leI_t (show (0:Int)≤(i:Int) by omega),wI_succ (by omega),rdE_nat .i l i hc,within_ok,drop_cons' hc]
   simp only[cond_true,Option.bind_some,List.all_cons]
   show (bif !frGood l[i]then _ else _)=_
   by_cases hg:frGood l[i]=true
   ·simp only[hg,Bool.not_true,cond_false,Bool.true_and]
    exact colors_loop l hl k (i+1) (by omega) (by omega)
   ·have hg:=Bool.eq_false_iff.2 hg
    simp only[hg,Bool.not_false,cond_true,Bool.false_and]
    rfl
  ·obtain rfl:i=l.length:=by omega
   rw[ltI_f (by omega),cond_false,List.drop_length]
   rfl
def frT (l:List Int):ByteArray:=if l.length=48∧l.all frGood=true then strOf (frAll l 0 [])else bz []
theorem specFrameText_ok (l:List Int) (hl:l.length≤1048576):r11 (l,())=some ((frT l,()),()):=by
 unfold r11 m11 frT
 dsimp only
 rw[lenI_def]
 by_cases h:l.length=48
 ·rw[neI_f (by omega),cond_false]
  have hL:=specFrame_loop l hl fuel 0 [] (Nat.zero_le _) (by have:=fuel_big;omega) (Nat.le_refl _)
  rw[List.drop_zero]at hL
  refine bind_step hL ?_
  cases hg:l.all frGood with
  |false=>rw[if_neg (by simp),if_neg (by simp)];rfl
  |true=>rw[if_pos rfl,if_pos ⟨h,rfl⟩];rfl
 ·rw[neI_t (by omega),cond_true,if_neg (fun e=>h e.1)]
theorem implColorsOk_ok (l:List Int) (hl:l.length≤1048576):r27 (l,())=some ((l.all frGood,()),()):=by
 unfold r27 m27
 have hL:=colors_loop l hl fuel 0 (Nat.zero_le _) (by have:=fuel_big;omega)
 rw[List.drop_zero]at hL
 refine bind_step hL ?_
 cases hg:l.all frGood with
 |false=>rw[if_neg (by simp)];rfl
 |true=>rw[if_pos rfl];rfl
theorem implFrameText_ok (l:List Int) (hl:l.length≤1048576):r10 (l,())=some ((frT l,()),()):=by
 unfold r10 m10 frT
 dsimp only
 rw[lenI_def]
 by_cases h:l.length=48
 ·rw[neI_f (by omega),cond_false]
  refine bind_step (implColorsOk_ok l hl) ?_
  cases hg:l.all frGood with
  |false=>rw[if_neg (by simp)];rfl
  |true=>
   rw[Bool.not_true,cond_false,if_pos ⟨h,rfl⟩]
   have hL:=implFrame_loop l hl fuel 0 [] (Nat.zero_le _) (by have:=fuel_big;omega) (Nat.le_refl _)
   rw[List.drop_zero]at hL
   exact bind_step hL rfl
 ·rw[neI_t (by omega),cond_true,if_neg (fun e=>h e.1)]
def frOut:List Int→Nat→List Int| [],_=>[]|x::xs,i=>(if i%8=7 then [48+x,10]else [48+x])++frOut xs (i+1)
theorem good_range {x:Int} (h:frGood x=true):0≤x∧x≤63:=inR_iff.1 h
theorem tmod8 (i:Nat):Int.tmod (i:Int) 8=7↔i%8=7:=by
 rw[show (8:Int)=((8:Nat):Int)from rfl,←Int.ofNat_tmod];omega
theorem all_out: ∀(l:List Int) (i:Nat) (acc:List Int),l.all frGood=true→frAll l i acc=acc++frOut l i
 | [],i,acc,_=>by simp[frAll,frOut]
 |x::xs,i,acc,h=>by
  simp only[List.all_cons,Bool.and_eq_true]at h
  obtain ⟨h0,h1⟩:=good_range h.1
  have hx:wB (wI (48+x))=48+x:=by rw[wI_id (by omega) (by omega),wB_id (by omega) (by omega)]
  simp only[frAll,frOut]
  rw[all_out xs (i+1) _ h.2]
  unfold frAdd
  by_cases h7:i%8=7
  ·rw[if_pos ((tmod8 i).2 h7),if_pos h7,hx];simp
  ·rw[if_neg (fun h=>h7 ((tmod8 i).1 h)),if_neg h7,hx];simp
theorem back48 {x:Int} (h0:0≤x) (h1:x≤63):wI (wI (48+x)-48)=x:=by
 rw[wI_id (x:=48+x) (by omega) (by omega),wI_id (by omega) (by omega)];omega
theorem shS_out: ∀(l:List Int) (i:Nat),l.all frGood=true→shS (frOut l i)=l
 | [],_,_=>rfl
 |x::xs,i,h=>by
  simp only[List.all_cons,Bool.and_eq_true]at h
  obtain ⟨h0,h1⟩:=good_range h.1
  have ih:=shS_out xs (i+1) h.2
  have hx:=back48 h0 h1
  have hn: ¬(48+x)=10:=by omega
  simp only[frOut]
  by_cases h7:i%8=7
  ·rw[if_pos h7];simp only[List.cons_append,List.nil_append,shS];rw[if_neg hn,if_true,ih,hx]
  ·rw[if_neg h7];simp only[List.cons_append,List.nil_append,shS];rw[if_neg hn,ih,hx]
theorem shI_out: ∀(l:List Int) (i:Nat),l.all frGood=true→shI (frOut l i) (i+i/8)=l
 | [],_,_=>rfl
 |x::xs,i,h=>by
  simp only[List.all_cons,Bool.and_eq_true]at h
  obtain ⟨h0,h1⟩:=good_range h.1
  have ih:=shI_out xs (i+1) h.2
  have hx:=back48 h0 h1
  have hn: ¬(i+i/8)%9=8:=by omega
  simp only[frOut]
  by_cases h7:i%8=7
  ·have e:i+i/8+1+1=i+1+(i+1)/8:=by omega
   have hp:(i+i/8+1)%9=8:=by omega
   rw[if_pos h7];simp only[List.cons_append,List.nil_append,shI];rw[if_neg hn,if_pos hp,e,ih,hx]
  ·have e:i+i/8+1=i+1+(i+1)/8:=by omega
   rw[if_neg h7];simp only[List.cons_append,List.nil_append,shI];rw[if_neg hn,e,ih,hx]
theorem out_range: ∀(l:List Int) (i:Nat),l.all frGood=true→ ∀x,x∈frOut l i→0≤x∧x≤255
 | [],_,_,_,h=>by cases h
 |y::ys,i,h,x,hx=>by
  simp only[List.all_cons,Bool.and_eq_true]at h
  obtain ⟨h0,h1⟩:=good_range h.1
  simp only[frOut,List.mem_append]at hx
  rcases hx with hx|hx
  ·split at hx<;>simp at hx<;>omega
  ·exact out_range ys (i+1) h.2 x hx
theorem btsI_strOf {l:List Int} (h: ∀x,x∈l→0≤x∧x≤255):btsI (strOf l)=l:=by
 unfold btsI strOf
 rw[List.map_map]
 have: ∀x,x∈l→((fun b:UInt8=>(b.toNat:Int)) ∘ fun n:Int=>UInt8.ofNat n.toNat) x=x:=fun x hx=>by
  obtain ⟨h0,h1⟩:=h x hx
  simp only[Function.comp,UInt8.toNat_ofNat']
  omega
 rw[List.map_congr_left this,List.map_id']
theorem text_of {l:List Int} {s:ByteArray} (h:frT l=s) (hne:s≠bz []):(l.length=48∧l.all frGood=true)∧btsI s=frOut l 0:=by
 subst h
 unfold frT at hne⊢
 split
 ·rename_i hv
  refine ⟨hv,?_⟩
  rw[all_out l 0 [] hv.2,List.nil_append]
  exact btsI_strOf (out_range l 0 hv.2)
 ·rename_i hv
  rw[if_neg hv]at hne
  exact absurd rfl hne
theorem shS_len: ∀l:List Int,(shS l).length≤l.length
 | []=>Nat.le_refl _
 |b::r=>by have:=shS_len r;simp only[shS];split<;>simp<;>omega
theorem shI_len: ∀(l:List Int) (i:Nat),(shI l i).length≤l.length
 | [],_=>Nat.le_refl _
 |b::r,i=>by have:=shI_len r (i+1);simp only[shI];split<;>simp<;>omega
theorem baEq (a b:ByteArray):(a.toList==b.toList)=decide (a=b):=by
 by_cases h:a=b
 ·subst h;rw[beq_self_eq_true,decide_eq_true rfl]
 ·rw[decide_eq_false h]
  refine beq_eq_false_iff_ne.2 fun e=>h (Go.WideShapes.bytes_inj ?_)
  rwa [ByteArray.toList_eq,ByteArray.toList_eq]at e
def frR (s:ByteArray):List Int×Bool:=if s=bz []then ([],false)else if frT (shS (btsI s))=s then (shS (btsI s),true)else ([],false)
theorem specFrameRead_ok (s:ByteArray) (hs:s.data.toList.length≤1048576):r15 (s,())=some (((frR s).1,((frR s).2,())),()):=by
 unfold r15 m15 frR
 have hL:=shS_loop s hs fuel 0 [] (Nat.zero_le _) (by have:=fuel_big;omega) (Nat.le_refl _)
 rw[List.drop_zero,List.nil_append]at hL
 refine bind_step hL ?_
 show (bif s.toList==(bz []).toList then _ else (r11 (shS (btsI s),())).bind _)=_
 rw[baEq]
 by_cases h0:s=bz []
 ·rw[decide_eq_true h0,cond_true,if_pos h0]
 ·rw[decide_eq_false h0,cond_false,if_neg h0]
  refine bind_step (specFrameText_ok _ (by have:=shS_len (btsI s);rw[btsI_len]at this;omega)) ?_
  show (bif !((frT (shS (btsI s))).toList==s.toList)then _ else _)=_
  rw[baEq]
  by_cases h1:frT (shS (btsI s))=s
  ·rw[decide_eq_true h1,if_pos h1];rfl
  ·rw[decide_eq_false h1,if_neg h1];rfl
theorem implFrameRead_ok (s:ByteArray) (hs:s.data.toList.length≤1048576):r12 (s,())=some (((frR s).1,((frR s).2,())),()):=by
 unfold r12 m12 frR
 have hL:=shI_loop s hs fuel 0 [] (Nat.zero_le _) (by have:=fuel_big;omega) (Nat.le_refl _)
 rw[List.drop_zero,List.nil_append]at hL
 have hsz:(s.size:Int)=(s.data.toList.length:Int):=by rw[Lib.size_eq]
 dsimp only
 rw[hsz]
 refine bind_step hL ?_
 show ((r10 (shI (btsI s) 0,())).bind _)=_
 refine bind_step (implFrameText_ok _ (by have:=shI_len (btsI s) 0;rw[btsI_len]at this;omega)) ?_
 show (bif (frT (shI (btsI s) 0)).toList==(bz []).toList then _ else bif !((frT (shI (btsI s) 0)).toList==s.toList)then _ else _)=_
 rw[baEq,baEq]
 by_cases h0:s=bz []
 ·rw[if_pos h0]
  by_cases h1:frT (shI (btsI s) 0)=bz []
  ·rw[decide_eq_true h1,cond_true]
  ·rw[decide_eq_false h1,cond_false,decide_eq_false (fun e=>h1 (e.trans h0))];rfl
 ·rw[if_neg h0]
  by_cases h2:frT (shS (btsI s))=s
  ·obtain ⟨hg,hn⟩:=text_of h2 h0
   have e:shI (btsI s) 0=shS (btsI s):=by
    have:=shI_out (shS (btsI s)) 0 hg.2
    rw[←hn]at this
    simpa using this
   rw[e,if_pos h2,decide_eq_false (fun h=>h0 (h2.symm.trans h)),decide_eq_true h2]
   rfl
  ·rw[if_neg h2]
   by_cases h1:frT (shI (btsI s) 0)=bz []
   ·rw[decide_eq_true h1,cond_true]
   ·rw[decide_eq_false h1,cond_false]
    by_cases h3:frT (shI (btsI s) 0)=s
    ·obtain ⟨hg,hn⟩:=text_of h3 h0
     have e:shS (btsI s)=shI (btsI s) 0:=by
      have:=shS_out (shI (btsI s) 0) 0 hg.2
      rw[←hn]at this
      exact this
     exact absurd (e▸h3) h2
    ·rw[decide_eq_false h3];rfl
theorem frR_of {l:List Int} (h:frT l≠bz []):frR (frT l)=(l,true):=by
 obtain ⟨hg,hn⟩:=text_of rfl h
 have e:shS (btsI (frT l))=l:=by rw[hn];exact shS_out l 0 hg.2
 unfold frR
 rw[if_neg h,e,if_pos rfl]
def toneSign (n:Int):Int:=if n=0 then 45 else if n=8 then 94 else 63
theorem implTone_loop (l:List Int) (hl:l.length≤1048576): ∀(k i:Nat) (acc:List Int),i≤l.length→l.length-i<k→acc.length≤i→
  n18_0 k (l,((l.length:Int),())) () (acc,((i:Int),()))=some (Sum.inl (acc++(l.drop i).map toneSign,((l.length:Int),())),())
 |0,_,_,_,h,_=>absurd h (by omega)
 |k+1,i,acc,hi,hk,ha=>by
  unfold n18_0 w18_0
  dsimp only
  rw[lenI_def]
  by_cases hc:i<l.length
  ·rw[ltI_t (show (i:Int)< (l.length:Int) by omega),leI_t (show (0:Int)≤(i:Int) by omega),wI_succ (by omega),rdE_nat .i l i hc,drop_cons' hc]
   simp only[cond_true,List.map_cons,List.length_singleton]
   rw[leN_t (by simp only[E.most];omega)]
   have hn: ∀x:Int,n18_0 k (l,((l.length:Int),())) () (acc++[x],(((i+1:Nat):Int),()))=some (Sum.inl (acc++x::(l.drop (i+1)).map toneSign,((l.length:Int),())),()):=fun x=>by
    rw[implTone_loop l hl k (i+1) _ (by omega) (by omega) (by simp;omega),List.append_assoc,List.singleton_append]
   simp only[cond_true,hn,toneSign]
   by_cases h0:l[i]=0
   ·rw[eqI_t h0,cond_true,if_pos h0]
   ·rw[eqI_f h0,cond_false,if_neg h0]
    by_cases h8:l[i]=8
    ·rw[eqI_t h8,cond_true,if_pos h8]
    ·rw[eqI_f h8,cond_false,if_neg h8]
  ·obtain rfl:i=l.length:=by omega
   rw[ltI_f (by omega),cond_false,List.drop_length,List.map_nil,List.append_nil]
theorem specTone_loop (l:List Int) (hl:l.length≤1048576): ∀(k i:Nat) (acc:List Int),i≤l.length→l.length-i<k→acc.length≤i→
  n19_0 k (l,()) () (acc,((i:Int),()))=some (Sum.inl (acc++(l.drop i).map toneSign,((l.length:Int),())),())
 |0,_,_,_,h,_=>absurd h (by omega)
 |k+1,i,acc,hi,hk,ha=>by
  unfold n19_0 w19_0
  dsimp only
  rw[lenI_def]
  by_cases hc:i<l.length
  ·rw[ltI_t (show (i:Int)< (l.length:Int) by omega),leI_t (show (0:Int)≤(i:Int) by omega),wI_succ (by omega),rdE_nat .i l i hc,drop_cons' hc]
   simp only[cond_true,List.map_cons,List.length_singleton]
   rw[leN_t (by simp only[E.most];omega)]
   have hn: ∀x:Int,n19_0 k (l,()) () (acc++[x],(((i+1:Nat):Int),()))=some (Sum.inl (acc++x::(l.drop (i+1)).map toneSign,((l.length:Int),())),()):=fun x=>by
    rw[specTone_loop l hl k (i+1) _ (by omega) (by omega) (by simp;omega),List.append_assoc,List.singleton_append]
   simp only[cond_true,hn,toneSign]
   by_cases h0:l[i]=0
   ·rw[eqI_t h0,cond_true,if_pos h0]
   ·rw[eqI_f h0,cond_false,if_neg h0]
    by_cases h8:l[i]=8
    ·rw[eqI_t h8,cond_true,if_pos h8]
    ·rw[eqI_f h8,cond_false,if_neg h8]
  ·obtain rfl:i=l.length:=by omega
   rw[ltI_f (by omega),cond_false,List.drop_length,List.map_nil,List.append_nil]
theorem implToneText_ok (l:List Int) (hl:l.length≤1048576):r18 (l,())=some ((strOf (l.map toneSign),()),()):=by
 unfold r18 m18
 have hL:=implTone_loop l hl fuel 0 [] (Nat.zero_le _) (by have:=fuel_big;omega) (Nat.le_refl _)
 rw[List.drop_zero,List.nil_append]at hL
 exact bind_step hL rfl
theorem specToneText_ok (l:List Int) (hl:l.length≤1048576):r19 (l,())=some ((strOf (l.map toneSign),()),()):=by
 unfold r19 m19
 have hL:=specTone_loop l hl fuel 0 [] (Nat.zero_le _) (by have:=fuel_big;omega) (Nat.le_refl _)
 rw[List.drop_zero,List.nil_append]at hL
 exact bind_step hL rfl
theorem strOf_size (l:List Int):(strOf l).size=l.length:=by
 show Array.size _=_
 rw[List.size_toArray,List.length_map]
theorem drawFrame_loop {b:List Int}: ∀(k:Nat) (i:Int) (l:List Int) (t:CurT),Cur b t→0≤i→i≤48→48-i<k→(l.length:Int)=i→
  Ans (n25_0 r29 r31 k () ((b,t),()) (l,(i,()))) fun r=> ∃(i':Int) (l':List Int) (t':CurT),r=(Sum.inl (l',(i',())),((b,t'),()))∧Cur b t'∧l'.length=48
 |0,_,_,_,_,_,h1,h2,_=>absurd h2 (by omega)
 |k+1,i,l,t,hc,h0,h1,h2,hl=>by
  unfold n25_0 w25_0
  dsimp only
  by_cases hi:i<48
  ·rw[ltI_t hi,cond_true]
   refine (l1Below_ok hc 64).bind ?_
   rintro _ ⟨v,t1,rfl,hc1,_⟩
   dsimp only
   rw[leN_t (by simp only[E.most,List.length_singleton];omega),cond_true,wI_id (x:=i+1) (by omega) (by omega)]
   exact drawFrame_loop k (i+1) _ t1 hc1 (by omega) (by omega) (by omega) (by rw[List.length_append,List.length_singleton];omega)
  ·rw[ltI_f hi,cond_false]
   exact .ret ⟨_,_,_,rfl,hc,by omega⟩
theorem l19DrawFrame_ok {b:List Int} {t:CurT} (h:Cur b t):Ans (r25 ((b,t),())) (Dr b fun v:List Int=>v.length≤48):=by
 unfold r25 m25
 refine (drawFrame_loop fuel 0 [] t h (by omega) (by omega) (by have:=fuel_big;omega) rfl).bind ?_
 rintro _ ⟨i,l,t1,rfl,hc,hl⟩
 show Ans ((r29 ((b,t1),((9:Int),()))).bind _) _
 refine (l1Below_ok hc 9).bind ?_
 rintro _ ⟨v,t2,rfl,hc2,_⟩
 dsimp only
 cases eqI v 0
 ·rw[cond_false]
  cases eqI v 1
  ·rw[cond_false]
   exact .ret ⟨_,_,rfl,hc2,by omega⟩
  ·rw[cond_true,lenI_def,leI_t (by omega),cond_true]
   exact .ret ⟨_,_,rfl,hc2,(show (List.drop (Int.toNat 1) l).length≤48 by rw[List.length_drop];omega)⟩
 ·rw[cond_true]
  refine (l1PickInt_ok hc2 _ (by decide)).bind ?_
  rintro _ ⟨u,t3,rfl,hc3,_⟩
  dsimp only
  rw[lenI_def,ltI_t (by omega),cond_true]
  exact .ret ⟨_,_,rfl,hc3,(show (l.set (Int.toNat 3) u).length≤48 by rw[List.length_set];omega)⟩
theorem drawFrameText_ok {b:List Int} (hb:b.length≤1048576):Ans (r9 (b,())) fun r=> ∃l:List Int,r=((l,()),())∧l.length≤48:=by
 unfold r9 m9
 refine (l1New_ok b hb).bind ?_
 rintro _ ⟨t,rfl,hc⟩
 refine (l19DrawFrame_ok hc).bind ?_
 rintro _ ⟨l,t1,rfl,_,hl⟩
 exact .ret ⟨l,rfl,hl⟩
theorem frOut_len: ∀(l:List Int) (i:Nat),(frOut l i).length≤2*l.length
 | [],_=>Nat.le_refl _
 |x::xs,i=>by
  have:=frOut_len xs (i+1)
  simp only[frOut]
  split<;>simp<;>omega
theorem frT_size (l:List Int) (hl:l.length≤48):(frT l).size≤96:=by
 unfold frT
 split
 ·rename_i hv
  rw[strOf_size,all_out l 0 [] hv.2,List.nil_append]
  have:=frOut_len l 0
  omega
 ·decide
theorem drawFrameRead_ok {b:List Int} (hb:b.length≤1048576):Ans (r14 (b,())) fun r=> ∃s:ByteArray,r=((s,()),())∧s.size≤1000:=by
 unfold r14 m14
 refine (l1New_ok b hb).bind ?_
 rintro _ ⟨t,rfl,hc⟩
 refine (l19DrawFrame_ok hc).bind ?_
 rintro _ ⟨l,t1,rfl,hc1,hl⟩
 refine (Ans.of (specFrameText_ok l (by omega))).bind ?_
 rintro _ rfl
 have hs:=frT_size l hl
 generalize frT l=s at hs⊢
 dsimp only
 rw[wI_id (x:=(s.size:Int)+1) (by omega) (by omega)]
 refine (l1Below_ok hc1 _).bind ?_
 rintro _ ⟨(v:Int),t2,rfl,hc2,hv,_⟩
 have hv:(0:Int)≤v∧v< (s.size:Int)+1:=hv (by omega)
 refine (l1Below_ok hc2 5).bind ?_
 rintro _ ⟨u,t3,rfl,hc3,_⟩
 dsimp only
 have hx:(s.extract 0 v.toNat).size≤100:=by rw[ByteArray.size_extract];omega
 have hy:(s.extract v.toNat s.size).size≤100:=by rw[ByteArray.size_extract];omega
 simp only[leI_t hv.1,leI_t (show v≤(s.size:Int) by omega),cond_true]
 cases eqI u 0
 ·rw[cond_false]
  cases eqI u 1
  ·rw[cond_false]
   exact .ret ⟨s,rfl,by omega⟩
  ·rw[cond_true]
   refine (l1Pick_ok hc3 _ (by decide)).bind ?_
   rintro _ ⟨w,t4,rfl,hc4,hw⟩
   have hw:ByteArray.size w≤1:=by
    revert hw
    revert w
    decide+kernel
   dsimp only
   rw[leN_t (show (s.extract 0 v.toNat).size+ByteArray.size w≤4611686018427387904 by omega),cond_true,leN_t (show (s.extract 0 v.toNat++w).size+(s.extract v.toNat s.size).size≤4611686018427387904 by rw[ByteArray.size_append];omega),cond_true]
   exact .ret ⟨_,rfl,(show (s.extract 0 v.toNat++w++s.extract v.toNat s.size).size≤1000 by rw[ByteArray.size_append,ByteArray.size_append];omega)⟩
 ·rw[cond_true]
  exact .ret ⟨_,rfl,by omega⟩
theorem drawTone_loop {b:List Int}: ∀(k:Nat) (i:Int) (l:List Int) (t:CurT),Cur b t→0≤i→i≤30→30-i<k→(l.length:Int)=i→
  Ans (n16_0 r29 r26 r31 k () ((b,t),()) (l,(i,()))) fun r=> ∃(i':Int) (l':List Int) (t':CurT),r=(Sum.inl (l',(i',())),((b,t'),()))∧l'.length≤30
 |0,_,_,_,_,_,h1,h2,_=>absurd h2 (by omega)
 |k+1,i,l,t,hc,h0,h1,h2,hl=>by
  unfold n16_0 w16_0
  refine (l1Below_ok hc 30).bind ?_
  rintro _ ⟨v,t1,rfl,hc1,hv,_⟩
  have hv:=hv (by omega)
  dsimp only
  by_cases hi:i<v
  ·rw[ltI_t hi,cond_true]
   refine (l1PickInt_ok hc1 _ (by decide)).bind ?_
   rintro _ ⟨u,t2,rfl,hc2,_⟩
   dsimp only
   rw[leN_t (by simp only[E.most,List.length_singleton];omega),cond_true,wI_id (x:=i+1) (by omega) (by omega)]
   exact drawTone_loop k (i+1) _ t2 hc2 (by omega) (by omega) (by omega) (by rw[List.length_append,List.length_singleton];omega)
  ·rw[ltI_f hi,cond_false]
   exact .ret ⟨_,_,_,rfl,by omega⟩
theorem drawToneText_ok {b:List Int} (hb:b.length≤1048576):Ans (r16 (b,())) fun r=> ∃l:List Int,r=((l,()),())∧l.length≤30:=by
 unfold r16 m16
 refine (l1New_ok b hb).bind ?_
 rintro _ ⟨t,rfl,hc⟩
 refine (drawTone_loop fuel 0 [] t hc (by omega) (by omega) (by have:=fuel_big;omega) rfl).bind ?_
 rintro _ ⟨i,l,t1,rfl,hl⟩
 exact .ret ⟨l,rfl,hl⟩
theorem drawCpuText_ok {b:List Int} (hb:b.length≤1048576):Ans (r17 (b,())) fun r=> ∃c:Tup cpuL,r=((c,()),()):=by
 unfold r17 m17
 refine (l1New_ok b hb).bind ?_
 rintro _ ⟨t,rfl,hc⟩
 refine (l5Draw_ok hc).bind ?_
 rintro _ ⟨c,t1,rfl,_,_⟩
 exact .ret ⟨c,rfl⟩

end Go.Proofs.YtjagjoolnoodaaaDoor.Plain
