/- A law answers true. No condition. -/
import Derived.Test.YtmlahgmhbdpkjaaGreatDoorPO
set_option linter.unusedVariables false
set_option linter.unusedSimpArgs false
namespace Go.Proofs.YtmlahgmhbdpkjaaGreatDoor.Plain
open Go Go.Tev
theorem ZkF {b:List Int} {t:CurT} (h:Cur b t):Ans (r38 ((b,t),())) (Dr b fun _:ByteArray=>True):=by
 unfold r38 m38
 refine (ZrF h).bind ?_
 rintro _ ⟨(v:ByteArray),t1,rfl,hc,hv⟩
 dsimp only
 generalize hz:(bz [97,116,32,50,53,48,10,98,121,116,101,32,49,50,56,10,98,121,116,101,32,49,57,50,10,98,121,116,101,32,48,10,98,121,116,101,32,49,57,50,10,98,121,116,101,32,49,54,48,10,98,121,116,101,32,49,57,50,10])=z
 have hz:z.size≤200:=by rw[←hz];decide+kernel
 have hw:(v++z).size=v.size+z.size:=ByteArray.size_append
 rw[Zc5 (show ByteArray.size v+z.size≤4611686018427387904 by omega),cond_true]
 refine (Zg5 hc 12).bind ?_
 rintro _ ⟨o,t2,rfl,hc,_⟩
 dsimp only
 cases o
 ·exact .ret ⟨_,_,rfl,hc,trivial⟩
 rw[cond_true,hw,Zau (by omega) (by omega)]
 refine (ZcF hc _).bind ?_
 rintro _ ⟨(k:Int),t3,rfl,hc,hk,_⟩
 obtain ⟨k0,k1⟩:=hk (by omega)
 dsimp only
 have x1:((v++z).extract 0 k.toNat).size≤v.size+z.size:=by rw[ByteArray.size_extract];omega
 have x2:((v++z).extract k.toNat (v.size+z.size)).size≤v.size+z.size:=by rw[ByteArray.size_extract];omega
 have x3:(bz [120]).size=1:=rfl
 have x4:((v++z).extract 0 k.toNat++bz [120]).size=((v++z).extract 0 k.toNat).size+(bz [120]).size:=ByteArray.size_append
 rw[Zao k0,Zao (show k≤((v.size+z.size:Nat):Int) by omega),Zc5 (show ((v++z).extract 0 k.toNat).size+(bz [120]).size≤4611686018427387904 by omega),Zc5 (show ((v++z).extract 0 k.toNat++bz [120]).size+((v++z).extract k.toNat (v.size+z.size)).size≤4611686018427387904 by omega)]
 exact .ret ⟨_,_,rfl,hc,trivial⟩
theorem ZmP {b:List Int} (hb:b.length≤1048576):Ans (r14 (b,())) fun r=> ∃(s:ByteArray) (p:List Int) (cap:Int),r=((s,(p,(cap,()))),())∧p.length≤100:=by
 unfold r14 m14
 refine (Zta b hb).bind ?_
 rintro _ ⟨t,rfl,hc⟩
 refine (ZkF hc).bind ?_
 rintro _ ⟨(s:ByteArray),t1,rfl,hc,_⟩
 refine (ZkE hc).bind ?_
 rintro _ ⟨(p:List Int),t2,rfl,hc,hp⟩
 refine (Zij hc _ (by decide)).bind ?_
 rintro _ ⟨(v:Int),t3,rfl,hc,_⟩
 exact .ret ⟨s,p,v,rfl,hp⟩
theorem plain4: ∀y:PTup i4,wfTs i4 y→ ∃b,r4 y=some ((true,()),b):=by
 rintro ⟨code,_⟩ ⟨hcode,_⟩
 refine ⟨(),ZvD ?_⟩
 unfold r4 m4
 refine (Ans.of (Zvd code)).bind ?_
 rintro _ rfl
 dsimp only
 refine Zvp code () () fun hb=> ?_
 refine (ZmP hb).bind ?_
 rintro _ ⟨s,p,cap,rfl,hp⟩
 refine (Ans.of (Zm0 s p cap (by omega))).bind ?_
 rintro _ rfl
 refine (Ans.of (ZnC s p cap (by omega))).bind ?_
 rintro _ rfl
 dsimp only
 rw[Zth,cond_false]
 unfold Zj7
 by_cases h0:(Zan s.data.toList).2=0
 ·rw[if_pos h0]
  cases hk:Zcr [(Zan s.data.toList).1] p cap
  ·exact .ret rfl
  ·obtain ⟨h1,h2,h3⟩:=ZdC.1 hk
   have hP:=ZrO h1 h2 h3
   have hs:ZaG (newS [(Zan s.data.toList).1] p cap).t:=hP.s (Nat.zero_le _)
   refine Ans.if_f rfl ?_
   refine (Ans.of (Zfq s)).bind ?_
   rintro _ rfl
   refine (Ans.of (Za4 (newS [(Zan s.data.toList).1] p cap).t hs)).bind ?_
   rintro _ rfl
   refine Ans.if_t (ZaO.2 hP) (Ans.if_t rfl (Ans.if_t rfl ?_))
   refine (Ans.of (Zmf (Zan s.data.toList).1 (by rw[(ZiZ s.data.toList).2 h0];omega))).bind ?_
   rintro _ rfl
   refine Ans.if_t rfl ?_
   refine (Ans.of (Zjo (newS [(Zan s.data.toList).1] p cap) hs (Nat.zero_le _))).bind ?_
   rintro _ rfl
   rw[ZsP (ZsR h1 h2 h3) (by show (0:Int)≤3000;omega)]
   exact .ret rfl
 ·rw[if_neg h0]
  exact Ans.if_t (Zdh h0) (.ret rfl)

end Go.Proofs.YtmlahgmhbdpkjaaGreatDoor.Plain
