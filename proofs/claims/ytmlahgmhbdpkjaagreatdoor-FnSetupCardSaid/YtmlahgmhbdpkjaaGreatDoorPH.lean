/- Plain laws of the printed functions: Sim, Sim2. No condition beyond those that each lemma states. -/
import Derived.Test.YtmlahgmhbdpkjaaGreatDoorPF
set_option linter.unusedVariables false
set_option linter.unusedSimpArgs false
namespace Go.Proofs.YtmlahgmhbdpkjaaGreatDoor.Plain
open Go Go.Tev
theorem Zrm {w:PicM} {m:Int} (h:PicP w) (ht:w.ppu.T≤m) (hm:m≤20000) (hl: ∀x,x∈w.list→x.1≤m) (hs:Za2 w m=none):w.list=[]∧w.ppu.T=m:=by
 unfold Za2 at hs
 split at hs
 ·cases hs
 rename_i hd
 split at hs
 ·cases hs
 have e:w.ppu.T=m:=by omega
 refine ⟨?_,e⟩
 cases hw:w.list with
 |nil=>rfl
 |cons x l=>
  have h1:=hl x (by rw[hw];exact List.mem_cons_self)
  have h2:=h.lo x (by rw[hw];exact List.mem_cons_self)
  exact absurd (show due w.list w.ppu.T=true by rw[hw];exact decide_eq_true (by omega)) hd
theorem Zro {w:SndM} {m:Int} (h:SndP w) (ht:w.apu.T≤m) (hm:m≤20000) (hl: ∀x,x∈w.list→x.1≤m) (hs:Za3 w m=none):w.list=[]∧w.apu.T=m:=by
 unfold Za3 at hs
 split at hs
 ·cases hs
 rename_i hd
 split at hs
 ·cases hs
 have e:w.apu.T=m:=by omega
 refine ⟨?_,e⟩
 cases hw:w.list with
 |nil=>rfl
 |cons x l=>
  have h1:=hl x (by rw[hw];exact List.mem_cons_self)
  have h2:=h.lo x (by rw[hw];exact List.mem_cons_self)
  exact absurd (show due w.list w.apu.T=true by rw[hw];exact decide_eq_true (by omega)) hd
theorem Zv2 {w:PicM} {m:Int} (hl:w.list=[]) (ht:m≤w.ppu.T):Za2 w m=none:=by
 unfold Za2
 rw[if_neg (by rw[hl];simp[due]),if_neg (by omega)]
theorem Zv3 {w:SndM} {m:Int} (hl:w.list=[]) (ht:m≤w.apu.T):Za3 w m=none:=by
 unfold Za3
 rw[if_neg (by rw[hl];simp[due]),if_neg (by omega)]
theorem ZmH {s:Zac} (h:Zaz s):((ZaH s.pic s.T).list=[]∧(ZaH s.pic s.T).ppu.T=s.T)∧(ZaI s.snd s.T).list=[]∧(ZaI s.snd s.T).apu.T=s.T:=by
 obtain ⟨p,a,b⟩:=ZiK h
 exact ⟨Zrm p.pic p.pt p.t.2 p.pl a,Zro p.snd p.st p.t.2 p.sl b⟩
def Zgi (s:Zac):Zas:=⟨s.img,s.pads,s.mem,s.cpu,(ZaH s.pic s.T).ppu,(ZaI s.snd s.T).apu,s.pad,s.nmi,s.steps,(ZaH s.pic s.T).frames,(ZaI s.snd s.T).samples,s.reads⟩
structure SimP (s:Zac):Prop where
 p:Zaz s
 ctrl:s.ctrl=(ZaH s.pic s.T).ppu.ctrl
 known:Zkt s.knownAt s.T=false→s.known=(ZaI s.snd s.T).apu.irq
theorem Ztf {s:Zac} (h:Zaz s):(Zgi s).ppu.T=s.T∧(Zgi s).apu.T=s.T:=⟨(ZmH h).1.2,(ZmH h).2.2⟩
theorem ZuK {s:Zac} (h:Zgk s=true):s.pic.list=[]∧s.pic.ppu.T=s.T:=by
 unfold Zgk at h
 rw[Bool.and_eq_true,Zcm,Zcm]at h
 exact ⟨List.eq_nil_of_length_eq_zero (by omega),h.1⟩
theorem ZuU {s:Zac} (h:Zd3 s=true):s.snd.list=[]∧s.snd.apu.T=s.T:=by
 unfold Zd3 at h
 rw[Bool.and_eq_true,Zcm,Zcm]at h
 exact ⟨List.eq_nil_of_length_eq_zero (by omega),h.1⟩
def newS (f:List (List Int)) (p:List Int) (cap:Int):Zac:=⟨f,p,Zbv,Zim f,⟨false,0⟩,0,false,0,false,0,0,[],⟨⟨0,0,0,0,0,false,List.replicate 16 0,[]⟩,cap,[],[]⟩,⟨⟨0,0,0,0,0,false,false⟩,cap,[],[]⟩⟩
theorem ZjF {cap:Int} (hc:1≤cap∧cap≤16):Zkr cap []:=⟨(fun x hx=>by cases hx),List.Pairwise.nil,hc.1,hc.2,(show (0:Int)≤cap by omega)⟩
theorem ZrO {f:List (List Int)} {p:List Int} {cap:Int} (h:ImgP f) (hp:ZgL p) (hc:1≤cap∧cap≤16):Zaz (newS f p cap):=
 ⟨ZiM h,hp,Zpf f,⟨Zpg,ZjF hc,(fun x hx=>by cases hx),(fun x hx=>by cases hx),by show (0:Int)=ZbN 0;decide⟩,
  ⟨Zpe,ZjF hc,(fun x hx=>by cases hx),by show (0:Int)=0/16;decide⟩,⟨Int.le_refl _,(by show (0:Int)≤255;decide)⟩,⟨Int.le_refl _,(by show (0:Int)≤255;decide)⟩,⟨Int.le_refl _,(by show (0:Int)≤20000;decide)⟩,
  ⟨Int.le_refl _,Int.le_refl _⟩,⟨Int.le_refl _,Int.le_refl _⟩,Int.le_refl _,Int.le_refl _,(fun x hx=>by cases hx),(fun x hx=>by cases hx)⟩
structure ZpP (s:Zac):Prop where
 sim:SimP s
 run: ∃k:Nat,s.steps=k∧runL k (newL s.img s.pads)=(Zgi s,k)
 time:s.T≤7*s.steps
theorem ZuF (f:List (List Int)) (p:List Int) (cap:Int):ZaH (newS f p cap).pic 0=(newS f p cap).pic∧ZaI (newS f p cap).snd 0=(newS f p cap).snd:=
 ⟨Zb5 (Zv2 rfl (Int.le_refl _)),Zb6 (Zv3 rfl (Int.le_refl _))⟩
theorem ZsR {f:List (List Int)} {p:List Int} {cap:Int} (h:ImgP f) (hp:ZgL p) (hc:1≤cap∧cap≤16):ZpP (newS f p cap):=by
 obtain ⟨a,b⟩:=ZuF f p cap
 have e:Zgi (newS f p cap)=newL f p:=by
  unfold Zgi
  rw[show (newS f p cap).T=0 from rfl,a,b]
  rfl
 refine ⟨⟨ZrO h hp hc,?_,fun _=> ?_⟩,⟨0,rfl,?_⟩,by show (0:Int)≤7*0;decide⟩
 ·rw[show (newS f p cap).T=0 from rfl,a];rfl
 ·rw[show (newS f p cap).T=0 from rfl,b];rfl
 ·rw[e];rfl
theorem ZvL {s:Zac} (h:Zaz s) (hp:Za2 s.pic s.T=none) (hs:Za3 s.snd s.T=none):Zgk s=true∧Zd3 s=true:=by
 obtain ⟨a,b⟩:=Zrm h.pic h.pt h.t.2 h.pl hp
 obtain ⟨c,d⟩:=Zro h.snd h.st h.t.2 h.sl hs
 unfold Zgk Zd3
 rw[a,b,c,d]
 exact ⟨by simp[Zdd],by simp[Zdd]⟩
theorem Zte {s:Zac} (h:Zaz s):Zgk (Zet s)=true∧Zd3 (Zet s)=true:=by
 obtain ⟨p,a,b⟩:=ZiK h
 exact ZvL p a b
theorem Zoq (s:Zac) (n:Int):(Zf6 s n=0∧s.T+n≤20000)∨(Zf6 s n=5∧20000<s.T+n):=by
 unfold Zf6
 by_cases h:20000<s.T+n
 ·rw[if_pos h];exact .inr ⟨rfl,h⟩
 ·rw[if_neg h];exact .inl ⟨rfl,by omega⟩
theorem Zu9 {s:Zac} (h:Zaz s) (hp:Zgk s=true) (hs:Zd3 s=true):ZdN s=0∨ZdN s=5∧20000<s.T+7:=by
 have hov: ∀n:Int,n≤7→Zf6 s n=0∨Zf6 s n=5∧20000<s.T+7:=fun n hn=>by
  rcases Zoq s n with ⟨a,b⟩| ⟨a,b⟩
  ·exact .inl a
  ·exact .inr ⟨a,by omega⟩
 obtain ⟨p1,p2⟩:=ZuK hp
 obtain ⟨s1,s2⟩:=ZuU hs
 have r1:=h.pic.ring.c0
 have r2:=h.snd.ring.c0
 have hc:=ZfW (opS s)
 unfold ZdN
 rw[hp,hs,p1,s1]
 split
 ·exact hov 7 (by omega)
 rw[if_neg (by simp)]
 split
 ·exact hov 7 (by omega)
 rw[if_neg (by simp),if_neg (by simp),if_neg (by rintro ⟨_,_,h⟩;simp only[List.length_nil]at h;omega),if_neg (by rintro ⟨_,_,h⟩;simp only[List.length_nil]at h;omega)]
 exact hov _ (by omega)
theorem Zt5 {s:Zac} (h:Zaz s):ZcU s 0=true∨ZcU s 1=true∨ZcU s 2=true∨(Zet s=s∧ZdN s=5∧20000<s.T+7):=by
 rw[(Zpp s).2,(Zpq s).2,(Zpr s).2]
 cases hp:Za2 s.pic s.T with
 |some v=>exact .inr (.inl rfl)
 |none=>
  cases hs:Za3 s.snd s.T with
  |some v=>exact .inr (.inr (.inl rfl))
  |none=>
   obtain ⟨a,b⟩:=ZvL h hp hs
   rcases Zu9 h a b with h0| ⟨h5,h7⟩
   ·exact .inl (decide_eq_true h0)
   ·refine .inr (.inr (.inr ⟨?_,h5,h7⟩))
    unfold Zet
    rw[Zb5 hp,Zb6 hs]
theorem ZsJ {s:Zac} (h:Zaz s):Zmy s=((if ZcU s 0 then [0]else [])++(if ZcU s 1 then [1]else []))++(if ZcU s 2 then [2]else []):=by
 have e: ∀who,(Zf7 s who).2=ZcU s who:=fun who=>by unfold Zf7;rw[ZaO.2 h,if_pos rfl]
 unfold Zmy
 rw[e,e,e]
theorem ZqY {s:Zac} (h:Zaz s):ZmA s=true:=by
 unfold ZmA
 rw[ZaO.2 h,ZsJ h,Bool.true_and]
 rcases Zt5 h with e|e|e| ⟨e1,e2,_⟩
 ·rw[e];simp[ltI];omega
 ·rw[e];simp[ltI];omega
 ·rw[e];simp[ltI];omega
 ·rw[Zo7 h,e1]
  unfold ZtI
  rw[ZaO.2 h,if_pos rfl,e2,show eqI 5 5=true from rfl,Bool.or_true]
theorem Zk0 (a:Tup cpuL):ZnX a a=true:=by simp[ZnX,Zdd]
theorem ZpS (a:Tup apuL):Zt7 a a=true:=by simp[Zt7,Zdd]
theorem Zlr (a:Tup padL):Zot a a=true:=by simp[Zot,Zdd]
theorem Zlm (a:Tup memL):Znb a a=true:=by simp[Znb,Zdd]
theorem ZqH (a:Tup ppuL):Ztp a a=true:=by simp[Ztp,Zdd]
theorem Zoh (a:Tup ZhN):Zpa a a=true:=by
 unfold Zpa
 simp only[Zk0,ZpS,Zlr,Zlm,ZqH,ZqA,Zdd,beq_self_eq_true,Bool.and_self]
theorem Zi2 {s:Zac} (h:ZpP s) (hs:s.steps≤3000):ZkQ s=(Zgi s).t∧fewM s=true:=by
 have hf:fewM s=true:=by
  unfold fewM
  rw[ZaO.2 h.sim.p,ZeU.2 hs,Bool.true_and]
 obtain ⟨k,hk,hr⟩:=h.run
 have hL:ZeW (newL s.img s.pads)=true:=ZgB.2 (ZrN h.sim.p.mem.img h.sim.p.pads)
 refine ⟨?_,hf⟩
 unfold ZkQ
 rw[hf,if_pos rfl]
 unfold Zg6
 rw[hL,if_pos rfl,show ZiA s.steps=k by unfold ZiA;split<;>omega,hr]
theorem ZsQ {s:Zac} (h:ZpP s) (hs:s.steps≤3000):ZdA s=true:=by
 obtain ⟨a,b⟩:=Zi2 h hs
 have hT:(Zgi s).ppu.T=s.T:=(Ztf h.sim.p).1
 unfold ZdA
 rw[a,b,Bool.true_and]
 show (ZnX s.cpu.t s.cpu.t&&(Zot s.pad.t s.pad.t&&((s.nmi==s.nmi)&&(eqI s.T (Zgi s).ppu.T&&(Znb s.mem.t s.mem.t&&decide (s.reads=s.reads))))))=true
 rw[Zk0,Zlr,Zlm,hT,Zdd]
 simp
theorem ZnT {α:Type} [DecidableEq α] (a c:List α):beg a (a++c)=true:=by
 unfold beg
 simp
theorem ZlM {w:PicM} (m:Int) (h:PicP w): ∃c,(ZaH w m).frames=w.frames++c:=by
 refine (ZeH (m:=m) (Q:=fun v=> ∃c,v.frames=w.frames++c) (fun u v hu hq hs=> ?_) _ (Nat.le_refl _) h ⟨[],(List.append_nil _).symm⟩).2.1
 obtain ⟨c,hc⟩:=hq
 unfold Za2 at hs
 split at hs
 ·simp only[Option.some.injEq]at hs
  subst hs
  exact ⟨c,hc⟩
 ·split at hs
  ·simp only[Option.some.injEq]at hs
   subst hs
   by_cases ht:Zdl u.ppu=true
   ·exact ⟨c++[Zcn u.ppu],by show (if Zdl u.ppu then _ else _)=_;rw[ht,if_pos rfl,hc,List.append_assoc]⟩
   ·exact ⟨c,by show (if Zdl u.ppu then _ else _)=_;rw[if_neg ht,hc]⟩
  ·cases hs
theorem Zku {w:SndM} (m:Int) (h:SndP w): ∃c,(ZaI w m).samples=w.samples++c:=by
 refine (ZeI (m:=m) (Q:=fun v=> ∃c,v.samples=w.samples++c) (fun u v hu hq hs=> ?_) _ (Nat.le_refl _) h ⟨[],(List.append_nil _).symm⟩).2.1
 obtain ⟨c,hc⟩:=hq
 unfold Za3 at hs
 split at hs
 ·simp only[Option.some.injEq]at hs
  subst hs
  exact ⟨c,hc⟩
 ·split at hs
  ·simp only[Option.some.injEq]at hs
   subst hs
   by_cases ht:ZgJ u.apu=true
   ·exact ⟨c++[ZfG u.apu],by show (if ZgJ u.apu then _ else _)=_;rw[ht,if_pos rfl,hc,List.append_assoc]⟩
   ·exact ⟨c,by show (if ZgJ u.apu then _ else _)=_;rw[if_neg ht,hc]⟩
  ·cases hs
theorem ZuQ {s:Zac} (h:Zaz s):ZjH (ZqB s.t) (ZhK (Zgi s).t)=true:=by
 obtain ⟨c,hc⟩:=ZlM s.T h.pic
 obtain ⟨d,hd⟩:=Zku s.T h.snd
 show (beg s.pic.frames (ZaH s.pic s.T).frames&&(beg s.snd.samples (ZaI s.snd s.T).samples&&beg s.reads s.reads))=true
 rw[hc,hd,ZnT,ZnT]
 have:=ZnT s.reads []
 rw[List.append_nil]at this
 rw[this]
 rfl
theorem Zq6 {s:Zac} (h:ZpP s) (hs:s.steps≤3000):ZoC s=true:=by
 obtain ⟨a,b⟩:=Zi2 h hs
 unfold ZoC
 rw[a,b,Bool.true_and]
 exact ZuQ h.sim.p
theorem ZmD {s:Zac} (h:Zaz s):Zh9 (Zet s).t=(Zgi s).t:=by
 obtain ⟨a,b⟩:=Zte h
 unfold Zh9
 rw[ZaO.2 (ZiK h).1,show Zto (Zet s).t=true from a,show ZtA (Zet s).t=true from b]
 rfl
theorem ZnU {s:Zac} (h:ZpP s) (hs:s.steps≤3000):Zce s=true:=by
 obtain ⟨a,b⟩:=Zi2 h hs
 unfold Zce
 rw[a,b,Zo7 h.sim.p,ZmD h.sim.p,Zoh]
 rfl
theorem ZsP {s:Zac} (h:ZpP s) (hs:s.steps≤3000):Zg4 s=true:=by
 unfold Zg4
 rw[ZsQ h hs,Zq6 h hs,ZnU h hs,ZqY h.sim.p]
 rfl

end Go.Proofs.YtmlahgmhbdpkjaaGreatDoor.Plain
