/- Plain laws of the printed functions: LockJ, LockL, TwinI. No condition beyond those that each lemma states. -/
import Derived.Test.YtgeodknaigdenaaGreatPD
set_option linter.unusedVariables false
set_option linter.unusedSimpArgs false
namespace Go.Proofs.YtgeodknaigdenaaGreat.Plain
open Go Go.Tev
theorem ticksL_rows: ∀(n:Nat) (l:LockM),(ticksL n l).img=l.img∧(ticksL n l).pads=l.pads∧(ticksL n l).mem=l.mem∧(ticksL n l).ppu.table=l.ppu.table∧(ticksL n l).reads=l.reads
 |0,l=>⟨rfl,rfl,rfl,rfl,rfl⟩
 |n+1,l=>by
  obtain ⟨a,b,c,d,e⟩:=ticksL_rows n (tickL l)
  exact ⟨a,b,c,d.trans (tickP_table l.ppu),e⟩
theorem runL_f {j:Nat} {l:LockM} (h:mayL l=false):runL (j+1) l=(l,0):=by
 show (if mayL l then _ else _)=_
 rw[h,if_neg (by simp)]
theorem runL_t {j:Nat} {l:LockM} (h:mayL l=true):runL (j+1) l=((runL j (stepL l)).1,(runL j (stepL l)).2+1):=by
 show (if mayL l then _ else _)=_
 rw[h,if_pos rfl]
def newMem:MemM:=⟨List.replicate 512 0,0⟩
def newCpu (f:List (List Int)):CpuM:=⟨0,0,255,vecN f newMem 65532,false,false,false,true⟩
def newL (f:List (List Int)) (p:List Int):LockM:=⟨f,p,newMem,newCpu f,⟨0,0,0,0,0,false,List.replicate 16 0,[]⟩,⟨0,0,0,0,0,false,false⟩,⟨false,0⟩,false,0,[],[],[]⟩
theorem newMem_P {f:List (List Int)} (h:ImgP f):MemP f newMem:=
 ⟨h,⟨by show (List.replicate 512 (0:Int)).length=512;exact List.length_replicate,fun n hn=>by have:=List.eq_of_mem_replicate hn;omega⟩,by show (0:Int)≤0;decide,by have:=h.lo;show (0:Int)< (f.length:Int);omega⟩
theorem newPpu_P:PpuP ⟨0,0,0,0,0,false,List.replicate 16 0,[]⟩:=
 ⟨by decide,by decide,by decide,by decide,by decide,by decide,fun n hn=>by have:=List.eq_of_mem_replicate hn;omega,by decide,fun n hn=>by cases hn⟩
theorem newApu_P:ApuP ⟨0,0,0,0,0,false,false⟩:=⟨by decide,by decide,by decide,by decide,by decide⟩
theorem newCpu_P (f:List (List Int)):CpuP (newCpu f):=
 ⟨by show (0:Int)≤0∧(0:Int)≤255;decide,by show (0:Int)≤0∧(0:Int)≤255;decide,by show (0:Int)≤255∧(255:Int)≤255;decide,vecN_b _ _ _⟩
theorem specCpuNew_ok (f:List (List Int)) (h:ImgP f):r251 ((f,()),())=some (((newCpu f).t,()),()):=by
 have hm:=newMem_P h
 have k1:=specPeek_ok f newMem 65532 hm
 have k2:=specPeek_ok f newMem 65533 hm
 unfold r251 m251
 refine bind_step (y:=((newMem.t,()),())) rfl ?_
 exact bind_step k1 (bind_step k2 (bind_step (specJoin_ok (peekT f newMem 65532,(peekT f newMem 65533,()))) rfl))
theorem obs_small {s:SplitM} (hs:splitOkS s.t):obsOk (obsOf s.t):=by
 obtain ⟨h1,h2,h3,h4,h5,h6⟩:=hs
 exact ⟨h5.2.2,h6.2,h4⟩
theorem asLock_small {s:Tup splitL} (h:splitOkS s):lockOkS (asLock s):=by
 obtain ⟨h1,h2,h3,h4,h5,h6⟩:=h
 unfold asLock
 split
 ·exact ⟨h1,h2,h3,h5.1,h5.2.2,h6.2,h4⟩
 ·exact ⟨⟨by decide,(fun l hl=>by cases hl),by decide⟩,by decide,by decide,⟨by decide,by decide⟩,⟨by decide,(fun l hl=>by cases hl),by decide⟩,by decide,by decide⟩

end Go.Proofs.YtgeodknaigdenaaGreat.Plain
