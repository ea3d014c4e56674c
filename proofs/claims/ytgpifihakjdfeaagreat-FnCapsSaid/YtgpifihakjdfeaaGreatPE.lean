/- Plain laws of the printed functions: LockJ, LockK, LockL, TwinI. No condition beyond those that each lemma states. -/
import Derived.Test.YtgpifihakjdfeaaGreatPD
set_option linter.unusedVariables false
set_option linter.unusedSimpArgs false
namespace Go.Proofs.YtgpifihakjdfeaaGreat.Plain
open Go Go.Tev
theorem ticksL_rows: ∀(n:Nat) (l:LockM),(ticksL n l).img=l.img∧(ticksL n l).pads=l.pads∧(ticksL n l).mem=l.mem∧(ticksL n l).ppu.table=l.ppu.table∧(ticksL n l).reads=l.reads
 |0,l=>⟨rfl,rfl,rfl,rfl,rfl⟩
 |n+1,l=>by
  obtain ⟨a,b,c,d,e⟩:=ticksL_rows n (tickL l)
  exact ⟨a,b,c,d.trans (tickP_table l.ppu),e⟩
def lockOkM (l:LockM):Bool:=memOk l.img l.mem.t&&(padsOk l.pads&&(cpuOk l.cpu.t&&(ppuOk l.ppu.t&&(apuOk l.apu.t&&(inR 0 255 l.pad.t.2.1&&(eqI l.apu.T l.ppu.T&&(inR 0 l.ppu.T l.steps&&(framesOk l.frames l.ppu.T&&samplesOk l.samples l.ppu.T))))))))
theorem lockOkM_iff {l:LockM}:lockOkM l=true↔LockP l:=by
 unfold lockOkM
 simp only[Bool.and_eq_true]
 constructor
 ·rintro ⟨a,b,c,d,e,f,g,h,i,j⟩
  have d:=ppuOk_iff.1 d
  obtain ⟨i1,i2⟩:=(framesOk_iff d.t.1).1 i
  have h:=inR_iff.1 h
  exact ⟨memOk_iff.1 a,padsOk_iff.1 b,cpuOk_iff.1 c,d,apuOk_iff.1 e,inR_iff.1 f,eqI_iff.1 g,h.1,h.2,i1,i2,(samplesOk_iff d.t.1).1 j⟩
 ·rintro ⟨a,b,c,d,e,f,g,h0,h1,i1,i2,j⟩
  exact ⟨memOk_iff.2 a,padsOk_iff.2 b,cpuOk_iff.2 c,ppuOk_iff.2 d,apuOk_iff.2 e,inR_iff.2 f,eqI_iff.2 g,inR_iff.2 ⟨h0,h1⟩,(framesOk_iff d.t.1).2 ⟨i1,i2⟩,(samplesOk_iff d.t.1).2 j⟩
theorem runL_f {j:Nat} {l:LockM} (h:mayL l=false):runL (j+1) l=(l,0):=by
 show (if mayL l then _ else _)=_
 rw[h,if_neg (by simp)]
theorem runL_t {j:Nat} {l:LockM} (h:mayL l=true):runL (j+1) l=((runL j (stepL l)).1,(runL j (stepL l)).2+1):=by
 show (if mayL l then _ else _)=_
 rw[h,if_pos rfl]
def lockRunA (l:LockM) (n:Int):Tup lockL×Int:=if lockOkM l then ((runL (manyN n) l).1.t,((runL (manyN n) l).2:Int))else (lock0,0)
theorem lock0_ok:lockOkS lock0:=⟨⟨by decide,(fun l hl=>by cases hl),by decide⟩,by decide,by decide,⟨by decide,by decide⟩,⟨by decide,(fun l hl=>by cases hl),by decide⟩,by decide,by decide⟩
theorem lockRunA_S {l:LockM} (hr:l.reads.length≤1048576) (n:Int):lockOkS (lockRunA l n).1:=by
 unfold lockRunA
 split
 ·rename_i ho
  obtain ⟨a,b,c,d⟩:=runL_P (n:=manyN n) (lockOkM_iff.1 ho)
  have:=manyN_le n
  exact a.s (by omega)
 ·exact lock0_ok
def newMem:MemM:=⟨List.replicate 512 0,0⟩
def newCpu (f:List (List Int)):CpuM:=⟨0,0,255,vecN f newMem 65532,false,false,false,true⟩
def newL (f:List (List Int)) (p:List Int):LockM:=⟨f,p,newMem,newCpu f,⟨0,0,0,0,0,false,List.replicate 16 0,[]⟩,⟨0,0,0,0,0,false,false⟩,⟨false,0⟩,false,0,[],[],[]⟩
theorem newMem_P {f:List (List Int)} (h:ImgP f):MemP f newMem:=
 ⟨h,⟨by show (List.replicate 512 (0:Int)).length=512;exact List.length_replicate,fun n hn=>by have:=List.eq_of_mem_replicate hn;omega⟩,by show (0:Int)≤0;decide,by have:=h.lo;show (0:Int)< (f.length:Int);omega⟩
theorem newPpu_P:PpuP ⟨0,0,0,0,0,false,List.replicate 16 0,[]⟩:=
 ⟨by decide,by decide,by decide,by decide,by decide,by decide,fun n hn=>by have:=List.eq_of_mem_replicate hn;omega,by decide,fun n hn=>by cases hn⟩
theorem newApu_P:ApuP ⟨0,0,0,0,0,false,false⟩:=⟨by decide,by decide,by decide,by decide,by decide⟩
theorem newCpu_P (f:List (List Int)):CpuP (newCpu f):=
 ⟨by show (0:Int)≤0∧(0:Int)≤255;decide,by show (0:Int)≤0∧(0:Int)≤255;decide,by show (0:Int)≤255∧(255:Int)≤255;decide,vecN_b _ _ _⟩
theorem newL_P {f:List (List Int)} {p:List Int} (h:ImgP f) (hp:PadsP p):LockP (newL f p):=
 ⟨newMem_P h,hp,newCpu_P f,newPpu_P,newApu_P,by show (0:Int)≤0∧(0:Int)≤255;decide,rfl,by show (0:Int)≤0;decide,by show (0:Int)≤0;decide,(fun l hl=>by cases hl),
  by show ((0:Nat):Int)=framesN 0;decide,by show ((0:Nat):Int)=0/16;decide⟩
theorem implCpuNew_ok (f:List (List Int)) (h:ImgP f):r81 ((f,()),())=some (((newCpu f).t,()),()):=by
 have hm:=newMem_P h
 have k1:=implPeek_ok f newMem 65532 hm
 have k2:=implPeek_ok f newMem 65533 hm
 unfold r81 m81
 refine bind_step (y:=((newMem.t,()),())) rfl ?_
 have kv:r147 ((f,()),(newMem.t,((65532:Int),())))=some ((vecN f newMem 65532,()),()):=by
  unfold r147 m147
  exact bind_step k1 (bind_step k2 (bind_step (implJoin_ok (peekT f newMem 65532,(peekT f newMem 65533,()))) rfl))
 exact bind_step kv rfl
theorem specCpuNew_ok (f:List (List Int)) (h:ImgP f):r103 ((f,()),())=some (((newCpu f).t,()),()):=by
 have hm:=newMem_P h
 have k1:=specPeek_ok f newMem 65532 hm
 have k2:=specPeek_ok f newMem 65533 hm
 unfold r103 m103
 refine bind_step (y:=((newMem.t,()),())) rfl ?_
 exact bind_step k1 (bind_step k2 (bind_step (specJoin_ok (peekT f newMem 65532,(peekT f newMem 65533,()))) rfl))

end Go.Proofs.YtgpifihakjdfeaaGreat.Plain
