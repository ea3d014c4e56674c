/- Plain laws of the printed functions: TwinI. No condition beyond those that each lemma states. -/
import Derived.Test.YtmlahgmhbdpkjaaGreatDoorPD
set_option linter.unusedVariables false
set_option linter.unusedSimpArgs false
namespace Go.Proofs.YtmlahgmhbdpkjaaGreatDoor.Plain
open Go Go.Tev
def Za4:MemM:=⟨List.replicate 512 0,0⟩
def Zf9 (f:List (List Int)):CpuM:=⟨0,0,255,vecN f Za4 65532,false,false,false,true⟩
def newL (f:List (List Int)) (p:List Int):Zlv:=⟨f,p,Za4,Zf9 f,⟨0,0,0,0,0,false,List.replicate 16 0,[]⟩,⟨0,0,0,0,0,false,false⟩,⟨false,0⟩,false,0,[],[],[]⟩
theorem ZiL {f:List (List Int)} (h:ImgP f):MemP f Za4:=
 ⟨h,⟨by show (List.replicate 512 (0:Int)).length=512;exact List.length_replicate,fun n hn=>by have:=List.eq_of_mem_replicate hn;omega⟩,by show (0:Int)≤0;decide,by have:=h.lo;show (0:Int)< (f.length:Int);omega⟩
theorem ZnS:PpuP ⟨0,0,0,0,0,false,List.replicate 16 0,[]⟩:=
 ⟨by decide,by decide,by decide,by decide,by decide,by decide,fun n hn=>by have:=List.eq_of_mem_replicate hn;omega,by decide,fun n hn=>by cases hn⟩
theorem ZnQ:ApuP ⟨0,0,0,0,0,false,false⟩:=⟨by decide,by decide,by decide,by decide,by decide⟩
theorem ZnR (f:List (List Int)):CpuP (Zf9 f):=
 ⟨by show (0:Int)≤0∧(0:Int)≤255;decide,by show (0:Int)≤0∧(0:Int)≤255;decide,by show (0:Int)≤255∧(255:Int)≤255;decide,Zpy _ _ _⟩
theorem ZiF (f:List (List Int)) (h:ImgP f):r69 ((f,()),())=some (((Zf9 f).t,()),()):=by
 have hm:=ZiL h
 have k1:=Zg4 f Za4 65532 hm
 have k2:=Zg4 f Za4 65533 hm
 unfold r69 m69
 refine Zaa (y:=((Za4.t,()),())) rfl ?_
 have kv:r124 ((f,()),(Za4.t,((65532:Int),())))=some ((vecN f Za4 65532,()),()):=by
  unfold r124 m124
  exact Zaa k1 (Zaa k2 (Zaa (Zg2 (Zgm f Za4 65532,(Zgm f Za4 65533,()))) rfl))
 exact Zaa kv rfl
theorem ZiS (f:List (List Int)) (h:ImgP f):r62 ((f,()),())=some (((Zf9 f).t,()),()):=by
 have hm:=ZiL h
 have k1:=Zhw f Za4 65532 hm
 have k2:=Zhw f Za4 65533 hm
 unfold r62 m62
 refine Zaa (y:=((Za4.t,()),())) rfl ?_
 exact Zaa k1 (Zaa k2 (Zaa (Zhu (Zgm f Za4 65532,(Zgm f Za4 65533,()))) rfl))

end Go.Proofs.YtmlahgmhbdpkjaaGreatDoor.Plain
