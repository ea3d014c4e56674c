/- Plain laws of the printed functions: Sim2. No condition beyond those that each lemma states. -/
import Derived.Test.YtmlahgmhbdpkjaaGreatDoorPF
set_option linter.unusedVariables false
set_option linter.unusedSimpArgs false
namespace Go.Proofs.YtmlahgmhbdpkjaaGreatDoor.Plain
open Go Go.Tev
def newS (f:List (List Int)) (p:List Int) (cap:Int):ZdP:=⟨f,p,Za4,Zf9 f,⟨false,0⟩,0,false,0,false,0,0,[],⟨⟨0,0,0,0,0,false,List.replicate 16 0,[]⟩,cap,[],[]⟩,⟨⟨0,0,0,0,0,false,false⟩,cap,[],[]⟩⟩
theorem Zhc {cap:Int} (hc:1≤cap∧cap≤16):Zkg cap []:=⟨(fun x hx=>by cases hx),List.Pairwise.nil,hc.1,hc.2,(show (0:Int)≤cap by omega)⟩
theorem Zok {f:List (List Int)} {p:List Int} {cap:Int} (h:ImgP f) (hp:Zmu p) (hc:1≤cap∧cap≤16):Zk2 (newS f p cap):=
 ⟨ZiL h,hp,ZnR f,⟨ZnS,Zhc hc,(fun x hx=>by cases hx),(fun x hx=>by cases hx),by show (0:Int)=ZeL 0;decide⟩,
  ⟨ZnQ,Zhc hc,(fun x hx=>by cases hx),by show (0:Int)=0/16;decide⟩,⟨Int.le_refl _,(by show (0:Int)≤255;decide)⟩,⟨Int.le_refl _,(by show (0:Int)≤255;decide)⟩,⟨Int.le_refl _,(by show (0:Int)≤20000;decide)⟩,
  ⟨Int.le_refl _,Int.le_refl _⟩,⟨Int.le_refl _,Int.le_refl _⟩,Int.le_refl _,Int.le_refl _,(fun x hx=>by cases hx),(fun x hx=>by cases hx)⟩

end Go.Proofs.YtmlahgmhbdpkjaaGreatDoor.Plain
