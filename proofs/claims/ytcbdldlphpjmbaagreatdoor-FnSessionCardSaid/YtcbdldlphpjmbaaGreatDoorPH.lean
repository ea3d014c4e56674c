/- Plain laws of the printed functions: Sim2. No condition beyond those that each lemma states. -/
import Derived.Test.YtcbdldlphpjmbaaGreatDoorPF
set_option linter.unusedVariables false
set_option linter.unusedSimpArgs false
namespace Go.Proofs.YtcbdldlphpjmbaaGreatDoor.Plain
open Go Go.Tev
def Vy (f:List (List Int)) (p:List Int) (cap:Int):Zh:=⟨f,p,Jb,WR f,⟨false,0⟩,0,false,0,false,0,0,[],⟨⟨0,0,0,0,0,false,List.replicate 16 0,[]⟩,cap,[],[]⟩,⟨⟨0,0,0,0,0,false,false⟩,cap,[],[]⟩⟩
theorem Zga {cap:Int} (hc:1≤cap∧cap≤16):Vm cap []:=⟨(fun x hx=>by cases hx),List.Pairwise.nil,hc.1,hc.2,(show (0:Int)≤cap by omega)⟩
theorem Zp6 {f:List (List Int)} {p:List Int} {cap:Int} (h:Yn f) (hp:YN p) (hc:1≤cap∧cap≤16):ZA (Vy f p cap):=
 ⟨Ze6 h,hp,Zlt f,⟨Zlv,Zga hc,(fun x hx=>by cases hx),(fun x hx=>by cases hx),by show (0:Int)=YF 0;decide⟩,
  ⟨Zls,Zga hc,(fun x hx=>by cases hx),by show (0:Int)=0/16;decide⟩,⟨Int.le_refl _,(by show (0:Int)≤255;decide)⟩,⟨Int.le_refl _,(by show (0:Int)≤255;decide)⟩,⟨Int.le_refl _,(by show (0:Int)≤20000;decide)⟩,
  ⟨Int.le_refl _,Int.le_refl _⟩,⟨Int.le_refl _,Int.le_refl _⟩,Int.le_refl _,Int.le_refl _,(fun x hx=>by cases hx),(fun x hx=>by cases hx)⟩

end Go.Proofs.YtcbdldlphpjmbaaGreatDoor.Plain
