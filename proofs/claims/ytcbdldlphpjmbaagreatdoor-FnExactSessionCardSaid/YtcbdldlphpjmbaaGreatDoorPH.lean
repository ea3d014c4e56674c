/- Plain laws of the printed functions: Sim2. No condition beyond those that each lemma states. -/
import Derived.Test.YtcbdldlphpjmbaaGreatDoorPF
set_option linter.unusedVariables false
set_option linter.unusedSimpArgs false
namespace Go.Proofs.YtcbdldlphpjmbaaGreatDoor.Plain
open Go Go.Tev
def V6 (f:List (List Int)) (p:List Int) (cap:Int):Zh:=⟨f,p,Jb,WM f,⟨false,0⟩,0,false,0,false,0,0,[],⟨⟨0,0,0,0,0,false,List.replicate 16 0,[]⟩,cap,[],[]⟩,⟨⟨0,0,0,0,0,false,false⟩,cap,[],[]⟩⟩
theorem Zf3 {cap:Int} (hc:1≤cap∧cap≤16):Vj cap []:=⟨(fun x hx=>by cases hx),List.Pairwise.nil,hc.1,hc.2,(show (0:Int)≤cap by omega)⟩
theorem ZpS {f:List (List Int)} {p:List Int} {cap:Int} (h:Yn f) (hp:YL p) (hc:1≤cap∧cap≤16):Zz (V6 f p cap):=
 ⟨Ze0 h,hp,Zle f,⟨Zlg,Zf3 hc,(fun x hx=>by cases hx),(fun x hx=>by cases hx),by show (0:Int)=YF 0;decide⟩,
  ⟨Zld,Zf3 hc,(fun x hx=>by cases hx),by show (0:Int)=0/16;decide⟩,⟨Int.le_refl _,(by show (0:Int)≤255;decide)⟩,⟨Int.le_refl _,(by show (0:Int)≤255;decide)⟩,⟨Int.le_refl _,(by show (0:Int)≤20000;decide)⟩,
  ⟨Int.le_refl _,Int.le_refl _⟩,⟨Int.le_refl _,Int.le_refl _⟩,Int.le_refl _,Int.le_refl _,(fun x hx=>by cases hx),(fun x hx=>by cases hx)⟩

end Go.Proofs.YtcbdldlphpjmbaaGreatDoor.Plain
