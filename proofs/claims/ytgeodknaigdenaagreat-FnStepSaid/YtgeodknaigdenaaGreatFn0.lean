/- Plain functions that the program's functions answer as; their contracts. Printed by a program of the proofs' writer. No condition. -/
import Derived.Test.YtgeodknaigdenaaGreatW5
import Derived.KernelRfl
import Derived.Test.YtgeodknaigdenaaGreatProg
set_option linter.unusedVariables false
set_option linter.unusedSimpArgs false
set_option maxRecDepth 100000
namespace Go.Proofs.YtgeodknaigdenaaGreat.Plain
open Go Go.Tev
theorem mixed : Tryz.prog.follows .mixedOrders = true := by kernel_rfl
noncomputable abbrev mkE (l : List (Nat × Tev.Fn)) : CEnv := ⟨⟨Tryz.prog, fnsL l⟩, loopsL []⟩
abbrev FT (i o : List Ty) := PTup i → Option (PTup o × BTup i)
abbrev Ts := List Ty
abbrev bz (l : List UInt8) : ByteArray := ⟨⟨l⟩⟩
noncomputable abbrev TE (l : List (Nat × Tev.Fn)) (f : Func) (i o : List Ty) := tevF (mkE l) f i o
abbrev no : Option ((Bool × Unit) × Unit) := some ((false, ()), ())
abbrev mkG (k : Nat) (i o : List Ty) (c : FT i o) : Nat × Tev.Fn := (k, ⟨i, o, c, .nor⟩)
abbrev KO (x : Nat × Tev.Fn) : Prop := CK Tryz.prog x
theorem fk {l : List (Nat × Tev.Fn)} {g : FuncId} {f : Func} {i o : List Ty} {run : FT i o} (h : ∀ y, tevF (mkE l) f i o y = run y) (hE : AllCalls Tryz.prog l) (hg : (Tryz.prog.funcs[g]?, staticOk f i o && (loopsOf (bodyOf f)).isEmpty) = (some f, true)) : KO (mkG g i o run) := by
  have hs := congrArg Prod.snd hg
  dsimp only at hs
  rw [Bool.and_eq_true, List.isEmpty_iff] at hs
  exact fn0 h (fnsL_ok hE) rfl mixed (congrArg Prod.fst hg) hs.1 hs.2
abbrev m2 {A B C : Type} (f : B → C) (p : A × B) : A × C := (p.1, f p.2)
abbrev cpuAt {A B C D E F G H I J : Type} (c : A × B × C × D × E × F × G × H × I) (p : A × B × C × D × E × F × G × H × J) : A × B × C × D × E × F × G × H × J := (c.1, c.2.1, c.2.2.1, c.2.2.2.1, c.2.2.2.2.1, c.2.2.2.2.2.1, c.2.2.2.2.2.2.1, c.2.2.2.2.2.2.2.1, p.2.2.2.2.2.2.2.2)
abbrev q0 : List LT := [.sl false .n]
abbrev q1 : List LT := [.sl false .i, .int .i64]
abbrev q2 : List LT := [.int .i64, .int .i64, .int .i64, .int .i64, .bool, .bool, .bool, .bool]
abbrev q3 : List LT := [.int .i64, .int .i64, .int .i64, .int .i64, .int .i64, .bool, .sl false .i, .sl false .i]
abbrev q4 : List LT := [.int .i64, .int .i64, .int .i64, .int .i64, .int .i64, .bool, .bool]
abbrev q5 : List LT := [.sl true .i, .int .i64]
abbrev q6 : List LT := [.int .i64, .int .i64, .int .i64, .int .i64, .int .i64, .bool, .sl true .i, .sl true .i]
abbrev q7 : List LT := [.sl false .n, .sl false .i, .sl false .i, .int .i64, .int .i64, .int .i64, .int .i64, .int .i64, .bool, .bool, .bool, .bool, .int .i64, .int .i64, .int .i64, .int .i64, .int .i64, .bool, .sl false .i, .sl false .i, .int .i64, .int .i64, .int .i64, .int .i64, .int .i64, .bool, .bool, .bool, .int .i64, .bool, .int .i64, .sl false .n, .sl false .i, .sl false .i]
abbrev q8 : List LT := [.sl true .n, .sl true .i, .sl true .i, .int .i64, .int .i64, .int .i64, .int .i64, .int .i64, .bool, .bool, .bool, .bool, .int .i64, .int .i64, .int .i64, .int .i64, .int .i64, .bool, .sl true .i, .sl true .i, .int .i64, .int .i64, .int .i64, .int .i64, .int .i64, .bool, .bool, .bool, .int .i64, .bool, .int .i64, .sl true .n, .sl true .i, .sl true .i]
abbrev q9 : List LT := [.int .i64, .int .i64]
abbrev q10 : List LT := [.bool, .int .i64]
abbrev q11 : List LT := [.sl false .n, .sl false .i, .sl false .i, .int .i64, .int .i64, .int .i64, .int .i64, .int .i64, .bool, .bool, .bool, .bool, .int .i64, .int .i64, .int .i64, .int .i64, .int .i64, .bool, .sl false .i, .sl true .i, .int .i64, .int .i64, .int .i64, .int .i64, .int .i64, .bool, .bool, .bool, .int .i64, .bool, .int .i64, .sl true .n, .sl true .i, .sl false .i]
abbrev q12 : List LT := [.sl false .b, .int .i64, .int .i64]
abbrev i125:Ts:=[.v (.int .i64), .v (.int .i64), .v (.int .i64)]
abbrev o125:Ts:=[.v (.bool)]
abbrev F125:=FT i125 o125
abbrev g125:=mkG 125 i125 o125
noncomputable def m125 (y:PTup i125):Option (PTup o125×BTup i125):=
  bif (leI y.2.1 y.1)then (some (((leI y.1 y.2.2.1),()),()))
  else no
theorem s125 (y):TE [] Tryz.f125 i125 o125 y=m125 y:=by kernel_rfl
noncomputable def r125:F125:=m125
theorem k125:KO (g125 r125):=fk (s125) trivial (by kernel_rfl)
abbrev i124:Ts:=[.v (.int .i64)]
abbrev o124:Ts:=[.v (.bool)]
abbrev F124:=FT i124 o124
abbrev g124:=mkG 124 i124 o124
noncomputable def m124 (c125:F125) (y:PTup i124):Option (PTup o124×BTup i124):=
  (c125 (y.1,((0:Int),((255:Int),())))).bind fun r0=>
  some (r0.1,())
theorem s124 (c125:F125) (y):TE [g125 c125] Tryz.f124 i124 o124 y=m124 c125 y:=by kernel_rfl
noncomputable def r124:F124:=m124 r125
theorem k124:KO (g124 r124):=fk (s124 r125) ⟨k125,⟨⟩⟩ (by kernel_rfl)
abbrev i119:Ts:=[.v (.sl false .i)]
abbrev o119:Ts:=[.v (.bool)]
abbrev F119:=FT i119 o119
abbrev g119:=mkG 119 i119 o119
abbrev lc119_0:Ts:=[.v (.sl false .i)]
abbrev lb119_0:Ts:=[]
abbrev lv119_0:Ts:=[.v (.int .i64)]
abbrev lr119_0:Ts:=[.v (.bool)]
abbrev R119_0:=Option (Sum (PTup lv119_0) (PTup lr119_0)×BTup lb119_0)
abbrev B119_0:=PTup lb119_0→PTup lv119_0→R119_0
abbrev A119_0:=PTup lc119_0→B119_0
noncomputable def w119_0 (c124:F124) (again:B119_0) (x:PTup lc119_0) (y:PTup lb119_0) (z:PTup lv119_0):R119_0:=
  bif (ltI z.1 (lenI x.1))then (bif (leI 0 z.1)then (bif (ltI z.1 (lenI x.1))then ((c124 ((rdE .i x.1 z.1),())).bind fun r0=>
     bif (!r0.1.1)then (some ((Sum.inr (false,())),()))
     else again () ((wI (z.1+1)),()))
    else none)
   else none)
  else some ((Sum.inl z),())
noncomputable def e119_0 (l:A119_0):LoopE:=⟨[0],lc119_0,[],lb119_0,[3],lv119_0,[2],lr119_0,0,[],l⟩
noncomputable def m119 (c124:F124) (l0:A119_0) (y:PTup i119):Option (PTup o119×BTup i119):=
  (l0 y () ((0:Int),())).bind fun r0=>
  sumElim r0.1 (fun r1=>some (((leI (lenI y.1) 20),()),()))
  (fun r1=>some (r1,()))
noncomputable def E119 (c124:F124) (l0:A119_0):CEnv:=⟨⟨Tryz.prog,fnsL [g124 c124]⟩,loopsL [(2,e119_0 l0)]⟩
theorem t119_0 (c124:F124) (l0:A119_0) (again) (x y z):loopRound (E119 c124 l0) (loopAt (bodyOf Tryz.f119) 0) (e119_0 l0) Tryz.f119.ntmps again x y z=w119_0 c124 again x y z:=by kernel_rfl
noncomputable def n119_0 (c124:F124):Nat→A119_0
  |0,_,_,_=>none
  |n+1,x,y,z=>w119_0 c124 (fun y z=>n119_0 c124 n x y z) x y z
theorem s119 (c124:F124) (l0:A119_0) (y):tevF (E119 c124 l0) Tryz.f119 i119 o119 y=m119 c124 l0 y:=by kernel_rfl
noncomputable def L119_0:A119_0:=n119_0 r124 fuel
noncomputable def r119:F119:=m119 r124 L119_0
theorem k119:KO (g119 r119):=by
  have hE: ∀g f,(E119 r124 L119_0).env.fns g=some f→CallOk Tryz.prog g f:=fnsL_ok ⟨k124,⟨⟩⟩
  have h0:LoopOk Tryz.prog Tryz.f119.ntmps (loopAt (bodyOf Tryz.f119) 0) (e119_0 L119_0):=lp_ok (E:=E119 r124 L119_0) rfl hE mixed (AllLoops.of_list (l:=[]) (by kernel_rfl) trivial) (n119_0 r124) (fun _ _ _=>rfl) (fun n x y z=>t119_0 r124 L119_0 _ x y z) rfl
  exact fn_ok (E:=E119 r124 L119_0) rfl hE mixed (by kernel_rfl) (by kernel_rfl) (AllLoops.of_list (l:=[(loopAt (bodyOf Tryz.f119) 0)]) (by kernel_rfl) (.one (by kernel_rfl) h0 trivial)) (s119 r124 L119_0)
abbrev i193:Ts:=[.a q0]
abbrev o193:Ts:=[.v (.bool)]
abbrev F193:=FT i193 o193
abbrev g193:=mkG 193 i193 o193
abbrev lc193_0:Ts:=[.v (.int .i64)]
abbrev lb193_0:Ts:=[.p q0]
abbrev lv193_0:Ts:=[.v (.int .i64)]
abbrev lr193_0:Ts:=[.v (.bool)]
abbrev R193_0:=Option (Sum (PTup lv193_0) (PTup lr193_0)×BTup lb193_0)
abbrev B193_0:=PTup lb193_0→PTup lv193_0→R193_0
abbrev A193_0:=PTup lc193_0→B193_0
noncomputable def w193_0 (c125:F125) (again:B193_0) (x:PTup lc193_0) (y:PTup lb193_0) (z:PTup lv193_0):R193_0:=
  bif (ltI z.1 256)then (bif (leI 0 x.1)then (bif (ltI x.1 (lenI y.1.1))then (bif (leI 0 z.1)then (bif (ltI z.1 (lenI (rdE .n y.1.1 x.1)))then ((c125 ((rdI (rdE .n y.1.1 x.1) z.1),((0:Int),((255:Int),())))).bind fun r0=>
       bif (!r0.1.1)then (some ((Sum.inr (false,())),(y.1,())))
       else again (y.1,()) ((wI (z.1+1)),()))
      else none)
     else none)
    else none)
   else none)
  else some ((Sum.inl z),(y.1,()))
noncomputable def e193_0 (l:A193_0):LoopE:=⟨[3],lc193_0,[1],lb193_0,[4],lv193_0,[2],lr193_0,2,[],l⟩
abbrev lc193_1:Ts:=[]
abbrev lb193_1:Ts:=[.p q0]
abbrev lv193_1:Ts:=[.v (.int .i64)]
abbrev lr193_1:Ts:=[.v (.bool)]
abbrev R193_1:=Option (Sum (PTup lv193_1) (PTup lr193_1)×BTup lb193_1)
abbrev B193_1:=PTup lb193_1→PTup lv193_1→R193_1
abbrev A193_1:=PTup lc193_1→B193_1
noncomputable def w193_1 (c125:F125) (l0:A193_0) (again:B193_1) (x:PTup lc193_1) (y:PTup lb193_1) (z:PTup lv193_1):R193_1:=
  bif (ltI z.1 (lenI y.1.1))then (bif (leI 0 z.1)then (bif (ltI z.1 (lenI y.1.1))then (bif (neI (lenI (rdE .n y.1.1 z.1)) (256:Int))then (some ((Sum.inr (false,())),(y.1,())))
     else (l0 z (y.1,()) ((0:Int),())).bind fun r0=>
     sumElim r0.1 (fun r1=>again (y.1,()) ((wI (z.1+1)),()))
     (fun r1=>some ((Sum.inr r1),(y.1,()))))
    else none)
   else none)
  else some ((Sum.inl z),(y.1,()))
noncomputable def e193_1 (l:A193_1):LoopE:=⟨[],lc193_1,[1],lb193_1,[3],lv193_1,[2],lr193_1,0,[],l⟩
noncomputable def m193 (c125:F125) (l0:A193_0) (l1:A193_1) (y:PTup i193):Option (PTup o193×BTup i193):=
  (l1 () (y.1,()) ((0:Int),())).bind fun r0=>
  sumElim r0.1 (fun r1=>(c125 ((lenI y.1.1),((1:Int),((8:Int),())))).bind fun r2=>
   some (r2.1,()))
  (fun r1=>some (r1,()))
noncomputable def E193 (c125:F125) (l0:A193_0) (l1:A193_1):CEnv:=⟨⟨Tryz.prog,fnsL [g125 c125]⟩,loopsL [(7,e193_0 l0),(2,e193_1 l1)]⟩
theorem t193_0 (c125:F125) (l0:A193_0) (l1:A193_1) (again) (x y z):loopRound (E193 c125 l0 l1) (loopAt (loopAt (bodyOf Tryz.f193) 0) 0) (e193_0 l0) Tryz.f193.ntmps again x y z=w193_0 c125 again x y z:=by kernel_rfl
noncomputable def n193_0 (c125:F125):Nat→A193_0
  |0,_,_,_=>none
  |n+1,x,y,z=>w193_0 c125 (fun y z=>n193_0 c125 n x y z) x y z
theorem t193_1 (c125:F125) (l0:A193_0) (l1:A193_1) (again) (x y z):loopRound (E193 c125 l0 l1) (loopAt (bodyOf Tryz.f193) 0) (e193_1 l1) Tryz.f193.ntmps again x y z=w193_1 c125 l0 again x y z:=by kernel_rfl
noncomputable def n193_1 (c125:F125) (l0:A193_0):Nat→A193_1
  |0,_,_,_=>none
  |n+1,x,y,z=>w193_1 c125 l0 (fun y z=>n193_1 c125 l0 n x y z) x y z
theorem s193 (c125:F125) (l0:A193_0) (l1:A193_1) (y):tevF (E193 c125 l0 l1) Tryz.f193 i193 o193 y=m193 c125 l0 l1 y:=by kernel_rfl
noncomputable def L193_0:A193_0:=n193_0 r125 fuel
noncomputable def L193_1:A193_1:=n193_1 r125 L193_0 fuel
noncomputable def r193:F193:=m193 r125 L193_0 L193_1
theorem k193:KO (g193 r193):=by
  have hE: ∀g f,(E193 r125 L193_0 L193_1).env.fns g=some f→CallOk Tryz.prog g f:=fnsL_ok ⟨k125,⟨⟩⟩
  have h0:LoopOk Tryz.prog Tryz.f193.ntmps (loopAt (loopAt (bodyOf Tryz.f193) 0) 0) (e193_0 L193_0):=lp_ok (E:=E193 r125 L193_0 L193_1) rfl hE mixed (AllLoops.of_list (l:=[]) (by kernel_rfl) trivial) (n193_0 r125) (fun _ _ _=>rfl) (fun n x y z=>t193_0 r125 L193_0 L193_1 _ x y z) rfl
  have h1:LoopOk Tryz.prog Tryz.f193.ntmps (loopAt (bodyOf Tryz.f193) 0) (e193_1 L193_1):=lp_ok (E:=E193 r125 L193_0 L193_1) rfl hE mixed (AllLoops.of_list (l:=[(loopAt (loopAt (bodyOf Tryz.f193) 0) 0)]) (by kernel_rfl) (.one (by kernel_rfl) h0 trivial)) (n193_1 r125 L193_0) (fun _ _ _=>rfl) (fun n x y z=>t193_1 r125 L193_0 L193_1 _ x y z) rfl
  exact fn_ok (E:=E193 r125 L193_0 L193_1) rfl hE mixed (by kernel_rfl) (by kernel_rfl) (AllLoops.of_list (l:=[(loopAt (bodyOf Tryz.f193) 0)]) (by kernel_rfl) (.one (by kernel_rfl) h1 trivial)) (s193 r125 L193_0 L193_1)
abbrev i120:Ts:=[.a q0, .a q1]
abbrev o120:Ts:=[.v (.bool)]
abbrev F120:=FT i120 o120
abbrev g120:=mkG 120 i120 o120
abbrev lc120_0:Ts:=[]
abbrev lb120_0:Ts:=[.p q1]
abbrev lv120_0:Ts:=[.v (.int .i64)]
abbrev lr120_0:Ts:=[.v (.bool)]
abbrev R120_0:=Option (Sum (PTup lv120_0) (PTup lr120_0)×BTup lb120_0)
abbrev B120_0:=PTup lb120_0→PTup lv120_0→R120_0
abbrev A120_0:=PTup lc120_0→B120_0
noncomputable def w120_0 (c193:F193) (c125:F125) (c124:F124) (again:B120_0) (x:PTup lc120_0) (y:PTup lb120_0) (z:PTup lv120_0):R120_0:=
  bif (ltI z.1 512)then (bif (leI 0 z.1)then (bif (ltI z.1 (lenI y.1.1))then ((c124 ((rdE .i y.1.1 z.1),())).bind fun r0=>
     bif (!r0.1.1)then (some ((Sum.inr (false,())),(y.1,())))
     else again (y.1,()) ((wI (z.1+1)),()))
    else none)
   else none)
  else some ((Sum.inl z),(y.1,()))
noncomputable def e120_0 (l:A120_0):LoopE:=⟨[],lc120_0,[3],lb120_0,[5],lv120_0,[4],lr120_0,0,[],l⟩
noncomputable def m120 (c193:F193) (c125:F125) (c124:F124) (l0:A120_0) (y:PTup i120):Option (PTup o120×BTup i120):=
  (c193 (y.1,())).bind fun r0=>
  bif (!r0.1.1)then no
  else bif (neI (lenI y.2.1.1) 512)then no
  else (c125 (y.2.1.2.1,((0:Int),((wI ((lenI y.1.1)-1)),())))).bind fun r1=>
  bif (!r1.1.1)then no
  else (l0 () (y.2.1,()) ((0:Int),())).bind fun r2=>
  sumElim r2.1 (fun r3=>some ((true,()),()))
  (fun r3=>some (r3,()))
noncomputable def E120 (c193:F193) (c125:F125) (c124:F124) (l0:A120_0):CEnv:=⟨⟨Tryz.prog,fnsL [g193 c193,g125 c125,g124 c124]⟩,loopsL [(4,e120_0 l0)]⟩
theorem t120_0 (c193:F193) (c125:F125) (c124:F124) (l0:A120_0) (again) (x y z):loopRound (E120 c193 c125 c124 l0) (loopAt (bodyOf Tryz.f120) 0) (e120_0 l0) Tryz.f120.ntmps again x y z=w120_0 c193 c125 c124 again x y z:=by kernel_rfl
noncomputable def n120_0 (c193:F193) (c125:F125) (c124:F124):Nat→A120_0
  |0,_,_,_=>none
  |n+1,x,y,z=>w120_0 c193 c125 c124 (fun y z=>n120_0 c193 c125 c124 n x y z) x y z
theorem s120 (c193:F193) (c125:F125) (c124:F124) (l0:A120_0) (y):tevF (E120 c193 c125 c124 l0) Tryz.f120 i120 o120 y=m120 c193 c125 c124 l0 y:=by kernel_rfl
noncomputable def L120_0:A120_0:=n120_0 r193 r125 r124 fuel
noncomputable def r120:F120:=m120 r193 r125 r124 L120_0
theorem k120:KO (g120 r120):=by
  have hE: ∀g f,(E120 r193 r125 r124 L120_0).env.fns g=some f→CallOk Tryz.prog g f:=fnsL_ok ⟨k193,k125,k124,⟨⟩⟩
  have h0:LoopOk Tryz.prog Tryz.f120.ntmps (loopAt (bodyOf Tryz.f120) 0) (e120_0 L120_0):=lp_ok (E:=E120 r193 r125 r124 L120_0) rfl hE mixed (AllLoops.of_list (l:=[]) (by kernel_rfl) trivial) (n120_0 r193 r125 r124) (fun _ _ _=>rfl) (fun n x y z=>t120_0 r193 r125 r124 L120_0 _ x y z) rfl
  exact fn_ok (E:=E120 r193 r125 r124 L120_0) rfl hE mixed (by kernel_rfl) (by kernel_rfl) (AllLoops.of_list (l:=[(loopAt (bodyOf Tryz.f120) 0)]) (by kernel_rfl) (.one (by kernel_rfl) h0 trivial)) (s120 r193 r125 r124 L120_0)
abbrev i121:Ts:=[.a q2]
abbrev o121:Ts:=[.v (.bool)]
abbrev F121:=FT i121 o121
abbrev g121:=mkG 121 i121 o121
noncomputable def m121 (c125:F125) (c124:F124) (y:PTup i121):Option (PTup o121×BTup i121):=
  (c124 (y.1.1,())).bind fun r0=>
  bif r0.1.1 then ((c124 (y.1.2.1,())).bind fun r1=>
   bif r1.1.1 then ((c124 (y.1.2.2.1,())).bind fun r2=>
    bif r2.1.1 then ((c125 (y.1.2.2.2.1,((0:Int),((65535:Int),())))).bind fun r3=>
     some (r3.1,()))
    else no)
   else no)
  else no
theorem s121 (c125:F125) (c124:F124) (y):TE [g125 c125,g124 c124] Tryz.f121 i121 o121 y=m121 c125 c124 y:=by kernel_rfl
noncomputable def r121:F121:=m121 r125 r124
theorem k121:KO (g121 r121):=fk (s121 r125 r124) ⟨k125,k124,⟨⟩⟩ (by kernel_rfl)
abbrev i223:Ts:=[.v (.int .i64)]
abbrev o223:Ts:=[.v (.int .i64)]
abbrev F223:=FT i223 o223
abbrev g223:=mkG 223 i223 o223
noncomputable def m223 (y:PTup i223):Option (PTup o223×BTup i223):=
  bif (ltI 48 (Int.tmod y.1 64))then (some (((0:Int),()),()))
  else some (((Int.tmod y.1 64),()),())
theorem s223 (y):TE [] Tryz.f223 i223 o223 y=m223 y:=by kernel_rfl
noncomputable def r223:F223:=m223
theorem k223:KO (g223 r223):=fk (s223) trivial (by kernel_rfl)
abbrev i153:Ts:=[.a q3]
abbrev o153:Ts:=[.v (.bool)]
abbrev F153:=FT i153 o153
abbrev g153:=mkG 153 i153 o153
abbrev lc153_0:Ts:=[]
abbrev lb153_0:Ts:=[.p q3]
abbrev lv153_0:Ts:=[.v (.int .i64)]
abbrev lr153_0:Ts:=[.v (.bool)]
abbrev R153_0:=Option (Sum (PTup lv153_0) (PTup lr153_0)×BTup lb153_0)
abbrev B153_0:=PTup lb153_0→PTup lv153_0→R153_0
abbrev A153_0:=PTup lc153_0→B153_0
noncomputable def w153_0 (c125:F125) (c124:F124) (c223:F223) (again:B153_0) (x:PTup lc153_0) (y:PTup lb153_0) (z:PTup lv153_0):R153_0:=
  bif (ltI z.1 (lenI y.1.2.2.2.2.2.2.2.1))then (bif (leI 0 z.1)then (bif (ltI z.1 (lenI y.1.2.2.2.2.2.2.2.1))then ((c125 ((rdE .i y.1.2.2.2.2.2.2.2.1 z.1),((0:Int),((63:Int),())))).bind fun r0=>
     bif (!r0.1.1)then (some ((Sum.inr (false,())),(y.1,())))
     else again (y.1,()) ((wI (z.1+1)),()))
    else none)
   else none)
  else some ((Sum.inl z),(y.1,()))
noncomputable def e153_0 (l:A153_0):LoopE:=⟨[],lc153_0,[1],lb153_0,[4],lv153_0,[2],lr153_0,2,[],l⟩
abbrev lc153_1:Ts:=[]
abbrev lb153_1:Ts:=[.p q3]
abbrev lv153_1:Ts:=[.v (.int .i64)]
abbrev lr153_1:Ts:=[.v (.bool)]
abbrev R153_1:=Option (Sum (PTup lv153_1) (PTup lr153_1)×BTup lb153_1)
abbrev B153_1:=PTup lb153_1→PTup lv153_1→R153_1
abbrev A153_1:=PTup lc153_1→B153_1
noncomputable def w153_1 (c125:F125) (c124:F124) (c223:F223) (l0:A153_0) (again:B153_1) (x:PTup lc153_1) (y:PTup lb153_1) (z:PTup lv153_1):R153_1:=
  bif (ltI z.1 16)then (bif (leI 0 z.1)then (bif (ltI z.1 (lenI y.1.2.2.2.2.2.2.1))then ((c125 ((rdE .i y.1.2.2.2.2.2.2.1 z.1),((0:Int),((63:Int),())))).bind fun r0=>
     bif (!r0.1.1)then (some ((Sum.inr (false,())),(y.1,())))
     else again (y.1,()) ((wI (z.1+1)),()))
    else none)
   else none)
  else some ((Sum.inl z),(y.1,()))
noncomputable def e153_1 (l:A153_1):LoopE:=⟨[],lc153_1,[1],lb153_1,[3],lv153_1,[2],lr153_1,0,[],l⟩
noncomputable def m153 (c125:F125) (c124:F124) (c223:F223) (l0:A153_0) (l1:A153_1) (y:PTup i153):Option (PTup o153×BTup i153):=
  (c125 (y.1.1,((0:Int),((20000:Int),())))).bind fun r0=>
  bif (!r0.1.1)then no
  else (c124 (y.1.2.1,())).bind fun r1=>
  bif (!r1.1.1)then no
  else (c124 (y.1.2.2.1,())).bind fun r2=>
  bif (!r2.1.1)then no
  else (c125 (y.1.2.2.2.1,((0:Int),((15:Int),())))).bind fun r3=>
  bif (!r3.1.1)then no
  else (c125 (y.1.2.2.2.2.1,((0:Int),((63:Int),())))).bind fun r4=>
  bif (!r4.1.1)then no
  else bif (neI (lenI y.1.2.2.2.2.2.2.1) 16)then no
  else (c223 (y.1.1,())).bind fun r5=>
  bif (neI (lenI y.1.2.2.2.2.2.2.2.1) r5.1.1)then no
  else (l1 () (y.1,()) ((0:Int),())).bind fun r6=>
  sumElim r6.1 (fun r7=>(l0 () ((r6.2.1.1,(r6.2.1.2.1,(r6.2.1.2.2.1,(r6.2.1.2.2.2.1,(r6.2.1.2.2.2.2.1,(r6.2.1.2.2.2.2.2.1,y.1.2.2.2.2.2.2)))))),()) ((0:Int),())).bind fun r8=>
   sumElim r8.1 (fun r9=>some ((true,()),()))
   (fun r9=>some (r9,())))
  (fun r7=>some (r7,()))
noncomputable def E153 (c125:F125) (c124:F124) (c223:F223) (l0:A153_0) (l1:A153_1):CEnv:=⟨⟨Tryz.prog,fnsL [g125 c125,g124 c124,g223 c223]⟩,loopsL [(9,e153_0 l0),(4,e153_1 l1)]⟩
theorem t153_0 (c125:F125) (c124:F124) (c223:F223) (l0:A153_0) (l1:A153_1) (again) (x y z):loopRound (E153 c125 c124 c223 l0 l1) (loopAt (bodyOf Tryz.f153) 1) (e153_0 l0) Tryz.f153.ntmps again x y z=w153_0 c125 c124 c223 again x y z:=by kernel_rfl
noncomputable def n153_0 (c125:F125) (c124:F124) (c223:F223):Nat→A153_0
  |0,_,_,_=>none
  |n+1,x,y,z=>w153_0 c125 c124 c223 (fun y z=>n153_0 c125 c124 c223 n x y z) x y z
theorem t153_1 (c125:F125) (c124:F124) (c223:F223) (l0:A153_0) (l1:A153_1) (again) (x y z):loopRound (E153 c125 c124 c223 l0 l1) (loopAt (bodyOf Tryz.f153) 0) (e153_1 l1) Tryz.f153.ntmps again x y z=w153_1 c125 c124 c223 l0 again x y z:=by kernel_rfl
noncomputable def n153_1 (c125:F125) (c124:F124) (c223:F223) (l0:A153_0):Nat→A153_1
  |0,_,_,_=>none
  |n+1,x,y,z=>w153_1 c125 c124 c223 l0 (fun y z=>n153_1 c125 c124 c223 l0 n x y z) x y z
theorem s153 (c125:F125) (c124:F124) (c223:F223) (l0:A153_0) (l1:A153_1) (y):tevF (E153 c125 c124 c223 l0 l1) Tryz.f153 i153 o153 y=m153 c125 c124 c223 l0 l1 y:=by kernel_rfl
noncomputable def L153_0:A153_0:=n153_0 r125 r124 r223 fuel
noncomputable def L153_1:A153_1:=n153_1 r125 r124 r223 L153_0 fuel
noncomputable def r153:F153:=m153 r125 r124 r223 L153_0 L153_1
theorem k153:KO (g153 r153):=by
  have hE: ∀g f,(E153 r125 r124 r223 L153_0 L153_1).env.fns g=some f→CallOk Tryz.prog g f:=fnsL_ok ⟨k125,k124,k223,⟨⟩⟩
  have h0:LoopOk Tryz.prog Tryz.f153.ntmps (loopAt (bodyOf Tryz.f153) 1) (e153_0 L153_0):=lp_ok (E:=E153 r125 r124 r223 L153_0 L153_1) rfl hE mixed (AllLoops.of_list (l:=[]) (by kernel_rfl) trivial) (n153_0 r125 r124 r223) (fun _ _ _=>rfl) (fun n x y z=>t153_0 r125 r124 r223 L153_0 L153_1 _ x y z) rfl
  have h1:LoopOk Tryz.prog Tryz.f153.ntmps (loopAt (bodyOf Tryz.f153) 0) (e153_1 L153_1):=lp_ok (E:=E153 r125 r124 r223 L153_0 L153_1) rfl hE mixed (AllLoops.of_list (l:=[]) (by kernel_rfl) trivial) (n153_1 r125 r124 r223 L153_0) (fun _ _ _=>rfl) (fun n x y z=>t153_1 r125 r124 r223 L153_0 L153_1 _ x y z) rfl
  exact fn_ok (E:=E153 r125 r124 r223 L153_0 L153_1) rfl hE mixed (by kernel_rfl) (by kernel_rfl) (AllLoops.of_list (l:=[(loopAt (bodyOf Tryz.f153) 0),(loopAt (bodyOf Tryz.f153) 1)]) (by kernel_rfl) (.one (by kernel_rfl) h1 (.one (by kernel_rfl) h0 trivial))) (s153 r125 r124 r223 L153_0 L153_1)
abbrev i224:Ts:=[.v (.int .i64)]
abbrev o224:Ts:=[.v (.int .i64)]
abbrev F224:=FT i224 o224
abbrev g224:=mkG 224 i224 o224
noncomputable def m224 (y:PTup i224):Option (PTup o224×BTup i224):=
  some (((wI (Int.tdiv (wI ((wI ((wI (y.1+64))-48))-1)) (64:Int))),()),())
theorem s224 (y):TE [] Tryz.f224 i224 o224 y=m224 y:=by kernel_rfl
noncomputable def r224:F224:=m224
theorem k224:KO (g224 r224):=fk (s224) trivial (by kernel_rfl)
abbrev i155:Ts:=[.v (.sl false .n), .v (.int .i64)]
abbrev o155:Ts:=[.v (.bool)]
abbrev F155:=FT i155 o155
abbrev g155:=mkG 155 i155 o155
abbrev lc155_0:Ts:=[.v (.sl false .n)]
abbrev lb155_0:Ts:=[]
abbrev lv155_0:Ts:=[.v (.int .i64)]
abbrev lr155_0:Ts:=[.v (.bool)]
abbrev R155_0:=Option (Sum (PTup lv155_0) (PTup lr155_0)×BTup lb155_0)
abbrev B155_0:=PTup lb155_0→PTup lv155_0→R155_0
abbrev A155_0:=PTup lc155_0→B155_0
noncomputable def w155_0 (c224:F224) (again:B155_0) (x:PTup lc155_0) (y:PTup lb155_0) (z:PTup lv155_0):R155_0:=
  bif (ltI z.1 (lenI x.1))then (bif (leI 0 z.1)then (bif (ltI z.1 (lenI x.1))then (bif (neI (lenI (rdE .n x.1 z.1)) (48:Int))then (some ((Sum.inr (false,())),()))
     else again () ((wI (z.1+1)),()))
    else none)
   else none)
  else some ((Sum.inl z),())
noncomputable def e155_0 (l:A155_0):LoopE:=⟨[0],lc155_0,[],lb155_0,[5],lv155_0,[4],lr155_0,0,[],l⟩
noncomputable def m155 (c224:F224) (l0:A155_0) (y:PTup i155):Option (PTup o155×BTup i155):=
  (l0 (y.1,()) () ((0:Int),())).bind fun r0=>
  sumElim r0.1 (fun r1=>(c224 y.2).bind fun r2=>
   some (((eqI (lenI y.1) r2.1.1),()),()))
  (fun r1=>some (r1,()))
noncomputable def E155 (c224:F224) (l0:A155_0):CEnv:=⟨⟨Tryz.prog,fnsL [g224 c224]⟩,loopsL [(2,e155_0 l0)]⟩
theorem t155_0 (c224:F224) (l0:A155_0) (again) (x y z):loopRound (E155 c224 l0) (loopAt (bodyOf Tryz.f155) 0) (e155_0 l0) Tryz.f155.ntmps again x y z=w155_0 c224 again x y z:=by kernel_rfl
noncomputable def n155_0 (c224:F224):Nat→A155_0
  |0,_,_,_=>none
  |n+1,x,y,z=>w155_0 c224 (fun y z=>n155_0 c224 n x y z) x y z
theorem s155 (c224:F224) (l0:A155_0) (y):tevF (E155 c224 l0) Tryz.f155 i155 o155 y=m155 c224 l0 y:=by kernel_rfl
noncomputable def L155_0:A155_0:=n155_0 r224 fuel
noncomputable def r155:F155:=m155 r224 L155_0
theorem k155:KO (g155 r155):=by
  have hE: ∀g f,(E155 r224 L155_0).env.fns g=some f→CallOk Tryz.prog g f:=fnsL_ok ⟨k224,⟨⟩⟩
  have h0:LoopOk Tryz.prog Tryz.f155.ntmps (loopAt (bodyOf Tryz.f155) 0) (e155_0 L155_0):=lp_ok (E:=E155 r224 L155_0) rfl hE mixed (AllLoops.of_list (l:=[]) (by kernel_rfl) trivial) (n155_0 r224) (fun _ _ _=>rfl) (fun n x y z=>t155_0 r224 L155_0 _ x y z) rfl
  exact fn_ok (E:=E155 r224 L155_0) rfl hE mixed (by kernel_rfl) (by kernel_rfl) (AllLoops.of_list (l:=[(loopAt (bodyOf Tryz.f155) 0)]) (by kernel_rfl) (.one (by kernel_rfl) h0 trivial)) (s155 r224 L155_0)
abbrev i154:Ts:=[.a q4]
abbrev o154:Ts:=[.v (.bool)]
abbrev F154:=FT i154 o154
abbrev g154:=mkG 154 i154 o154
noncomputable def m154 (c125:F125) (c124:F124) (y:PTup i154):Option (PTup o154×BTup i154):=
  (c125 (y.1.1,((0:Int),((20000:Int),())))).bind fun r0=>
  bif r0.1.1 then ((c124 (y.1.2.1,())).bind fun r1=>
   bif r1.1.1 then ((c124 (y.1.2.2.1,())).bind fun r2=>
    bif r2.1.1 then ((c125 (y.1.2.2.2.1,((0:Int),((1:Int),())))).bind fun r3=>
     bif r3.1.1 then ((c125 (y.1.2.2.2.2.1,((0:Int),((31:Int),())))).bind fun r4=>
      some (r4.1,()))
     else no)
    else no)
   else no)
  else no
theorem s154 (c125:F125) (c124:F124) (y):TE [g125 c125,g124 c124] Tryz.f154 i154 o154 y=m154 c125 c124 y:=by kernel_rfl
noncomputable def r154:F154:=m154 r125 r124
theorem k154:KO (g154 r154):=fk (s154 r125 r124) ⟨k125,k124,⟨⟩⟩ (by kernel_rfl)
abbrev i111:Ts:=[.a q0]
abbrev o111:Ts:=[.a [.sl true .n]]
abbrev F111:=FT i111 o111
abbrev g111:=mkG 111 i111 o111
abbrev lc111_0:Ts:=[]
abbrev lb111_0:Ts:=[.p q0, .p [.sl true .n]]
abbrev lv111_0:Ts:=[.v (.int .i64)]
abbrev lr111_0:Ts:=[]
abbrev R111_0:=Option (Sum (PTup lv111_0) (PTup lr111_0)×BTup lb111_0)
abbrev B111_0:=PTup lb111_0→PTup lv111_0→R111_0
abbrev A111_0:=PTup lc111_0→B111_0
noncomputable def w111_0 (again:B111_0) (x:PTup lc111_0) (y:PTup lb111_0) (z:PTup lv111_0):R111_0:=
  bif (ltI z.1 (lenI y.1.1))then (bif (leI 0 z.1)then (bif (ltI z.1 (lenI y.1.1))then (bif (leN (0+(List.length (rdE .n y.1.1 z.1))) (E.most .i))then (bif (leN ((List.length y.2.1.1)+(List.length (([]++(rdE .n y.1.1 z.1))::[]))) (E.most .n))then (again (y.1,(((y.2.1.1++(([]++(rdE .n y.1.1 z.1))::[])),()),())) ((wI (z.1+1)),()))
      else none)
     else none)
    else none)
   else none)
  else some ((Sum.inl z),(y.1,(y.2.1,())))
noncomputable def e111_0 (l:A111_0):LoopE:=⟨[],lc111_0,[1,3],lb111_0,[4],lv111_0,[],lr111_0,0,[],l⟩
noncomputable def m111 (l0:A111_0) (y:PTup i111):Option (PTup o111×BTup i111):=
  (l0 () (y.1,(([],()),())) ((0:Int),())).bind fun r0=>
  sumElim r0.1 (fun r1=>some ((r0.2.2.1,()),()))
  (fun r1=>some ((([],()),()),()))
noncomputable def E111 (l0:A111_0):CEnv:=⟨⟨Tryz.prog,fnsL []⟩,loopsL [(3,e111_0 l0)]⟩
theorem t111_0 (l0:A111_0) (again) (x y z):loopRound (E111 l0) (loopAt (bodyOf Tryz.f111) 0) (e111_0 l0) Tryz.f111.ntmps again x y z=w111_0 again x y z:=by kernel_rfl
noncomputable def n111_0:Nat→A111_0
  |0,_,_,_=>none
  |n+1,x,y,z=>w111_0 (fun y z=>n111_0 n x y z) x y z
theorem s111 (l0:A111_0) (y):tevF (E111 l0) Tryz.f111 i111 o111 y=m111 l0 y:=by kernel_rfl
noncomputable def L111_0:A111_0:=n111_0 fuel
noncomputable def r111:F111:=m111 L111_0
theorem k111:KO (g111 r111):=by
  have hE: ∀g f,(E111 L111_0).env.fns g=some f→CallOk Tryz.prog g f:=fnsL_ok trivial
  have h0:LoopOk Tryz.prog Tryz.f111.ntmps (loopAt (bodyOf Tryz.f111) 0) (e111_0 L111_0):=lp_ok (E:=E111 L111_0) rfl hE mixed (AllLoops.of_list (l:=[]) (by kernel_rfl) trivial) (n111_0) (fun _ _ _=>rfl) (fun n x y z=>t111_0 L111_0 _ x y z) rfl
  exact fn_ok (E:=E111 L111_0) rfl hE mixed (by kernel_rfl) (by kernel_rfl) (AllLoops.of_list (l:=[(loopAt (bodyOf Tryz.f111) 0)]) (by kernel_rfl) (.one (by kernel_rfl) h0 trivial)) (s111 L111_0)
abbrev i250:Ts:=[]
abbrev o250:Ts:=[.a q5]
abbrev F250:=FT i250 o250
abbrev g250:=mkG 250 i250 o250
noncomputable def m250 (y:PTup i250):Option (PTup o250×BTup i250):=
  some ((((List.replicate (Int.toNat (512:Int)) (0:Int)),((0:Int),())),()),())
theorem s250 (y):TE [] Tryz.f250 i250 o250 y=m250 y:=by kernel_rfl
noncomputable def r250:F250:=m250
theorem k250:KO (g250 r250):=fk (s250) trivial (by kernel_rfl)
abbrev i271:Ts:=[.v (.int .i64)]
abbrev o271:Ts:=[.v (.int .i64)]
abbrev F271:=FT i271 o271
abbrev g271:=mkG 271 i271 o271
noncomputable def m271 (y:PTup i271):Option (PTup o271×BTup i271):=
  some (((bAnd Go.IntKind.i64 y.1 (65535:Int)),()),())
theorem s271 (y):TE [] Tryz.f271 i271 o271 y=m271 y:=by kernel_rfl
noncomputable def r271:F271:=m271
theorem k271:KO (g271 r271):=fk (s271) trivial (by kernel_rfl)
abbrev i212:Ts:=[.v (.int .i64)]
abbrev o212:Ts:=[.v (.int .i64), .v (.int .i64)]
abbrev F212:=FT i212 o212
abbrev g212:=mkG 212 i212 o212
noncomputable def m212 (c271:F271) (y:PTup i212):Option (PTup o212×BTup i212):=
  (c271 y).bind fun r0=>
  bif (ltI r0.1.1 8192)then (some (((1:Int),((Int.tmod r0.1.1 512),())),()))
  else bif (ltI r0.1.1 16384)then (some (((2:Int),((Int.tmod r0.1.1 8),())),()))
  else bif (ltI r0.1.1 16388)then (some (((3:Int),((Int.tmod r0.1.1 4),())),()))
  else bif (eqI r0.1.1 16406)then (some (((4:Int),((0:Int),())),()))
  else bif (ltI r0.1.1 32768)then (some (((7:Int),((0:Int),())),()))
  else bif (ltI r0.1.1 49152)then (some (((5:Int),((Int.tmod r0.1.1 256),())),()))
  else some (((6:Int),((Int.tmod r0.1.1 256),())),())
theorem s212 (c271:F271) (y):TE [g271 c271] Tryz.f212 i212 o212 y=m212 c271 y:=by kernel_rfl
noncomputable def r212:F212:=m212 r271
theorem k212:KO (g212 r212):=fk (s212 r271) ⟨k271,⟨⟩⟩ (by kernel_rfl)
abbrev i289:Ts:=[.a q0, .a q1, .v (.int .i64)]
abbrev o289:Ts:=[.v (.int .i64)]
abbrev F289:=FT i289 o289
abbrev g289:=mkG 289 i289 o289
noncomputable def m289 (c212:F212) (y:PTup i289):Option (PTup o289×BTup i289):=
  (c212 y.2.2).bind fun r0=>
  bif (eqI r0.1.1 1)then (bif (leI 0 r0.1.2.1)then (bif (ltI r0.1.2.1 (lenI y.2.1.1))then (some (((rdE .i y.2.1.1 r0.1.2.1),()),()))
    else none)
   else none)
  else bif (eqI r0.1.1 5)then (bif (leI 0 y.2.1.2.1)then (bif (ltI y.2.1.2.1 (lenI y.1.1))then (bif (leI 0 r0.1.2.1)then (bif (ltI r0.1.2.1 (lenI (rdE .n y.1.1 y.2.1.2.1)))then (some (((rdI (rdE .n y.1.1 y.2.1.2.1) r0.1.2.1),()),()))
      else none)
     else none)
    else none)
   else none)
  else bif (eqI r0.1.1 6)then (bif (leI 0 (wI ((lenI y.1.1)-1)))then (bif (ltI (wI ((lenI y.1.1)-1)) (lenI y.1.1))then (bif (leI 0 r0.1.2.1)then (bif (ltI r0.1.2.1 (lenI (rdE .n y.1.1 (wI ((lenI y.1.1)-1)))))then (some (((rdI (rdE .n y.1.1 (wI ((lenI y.1.1)-1))) r0.1.2.1),()),()))
      else none)
     else none)
    else none)
   else none)
  else some (((0:Int),()),())
theorem s289 (c212:F212) (y):TE [g212 c212] Tryz.f289 i289 o289 y=m289 c212 y:=by kernel_rfl
noncomputable def r289:F289:=m289 r212
theorem k289:KO (g289 r289):=fk (s289 r212) ⟨k212,⟨⟩⟩ (by kernel_rfl)
abbrev i267:Ts:=[.a q0, .a q1, .v (.int .i64)]
abbrev o267:Ts:=[.v (.int .i64)]
abbrev F267:=FT i267 o267
abbrev g267:=mkG 267 i267 o267
noncomputable def m267 (c120:F120) (c289:F289) (y:PTup i267):Option (PTup o267×BTup i267):=
  (c120 (y.1,(y.2.1,()))).bind fun r0=>
  bif (!r0.1.1)then (some (((0:Int),()),()))
  else (c289 y).bind fun r1=>
  some (r1.1,())
theorem s267 (c120:F120) (c289:F289) (y):TE [g120 c120,g289 c289] Tryz.f267 i267 o267 y=m267 c120 c289 y:=by kernel_rfl
noncomputable def r267:F267:=m267 r120 r289
theorem k267:KO (g267 r267):=fk (s267 r120 r289) ⟨k120,k289,⟨⟩⟩ (by kernel_rfl)
abbrev i272:Ts:=[.v (.int .i64)]
abbrev o272:Ts:=[.v (.int .i64)]
abbrev F272:=FT i272 o272
abbrev g272:=mkG 272 i272 o272
noncomputable def m272 (y:PTup i272):Option (PTup o272×BTup i272):=
  some (((bAnd Go.IntKind.i64 y.1 (255:Int)),()),())
theorem s272 (y):TE [] Tryz.f272 i272 o272 y=m272 y:=by kernel_rfl
noncomputable def r272:F272:=m272
theorem k272:KO (g272 r272):=fk (s272) trivial (by kernel_rfl)
abbrev i269:Ts:=[.v (.int .i64), .v (.int .i64)]
abbrev o269:Ts:=[.v (.int .i64)]
abbrev F269:=FT i269 o269
abbrev g269:=mkG 269 i269 o269
noncomputable def m269 (c272:F272) (y:PTup i269):Option (PTup o269×BTup i269):=
  (c272 (y.1,())).bind fun r0=>
  (c272 y.2).bind fun r1=>
  some (((wI (r0.1.1+(wI ((256:Int)*r1.1.1)))),()),())
theorem s269 (c272:F272) (y):TE [g272 c272] Tryz.f269 i269 o269 y=m269 c272 y:=by kernel_rfl
noncomputable def r269:F269:=m269 r272
theorem k269:KO (g269 r269):=fk (s269 r272) ⟨k272,⟨⟩⟩ (by kernel_rfl)
abbrev i251:Ts:=[.a q0]
abbrev o251:Ts:=[.a q2]
abbrev F251:=FT i251 o251
abbrev g251:=mkG 251 i251 o251
noncomputable def m251 (c269:F269) (c250:F250) (c267:F267) (y:PTup i251):Option (PTup o251×BTup i251):=
  (c250 ()).bind fun r0=>
  (c267 (y.1,(r0.1.1,((65532:Int),())))).bind fun r1=>
  (c267 (y.1,(r0.1.1,((65533:Int),())))).bind fun r2=>
  (c269 (r1.1.1,r2.1)).bind fun r3=>
  some ((((0:Int),((0:Int),((255:Int),(r3.1.1,(false,(false,(false,(true,())))))))),()),())
theorem s251 (c269:F269) (c250:F250) (c267:F267) (y):TE [g269 c269,g250 c250,g267 c267] Tryz.f251 i251 o251 y=m251 c269 c250 c267 y:=by kernel_rfl
noncomputable def r251:F251:=m251 r269 r250 r267
theorem k251:KO (g251 r251):=fk (s251 r269 r250 r267) ⟨k269,k250,k267,⟨⟩⟩ (by kernel_rfl)
abbrev i252:Ts:=[]
abbrev o252:Ts:=[.a q6]
abbrev F252:=FT i252 o252
abbrev g252:=mkG 252 i252 o252
noncomputable def m252 (y:PTup i252):Option (PTup o252×BTup i252):=
  some ((((0:Int),((0:Int),((0:Int),((0:Int),((0:Int),(false,((List.replicate (Int.toNat (16:Int)) (0:Int)),([],())))))))),()),())
theorem s252 (y):TE [] Tryz.f252 i252 o252 y=m252 y:=by kernel_rfl
noncomputable def r252:F252:=m252
theorem k252:KO (g252 r252):=fk (s252) trivial (by kernel_rfl)
abbrev i42:Ts:=[.a q7]
abbrev o42:Ts:=[.v (.bool)]
abbrev F42:=FT i42 o42
abbrev g42:=mkG 42 i42 o42
noncomputable def m42 (c154:F154) (c121:F121) (c120:F120) (c119:F119) (c153:F153) (c155:F155) (c125:F125) (c124:F124) (y:PTup i42):Option (PTup o42×BTup i42):=
  let a0:=y.1;let a1:=a0.2;let a2:=a1.2;let a3:=a2.2;let a4:=a3.2;let a5:=a4.2;let a6:=a5.2;let a7:=a6.2;let a8:=a7.2;let a9:=a8.2;let a10:=a9.2;let a11:=a10.2;let a12:=a11.2;let a13:=a12.2;let a14:=a13.2;let a15:=a14.2;let a16:=a15.2;let a17:=a16.2;let a18:=a17.2;let a19:=a18.2;let a20:=a19.2;let a21:=a20.2;let a22:=a21.2.2;let a23:=a22.2.2;let a24:=a23.2.2.2;(c119 (a1.1,())).bind fun r0=>
  bif r0.1.1 then ((c120 ((a0.1,()),((a2.1,(a3.1,())),()))).bind fun r1=>
   bif r1.1.1 then ((c121 ((a4.1,(a5.1,(a6.1,(a7.1,(a8.1,(a9.1,(a10.1,(a11.1,())))))))),())).bind fun r2=>
    bif r2.1.1 then ((c153 ((a12.1,(a13.1,(a14.1,(a15.1,(a16.1,(a17.1,(a18.1,(a19.1,())))))))),())).bind fun r3=>
     bif r3.1.1 then ((c154 ((a20.1,(a21.1,(a21.2.1,(a22.1,(a22.2.1,(a23.1,(a23.2.1,()))))))),())).bind fun r4=>
      bif r4.1.1 then ((c124 (a24.1,())).bind fun r5=>
       bif r5.1.1 then (bif (eqI a12.1 a20.1)then ((c125 (a24.2.2.1,((0:Int),(a12.1,())))).bind fun r6=>
         bif r6.1.1 then ((c155 (a24.2.2.2.1,(a12.1,()))).bind fun r7=>
          bif r7.1.1 then (some (((eqI (lenI a24.2.2.2.2.1) (wI (Int.tdiv a12.1 16))),()),()))
          else no)
         else no)
        else no)
       else no)
      else no)
     else no)
    else no)
   else no)
  else no
theorem s42 (c154:F154) (c121:F121) (c120:F120) (c119:F119) (c153:F153) (c155:F155) (c125:F125) (c124:F124) (y):TE [g154 c154,g121 c121,g120 c120,g119 c119,g153 c153,g155 c155,g125 c125,g124 c124] Tryz.f42 i42 o42 y=m42 c154 c121 c120 c119 c153 c155 c125 c124 y:=by kernel_rfl
noncomputable def r42:F42:=m42 r154 r121 r120 r119 r153 r155 r125 r124
theorem k42:KO (g42 r42):=fk (s42 r154 r121 r120 r119 r153 r155 r125 r124) ⟨k154,k121,k120,k119,k153,k155,k125,k124,⟨⟩⟩ (by kernel_rfl)
abbrev i172:Ts:=[.a q0, .v (.sl false .i)]
abbrev o172:Ts:=[.a q8, .v (.bool)]
abbrev F172:=FT i172 o172
abbrev g172:=mkG 172 i172 o172
noncomputable def m172 (c251:F251) (c42:F42) (c250:F250) (c252:F252) (c111:F111) (y:PTup i172):Option (PTup o172×BTup i172):=
  (c111 (y.1,())).bind fun r0=>
  bif (leN (0+(List.length y.2.1)) (E.most .i))then ((c250 ()).bind fun r1=>
   (c251 (y.1,())).bind fun r2=>
   (c252 ()).bind fun r3=>
   (c42 ((r0.1.1.1,(([]++y.2.1),(r1.1.1.1,(r1.1.1.2.1,(r2.1.1.1,(r2.1.1.2.1,(r2.1.1.2.2.1,(r2.1.1.2.2.2.1,(r2.1.1.2.2.2.2.1,(r2.1.1.2.2.2.2.2.1,(r2.1.1.2.2.2.2.2.2.1,(r2.1.1.2.2.2.2.2.2.2.1,(r3.1.1.1,(r3.1.1.2.1,(r3.1.1.2.2.1,(r3.1.1.2.2.2.1,(r3.1.1.2.2.2.2.1,(r3.1.1.2.2.2.2.2.1,(r3.1.1.2.2.2.2.2.2.1,(r3.1.1.2.2.2.2.2.2.2.1,((0:Int),((0:Int),((0:Int),((0:Int),((0:Int),(false,(false,(false,((0:Int),(false,((0:Int),([],([],([],())))))))))))))))))))))))))))))))))),())).bind fun r4=>
   bif (!r4.1.1)then (some ((([],([],([],((0:Int),((0:Int),((0:Int),((0:Int),((0:Int),(false,(false,(false,(false,((0:Int),((0:Int),((0:Int),((0:Int),((0:Int),(false,([],([],((0:Int),((0:Int),((0:Int),((0:Int),((0:Int),(false,(false,(false,((0:Int),(false,((0:Int),([],([],([],())))))))))))))))))))))))))))))))))),(false,())),()))
   else some (((r0.1.1.1,(([]++y.2.1),(r1.1.1.1,(r1.1.1.2.1,(r2.1.1.1,(r2.1.1.2.1,(r2.1.1.2.2.1,(r2.1.1.2.2.2.1,(r2.1.1.2.2.2.2.1,(r2.1.1.2.2.2.2.2.1,(r2.1.1.2.2.2.2.2.2.1,(r2.1.1.2.2.2.2.2.2.2.1,(r3.1.1.1,(r3.1.1.2.1,(r3.1.1.2.2.1,(r3.1.1.2.2.2.1,(r3.1.1.2.2.2.2.1,(r3.1.1.2.2.2.2.2.1,(r3.1.1.2.2.2.2.2.2.1,(r3.1.1.2.2.2.2.2.2.2.1,((0:Int),((0:Int),((0:Int),((0:Int),((0:Int),(false,(false,(false,((0:Int),(false,((0:Int),([],([],([],())))))))))))))))))))))))))))))))))),(true,())),()))
  else none
theorem s172 (c251:F251) (c42:F42) (c250:F250) (c252:F252) (c111:F111) (y):TE [g251 c251,g42 c42,g250 c250,g252 c252,g111 c111] Tryz.f172 i172 o172 y=m172 c251 c42 c250 c252 c111 y:=by kernel_rfl
noncomputable def r172:F172:=m172 r251 r42 r250 r252 r111
theorem k172:KO (g172 r172):=fk (s172 r251 r42 r250 r252 r111) ⟨k251,k42,k250,k252,k111,⟨⟩⟩ (by kernel_rfl)
abbrev i112:Ts:=[.a q1]
abbrev o112:Ts:=[.a q5]
abbrev F112:=FT i112 o112
abbrev g112:=mkG 112 i112 o112
noncomputable def m112 (y:PTup i112):Option (PTup o112×BTup i112):=
  bif (leN (0+(List.length y.1.1)) (E.most .i))then (some (((([]++y.1.1),y.1.2),()),()))
  else none
theorem s112 (y):TE [] Tryz.f112 i112 o112 y=m112 y:=by kernel_rfl
noncomputable def r112:F112:=m112
theorem k112:KO (g112 r112):=fk (s112) trivial (by kernel_rfl)
abbrev i113:Ts:=[.a q3]
abbrev o113:Ts:=[.a q6]
abbrev F113:=FT i113 o113
abbrev g113:=mkG 113 i113 o113
noncomputable def m113 (y:PTup i113):Option (PTup o113×BTup i113):=
  bif (leN (0+(List.length y.1.2.2.2.2.2.2.1)) (E.most .i))then (bif (leN (0+(List.length y.1.2.2.2.2.2.2.2.1)) (E.most .i))then (some (((y.1.1,(y.1.2.1,(y.1.2.2.1,(y.1.2.2.2.1,(y.1.2.2.2.2.1,(y.1.2.2.2.2.2.1,(([]++y.1.2.2.2.2.2.2.1),(([]++y.1.2.2.2.2.2.2.2.1),())))))))),()),()))
   else none)
  else none
theorem s113 (y):TE [] Tryz.f113 i113 o113 y=m113 y:=by kernel_rfl
noncomputable def r113:F113:=m113
theorem k113:KO (g113 r113):=fk (s113) trivial (by kernel_rfl)
abbrev i118:Ts:=[.v (.sl false .n)]
abbrev o118:Ts:=[.v (.sl true .n)]
abbrev F118:=FT i118 o118
abbrev g118:=mkG 118 i118 o118
abbrev lc118_0:Ts:=[.v (.sl false .n)]
abbrev lb118_0:Ts:=[]
abbrev lv118_0:Ts:=[.v (.sl true .n), .v (.int .i64)]
abbrev lr118_0:Ts:=[]
abbrev R118_0:=Option (Sum (PTup lv118_0) (PTup lr118_0)×BTup lb118_0)
abbrev B118_0:=PTup lb118_0→PTup lv118_0→R118_0
abbrev A118_0:=PTup lc118_0→B118_0
noncomputable def w118_0 (again:B118_0) (x:PTup lc118_0) (y:PTup lb118_0) (z:PTup lv118_0):R118_0:=
  bif (ltI z.2.1 (lenI x.1))then (bif (leI 0 z.2.1)then (bif (ltI z.2.1 (lenI x.1))then (bif (leN (0+(List.length (rdE .n x.1 z.2.1))) (E.most .i))then (bif (leN ((List.length z.1)+(List.length (([]++(rdE .n x.1 z.2.1))::[]))) (E.most .n))then (again () ((z.1++(([]++(rdE .n x.1 z.2.1))::[])),((wI (z.2.1+1)),())))
      else none)
     else none)
    else none)
   else none)
  else some ((Sum.inl z),())
noncomputable def e118_0 (l:A118_0):LoopE:=⟨[0],lc118_0,[],lb118_0,[3,4],lv118_0,[],lr118_0,0,[],l⟩
noncomputable def m118 (l0:A118_0) (y:PTup i118):Option (PTup o118×BTup i118):=
  (l0 y () ([],((0:Int),()))).bind fun r0=>
  sumElim r0.1 (fun r1=>some ((r1.1,()),()))
  (fun r1=>some (([],()),()))
noncomputable def E118 (l0:A118_0):CEnv:=⟨⟨Tryz.prog,fnsL []⟩,loopsL [(3,e118_0 l0)]⟩
theorem t118_0 (l0:A118_0) (again) (x y z):loopRound (E118 l0) (loopAt (bodyOf Tryz.f118) 0) (e118_0 l0) Tryz.f118.ntmps again x y z=w118_0 again x y z:=by kernel_rfl
noncomputable def n118_0:Nat→A118_0
  |0,_,_,_=>none
  |n+1,x,y,z=>w118_0 (fun y z=>n118_0 n x y z) x y z
theorem s118 (l0:A118_0) (y):tevF (E118 l0) Tryz.f118 i118 o118 y=m118 l0 y:=by kernel_rfl
noncomputable def L118_0:A118_0:=n118_0 fuel
noncomputable def r118:F118:=m118 L118_0
theorem k118:KO (g118 r118):=by
  have hE: ∀g f,(E118 L118_0).env.fns g=some f→CallOk Tryz.prog g f:=fnsL_ok trivial
  have h0:LoopOk Tryz.prog Tryz.f118.ntmps (loopAt (bodyOf Tryz.f118) 0) (e118_0 L118_0):=lp_ok (E:=E118 L118_0) rfl hE mixed (AllLoops.of_list (l:=[]) (by kernel_rfl) trivial) (n118_0) (fun _ _ _=>rfl) (fun n x y z=>t118_0 L118_0 _ x y z) rfl
  exact fn_ok (E:=E118 L118_0) rfl hE mixed (by kernel_rfl) (by kernel_rfl) (AllLoops.of_list (l:=[(loopAt (bodyOf Tryz.f118) 0)]) (by kernel_rfl) (.one (by kernel_rfl) h0 trivial)) (s118 L118_0)
abbrev i148:Ts:=[.a q7]
abbrev o148:Ts:=[.a q8]
abbrev F148:=FT i148 o148
abbrev g148:=mkG 148 i148 o148
noncomputable def m148 (c111:F111) (c118:F118) (c112:F112) (c113:F113) (y:PTup i148):Option (PTup o148×BTup i148):=
  let a0:=y.1;let a1:=a0.2;let a2:=a1.2;let a3:=a2.2;let a4:=a3.2;let a5:=a4.2;let a6:=a5.2;let a7:=a6.2;let a8:=a7.2;let a9:=a8.2;let a10:=a9.2;let a11:=a10.2;let a12:=a11.2;let a13:=a12.2;let a14:=a13.2;let a15:=a14.2;let a16:=a15.2;let a17:=a16.2;let a18:=a17.2;let a19:=a18.2;let a20:=a19.2;let a21:=a20.2;let a22:=a21.2;let a23:=a22.2;let a24:=a23.2;let a25:=a24.2;let a26:=a25.2;let a27:=a26.2.2;let a28:=a27.2.2;(c111 ((a0.1,()),())).bind fun r0=>
  bif (leN (0+(List.length a1.1)) (E.most .i))then ((c112 ((a2.1,(a3.1,())),())).bind fun r1=>
   (c113 ((a12.1,(a13.1,(a14.1,(a15.1,(a16.1,(a17.1,(a18.1,(a19.1,())))))))),())).bind fun r2=>
   (c118 (a28.2.1,())).bind fun r3=>
   bif (leN (0+(List.length a28.2.2.1)) (E.most .i))then (bif (leN (0+(List.length a28.2.2.2.1)) (E.most .i))then (some (((r0.1.1.1,(([]++a1.1),(r1.1.1.1,(r1.1.1.2.1,(a4.1,(a5.1,(a6.1,(a7.1,(a8.1,(a9.1,(a10.1,(a11.1,(r2.1.1.1,(r2.1.1.2.1,(r2.1.1.2.2.1,(r2.1.1.2.2.2.1,(r2.1.1.2.2.2.2.1,(r2.1.1.2.2.2.2.2.1,(r2.1.1.2.2.2.2.2.2.1,(r2.1.1.2.2.2.2.2.2.2.1,(a20.1,(a21.1,(a22.1,(a23.1,(a24.1,(a25.1,(a26.1,(a26.2.1,(a27.1,(a27.2.1,(a28.1,(r3.1.1,(([]++a28.2.2.1),(([]++a28.2.2.2.1),())))))))))))))))))))))))))))))))))),()),()))
    else none)
   else none)
  else none
theorem s148 (c111:F111) (c118:F118) (c112:F112) (c113:F113) (y):TE [g111 c111,g118 c118,g112 c112,g113 c113] Tryz.f148 i148 o148 y=m148 c111 c118 c112 c113 y:=by kernel_rfl
noncomputable def r148:F148:=m148 r111 r118 r112 r113
theorem k148:KO (g148 r148):=fk (s148 r111 r118 r112 r113) ⟨k111,k118,k112,k113,⟨⟩⟩ (by kernel_rfl)
abbrev i158:Ts:=[.v (.int .i64), .v (.int .i64)]
abbrev o158:Ts:=[.v (.int .i64)]
abbrev F158:=FT i158 o158
abbrev g158:=mkG 158 i158 o158
noncomputable def m158 (y:PTup i158):Option (PTup o158×BTup i158):=
  bif (ltI y.1 y.2.1)then (some ((y.1,()),()))
  else some (y.2,())
theorem s158 (y):TE [] Tryz.f158 i158 o158 y=m158 y:=by kernel_rfl
noncomputable def r158:F158:=m158
theorem k158:KO (g158 r158):=fk (s158) trivial (by kernel_rfl)
abbrev i167:Ts:=[.v (.bool)]
abbrev o167:Ts:=[.v (.int .i64)]
abbrev F167:=FT i167 o167
abbrev g167:=mkG 167 i167 o167
noncomputable def m167 (y:PTup i167):Option (PTup o167×BTup i167):=
  bif y.1 then (some (((1:Int),()),()))
  else some (((0:Int),()),())
theorem s167 (y):TE [] Tryz.f167 i167 o167 y=m167 y:=by kernel_rfl
noncomputable def r167:F167:=m167
theorem k167:KO (g167 r167):=fk (s167) trivial (by kernel_rfl)
abbrev i284:Ts:=[.a q2]
abbrev o284:Ts:=[.v (.int .i64)]
abbrev F284:=FT i284 o284
abbrev g284:=mkG 284 i284 o284
noncomputable def m284 (c167:F167) (y:PTup i284):Option (PTup o284×BTup i284):=
  (c167 (y.1.2.2.2.2.2.2.1,())).bind fun r0=>
  (c167 (y.1.2.2.2.2.1,())).bind fun r1=>
  (c167 y.1.2.2.2.2.2.2.2).bind fun r2=>
  (c167 (y.1.2.2.2.2.2.1,())).bind fun r3=>
  some (((wI ((wI ((wI (r0.1.1+(wI ((2:Int)*r1.1.1))))+(wI ((4:Int)*r2.1.1))))+(wI ((128:Int)*r3.1.1)))),()),())
theorem s284 (c167:F167) (y):TE [g167 c167] Tryz.f284 i284 o284 y=m284 c167 y:=by kernel_rfl
noncomputable def r284:F284:=m284 r167
theorem k284:KO (g284 r284):=fk (s284 r167) ⟨k167,⟨⟩⟩ (by kernel_rfl)
abbrev i285:Ts:=[.a q1, .a q2, .v (.int .i64)]
abbrev o285:Ts:=[.a q5, .a q2]
abbrev F285:=FT i285 o285
abbrev g285:=mkG 285 i285 o285
noncomputable def m285 (c272:F272) (c112:F112) (y:PTup i285):Option (PTup o285×BTup i285):=
  (c112 (y.1,())).bind fun r0=>
  bif (neI (lenI y.1.1) 512)then (some ((r0.1.1,(y.2.1,())),()))
  else (c272 (y.2.1.2.2.1,())).bind fun r1=>
  (c272 y.2.2).bind fun r2=>
  bif (leI 0 (wI ((256:Int)+r1.1.1)))then (bif (ltI (wI ((256:Int)+r1.1.1)) (lenI r0.1.1.1))then ((c272 ((wI (y.2.1.2.2.1-1)),())).bind fun r3=>
    some ((((List.set r0.1.1.1 (Int.toNat (wI ((256:Int)+r1.1.1))) r2.1.1),r0.1.1.2),((y.2.1.1,(y.2.1.2.1,(r3.1.1,y.2.1.2.2.2))),())),()))
   else none)
  else none
theorem s285 (c272:F272) (c112:F112) (y):TE [g272 c272,g112 c112] Tryz.f285 i285 o285 y=m285 c272 c112 y:=by kernel_rfl
noncomputable def r285:F285:=m285 r272 r112
theorem k285:KO (g285 r285):=fk (s285 r272 r112) ⟨k272,k112,⟨⟩⟩ (by kernel_rfl)
abbrev i233:Ts:=[.a q0, .a q1, .a q2, .v (.int .i64)]
abbrev o233:Ts:=[.a q5, .a q2]
abbrev F233:=FT i233 o233
abbrev g233:=mkG 233 i233 o233
noncomputable def m233 (c284:F284) (c269:F269) (c267:F267) (c285:F285) (c112:F112) (y:PTup i233):Option (PTup o233×BTup i233):=
  (c112 (y.2.1,())).bind fun r0=>
  (c284 (y.2.2.1,())).bind fun r1=>
  (c285 (r0.1.1,(y.2.2.1,((Int.fdiv y.2.2.1.2.2.2.1 ((2:Int)^(Min.min (Int.toNat (8:Int)) (64:Nat)))),())))).bind fun r2=>
  (c285 (r2.1.1,(r2.1.2.1,(r2.1.2.1.2.2.2.1,())))).bind fun r3=>
  (c285 (r3.1.1,(r3.1.2.1,r1.1))).bind fun r4=>
  (c267 (y.1,(r4.1.1,y.2.2.2))).bind fun r5=>
  (c267 (y.1,(r4.1.1,((wI (y.2.2.2.1+1)),())))).bind fun r6=>
  (c269 (r5.1.1,r6.1)).bind fun r7=>
  some ((r4.1.1,((r4.1.2.1.1,(r4.1.2.1.2.1,(r4.1.2.1.2.2.1,(r7.1.1,(r4.1.2.1.2.2.2.2.1,(r4.1.2.1.2.2.2.2.2.1,(r4.1.2.1.2.2.2.2.2.2.1,(true,())))))))),())),())
theorem s233 (c284:F284) (c269:F269) (c267:F267) (c285:F285) (c112:F112) (y):TE [g284 c284,g269 c269,g267 c267,g285 c285,g112 c112] Tryz.f233 i233 o233 y=m233 c284 c269 c267 c285 c112 y:=by kernel_rfl
noncomputable def r233:F233:=m233 r284 r269 r267 r285 r112
theorem k233:KO (g233 r233):=fk (s233 r284 r269 r267 r285 r112) ⟨k284,k269,k267,k285,k112,⟨⟩⟩ (by kernel_rfl)
abbrev i268:Ts:=[.v (.int .i64)]
abbrev o268:Ts:=[.v (.int .i64)]
abbrev F268:=FT i268 o268
abbrev g268:=mkG 268 i268 o268
noncomputable def m268 (c125:F125) (y:PTup i268):Option (PTup o268×BTup i268):=
  (c125 (y.1,((0:Int),((29:Int),())))).bind fun r0=>
  bif (!r0.1.1)then (some (((1:Int),()),()))
  else bif (leI 0 y.1)then (bif (ltI y.1 (lenI ((1:Int)::((2:Int)::((3:Int)::((3:Int)::((2:Int)::((2:Int)::((2:Int)::((2:Int)::((2:Int)::((2:Int)::((1:Int)::((1:Int)::((1:Int)::((1:Int)::((3:Int)::((3:Int)::((3:Int)::((3:Int)::((3:Int)::((3:Int)::((3:Int)::((1:Int)::((1:Int)::((1:Int)::((1:Int)::((1:Int)::((1:Int)::((1:Int)::((1:Int)::((3:Int)::[]))))))))))))))))))))))))))))))))then (some (((rdE .i ((1:Int)::((2:Int)::((3:Int)::((3:Int)::((2:Int)::((2:Int)::((2:Int)::((2:Int)::((2:Int)::((2:Int)::((1:Int)::((1:Int)::((1:Int)::((1:Int)::((3:Int)::((3:Int)::((3:Int)::((3:Int)::((3:Int)::((3:Int)::((3:Int)::((1:Int)::((1:Int)::((1:Int)::((1:Int)::((1:Int)::((1:Int)::((1:Int)::((1:Int)::((3:Int)::[])))))))))))))))))))))))))))))) y.1),()),()))
   else none)
  else none
theorem s268 (c125:F125) (y):TE [g125 c125] Tryz.f268 i268 o268 y=m268 c125 y:=by kernel_rfl
noncomputable def r268:F268:=m268 r125
theorem k268:KO (g268 r268):=fk (s268 r125) ⟨k125,⟨⟩⟩ (by kernel_rfl)
abbrev i210:Ts:=[.a q0, .a q1, .v (.int .i64)]
abbrev o210:Ts:=[.a q9]
abbrev F210:=FT i210 o210
abbrev g210:=mkG 210 i210 o210
noncomputable def m210 (c269:F269) (c268:F268) (c267:F267) (y:PTup i210):Option (PTup o210×BTup i210):=
  (c267 y).bind fun r0=>
  (c268 r0.1).bind fun r1=>
  bif (eqI r1.1.1 2)then ((c267 (y.1,(y.2.1,((wI (y.2.2.1+1)),())))).bind fun r2=>
   some (((r0.1.1,r2.1),()),()))
  else bif (eqI r1.1.1 3)then ((c267 (y.1,(y.2.1,((wI (y.2.2.1+1)),())))).bind fun r2=>
   (c267 (y.1,(y.2.1,((wI (y.2.2.1+2)),())))).bind fun r3=>
   (c269 (r2.1.1,r3.1)).bind fun r4=>
   some (((r0.1.1,r4.1),()),()))
  else some (((r0.1.1,((0:Int),())),()),())
theorem s210 (c269:F269) (c268:F268) (c267:F267) (y):TE [g269 c269,g268 c268,g267 c267] Tryz.f210 i210 o210 y=m210 c269 c268 c267 y:=by kernel_rfl
noncomputable def r210:F210:=m210 r269 r268 r267
theorem k210:KO (g210 r210):=fk (s210 r269 r268 r267) ⟨k269,k268,k267,⟨⟩⟩ (by kernel_rfl)
abbrev i270:Ts:=[.v (.int .i64)]
abbrev o270:Ts:=[.v (.int .i64)]
abbrev R270:=Option (PTup o270×BTup i270)
abbrev F270:=PTup i270→R270
abbrev g270:=mkG 270 i270 o270
noncomputable def m270 (y:PTup i270):R270:=
  let X0:R270:=bif (eqI y.1 3)then (bif (eqI y.1 3)then (some (((2:Int),()),()))else some (((0:Int),()),()))else bif (eqI y.1 15)then (some (((2:Int),()),()))else some (((0:Int),()),());bif (eqI y.1 2)then (bif (eqI y.1 2)then (some (((1:Int),()),()))else X0)else bif (eqI y.1 14)then (bif (eqI y.1 14)then (some (((1:Int),()),()))else X0)else bif (eqI y.1 29)then (some (((1:Int),()),()))else X0
theorem s270 (y):TE [] Tryz.f270 i270 o270 y=m270 y:=by kernel_rfl
noncomputable def r270:F270:=m270
theorem k270:KO (g270 r270):=fk (s270) trivial (by kernel_rfl)
abbrev i211:Ts:=[.a q9, .a q2]
abbrev o211:Ts:=[.v (.int .i64), .v (.int .i64), .v (.int .i64)]
abbrev R211:=Option (PTup o211×BTup i211)
abbrev F211:=PTup i211→R211
abbrev g211:=mkG 211 i211 o211
noncomputable def m211 (c271:F271) (c272:F272) (c270:F270) (y:PTup i211):R211:=
  (c270 (y.1.1,())).bind fun r0=>let X0:R211:=bif (eqI r0.1.1 1)then ((c271 ((wI (y.1.2.1+y.2.1.2.1)),())).bind fun r1=>some ((r0.1.1,(r1.1.1,((0:Int),()))),()))else (c271 ((wI (y.1.2.1+y.2.1.2.1)),())).bind fun r1=>(c272 (y.2.1.1,())).bind fun r2=>some ((r0.1.1,(r1.1.1,r2.1)),());bif (eqI r0.1.1 0)then (some (((0:Int),((0:Int),((0:Int),()))),()))else bif (eqI y.1.1 14)then X0 else bif (eqI y.1.1 15)then X0 else bif (eqI r0.1.1 1)then ((c271 y.1.2).bind fun r1=>some ((r0.1.1,(r1.1.1,((0:Int),()))),()))else (c271 y.1.2).bind fun r1=>(c272 (y.2.1.1,())).bind fun r2=>some ((r0.1.1,(r1.1.1,r2.1)),())
theorem s211 (c271:F271) (c272:F272) (c270:F270) (y):TE [g271 c271,g272 c272,g270 c270] Tryz.f211 i211 o211 y=m211 c271 c272 c270 y:=by kernel_rfl
noncomputable def r211:F211:=m211 r271 r272 r270
theorem k211:KO (g211 r211):=fk (s211 r271 r272 r270) ⟨k271,k272,k270,⟨⟩⟩ (by kernel_rfl)
abbrev i286:Ts:=[.a q3, .v (.int .i64)]
abbrev o286:Ts:=[.a q6, .v (.int .i64)]
abbrev F286:=FT i286 o286
abbrev g286:=mkG 286 i286 o286
noncomputable def m286 (c153:F153) (c167:F167) (c113:F113) (y:PTup i286):Option (PTup o286×BTup i286):=
  (c113 (y.1,())).bind fun r0=>
  (c153 (y.1,())).bind fun r1=>
  bif (!r1.1.1)then (some ((r0.1.1,((0:Int),())),()))
  else bif (eqI y.2.1 2)then ((c167 (y.1.2.2.2.2.2.1,())).bind fun r2=>
   some (((r0.1.1.1,(r0.1.1.2.1,(r0.1.1.2.2.1,(r0.1.1.2.2.2.1,(r0.1.1.2.2.2.2.1,(false,r0.1.1.2.2.2.2.2.2)))))),((wI ((128:Int)*r2.1.1)),())),()))
  else bif (eqI y.2.1 4)then (bif (leI 0 y.1.2.2.2.1)then (bif (ltI y.1.2.2.2.1 (lenI y.1.2.2.2.2.2.2.1))then (some (((r0.1.1.1,(r0.1.1.2.1,(r0.1.1.2.2.1,((Int.tmod (wI (y.1.2.2.2.1+1)) (16:Int)),r0.1.1.2.2.2.2)))),((rdE .i y.1.2.2.2.2.2.2.1 y.1.2.2.2.1),())),()))
    else none)
   else none)
  else some ((r0.1.1,((0:Int),())),())
theorem s286 (c153:F153) (c167:F167) (c113:F113) (y):TE [g153 c153,g167 c167,g113 c113] Tryz.f286 i286 o286 y=m286 c153 c167 c113 y:=by kernel_rfl
noncomputable def r286:F286:=m286 r153 r167 r113
theorem k286:KO (g286 r286):=fk (s286 r153 r167 r113) ⟨k153,k167,k113,⟨⟩⟩ (by kernel_rfl)
abbrev i287:Ts:=[.a q4, .v (.int .i64)]
abbrev o287:Ts:=[.a q4, .v (.int .i64)]
abbrev F287:=FT i287 o287
abbrev g287:=mkG 287 i287 o287
noncomputable def m287 (c154:F154) (c167:F167) (y:PTup i287):Option (PTup o287×BTup i287):=
  (c154 (y.1,())).bind fun r0=>
  bif (!r0.1.1)then (some ((y.1,((0:Int),())),()))
  else bif (neI y.2.1 2)then (some ((y.1,((0:Int),())),()))
  else (c167 y.1.2.2.2.2.2.2).bind fun r1=>
  (c167 ((ltI 0 y.1.2.2.2.2.1),())).bind fun r2=>
  some (((y.1.1,(y.1.2.1,(y.1.2.2.1,(y.1.2.2.2.1,(y.1.2.2.2.2.1,(y.1.2.2.2.2.2.1,(false,()))))))),((wI ((wI ((128:Int)*r1.1.1))+r2.1.1)),())),())
theorem s287 (c154:F154) (c167:F167) (y):TE [g154 c154,g167 c167] Tryz.f287 i287 o287 y=m287 c154 c167 y:=by kernel_rfl
noncomputable def r287:F287:=m287 r154 r167
theorem k287:KO (g287 r287):=fk (s287 r154 r167) ⟨k154,k167,⟨⟩⟩ (by kernel_rfl)
abbrev i168:Ts:=[.v (.int .i64), .v (.int .i64)]
abbrev o168:Ts:=[.v (.int .i64)]
abbrev F168:=FT i168 o168
abbrev g168:=mkG 168 i168 o168
noncomputable def m168 (y:PTup i168):Option (PTup o168×BTup i168):=
  bif (ltI y.2.1 y.1)then (some ((y.1,()),()))
  else some (y.2,())
theorem s168 (y):TE [] Tryz.f168 i168 o168 y=m168 y:=by kernel_rfl
noncomputable def r168:F168:=m168
theorem k168:KO (g168 r168):=fk (s168) trivial (by kernel_rfl)
abbrev i338:Ts:=[.v (.int .i64)]
abbrev o338:Ts:=[.v (.int .i64)]
abbrev F338:=FT i338 o338
abbrev g338:=mkG 338 i338 o338
noncomputable def m338 (c168:F168) (y:PTup i338):Option (PTup o338×BTup i338):=
  (c168 (y.1,((0:Int),()))).bind fun r0=>
  some (((wI (Int.tdiv r0.1.1 64)),()),())
theorem s338 (c168:F168) (y):TE [g168 c168] Tryz.f338 i338 o338 y=m338 c168 y:=by kernel_rfl
noncomputable def r338:F338:=m338 r168
theorem k338:KO (g338 r338):=fk (s338 r168) ⟨k168,⟨⟩⟩ (by kernel_rfl)
abbrev i320:Ts:=[.v (.sl false .i), .v (.int .i64)]
abbrev o320:Ts:=[.v (.int .i64)]
abbrev F320:=FT i320 o320
abbrev g320:=mkG 320 i320 o320
noncomputable def m320 (c338:F338) (c119:F119) (y:PTup i320):Option (PTup o320×BTup i320):=
  (c119 (y.1,())).bind fun r0=>
  bif (!r0.1.1)then (some (((0:Int),()),()))
  else bif (eqI (lenI y.1) 0)then (some (((0:Int),()),()))
  else (c338 y.2).bind fun r1=>
  bif (neI (lenI y.1) 0)then (bif (leI 0 (Int.tmod r1.1.1 (lenI y.1)))then (bif (ltI (Int.tmod r1.1.1 (lenI y.1)) (lenI y.1))then (some (((rdE .i y.1 (Int.tmod r1.1.1 (lenI y.1))),()),()))
    else none)
   else none)
  else none
theorem s320 (c338:F338) (c119:F119) (y):TE [g338 c338,g119 c119] Tryz.f320 i320 o320 y=m320 c338 c119 y:=by kernel_rfl
noncomputable def r320:F320:=m320 r338 r119
theorem k320:KO (g320 r320):=fk (s320 r338 r119) ⟨k338,k119,⟨⟩⟩ (by kernel_rfl)
abbrev i288:Ts:=[.a q10, .v (.sl false .i), .v (.int .i64)]
abbrev o288:Ts:=[.a q10, .v (.int .i64)]
abbrev F288:=FT i288 o288
abbrev g288:=mkG 288 i288 o288
noncomputable def m288 (c320:F320) (y:PTup i288):Option (PTup o288×BTup i288):=
  bif y.1.1 then ((c320 y.2).bind fun r0=>
   some (((y.1.1,r0.1),((bAnd Go.IntKind.i64 r0.1.1 (1:Int)),())),()))
  else some (((y.1.1,((Int.fdiv y.1.2.1 ((2:Int)^(Min.min (Int.toNat (1:Int)) (64:Nat)))),())),((bAnd Go.IntKind.i64 y.1.2.1 (1:Int)),())),())
theorem s288 (c320:F320) (y):TE [g320 c320] Tryz.f288 i288 o288 y=m288 c320 y:=by kernel_rfl
noncomputable def r288:F288:=m288 r320
theorem k288:KO (g288 r288):=fk (s288 r320) ⟨k320,⟨⟩⟩ (by kernel_rfl)
abbrev i279:Ts:=[.a q8, .v (.int .i64)]
abbrev o279:Ts:=[.a q8, .v (.int .i64)]
abbrev F279:=FT i279 o279
abbrev g279:=mkG 279 i279 o279
noncomputable def m279 (c287:F287) (c288:F288) (c286:F286) (c212:F212) (c289:F289) (y:PTup i279):Option (PTup o279×BTup i279):=
  let a0:=y.1;let a1:=a0.2;let a2:=a1.2;let a3:=a2.2;let a4:=a3.2;let a5:=a4.2;let a6:=a5.2;let a7:=a6.2;let a8:=a7.2;let a9:=a8.2;let a10:=a9.2;let a11:=a10.2;let a12:=a11.2;let a13:=a12.2;let a14:=a13.2;let a15:=a14.2;let a16:=a15.2;let a17:=a16.2;let a18:=a17.2;let a19:=a18.2;let a20:=a19.2;let a21:=a20.2;let a22:=a21.2;let a23:=a22.2;let a24:=a23.2;let a25:=a24.2;let a26:=a25.2;let a27:=a26.2;let a28:=a27.2;let a29:=a28.2;let a30:=a29.2;let a31:=a30.2;let a32:=a31.2.2;(c212 y.2).bind fun r0=>
  bif (eqI r0.1.1 2)then ((c286 ((a12.1,(a13.1,(a14.1,(a15.1,(a16.1,(a17.1,(a18.1,(a19.1,())))))))),r0.1.2)).bind fun r1=>
   bif (leN ((List.length a32.1)+(List.length (r1.1.2.1::[]))) (E.most .i))then (some (((a0.1,(a1.1,(a2.1,(a3.1,(a4.1,(a5.1,(a6.1,(a7.1,(a8.1,(a9.1,(a10.1,(a11.1,(r1.1.1.1,(r1.1.1.2.1,(r1.1.1.2.2.1,(r1.1.1.2.2.2.1,(r1.1.1.2.2.2.2.1,(r1.1.1.2.2.2.2.2.1,(r1.1.1.2.2.2.2.2.2.1,(r1.1.1.2.2.2.2.2.2.2.1,(a20.1,(a21.1,(a22.1,(a23.1,(a24.1,(a25.1,(a26.1,(a27.1,(a28.1,(a29.1,(a30.1,(a31.1,(a31.2.1,((a32.1++(r1.1.2.1::[])),())))))))))))))))))))))))))))))))))),r1.1.2),()))
   else none)
  else bif (eqI r0.1.1 3)then ((c287 ((a20.1,(a21.1,(a22.1,(a23.1,(a24.1,(a25.1,(a26.1,()))))))),r0.1.2)).bind fun r1=>
   bif (leN ((List.length a32.1)+(List.length (r1.1.2.1::[]))) (E.most .i))then (some (((a0.1,(a1.1,(a2.1,(a3.1,(a4.1,(a5.1,(a6.1,(a7.1,(a8.1,(a9.1,(a10.1,(a11.1,(a12.1,(a13.1,(a14.1,(a15.1,(a16.1,(a17.1,(a18.1,(a19.1,(r1.1.1.1,(r1.1.1.2.1,(r1.1.1.2.2.1,(r1.1.1.2.2.2.1,(r1.1.1.2.2.2.2.1,(r1.1.1.2.2.2.2.2.1,(r1.1.1.2.2.2.2.2.2.1,(a27.1,(a28.1,(a29.1,(a30.1,(a31.1,(a31.2.1,((a32.1++(r1.1.2.1::[])),())))))))))))))))))))))))))))))))))),r1.1.2),()))
   else none)
  else bif (eqI r0.1.1 4)then ((c288 ((a27.1,(a28.1,())),(a1.1,(a12.1,())))).bind fun r1=>
   bif (leN ((List.length a32.1)+(List.length (r1.1.2.1::[]))) (E.most .i))then (some (((a0.1,(a1.1,(a2.1,(a3.1,(a4.1,(a5.1,(a6.1,(a7.1,(a8.1,(a9.1,(a10.1,(a11.1,(a12.1,(a13.1,(a14.1,(a15.1,(a16.1,(a17.1,(a18.1,(a19.1,(a20.1,(a21.1,(a22.1,(a23.1,(a24.1,(a25.1,(a26.1,(r1.1.1.1,(r1.1.1.2.1,(a29.1,(a30.1,(a31.1,(a31.2.1,((a32.1++(r1.1.2.1::[])),())))))))))))))))))))))))))))))))))),r1.1.2),()))
   else none)
  else (c289 ((a0.1,()),((a2.1,(a3.1,())),y.2))).bind fun r1=>
  some ((a0,r1.1),())
theorem s279 (c287:F287) (c288:F288) (c286:F286) (c212:F212) (c289:F289) (y):TE [g287 c287,g288 c288,g286 c286,g212 c212,g289 c289] Tryz.f279 i279 o279 y=m279 c287 c288 c286 c212 c289 y:=by kernel_rfl
noncomputable def r279:F279:=m279 r287 r288 r286 r212 r289
theorem k279:KO (g279 r279):=fk (s279 r287 r288 r286 r212 r289) ⟨k287,k288,k286,k212,k289,⟨⟩⟩ (by kernel_rfl)
abbrev i241:Ts:=[.a q3, .v (.int .i64), .v (.int .i64)]
abbrev o241:Ts:=[.a q6]
abbrev F241:=FT i241 o241
abbrev g241:=mkG 241 i241 o241
noncomputable def m241 (c272:F272) (c153:F153) (c113:F113) (y:PTup i241):Option (PTup o241×BTup i241):=
  (c113 (y.1,())).bind fun r0=>
  (c153 (y.1,())).bind fun r1=>
  bif (!r1.1.1)then (some ((r0.1.1,()),()))
  else (c272 y.2.2).bind fun r2=>
  bif (eqI y.2.1 0)then (some (((r0.1.1.1,(r2.1.1,r0.1.1.2.2)),()),()))
  else bif (eqI y.2.1 1)then (some (((r0.1.1.1,(r0.1.1.2.1,(r2.1.1,r0.1.1.2.2.2))),()),()))
  else bif (eqI y.2.1 3)then (some (((r0.1.1.1,(r0.1.1.2.1,(r0.1.1.2.2.1,((Int.tmod r2.1.1 16),r0.1.1.2.2.2.2)))),()),()))
  else bif (eqI y.2.1 4)then (bif (leI 0 y.1.2.2.2.1)then (bif (ltI y.1.2.2.2.1 (lenI r0.1.1.2.2.2.2.2.2.1))then (some (((r0.1.1.1,(r0.1.1.2.1,(r0.1.1.2.2.1,((Int.tmod (wI (y.1.2.2.2.1+1)) (16:Int)),(r0.1.1.2.2.2.2.1,(r0.1.1.2.2.2.2.2.1,((List.set r0.1.1.2.2.2.2.2.2.1 (Int.toNat y.1.2.2.2.1) (Int.tmod r2.1.1 64)),r0.1.1.2.2.2.2.2.2.2))))))),()),()))
    else none)
   else none)
  else bif (eqI y.2.1 5)then (some (((r0.1.1.1,(r0.1.1.2.1,(r0.1.1.2.2.1,(r0.1.1.2.2.2.1,((Int.tmod r2.1.1 64),r0.1.1.2.2.2.2.2))))),()),()))
  else some ((r0.1.1,()),())
theorem s241 (c272:F272) (c153:F153) (c113:F113) (y):TE [g272 c272,g153 c153,g113 c113] Tryz.f241 i241 o241 y=m241 c272 c153 c113 y:=by kernel_rfl
noncomputable def r241:F241:=m241 r272 r153 r113
theorem k241:KO (g241 r241):=fk (s241 r272 r153 r113) ⟨k272,k153,k113,⟨⟩⟩ (by kernel_rfl)
abbrev i243:Ts:=[.a q4, .v (.int .i64), .v (.int .i64)]
abbrev o243:Ts:=[.a q4]
abbrev F243:=FT i243 o243
abbrev g243:=mkG 243 i243 o243
noncomputable def m243 (c154:F154) (c272:F272) (y:PTup i243):Option (PTup o243×BTup i243):=
  (c154 (y.1,())).bind fun r0=>
  bif (!r0.1.1)then (some ((y.1,()),()))
  else (c272 y.2.2).bind fun r1=>
  bif (eqI y.2.1 0)then (some (((y.1.1,(r1.1.1,y.1.2.2)),()),()))
  else bif (eqI y.2.1 1)then (some (((y.1.1,(y.1.2.1,(y.1.2.2.1,(y.1.2.2.2.1,((Int.tmod r1.1.1 32),y.1.2.2.2.2.2))))),()),()))
  else bif (eqI y.2.1 2)then (bif y.1.2.2.2.2.2.2.1 then (some (((y.1.1,(y.1.2.1,(y.1.2.2.1,(y.1.2.2.2.1,(y.1.2.2.2.2.1,((eqI (Int.tmod r1.1.1 2) (1:Int)),((eqI (Int.tmod r1.1.1 2) (1:Int)),()))))))),()),()))
   else some (((y.1.1,(y.1.2.1,(y.1.2.2.1,(y.1.2.2.2.1,(y.1.2.2.2.2.1,((eqI (Int.tmod r1.1.1 2) (1:Int)),(false,()))))))),()),()))
  else bif (eqI y.2.1 3)then (some (((y.1.1,(y.1.2.1,(y.1.2.2.1,(y.1.2.2.2.1,(y.1.2.2.2.2.1,(y.1.2.2.2.2.2.1,(false,()))))))),()),()))
  else some ((y.1,()),())
theorem s243 (c154:F154) (c272:F272) (y):TE [g154 c154,g272 c272] Tryz.f243 i243 o243 y=m243 c154 c272 y:=by kernel_rfl
noncomputable def r243:F243:=m243 r154 r272
theorem k243:KO (g243 r243):=fk (s243 r154 r272) ⟨k154,k272,⟨⟩⟩ (by kernel_rfl)
abbrev i290:Ts:=[.a q10, .v (.sl false .i), .v (.int .i64), .v (.int .i64)]
abbrev o290:Ts:=[.a q10]
abbrev F290:=FT i290 o290
abbrev g290:=mkG 290 i290 o290
noncomputable def m290 (c320:F320) (y:PTup i290):Option (PTup o290×BTup i290):=
  bif y.1.1 then ((c320 (y.2.1,(y.2.2.1,()))).bind fun r0=>
   some ((((eqI (bAnd Go.IntKind.i64 y.2.2.2.1 (1:Int)) (1:Int)),r0.1),()),()))
  else bif (eqI (bAnd Go.IntKind.i64 y.2.2.2.1 (1:Int)) (1:Int))then ((c320 (y.2.1,(y.2.2.1,()))).bind fun r0=>
   some ((((eqI (bAnd Go.IntKind.i64 y.2.2.2.1 (1:Int)) (1:Int)),r0.1),()),()))
  else some ((((eqI (bAnd Go.IntKind.i64 y.2.2.2.1 (1:Int)) (1:Int)),y.1.2),()),())
theorem s290 (c320:F320) (y):TE [g320 c320] Tryz.f290 i290 o290 y=m290 c320 y:=by kernel_rfl
noncomputable def r290:F290:=m290 r320
theorem k290:KO (g290 r290):=fk (s290 r320) ⟨k320,⟨⟩⟩ (by kernel_rfl)
abbrev i291:Ts:=[.a q0, .a q1, .v (.int .i64), .v (.int .i64)]
abbrev o291:Ts:=[.a q5]
abbrev R291:=Option (PTup o291×BTup i291)
abbrev F291:=PTup i291→R291
abbrev g291:=mkG 291 i291 o291
noncomputable def m291 (c272:F272) (c120:F120) (c212:F212) (c112:F112) (y:PTup i291):R291:=
  (c112 (y.2.1,())).bind fun r0=>let X0:R291:=(c272 y.2.2.2).bind fun r3=>bif (neI (lenI y.1.1) 0)then (some (((r0.1.1.1,((Int.tmod r3.1.1 (lenI y.1.1)),())),()),()))else none;(c120 (y.1,(y.2.1,()))).bind fun r1=>bif (!r1.1.1)then (some ((r0.1.1,()),()))else (c212 (y.2.2.1,())).bind fun r2=>bif (eqI r2.1.1 1)then ((c272 y.2.2.2).bind fun r3=>bif (leI 0 r2.1.2.1)then (bif (ltI r2.1.2.1 (lenI r0.1.1.1))then (some ((((List.set r0.1.1.1 (Int.toNat r2.1.2.1) r3.1.1),r0.1.1.2),()),()))else none)else none)else bif (eqI r2.1.1 5)then (bif (eqI r2.1.1 5)then X0 else some ((r0.1.1,()),()))else bif (eqI r2.1.1 6)then X0 else some ((r0.1.1,()),())
theorem s291 (c272:F272) (c120:F120) (c212:F212) (c112:F112) (y):TE [g272 c272,g120 c120,g212 c212,g112 c112] Tryz.f291 i291 o291 y=m291 c272 c120 c212 c112 y:=by kernel_rfl
noncomputable def r291:F291:=m291 r272 r120 r212 r112
theorem k291:KO (g291 r291):=fk (s291 r272 r120 r212 r112) ⟨k272,k120,k212,k112,⟨⟩⟩ (by kernel_rfl)
abbrev i280:Ts:=[.a q8, .v (.int .i64), .v (.int .i64)]
abbrev o280:Ts:=[.a q8]
abbrev F280:=FT i280 o280
abbrev g280:=mkG 280 i280 o280
noncomputable def m280 (c243:F243) (c290:F290) (c291:F291) (c241:F241) (c212:F212) (y:PTup i280):Option (PTup o280×BTup i280):=
  let a0:=y.1;let a1:=a0.2;let a2:=a1.2;let a3:=a2.2;let a4:=a3.2;let a5:=a4.2;let a6:=a5.2;let a7:=a6.2;let a8:=a7.2;let a9:=a8.2;let a10:=a9.2;let a11:=a10.2;let a12:=a11.2;let a13:=a12.2;let a14:=a13.2;let a15:=a14.2;let a16:=a15.2;let a17:=a16.2;let a18:=a17.2;let a19:=a18.2;let a20:=a19.2;let a21:=a20.2;let a22:=a21.2;let a23:=a22.2;let a24:=a23.2;let a25:=a24.2.2;(c212 (y.2.1,())).bind fun r0=>
  bif (eqI r0.1.1 2)then ((c241 ((a12.1,(a13.1,(a14.1,(a15.1,(a16.1,(a17.1,(a18.1,(a19.1,())))))))),(r0.1.2.1,y.2.2))).bind fun r1=>
   some (((a0.1,(a1.1,(a2.1,(a3.1,(a4.1,(a5.1,(a6.1,(a7.1,(a8.1,(a9.1,(a10.1,(a11.1,(r1.1.1.1,(r1.1.1.2.1,(r1.1.1.2.2.1,(r1.1.1.2.2.2.1,(r1.1.1.2.2.2.2.1,(r1.1.1.2.2.2.2.2.1,(r1.1.1.2.2.2.2.2.2.1,(r1.1.1.2.2.2.2.2.2.2.1,a20)))))))))))))))))))),()),()))
  else bif (eqI r0.1.1 3)then ((c243 ((a20.1,(a21.1,(a22.1,(a23.1,(a24.1,(a24.2.1,(a25.1,()))))))),(r0.1.2.1,y.2.2))).bind fun r1=>
   some (((a0.1,(a1.1,(a2.1,(a3.1,(a4.1,(a5.1,(a6.1,(a7.1,(a8.1,(a9.1,(a10.1,(a11.1,(a12.1,(a13.1,(a14.1,(a15.1,(a16.1,(a17.1,(a18.1,(a19.1,(r1.1.1.1,(r1.1.1.2.1,(r1.1.1.2.2.1,(r1.1.1.2.2.2.1,(r1.1.1.2.2.2.2.1,(r1.1.1.2.2.2.2.2.1,(r1.1.1.2.2.2.2.2.2.1,a25.2))))))))))))))))))))))))))),()),()))
  else bif (eqI r0.1.1 4)then ((c290 ((a25.2.1,(a25.2.2.1,())),(a1.1,(a12.1,y.2.2)))).bind fun r1=>
   some (((a0.1,(a1.1,(a2.1,(a3.1,(a4.1,(a5.1,(a6.1,(a7.1,(a8.1,(a9.1,(a10.1,(a11.1,(a12.1,(a13.1,(a14.1,(a15.1,(a16.1,(a17.1,(a18.1,(a19.1,(a20.1,(a21.1,(a22.1,(a23.1,(a24.1,(a24.2.1,(a25.1,(r1.1.1.1,(r1.1.1.2.1,a25.2.2.2))))))))))))))))))))))))))))),()),()))
  else (c291 ((a0.1,()),((a2.1,(a3.1,())),y.2))).bind fun r1=>
  some (((a0.1,(a1.1,(r1.1.1.1,(r1.1.1.2.1,a4)))),()),())
theorem s280 (c243:F243) (c290:F290) (c291:F291) (c241:F241) (c212:F212) (y):TE [g243 c243,g290 c290,g291 c291,g241 c241,g212 c212] Tryz.f280 i280 o280 y=m280 c243 c290 c291 c241 c212 y:=by kernel_rfl
noncomputable def r280:F280:=m280 r243 r290 r291 r241 r212
theorem k280:KO (g280 r280):=fk (s280 r243 r290 r291 r241 r212) ⟨k243,k290,k291,k241,k212,⟨⟩⟩ (by kernel_rfl)
abbrev i323:Ts:=[.v (.int .i64)]
abbrev o323:Ts:=[.v (.bool), .v (.bool)]
abbrev F323:=FT i323 o323
abbrev g323:=mkG 323 i323 o323
noncomputable def m323 (c272:F272) (y:PTup i323):Option (PTup o323×BTup i323):=
  (c272 y).bind fun r0=>
  (c272 y).bind fun r1=>
  some (((eqI r0.1.1 0),((ltI 127 r1.1.1),())),())
theorem s323 (c272:F272) (y):TE [g272 c272] Tryz.f323 i323 o323 y=m323 c272 y:=by kernel_rfl
noncomputable def r323:F323:=m323 r272
theorem k323:KO (g323 r323):=fk (s323 r272) ⟨k272,⟨⟩⟩ (by kernel_rfl)
abbrev i295:Ts:=[.a q2, .v (.int .i64)]
abbrev o295:Ts:=[.a q2]
abbrev F295:=FT i295 o295
abbrev g295:=mkG 295 i295 o295
noncomputable def m295 (c272:F272) (c323:F323) (y:PTup i295):Option (PTup o295×BTup i295):=
  (c272 y.2).bind fun r0=>
  (c323 y.2).bind fun r1=>
  some (((r0.1.1,(y.1.2.1,(y.1.2.2.1,(y.1.2.2.2.1,(r1.1.1,(r1.1.2.1,y.1.2.2.2.2.2.2)))))),()),())
theorem s295 (c272:F272) (c323:F323) (y):TE [g272 c272,g323 c323] Tryz.f295 i295 o295 y=m295 c272 c323 y:=by kernel_rfl
noncomputable def r295:F295:=m295 r272 r323
theorem k295:KO (g295 r295):=fk (s295 r272 r323) ⟨k272,k323,⟨⟩⟩ (by kernel_rfl)
abbrev i339:Ts:=[.v (.int .i64), .v (.int .i64), .v (.bool)]
abbrev o339:Ts:=[.v (.int .i64), .v (.bool)]
abbrev F339:=FT i339 o339
abbrev g339:=mkG 339 i339 o339
noncomputable def m339 (c272:F272) (c167:F167) (y:PTup i339):Option (PTup o339×BTup i339):=
  (c272 (y.1,())).bind fun r0=>
  (c272 (y.2.1,())).bind fun r1=>
  (c167 y.2.2).bind fun r2=>
  (c272 ((wI ((wI (r0.1.1+r1.1.1))+r2.1.1)),())).bind fun r3=>
  some ((r3.1.1,((ltI 255 (wI ((wI (r0.1.1+r1.1.1))+r2.1.1))),())),())
theorem s339 (c272:F272) (c167:F167) (y):TE [g272 c272,g167 c167] Tryz.f339 i339 o339 y=m339 c272 c167 y:=by kernel_rfl
noncomputable def r339:F339:=m339 r272 r167
theorem k339:KO (g339 r339):=fk (s339 r272 r167) ⟨k272,k167,⟨⟩⟩ (by kernel_rfl)
abbrev i321:Ts:=[.a q2, .v (.int .i64)]
abbrev o321:Ts:=[.a q2]
abbrev F321:=FT i321 o321
abbrev g321:=mkG 321 i321 o321
noncomputable def m321 (c339:F339) (c295:F295) (y:PTup i321):Option (PTup o321×BTup i321):=
  (c339 (y.1.1,(y.2.1,(y.1.2.2.2.2.2.2.1,())))).bind fun r0=>
  (c295 (y.1,(r0.1.1,()))).bind fun r1=>
  some (((r1.1.1.1,(r1.1.1.2.1,(r1.1.1.2.2.1,(r1.1.1.2.2.2.1,(r1.1.1.2.2.2.2.1,(r1.1.1.2.2.2.2.2.1,(r0.1.2.1,r1.1.1.2.2.2.2.2.2.2))))))),()),())
theorem s321 (c339:F339) (c295:F295) (y):TE [g339 c339,g295 c295] Tryz.f321 i321 o321 y=m321 c339 c295 y:=by kernel_rfl
noncomputable def r321:F321:=m321 r339 r295
theorem k321:KO (g321 r321):=fk (s321 r339 r295) ⟨k339,k295,⟨⟩⟩ (by kernel_rfl)
abbrev i322:Ts:=[.v (.int .i64), .v (.int .i64), .v (.bool)]
abbrev o322:Ts:=[.v (.int .i64), .v (.bool)]
abbrev F322:=FT i322 o322
abbrev g322:=mkG 322 i322 o322
noncomputable def m322 (c272:F272) (c167:F167) (y:PTup i322):Option (PTup o322×BTup i322):=
  (c272 (y.1,())).bind fun r0=>
  (c272 (y.2.1,())).bind fun r1=>
  (c167 y.2.2).bind fun r2=>
  (c272 ((wI ((wI ((wI (r0.1.1-r1.1.1))-1))+r2.1.1)),())).bind fun r3=>
  some ((r3.1.1,((leI 0 (wI ((wI ((wI (r0.1.1-r1.1.1))-1))+r2.1.1))),())),())
theorem s322 (c272:F272) (c167:F167) (y):TE [g272 c272,g167 c167] Tryz.f322 i322 o322 y=m322 c272 c167 y:=by kernel_rfl
noncomputable def r322:F322:=m322 r272 r167
theorem k322:KO (g322 r322):=fk (s322 r272 r167) ⟨k272,k167,⟨⟩⟩ (by kernel_rfl)
abbrev i324:Ts:=[.a q2, .v (.int .i64)]
abbrev o324:Ts:=[.a q2]
abbrev F324:=FT i324 o324
abbrev g324:=mkG 324 i324 o324
noncomputable def m324 (c272:F272) (c323:F323) (y:PTup i324):Option (PTup o324×BTup i324):=
  (c272 y.2).bind fun r0=>
  (c323 y.2).bind fun r1=>
  some (((y.1.1,(r0.1.1,(y.1.2.2.1,(y.1.2.2.2.1,(r1.1.1,(r1.1.2.1,y.1.2.2.2.2.2.2)))))),()),())
theorem s324 (c272:F272) (c323:F323) (y):TE [g272 c272,g323 c323] Tryz.f324 i324 o324 y=m324 c272 c323 y:=by kernel_rfl
noncomputable def r324:F324:=m324 r272 r323
theorem k324:KO (g324 r324):=fk (s324 r272 r323) ⟨k272,k323,⟨⟩⟩ (by kernel_rfl)
abbrev i292:Ts:=[.a q2, .a q9, .v (.int .i64)]
abbrev o292:Ts:=[.a q2, .v (.bool)]
abbrev R292:=Option (PTup o292×BTup i292)
abbrev F292:=PTup i292→R292
abbrev g292:=mkG 292 i292 o292
noncomputable def m292 (c272:F272) (c295:F295) (c324:F324) (c323:F323) (c322:F322) (c321:F321) (y:PTup i292):R292:=
  let X0:R292:=bif (eqI y.2.1.1 4)then ((c321 (y.1,y.2.1.2)).bind fun r0=>some ((r0.1.1,(true,())),()))else bif (eqI y.2.1.1 29)then ((c321 (y.1,y.2.2)).bind fun r0=>some ((r0.1.1,(true,())),()))else bif (eqI y.2.1.1 5)then ((c322 (y.1.1,(y.2.1.2.1,(y.1.2.2.2.2.2.2.1,())))).bind fun r0=>(c295 (y.1,(r0.1.1,()))).bind fun r1=>some (((r1.1.1.1,(r1.1.1.2.1,(r1.1.1.2.2.1,(r1.1.1.2.2.2.1,(r1.1.1.2.2.2.2.1,(r1.1.1.2.2.2.2.2.1,(r0.1.2.1,r1.1.1.2.2.2.2.2.2.2))))))),(true,())),()))else bif (eqI y.2.1.1 6)then ((c272 (y.1.1,())).bind fun r0=>(c272 y.2.1.2).bind fun r1=>(c295 (y.1,((bAnd Go.IntKind.i64 r0.1.1 r1.1.1),()))).bind fun r2=>some ((r2.1.1,(true,())),()))else bif (eqI y.2.1.1 7)then ((c272 (y.1.1,())).bind fun r0=>(c272 y.2.1.2).bind fun r1=>(c295 (y.1,((bOr Go.IntKind.i64 r0.1.1 r1.1.1),()))).bind fun r2=>some ((r2.1.1,(true,())),()))else bif (eqI y.2.1.1 8)then ((c272 (y.1.1,())).bind fun r0=>(c272 y.2.1.2).bind fun r1=>(c295 (y.1,((bXor Go.IntKind.i64 r0.1.1 r1.1.1),()))).bind fun r2=>some ((r2.1.1,(true,())),()))else bif (eqI y.2.1.1 9)then ((c272 (y.1.1,())).bind fun r0=>(c272 y.2.1.2).bind fun r1=>(c323 ((wI (r0.1.1-r1.1.1)),())).bind fun r2=>(c272 (y.1.1,())).bind fun r3=>(c272 y.2.1.2).bind fun r4=>some (((y.1.1,(y.1.2.1,(y.1.2.2.1,(y.1.2.2.2.1,(r2.1.1,(r2.1.2.1,((leI r4.1.1 r3.1.1),y.1.2.2.2.2.2.2.2))))))),(true,())),()))else bif (eqI y.2.1.1 10)then ((c324 (y.1,(y.1.1,()))).bind fun r0=>some ((r0.1.1,(true,())),()))else bif (eqI y.2.1.1 11)then ((c295 (y.1,(y.1.2.1,()))).bind fun r0=>some ((r0.1.1,(true,())),()))else bif (eqI y.2.1.1 12)then ((c272 (y.1.2.1,())).bind fun r0=>(c324 (y.1,((wI (r0.1.1+1)),()))).bind fun r1=>some ((r1.1.1,(true,())),()))else bif (eqI y.2.1.1 13)then ((c272 (y.1.2.1,())).bind fun r0=>(c324 (y.1,((wI (r0.1.1-1)),()))).bind fun r1=>some ((r1.1.1,(true,())),()))else some ((y.1,(false,())),());bif (eqI y.2.1.1 1)then ((c295 (y.1,y.2.1.2)).bind fun r0=>some ((r0.1.1,(true,())),()))else bif (eqI y.2.1.1 2)then (bif (eqI y.2.1.1 2)then ((c295 (y.1,y.2.2)).bind fun r0=>some ((r0.1.1,(true,())),()))else X0)else bif (eqI y.2.1.1 14)then ((c295 (y.1,y.2.2)).bind fun r0=>some ((r0.1.1,(true,())),()))else X0
theorem s292 (c272:F272) (c295:F295) (c324:F324) (c323:F323) (c322:F322) (c321:F321) (y):TE [g272 c272,g295 c295,g324 c324,g323 c323,g322 c322,g321 c321] Tryz.f292 i292 o292 y=m292 c272 c295 c324 c323 c322 c321 y:=by kernel_rfl
noncomputable def r292:F292:=m292 r272 r295 r324 r323 r322 r321
theorem k292:KO (g292 r292):=fk (s292 r272 r295 r324 r323 r322 r321) ⟨k272,k295,k324,k323,k322,k321,⟨⟩⟩ (by kernel_rfl)
abbrev i294:Ts:=[.a q1, .a q2]
abbrev o294:Ts:=[.a q2, .v (.int .i64)]
abbrev F294:=FT i294 o294
abbrev g294:=mkG 294 i294 o294
noncomputable def m294 (c272:F272) (y:PTup i294):Option (PTup o294×BTup i294):=
  bif (neI (lenI y.1.1) 512)then (some ((y.2.1,((0:Int),())),()))
  else (c272 ((wI (y.2.1.2.2.1+1)),())).bind fun r0=>
  bif (leI 0 (wI ((256:Int)+r0.1.1)))then (bif (ltI (wI ((256:Int)+r0.1.1)) (lenI y.1.1))then ((c272 ((rdE .i y.1.1 (wI ((256:Int)+r0.1.1))),())).bind fun r1=>
    some (((y.2.1.1,(y.2.1.2.1,(r0.1.1,y.2.1.2.2.2))),r1.1),()))
   else none)
  else none
theorem s294 (c272:F272) (y):TE [g272 c272] Tryz.f294 i294 o294 y=m294 c272 y:=by kernel_rfl
noncomputable def r294:F294:=m294 r272
theorem k294:KO (g294 r294):=fk (s294 r272) ⟨k272,⟨⟩⟩ (by kernel_rfl)
abbrev i293:Ts:=[.a q1, .a q2]
abbrev o293:Ts:=[.a q2]
abbrev F293:=FT i293 o293
abbrev g293:=mkG 293 i293 o293
noncomputable def m293 (c269:F269) (c294:F294) (y:PTup i293):Option (PTup o293×BTup i293):=
  (c294 (y.1,(y.2.1,()))).bind fun r0=>
  (c294 (y.1,(r0.1.1,()))).bind fun r1=>
  (c269 (r0.1.2.1,r1.1.2)).bind fun r2=>
  some (((r1.1.1.1,(r1.1.1.2.1,(r1.1.1.2.2.1,(r2.1.1,r1.1.1.2.2.2.2)))),()),())
theorem s293 (c269:F269) (c294:F294) (y):TE [g269 c269,g294 c294] Tryz.f293 i293 o293 y=m293 c269 c294 y:=by kernel_rfl
noncomputable def r293:F293:=m293 r269 r294
theorem k293:KO (g293 r293):=fk (s293 r269 r294) ⟨k269,k294,⟨⟩⟩ (by kernel_rfl)
abbrev i296:Ts:=[.a q2, .v (.int .i64)]
abbrev o296:Ts:=[.a q2]
abbrev F296:=FT i296 o296
abbrev g296:=mkG 296 i296 o296
noncomputable def m296 (y:PTup i296):Option (PTup o296×BTup i296):=
  some (((y.1.1,(y.1.2.1,(y.1.2.2.1,(y.1.2.2.2.1,((neI (bAnd Go.IntKind.i64 y.2.1 (2:Int)) (0:Int)),((neI (bAnd Go.IntKind.i64 y.2.1 (128:Int)) (0:Int)),((neI (bAnd Go.IntKind.i64 y.2.1 (1:Int)) (0:Int)),((neI (bAnd Go.IntKind.i64 y.2.1 (4:Int)) (0:Int)),())))))))),()),())
theorem s296 (y):TE [] Tryz.f296 i296 o296 y=m296 y:=by kernel_rfl
noncomputable def r296:F296:=m296
theorem k296:KO (g296 r296):=fk (s296) trivial (by kernel_rfl)
abbrev i237:Ts:=[.a q1, .a q2, .a q9, .v (.int .i64)]
abbrev o237:Ts:=[.a q5, .a q2]
abbrev R237:=Option (PTup o237×BTup i237)
abbrev F237:=PTup i237→R237
abbrev g237:=mkG 237 i237 o237
noncomputable def m237 (c271:F271) (c268:F268) (c294:F294) (c285:F285) (c295:F295) (c296:F296) (c112:F112) (c292:F292) (c293:F293) (y:PTup i237):R237:=
  let a0:=y.2;let a1:=a0.1;let a2:=a0.2;let a3:=a1.1;let a4:=a1.2;let a5:=a2.1;let a6:=a4.1;let a7:=a4.2;let a8:=a5.1;let a9:=a7.1;let a10:=a7.2;let a11:=a10.2;let a12:=a11.2;(c112 (y.1,())).bind fun r0=>let X0:R237:=(c271 a5.2).bind fun r4=>some ((r0.1.1,((a3,(a6,(a9,(r4.1.1,a11)))),())),());(c268 (a8,())).bind fun r1=>(c271 ((wI (a10.1+r1.1.1)),())).bind fun r2=>let X1:R237:=bif (eqI a8 20)then ((c285 (r0.1.1,((a3,(a6,(a9,(r2.1.1,a11)))),((Int.fdiv r2.1.1 ((2:Int)^(Min.min (Int.toNat (8:Int)) (64:Nat)))),())))).bind fun r4=>(c285 (r4.1.1,(r4.1.2.1,(r4.1.2.1.2.2.2.1,())))).bind fun r5=>(c271 a5.2).bind fun r6=>some ((r5.1.1,((r5.1.2.1.1,(r5.1.2.1.2.1,(r5.1.2.1.2.2.1,(r6.1.1,r5.1.2.1.2.2.2.2)))),())),()))else bif (eqI a8 21)then ((c293 (y.1,((a3,(a6,(a9,(r2.1.1,a11)))),()))).bind fun r4=>some ((r0.1.1,(r4.1.1,())),()))else bif (eqI a8 22)then ((c285 (r0.1.1,((a3,(a6,(a9,(r2.1.1,a11)))),(a3,())))).bind fun r4=>some ((r4.1.1,(r4.1.2.1,())),()))else bif (eqI a8 23)then ((c294 (y.1,((a3,(a6,(a9,(r2.1.1,a11)))),()))).bind fun r4=>(c295 r4.1).bind fun r5=>some ((r0.1.1,(r5.1.1,())),()))else bif (eqI a8 24)then ((c294 (y.1,((a3,(a6,(a9,(r2.1.1,a11)))),()))).bind fun r4=>(c296 r4.1).bind fun r5=>(c293 (y.1,(r5.1.1,()))).bind fun r6=>some ((r0.1.1,(r6.1.1,())),()))else bif (eqI a8 25)then (bif (eqI a8 25)then (some ((r0.1.1,((a3,(a6,(a9,(r2.1.1,(a11.1,(a12.1,(a12.2.1,((eqI a8 25),())))))))),())),()))else bif (eqI a8 27)then (bif (eqI a8 27)then (some ((r0.1.1,((a3,(a6,(a9,(r2.1.1,(a11.1,(a12.1,((eqI a8 27),a12.2.2))))))),())),()))else some ((r0.1.1,((a3,(a6,(a9,(r2.1.1,a11)))),())),()))else bif (eqI a8 28)then (some ((r0.1.1,((a3,(a6,(a9,(r2.1.1,(a11.1,(a12.1,((eqI a8 27),a12.2.2))))))),())),()))else some ((r0.1.1,((a3,(a6,(a9,(r2.1.1,a11)))),())),()))else bif (eqI a8 26)then (some ((r0.1.1,((a3,(a6,(a9,(r2.1.1,(a11.1,(a12.1,(a12.2.1,((eqI a8 25),())))))))),())),()))else bif (eqI a8 27)then (bif (eqI a8 27)then (some ((r0.1.1,((a3,(a6,(a9,(r2.1.1,(a11.1,(a12.1,((eqI a8 27),a12.2.2))))))),())),()))else some ((r0.1.1,((a3,(a6,(a9,(r2.1.1,a11)))),())),()))else bif (eqI a8 28)then (some ((r0.1.1,((a3,(a6,(a9,(r2.1.1,(a11.1,(a12.1,((eqI a8 27),a12.2.2))))))),())),()))else some ((r0.1.1,((a3,(a6,(a9,(r2.1.1,a11)))),())),());let X2:R237:=bif (eqI a8 17)then (bif a11.1 then X0 else bif (eqI a8 18)then (bif a12.2.1 then X0 else bif (eqI a8 19)then X0 else some ((r0.1.1,((a3,(a6,(a9,(r2.1.1,a11)))),())),()))else bif (eqI a8 19)then X0 else some ((r0.1.1,((a3,(a6,(a9,(r2.1.1,a11)))),())),()))else bif (eqI a8 18)then (bif a12.2.1 then X0 else bif (eqI a8 19)then X0 else some ((r0.1.1,((a3,(a6,(a9,(r2.1.1,a11)))),())),()))else bif (eqI a8 19)then X0 else some ((r0.1.1,((a3,(a6,(a9,(r2.1.1,a11)))),())),());let X3:R237:=bif (eqI a8 16)then (bif (!a11.1)then X0 else X2)else X2;(c292 ((a3,(a6,(a9,(r2.1.1,a11)))),a2)).bind fun r3=>bif r3.1.2.1 then (some ((r0.1.1,(r3.1.1,())),()))else bif (eqI a8 16)then (bif (eqI a8 16)then X3 else X1)else bif (eqI a8 17)then (bif (eqI a8 17)then X3 else X1)else bif (eqI a8 18)then (bif (eqI a8 18)then X3 else X1)else bif (eqI a8 19)then X3 else X1
theorem s237 (c271:F271) (c268:F268) (c294:F294) (c285:F285) (c295:F295) (c296:F296) (c112:F112) (c292:F292) (c293:F293) (y):TE [g271 c271,g268 c268,g294 c294,g285 c285,g295 c295,g296 c296,g112 c112,g292 c292,g293 c293] Tryz.f237 i237 o237 y=m237 c271 c268 c294 c285 c295 c296 c112 c292 c293 y:=by kernel_rfl
noncomputable def r237:F237:=m237 r271 r268 r294 r285 r295 r296 r112 r292 r293
theorem k237:KO (g237 r237):=fk (s237 r271 r268 r294 r285 r295 r296 r112 r292 r293) ⟨k271,k268,k294,k285,k295,k296,k112,k292,k293,⟨⟩⟩ (by kernel_rfl)
abbrev i213:Ts:=[.v (.int .i64)]
abbrev o213:Ts:=[.v (.int .i64)]
abbrev F213:=FT i213 o213
abbrev g213:=mkG 213 i213 o213
noncomputable def m213 (c125:F125) (y:PTup i213):Option (PTup o213×BTup i213):=
  (c125 (y.1,((0:Int),((29:Int),())))).bind fun r0=>
  bif (!r0.1.1)then (some (((2:Int),()),()))
  else bif (leI 0 y.1)then (bif (ltI y.1 (lenI ((2:Int)::((2:Int)::((4:Int)::((4:Int)::((2:Int)::((2:Int)::((2:Int)::((2:Int)::((2:Int)::((2:Int)::((2:Int)::((2:Int)::((2:Int)::((2:Int)::((4:Int)::((5:Int)::((3:Int)::((3:Int)::((3:Int)::((3:Int)::((6:Int)::((6:Int)::((3:Int)::((4:Int)::((6:Int)::((2:Int)::((2:Int)::((2:Int)::((2:Int)::((4:Int)::[]))))))))))))))))))))))))))))))))then (some (((rdE .i ((2:Int)::((2:Int)::((4:Int)::((4:Int)::((2:Int)::((2:Int)::((2:Int)::((2:Int)::((2:Int)::((2:Int)::((2:Int)::((2:Int)::((2:Int)::((2:Int)::((4:Int)::((5:Int)::((3:Int)::((3:Int)::((3:Int)::((3:Int)::((6:Int)::((6:Int)::((3:Int)::((4:Int)::((6:Int)::((2:Int)::((2:Int)::((2:Int)::((2:Int)::((4:Int)::[])))))))))))))))))))))))))))))) y.1),()),()))
   else none)
  else none
theorem s213 (c125:F125) (y):TE [g125 c125] Tryz.f213 i213 o213 y=m213 c125 y:=by kernel_rfl
noncomputable def r213:F213:=m213 r125
theorem k213:KO (g213 r213):=fk (s213 r125) ⟨k125,⟨⟩⟩ (by kernel_rfl)
abbrev i219:Ts:=[.a q8]
abbrev o219:Ts:=[.a q8, .v (.int .i64)]
abbrev R219:=Option (PTup o219×BTup i219)
abbrev F219:=PTup i219→R219
abbrev g219:=mkG 219 i219 o219
noncomputable def m219 (c211:F211) (c233:F233) (c237:F237) (c210:F210) (c213:F213) (c279:F279) (c280:F280) (y:PTup i219):R219:=
  let a0:=y.1;let a1:=a0.2;let a2:=a1.2;let a3:=a2.2;let a4:=a3.2;let a5:=a4.2;let a6:=a5.2;let a7:=a6.2;let a8:=a7.2;let a9:=a8.2;let a10:=a9.2;let a11:=a10.2;let a12:=a11.2;let a13:=a12.2;let a14:=a13.2;let a15:=a14.2;let a16:=a15.2;let a17:=a16.2;let a18:=a17.2;let a19:=a18.2;let a20:=a19.2;let a21:=a20.2;let a22:=a21.2;let a23:=a22.2.2;let a24:=a23.2.2;let X0:R219:=(c210 ((a0.1,()),((a2.1,(a3.1,())),(a7.1,())))).bind fun r0=>(c211 (r0.1.1,((a4.1,(a5.1,(a6.1,(a7.1,(a8.1,(a9.1,(a10.1,(a11.1,())))))))),()))).bind fun r1=>bif (eqI r1.1.1 1)then ((c279 (a0,(r1.1.2.1,()))).bind fun r2=>(c237 ((r2.1.1.2.2.1,(r2.1.1.2.2.2.1,())),((r2.1.1.2.2.2.2.1,(r2.1.1.2.2.2.2.2.1,(r2.1.1.2.2.2.2.2.2.1,(r2.1.1.2.2.2.2.2.2.2.1,(r2.1.1.2.2.2.2.2.2.2.2.1,(r2.1.1.2.2.2.2.2.2.2.2.2.1,(r2.1.1.2.2.2.2.2.2.2.2.2.2.1,(r2.1.1.2.2.2.2.2.2.2.2.2.2.2.1,())))))))),(r0.1.1,r2.1.2)))).bind fun r3=>(c213 (r0.1.1.1,())).bind fun r4=>some (((r2.1.1.1,(r2.1.1.2.1,(r3.1.1.1,(r3.1.1.2.1,(r3.1.2.1.1,(r3.1.2.1.2.1,(r3.1.2.1.2.2.1,(r3.1.2.1.2.2.2.1,(r3.1.2.1.2.2.2.2.1,(r3.1.2.1.2.2.2.2.2.1,(r3.1.2.1.2.2.2.2.2.2.1,(r3.1.2.1.2.2.2.2.2.2.2.1,r2.1.1.2.2.2.2.2.2.2.2.2.2.2.2)))))))))))),r4.1),()))else bif (eqI r1.1.1 2)then ((c280 (a0,r1.1.2)).bind fun r2=>(c237 ((r2.1.1.2.2.1,(r2.1.1.2.2.2.1,())),((r2.1.1.2.2.2.2.1,(r2.1.1.2.2.2.2.2.1,(r2.1.1.2.2.2.2.2.2.1,(r2.1.1.2.2.2.2.2.2.2.1,(r2.1.1.2.2.2.2.2.2.2.2.1,(r2.1.1.2.2.2.2.2.2.2.2.2.1,(r2.1.1.2.2.2.2.2.2.2.2.2.2.1,(r2.1.1.2.2.2.2.2.2.2.2.2.2.2.1,())))))))),(r0.1.1,((0:Int),()))))).bind fun r3=>(c213 (r0.1.1.1,())).bind fun r4=>some (((r2.1.1.1,(r2.1.1.2.1,(r3.1.1.1,(r3.1.1.2.1,(r3.1.2.1.1,(r3.1.2.1.2.1,(r3.1.2.1.2.2.1,(r3.1.2.1.2.2.2.1,(r3.1.2.1.2.2.2.2.1,(r3.1.2.1.2.2.2.2.2.1,(r3.1.2.1.2.2.2.2.2.2.1,(r3.1.2.1.2.2.2.2.2.2.2.1,r2.1.1.2.2.2.2.2.2.2.2.2.2.2.2)))))))))))),r4.1),()))else (c237 ((a2.1,(a3.1,())),((a4.1,(a5.1,(a6.1,(a7.1,(a8.1,(a9.1,(a10.1,(a11.1,())))))))),(r0.1.1,((0:Int),()))))).bind fun r2=>(c213 (r0.1.1.1,())).bind fun r3=>some (((a0.1,(a1.1,(r2.1.1.1,(r2.1.1.2.1,(r2.1.2.1.1,(r2.1.2.1.2.1,(r2.1.2.1.2.2.1,(r2.1.2.1.2.2.2.1,(r2.1.2.1.2.2.2.2.1,(r2.1.2.1.2.2.2.2.2.1,(r2.1.2.1.2.2.2.2.2.2.1,(r2.1.2.1.2.2.2.2.2.2.2.1,a12)))))))))))),r3.1),());bif a24.2.2.2.1 then ((c233 ((a0.1,()),((a2.1,(a3.1,())),((a4.1,(a5.1,(a6.1,(a7.1,(a8.1,(a9.1,(a10.1,(a11.1,())))))))),((65530:Int),()))))).bind fun r0=>some (((a0.1,(a1.1,(r0.1.1.1,(r0.1.1.2.1,(r0.1.2.1.1,(r0.1.2.1.2.1,(r0.1.2.1.2.2.1,(r0.1.2.1.2.2.2.1,(r0.1.2.1.2.2.2.2.1,(r0.1.2.1.2.2.2.2.2.1,(r0.1.2.1.2.2.2.2.2.2.1,(r0.1.2.1.2.2.2.2.2.2.2.1,(a12.1,(a13.1,(a14.1,(a15.1,(a16.1,(a17.1,(a18.1,(a19.1,(a20.1,(a21.1,(a22.1,(a22.2.1,(a23.1,(a23.2.1,(a24.1,(a24.2.1,(a24.2.2.1,(false,a24.2.2.2.2)))))))))))))))))))))))))))))),((7:Int),())),()))else bif a24.1 then (bif (!a11.1)then ((c233 ((a0.1,()),((a2.1,(a3.1,())),((a4.1,(a5.1,(a6.1,(a7.1,(a8.1,(a9.1,(a10.1,(a11.1,())))))))),((65534:Int),()))))).bind fun r0=>some (((a0.1,(a1.1,(r0.1.1.1,(r0.1.1.2.1,(r0.1.2.1.1,(r0.1.2.1.2.1,(r0.1.2.1.2.2.1,(r0.1.2.1.2.2.2.1,(r0.1.2.1.2.2.2.2.1,(r0.1.2.1.2.2.2.2.2.1,(r0.1.2.1.2.2.2.2.2.2.1,(r0.1.2.1.2.2.2.2.2.2.2.1,a12)))))))))))),((7:Int),())),()))else X0)else X0
theorem s219 (c211:F211) (c233:F233) (c237:F237) (c210:F210) (c213:F213) (c279:F279) (c280:F280) (y):TE [g211 c211,g233 c233,g237 c237,g210 c210,g213 c213,g279 c279,g280 c280] Tryz.f219 i219 o219 y=m219 c211 c233 c237 c210 c213 c279 c280 y:=by kernel_rfl
noncomputable def r219:F219:=m219 r211 r233 r237 r210 r213 r279 r280
theorem k219:KO (g219 r219):=fk (s219 r211 r233 r237 r210 r213 r279 r280) ⟨k211,k233,k237,k210,k213,k279,k280,⟨⟩⟩ (by kernel_rfl)
abbrev i300:Ts:=[.a q3, .v (.int .i64)]
abbrev o300:Ts:=[.v (.int .i64)]
abbrev F300:=FT i300 o300
abbrev g300:=mkG 300 i300 o300
noncomputable def m300 (y:PTup i300):Option (PTup o300×BTup i300):=
  bif (leI 0 (Int.tmod (wI ((wI ((Int.tmod y.2.1 8)+y.1.2.2.1))+(wI (Int.tdiv y.2.1 8)))) (16:Int)))then (bif (ltI (Int.tmod (wI ((wI ((Int.tmod y.2.1 8)+y.1.2.2.1))+(wI (Int.tdiv y.2.1 8)))) (16:Int)) (lenI y.1.2.2.2.2.2.2.1))then (some (((bXor Go.IntKind.i64 (rdE .i y.1.2.2.2.2.2.2.1 (Int.tmod (wI ((wI ((Int.tmod y.2.1 8)+y.1.2.2.1))+(wI (Int.tdiv y.2.1 8)))) (16:Int))) y.1.2.2.2.2.1),()),()))
   else none)
  else none
theorem s300 (y):TE [] Tryz.f300 i300 o300 y=m300 y:=by kernel_rfl
noncomputable def r300:F300:=m300
theorem k300:KO (g300 r300):=fk (s300) trivial (by kernel_rfl)
abbrev i242:Ts:=[.a q3]
abbrev o242:Ts:=[.a q6, .v (.sl true .i), .v (.bool)]
abbrev F242:=FT i242 o242
abbrev g242:=mkG 242 i242 o242
noncomputable def m242 (c113:F113) (c300:F300) (y:PTup i242):Option (PTup o242×BTup i242):=
  (c113 (y.1,())).bind fun r0=>
  bif (eqI y.1.1 20000)then (some ((r0.1.1,([],(false,()))),()))
  else bif (ltI (Int.tmod y.1.1 64) (48:Int))then ((c300 (y.1,((Int.tmod y.1.1 64),()))).bind fun r1=>
   bif (leN ((List.length r0.1.1.2.2.2.2.2.2.2.1)+(List.length (r1.1.1::[]))) (E.most .i))then (some ((((wI (y.1.1+1)),(r0.1.1.2.1,(r0.1.1.2.2.1,(r0.1.1.2.2.2.1,(r0.1.1.2.2.2.2.1,(r0.1.1.2.2.2.2.2.1,(r0.1.1.2.2.2.2.2.2.1,((r0.1.1.2.2.2.2.2.2.2.1++(r1.1.1::[])),())))))))),([],(false,()))),()))
   else none)
  else bif (eqI (Int.tmod y.1.1 64) (48:Int))then (bif (leN (0+(List.length y.1.2.2.2.2.2.2.2.1)) (E.most .i))then (some ((((wI (y.1.1+1)),(r0.1.1.2.1,(r0.1.1.2.2.1,(r0.1.1.2.2.2.1,(r0.1.1.2.2.2.2.1,(true,(r0.1.1.2.2.2.2.2.2.1,([],())))))))),(([]++y.1.2.2.2.2.2.2.2.1),((ltI 127 y.1.2.1),()))),()))
   else none)
  else bif (eqI (Int.tmod y.1.1 64) (63:Int))then (some ((((wI (y.1.1+1)),(r0.1.1.2.1,(r0.1.1.2.2.1,(r0.1.1.2.2.2.1,(r0.1.1.2.2.2.2.1,(false,r0.1.1.2.2.2.2.2.2)))))),([],(false,()))),()))
  else some ((((wI (y.1.1+1)),r0.1.1.2),([],(false,()))),())
theorem s242 (c113:F113) (c300:F300) (y):TE [g113 c113,g300 c300] Tryz.f242 i242 o242 y=m242 c113 c300 y:=by kernel_rfl
noncomputable def r242:F242:=m242 r113 r300
theorem k242:KO (g242 r242):=fk (s242 r113 r300) ⟨k113,k300,⟨⟩⟩ (by kernel_rfl)
abbrev i244:Ts:=[.a q4]
abbrev o244:Ts:=[.a q4, .v (.int .i64), .v (.bool)]
abbrev R244:=Option (PTup o244×BTup i244)
abbrev F244:=PTup i244→R244
abbrev g244:=mkG 244 i244 o244
noncomputable def m244 (y:PTup i244):R244:=
  let a0:=y.1;let a1:=a0.1;let a2:=a0.2;let a3:=a2.1;let a4:=a2.2;let a5:=a4.1;let a6:=a4.2;let a7:=a6.1;let a8:=a6.2;let a9:=a8.1;let a10:=a8.2;let a11:=a10.1;let X0:R244:=bif (eqI (Int.tmod a1 16) (15:Int))then (bif (ltI 0 a9)then (some ((((wI (a1+1)),(a3,(a3,((wI ((1:Int)-a7)),a8)))),((wI ((8:Int)*(wI ((1:Int)-a7)))),((eqI (Int.tmod a1 16) (15:Int)),()))),()))else some ((((wI (a1+1)),(a3,(a3,((wI ((1:Int)-a7)),a8)))),((0:Int),((eqI (Int.tmod a1 16) (15:Int)),()))),()))else some ((((wI (a1+1)),(a3,(a3,((wI ((1:Int)-a7)),a8)))),((0:Int),((eqI (Int.tmod a1 16) (15:Int)),()))),());let X1:R244:=bif (eqI (Int.tmod a1 16) (15:Int))then (bif (ltI 0 a9)then (some ((((wI (a1+1)),(a3,((wI (a5-1)),a6))),((wI ((8:Int)*a7)),((eqI (Int.tmod a1 16) (15:Int)),()))),()))else some ((((wI (a1+1)),(a3,((wI (a5-1)),a6))),((0:Int),((eqI (Int.tmod a1 16) (15:Int)),()))),()))else some ((((wI (a1+1)),(a3,((wI (a5-1)),a6))),((0:Int),((eqI (Int.tmod a1 16) (15:Int)),()))),());let X2:R244:=bif (eqI (Int.tmod a1 16) (15:Int))then (bif (ltI 0 a9)then (some ((((wI (a1+1)),(a3,(a3,a6))),((wI ((8:Int)*a7)),((eqI (Int.tmod a1 16) (15:Int)),()))),()))else some ((((wI (a1+1)),(a3,(a3,a6))),((0:Int),((eqI (Int.tmod a1 16) (15:Int)),()))),()))else some ((((wI (a1+1)),(a3,(a3,a6))),((0:Int),((eqI (Int.tmod a1 16) (15:Int)),()))),());let X3:R244:=some ((((wI (a1+1)),(a3,((wI (a5-1)),(a7,((wI (a9-1)),(a11,(a11,()))))))),((0:Int),((eqI (Int.tmod a1 16) (15:Int)),()))),());let X4:R244:=some ((((wI (a1+1)),(a3,(a3,((wI ((1:Int)-a7)),((wI (a9-1)),(a11,(a11,()))))))),((0:Int),((eqI (Int.tmod a1 16) (15:Int)),()))),());let X5:R244:=some ((((wI (a1+1)),(a3,((wI (a5-1)),(a7,((wI (a9-1)),(a11,(false,()))))))),((0:Int),((eqI (Int.tmod a1 16) (15:Int)),()))),());let X6:R244:=some ((((wI (a1+1)),(a3,((wI (a5-1)),(a7,((wI (a9-1)),(a11,(true,()))))))),((0:Int),((eqI (Int.tmod a1 16) (15:Int)),()))),());let X7:R244:=some ((((wI (a1+1)),(a3,(a3,((wI ((1:Int)-a7)),((wI (a9-1)),(a11,(false,()))))))),((0:Int),((eqI (Int.tmod a1 16) (15:Int)),()))),());let X8:R244:=some ((((wI (a1+1)),(a3,(a3,((wI ((1:Int)-a7)),((wI (a9-1)),(a11,(true,()))))))),((0:Int),((eqI (Int.tmod a1 16) (15:Int)),()))),());let X9:R244:=some ((((wI (a1+1)),(a3,(a3,(a7,((wI (a9-1)),(a11,(a11,()))))))),((0:Int),((eqI (Int.tmod a1 16) (15:Int)),()))),());let X10:R244:=some ((((wI (a1+1)),(a3,(a3,(a7,((wI (a9-1)),(a11,(false,()))))))),((0:Int),((eqI (Int.tmod a1 16) (15:Int)),()))),());let X11:R244:=some ((((wI (a1+1)),(a3,(a3,(a7,((wI (a9-1)),(a11,(true,()))))))),((0:Int),((eqI (Int.tmod a1 16) (15:Int)),()))),());bif (eqI a1 20000)then (some ((a0,((0:Int),(false,()))),()))else bif (eqI a5 0)then (bif (ltI 0 a9)then (bif (eqI (Int.tmod a1 32) (0:Int))then (bif (ltI 0 a9)then (bif a10.2.1 then (bif (eqI (Int.tmod a1 16) (15:Int))then (bif (ltI 0 (wI (a9-1)))then (some ((((wI (a1+1)),(a3,(a3,((wI ((1:Int)-a7)),((wI (a9-1)),(a11,(true,()))))))),((wI ((8:Int)*(wI ((1:Int)-a7)))),((eqI (Int.tmod a1 16) (15:Int)),()))),()))else X8)else X8)else bif (eqI (wI (a9-1)) (0:Int))then (bif (eqI (Int.tmod a1 16) (15:Int))then (bif (ltI 0 (wI (a9-1)))then (some ((((wI (a1+1)),(a3,(a3,((wI ((1:Int)-a7)),((wI (a9-1)),(a11,(a11,()))))))),((wI ((8:Int)*(wI ((1:Int)-a7)))),((eqI (Int.tmod a1 16) (15:Int)),()))),()))else X4)else X4)else bif (eqI (Int.tmod a1 16) (15:Int))then (bif (ltI 0 (wI (a9-1)))then (some ((((wI (a1+1)),(a3,(a3,((wI ((1:Int)-a7)),((wI (a9-1)),(a11,(false,()))))))),((wI ((8:Int)*(wI ((1:Int)-a7)))),((eqI (Int.tmod a1 16) (15:Int)),()))),()))else X7)else X7)else X0)else X0)else bif (eqI (Int.tmod a1 32) (0:Int))then (bif (ltI 0 a9)then (bif a10.2.1 then (bif (eqI (Int.tmod a1 16) (15:Int))then (bif (ltI 0 (wI (a9-1)))then (some ((((wI (a1+1)),(a3,(a3,(a7,((wI (a9-1)),(a11,(true,()))))))),((wI ((8:Int)*a7)),((eqI (Int.tmod a1 16) (15:Int)),()))),()))else X11)else X11)else bif (eqI (wI (a9-1)) (0:Int))then (bif (eqI (Int.tmod a1 16) (15:Int))then (bif (ltI 0 (wI (a9-1)))then (some ((((wI (a1+1)),(a3,(a3,(a7,((wI (a9-1)),(a11,(a11,()))))))),((wI ((8:Int)*a7)),((eqI (Int.tmod a1 16) (15:Int)),()))),()))else X9)else X9)else bif (eqI (Int.tmod a1 16) (15:Int))then (bif (ltI 0 (wI (a9-1)))then (some ((((wI (a1+1)),(a3,(a3,(a7,((wI (a9-1)),(a11,(false,()))))))),((wI ((8:Int)*a7)),((eqI (Int.tmod a1 16) (15:Int)),()))),()))else X10)else X10)else X2)else X2)else bif (eqI (Int.tmod a1 32) (0:Int))then (bif (ltI 0 a9)then (bif a10.2.1 then (bif (eqI (Int.tmod a1 16) (15:Int))then (bif (ltI 0 (wI (a9-1)))then (some ((((wI (a1+1)),(a3,((wI (a5-1)),(a7,((wI (a9-1)),(a11,(true,()))))))),((wI ((8:Int)*a7)),((eqI (Int.tmod a1 16) (15:Int)),()))),()))else X6)else X6)else bif (eqI (wI (a9-1)) (0:Int))then (bif (eqI (Int.tmod a1 16) (15:Int))then (bif (ltI 0 (wI (a9-1)))then (some ((((wI (a1+1)),(a3,((wI (a5-1)),(a7,((wI (a9-1)),(a11,(a11,()))))))),((wI ((8:Int)*a7)),((eqI (Int.tmod a1 16) (15:Int)),()))),()))else X3)else X3)else bif (eqI (Int.tmod a1 16) (15:Int))then (bif (ltI 0 (wI (a9-1)))then (some ((((wI (a1+1)),(a3,((wI (a5-1)),(a7,((wI (a9-1)),(a11,(false,()))))))),((wI ((8:Int)*a7)),((eqI (Int.tmod a1 16) (15:Int)),()))),()))else X5)else X5)else X1)else X1
theorem s244 (y):TE [] Tryz.f244 i244 o244 y=m244 y:=by kernel_rfl
noncomputable def r244:F244:=m244
theorem k244:KO (g244 r244):=fk (s244) trivial (by kernel_rfl)
abbrev i220:Ts:=[.a [.sl true .n, .sl true .i, .sl true .i, .int .i64, .int .i64, .int .i64, .int .i64, .int .i64, .bool, .bool, .bool, .bool, .int .i64, .int .i64, .int .i64, .int .i64, .int .i64, .bool, .sl false .i, .sl false .i, .int .i64, .int .i64, .int .i64, .int .i64, .int .i64, .bool, .bool, .bool, .int .i64, .bool, .int .i64, .sl true .n, .sl true .i, .sl true .i]]
abbrev o220:Ts:=[.a q8]
abbrev F220:=FT i220 o220
abbrev g220:=mkG 220 i220 o220
noncomputable def m220 (c244:F244) (c242:F242) (y:PTup i220):Option (PTup o220×BTup i220):=
  let a0:=y.1;let a1:=a0.2;let a2:=a1.2;let a3:=a2.2;let a4:=a3.2;let a5:=a4.2;let a6:=a5.2;let a7:=a6.2;let a8:=a7.2;let a9:=a8.2;let a10:=a9.2;let a11:=a10.2;let a12:=a11.2;let a13:=a12.2;let a14:=a13.2;let a15:=a14.2;let a16:=a15.2;let a17:=a16.2;let a18:=a17.2;let a19:=a18.2;let a20:=a19.2;let a21:=a20.2;let a22:=a21.2;let a23:=a22.2;let a24:=a23.2;let a25:=a24.2;let a26:=a25.2;let a27:=a26.2;let a28:=a27.2;let a29:=a28.2;let a30:=a29.2;let a31:=a30.2;let a32:=a31.2;(c242 ((a12.1,(a13.1,(a14.1,(a15.1,(a16.1,(a17.1,(a18.1,(a19.1,())))))))),())).bind fun r0=>let b0:=r0.1;let b1:=b0.1;let b2:=b0.2;let b3:=b1.2;let b4:=b3.2;let b5:=b4.2;let b6:=b5.2;let b7:=b6.2;let b8:=b7.2;let b9:=b8.2.1;(c244 ((a20.1,(a21.1,(a22.1,(a23.1,(a24.1,(a25.1,(a26.1,()))))))),())).bind fun r1=>let d0:=r1.1;let d1:=d0.1;let d2:=d1.2;let d3:=d0.2.1;let d4:=d2.2;let d5:=d4.2;let d6:=d5.2;let d7:=d6.2;let d8:=d7.2.1;bif (eqI (Int.tmod a12.1 64) (48:Int))then (bif (leN ((List.length a31.1)+(List.length (b2.1::[]))) (E.most .n))then (bif d0.2.2.1 then (bif (leN ((List.length a32.1)+(List.length (d3::[]))) (E.most .i))then (bif a29.1 then (some (((a0.1,(a1.1,(a2.1,(a3.1,(a4.1,(a5.1,(a6.1,(a7.1,(a8.1,(a9.1,(a10.1,(a11.1,(b1.1,(b3.1,(b4.1,(b5.1,(b6.1,(b7.1,(b8.1,(b9,(d1.1,(d2.1,(d4.1,(d5.1,(d6.1,(d7.1,(d8,(a27.1,(a28.1,(true,(a30.1,((a31.1++(b2.1::[])),((a32.1++(d3::[])),a32.2))))))))))))))))))))))))))))))))),()),()))
      else some (((a0.1,(a1.1,(a2.1,(a3.1,(a4.1,(a5.1,(a6.1,(a7.1,(a8.1,(a9.1,(a10.1,(a11.1,(b1.1,(b3.1,(b4.1,(b5.1,(b6.1,(b7.1,(b8.1,(b9,(d1.1,(d2.1,(d4.1,(d5.1,(d6.1,(d7.1,(d8,(a27.1,(a28.1,(b2.2.1,(a30.1,((a31.1++(b2.1::[])),((a32.1++(d3::[])),a32.2))))))))))))))))))))))))))))))))),()),()))
     else none)
    else bif a29.1 then (some (((a0.1,(a1.1,(a2.1,(a3.1,(a4.1,(a5.1,(a6.1,(a7.1,(a8.1,(a9.1,(a10.1,(a11.1,(b1.1,(b3.1,(b4.1,(b5.1,(b6.1,(b7.1,(b8.1,(b9,(d1.1,(d2.1,(d4.1,(d5.1,(d6.1,(d7.1,(d8,(a27.1,(a28.1,(true,(a30.1,((a31.1++(b2.1::[])),a32)))))))))))))))))))))))))))))))),()),()))
    else some (((a0.1,(a1.1,(a2.1,(a3.1,(a4.1,(a5.1,(a6.1,(a7.1,(a8.1,(a9.1,(a10.1,(a11.1,(b1.1,(b3.1,(b4.1,(b5.1,(b6.1,(b7.1,(b8.1,(b9,(d1.1,(d2.1,(d4.1,(d5.1,(d6.1,(d7.1,(d8,(a27.1,(a28.1,(b2.2.1,(a30.1,((a31.1++(b2.1::[])),a32)))))))))))))))))))))))))))))))),()),()))
   else none)
  else bif d0.2.2.1 then (bif (leN ((List.length a32.1)+(List.length (d3::[]))) (E.most .i))then (bif a29.1 then (some (((a0.1,(a1.1,(a2.1,(a3.1,(a4.1,(a5.1,(a6.1,(a7.1,(a8.1,(a9.1,(a10.1,(a11.1,(b1.1,(b3.1,(b4.1,(b5.1,(b6.1,(b7.1,(b8.1,(b9,(d1.1,(d2.1,(d4.1,(d5.1,(d6.1,(d7.1,(d8,(a27.1,(a28.1,(true,(a30.1,(a31.1,((a32.1++(d3::[])),a32.2))))))))))))))))))))))))))))))))),()),()))
    else some (((a0.1,(a1.1,(a2.1,(a3.1,(a4.1,(a5.1,(a6.1,(a7.1,(a8.1,(a9.1,(a10.1,(a11.1,(b1.1,(b3.1,(b4.1,(b5.1,(b6.1,(b7.1,(b8.1,(b9,(d1.1,(d2.1,(d4.1,(d5.1,(d6.1,(d7.1,(d8,(a27.1,(a28.1,(b2.2.1,(a30.1,(a31.1,((a32.1++(d3::[])),a32.2))))))))))))))))))))))))))))))))),()),()))
   else none)
  else bif a29.1 then (some (((a0.1,(a1.1,(a2.1,(a3.1,(a4.1,(a5.1,(a6.1,(a7.1,(a8.1,(a9.1,(a10.1,(a11.1,(b1.1,(b3.1,(b4.1,(b5.1,(b6.1,(b7.1,(b8.1,(b9,(d1.1,(d2.1,(d4.1,(d5.1,(d6.1,(d7.1,(d8,(a27.1,(a28.1,(true,a30)))))))))))))))))))))))))))))),()),()))
  else some (((a0.1,(a1.1,(a2.1,(a3.1,(a4.1,(a5.1,(a6.1,(a7.1,(a8.1,(a9.1,(a10.1,(a11.1,(b1.1,(b3.1,(b4.1,(b5.1,(b6.1,(b7.1,(b8.1,(b9,(d1.1,(d2.1,(d4.1,(d5.1,(d6.1,(d7.1,(d8,(a27.1,(a28.1,(b2.2.1,a30)))))))))))))))))))))))))))))),()),())
theorem s220 (c244:F244) (c242:F242) (y):TE [g244 c244,g242 c242] Tryz.f220 i220 o220 y=m220 c244 c242 y:=by kernel_rfl
noncomputable def r220:F220:=m220 r244 r242
theorem k220:KO (g220 r220):=fk (s220 r244 r242) ⟨k244,k242,⟨⟩⟩ (by kernel_rfl)
abbrev i147:Ts:=[.a q8]
abbrev o147:Ts:=[.a q8, .v (.bool)]
abbrev R147:=Option (PTup o147×BTup i147)
abbrev F147:=PTup i147→R147
abbrev g147 (c:F147):Nat×Tev.Fn:=(147,⟨i147,o147,c, .may⟩)
abbrev lc147_0:Ts:=[.v (.int .i64)]
abbrev lb147_0:Ts:=[.p q8]
abbrev lv147_0:Ts:=[.v (.int .i64)]
abbrev lr147_0:Ts:=[]
abbrev R147_0:=Option (Sum (PTup lv147_0) (PTup lr147_0)×BTup lb147_0)
abbrev B147_0:=PTup lb147_0→PTup lv147_0→R147_0
abbrev A147_0:=PTup lc147_0→B147_0
noncomputable def w147_0 (c219:F219) (c220:F220) (again:B147_0) (x:PTup lc147_0) (y:PTup lb147_0) (z:PTup lv147_0):R147_0:=
  bif (ltI z.1 x.1)then ((c220 (y.1,())).bind fun r0=>
   again (r0.1.1,()) ((wI (z.1+1)),()))
  else some ((Sum.inl z),(y.1,()))
noncomputable def e147_0 (l:A147_0):LoopE:=⟨[5],lc147_0,[4],lb147_0,[6],lv147_0,[],lr147_0,0,[],l⟩
noncomputable def m147 (c219:F219) (c220:F220) (l0:A147_0) (y:PTup i147):R147:=
  let X0:R147:=some ((([],([],([],((0:Int),((0:Int),((0:Int),((0:Int),((0:Int),(false,(false,(false,(false,((0:Int),((0:Int),((0:Int),((0:Int),((0:Int),(false,([],([],((0:Int),((0:Int),((0:Int),((0:Int),((0:Int),(false,(false,(false,((0:Int),(false,((0:Int),([],([],([],())))))))))))))))))))))))))))))))))),(false,())),());(c219 (y.1,())).bind fun r0=>bif (ltI 20000 (wI (r0.1.1.2.2.2.2.2.2.2.2.2.2.2.2.1+r0.1.2.1)))then X0 else (l0 r0.1.2 (r0.1.1,()) ((0:Int),())).bind fun r1=>let d0:=r1.2;let d1:=d0.1;let d2:=d1.2;let d3:=d2.2;let d4:=d3.2;let d5:=d4.2;let d6:=d5.2;let d7:=d6.2;let d8:=d7.2;let d9:=d8.2;let d10:=d9.2;let d11:=d10.2;let d12:=d11.2;let d13:=d12.2;let d14:=d13.2;let d15:=d14.2;let d16:=d15.2;let d17:=d16.2;let d18:=d17.2;let d19:=d18.2;let d20:=d19.2;let d21:=d20.2;let d22:=d21.2;let d23:=d22.2;let d24:=d23.2.2;let d25:=d24.2.2;sumElim r1.1 (fun r2=>some (((d1.1,(d2.1,(d3.1,(d4.1,(d5.1,(d6.1,(d7.1,(d8.1,(d9.1,(d10.1,(d11.1,(d12.1,(d13.1,(d14.1,(d15.1,(d16.1,(d17.1,(d18.1,(d19.1,(d20.1,(d21.1,(d22.1,(d23.1,(d23.2.1,(d24.1,(d24.2.1,(d25.1,(d25.2.1,(d25.2.2.1,(d25.2.2.2.1,((wI (d25.2.2.2.2.1+1)),d25.2.2.2.2.2))))))))))))))))))))))))))))))),(true,())),())) (fun r2=>X0)
noncomputable def E147 (c219:F219) (c220:F220) (l0:A147_0):CEnv:=⟨⟨Tryz.prog,fnsL [g219 c219,g220 c220]⟩,loopsL [(5,e147_0 l0)]⟩
theorem t147_0 (c219:F219) (c220:F220) (l0:A147_0) (again) (x y z):loopRound (E147 c219 c220 l0) (loopAt (bodyOf Tryz.f147) 0) (e147_0 l0) Tryz.f147.ntmps again x y z=w147_0 c219 c220 again x y z:=by kernel_rfl
noncomputable def n147_0 (c219:F219) (c220:F220):Nat→A147_0
  |0,_,_,_=>none
  |n+1,x,y,z=>w147_0 c219 c220 (fun y z=>n147_0 c219 c220 n x y z) x y z
theorem s147 (c219:F219) (c220:F220) (l0:A147_0) (y):tevY (E147 c219 c220 l0) Tryz.f147 i147 [.sl true .n, .sl true .i, .sl true .i, .int .i64, .int .i64, .int .i64, .int .i64, .int .i64, .bool, .bool, .bool, .bool, .int .i64, .int .i64, .int .i64, .int .i64, .int .i64, .bool, .sl true .i, .sl true .i, .int .i64, .int .i64, .int .i64, .int .i64, .int .i64, .bool, .bool, .bool, .int .i64, .bool, .int .i64, .sl true .n, .sl true .i, .sl true .i] y=m147 c219 c220 l0 y:=by kernel_rfl
noncomputable def L147_0:A147_0:=n147_0 r219 r220 fuel
noncomputable def r147:F147:=m147 r219 r220 L147_0
theorem k147:KO (g147 r147):=by
  have hE: ∀g f,(E147 r219 r220 L147_0).env.fns g=some f→CallOk Tryz.prog g f:=fnsL_ok ⟨k219,k220,⟨⟩⟩
  have h0:LoopOk Tryz.prog Tryz.f147.ntmps (loopAt (bodyOf Tryz.f147) 0) (e147_0 L147_0):=lp_ok (E:=E147 r219 r220 L147_0) rfl hE mixed (AllLoops.of_list (l:=[]) (by kernel_rfl) trivial) (n147_0 r219 r220) (fun _ _ _=>rfl) (fun n x y z=>t147_0 r219 r220 L147_0 _ x y z) rfl
  exact fnY_ok (E:=E147 r219 r220 L147_0) rfl hE mixed (by kernel_rfl) (by kernel_rfl) (AllLoops.of_list (l:=[(loopAt (bodyOf Tryz.f147) 0)]) (by kernel_rfl) (.one (by kernel_rfl) h0 trivial)) (s147 r219 r220 L147_0)
abbrev i40:Ts:=[.a q7]
abbrev o40:Ts:=[.a q8, .v (.bool)]
abbrev F40:=FT i40 o40
abbrev g40:=mkG 40 i40 o40
noncomputable def m40 (c42:F42) (c148:F148) (c147:F147) (y:PTup i40):Option (PTup o40×BTup i40):=
  (c42 (y.1,())).bind fun r0=>
  bif (!r0.1.1)then (some ((([],([],([],((0:Int),((0:Int),((0:Int),((0:Int),((0:Int),(false,(false,(false,(false,((0:Int),((0:Int),((0:Int),((0:Int),((0:Int),(false,([],([],((0:Int),((0:Int),((0:Int),((0:Int),((0:Int),(false,(false,(false,((0:Int),(false,((0:Int),([],([],([],())))))))))))))))))))))))))))))))))),(false,())),()))
  else (c148 (y.1,())).bind fun r1=>
  (c147 (r1.1.1,())).bind fun r2=>
  bif r2.1.2.1 then (some ((r2.1.1,(true,())),()))
  else (c148 (y.1,())).bind fun r3=>
  some ((r3.1.1,(false,())),())
theorem s40 (c42:F42) (c148:F148) (c147:F147) (y):TE [g42 c42,g148 c148,g147 c147] Tryz.f40 i40 o40 y=m40 c42 c148 c147 y:=by kernel_rfl
noncomputable def r40:F40:=m40 r42 r148 r147
theorem k40:KO (g40 r40):=fk (s40 r42 r148 r147) ⟨k42,k148,k147,⟨⟩⟩ (by kernel_rfl)
abbrev i47:Ts:=[.a q7, .v (.int .i64)]
abbrev o47:Ts:=[.a q8, .v (.int .i64)]
abbrev F47:=FT i47 o47
abbrev g47:=mkG 47 i47 o47
abbrev lc47_0:Ts:=[.v (.int .i64)]
abbrev lb47_0:Ts:=[.p q8, .p q8]
abbrev lv47_0:Ts:=[.v (.int .i64)]
abbrev lr47_0:Ts:=[.v (.int .i64)]
abbrev R47_0:=Option (Sum (PTup lv47_0) (PTup lr47_0)×BTup lb47_0)
abbrev B47_0:=PTup lb47_0→PTup lv47_0→R47_0
abbrev A47_0:=PTup lc47_0→B47_0
noncomputable def w47_0 (c42:F42) (c40:F40) (c148:F148) (c158:F158) (again:B47_0) (x:PTup lc47_0) (y:PTup lb47_0) (z:PTup lv47_0):R47_0:=
  let a0:=y.2;let a1:=a0.1;let a2:=a1.2;let a3:=a2.2;let a4:=a3.2;let a5:=a4.2;let a6:=a5.2;let a7:=a6.2;let a8:=a7.2;let a9:=a8.2;let a10:=a9.2;let a11:=a10.2;let a12:=a11.2;let a13:=a12.2;let a14:=a13.2;let a15:=a14.2;let a16:=a15.2;let a17:=a16.2;let a18:=a17.2;let a19:=a18.2;let a20:=a19.2;let a21:=a20.2;let a22:=a21.2;let a23:=a22.2.2;let a24:=a23.2.2;(c158 (x.1,((3000:Int),()))).bind fun r0=>
  bif (ltI z.1 r0.1.1)then ((c40 (a1,())).bind fun r1=>
   bif (!r1.1.2.1)then (some ((Sum.inr z),(a1,(([],([],([],(a4.1,(a5.1,(a6.1,(a7.1,(a8.1,(a9.1,(a10.1,(a11.1,(a12.1,(a13.1,(a14.1,(a15.1,(a16.1,(a17.1,(a18.1,([],([],(a21.1,(a22.1,(a22.2.1,(a23.1,(a23.2.1,(a24.1,(a24.2.1,(a24.2.2.1,(a24.2.2.2.1,(a24.2.2.2.2.1,(a24.2.2.2.2.2.1,([],([],([],())))))))))))))))))))))))))))))))))),()))))
   else again (y.1,(r1.1.1,())) ((wI (z.1+1)),()))
  else some ((Sum.inl z),(y.1,(a1,())))
noncomputable def e47_0 (l:A47_0):LoopE:=⟨[1],lc47_0,[4,6],lb47_0,[7],lv47_0,[5],lr47_0,0,[false,true],l⟩
noncomputable def m47 (c42:F42) (c40:F40) (c148:F148) (c158:F158) (l0:A47_0) (y:PTup i47):Option (PTup o47×BTup i47):=
  (c42 (y.1,())).bind fun r0=>
  bif (!r0.1.1)then (some ((([],([],([],((0:Int),((0:Int),((0:Int),((0:Int),((0:Int),(false,(false,(false,(false,((0:Int),((0:Int),((0:Int),((0:Int),((0:Int),(false,([],([],((0:Int),((0:Int),((0:Int),((0:Int),((0:Int),(false,(false,(false,((0:Int),(false,((0:Int),([],([],([],())))))))))))))))))))))))))))))))))),((0:Int),())),()))
  else (c148 (y.1,())).bind fun r1=>
  (l0 y.2 (([],([],([],((0:Int),((0:Int),((0:Int),((0:Int),((0:Int),(false,(false,(false,(false,((0:Int),((0:Int),((0:Int),((0:Int),((0:Int),(false,([],([],((0:Int),((0:Int),((0:Int),((0:Int),((0:Int),(false,(false,(false,((0:Int),(false,((0:Int),([],([],([],())))))))))))))))))))))))))))))))))),(r1.1.1,())) ((0:Int),())).bind fun r2=>
  sumElim r2.1 (fun r3=>some ((r2.2.2.1,r3),()))
  (fun r3=>some ((r2.2.1,r3),()))
noncomputable def E47 (c42:F42) (c40:F40) (c148:F148) (c158:F158) (l0:A47_0):CEnv:=⟨⟨Tryz.prog,fnsL [g42 c42,g40 c40,g148 c148,g158 c158]⟩,loopsL [(5,e47_0 l0)]⟩
theorem t47_0 (c42:F42) (c40:F40) (c148:F148) (c158:F158) (l0:A47_0) (again) (x y z):loopRound (E47 c42 c40 c148 c158 l0) (loopAt (bodyOf Tryz.f47) 0) (e47_0 l0) Tryz.f47.ntmps again x y z=w47_0 c42 c40 c148 c158 again x y z:=by kernel_rfl
noncomputable def n47_0 (c42:F42) (c40:F40) (c148:F148) (c158:F158):Nat→A47_0
  |0,_,_,_=>none
  |n+1,x,y,z=>w47_0 c42 c40 c148 c158 (fun y z=>n47_0 c42 c40 c148 c158 n x y z) x y z
theorem s47 (c42:F42) (c40:F40) (c148:F148) (c158:F158) (l0:A47_0) (y):tevF (E47 c42 c40 c148 c158 l0) Tryz.f47 i47 o47 y=m47 c42 c40 c148 c158 l0 y:=by kernel_rfl
noncomputable def L47_0:A47_0:=n47_0 r42 r40 r148 r158 fuel
noncomputable def r47:F47:=m47 r42 r40 r148 r158 L47_0
theorem k47:KO (g47 r47):=by
  have hE: ∀g f,(E47 r42 r40 r148 r158 L47_0).env.fns g=some f→CallOk Tryz.prog g f:=fnsL_ok ⟨k42,k40,k148,k158,⟨⟩⟩
  have h0:LoopOk Tryz.prog Tryz.f47.ntmps (loopAt (bodyOf Tryz.f47) 0) (e47_0 L47_0):=lp_ok (E:=E47 r42 r40 r148 r158 L47_0) rfl hE mixed (AllLoops.of_list (l:=[]) (by kernel_rfl) trivial) (n47_0 r42 r40 r148 r158) (fun _ _ _=>rfl) (fun n x y z=>t47_0 r42 r40 r148 r158 L47_0 _ x y z) rfl
  exact fn_ok (E:=E47 r42 r40 r148 r158 L47_0) rfl hE mixed (by kernel_rfl) (by kernel_rfl) (AllLoops.of_list (l:=[(loopAt (bodyOf Tryz.f47) 0)]) (by kernel_rfl) (.one (by kernel_rfl) h0 trivial)) (s47 r42 r40 r148 r158 L47_0)
abbrev i140:Ts:=[.v (.int .i64), .v (.int .i64), .v (.int .i64)]
abbrev o140:Ts:=[.v (.bool)]
abbrev F140:=FT i140 o140
abbrev g140:=mkG 140 i140 o140
noncomputable def m140 (y:PTup i140):Option (PTup o140×BTup i140):=
  bif (leI y.2.1 y.1)then (some (((leI y.1 y.2.2.1),()),()))
  else no
theorem s140 (y):TE [] Tryz.f140 i140 o140 y=m140 y:=by kernel_rfl
noncomputable def r140:F140:=m140
theorem k140:KO (g140 r140):=fk (s140) trivial (by kernel_rfl)
abbrev i138:Ts:=[.v (.int .i64)]
abbrev o138:Ts:=[.v (.bool)]
abbrev F138:=FT i138 o138
abbrev g138:=mkG 138 i138 o138
noncomputable def m138 (c140:F140) (y:PTup i138):Option (PTup o138×BTup i138):=
  (c140 (y.1,((0:Int),((255:Int),())))).bind fun r0=>
  some (r0.1,())
theorem s138 (c140:F140) (y):TE [g140 c140] Tryz.f138 i138 o138 y=m138 c140 y:=by kernel_rfl
noncomputable def r138:F138:=m138 r140
theorem k138:KO (g138 r138):=fk (s138 r140) ⟨k140,⟨⟩⟩ (by kernel_rfl)
abbrev i200:Ts:=[.v (.sl false .i)]
abbrev o200:Ts:=[.v (.bool)]
abbrev F200:=FT i200 o200
abbrev g200:=mkG 200 i200 o200
abbrev lc200_0:Ts:=[.v (.sl false .i), .v (.int .i64)]
abbrev lb200_0:Ts:=[]
abbrev lv200_0:Ts:=[.v (.int .i64)]
abbrev lr200_0:Ts:=[.v (.bool)]
abbrev R200_0:=Option (Sum (PTup lv200_0) (PTup lr200_0)×BTup lb200_0)
abbrev B200_0:=PTup lb200_0→PTup lv200_0→R200_0
abbrev A200_0:=PTup lc200_0→B200_0
noncomputable def w200_0 (c138:F138) (again:B200_0) (x:PTup lc200_0) (y:PTup lb200_0) (z:PTup lv200_0):R200_0:=
  bif (ltI z.1 x.2.1)then (bif (leI 0 z.1)then (bif (ltI z.1 (lenI x.1))then ((c138 ((rdE .i x.1 z.1),())).bind fun r0=>
     bif (!r0.1.1)then (some ((Sum.inr (false,())),()))
     else again () ((wI (z.1+1)),()))
    else none)
   else none)
  else some ((Sum.inl z),())
noncomputable def e200_0 (l:A200_0):LoopE:=⟨[5,6],lc200_0,[],lb200_0,[7],lv200_0,[2],lr200_0,0,[],l⟩
noncomputable def m200 (c138:F138) (l0:A200_0) (y:PTup i200):Option (PTup o200×BTup i200):=
  (l0 (y.1,((lenI y.1),())) () ((0:Int),())).bind fun r0=>
  sumElim r0.1 (fun r1=>some ((true,()),()))
  (fun r1=>some (r1,()))
noncomputable def E200 (c138:F138) (l0:A200_0):CEnv:=⟨⟨Tryz.prog,fnsL [g138 c138]⟩,loopsL [(2,e200_0 l0)]⟩
theorem t200_0 (c138:F138) (l0:A200_0) (again) (x y z):loopRound (E200 c138 l0) (loopAt (bodyOf Tryz.f200) 0) (e200_0 l0) Tryz.f200.ntmps again x y z=w200_0 c138 again x y z:=by kernel_rfl
noncomputable def n200_0 (c138:F138):Nat→A200_0
  |0,_,_,_=>none
  |n+1,x,y,z=>w200_0 c138 (fun y z=>n200_0 c138 n x y z) x y z
theorem s200 (c138:F138) (l0:A200_0) (y):tevF (E200 c138 l0) Tryz.f200 i200 o200 y=m200 c138 l0 y:=by kernel_rfl
noncomputable def L200_0:A200_0:=n200_0 r138 fuel
noncomputable def r200:F200:=m200 r138 L200_0
theorem k200:KO (g200 r200):=by
  have hE: ∀g f,(E200 r138 L200_0).env.fns g=some f→CallOk Tryz.prog g f:=fnsL_ok ⟨k138,⟨⟩⟩
  have h0:LoopOk Tryz.prog Tryz.f200.ntmps (loopAt (bodyOf Tryz.f200) 0) (e200_0 L200_0):=lp_ok (E:=E200 r138 L200_0) rfl hE mixed (AllLoops.of_list (l:=[]) (by kernel_rfl) trivial) (n200_0 r138) (fun _ _ _=>rfl) (fun n x y z=>t200_0 r138 L200_0 _ x y z) rfl
  exact fn_ok (E:=E200 r138 L200_0) rfl hE mixed (by kernel_rfl) (by kernel_rfl) (AllLoops.of_list (l:=[(loopAt (bodyOf Tryz.f200) 0)]) (by kernel_rfl) (.one (by kernel_rfl) h0 trivial)) (s200 r138 L200_0)
abbrev i199:Ts:=[.a q0]
abbrev o199:Ts:=[.v (.bool)]
abbrev F199:=FT i199 o199
abbrev g199:=mkG 199 i199 o199
abbrev lc199_0:Ts:=[.v (.sl false .n), .v (.int .i64)]
abbrev lb199_0:Ts:=[]
abbrev lv199_0:Ts:=[.v (.int .i64)]
abbrev lr199_0:Ts:=[.v (.bool)]
abbrev R199_0:=Option (Sum (PTup lv199_0) (PTup lr199_0)×BTup lb199_0)
abbrev B199_0:=PTup lb199_0→PTup lv199_0→R199_0
abbrev A199_0:=PTup lc199_0→B199_0
noncomputable def w199_0 (c200:F200) (c140:F140) (again:B199_0) (x:PTup lc199_0) (y:PTup lb199_0) (z:PTup lv199_0):R199_0:=
  bif (ltI z.1 x.2.1)then (bif (leI 0 z.1)then (bif (ltI z.1 (lenI x.1))then (bif (neI (lenI (rdE .n x.1 z.1)) (256:Int))then (some ((Sum.inr (false,())),()))
     else (c200 ((rdE .n x.1 z.1),())).bind fun r0=>
     bif (!r0.1.1)then (some ((Sum.inr (false,())),()))
     else again () ((wI (z.1+1)),()))
    else none)
   else none)
  else some ((Sum.inl z),())
noncomputable def e199_0 (l:A199_0):LoopE:=⟨[6,7],lc199_0,[],lb199_0,[8],lv199_0,[2],lr199_0,0,[],l⟩
noncomputable def m199 (c200:F200) (c140:F140) (l0:A199_0) (y:PTup i199):Option (PTup o199×BTup i199):=
  (l0 (y.1.1,((lenI y.1.1),())) () ((0:Int),())).bind fun r0=>
  sumElim r0.1 (fun r1=>(c140 ((lenI y.1.1),((1:Int),((8:Int),())))).bind fun r2=>
   some (r2.1,()))
  (fun r1=>some (r1,()))
noncomputable def E199 (c200:F200) (c140:F140) (l0:A199_0):CEnv:=⟨⟨Tryz.prog,fnsL [g200 c200,g140 c140]⟩,loopsL [(2,e199_0 l0)]⟩
theorem t199_0 (c200:F200) (c140:F140) (l0:A199_0) (again) (x y z):loopRound (E199 c200 c140 l0) (loopAt (bodyOf Tryz.f199) 0) (e199_0 l0) Tryz.f199.ntmps again x y z=w199_0 c200 c140 again x y z:=by kernel_rfl
noncomputable def n199_0 (c200:F200) (c140:F140):Nat→A199_0
  |0,_,_,_=>none
  |n+1,x,y,z=>w199_0 c200 c140 (fun y z=>n199_0 c200 c140 n x y z) x y z
theorem s199 (c200:F200) (c140:F140) (l0:A199_0) (y):tevF (E199 c200 c140 l0) Tryz.f199 i199 o199 y=m199 c200 c140 l0 y:=by kernel_rfl
noncomputable def L199_0:A199_0:=n199_0 r200 r140 fuel
noncomputable def r199:F199:=m199 r200 r140 L199_0
theorem k199:KO (g199 r199):=by
  have hE: ∀g f,(E199 r200 r140 L199_0).env.fns g=some f→CallOk Tryz.prog g f:=fnsL_ok ⟨k200,k140,⟨⟩⟩
  have h0:LoopOk Tryz.prog Tryz.f199.ntmps (loopAt (bodyOf Tryz.f199) 0) (e199_0 L199_0):=lp_ok (E:=E199 r200 r140 L199_0) rfl hE mixed (AllLoops.of_list (l:=[]) (by kernel_rfl) trivial) (n199_0 r200 r140) (fun _ _ _=>rfl) (fun n x y z=>t199_0 r200 r140 L199_0 _ x y z) rfl
  exact fn_ok (E:=E199 r200 r140 L199_0) rfl hE mixed (by kernel_rfl) (by kernel_rfl) (AllLoops.of_list (l:=[(loopAt (bodyOf Tryz.f199) 0)]) (by kernel_rfl) (.one (by kernel_rfl) h0 trivial)) (s199 r200 r140 L199_0)
abbrev i133:Ts:=[.a q0, .a q1]
abbrev o133:Ts:=[.v (.bool)]
abbrev F133:=FT i133 o133
abbrev g133:=mkG 133 i133 o133
noncomputable def m133 (c199:F199) (c200:F200) (c140:F140) (y:PTup i133):Option (PTup o133×BTup i133):=
  (c199 (y.1,())).bind fun r0=>
  bif r0.1.1 then (bif (eqI (lenI y.2.1.1) 512)then ((c200 (y.2.1.1,())).bind fun r1=>
    bif r1.1.1 then ((c140 (y.2.1.2.1,((0:Int),((wI ((lenI y.1.1)-1)),())))).bind fun r2=>
     some (r2.1,()))
    else no)
   else no)
  else no
theorem s133 (c199:F199) (c200:F200) (c140:F140) (y):TE [g199 c199,g200 c200,g140 c140] Tryz.f133 i133 o133 y=m133 c199 c200 c140 y:=by kernel_rfl
noncomputable def r133:F133:=m133 r199 r200 r140
theorem k133:KO (g133 r133):=fk (s133 r199 r200 r140) ⟨k199,k200,k140,⟨⟩⟩ (by kernel_rfl)
abbrev i134:Ts:=[.v (.sl false .i)]
abbrev o134:Ts:=[.v (.bool)]
abbrev F134:=FT i134 o134
abbrev g134:=mkG 134 i134 o134
noncomputable def m134 (c200:F200) (y:PTup i134):Option (PTup o134×BTup i134):=
  bif (leI (lenI y.1) 20)then ((c200 y).bind fun r0=>
   some (r0.1,()))
  else no
theorem s134 (c200:F200) (y):TE [g200 c200] Tryz.f134 i134 o134 y=m134 c200 y:=by kernel_rfl
noncomputable def r134:F134:=m134 r200
theorem k134:KO (g134 r134):=fk (s134 r200) ⟨k200,⟨⟩⟩ (by kernel_rfl)
abbrev i135:Ts:=[.a q2]
abbrev o135:Ts:=[.v (.bool)]
abbrev F135:=FT i135 o135
abbrev g135:=mkG 135 i135 o135
noncomputable def m135 (c138:F138) (c140:F140) (y:PTup i135):Option (PTup o135×BTup i135):=
  (c138 (y.1.1,())).bind fun r0=>
  bif r0.1.1 then ((c138 (y.1.2.1,())).bind fun r1=>
   bif r1.1.1 then ((c138 (y.1.2.2.1,())).bind fun r2=>
    bif r2.1.1 then ((c140 (y.1.2.2.2.1,((0:Int),((65535:Int),())))).bind fun r3=>
     some (r3.1,()))
    else no)
   else no)
  else no
theorem s135 (c138:F138) (c140:F140) (y):TE [g138 c138,g140 c140] Tryz.f135 i135 o135 y=m135 c138 c140 y:=by kernel_rfl
noncomputable def r135:F135:=m135 r138 r140
theorem k135:KO (g135 r135):=fk (s135 r138 r140) ⟨k138,k140,⟨⟩⟩ (by kernel_rfl)
abbrev i139:Ts:=[.v (.int .i64)]
abbrev o139:Ts:=[.v (.bool)]
abbrev F139:=FT i139 o139
abbrev g139:=mkG 139 i139 o139
noncomputable def m139 (c140:F140) (y:PTup i139):Option (PTup o139×BTup i139):=
  (c140 (y.1,((0:Int),((20000:Int),())))).bind fun r0=>
  some (r0.1,())
theorem s139 (c140:F140) (y):TE [g140 c140] Tryz.f139 i139 o139 y=m139 c140 y:=by kernel_rfl
noncomputable def r139:F139:=m139 r140
theorem k139:KO (g139 r139):=fk (s139 r140) ⟨k140,⟨⟩⟩ (by kernel_rfl)
abbrev i221:Ts:=[.v (.sl false .i)]
abbrev o221:Ts:=[.v (.bool)]
abbrev F221:=FT i221 o221
abbrev g221:=mkG 221 i221 o221
abbrev lc221_0:Ts:=[.v (.sl false .i), .v (.int .i64)]
abbrev lb221_0:Ts:=[]
abbrev lv221_0:Ts:=[.v (.int .i64)]
abbrev lr221_0:Ts:=[.v (.bool)]
abbrev R221_0:=Option (Sum (PTup lv221_0) (PTup lr221_0)×BTup lb221_0)
abbrev B221_0:=PTup lb221_0→PTup lv221_0→R221_0
abbrev A221_0:=PTup lc221_0→B221_0
noncomputable def w221_0 (c140:F140) (again:B221_0) (x:PTup lc221_0) (y:PTup lb221_0) (z:PTup lv221_0):R221_0:=
  bif (ltI z.1 x.2.1)then (bif (leI 0 z.1)then (bif (ltI z.1 (lenI x.1))then ((c140 ((rdE .i x.1 z.1),((0:Int),((63:Int),())))).bind fun r0=>
     bif (!r0.1.1)then (some ((Sum.inr (false,())),()))
     else again () ((wI (z.1+1)),()))
    else none)
   else none)
  else some ((Sum.inl z),())
noncomputable def e221_0 (l:A221_0):LoopE:=⟨[5,6],lc221_0,[],lb221_0,[7],lv221_0,[2],lr221_0,0,[],l⟩
noncomputable def m221 (c140:F140) (l0:A221_0) (y:PTup i221):Option (PTup o221×BTup i221):=
  (l0 (y.1,((lenI y.1),())) () ((0:Int),())).bind fun r0=>
  sumElim r0.1 (fun r1=>some ((true,()),()))
  (fun r1=>some (r1,()))
noncomputable def E221 (c140:F140) (l0:A221_0):CEnv:=⟨⟨Tryz.prog,fnsL [g140 c140]⟩,loopsL [(2,e221_0 l0)]⟩
theorem t221_0 (c140:F140) (l0:A221_0) (again) (x y z):loopRound (E221 c140 l0) (loopAt (bodyOf Tryz.f221) 0) (e221_0 l0) Tryz.f221.ntmps again x y z=w221_0 c140 again x y z:=by kernel_rfl
noncomputable def n221_0 (c140:F140):Nat→A221_0
  |0,_,_,_=>none
  |n+1,x,y,z=>w221_0 c140 (fun y z=>n221_0 c140 n x y z) x y z
theorem s221 (c140:F140) (l0:A221_0) (y):tevF (E221 c140 l0) Tryz.f221 i221 o221 y=m221 c140 l0 y:=by kernel_rfl
noncomputable def L221_0:A221_0:=n221_0 r140 fuel
noncomputable def r221:F221:=m221 r140 L221_0
theorem k221:KO (g221 r221):=by
  have hE: ∀g f,(E221 r140 L221_0).env.fns g=some f→CallOk Tryz.prog g f:=fnsL_ok ⟨k140,⟨⟩⟩
  have h0:LoopOk Tryz.prog Tryz.f221.ntmps (loopAt (bodyOf Tryz.f221) 0) (e221_0 L221_0):=lp_ok (E:=E221 r140 L221_0) rfl hE mixed (AllLoops.of_list (l:=[]) (by kernel_rfl) trivial) (n221_0 r140) (fun _ _ _=>rfl) (fun n x y z=>t221_0 r140 L221_0 _ x y z) rfl
  exact fn_ok (E:=E221 r140 L221_0) rfl hE mixed (by kernel_rfl) (by kernel_rfl) (AllLoops.of_list (l:=[(loopAt (bodyOf Tryz.f221) 0)]) (by kernel_rfl) (.one (by kernel_rfl) h0 trivial)) (s221 r140 L221_0)
abbrev i149:Ts:=[.a q3]
abbrev o149:Ts:=[.v (.bool)]
abbrev F149:=FT i149 o149
abbrev g149:=mkG 149 i149 o149
noncomputable def m149 (c221:F221) (c138:F138) (c139:F139) (c140:F140) (y:PTup i149):Option (PTup o149×BTup i149):=
  (c139 (y.1.1,())).bind fun r0=>
  bif (!r0.1.1)then no
  else (c138 (y.1.2.1,())).bind fun r1=>
  bif (!r1.1.1)then no
  else (c138 (y.1.2.2.1,())).bind fun r2=>
  bif (!r2.1.1)then no
  else (c140 (y.1.2.2.2.1,((0:Int),((15:Int),())))).bind fun r3=>
  bif (!r3.1.1)then no
  else (c140 (y.1.2.2.2.2.1,((0:Int),((63:Int),())))).bind fun r4=>
  bif (!r4.1.1)then no
  else bif (ltI 48 (Int.tmod y.1.1 64))then (bif (eqI (lenI y.1.2.2.2.2.2.2.1) 16)then ((c221 (y.1.2.2.2.2.2.2.1,())).bind fun r5=>
    bif r5.1.1 then (bif (eqI (lenI y.1.2.2.2.2.2.2.2.1) 0)then ((c221 y.1.2.2.2.2.2.2.2).bind fun r6=>
      some (r6.1,()))
     else no)
    else no)
   else no)
  else bif (eqI (lenI y.1.2.2.2.2.2.2.1) 16)then ((c221 (y.1.2.2.2.2.2.2.1,())).bind fun r5=>
   bif r5.1.1 then (bif (eqI (lenI y.1.2.2.2.2.2.2.2.1) (Int.tmod y.1.1 64))then ((c221 y.1.2.2.2.2.2.2.2).bind fun r6=>
     some (r6.1,()))
    else no)
   else no)
  else no
theorem s149 (c221:F221) (c138:F138) (c139:F139) (c140:F140) (y):TE [g221 c221,g138 c138,g139 c139,g140 c140] Tryz.f149 i149 o149 y=m149 c221 c138 c139 c140 y:=by kernel_rfl
noncomputable def r149:F149:=m149 r221 r138 r139 r140
theorem k149:KO (g149 r149):=fk (s149 r221 r138 r139 r140) ⟨k221,k138,k139,k140,⟨⟩⟩ (by kernel_rfl)
abbrev i222:Ts:=[.v (.int .i64), .v (.int .i64), .v (.int .i64)]
abbrev o222:Ts:=[.v (.int .i64)]
abbrev F222:=FT i222 o222
abbrev g222:=mkG 222 i222 o222
noncomputable def m222 (y:PTup i222):Option (PTup o222×BTup i222):=
  bif (neI y.2.2.1 0)then (some (((wI (Int.tdiv (wI ((wI ((wI (y.1+y.2.2.1))-1))-y.2.1)) y.2.2.1)),()),()))
  else none
theorem s222 (y):TE [] Tryz.f222 i222 o222 y=m222 y:=by kernel_rfl
noncomputable def r222:F222:=m222
theorem k222:KO (g222 r222):=fk (s222) trivial (by kernel_rfl)
abbrev i151:Ts:=[.v (.sl false .n), .v (.int .i64)]
abbrev o151:Ts:=[.v (.bool)]
abbrev F151:=FT i151 o151
abbrev g151:=mkG 151 i151 o151
abbrev lc151_0:Ts:=[.v (.sl false .n), .v (.int .i64)]
abbrev lb151_0:Ts:=[]
abbrev lv151_0:Ts:=[.v (.int .i64)]
abbrev lr151_0:Ts:=[.v (.bool)]
abbrev R151_0:=Option (Sum (PTup lv151_0) (PTup lr151_0)×BTup lb151_0)
abbrev B151_0:=PTup lb151_0→PTup lv151_0→R151_0
abbrev A151_0:=PTup lc151_0→B151_0
noncomputable def w151_0 (c222:F222) (again:B151_0) (x:PTup lc151_0) (y:PTup lb151_0) (z:PTup lv151_0):R151_0:=
  bif (ltI z.1 x.2.1)then (bif (leI 0 z.1)then (bif (ltI z.1 (lenI x.1))then (bif (neI (lenI (rdE .n x.1 z.1)) (48:Int))then (some ((Sum.inr (false,())),()))
     else again () ((wI (z.1+1)),()))
    else none)
   else none)
  else some ((Sum.inl z),())
noncomputable def e151_0 (l:A151_0):LoopE:=⟨[7,8],lc151_0,[],lb151_0,[9],lv151_0,[4],lr151_0,0,[],l⟩
noncomputable def m151 (c222:F222) (l0:A151_0) (y:PTup i151):Option (PTup o151×BTup i151):=
  (l0 (y.1,((lenI y.1),())) () ((0:Int),())).bind fun r0=>
  sumElim r0.1 (fun r1=>(c222 (y.2.1,((48:Int),((64:Int),())))).bind fun r2=>
   some (((eqI (lenI y.1) r2.1.1),()),()))
  (fun r1=>some (r1,()))
noncomputable def E151 (c222:F222) (l0:A151_0):CEnv:=⟨⟨Tryz.prog,fnsL [g222 c222]⟩,loopsL [(2,e151_0 l0)]⟩
theorem t151_0 (c222:F222) (l0:A151_0) (again) (x y z):loopRound (E151 c222 l0) (loopAt (bodyOf Tryz.f151) 0) (e151_0 l0) Tryz.f151.ntmps again x y z=w151_0 c222 again x y z:=by kernel_rfl
noncomputable def n151_0 (c222:F222):Nat→A151_0
  |0,_,_,_=>none
  |n+1,x,y,z=>w151_0 c222 (fun y z=>n151_0 c222 n x y z) x y z
theorem s151 (c222:F222) (l0:A151_0) (y):tevF (E151 c222 l0) Tryz.f151 i151 o151 y=m151 c222 l0 y:=by kernel_rfl
noncomputable def L151_0:A151_0:=n151_0 r222 fuel
noncomputable def r151:F151:=m151 r222 L151_0
theorem k151:KO (g151 r151):=by
  have hE: ∀g f,(E151 r222 L151_0).env.fns g=some f→CallOk Tryz.prog g f:=fnsL_ok ⟨k222,⟨⟩⟩
  have h0:LoopOk Tryz.prog Tryz.f151.ntmps (loopAt (bodyOf Tryz.f151) 0) (e151_0 L151_0):=lp_ok (E:=E151 r222 L151_0) rfl hE mixed (AllLoops.of_list (l:=[]) (by kernel_rfl) trivial) (n151_0 r222) (fun _ _ _=>rfl) (fun n x y z=>t151_0 r222 L151_0 _ x y z) rfl
  exact fn_ok (E:=E151 r222 L151_0) rfl hE mixed (by kernel_rfl) (by kernel_rfl) (AllLoops.of_list (l:=[(loopAt (bodyOf Tryz.f151) 0)]) (by kernel_rfl) (.one (by kernel_rfl) h0 trivial)) (s151 r222 L151_0)
abbrev i150:Ts:=[.a q4]
abbrev o150:Ts:=[.v (.bool)]
abbrev F150:=FT i150 o150
abbrev g150:=mkG 150 i150 o150
noncomputable def m150 (c138:F138) (c139:F139) (c140:F140) (y:PTup i150):Option (PTup o150×BTup i150):=
  (c139 (y.1.1,())).bind fun r0=>
  bif r0.1.1 then ((c138 (y.1.2.1,())).bind fun r1=>
   bif r1.1.1 then ((c138 (y.1.2.2.1,())).bind fun r2=>
    bif r2.1.1 then ((c140 (y.1.2.2.2.1,((0:Int),((1:Int),())))).bind fun r3=>
     bif r3.1.1 then ((c140 (y.1.2.2.2.2.1,((0:Int),((31:Int),())))).bind fun r4=>
      some (r4.1,()))
     else no)
    else no)
   else no)
  else no
theorem s150 (c138:F138) (c139:F139) (c140:F140) (y):TE [g138 c138,g139 c139,g140 c140] Tryz.f150 i150 o150 y=m150 c138 c139 c140 y:=by kernel_rfl
noncomputable def r150:F150:=m150 r138 r139 r140
theorem k150:KO (g150 r150):=fk (s150 r138 r139 r140) ⟨k138,k139,k140,⟨⟩⟩ (by kernel_rfl)
abbrev i152:Ts:=[.v (.sl false .i), .v (.int .i64)]
abbrev o152:Ts:=[.v (.bool)]
abbrev F152:=FT i152 o152
abbrev g152:=mkG 152 i152 o152
noncomputable def m152 (c222:F222) (y:PTup i152):Option (PTup o152×BTup i152):=
  (c222 (y.2.1,((15:Int),((16:Int),())))).bind fun r0=>
  some (((eqI (lenI y.1) r0.1.1),()),())
theorem s152 (c222:F222) (y):TE [g222 c222] Tryz.f152 i152 o152 y=m152 c222 y:=by kernel_rfl
noncomputable def r152:F152:=m152 r222
theorem k152:KO (g152 r152):=fk (s152 r222) ⟨k222,⟨⟩⟩ (by kernel_rfl)
abbrev i117:Ts:=[.v (.sl false .i)]
abbrev o117:Ts:=[.v (.sl true .i)]
abbrev F117:=FT i117 o117
abbrev g117:=mkG 117 i117 o117
noncomputable def m117 (y:PTup i117):Option (PTup o117×BTup i117):=
  bif (leN (0+(List.length y.1)) (E.most .i))then (some ((([]++y.1),()),()))
  else none
theorem s117 (y):TE [] Tryz.f117 i117 o117 y=m117 y:=by kernel_rfl
noncomputable def r117:F117:=m117
theorem k117:KO (g117 r117):=fk (s117) trivial (by kernel_rfl)
abbrev i189:Ts:=[.a q0]
abbrev o189:Ts:=[.a [.sl true .n]]
abbrev F189:=FT i189 o189
abbrev g189:=mkG 189 i189 o189
abbrev lc189_0:Ts:=[.v (.sl false .n), .v (.int .i64)]
abbrev lb189_0:Ts:=[.p [.sl true .n]]
abbrev lv189_0:Ts:=[.v (.int .i64)]
abbrev lr189_0:Ts:=[]
abbrev R189_0:=Option (Sum (PTup lv189_0) (PTup lr189_0)×BTup lb189_0)
abbrev B189_0:=PTup lb189_0→PTup lv189_0→R189_0
abbrev A189_0:=PTup lc189_0→B189_0
noncomputable def w189_0 (c117:F117) (again:B189_0) (x:PTup lc189_0) (y:PTup lb189_0) (z:PTup lv189_0):R189_0:=
  bif (ltI z.1 x.2.1)then (bif (leI 0 z.1)then (bif (ltI z.1 (lenI x.1))then ((c117 ((rdE .n x.1 z.1),())).bind fun r0=>
     bif (leN ((List.length y.1.1)+(List.length (r0.1.1::[]))) (E.most .n))then (again (((y.1.1++(r0.1.1::[])),()),()) ((wI (z.1+1)),()))
     else none)
    else none)
   else none)
  else some ((Sum.inl z),(y.1,()))
noncomputable def e189_0 (l:A189_0):LoopE:=⟨[8,9],lc189_0,[3],lb189_0,[10],lv189_0,[],lr189_0,0,[],l⟩
noncomputable def m189 (c117:F117) (l0:A189_0) (y:PTup i189):Option (PTup o189×BTup i189):=
  (l0 (y.1.1,((lenI y.1.1),())) (([],()),()) ((0:Int),())).bind fun r0=>
  sumElim r0.1 (fun r1=>some ((r0.2.1,()),()))
  (fun r1=>some ((([],()),()),()))
noncomputable def E189 (c117:F117) (l0:A189_0):CEnv:=⟨⟨Tryz.prog,fnsL [g117 c117]⟩,loopsL [(3,e189_0 l0)]⟩
theorem t189_0 (c117:F117) (l0:A189_0) (again) (x y z):loopRound (E189 c117 l0) (loopAt (bodyOf Tryz.f189) 0) (e189_0 l0) Tryz.f189.ntmps again x y z=w189_0 c117 again x y z:=by kernel_rfl
noncomputable def n189_0 (c117:F117):Nat→A189_0
  |0,_,_,_=>none
  |n+1,x,y,z=>w189_0 c117 (fun y z=>n189_0 c117 n x y z) x y z
theorem s189 (c117:F117) (l0:A189_0) (y):tevF (E189 c117 l0) Tryz.f189 i189 o189 y=m189 c117 l0 y:=by kernel_rfl
noncomputable def L189_0:A189_0:=n189_0 r117 fuel
noncomputable def r189:F189:=m189 r117 L189_0
theorem k189:KO (g189 r189):=by
  have hE: ∀g f,(E189 r117 L189_0).env.fns g=some f→CallOk Tryz.prog g f:=fnsL_ok ⟨k117,⟨⟩⟩
  have h0:LoopOk Tryz.prog Tryz.f189.ntmps (loopAt (bodyOf Tryz.f189) 0) (e189_0 L189_0):=lp_ok (E:=E189 r117 L189_0) rfl hE mixed (AllLoops.of_list (l:=[]) (by kernel_rfl) trivial) (n189_0 r117) (fun _ _ _=>rfl) (fun n x y z=>t189_0 r117 L189_0 _ x y z) rfl
  exact fn_ok (E:=E189 r117 L189_0) rfl hE mixed (by kernel_rfl) (by kernel_rfl) (AllLoops.of_list (l:=[(loopAt (bodyOf Tryz.f189) 0)]) (by kernel_rfl) (.one (by kernel_rfl) h0 trivial)) (s189 r117 L189_0)
abbrev i265:Ts:=[.v (.int .i64)]
abbrev o265:Ts:=[.v (.int .i64)]
abbrev F265:=FT i265 o265
abbrev g265:=mkG 265 i265 o265
noncomputable def m265 (y:PTup i265):Option (PTup o265×BTup i265):=
  some (((bAnd Go.IntKind.i64 y.1 (65535:Int)),()),())
theorem s265 (y):TE [] Tryz.f265 i265 o265 y=m265 y:=by kernel_rfl
noncomputable def r265:F265:=m265
theorem k265:KO (g265 r265):=fk (s265) trivial (by kernel_rfl)
abbrev i206:Ts:=[.v (.int .i64)]
abbrev o206:Ts:=[.v (.int .i64), .v (.int .i64)]
abbrev F206:=FT i206 o206
abbrev g206:=mkG 206 i206 o206
noncomputable def m206 (c265:F265) (y:PTup i206):Option (PTup o206×BTup i206):=
  (c265 y).bind fun r0=>
  bif (ltI r0.1.1 8192)then (some (((1:Int),((Int.tmod r0.1.1 512),())),()))
  else bif (ltI r0.1.1 16384)then (some (((2:Int),((Int.tmod r0.1.1 8),())),()))
  else bif (ltI r0.1.1 16388)then (some (((3:Int),((Int.tmod r0.1.1 4),())),()))
  else bif (eqI r0.1.1 16406)then (some (((4:Int),((0:Int),())),()))
  else bif (ltI r0.1.1 32768)then (some (((7:Int),((0:Int),())),()))
  else bif (ltI r0.1.1 49152)then (some (((5:Int),((Int.tmod r0.1.1 256),())),()))
  else some (((6:Int),((Int.tmod r0.1.1 256),())),())
theorem s206 (c265:F265) (y):TE [g265 c265] Tryz.f206 i206 o206 y=m206 c265 y:=by kernel_rfl
noncomputable def r206:F206:=m206 r265
theorem k206:KO (g206 r206):=fk (s206 r265) ⟨k265,⟨⟩⟩ (by kernel_rfl)
abbrev i225:Ts:=[.a q0, .a q1, .v (.int .i64)]
abbrev o225:Ts:=[.v (.int .i64)]
abbrev F225:=FT i225 o225
abbrev g225:=mkG 225 i225 o225
noncomputable def m225 (c206:F206) (y:PTup i225):Option (PTup o225×BTup i225):=
  (c206 y.2.2).bind fun r0=>
  bif (eqI r0.1.1 1)then (bif (leI 0 r0.1.2.1)then (bif (ltI r0.1.2.1 (lenI y.2.1.1))then (some (((rdE .i y.2.1.1 r0.1.2.1),()),()))
    else none)
   else none)
  else bif (eqI r0.1.1 5)then (bif (leI 0 y.2.1.2.1)then (bif (ltI y.2.1.2.1 (lenI y.1.1))then (bif (leI 0 r0.1.2.1)then (bif (ltI r0.1.2.1 (lenI (rdE .n y.1.1 y.2.1.2.1)))then (some (((rdI (rdE .n y.1.1 y.2.1.2.1) r0.1.2.1),()),()))
      else none)
     else none)
    else none)
   else none)
  else bif (eqI r0.1.1 6)then (bif (leI 0 (wI ((lenI y.1.1)-1)))then (bif (ltI (wI ((lenI y.1.1)-1)) (lenI y.1.1))then (bif (leI 0 r0.1.2.1)then (bif (ltI r0.1.2.1 (lenI (rdE .n y.1.1 (wI ((lenI y.1.1)-1)))))then (some (((rdI (rdE .n y.1.1 (wI ((lenI y.1.1)-1))) r0.1.2.1),()),()))
      else none)
     else none)
    else none)
   else none)
  else some (((0:Int),()),())
theorem s225 (c206:F206) (y):TE [g206 c206] Tryz.f225 i225 o225 y=m225 c206 y:=by kernel_rfl
noncomputable def r225:F225:=m225 r206
theorem k225:KO (g225 r225):=fk (s225 r206) ⟨k206,⟨⟩⟩ (by kernel_rfl)
abbrev i266:Ts:=[.v (.int .i64)]
abbrev o266:Ts:=[.v (.int .i64)]
abbrev F266:=FT i266 o266
abbrev g266:=mkG 266 i266 o266
noncomputable def m266 (y:PTup i266):Option (PTup o266×BTup i266):=
  some (((bAnd Go.IntKind.i64 y.1 (255:Int)),()),())
theorem s266 (y):TE [] Tryz.f266 i266 o266 y=m266 y:=by kernel_rfl
noncomputable def r266:F266:=m266
theorem k266:KO (g266 r266):=fk (s266) trivial (by kernel_rfl)
abbrev i227:Ts:=[.v (.int .i64), .v (.int .i64)]
abbrev o227:Ts:=[.v (.int .i64)]
abbrev F227:=FT i227 o227
abbrev g227:=mkG 227 i227 o227
noncomputable def m227 (c266:F266) (y:PTup i227):Option (PTup o227×BTup i227):=
  (c266 (y.1,())).bind fun r0=>
  (c266 y.2).bind fun r1=>
  some (((wI (r0.1.1+(wI ((256:Int)*r1.1.1)))),()),())
theorem s227 (c266:F266) (y):TE [g266 c266] Tryz.f227 i227 o227 y=m227 c266 y:=by kernel_rfl
noncomputable def r227:F227:=m227 r266
theorem k227:KO (g227 r227):=fk (s227 r266) ⟨k266,⟨⟩⟩ (by kernel_rfl)
abbrev i41:Ts:=[.a q7]
abbrev o41:Ts:=[.v (.bool)]
abbrev F41:=FT i41 o41
abbrev g41:=mkG 41 i41 o41
noncomputable def m41 (c150:F150) (c135:F135) (c133:F133) (c134:F134) (c149:F149) (c151:F151) (c138:F138) (c152:F152) (c140:F140) (y:PTup i41):Option (PTup o41×BTup i41):=
  let a0:=y.1;let a1:=a0.2;let a2:=a1.2;let a3:=a2.2;let a4:=a3.2;let a5:=a4.2;let a6:=a5.2;let a7:=a6.2;let a8:=a7.2;let a9:=a8.2;let a10:=a9.2;let a11:=a10.2;let a12:=a11.2;let a13:=a12.2;let a14:=a13.2;let a15:=a14.2;let a16:=a15.2;let a17:=a16.2;let a18:=a17.2;let a19:=a18.2;let a20:=a19.2;let a21:=a20.2;let a22:=a21.2.2;let a23:=a22.2.2;let a24:=a23.2.2.2;(c133 ((a0.1,()),((a2.1,(a3.1,())),()))).bind fun r0=>
  bif r0.1.1 then ((c134 (a1.1,())).bind fun r1=>
   bif r1.1.1 then ((c135 ((a4.1,(a5.1,(a6.1,(a7.1,(a8.1,(a9.1,(a10.1,(a11.1,())))))))),())).bind fun r2=>
    bif r2.1.1 then ((c149 ((a12.1,(a13.1,(a14.1,(a15.1,(a16.1,(a17.1,(a18.1,(a19.1,())))))))),())).bind fun r3=>
     bif r3.1.1 then ((c150 ((a20.1,(a21.1,(a21.2.1,(a22.1,(a22.2.1,(a23.1,(a23.2.1,()))))))),())).bind fun r4=>
      bif r4.1.1 then ((c138 (a24.1,())).bind fun r5=>
       bif r5.1.1 then (bif (eqI a20.1 a12.1)then ((c140 (a24.2.2.1,((0:Int),(a12.1,())))).bind fun r6=>
         bif r6.1.1 then ((c151 (a24.2.2.2.1,(a12.1,()))).bind fun r7=>
          bif r7.1.1 then ((c152 (a24.2.2.2.2.1,(a12.1,()))).bind fun r8=>
           some (r8.1,()))
          else no)
         else no)
        else no)
       else no)
      else no)
     else no)
    else no)
   else no)
  else no
theorem s41 (c150:F150) (c135:F135) (c133:F133) (c134:F134) (c149:F149) (c151:F151) (c138:F138) (c152:F152) (c140:F140) (y):TE [g150 c150,g135 c135,g133 c133,g134 c134,g149 c149,g151 c151,g138 c138,g152 c152,g140 c140] Tryz.f41 i41 o41 y=m41 c150 c135 c133 c134 c149 c151 c138 c152 c140 y:=by kernel_rfl
noncomputable def r41:F41:=m41 r150 r135 r133 r134 r149 r151 r138 r152 r140
theorem k41:KO (g41 r41):=fk (s41 r150 r135 r133 r134 r149 r151 r138 r152 r140) ⟨k150,k135,k133,k134,k149,k151,k138,k152,k140,⟨⟩⟩ (by kernel_rfl)
abbrev i190:Ts:=[.a q1]
abbrev o190:Ts:=[.a q5]
abbrev F190:=FT i190 o190
abbrev g190:=mkG 190 i190 o190
noncomputable def m190 (c117:F117) (y:PTup i190):Option (PTup o190×BTup i190):=
  (c117 (y.1.1,())).bind fun r0=>
  some (((r0.1.1,y.1.2),()),())
theorem s190 (c117:F117) (y):TE [g117 c117] Tryz.f190 i190 o190 y=m190 c117 y:=by kernel_rfl
noncomputable def r190:F190:=m190 r117
theorem k190:KO (g190 r190):=fk (s190 r117) ⟨k117,⟨⟩⟩ (by kernel_rfl)
abbrev i215:Ts:=[.a q3]
abbrev o215:Ts:=[.a q6]
abbrev F215:=FT i215 o215
abbrev g215:=mkG 215 i215 o215
noncomputable def m215 (c117:F117) (y:PTup i215):Option (PTup o215×BTup i215):=
  (c117 (y.1.2.2.2.2.2.2.1,())).bind fun r0=>
  (c117 y.1.2.2.2.2.2.2.2).bind fun r1=>
  some (((y.1.1,(y.1.2.1,(y.1.2.2.1,(y.1.2.2.2.1,(y.1.2.2.2.2.1,(y.1.2.2.2.2.2.1,(r0.1.1,r1.1))))))),()),())
theorem s215 (c117:F117) (y):TE [g117 c117] Tryz.f215 i215 o215 y=m215 c117 y:=by kernel_rfl
noncomputable def r215:F215:=m215 r117
theorem k215:KO (g215 r215):=fk (s215 r117) ⟨k117,⟨⟩⟩ (by kernel_rfl)
abbrev i116:Ts:=[.v (.sl false .n)]
abbrev o116:Ts:=[.v (.sl true .n)]
abbrev F116:=FT i116 o116
abbrev g116:=mkG 116 i116 o116
abbrev lc116_0:Ts:=[.v (.sl false .n), .v (.int .i64)]
abbrev lb116_0:Ts:=[]
abbrev lv116_0:Ts:=[.v (.sl true .n), .v (.int .i64)]
abbrev lr116_0:Ts:=[]
abbrev R116_0:=Option (Sum (PTup lv116_0) (PTup lr116_0)×BTup lb116_0)
abbrev B116_0:=PTup lb116_0→PTup lv116_0→R116_0
abbrev A116_0:=PTup lc116_0→B116_0
noncomputable def w116_0 (c117:F117) (again:B116_0) (x:PTup lc116_0) (y:PTup lb116_0) (z:PTup lv116_0):R116_0:=
  bif (ltI z.2.1 x.2.1)then (bif (leI 0 z.2.1)then (bif (ltI z.2.1 (lenI x.1))then ((c117 ((rdE .n x.1 z.2.1),())).bind fun r0=>
     bif (leN ((List.length z.1)+(List.length (r0.1.1::[]))) (E.most .n))then (again () ((z.1++(r0.1.1::[])),((wI (z.2.1+1)),())))
     else none)
    else none)
   else none)
  else some ((Sum.inl z),())
noncomputable def e116_0 (l:A116_0):LoopE:=⟨[7,8],lc116_0,[],lb116_0,[3,9],lv116_0,[],lr116_0,0,[],l⟩
noncomputable def m116 (c117:F117) (l0:A116_0) (y:PTup i116):Option (PTup o116×BTup i116):=
  (l0 (y.1,((lenI y.1),())) () ([],((0:Int),()))).bind fun r0=>
  sumElim r0.1 (fun r1=>some ((r1.1,()),()))
  (fun r1=>some (([],()),()))
noncomputable def E116 (c117:F117) (l0:A116_0):CEnv:=⟨⟨Tryz.prog,fnsL [g117 c117]⟩,loopsL [(3,e116_0 l0)]⟩
theorem t116_0 (c117:F117) (l0:A116_0) (again) (x y z):loopRound (E116 c117 l0) (loopAt (bodyOf Tryz.f116) 0) (e116_0 l0) Tryz.f116.ntmps again x y z=w116_0 c117 again x y z:=by kernel_rfl
noncomputable def n116_0 (c117:F117):Nat→A116_0
  |0,_,_,_=>none
  |n+1,x,y,z=>w116_0 c117 (fun y z=>n116_0 c117 n x y z) x y z
theorem s116 (c117:F117) (l0:A116_0) (y):tevF (E116 c117 l0) Tryz.f116 i116 o116 y=m116 c117 l0 y:=by kernel_rfl
noncomputable def L116_0:A116_0:=n116_0 r117 fuel
noncomputable def r116:F116:=m116 r117 L116_0
theorem k116:KO (g116 r116):=by
  have hE: ∀g f,(E116 r117 L116_0).env.fns g=some f→CallOk Tryz.prog g f:=fnsL_ok ⟨k117,⟨⟩⟩
  have h0:LoopOk Tryz.prog Tryz.f116.ntmps (loopAt (bodyOf Tryz.f116) 0) (e116_0 L116_0):=lp_ok (E:=E116 r117 L116_0) rfl hE mixed (AllLoops.of_list (l:=[]) (by kernel_rfl) trivial) (n116_0 r117) (fun _ _ _=>rfl) (fun n x y z=>t116_0 r117 L116_0 _ x y z) rfl
  exact fn_ok (E:=E116 r117 L116_0) rfl hE mixed (by kernel_rfl) (by kernel_rfl) (AllLoops.of_list (l:=[(loopAt (bodyOf Tryz.f116) 0)]) (by kernel_rfl) (.one (by kernel_rfl) h0 trivial)) (s116 r117 L116_0)
abbrev i145:Ts:=[.a q7]
abbrev o145:Ts:=[.a q8]
abbrev F145:=FT i145 o145
abbrev g145:=mkG 145 i145 o145
noncomputable def m145 (c116:F116) (c189:F189) (c117:F117) (c190:F190) (c215:F215) (y:PTup i145):Option (PTup o145×BTup i145):=
  let a0:=y.1;let a1:=a0.2;let a2:=a1.2;let a3:=a2.2;let a4:=a3.2;let a5:=a4.2;let a6:=a5.2;let a7:=a6.2;let a8:=a7.2;let a9:=a8.2;let a10:=a9.2;let a11:=a10.2;let a12:=a11.2;let a13:=a12.2;let a14:=a13.2;let a15:=a14.2;let a16:=a15.2;let a17:=a16.2;let a18:=a17.2;let a19:=a18.2;let a20:=a19.2;let a21:=a20.2;let a22:=a21.2;let a23:=a22.2;let a24:=a23.2;let a25:=a24.2.2;let a26:=a25.2.2;(c189 ((a0.1,()),())).bind fun r0=>
  (c117 (a1.1,())).bind fun r1=>
  (c190 ((a2.1,(a3.1,())),())).bind fun r2=>
  (c215 ((a12.1,(a13.1,(a14.1,(a15.1,(a16.1,(a17.1,(a18.1,(a19.1,())))))))),())).bind fun r3=>
  (c116 (a26.2.2.2.1,())).bind fun r4=>
  (c117 (a26.2.2.2.2.1,())).bind fun r5=>
  (c117 a26.2.2.2.2.2).bind fun r6=>
  some (((r0.1.1.1,(r1.1.1,(r2.1.1.1,(r2.1.1.2.1,(a4.1,(a5.1,(a6.1,(a7.1,(a8.1,(a9.1,(a10.1,(a11.1,(r3.1.1.1,(r3.1.1.2.1,(r3.1.1.2.2.1,(r3.1.1.2.2.2.1,(r3.1.1.2.2.2.2.1,(r3.1.1.2.2.2.2.2.1,(r3.1.1.2.2.2.2.2.2.1,(r3.1.1.2.2.2.2.2.2.2.1,(a20.1,(a21.1,(a22.1,(a23.1,(a24.1,(a24.2.1,(a25.1,(a25.2.1,(a26.1,(a26.2.1,(a26.2.2.1,(r4.1.1,(r5.1.1,r6.1))))))))))))))))))))))))))))))))),()),())
theorem s145 (c116:F116) (c189:F189) (c117:F117) (c190:F190) (c215:F215) (y):TE [g116 c116,g189 c189,g117 c117,g190 c190,g215 c215] Tryz.f145 i145 o145 y=m145 c116 c189 c117 c190 c215 y:=by kernel_rfl
noncomputable def r145:F145:=m145 r116 r189 r117 r190 r215
theorem k145:KO (g145 r145):=fk (s145 r116 r189 r117 r190 r215) ⟨k116,k189,k117,k190,k215,⟨⟩⟩ (by kernel_rfl)
abbrev i226:Ts:=[.v (.int .i64)]
abbrev o226:Ts:=[.v (.int .i64)]
abbrev F226:=FT i226 o226
abbrev g226:=mkG 226 i226 o226
noncomputable def m226 (c140:F140) (y:PTup i226):Option (PTup o226×BTup i226):=
  bif (eqI y.1 1)then (some (((2:Int),()),()))
  else (c140 (y.1,((4:Int),((9:Int),())))).bind fun r0=>
  bif r0.1.1 then (some (((2:Int),()),()))
  else bif (eqI y.1 2)then (some (((3:Int),()),()))
  else bif (eqI y.1 3)then (some (((3:Int),()),()))
  else (c140 (y.1,((14:Int),((20:Int),())))).bind fun r1=>
  bif r1.1.1 then (some (((3:Int),()),()))
  else bif (eqI y.1 29)then (some (((3:Int),()),()))
  else some (((1:Int),()),())
theorem s226 (c140:F140) (y):TE [g140 c140] Tryz.f226 i226 o226 y=m226 c140 y:=by kernel_rfl
noncomputable def r226:F226:=m226 r140
theorem k226:KO (g226 r226):=fk (s226 r140) ⟨k140,⟨⟩⟩ (by kernel_rfl)
abbrev i156:Ts:=[.a q0, .a q1, .v (.int .i64)]
abbrev o156:Ts:=[.a q9]
abbrev F156:=FT i156 o156
abbrev g156:=mkG 156 i156 o156
noncomputable def m156 (c227:F227) (c226:F226) (c225:F225) (y:PTup i156):Option (PTup o156×BTup i156):=
  (c225 y).bind fun r0=>
  (c226 r0.1).bind fun r1=>
  bif (eqI r1.1.1 2)then ((c225 (y.1,(y.2.1,((wI (y.2.2.1+1)),())))).bind fun r2=>
   some (((r0.1.1,r2.1),()),()))
  else bif (eqI r1.1.1 3)then ((c225 (y.1,(y.2.1,((wI (y.2.2.1+1)),())))).bind fun r2=>
   (c225 (y.1,(y.2.1,((wI (y.2.2.1+2)),())))).bind fun r3=>
   (c227 (r2.1.1,r3.1)).bind fun r4=>
   some (((r0.1.1,r4.1),()),()))
  else some (((r0.1.1,((0:Int),())),()),())
theorem s156 (c227:F227) (c226:F226) (c225:F225) (y):TE [g227 c227,g226 c226,g225 c225] Tryz.f156 i156 o156 y=m156 c227 c226 c225 y:=by kernel_rfl
noncomputable def r156:F156:=m156 r227 r226 r225
theorem k156:KO (g156 r156):=fk (s156 r227 r226 r225) ⟨k227,k226,k225,⟨⟩⟩ (by kernel_rfl)
abbrev i43:Ts:=[.v (.int .i64)]
abbrev o43:Ts:=[.v (.int .i64)]
abbrev R43:=Option (PTup o43×BTup i43)
abbrev F43:=PTup i43→R43
abbrev g43:=mkG 43 i43 o43
noncomputable def m43 (y:PTup i43):R43:=
  let X0:R43:=bif (eqI y.1 15)then (some (((5:Int),()),()))else bif (eqI y.1 16)then (bif (eqI y.1 16)then (some (((3:Int),()),()))else bif (eqI y.1 20)then (bif (eqI y.1 20)then (some (((6:Int),()),()))else some (((2:Int),()),()))else bif (eqI y.1 21)then (bif (eqI y.1 21)then (some (((6:Int),()),()))else some (((2:Int),()),()))else bif (eqI y.1 24)then (some (((6:Int),()),()))else some (((2:Int),()),()))else bif (eqI y.1 17)then (bif (eqI y.1 17)then (some (((3:Int),()),()))else bif (eqI y.1 20)then (bif (eqI y.1 20)then (some (((6:Int),()),()))else some (((2:Int),()),()))else bif (eqI y.1 21)then (bif (eqI y.1 21)then (some (((6:Int),()),()))else some (((2:Int),()),()))else bif (eqI y.1 24)then (some (((6:Int),()),()))else some (((2:Int),()),()))else bif (eqI y.1 18)then (bif (eqI y.1 18)then (some (((3:Int),()),()))else bif (eqI y.1 20)then (bif (eqI y.1 20)then (some (((6:Int),()),()))else some (((2:Int),()),()))else bif (eqI y.1 21)then (bif (eqI y.1 21)then (some (((6:Int),()),()))else some (((2:Int),()),()))else bif (eqI y.1 24)then (some (((6:Int),()),()))else some (((2:Int),()),()))else bif (eqI y.1 19)then (bif (eqI y.1 19)then (some (((3:Int),()),()))else bif (eqI y.1 20)then (bif (eqI y.1 20)then (some (((6:Int),()),()))else some (((2:Int),()),()))else bif (eqI y.1 21)then (bif (eqI y.1 21)then (some (((6:Int),()),()))else some (((2:Int),()),()))else bif (eqI y.1 24)then (some (((6:Int),()),()))else some (((2:Int),()),()))else bif (eqI y.1 22)then (some (((3:Int),()),()))else bif (eqI y.1 20)then (bif (eqI y.1 20)then (some (((6:Int),()),()))else some (((2:Int),()),()))else bif (eqI y.1 21)then (bif (eqI y.1 21)then (some (((6:Int),()),()))else some (((2:Int),()),()))else bif (eqI y.1 24)then (some (((6:Int),()),()))else some (((2:Int),()),());bif (eqI y.1 2)then (bif (eqI y.1 2)then (some (((4:Int),()),()))else X0)else bif (eqI y.1 3)then (bif (eqI y.1 3)then (some (((4:Int),()),()))else X0)else bif (eqI y.1 14)then (bif (eqI y.1 14)then (some (((4:Int),()),()))else X0)else bif (eqI y.1 23)then (bif (eqI y.1 23)then (some (((4:Int),()),()))else X0)else bif (eqI y.1 29)then (some (((4:Int),()),()))else X0
theorem s43 (y):TE [] Tryz.f43 i43 o43 y=m43 y:=by kernel_rfl
noncomputable def r43:F43:=m43
theorem k43:KO (g43 r43):=fk (s43) trivial (by kernel_rfl)
abbrev i308:Ts:=[.p q5, .p q2, .v (.int .i64)]
abbrev o308:Ts:=[]
abbrev F308:=FT i308 o308
abbrev g308:=mkG 308 i308 o308
noncomputable def m308 (c266:F266) (y:PTup i308):Option (PTup o308×BTup i308):=
  bif (neI (lenI y.1.1) 512)then (some ((),(y.1,(y.2.1,()))))
  else (c266 (y.2.1.2.2.1,())).bind fun r0=>
  (c266 y.2.2).bind fun r1=>
  bif (leI 0 (wI ((256:Int)+r0.1.1)))then (bif (ltI (wI ((256:Int)+r0.1.1)) (lenI y.1.1))then ((c266 ((wI (y.2.1.2.2.1-1)),())).bind fun r2=>
    some ((),(((List.set y.1.1 (Int.toNat (wI ((256:Int)+r0.1.1))) r1.1.1),y.1.2),((y.2.1.1,(y.2.1.2.1,(r2.1.1,y.2.1.2.2.2))),()))))
   else none)
  else none
theorem s308 (c266:F266) (y):TE [g266 c266] Tryz.f308 i308 o308 y=m308 c266 y:=by kernel_rfl
noncomputable def r308:F308:=m308 r266
theorem k308:KO (g308 r308):=fk (s308 r266) ⟨k266,⟨⟩⟩ (by kernel_rfl)
abbrev i307:Ts:=[.p q5, .p q2]
abbrev o307:Ts:=[]
abbrev F307:=FT i307 o307
abbrev g307:=mkG 307 i307 o307
noncomputable def m307 (c308:F308) (y:PTup i307):Option (PTup o307×BTup i307):=
  (c308 (y.1,(y.2.1,((Int.fdiv y.2.1.2.2.2.1 ((2:Int)^(Min.min (Int.toNat (8:Int)) (64:Nat)))),())))).bind fun r0=>
  (c308 (r0.2.1,(r0.2.2.1,(r0.2.2.1.2.2.2.1,())))).bind fun r1=>
  some ((),(r1.2.1,(r1.2.2.1,())))
theorem s307 (c308:F308) (y):TE [g308 c308] Tryz.f307 i307 o307 y=m307 c308 y:=by kernel_rfl
noncomputable def r307:F307:=m307 r308
theorem k307:KO (g307 r307):=fk (s307 r308) ⟨k308,⟨⟩⟩ (by kernel_rfl)
abbrev i166:Ts:=[.v (.bool)]
abbrev o166:Ts:=[.v (.int .i64)]
abbrev F166:=FT i166 o166
abbrev g166:=mkG 166 i166 o166
noncomputable def m166 (y:PTup i166):Option (PTup o166×BTup i166):=
  bif y.1 then (some (((1:Int),()),()))
  else some (((0:Int),()),())
theorem s166 (y):TE [] Tryz.f166 i166 o166 y=m166 y:=by kernel_rfl
noncomputable def r166:F166:=m166
theorem k166:KO (g166 r166):=fk (s166) trivial (by kernel_rfl)
abbrev i309:Ts:=[.a q2]
abbrev o309:Ts:=[.v (.int .i64)]
abbrev F309:=FT i309 o309
abbrev g309:=mkG 309 i309 o309
noncomputable def m309 (c166:F166) (y:PTup i309):Option (PTup o309×BTup i309):=
  (c166 (y.1.2.2.2.2.2.2.1,())).bind fun r0=>
  (c166 (y.1.2.2.2.2.1,())).bind fun r1=>
  (c166 y.1.2.2.2.2.2.2.2).bind fun r2=>
  (c166 (y.1.2.2.2.2.2.1,())).bind fun r3=>
  some (((bOr Go.IntKind.i64 (bOr Go.IntKind.i64 (bOr Go.IntKind.i64 (wI ((1:Int)*r0.1.1)) (wI ((2:Int)*r1.1.1))) (wI ((4:Int)*r2.1.1))) (wI ((128:Int)*r3.1.1))),()),())
theorem s309 (c166:F166) (y):TE [g166 c166] Tryz.f309 i309 o309 y=m309 c166 y:=by kernel_rfl
noncomputable def r309:F309:=m309 r166
theorem k309:KO (g309 r309):=fk (s309 r166) ⟨k166,⟨⟩⟩ (by kernel_rfl)
abbrev i273:Ts:=[.p q5, .p q2, .v (.int .i64)]
abbrev o273:Ts:=[]
abbrev F273:=FT i273 o273
abbrev g273:=mkG 273 i273 o273
noncomputable def m273 (c308:F308) (c307:F307) (c309:F309) (y:PTup i273):Option (PTup o273×BTup i273):=
  (c307 (y.1,(y.2.1,()))).bind fun r0=>
  (c309 (r0.2.2.1,())).bind fun r1=>
  (c308 (r0.2.1,(r0.2.2.1,r1.1))).bind fun r2=>
  some ((),(r2.2.1,((r2.2.2.1.1,(r2.2.2.1.2.1,(r2.2.2.1.2.2.1,(y.2.2.1,(r2.2.2.1.2.2.2.2.1,(r2.2.2.1.2.2.2.2.2.1,(r2.2.2.1.2.2.2.2.2.2.1,(true,())))))))),())))
theorem s273 (c308:F308) (c307:F307) (c309:F309) (y):TE [g308 c308,g307 c307,g309 c309] Tryz.f273 i273 o273 y=m273 c308 c307 c309 y:=by kernel_rfl
noncomputable def r273:F273:=m273 r308 r307 r309
theorem k273:KO (g273 r273):=fk (s273 r308 r307 r309) ⟨k308,k307,k309,⟨⟩⟩ (by kernel_rfl)
abbrev i216:Ts:=[.p [.sl false .n, .sl false .i, .sl true .i, .int .i64, .int .i64, .int .i64, .int .i64, .int .i64, .bool, .bool, .bool, .bool, .int .i64, .int .i64, .int .i64, .int .i64, .int .i64, .bool, .sl false .i, .sl false .i, .int .i64, .int .i64, .int .i64, .int .i64, .int .i64, .bool, .bool, .bool, .int .i64, .bool, .int .i64, .sl false .n, .sl false .i, .sl false .i], .v (.int .i64)]
abbrev o216:Ts:=[]
abbrev F216:=FT i216 o216
abbrev g216:=mkG 216 i216 o216
noncomputable def m216 (c273:F273) (c227:F227) (c225:F225) (y:PTup i216):Option (PTup o216×BTup i216):=
  (c225 ((y.1.1,()),((y.1.2.2.1,(y.1.2.2.2.1,())),y.2))).bind fun r0=>
  (c225 ((y.1.1,()),((y.1.2.2.1,(y.1.2.2.2.1,())),((wI (y.2.1+1)),())))).bind fun r1=>
  (c227 (r0.1.1,r1.1)).bind fun r2=>
  (c273 ((y.1.2.2.1,(y.1.2.2.2.1,())),((y.1.2.2.2.2.1,(y.1.2.2.2.2.2.1,(y.1.2.2.2.2.2.2.1,(y.1.2.2.2.2.2.2.2.1,(y.1.2.2.2.2.2.2.2.2.1,(y.1.2.2.2.2.2.2.2.2.2.1,(y.1.2.2.2.2.2.2.2.2.2.2.1,(y.1.2.2.2.2.2.2.2.2.2.2.2.1,())))))))),r2.1))).bind fun r3=>
  some ((),((y.1.1,(y.1.2.1,(r3.2.1.1,(r3.2.1.2.1,(r3.2.2.1.1,(r3.2.2.1.2.1,(r3.2.2.1.2.2.1,(r3.2.2.1.2.2.2.1,(r3.2.2.1.2.2.2.2.1,(r3.2.2.1.2.2.2.2.2.1,(r3.2.2.1.2.2.2.2.2.2.1,(r3.2.2.1.2.2.2.2.2.2.2.1,y.1.2.2.2.2.2.2.2.2.2.2.2.2)))))))))))),()))
theorem s216 (c273:F273) (c227:F227) (c225:F225) (y):TE [g273 c273,g227 c227,g225 c225] Tryz.f216 i216 o216 y=m216 c273 c227 c225 y:=by kernel_rfl
noncomputable def r216:F216:=m216 r273 r227 r225
theorem k216:KO (g216 r216):=fk (s216 r273 r227 r225) ⟨k273,k227,k225,⟨⟩⟩ (by kernel_rfl)
abbrev i264:Ts:=[.v (.int .i64)]
abbrev o264:Ts:=[.v (.int .i64)]
abbrev R264:=Option (PTup o264×BTup i264)
abbrev F264:=PTup i264→R264
abbrev g264:=mkG 264 i264 o264
noncomputable def m264 (y:PTup i264):R264:=
  let X0:R264:=bif (eqI y.1 3)then (bif (eqI y.1 3)then (some (((2:Int),()),()))else some (((0:Int),()),()))else bif (eqI y.1 15)then (some (((2:Int),()),()))else some (((0:Int),()),());bif (eqI y.1 2)then (bif (eqI y.1 2)then (some (((1:Int),()),()))else X0)else bif (eqI y.1 14)then (bif (eqI y.1 14)then (some (((1:Int),()),()))else X0)else bif (eqI y.1 29)then (some (((1:Int),()),()))else X0
theorem s264 (y):TE [] Tryz.f264 i264 o264 y=m264 y:=by kernel_rfl
noncomputable def r264:F264:=m264
theorem k264:KO (g264 r264):=fk (s264) trivial (by kernel_rfl)
abbrev i205:Ts:=[.a q9, .a q2]
abbrev o205:Ts:=[.v (.int .i64), .v (.int .i64), .v (.int .i64)]
abbrev R205:=Option (PTup o205×BTup i205)
abbrev F205:=PTup i205→R205
abbrev g205:=mkG 205 i205 o205
noncomputable def m205 (c265:F265) (c266:F266) (c264:F264) (y:PTup i205):R205:=
  (c264 (y.1.1,())).bind fun r0=>let X0:R205:=(c265 ((wI (y.1.2.1+y.2.1.2.1)),())).bind fun r2=>bif (eqI r0.1.1 1)then (some ((r0.1.1,(r2.1.1,((0:Int),()))),()))else bif (eqI r0.1.1 2)then ((c266 (y.2.1.1,())).bind fun r3=>some ((r0.1.1,(r2.1.1,r3.1)),()))else some (((0:Int),((0:Int),((0:Int),()))),());(c265 y.1.2).bind fun r1=>bif (eqI y.1.1 14)then X0 else bif (eqI y.1.1 15)then X0 else bif (eqI r0.1.1 1)then (some ((r0.1.1,(r1.1.1,((0:Int),()))),()))else bif (eqI r0.1.1 2)then ((c266 (y.2.1.1,())).bind fun r2=>some ((r0.1.1,(r1.1.1,r2.1)),()))else some (((0:Int),((0:Int),((0:Int),()))),())
theorem s205 (c265:F265) (c266:F266) (c264:F264) (y):TE [g265 c265,g266 c266,g264 c264] Tryz.f205 i205 o205 y=m205 c265 c266 c264 y:=by kernel_rfl
noncomputable def r205:F205:=m205 r265 r266 r264
theorem k205:KO (g205 r205):=fk (s205 r265 r266 r264) ⟨k265,k266,k264,⟨⟩⟩ (by kernel_rfl)
abbrev i325:Ts:=[.p q3]
abbrev o325:Ts:=[]
abbrev F325:=FT i325 o325
abbrev g325:=mkG 325 i325 o325
noncomputable def m325 (y:PTup i325):Option (PTup o325×BTup i325):=
  some ((),((y.1.1,(y.1.2.1,(y.1.2.2.1,((Int.tmod (wI (y.1.2.2.2.1+1)) (16:Int)),y.1.2.2.2.2)))),()))
theorem s325 (y):TE [] Tryz.f325 i325 o325 y=m325 y:=by kernel_rfl
noncomputable def r325:F325:=m325
theorem k325:KO (g325 r325):=fk (s325) trivial (by kernel_rfl)
abbrev i310:Ts:=[.p q3, .v (.int .i64)]
abbrev o310:Ts:=[.v (.int .i64)]
abbrev F310:=FT i310 o310
abbrev g310:=mkG 310 i310 o310
noncomputable def m310 (c325:F325) (c166:F166) (y:PTup i310):Option (PTup o310×BTup i310):=
  bif (eqI y.2.1 2)then ((c166 (y.1.2.2.2.2.2.1,())).bind fun r0=>
   some (((wI ((128:Int)*r0.1.1)),()),((y.1.1,(y.1.2.1,(y.1.2.2.1,(y.1.2.2.2.1,(y.1.2.2.2.2.1,(false,y.1.2.2.2.2.2.2)))))),())))
  else bif (eqI y.2.1 4)then (bif (leI 0 y.1.2.2.2.1)then (bif (ltI y.1.2.2.2.1 (lenI y.1.2.2.2.2.2.2.1))then ((c325 (y.1,())).bind fun r0=>
     some (((rdE .i y.1.2.2.2.2.2.2.1 y.1.2.2.2.1),()),((r0.2.1.1,(r0.2.1.2.1,(r0.2.1.2.2.1,(r0.2.1.2.2.2.1,(r0.2.1.2.2.2.2.1,(r0.2.1.2.2.2.2.2.1,y.1.2.2.2.2.2.2)))))),())))
    else none)
   else none)
  else some (((0:Int),()),(y.1,()))
theorem s310 (c325:F325) (c166:F166) (y):TE [g325 c325,g166 c166] Tryz.f310 i310 o310 y=m310 c325 c166 y:=by kernel_rfl
noncomputable def r310:F310:=m310 r325 r166
theorem k310:KO (g310 r310):=fk (s310 r325 r166) ⟨k325,k166,⟨⟩⟩ (by kernel_rfl)
abbrev i311:Ts:=[.a q4, .v (.int .i64)]
abbrev o311:Ts:=[.a q4, .v (.int .i64)]
abbrev F311:=FT i311 o311
abbrev g311:=mkG 311 i311 o311
noncomputable def m311 (c150:F150) (c166:F166) (y:PTup i311):Option (PTup o311×BTup i311):=
  bif (neI y.2.1 2)then (some ((y.1,((0:Int),())),()))
  else (c150 (y.1,())).bind fun r0=>
  bif (!r0.1.1)then (some ((y.1,((0:Int),())),()))
  else (c166 y.1.2.2.2.2.2.2).bind fun r1=>
  (c166 ((ltI 0 y.1.2.2.2.2.1),())).bind fun r2=>
  some (((y.1.1,(y.1.2.1,(y.1.2.2.1,(y.1.2.2.2.1,(y.1.2.2.2.2.1,(y.1.2.2.2.2.2.1,(false,()))))))),((wI ((wI ((128:Int)*r1.1.1))+r2.1.1)),())),())
theorem s311 (c150:F150) (c166:F166) (y):TE [g150 c150,g166 c166] Tryz.f311 i311 o311 y=m311 c150 c166 y:=by kernel_rfl
noncomputable def r311:F311:=m311 r150 r166
theorem k311:KO (g311 r311):=fk (s311 r150 r166) ⟨k150,k166,⟨⟩⟩ (by kernel_rfl)
abbrev i342:Ts:=[.v (.int .i64)]
abbrev o342:Ts:=[.v (.int .i64)]
abbrev F342:=FT i342 o342
abbrev g342:=mkG 342 i342 o342
noncomputable def m342 (y:PTup i342):Option (PTup o342×BTup i342):=
  some (((wI (Int.tdiv (mxI y.1 (0:Int)) (64:Int))),()),())
theorem s342 (y):TE [] Tryz.f342 i342 o342 y=m342 y:=by kernel_rfl
noncomputable def r342:F342:=m342
theorem k342:KO (g342 r342):=fk (s342) trivial (by kernel_rfl)
abbrev i329:Ts:=[.v (.sl false .i), .v (.int .i64)]
abbrev o329:Ts:=[.v (.int .i64)]
abbrev F329:=FT i329 o329
abbrev g329:=mkG 329 i329 o329
noncomputable def m329 (c342:F342) (c134:F134) (y:PTup i329):Option (PTup o329×BTup i329):=
  (c134 (y.1,())).bind fun r0=>
  bif (!r0.1.1)then (some (((0:Int),()),()))
  else bif (eqI (lenI y.1) 0)then (some (((0:Int),()),()))
  else (c342 y.2).bind fun r1=>
  bif (neI (lenI y.1) 0)then (bif (leI 0 (Int.tmod r1.1.1 (lenI y.1)))then (bif (ltI (Int.tmod r1.1.1 (lenI y.1)) (lenI y.1))then (some (((rdE .i y.1 (Int.tmod r1.1.1 (lenI y.1))),()),()))
    else none)
   else none)
  else none
theorem s329 (c342:F342) (c134:F134) (y):TE [g342 c342,g134 c134] Tryz.f329 i329 o329 y=m329 c342 c134 y:=by kernel_rfl
noncomputable def r329:F329:=m329 r342 r134
theorem k329:KO (g329 r329):=fk (s329 r342 r134) ⟨k342,k134,⟨⟩⟩ (by kernel_rfl)
abbrev i312:Ts:=[.a q10, .v (.sl false .i), .v (.int .i64)]
abbrev o312:Ts:=[.a q10, .v (.int .i64)]
abbrev F312:=FT i312 o312
abbrev g312:=mkG 312 i312 o312
noncomputable def m312 (c329:F329) (y:PTup i312):Option (PTup o312×BTup i312):=
  bif y.1.1 then ((c329 y.2).bind fun r0=>
   some (((true,r0.1),((bAnd Go.IntKind.i64 r0.1.1 (1:Int)),())),()))
  else some (((false,((Int.fdiv y.1.2.1 ((2:Int)^(Min.min (Int.toNat (1:Int)) (64:Nat)))),())),((bAnd Go.IntKind.i64 y.1.2.1 (1:Int)),())),())
theorem s312 (c329:F329) (y):TE [g329 c329] Tryz.f312 i312 o312 y=m312 c329 y:=by kernel_rfl
noncomputable def r312:F312:=m312 r329
theorem k312:KO (g312 r312):=fk (s312 r329) ⟨k329,⟨⟩⟩ (by kernel_rfl)
abbrev i274:Ts:=[.p [.sl false .n, .sl false .i, .sl false .i, .int .i64, .int .i64, .int .i64, .int .i64, .int .i64, .bool, .bool, .bool, .bool, .int .i64, .int .i64, .int .i64, .int .i64, .int .i64, .bool, .sl false .i, .sl false .i, .int .i64, .int .i64, .int .i64, .int .i64, .int .i64, .bool, .bool, .bool, .int .i64, .bool, .int .i64, .sl false .n, .sl false .i, .sl true .i], .v (.int .i64)]
abbrev o274:Ts:=[.v (.int .i64)]
abbrev F274:=FT i274 o274
abbrev g274:=mkG 274 i274 o274
noncomputable def m274 (c310:F310) (c311:F311) (c312:F312) (c206:F206) (c225:F225) (y:PTup i274):Option (PTup o274×BTup i274):=
  let a0:=y.1;let a1:=a0.2;let a2:=a1.2;let a3:=a2.2;let a4:=a3.2;let a5:=a4.2;let a6:=a5.2;let a7:=a6.2;let a8:=a7.2;let a9:=a8.2;let a10:=a9.2;let a11:=a10.2;let a12:=a11.2;let a13:=a12.2;let a14:=a13.2;let a15:=a14.2;let a16:=a15.2;let a17:=a16.2;let a18:=a17.2;let a19:=a18.2;let a20:=a19.2;let a21:=a20.2;let a22:=a21.2;let a23:=a22.2;let a24:=a23.2;let a25:=a24.2;let a26:=a25.2;let a27:=a26.2;let a28:=a27.2;let a29:=a28.2;let a30:=a29.2;let a31:=a30.2;let a32:=a31.2.2;(c206 y.2).bind fun r0=>
  bif (eqI r0.1.1 2)then ((c310 ((a12.1,(a13.1,(a14.1,(a15.1,(a16.1,(a17.1,(a18.1,(a19.1,())))))))),r0.1.2)).bind fun r1=>
   bif (leN ((List.length a32.1)+(List.length (r1.1.1::[]))) (E.most .i))then (some (r1.1,((a0.1,(a1.1,(a2.1,(a3.1,(a4.1,(a5.1,(a6.1,(a7.1,(a8.1,(a9.1,(a10.1,(a11.1,(r1.2.1.1,(r1.2.1.2.1,(r1.2.1.2.2.1,(r1.2.1.2.2.2.1,(r1.2.1.2.2.2.2.1,(r1.2.1.2.2.2.2.2.1,(a18.1,(a19.1,(a20.1,(a21.1,(a22.1,(a23.1,(a24.1,(a25.1,(a26.1,(a27.1,(a28.1,(a29.1,(a30.1,(a31.1,(a31.2.1,((a32.1++(r1.1.1::[])),())))))))))))))))))))))))))))))))))),())))
   else none)
  else bif (eqI r0.1.1 3)then ((c311 ((a20.1,(a21.1,(a22.1,(a23.1,(a24.1,(a25.1,(a26.1,()))))))),r0.1.2)).bind fun r1=>
   bif (leN ((List.length a32.1)+(List.length (r1.1.2.1::[]))) (E.most .i))then (some (r1.1.2,((a0.1,(a1.1,(a2.1,(a3.1,(a4.1,(a5.1,(a6.1,(a7.1,(a8.1,(a9.1,(a10.1,(a11.1,(a12.1,(a13.1,(a14.1,(a15.1,(a16.1,(a17.1,(a18.1,(a19.1,(r1.1.1.1,(r1.1.1.2.1,(r1.1.1.2.2.1,(r1.1.1.2.2.2.1,(r1.1.1.2.2.2.2.1,(r1.1.1.2.2.2.2.2.1,(r1.1.1.2.2.2.2.2.2.1,(a27.1,(a28.1,(a29.1,(a30.1,(a31.1,(a31.2.1,((a32.1++(r1.1.2.1::[])),())))))))))))))))))))))))))))))))))),())))
   else none)
  else bif (eqI r0.1.1 4)then ((c312 ((a27.1,(a28.1,())),(a1.1,(a12.1,())))).bind fun r1=>
   bif (leN ((List.length a32.1)+(List.length (r1.1.2.1::[]))) (E.most .i))then (some (r1.1.2,((a0.1,(a1.1,(a2.1,(a3.1,(a4.1,(a5.1,(a6.1,(a7.1,(a8.1,(a9.1,(a10.1,(a11.1,(a12.1,(a13.1,(a14.1,(a15.1,(a16.1,(a17.1,(a18.1,(a19.1,(a20.1,(a21.1,(a22.1,(a23.1,(a24.1,(a25.1,(a26.1,(r1.1.1.1,(r1.1.1.2.1,(a29.1,(a30.1,(a31.1,(a31.2.1,((a32.1++(r1.1.2.1::[])),())))))))))))))))))))))))))))))))))),())))
   else none)
  else bif (eqI r0.1.1 7)then (some (((0:Int),()),(a0,())))
  else (c225 ((a0.1,()),((a2.1,(a3.1,())),y.2))).bind fun r1=>
  some (r1.1,(a0,()))
theorem s274 (c310:F310) (c311:F311) (c312:F312) (c206:F206) (c225:F225) (y):TE [g310 c310,g311 c311,g312 c312,g206 c206,g225 c225] Tryz.f274 i274 o274 y=m274 c310 c311 c312 c206 c225 y:=by kernel_rfl
noncomputable def r274:F274:=m274 r310 r311 r312 r206 r225
theorem k274:KO (g274 r274):=fk (s274 r310 r311 r312 r206 r225) ⟨k310,k311,k312,k206,k225,⟨⟩⟩ (by kernel_rfl)
abbrev i298:Ts:=[.p [.int .i64, .int .i64, .int .i64, .int .i64, .int .i64, .bool, .sl true .i, .sl false .i], .v (.int .i64), .v (.int .i64)]
abbrev o298:Ts:=[]
abbrev F298:=FT i298 o298
abbrev g298:=mkG 298 i298 o298
noncomputable def m298 (c325:F325) (c266:F266) (y:PTup i298):Option (PTup o298×BTup i298):=
  (c266 y.2.2).bind fun r0=>
  bif (eqI y.2.1 0)then (some ((),((y.1.1,(r0.1.1,y.1.2.2)),())))
  else bif (eqI y.2.1 1)then (some ((),((y.1.1,(y.1.2.1,(r0.1.1,y.1.2.2.2))),())))
  else bif (eqI y.2.1 3)then (some ((),((y.1.1,(y.1.2.1,(y.1.2.2.1,((Int.tmod r0.1.1 16),y.1.2.2.2.2)))),())))
  else bif (eqI y.2.1 4)then (bif (leI 0 y.1.2.2.2.1)then (bif (ltI y.1.2.2.2.1 (lenI y.1.2.2.2.2.2.2.1))then ((c325 ((y.1.1,(y.1.2.1,(y.1.2.2.1,(y.1.2.2.2.1,(y.1.2.2.2.2.1,(y.1.2.2.2.2.2.1,((List.set y.1.2.2.2.2.2.2.1 (Int.toNat y.1.2.2.2.1) (Int.tmod r0.1.1 64)),y.1.2.2.2.2.2.2.2))))))),())).bind fun r1=>
     some ((),((r1.2.1.1,(r1.2.1.2.1,(r1.2.1.2.2.1,(r1.2.1.2.2.2.1,(r1.2.1.2.2.2.2.1,(r1.2.1.2.2.2.2.2.1,((List.set y.1.2.2.2.2.2.2.1 (Int.toNat y.1.2.2.2.1) (Int.tmod r0.1.1 64)),y.1.2.2.2.2.2.2.2))))))),())))
    else none)
   else none)
  else bif (eqI y.2.1 5)then (some ((),((y.1.1,(y.1.2.1,(y.1.2.2.1,(y.1.2.2.2.1,((Int.tmod r0.1.1 64),y.1.2.2.2.2.2))))),())))
  else some ((),(y.1,()))
theorem s298 (c325:F325) (c266:F266) (y):TE [g325 c325,g266 c266] Tryz.f298 i298 o298 y=m298 c325 c266 y:=by kernel_rfl
noncomputable def r298:F298:=m298 r325 r266
theorem k298:KO (g298 r298):=fk (s298 r325 r266) ⟨k325,k266,⟨⟩⟩ (by kernel_rfl)
abbrev i299:Ts:=[.a q4, .v (.int .i64), .v (.int .i64)]
abbrev o299:Ts:=[.a q4]
abbrev F299:=FT i299 o299
abbrev g299:=mkG 299 i299 o299
noncomputable def m299 (c150:F150) (c266:F266) (y:PTup i299):Option (PTup o299×BTup i299):=
  (c150 (y.1,())).bind fun r0=>
  bif (!r0.1.1)then (some ((y.1,()),()))
  else (c266 y.2.2).bind fun r1=>
  bif (eqI y.2.1 0)then (some (((y.1.1,(r1.1.1,y.1.2.2)),()),()))
  else bif (eqI y.2.1 1)then (some (((y.1.1,(y.1.2.1,(y.1.2.2.1,(y.1.2.2.2.1,((Int.tmod r1.1.1 32),y.1.2.2.2.2.2))))),()),()))
  else bif (eqI y.2.1 2)then (bif y.1.2.2.2.2.2.2.1 then (some (((y.1.1,(y.1.2.1,(y.1.2.2.1,(y.1.2.2.2.1,(y.1.2.2.2.2.1,((eqI (Int.tmod r1.1.1 2) (1:Int)),((eqI (Int.tmod r1.1.1 2) (1:Int)),()))))))),()),()))
   else some (((y.1.1,(y.1.2.1,(y.1.2.2.1,(y.1.2.2.2.1,(y.1.2.2.2.2.1,((eqI (Int.tmod r1.1.1 2) (1:Int)),(false,()))))))),()),()))
  else bif (eqI y.2.1 3)then (some (((y.1.1,(y.1.2.1,(y.1.2.2.1,(y.1.2.2.2.1,(y.1.2.2.2.2.1,(y.1.2.2.2.2.2.1,(false,()))))))),()),()))
  else some ((y.1,()),())
theorem s299 (c150:F150) (c266:F266) (y):TE [g150 c150,g266 c266] Tryz.f299 i299 o299 y=m299 c150 c266 y:=by kernel_rfl
noncomputable def r299:F299:=m299 r150 r266
theorem k299:KO (g299 r299):=fk (s299 r150 r266) ⟨k150,k266,⟨⟩⟩ (by kernel_rfl)
abbrev i313:Ts:=[.a q10, .v (.sl false .i), .v (.int .i64), .v (.int .i64)]
abbrev o313:Ts:=[.a q10]
abbrev F313:=FT i313 o313
abbrev g313:=mkG 313 i313 o313
noncomputable def m313 (c329:F329) (y:PTup i313):Option (PTup o313×BTup i313):=
  bif (eqI (bAnd Go.IntKind.i64 y.2.2.2.1 (1:Int)) (1:Int))then ((c329 (y.2.1,(y.2.2.1,()))).bind fun r0=>
   some ((((eqI (bAnd Go.IntKind.i64 y.2.2.2.1 (1:Int)) (1:Int)),r0.1),()),()))
  else bif y.1.1 then ((c329 (y.2.1,(y.2.2.1,()))).bind fun r0=>
   some ((((eqI (bAnd Go.IntKind.i64 y.2.2.2.1 (1:Int)) (1:Int)),r0.1),()),()))
  else some ((((eqI (bAnd Go.IntKind.i64 y.2.2.2.1 (1:Int)) (1:Int)),y.1.2),()),())
theorem s313 (c329:F329) (y):TE [g329 c329] Tryz.f313 i313 o313 y=m313 c329 y:=by kernel_rfl
noncomputable def r313:F313:=m313 r329
theorem k313:KO (g313 r313):=fk (s313 r329) ⟨k329,⟨⟩⟩ (by kernel_rfl)
abbrev i314:Ts:=[.p q5, .a q0, .v (.int .i64), .v (.int .i64)]
abbrev o314:Ts:=[]
abbrev R314:=Option (PTup o314×BTup i314)
abbrev F314:=PTup i314→R314
abbrev g314:=mkG 314 i314 o314
noncomputable def m314 (c266:F266) (c206:F206) (y:PTup i314):R314:=
  let X0:R314:=(c266 y.2.2.2).bind fun r1=>bif (neI (lenI y.2.1.1) 0)then (some ((),((y.1.1,((Int.tmod r1.1.1 (lenI y.2.1.1)),())),())))else none;(c206 (y.2.2.1,())).bind fun r0=>bif (eqI r0.1.1 1)then ((c266 y.2.2.2).bind fun r1=>bif (leI 0 r0.1.2.1)then (bif (ltI r0.1.2.1 (lenI y.1.1))then (some ((),(((List.set y.1.1 (Int.toNat r0.1.2.1) r1.1.1),y.1.2),())))else none)else none)else bif (eqI r0.1.1 5)then (bif (eqI r0.1.1 5)then X0 else some ((),(y.1,())))else bif (eqI r0.1.1 6)then X0 else some ((),(y.1,()))
theorem s314 (c266:F266) (c206:F206) (y):TE [g266 c266,g206 c206] Tryz.f314 i314 o314 y=m314 c266 c206 y:=by kernel_rfl
noncomputable def r314:F314:=m314 r266 r206
theorem k314:KO (g314 r314):=fk (s314 r266 r206) ⟨k266,k206,⟨⟩⟩ (by kernel_rfl)
abbrev i275:Ts:=[.p [.sl false .n, .sl false .i, .sl true .i, .int .i64, .int .i64, .int .i64, .int .i64, .int .i64, .bool, .bool, .bool, .bool, .int .i64, .int .i64, .int .i64, .int .i64, .int .i64, .bool, .sl true .i, .sl false .i, .int .i64, .int .i64, .int .i64, .int .i64, .int .i64, .bool, .bool, .bool, .int .i64, .bool, .int .i64, .sl false .n, .sl false .i, .sl false .i], .v (.int .i64), .v (.int .i64)]
abbrev o275:Ts:=[]
abbrev R275:=Option (PTup o275×BTup i275)
abbrev F275:=PTup i275→R275
abbrev g275:=mkG 275 i275 o275
noncomputable def m275 (c314:F314) (c298:F298) (c299:F299) (c313:F313) (c206:F206) (y:PTup i275):R275:=
  let a0:=y.1;let a1:=a0.2;let a2:=a1.2;let a3:=a2.2;let a4:=a3.2;let a5:=a4.2;let a6:=a5.2;let a7:=a6.2;let a8:=a7.2;let a9:=a8.2;let a10:=a9.2;let a11:=a10.2;let a12:=a11.2;let a13:=a12.2;let a14:=a13.2;let a15:=a14.2;let a16:=a15.2;let a17:=a16.2;let a18:=a17.2;let a19:=a18.2;let a20:=a19.2;let a21:=a20.2;let a22:=a21.2;let a23:=a22.2;let a24:=a23.2;let a25:=a24.2.2;let X0:R275:=(c314 ((a2.1,(a3.1,())),((a0.1,()),y.2))).bind fun r1=>some ((),((a0.1,(a1.1,(r1.2.1.1,(r1.2.1.2.1,a4)))),()));(c206 (y.2.1,())).bind fun r0=>bif (eqI r0.1.1 2)then ((c298 ((a12.1,(a13.1,(a14.1,(a15.1,(a16.1,(a17.1,(a18.1,(a19.1,())))))))),(r0.1.2.1,y.2.2))).bind fun r1=>some ((),((a0.1,(a1.1,(a2.1,(a3.1,(a4.1,(a5.1,(a6.1,(a7.1,(a8.1,(a9.1,(a10.1,(a11.1,(r1.2.1.1,(r1.2.1.2.1,(r1.2.1.2.2.1,(r1.2.1.2.2.2.1,(r1.2.1.2.2.2.2.1,(r1.2.1.2.2.2.2.2.1,(r1.2.1.2.2.2.2.2.2.1,a19))))))))))))))))))),())))else bif (eqI r0.1.1 3)then ((c299 ((a20.1,(a21.1,(a22.1,(a23.1,(a24.1,(a24.2.1,(a25.1,()))))))),(r0.1.2.1,y.2.2))).bind fun r1=>some ((),((a0.1,(a1.1,(a2.1,(a3.1,(a4.1,(a5.1,(a6.1,(a7.1,(a8.1,(a9.1,(a10.1,(a11.1,(a12.1,(a13.1,(a14.1,(a15.1,(a16.1,(a17.1,(a18.1,(a19.1,(r1.1.1.1,(r1.1.1.2.1,(r1.1.1.2.2.1,(r1.1.1.2.2.2.1,(r1.1.1.2.2.2.2.1,(r1.1.1.2.2.2.2.2.1,(r1.1.1.2.2.2.2.2.2.1,a25.2))))))))))))))))))))))))))),())))else bif (eqI r0.1.1 4)then ((c313 ((a25.2.1,(a25.2.2.1,())),(a1.1,(a12.1,y.2.2)))).bind fun r1=>some ((),((a0.1,(a1.1,(a2.1,(a3.1,(a4.1,(a5.1,(a6.1,(a7.1,(a8.1,(a9.1,(a10.1,(a11.1,(a12.1,(a13.1,(a14.1,(a15.1,(a16.1,(a17.1,(a18.1,(a19.1,(a20.1,(a21.1,(a22.1,(a23.1,(a24.1,(a24.2.1,(a25.1,(r1.1.1.1,(r1.1.1.2.1,a25.2.2.2))))))))))))))))))))))))))))),())))else bif (eqI r0.1.1 1)then (bif (eqI r0.1.1 1)then X0 else some ((),(a0,())))else bif (eqI r0.1.1 5)then (bif (eqI r0.1.1 5)then X0 else some ((),(a0,())))else bif (eqI r0.1.1 6)then X0 else some ((),(a0,()))
theorem s275 (c314:F314) (c298:F298) (c299:F299) (c313:F313) (c206:F206) (y):TE [g314 c314,g298 c298,g299 c299,g313 c313,g206 c206] Tryz.f275 i275 o275 y=m275 c314 c298 c299 c313 c206 y:=by kernel_rfl
noncomputable def r275:F275:=m275 r314 r298 r299 r313 r206
theorem k275:KO (g275 r275):=fk (s275 r314 r298 r299 r313 r206) ⟨k314,k298,k299,k313,k206,⟨⟩⟩ (by kernel_rfl)
abbrev i333:Ts:=[.v (.int .i64)]
abbrev o333:Ts:=[.v (.bool), .v (.bool)]
abbrev F333:=FT i333 o333
abbrev g333:=mkG 333 i333 o333
noncomputable def m333 (c266:F266) (y:PTup i333):Option (PTup o333×BTup i333):=
  (c266 y).bind fun r0=>
  (c266 y).bind fun r1=>
  some (((eqI r0.1.1 0),((ltI 127 r1.1.1),())),())
theorem s333 (c266:F266) (y):TE [g266 c266] Tryz.f333 i333 o333 y=m333 c266 y:=by kernel_rfl
noncomputable def r333:F333:=m333 r266
theorem k333:KO (g333 r333):=fk (s333 r266) ⟨k266,⟨⟩⟩ (by kernel_rfl)
abbrev i330:Ts:=[.a q2, .v (.int .i64)]
abbrev o330:Ts:=[.a q2]
abbrev F330:=FT i330 o330
abbrev g330:=mkG 330 i330 o330
noncomputable def m330 (c266:F266) (c333:F333) (y:PTup i330):Option (PTup o330×BTup i330):=
  (c266 y.2).bind fun r0=>
  (c333 y.2).bind fun r1=>
  some (((r0.1.1,(y.1.2.1,(y.1.2.2.1,(y.1.2.2.2.1,(r1.1.1,(r1.1.2.1,y.1.2.2.2.2.2.2)))))),()),())
theorem s330 (c266:F266) (c333:F333) (y):TE [g266 c266,g333 c333] Tryz.f330 i330 o330 y=m330 c266 c333 y:=by kernel_rfl
noncomputable def r330:F330:=m330 r266 r333
theorem k330:KO (g330 r330):=fk (s330 r266 r333) ⟨k266,k333,⟨⟩⟩ (by kernel_rfl)
abbrev i331:Ts:=[.v (.int .i64), .v (.int .i64), .v (.bool)]
abbrev o331:Ts:=[.v (.int .i64), .v (.bool)]
abbrev F331:=FT i331 o331
abbrev g331:=mkG 331 i331 o331
noncomputable def m331 (c266:F266) (c166:F166) (y:PTup i331):Option (PTup o331×BTup i331):=
  (c266 (y.1,())).bind fun r0=>
  (c266 (y.2.1,())).bind fun r1=>
  (c166 y.2.2).bind fun r2=>
  (c266 ((wI ((wI (r0.1.1+r1.1.1))+r2.1.1)),())).bind fun r3=>
  some ((r3.1.1,((ltI 255 (wI ((wI (r0.1.1+r1.1.1))+r2.1.1))),())),())
theorem s331 (c266:F266) (c166:F166) (y):TE [g266 c266,g166 c166] Tryz.f331 i331 o331 y=m331 c266 c166 y:=by kernel_rfl
noncomputable def r331:F331:=m331 r266 r166
theorem k331:KO (g331 r331):=fk (s331 r266 r166) ⟨k266,k166,⟨⟩⟩ (by kernel_rfl)
abbrev i332:Ts:=[.v (.int .i64), .v (.int .i64), .v (.bool)]
abbrev o332:Ts:=[.v (.int .i64), .v (.bool)]
abbrev F332:=FT i332 o332
abbrev g332:=mkG 332 i332 o332
noncomputable def m332 (c266:F266) (c166:F166) (y:PTup i332):Option (PTup o332×BTup i332):=
  (c266 (y.1,())).bind fun r0=>
  (c266 (y.2.1,())).bind fun r1=>
  (c166 ((!y.2.2.1),())).bind fun r2=>
  (c266 ((wI ((wI (r0.1.1-r1.1.1))-r2.1.1)),())).bind fun r3=>
  some ((r3.1.1,((leI 0 (wI ((wI (r0.1.1-r1.1.1))-r2.1.1))),())),())
theorem s332 (c266:F266) (c166:F166) (y):TE [g266 c266,g166 c166] Tryz.f332 i332 o332 y=m332 c266 c166 y:=by kernel_rfl
noncomputable def r332:F332:=m332 r266 r166
theorem k332:KO (g332 r332):=fk (s332 r266 r166) ⟨k266,k166,⟨⟩⟩ (by kernel_rfl)
abbrev i315:Ts:=[.p q2, .a q9, .v (.int .i64)]
abbrev o315:Ts:=[.v (.bool)]
abbrev R315:=Option (PTup o315×BTup i315)
abbrev F315:=PTup i315→R315
abbrev g315:=mkG 315 i315 o315
noncomputable def m315 (c331:F331) (c330:F330) (c333:F333) (c332:F332) (y:PTup i315):R315:=
  let a0:=y.1;let a1:=y.2;let a2:=a0.1;let a3:=a0.2;let a4:=a1.1;let a5:=a3.2;let a6:=a4.1;let a7:=a4.2;let a8:=a5.2;let a9:=a7.1;let a10:=a8.2.2;let a11:=a10.2.1;let X0:R315:=bif (eqI a6 4)then (bif (eqI a6 4)then (bif (eqI a6 29)then ((c331 (a2,(a1.2.1,(a11,())))).bind fun r0=>(c330 (a0,(r0.1.1,()))).bind fun r1=>some ((true,()),((r1.1.1.1,(r1.1.1.2.1,(r1.1.1.2.2.1,(r1.1.1.2.2.2.1,(r1.1.1.2.2.2.2.1,(r1.1.1.2.2.2.2.2.1,(r0.1.2.1,r1.1.1.2.2.2.2.2.2.2))))))),())))else (c331 (a2,(a9,(a11,())))).bind fun r0=>(c330 (a0,(r0.1.1,()))).bind fun r1=>some ((true,()),((r1.1.1.1,(r1.1.1.2.1,(r1.1.1.2.2.1,(r1.1.1.2.2.2.1,(r1.1.1.2.2.2.2.1,(r1.1.1.2.2.2.2.2.1,(r0.1.2.1,r1.1.1.2.2.2.2.2.2.2))))))),())))else bif (eqI a6 5)then ((c332 (a2,(a9,(a11,())))).bind fun r0=>(c330 (a0,(r0.1.1,()))).bind fun r1=>some ((true,()),((r1.1.1.1,(r1.1.1.2.1,(r1.1.1.2.2.1,(r1.1.1.2.2.2.1,(r1.1.1.2.2.2.2.1,(r1.1.1.2.2.2.2.2.1,(r0.1.2.1,r1.1.1.2.2.2.2.2.2.2))))))),())))else bif (eqI a6 6)then ((c330 (a0,((bAnd Go.IntKind.i64 a2 a9),()))).bind fun r0=>some ((true,()),(r0.1.1,())))else bif (eqI a6 7)then ((c330 (a0,((bOr Go.IntKind.i64 a2 a9),()))).bind fun r0=>some ((true,()),(r0.1.1,())))else bif (eqI a6 8)then ((c330 (a0,((bXor Go.IntKind.i64 a2 a9),()))).bind fun r0=>some ((true,()),(r0.1.1,())))else bif (eqI a6 9)then ((c332 (a2,(a9,(true,())))).bind fun r0=>(c333 (r0.1.1,())).bind fun r1=>some ((true,()),((a2,(a3.1,(a5.1,(a8.1,(r1.1.1,(r1.1.2.1,(r0.1.2.1,a10.2.2))))))),())))else some ((false,()),(a0,())))else bif (eqI a6 29)then (bif (eqI a6 29)then ((c331 (a2,(a1.2.1,(a11,())))).bind fun r0=>(c330 (a0,(r0.1.1,()))).bind fun r1=>some ((true,()),((r1.1.1.1,(r1.1.1.2.1,(r1.1.1.2.2.1,(r1.1.1.2.2.2.1,(r1.1.1.2.2.2.2.1,(r1.1.1.2.2.2.2.2.1,(r0.1.2.1,r1.1.1.2.2.2.2.2.2.2))))))),())))else (c331 (a2,(a9,(a11,())))).bind fun r0=>(c330 (a0,(r0.1.1,()))).bind fun r1=>some ((true,()),((r1.1.1.1,(r1.1.1.2.1,(r1.1.1.2.2.1,(r1.1.1.2.2.2.1,(r1.1.1.2.2.2.2.1,(r1.1.1.2.2.2.2.2.1,(r0.1.2.1,r1.1.1.2.2.2.2.2.2.2))))))),())))else bif (eqI a6 5)then ((c332 (a2,(a9,(a11,())))).bind fun r0=>(c330 (a0,(r0.1.1,()))).bind fun r1=>some ((true,()),((r1.1.1.1,(r1.1.1.2.1,(r1.1.1.2.2.1,(r1.1.1.2.2.2.1,(r1.1.1.2.2.2.2.1,(r1.1.1.2.2.2.2.2.1,(r0.1.2.1,r1.1.1.2.2.2.2.2.2.2))))))),())))else bif (eqI a6 6)then ((c330 (a0,((bAnd Go.IntKind.i64 a2 a9),()))).bind fun r0=>some ((true,()),(r0.1.1,())))else bif (eqI a6 7)then ((c330 (a0,((bOr Go.IntKind.i64 a2 a9),()))).bind fun r0=>some ((true,()),(r0.1.1,())))else bif (eqI a6 8)then ((c330 (a0,((bXor Go.IntKind.i64 a2 a9),()))).bind fun r0=>some ((true,()),(r0.1.1,())))else bif (eqI a6 9)then ((c332 (a2,(a9,(true,())))).bind fun r0=>(c333 (r0.1.1,())).bind fun r1=>some ((true,()),((a2,(a3.1,(a5.1,(a8.1,(r1.1.1,(r1.1.2.1,(r0.1.2.1,a10.2.2))))))),())))else some ((false,()),(a0,()));bif (eqI a6 1)then ((c330 (a0,a7)).bind fun r0=>some ((true,()),(r0.1.1,())))else bif (eqI a6 2)then (bif (eqI a6 2)then ((c330 (a0,a1.2)).bind fun r0=>some ((true,()),(r0.1.1,())))else X0)else bif (eqI a6 14)then ((c330 (a0,a1.2)).bind fun r0=>some ((true,()),(r0.1.1,())))else X0
theorem s315 (c331:F331) (c330:F330) (c333:F333) (c332:F332) (y):TE [g331 c331,g330 c330,g333 c333,g332 c332] Tryz.f315 i315 o315 y=m315 c331 c330 c333 c332 y:=by kernel_rfl
noncomputable def r315:F315:=m315 r331 r330 r333 r332
theorem k315:KO (g315 r315):=fk (s315 r331 r330 r333 r332) ⟨k331,k330,k333,k332,⟨⟩⟩ (by kernel_rfl)
abbrev i334:Ts:=[.a q2, .v (.int .i64)]
abbrev o334:Ts:=[.a q2]
abbrev F334:=FT i334 o334
abbrev g334:=mkG 334 i334 o334
noncomputable def m334 (c266:F266) (c333:F333) (y:PTup i334):Option (PTup o334×BTup i334):=
  (c266 y.2).bind fun r0=>
  (c333 y.2).bind fun r1=>
  some (((y.1.1,(r0.1.1,(y.1.2.2.1,(y.1.2.2.2.1,(r1.1.1,(r1.1.2.1,y.1.2.2.2.2.2.2)))))),()),())
theorem s334 (c266:F266) (c333:F333) (y):TE [g266 c266,g333 c333] Tryz.f334 i334 o334 y=m334 c266 c333 y:=by kernel_rfl
noncomputable def r334:F334:=m334 r266 r333
theorem k334:KO (g334 r334):=fk (s334 r266 r333) ⟨k266,k333,⟨⟩⟩ (by kernel_rfl)
abbrev i316:Ts:=[.p q2, .a q9]
abbrev o316:Ts:=[.v (.bool)]
abbrev F316:=FT i316 o316
abbrev g316:=mkG 316 i316 o316
noncomputable def m316 (c330:F330) (c334:F334) (y:PTup i316):Option (PTup o316×BTup i316):=
  bif (eqI y.2.1.1 10)then ((c334 (y.1,(y.1.1,()))).bind fun r0=>
   some ((true,()),(r0.1.1,())))
  else bif (eqI y.2.1.1 11)then ((c330 (y.1,(y.1.2.1,()))).bind fun r0=>
   some ((true,()),(r0.1.1,())))
  else bif (eqI y.2.1.1 12)then ((c334 (y.1,((wI (y.1.2.1+1)),()))).bind fun r0=>
   some ((true,()),(r0.1.1,())))
  else bif (eqI y.2.1.1 13)then ((c334 (y.1,((wI (y.1.2.1-1)),()))).bind fun r0=>
   some ((true,()),(r0.1.1,())))
  else bif (eqI y.2.1.1 25)then (some ((true,()),((y.1.1,(y.1.2.1,(y.1.2.2.1,(y.1.2.2.2.1,(y.1.2.2.2.2.1,(y.1.2.2.2.2.2.1,(y.1.2.2.2.2.2.2.1,(true,())))))))),())))
  else bif (eqI y.2.1.1 26)then (some ((true,()),((y.1.1,(y.1.2.1,(y.1.2.2.1,(y.1.2.2.2.1,(y.1.2.2.2.2.1,(y.1.2.2.2.2.2.1,(y.1.2.2.2.2.2.2.1,(false,())))))))),())))
  else bif (eqI y.2.1.1 27)then (some ((true,()),((y.1.1,(y.1.2.1,(y.1.2.2.1,(y.1.2.2.2.1,(y.1.2.2.2.2.1,(y.1.2.2.2.2.2.1,(true,y.1.2.2.2.2.2.2.2))))))),())))
  else bif (eqI y.2.1.1 28)then (some ((true,()),((y.1.1,(y.1.2.1,(y.1.2.2.1,(y.1.2.2.2.1,(y.1.2.2.2.2.1,(y.1.2.2.2.2.2.1,(false,y.1.2.2.2.2.2.2.2))))))),())))
  else some ((false,()),(y.1,()))
theorem s316 (c330:F330) (c334:F334) (y):TE [g330 c330,g334 c334] Tryz.f316 i316 o316 y=m316 c330 c334 y:=by kernel_rfl
noncomputable def r316:F316:=m316 r330 r334
theorem k316:KO (g316 r316):=fk (s316 r330 r334) ⟨k330,k334,⟨⟩⟩ (by kernel_rfl)
abbrev i336:Ts:=[.p q1, .p q2]
abbrev o336:Ts:=[.v (.int .i64)]
abbrev F336:=FT i336 o336
abbrev g336:=mkG 336 i336 o336
noncomputable def m336 (c266:F266) (y:PTup i336):Option (PTup o336×BTup i336):=
  bif (neI (lenI y.1.1) 512)then (some (((0:Int),()),(y.1,(y.2.1,()))))
  else (c266 ((wI (y.2.1.2.2.1+1)),())).bind fun r0=>
  bif (leI 0 (wI ((256:Int)+r0.1.1)))then (bif (ltI (wI ((256:Int)+r0.1.1)) (lenI y.1.1))then (some (((rdE .i y.1.1 (wI ((256:Int)+r0.1.1))),()),(y.1,((y.2.1.1,(y.2.1.2.1,(r0.1.1,y.2.1.2.2.2))),()))))
   else none)
  else none
theorem s336 (c266:F266) (y):TE [g266 c266] Tryz.f336 i336 o336 y=m336 c266 y:=by kernel_rfl
noncomputable def r336:F336:=m336 r266
theorem k336:KO (g336 r336):=fk (s336 r266) ⟨k266,⟨⟩⟩ (by kernel_rfl)
abbrev i335:Ts:=[.p q1, .p q2]
abbrev o335:Ts:=[]
abbrev F335:=FT i335 o335
abbrev g335:=mkG 335 i335 o335
noncomputable def m335 (c336:F336) (c227:F227) (y:PTup i335):Option (PTup o335×BTup i335):=
  (c336 (y.1,(y.2.1,()))).bind fun r0=>
  (c336 ((y.1.1,r0.2.1.2),(r0.2.2.1,()))).bind fun r1=>
  (c227 (r0.1.1,r1.1)).bind fun r2=>
  some ((),((y.1.1,r1.2.1.2),((r1.2.2.1.1,(r1.2.2.1.2.1,(r1.2.2.1.2.2.1,(r2.1.1,r1.2.2.1.2.2.2.2)))),())))
theorem s335 (c336:F336) (c227:F227) (y):TE [g336 c336,g227 c227] Tryz.f335 i335 o335 y=m335 c336 c227 y:=by kernel_rfl
noncomputable def r335:F335:=m335 r336 r227
theorem k335:KO (g335 r335):=fk (s335 r336 r227) ⟨k336,k227,⟨⟩⟩ (by kernel_rfl)
abbrev i337:Ts:=[.a q2, .v (.int .i64)]
abbrev o337:Ts:=[.a q2]
abbrev F337:=FT i337 o337
abbrev g337:=mkG 337 i337 o337
noncomputable def m337 (y:PTup i337):Option (PTup o337×BTup i337):=
  some (((y.1.1,(y.1.2.1,(y.1.2.2.1,(y.1.2.2.2.1,((neI (bAnd Go.IntKind.i64 y.2.1 (2:Int)) (0:Int)),((neI (bAnd Go.IntKind.i64 y.2.1 (128:Int)) (0:Int)),((neI (bAnd Go.IntKind.i64 y.2.1 (1:Int)) (0:Int)),((neI (bAnd Go.IntKind.i64 y.2.1 (4:Int)) (0:Int)),())))))))),()),())
theorem s337 (y):TE [] Tryz.f337 i337 o337 y=m337 y:=by kernel_rfl
noncomputable def r337:F337:=m337
theorem k337:KO (g337 r337):=fk (s337) trivial (by kernel_rfl)
abbrev i317:Ts:=[.p q5, .p q2, .a q9]
abbrev o317:Ts:=[]
abbrev R317:=Option (PTup o317×BTup i317)
abbrev F317:=PTup i317→R317
abbrev g317:=mkG 317 i317 o317
noncomputable def m317 (c335:F335) (c336:F336) (c308:F308) (c307:F307) (c265:F265) (c330:F330) (c337:F337) (y:PTup i317):R317:=
  (c265 y.2.2.1.2).bind fun r0=>let X0:R317:=some ((),(y.1,((y.2.1.1,(y.2.1.2.1,(y.2.1.2.2.1,(r0.1.1,y.2.1.2.2.2.2)))),())));bif (eqI y.2.2.1.1 16)then (bif (!y.2.1.2.2.2.2.1)then X0 else some ((),(y.1,(y.2.1,()))))else bif (eqI y.2.2.1.1 17)then (bif y.2.1.2.2.2.2.1 then X0 else some ((),(y.1,(y.2.1,()))))else bif (eqI y.2.2.1.1 18)then (bif y.2.1.2.2.2.2.2.2.1 then X0 else some ((),(y.1,(y.2.1,()))))else bif (eqI y.2.2.1.1 19)then X0 else bif (eqI y.2.2.1.1 20)then ((c307 (y.1,(y.2.1,()))).bind fun r1=>some ((),(r1.2.1,((r1.2.2.1.1,(r1.2.2.1.2.1,(r1.2.2.1.2.2.1,(r0.1.1,r1.2.2.1.2.2.2.2)))),()))))else bif (eqI y.2.2.1.1 21)then ((c335 (y.1,(y.2.1,()))).bind fun r1=>some ((),((y.1.1,r1.2.1.2),(r1.2.2.1,()))))else bif (eqI y.2.2.1.1 22)then ((c308 (y.1,(y.2.1,(y.2.1.1,())))).bind fun r1=>some ((),(r1.2.1,(r1.2.2.1,()))))else bif (eqI y.2.2.1.1 23)then ((c336 (y.1,(y.2.1,()))).bind fun r1=>(c330 (r1.2.2.1,r1.1)).bind fun r2=>some ((),((y.1.1,r1.2.1.2),(r2.1.1,()))))else bif (eqI y.2.2.1.1 24)then ((c336 (y.1,(y.2.1,()))).bind fun r1=>(c337 (r1.2.2.1,r1.1)).bind fun r2=>(c335 ((y.1.1,r1.2.1.2),(r2.1.1,()))).bind fun r3=>some ((),((y.1.1,r3.2.1.2),(r3.2.2.1,()))))else some ((),(y.1,(y.2.1,())))
theorem s317 (c335:F335) (c336:F336) (c308:F308) (c307:F307) (c265:F265) (c330:F330) (c337:F337) (y):TE [g335 c335,g336 c336,g308 c308,g307 c307,g265 c265,g330 c330,g337 c337] Tryz.f317 i317 o317 y=m317 c335 c336 c308 c307 c265 c330 c337 y:=by kernel_rfl
noncomputable def r317:F317:=m317 r335 r336 r308 r307 r265 r330 r337
theorem k317:KO (g317 r317):=fk (s317 r335 r336 r308 r307 r265 r330 r337) ⟨k335,k336,k308,k307,k265,k330,k337,⟨⟩⟩ (by kernel_rfl)
abbrev i276:Ts:=[.p q5, .p q2, .a q9, .v (.int .i64)]
abbrev o276:Ts:=[]
abbrev F276:=FT i276 o276
abbrev g276:=mkG 276 i276 o276
noncomputable def m276 (c315:F315) (c316:F316) (c317:F317) (c265:F265) (c266:F266) (c226:F226) (y:PTup i276):Option (PTup o276×BTup i276):=
  (c226 (y.2.2.1.1,())).bind fun r0=>
  (c265 ((wI (y.2.1.2.2.2.1+r0.1.1)),())).bind fun r1=>
  (c266 y.2.2.2).bind fun r2=>
  (c315 ((y.2.1.1,(y.2.1.2.1,(y.2.1.2.2.1,(r1.1.1,y.2.1.2.2.2.2)))),(y.2.2.1,r2.1))).bind fun r3=>
  bif (!r3.1.1)then ((c316 (r3.2.1,(y.2.2.1,()))).bind fun r4=>
   bif (!r4.1.1)then ((c317 (y.1,(r4.2.1,(y.2.2.1,())))).bind fun r5=>
    some ((),(r5.2.1,(r5.2.2.1,()))))
   else some ((),(y.1,(r4.2.1,()))))
  else some ((),(y.1,(r3.2.1,())))
theorem s276 (c315:F315) (c316:F316) (c317:F317) (c265:F265) (c266:F266) (c226:F226) (y):TE [g315 c315,g316 c316,g317 c317,g265 c265,g266 c266,g226 c226] Tryz.f276 i276 o276 y=m276 c315 c316 c317 c265 c266 c226 y:=by kernel_rfl
noncomputable def r276:F276:=m276 r315 r316 r317 r265 r266 r226
theorem k276:KO (g276 r276):=fk (s276 r315 r316 r317 r265 r266 r226) ⟨k315,k316,k317,k265,k266,k226,⟨⟩⟩ (by kernel_rfl)
abbrev i217:Ts:=[.p [.sl false .n, .sl false .i, .sl true .i, .int .i64, .int .i64, .int .i64, .int .i64, .int .i64, .bool, .bool, .bool, .bool, .int .i64, .int .i64, .int .i64, .int .i64, .int .i64, .bool, .sl true .i, .sl false .i, .int .i64, .int .i64, .int .i64, .int .i64, .int .i64, .bool, .bool, .bool, .int .i64, .bool, .int .i64, .sl false .n, .sl false .i, .sl true .i], .a q9]
abbrev o217:Ts:=[]
abbrev F217:=FT i217 o217
abbrev g217:=mkG 217 i217 o217
noncomputable def m217 (c274:F274) (c275:F275) (c276:F276) (c205:F205) (y:PTup i217):Option (PTup o217×BTup i217):=
  let a0:=y.1;let a1:=a0.2;let a2:=a1.2;let a3:=a2.2;let a4:=a3.2;let a5:=a4.2;let a6:=a5.2;let a7:=a6.2;let a8:=a7.2;let a9:=a8.2;let a10:=a9.2.2;let a11:=a10.2.2;let a12:=a11.2.2;let a13:=a12.2.2;let a14:=a13.2.2.2.2.2;let a15:=a14.2.2.2.2.2;(c205 (y.2.1,((a4.1,(a5.1,(a6.1,(a7.1,(a8.1,(a9.1,(a9.2.1,(a10.1,())))))))),()))).bind fun r0=>
  bif (eqI r0.1.1 1)then ((c274 (a0,(r0.1.2.1,()))).bind fun r1=>let d0:=r1.2;let d1:=d0.1;let d2:=d1.2;let d3:=d2.2;let d4:=d3.2;let d5:=d4.2;let d6:=d5.2;let d7:=d6.2;let d8:=d7.2;let d9:=d8.2;let d10:=d9.2;let d11:=d10.2;let d12:=d11.2;let d13:=d12.2;let d14:=d13.2;let d15:=d14.2;let d16:=d15.2;let d17:=d16.2;let d18:=d17.2;let d19:=d18.2;let d20:=d19.2;let d21:=d20.2;let d22:=d21.2;let d23:=d22.2;let d24:=d23.2.2;let d25:=d24.2.2;(c276 ((a2.1,(d4.1,())),((d5.1,(d6.1,(d7.1,(d8.1,(d9.1,(d10.1,(d11.1,(d12.1,())))))))),(y.2.1,r1.1)))).bind fun r2=>
   some ((),((a0.1,(a1.1,(r2.2.1.1,(r2.2.1.2.1,(r2.2.2.1.1,(r2.2.2.1.2.1,(r2.2.2.1.2.2.1,(r2.2.2.1.2.2.2.1,(r2.2.2.1.2.2.2.2.1,(r2.2.2.1.2.2.2.2.2.1,(r2.2.2.1.2.2.2.2.2.2.1,(r2.2.2.1.2.2.2.2.2.2.2.1,(d13.1,(d14.1,(d15.1,(d16.1,(d17.1,(d18.1,(a13.2.1,(a13.2.2.1,(d21.1,(d22.1,(d23.1,(d23.2.1,(d24.1,(d24.2.1,(d25.1,(d25.2.1,(d25.2.2.1,(d25.2.2.2.1,(d25.2.2.2.2.1,(a15.2.2.2.2.1,(a15.2.2.2.2.2.1,d25.2.2.2.2.2.2.2))))))))))))))))))))))))))))))))),())))
  else bif (eqI r0.1.1 2)then ((c275 (a0,r0.1.2)).bind fun r1=>let d0:=r1.2;let d1:=d0.1;let d2:=d1.2;let d3:=d2.2;let d4:=d3.2;let d5:=d4.2;let d6:=d5.2;let d7:=d6.2;let d8:=d7.2;let d9:=d8.2;let d10:=d9.2;let d11:=d10.2;let d12:=d11.2;let d13:=d12.2;let d14:=d13.2;let d15:=d14.2;let d16:=d15.2;let d17:=d16.2;let d18:=d17.2;let d19:=d18.2;let d20:=d19.2;let d21:=d20.2;let d22:=d21.2;let d23:=d22.2.2;let d24:=d23.2.2;(c276 ((d3.1,(d4.1,())),((d5.1,(d6.1,(d7.1,(d8.1,(d9.1,(d10.1,(d11.1,(d12.1,())))))))),(y.2.1,((0:Int),()))))).bind fun r2=>
   some ((),((a0.1,(a1.1,(r2.2.1.1,(r2.2.1.2.1,(r2.2.2.1.1,(r2.2.2.1.2.1,(r2.2.2.1.2.2.1,(r2.2.2.1.2.2.2.1,(r2.2.2.1.2.2.2.2.1,(r2.2.2.1.2.2.2.2.2.1,(r2.2.2.1.2.2.2.2.2.2.1,(r2.2.2.1.2.2.2.2.2.2.2.1,(d13.1,(d14.1,(d15.1,(d16.1,(d17.1,(d18.1,(d19.1,(a13.2.2.1,(d21.1,(d22.1,(d22.2.1,(d23.1,(d23.2.1,(d24.1,(d24.2.1,(d24.2.2.1,(d24.2.2.2.1,(d24.2.2.2.2.1,(d24.2.2.2.2.2.1,a15.2.2.2.2))))))))))))))))))))))))))))))),())))
  else (c276 ((a2.1,(a3.1,())),((a4.1,(a5.1,(a6.1,(a7.1,(a8.1,(a9.1,(a9.2.1,(a10.1,())))))))),(y.2.1,r0.1.2.2)))).bind fun r1=>
  some ((),((a0.1,(a1.1,(r1.2.1.1,(r1.2.1.2.1,(r1.2.2.1.1,(r1.2.2.1.2.1,(r1.2.2.1.2.2.1,(r1.2.2.1.2.2.2.1,(r1.2.2.1.2.2.2.2.1,(r1.2.2.1.2.2.2.2.2.1,(r1.2.2.1.2.2.2.2.2.2.1,(r1.2.2.1.2.2.2.2.2.2.2.1,a10.2)))))))))))),()))
theorem s217 (c274:F274) (c275:F275) (c276:F276) (c205:F205) (y):TE [g274 c274,g275 c275,g276 c276,g205 c205] Tryz.f217 i217 o217 y=m217 c274 c275 c276 c205 y:=by kernel_rfl
noncomputable def r217:F217:=m217 r274 r275 r276 r205
theorem k217:KO (g217 r217):=fk (s217 r274 r275 r276 r205) ⟨k274,k275,k276,k205,⟨⟩⟩ (by kernel_rfl)
abbrev i318:Ts:=[.r q3, .v (.int .i64)]
abbrev o318:Ts:=[.v (.int .i64)]
abbrev F318:=FT i318 o318
abbrev g318:=mkG 318 i318 o318
noncomputable def m318 (y:PTup i318):Option (PTup o318×BTup i318):=
  bif (leI 0 (Int.tmod (wI ((wI ((Int.tmod y.2.1 8)+y.1.2.2.1))+(wI (Int.tdiv y.2.1 8)))) (16:Int)))then (bif (ltI (Int.tmod (wI ((wI ((Int.tmod y.2.1 8)+y.1.2.2.1))+(wI (Int.tdiv y.2.1 8)))) (16:Int)) (lenI y.1.2.2.2.2.2.2.1))then (some (((bXor Go.IntKind.i64 (rdE .i y.1.2.2.2.2.2.2.1 (Int.tmod (wI ((wI ((Int.tmod y.2.1 8)+y.1.2.2.1))+(wI (Int.tdiv y.2.1 8)))) (16:Int))) y.1.2.2.2.2.1),()),()))
   else none)
  else none
theorem s318 (y):TE [] Tryz.f318 i318 o318 y=m318 y:=by kernel_rfl
noncomputable def r318:F318:=m318
theorem k318:KO (g318 r318):=fk (s318) trivial (by kernel_rfl)
abbrev i277:Ts:=[.p [.int .i64, .int .i64, .int .i64, .int .i64, .int .i64, .bool, .sl false .i, .sl true .i]]
abbrev o277:Ts:=[.v (.bool), .v (.sl true .i), .v (.bool)]
abbrev F277:=FT i277 o277
abbrev g277:=mkG 277 i277 o277
noncomputable def m277 (c318:F318) (y:PTup i277):Option (PTup o277×BTup i277):=
  bif (ltI (Int.tmod y.1.1 64) (48:Int))then ((c318 (((wI (y.1.1+1)),y.1.2),((Int.tmod y.1.1 64),()))).bind fun r0=>
   bif (leN ((List.length y.1.2.2.2.2.2.2.2.1)+(List.length (r0.1.1::[]))) (E.most .i))then (some ((false,([],(false,()))),(((wI (y.1.1+1)),(y.1.2.1,(y.1.2.2.1,(y.1.2.2.2.1,(y.1.2.2.2.2.1,(y.1.2.2.2.2.2.1,(y.1.2.2.2.2.2.2.1,((y.1.2.2.2.2.2.2.2.1++(r0.1.1::[])),())))))))),())))
   else none)
  else bif (eqI (Int.tmod y.1.1 64) (48:Int))then (some ((true,(y.1.2.2.2.2.2.2.2.1,((ltI 127 y.1.2.1),()))),(((wI (y.1.1+1)),(y.1.2.1,(y.1.2.2.1,(y.1.2.2.2.1,(y.1.2.2.2.2.1,(true,(y.1.2.2.2.2.2.2.1,([],())))))))),())))
  else bif (eqI (Int.tmod y.1.1 64) (63:Int))then (some ((false,([],(false,()))),(((wI (y.1.1+1)),(y.1.2.1,(y.1.2.2.1,(y.1.2.2.2.1,(y.1.2.2.2.2.1,(false,y.1.2.2.2.2.2.2)))))),())))
  else some ((false,([],(false,()))),(((wI (y.1.1+1)),y.1.2),()))
theorem s277 (c318:F318) (y):TE [g318 c318] Tryz.f277 i277 o277 y=m277 c318 y:=by kernel_rfl
noncomputable def r277:F277:=m277 r318
theorem k277:KO (g277 r277):=fk (s277 r318) ⟨k318,⟨⟩⟩ (by kernel_rfl)
abbrev i278:Ts:=[.p q4]
abbrev o278:Ts:=[.v (.int .i64), .v (.bool)]
abbrev R278:=Option (PTup o278×BTup i278)
abbrev F278:=PTup i278→R278
abbrev g278:=mkG 278 i278 o278
noncomputable def m278 (y:PTup i278):R278:=
  let a0:=y.1;let a1:=a0.1;let a2:=a0.2;let a3:=a2.1;let a4:=a2.2;let a5:=a4.1;let a6:=a4.2;let a7:=a6.1;let a8:=a6.2;let a9:=a8.1;let a10:=a8.2;let a11:=a10.1;let X0:R278:=bif (! (eqI (Int.tmod a1 16) (15:Int)))then (some (((0:Int),((eqI (Int.tmod a1 16) (15:Int)),())),(((wI (a1+1)),(a3,(a3,((wI ((1:Int)-a7)),a8)))),())))else bif (eqI a9 0)then (some (((0:Int),((eqI (Int.tmod a1 16) (15:Int)),())),(((wI (a1+1)),(a3,(a3,((wI ((1:Int)-a7)),a8)))),())))else some (((wI ((8:Int)*(wI ((1:Int)-a7)))),(true,())),(((wI (a1+1)),(a3,(a3,((wI ((1:Int)-a7)),a8)))),()));let X1:R278:=bif (! (eqI (Int.tmod a1 16) (15:Int)))then (some (((0:Int),((eqI (Int.tmod a1 16) (15:Int)),())),(((wI (a1+1)),(a3,((wI (a5-1)),a6))),())))else bif (eqI a9 0)then (some (((0:Int),((eqI (Int.tmod a1 16) (15:Int)),())),(((wI (a1+1)),(a3,((wI (a5-1)),a6))),())))else some (((wI ((8:Int)*a7)),(true,())),(((wI (a1+1)),(a3,((wI (a5-1)),a6))),()));let X2:R278:=bif (! (eqI (Int.tmod a1 16) (15:Int)))then (some (((0:Int),((eqI (Int.tmod a1 16) (15:Int)),())),(((wI (a1+1)),(a3,(a3,a6))),())))else bif (eqI a9 0)then (some (((0:Int),((eqI (Int.tmod a1 16) (15:Int)),())),(((wI (a1+1)),(a3,(a3,a6))),())))else some (((wI ((8:Int)*a7)),(true,())),(((wI (a1+1)),(a3,(a3,a6))),()));let X3:R278:=some (((0:Int),((eqI (Int.tmod a1 16) (15:Int)),())),(((wI (a1+1)),(a3,((wI (a5-1)),(a7,((wI (a9-1)),(a11,(a11,()))))))),()));let X4:R278:=some (((0:Int),((eqI (Int.tmod a1 16) (15:Int)),())),(((wI (a1+1)),(a3,(a3,((wI ((1:Int)-a7)),((wI (a9-1)),(a11,(a11,()))))))),()));let X5:R278:=some (((0:Int),((eqI (Int.tmod a1 16) (15:Int)),())),(((wI (a1+1)),(a3,((wI (a5-1)),(a7,((wI (a9-1)),(a11,(false,()))))))),()));let X6:R278:=some (((0:Int),((eqI (Int.tmod a1 16) (15:Int)),())),(((wI (a1+1)),(a3,((wI (a5-1)),(a7,((wI (a9-1)),(a11,(true,()))))))),()));let X7:R278:=some (((0:Int),((eqI (Int.tmod a1 16) (15:Int)),())),(((wI (a1+1)),(a3,(a3,((wI ((1:Int)-a7)),((wI (a9-1)),(a11,(false,()))))))),()));let X8:R278:=some (((0:Int),((eqI (Int.tmod a1 16) (15:Int)),())),(((wI (a1+1)),(a3,(a3,((wI ((1:Int)-a7)),((wI (a9-1)),(a11,(true,()))))))),()));let X9:R278:=some (((0:Int),((eqI (Int.tmod a1 16) (15:Int)),())),(((wI (a1+1)),(a3,(a3,(a7,((wI (a9-1)),(a11,(a11,()))))))),()));let X10:R278:=some (((0:Int),((eqI (Int.tmod a1 16) (15:Int)),())),(((wI (a1+1)),(a3,(a3,(a7,((wI (a9-1)),(a11,(false,()))))))),()));let X11:R278:=some (((0:Int),((eqI (Int.tmod a1 16) (15:Int)),())),(((wI (a1+1)),(a3,(a3,(a7,((wI (a9-1)),(a11,(true,()))))))),()));bif (eqI a5 0)then (bif (ltI 0 a9)then (bif (eqI (Int.tmod a1 32) (0:Int))then (bif (ltI 0 a9)then (bif a10.2.1 then (bif (! (eqI (Int.tmod a1 16) (15:Int)))then X8 else bif (eqI (wI (a9-1)) (0:Int))then X8 else some (((wI ((8:Int)*(wI ((1:Int)-a7)))),(true,())),(((wI (a1+1)),(a3,(a3,((wI ((1:Int)-a7)),((wI (a9-1)),(a11,(true,()))))))),())))else bif (eqI (wI (a9-1)) (0:Int))then (bif (! (eqI (Int.tmod a1 16) (15:Int)))then X4 else bif (eqI (wI (a9-1)) (0:Int))then X4 else some (((wI ((8:Int)*(wI ((1:Int)-a7)))),(true,())),(((wI (a1+1)),(a3,(a3,((wI ((1:Int)-a7)),((wI (a9-1)),(a11,(a11,()))))))),())))else bif (! (eqI (Int.tmod a1 16) (15:Int)))then X7 else bif (eqI (wI (a9-1)) (0:Int))then X7 else some (((wI ((8:Int)*(wI ((1:Int)-a7)))),(true,())),(((wI (a1+1)),(a3,(a3,((wI ((1:Int)-a7)),((wI (a9-1)),(a11,(false,()))))))),())))else X0)else X0)else bif (eqI (Int.tmod a1 32) (0:Int))then (bif (ltI 0 a9)then (bif a10.2.1 then (bif (! (eqI (Int.tmod a1 16) (15:Int)))then X11 else bif (eqI (wI (a9-1)) (0:Int))then X11 else some (((wI ((8:Int)*a7)),(true,())),(((wI (a1+1)),(a3,(a3,(a7,((wI (a9-1)),(a11,(true,()))))))),())))else bif (eqI (wI (a9-1)) (0:Int))then (bif (! (eqI (Int.tmod a1 16) (15:Int)))then X9 else bif (eqI (wI (a9-1)) (0:Int))then X9 else some (((wI ((8:Int)*a7)),(true,())),(((wI (a1+1)),(a3,(a3,(a7,((wI (a9-1)),(a11,(a11,()))))))),())))else bif (! (eqI (Int.tmod a1 16) (15:Int)))then X10 else bif (eqI (wI (a9-1)) (0:Int))then X10 else some (((wI ((8:Int)*a7)),(true,())),(((wI (a1+1)),(a3,(a3,(a7,((wI (a9-1)),(a11,(false,()))))))),())))else X2)else X2)else bif (eqI (Int.tmod a1 32) (0:Int))then (bif (ltI 0 a9)then (bif a10.2.1 then (bif (! (eqI (Int.tmod a1 16) (15:Int)))then X6 else bif (eqI (wI (a9-1)) (0:Int))then X6 else some (((wI ((8:Int)*a7)),(true,())),(((wI (a1+1)),(a3,((wI (a5-1)),(a7,((wI (a9-1)),(a11,(true,()))))))),())))else bif (eqI (wI (a9-1)) (0:Int))then (bif (! (eqI (Int.tmod a1 16) (15:Int)))then X3 else bif (eqI (wI (a9-1)) (0:Int))then X3 else some (((wI ((8:Int)*a7)),(true,())),(((wI (a1+1)),(a3,((wI (a5-1)),(a7,((wI (a9-1)),(a11,(a11,()))))))),())))else bif (! (eqI (Int.tmod a1 16) (15:Int)))then X5 else bif (eqI (wI (a9-1)) (0:Int))then X5 else some (((wI ((8:Int)*a7)),(true,())),(((wI (a1+1)),(a3,((wI (a5-1)),(a7,((wI (a9-1)),(a11,(false,()))))))),())))else X1)else X1
theorem s278 (y):TE [] Tryz.f278 i278 o278 y=m278 y:=by kernel_rfl
noncomputable def r278:F278:=m278
theorem k278:KO (g278 r278):=fk (s278) trivial (by kernel_rfl)
abbrev i218:Ts:=[.p q11]
abbrev o218:Ts:=[]
abbrev F218:=FT i218 o218
abbrev g218:=mkG 218 i218 o218
noncomputable def m218 (c278:F278) (c277:F277) (y:PTup i218):Option (PTup o218×BTup i218):=
  let a0:=y.1;let a1:=a0.2;let a2:=a1.2;let a3:=a2.2;let a4:=a3.2;let a5:=a4.2;let a6:=a5.2;let a7:=a6.2;let a8:=a7.2;let a9:=a8.2;let a10:=a9.2;let a11:=a10.2;let a12:=a11.2;let a13:=a12.2;let a14:=a13.2;let a15:=a14.2;let a16:=a15.2;let a17:=a16.2;let a18:=a17.2;let a19:=a18.2;let a20:=a19.2;let a21:=a20.2;let a22:=a21.2;let a23:=a22.2;let a24:=a23.2;let a25:=a24.2;let a26:=a25.2;let a27:=a26.2;let a28:=a27.2;let a29:=a28.2;let a30:=a29.2;let a31:=a30.2;let a32:=a31.2;(c277 ((a12.1,(a13.1,(a14.1,(a15.1,(a16.1,(a17.1,(a18.1,(a19.1,())))))))),())).bind fun r0=>let b0:=r0.1;let b1:=r0.2;let b2:=b0.2;let b3:=b1.1;let b4:=b3.2;let b5:=b4.2;let b6:=b5.2;let b7:=b6.2;let b8:=b7.2;let b9:=b8.2.2;bif b0.1 then (bif (leN ((List.length a31.1)+(List.length (b2.1::[]))) (E.most .n))then (bif a29.1 then ((c278 ((a20.1,(a21.1,(a22.1,(a23.1,(a24.1,(a25.1,(a26.1,()))))))),())).bind fun r1=>
     bif r1.1.2.1 then (bif (leN ((List.length a32.1)+(List.length (r1.1.1::[]))) (E.most .i))then (some ((),((a0.1,(a1.1,(a2.1,(a3.1,(a4.1,(a5.1,(a6.1,(a7.1,(a8.1,(a9.1,(a10.1,(a11.1,(b3.1,(b4.1,(b5.1,(b6.1,(b7.1,(b8.1,(a18.1,(b9.1,(r1.2.1.1,(r1.2.1.2.1,(r1.2.1.2.2.1,(r1.2.1.2.2.2.1,(r1.2.1.2.2.2.2.1,(r1.2.1.2.2.2.2.2.1,(r1.2.1.2.2.2.2.2.2.1,(a27.1,(a28.1,(true,(a30.1,((a31.1++(b2.1::[])),((a32.1++(r1.1.1::[])),a32.2))))))))))))))))))))))))))))))))),())))
      else none)
     else some ((),((a0.1,(a1.1,(a2.1,(a3.1,(a4.1,(a5.1,(a6.1,(a7.1,(a8.1,(a9.1,(a10.1,(a11.1,(b3.1,(b4.1,(b5.1,(b6.1,(b7.1,(b8.1,(a18.1,(b9.1,(r1.2.1.1,(r1.2.1.2.1,(r1.2.1.2.2.1,(r1.2.1.2.2.2.1,(r1.2.1.2.2.2.2.1,(r1.2.1.2.2.2.2.2.1,(r1.2.1.2.2.2.2.2.2.1,(a27.1,(a28.1,(true,(a30.1,((a31.1++(b2.1::[])),a32)))))))))))))))))))))))))))))))),())))
    else (c278 ((a20.1,(a21.1,(a22.1,(a23.1,(a24.1,(a25.1,(a26.1,()))))))),())).bind fun r1=>
    bif r1.1.2.1 then (bif (leN ((List.length a32.1)+(List.length (r1.1.1::[]))) (E.most .i))then (some ((),((a0.1,(a1.1,(a2.1,(a3.1,(a4.1,(a5.1,(a6.1,(a7.1,(a8.1,(a9.1,(a10.1,(a11.1,(b3.1,(b4.1,(b5.1,(b6.1,(b7.1,(b8.1,(a18.1,(b9.1,(r1.2.1.1,(r1.2.1.2.1,(r1.2.1.2.2.1,(r1.2.1.2.2.2.1,(r1.2.1.2.2.2.2.1,(r1.2.1.2.2.2.2.2.1,(r1.2.1.2.2.2.2.2.2.1,(a27.1,(a28.1,(b2.2.1,(a30.1,((a31.1++(b2.1::[])),((a32.1++(r1.1.1::[])),a32.2))))))))))))))))))))))))))))))))),())))
     else none)
    else some ((),((a0.1,(a1.1,(a2.1,(a3.1,(a4.1,(a5.1,(a6.1,(a7.1,(a8.1,(a9.1,(a10.1,(a11.1,(b3.1,(b4.1,(b5.1,(b6.1,(b7.1,(b8.1,(a18.1,(b9.1,(r1.2.1.1,(r1.2.1.2.1,(r1.2.1.2.2.1,(r1.2.1.2.2.2.1,(r1.2.1.2.2.2.2.1,(r1.2.1.2.2.2.2.2.1,(r1.2.1.2.2.2.2.2.2.1,(a27.1,(a28.1,(b2.2.1,(a30.1,((a31.1++(b2.1::[])),a32)))))))))))))))))))))))))))))))),())))
   else none)
  else bif a29.1 then ((c278 ((a20.1,(a21.1,(a22.1,(a23.1,(a24.1,(a25.1,(a26.1,()))))))),())).bind fun r1=>
   bif r1.1.2.1 then (bif (leN ((List.length a32.1)+(List.length (r1.1.1::[]))) (E.most .i))then (some ((),((a0.1,(a1.1,(a2.1,(a3.1,(a4.1,(a5.1,(a6.1,(a7.1,(a8.1,(a9.1,(a10.1,(a11.1,(b3.1,(b4.1,(b5.1,(b6.1,(b7.1,(b8.1,(a18.1,(b9.1,(r1.2.1.1,(r1.2.1.2.1,(r1.2.1.2.2.1,(r1.2.1.2.2.2.1,(r1.2.1.2.2.2.2.1,(r1.2.1.2.2.2.2.2.1,(r1.2.1.2.2.2.2.2.2.1,(a27.1,(a28.1,(true,(a30.1,(a31.1,((a32.1++(r1.1.1::[])),a32.2))))))))))))))))))))))))))))))))),())))
    else none)
   else some ((),((a0.1,(a1.1,(a2.1,(a3.1,(a4.1,(a5.1,(a6.1,(a7.1,(a8.1,(a9.1,(a10.1,(a11.1,(b3.1,(b4.1,(b5.1,(b6.1,(b7.1,(b8.1,(a18.1,(b9.1,(r1.2.1.1,(r1.2.1.2.1,(r1.2.1.2.2.1,(r1.2.1.2.2.2.1,(r1.2.1.2.2.2.2.1,(r1.2.1.2.2.2.2.2.1,(r1.2.1.2.2.2.2.2.2.1,(a27.1,(a28.1,(true,a30)))))))))))))))))))))))))))))),())))
  else (c278 ((a20.1,(a21.1,(a22.1,(a23.1,(a24.1,(a25.1,(a26.1,()))))))),())).bind fun r1=>
  bif r1.1.2.1 then (bif (leN ((List.length a32.1)+(List.length (r1.1.1::[]))) (E.most .i))then (some ((),((a0.1,(a1.1,(a2.1,(a3.1,(a4.1,(a5.1,(a6.1,(a7.1,(a8.1,(a9.1,(a10.1,(a11.1,(b3.1,(b4.1,(b5.1,(b6.1,(b7.1,(b8.1,(a18.1,(b9.1,(r1.2.1.1,(r1.2.1.2.1,(r1.2.1.2.2.1,(r1.2.1.2.2.2.1,(r1.2.1.2.2.2.2.1,(r1.2.1.2.2.2.2.2.1,(r1.2.1.2.2.2.2.2.2.1,(a27.1,(a28.1,(b2.2.1,(a30.1,(a31.1,((a32.1++(r1.1.1::[])),a32.2))))))))))))))))))))))))))))))))),())))
   else none)
  else some ((),((a0.1,(a1.1,(a2.1,(a3.1,(a4.1,(a5.1,(a6.1,(a7.1,(a8.1,(a9.1,(a10.1,(a11.1,(b3.1,(b4.1,(b5.1,(b6.1,(b7.1,(b8.1,(a18.1,(b9.1,(r1.2.1.1,(r1.2.1.2.1,(r1.2.1.2.2.1,(r1.2.1.2.2.2.1,(r1.2.1.2.2.2.2.1,(r1.2.1.2.2.2.2.2.1,(r1.2.1.2.2.2.2.2.2.1,(a27.1,(a28.1,(b2.2.1,a30)))))))))))))))))))))))))))))),()))
theorem s218 (c278:F278) (c277:F277) (y):TE [g278 c278,g277 c277] Tryz.f218 i218 o218 y=m218 c278 c277 y:=by kernel_rfl
noncomputable def r218:F218:=m218 r278 r277
theorem k218:KO (g218 r218):=fk (s218 r278 r277) ⟨k278,k277,⟨⟩⟩ (by kernel_rfl)
abbrev i146:Ts:=[.p [.sl false .n, .sl false .i, .sl true .i, .int .i64, .int .i64, .int .i64, .int .i64, .int .i64, .bool, .bool, .bool, .bool, .int .i64, .int .i64, .int .i64, .int .i64, .int .i64, .bool, .sl true .i, .sl true .i, .int .i64, .int .i64, .int .i64, .int .i64, .int .i64, .bool, .bool, .bool, .int .i64, .bool, .int .i64, .sl true .n, .sl true .i, .sl true .i]]
abbrev o146:Ts:=[.v (.bool)]
abbrev R146:=Option (PTup o146×BTup i146)
abbrev F146:=PTup i146→R146
abbrev g146:=mkG 146 i146 o146
abbrev lc146_0:Ts:=[.v (.int .i64)]
abbrev lb146_0:Ts:=[.p q11]
abbrev lv146_0:Ts:=[.v (.int .i64)]
abbrev lr146_0:Ts:=[]
abbrev R146_0:=Option (Sum (PTup lv146_0) (PTup lr146_0)×BTup lb146_0)
abbrev B146_0:=PTup lb146_0→PTup lv146_0→R146_0
abbrev A146_0:=PTup lc146_0→B146_0
noncomputable def w146_0 (c216:F216) (c217:F217) (c218:F218) (c43:F43) (c156:F156) (again:B146_0) (x:PTup lc146_0) (y:PTup lb146_0) (z:PTup lv146_0):R146_0:=
  bif (ltI z.1 x.1)then ((c218 (y.1,())).bind fun r0=>let b0:=r0.2;let b1:=b0.1;let b2:=b1.2;let b3:=b2.2;let b4:=b3.2;let b5:=b4.2;let b6:=b5.2;let b7:=b6.2;let b8:=b7.2;let b9:=b8.2;let b10:=b9.2;let b11:=b10.2;let b12:=b11.2;let b13:=b12.2;let b14:=b13.2;let b15:=b14.2;let b16:=b15.2;let b17:=b16.2;let b18:=b17.2;let b19:=b18.2;let b20:=b19.2;let b21:=b20.2;let b22:=b21.2;let b23:=b22.2;let b24:=b23.2;let b25:=b24.2.2;let b26:=b25.2.2;again ((y.1.1,(y.1.2.1,(y.1.2.2.1,(b4.1,(b5.1,(b6.1,(b7.1,(b8.1,(b9.1,(b10.1,(b11.1,(b12.1,(b13.1,(b14.1,(b15.1,(b16.1,(b17.1,(b18.1,(y.1.2.2.2.2.2.2.2.2.2.2.2.2.2.2.2.2.2.2.1,(b20.1,(b21.1,(b22.1,(b23.1,(b24.1,(b24.2.1,(b25.1,(b25.2.1,(b26.1,(b26.2.1,(b26.2.2.1,(b26.2.2.2.1,(b26.2.2.2.2.1,(b26.2.2.2.2.2.1,y.1.2.2.2.2.2.2.2.2.2.2.2.2.2.2.2.2.2.2.2.2.2.2.2.2.2.2.2.2.2.2.2.2.2))))))))))))))))))))))))))))))))),()) ((wI (z.1+1)),()))
  else some ((Sum.inl z),(y.1,()))
noncomputable def e146_0 (l:A146_0):LoopE:=⟨[68],lc146_0,[0],lb146_0,[69],lv146_0,[],lr146_0,1,[],l⟩
noncomputable def m146 (c216:F216) (c217:F217) (c218:F218) (c43:F43) (c156:F156) (l0:A146_0) (y:PTup i146):R146:=
  let a0:=y.1;let a1:=a0.1;let a2:=a0.2;let a3:=a2.1;let a4:=a2.2;let a5:=a4.2;let a6:=a5.2;let a7:=a6.2;let a8:=a7.2;let a9:=a8.2;let a10:=a9.2;let a11:=a10.2;let a12:=a11.2;let a13:=a12.2;let a14:=a13.2;let a15:=a14.2;let a16:=a15.2;let a17:=a16.2;let a18:=a17.2;let a19:=a18.2;let a20:=a19.2;let a21:=a20.1;let a22:=a20.2;let a23:=a22.1;let a24:=a22.2;let a25:=a24.2;let a26:=a25.2;let a27:=a26.2;let a28:=a27.2;let a29:=a28.2;let a30:=a29.2;let a31:=a30.2;let a32:=a31.2;let a33:=a32.2;let a34:=a33.2;let a35:=a34.2;let a36:=a35.2;let a37:=a36.2;let X0:R146:=(c216 ((a1,(a3,(a4.1,(a5.1,(a6.1,(a7.1,(a8.1,(a9.1,(a10.1,(a11.1,(a12.1,(a13.1,(a14.1,(a15.1,(a16.1,(a17.1,(a18.1,(a19.1,(a21,(a23,(a24.1,(a25.1,(a26.1,(a27.1,(a28.1,(a29.1,(a30.1,(a31.1,(a32.1,(false,a34)))))))))))))))))))))))))))))),((65530:Int),()))).bind fun r2=>let f0:=r2.2;let f1:=f0.1;let f2:=f1.2;let f3:=f2.2;let f4:=f3.2;let f5:=f4.2;let f6:=f5.2;let f7:=f6.2;let f8:=f7.2;let f9:=f8.2;let f10:=f9.2;let f11:=f10.2;let f12:=f11.2;let f13:=f12.2;let f14:=f13.2;let f15:=f14.2;let f16:=f15.2;let f17:=f16.2;let f18:=f17.2;let f19:=f18.2;let f20:=f19.2;let f21:=f20.2;let f22:=f21.2;let f23:=f22.2.2;let f24:=f23.2.2;(l0 ((7:Int),()) ((a1,(a3,(f3.1,(f4.1,(f5.1,(f6.1,(f7.1,(f8.1,(f9.1,(f10.1,(f11.1,(f12.1,(f13.1,(f14.1,(f15.1,(f16.1,(f17.1,(f18.1,(a21,(a23,(f21.1,(f22.1,(f22.2.1,(f23.1,(f23.2.1,(f24.1,(f24.2.1,(f24.2.2.1,(f24.2.2.2.1,(f24.2.2.2.2.1,(f24.2.2.2.2.2.1,a35))))))))))))))))))))))))))))))),()) ((0:Int),())).bind fun r3=>let g0:=r3.2;let g1:=g0.1;let g2:=g1.2;let g3:=g2.2;let g4:=g3.2;let g5:=g4.2;let g6:=g5.2;let g7:=g6.2;let g8:=g7.2;let g9:=g8.2;let g10:=g9.2;let g11:=g10.2;let g12:=g11.2;let g13:=g12.2;let g14:=g13.2;let g15:=g14.2;let g16:=g15.2;let g17:=g16.2;let g18:=g17.2;let g19:=g18.2;let g20:=g19.2;let g21:=g20.2;let g22:=g21.2;let g23:=g22.2;let g24:=g23.2;let g25:=g24.2;let g26:=g25.2;let g27:=g26.2;let g28:=g27.2;let g29:=g28.2;let g30:=g29.2.2;sumElim r3.1 (fun r4=>some ((true,()),((a1,(a3,(f3.1,(g4.1,(g5.1,(g6.1,(g7.1,(g8.1,(g9.1,(g10.1,(g11.1,(g12.1,(g13.1,(g14.1,(g15.1,(g16.1,(g17.1,(g18.1,(a21,(g20.1,(g21.1,(g22.1,(g23.1,(g24.1,(g25.1,(g26.1,(g27.1,(g28.1,(g29.1,(g29.2.1,((wI (g30.1+1)),(g30.2.1,(g30.2.2.1,a37))))))))))))))))))))))))))))))))),()))) (fun r4=>some ((false,()),((a1,(a3,(f3.1,(g4.1,(g5.1,(g6.1,(g7.1,(g8.1,(g9.1,(g10.1,(g11.1,(g12.1,(g13.1,(g14.1,(g15.1,(g16.1,(g17.1,(g18.1,(a21,(g20.1,(g21.1,(g22.1,(g23.1,(g24.1,(g25.1,(g26.1,(g27.1,(g28.1,(g29.1,(g29.2.1,(g30.1,(g30.2.1,(g30.2.2.1,a37))))))))))))))))))))))))))))))))),())));let X1:R146:=(c216 (a0,((65534:Int),()))).bind fun r2=>let f0:=r2.2;let f1:=f0.1;let f2:=f1.2;let f3:=f2.2;let f4:=f3.2;let f5:=f4.2;let f6:=f5.2;let f7:=f6.2;let f8:=f7.2;let f9:=f8.2;let f10:=f9.2;let f11:=f10.2;let f12:=f11.2;let f13:=f12.2;let f14:=f13.2;let f15:=f14.2;let f16:=f15.2;let f17:=f16.2;let f18:=f17.2;let f19:=f18.2;let f20:=f19.2;let f21:=f20.2;let f22:=f21.2;let f23:=f22.2.2;let f24:=f23.2.2;(l0 ((7:Int),()) ((a1,(a3,(f3.1,(f4.1,(f5.1,(f6.1,(f7.1,(f8.1,(f9.1,(f10.1,(f11.1,(f12.1,(f13.1,(f14.1,(f15.1,(f16.1,(f17.1,(f18.1,(a21,(a23,(f21.1,(f22.1,(f22.2.1,(f23.1,(f23.2.1,(f24.1,(f24.2.1,(f24.2.2.1,(f24.2.2.2.1,(f24.2.2.2.2.1,(f24.2.2.2.2.2.1,a35))))))))))))))))))))))))))))))),()) ((0:Int),())).bind fun r3=>let g0:=r3.2;let g1:=g0.1;let g2:=g1.2;let g3:=g2.2;let g4:=g3.2;let g5:=g4.2;let g6:=g5.2;let g7:=g6.2;let g8:=g7.2;let g9:=g8.2;let g10:=g9.2;let g11:=g10.2;let g12:=g11.2;let g13:=g12.2;let g14:=g13.2;let g15:=g14.2;let g16:=g15.2;let g17:=g16.2;let g18:=g17.2;let g19:=g18.2;let g20:=g19.2;let g21:=g20.2;let g22:=g21.2;let g23:=g22.2;let g24:=g23.2;let g25:=g24.2;let g26:=g25.2;let g27:=g26.2;let g28:=g27.2;let g29:=g28.2;let g30:=g29.2.2;sumElim r3.1 (fun r4=>some ((true,()),((a1,(a3,(f3.1,(g4.1,(g5.1,(g6.1,(g7.1,(g8.1,(g9.1,(g10.1,(g11.1,(g12.1,(g13.1,(g14.1,(g15.1,(g16.1,(g17.1,(g18.1,(a21,(g20.1,(g21.1,(g22.1,(g23.1,(g24.1,(g25.1,(g26.1,(g27.1,(g28.1,(g29.1,(g29.2.1,((wI (g30.1+1)),(g30.2.1,(g30.2.2.1,a37))))))))))))))))))))))))))))))))),()))) (fun r4=>some ((false,()),((a1,(a3,(f3.1,(g4.1,(g5.1,(g6.1,(g7.1,(g8.1,(g9.1,(g10.1,(g11.1,(g12.1,(g13.1,(g14.1,(g15.1,(g16.1,(g17.1,(g18.1,(a21,(g20.1,(g21.1,(g22.1,(g23.1,(g24.1,(g25.1,(g26.1,(g27.1,(g28.1,(g29.1,(g29.2.1,(g30.1,(g30.2.1,(g30.2.2.1,a37))))))))))))))))))))))))))))))))),())));bif a33.1 then ((c156 ((a1,()),((a4.1,(a5.1,())),(a9.1,())))).bind fun r0=>(c43 (r0.1.1.1,())).bind fun r1=>bif (ltI 20000 (wI (a14.1+7)))then (some ((false,()),(a0,())))else bif a33.1 then X0 else X1)else bif a30.1 then ((c156 ((a1,()),((a4.1,(a5.1,())),(a9.1,())))).bind fun r0=>(c43 (r0.1.1.1,())).bind fun r1=>bif (!a13.1)then (bif (ltI 20000 (wI (a14.1+7)))then (some ((false,()),(a0,())))else bif a33.1 then X0 else bif (!a13.1)then X1 else (c217 (a0,(r0.1.1,()))).bind fun r2=>let f0:=r2.2;let f1:=f0.1;let f2:=f1.2;let f3:=f2.2;let f4:=f3.2;let f5:=f4.2;let f6:=f5.2;let f7:=f6.2;let f8:=f7.2;let f9:=f8.2;let f10:=f9.2;let f11:=f10.2;let f12:=f11.2;let f13:=f12.2;let f14:=f13.2;let f15:=f14.2;let f16:=f15.2;let f17:=f16.2;let f18:=f17.2;let f19:=f18.2;let f20:=f19.2;let f21:=f20.2;let f22:=f21.2;let f23:=f22.2;let f24:=f23.2;let f25:=f24.2;let f26:=f25.2.2;let f27:=f26.2.2;let f28:=f27.2.2.2.2.2;(l0 ((7:Int),()) ((a1,(a3,(f3.1,(f4.1,(f5.1,(f6.1,(f7.1,(f8.1,(f9.1,(f10.1,(f11.1,(f12.1,(f13.1,(f14.1,(f15.1,(f16.1,(f17.1,(f18.1,(f19.1,(a23,(f21.1,(f22.1,(f23.1,(f24.1,(f25.1,(f25.2.1,(f26.1,(f26.2.1,(f27.1,(f27.2.1,(f27.2.2.1,(a35.1,(a36.1,f28))))))))))))))))))))))))))))))))),()) ((0:Int),())).bind fun r3=>let g0:=r3.2;let g1:=g0.1;let g2:=g1.2;let g3:=g2.2;let g4:=g3.2;let g5:=g4.2;let g6:=g5.2;let g7:=g6.2;let g8:=g7.2;let g9:=g8.2;let g10:=g9.2;let g11:=g10.2;let g12:=g11.2;let g13:=g12.2;let g14:=g13.2;let g15:=g14.2;let g16:=g15.2;let g17:=g16.2;let g18:=g17.2;let g19:=g18.2;let g20:=g19.2;let g21:=g20.2;let g22:=g21.2;let g23:=g22.2;let g24:=g23.2;let g25:=g24.2;let g26:=g25.2;let g27:=g26.2;let g28:=g27.2;let g29:=g28.2;let g30:=g29.2.2;sumElim r3.1 (fun r4=>some ((true,()),((a1,(a3,(f3.1,(g4.1,(g5.1,(g6.1,(g7.1,(g8.1,(g9.1,(g10.1,(g11.1,(g12.1,(g13.1,(g14.1,(g15.1,(g16.1,(g17.1,(g18.1,(f19.1,(g20.1,(g21.1,(g22.1,(g23.1,(g24.1,(g25.1,(g26.1,(g27.1,(g28.1,(g29.1,(g29.2.1,((wI (g30.1+1)),(g30.2.1,(g30.2.2.1,f28))))))))))))))))))))))))))))))))),()))) (fun r4=>some ((false,()),((a1,(a3,(f3.1,(g4.1,(g5.1,(g6.1,(g7.1,(g8.1,(g9.1,(g10.1,(g11.1,(g12.1,(g13.1,(g14.1,(g15.1,(g16.1,(g17.1,(g18.1,(f19.1,(g20.1,(g21.1,(g22.1,(g23.1,(g24.1,(g25.1,(g26.1,(g27.1,(g28.1,(g29.1,(g29.2.1,(g30.1,(g30.2.1,(g30.2.2.1,f28))))))))))))))))))))))))))))))))),()))))else bif (ltI 20000 (wI (a14.1+r1.1.1)))then (some ((false,()),(a0,())))else bif a33.1 then ((c216 ((a1,(a3,(a4.1,(a5.1,(a6.1,(a7.1,(a8.1,(a9.1,(a10.1,(a11.1,(a12.1,(a13.1,(a14.1,(a15.1,(a16.1,(a17.1,(a18.1,(a19.1,(a21,(a23,(a24.1,(a25.1,(a26.1,(a27.1,(a28.1,(a29.1,(a30.1,(a31.1,(a32.1,(false,a34)))))))))))))))))))))))))))))),((65530:Int),()))).bind fun r2=>let f0:=r2.2;let f1:=f0.1;let f2:=f1.2;let f3:=f2.2;let f4:=f3.2;let f5:=f4.2;let f6:=f5.2;let f7:=f6.2;let f8:=f7.2;let f9:=f8.2;let f10:=f9.2;let f11:=f10.2;let f12:=f11.2;let f13:=f12.2;let f14:=f13.2;let f15:=f14.2;let f16:=f15.2;let f17:=f16.2;let f18:=f17.2;let f19:=f18.2;let f20:=f19.2;let f21:=f20.2;let f22:=f21.2;let f23:=f22.2.2;let f24:=f23.2.2;(l0 r1.1 ((a1,(a3,(f3.1,(f4.1,(f5.1,(f6.1,(f7.1,(f8.1,(f9.1,(f10.1,(f11.1,(f12.1,(f13.1,(f14.1,(f15.1,(f16.1,(f17.1,(f18.1,(a21,(a23,(f21.1,(f22.1,(f22.2.1,(f23.1,(f23.2.1,(f24.1,(f24.2.1,(f24.2.2.1,(f24.2.2.2.1,(f24.2.2.2.2.1,(f24.2.2.2.2.2.1,a35))))))))))))))))))))))))))))))),()) ((0:Int),())).bind fun r3=>let g0:=r3.2;let g1:=g0.1;let g2:=g1.2;let g3:=g2.2;let g4:=g3.2;let g5:=g4.2;let g6:=g5.2;let g7:=g6.2;let g8:=g7.2;let g9:=g8.2;let g10:=g9.2;let g11:=g10.2;let g12:=g11.2;let g13:=g12.2;let g14:=g13.2;let g15:=g14.2;let g16:=g15.2;let g17:=g16.2;let g18:=g17.2;let g19:=g18.2;let g20:=g19.2;let g21:=g20.2;let g22:=g21.2;let g23:=g22.2;let g24:=g23.2;let g25:=g24.2;let g26:=g25.2;let g27:=g26.2;let g28:=g27.2;let g29:=g28.2;let g30:=g29.2.2;sumElim r3.1 (fun r4=>some ((true,()),((a1,(a3,(f3.1,(g4.1,(g5.1,(g6.1,(g7.1,(g8.1,(g9.1,(g10.1,(g11.1,(g12.1,(g13.1,(g14.1,(g15.1,(g16.1,(g17.1,(g18.1,(a21,(g20.1,(g21.1,(g22.1,(g23.1,(g24.1,(g25.1,(g26.1,(g27.1,(g28.1,(g29.1,(g29.2.1,((wI (g30.1+1)),(g30.2.1,(g30.2.2.1,a37))))))))))))))))))))))))))))))))),()))) (fun r4=>some ((false,()),((a1,(a3,(f3.1,(g4.1,(g5.1,(g6.1,(g7.1,(g8.1,(g9.1,(g10.1,(g11.1,(g12.1,(g13.1,(g14.1,(g15.1,(g16.1,(g17.1,(g18.1,(a21,(g20.1,(g21.1,(g22.1,(g23.1,(g24.1,(g25.1,(g26.1,(g27.1,(g28.1,(g29.1,(g29.2.1,(g30.1,(g30.2.1,(g30.2.2.1,a37))))))))))))))))))))))))))))))))),()))))else bif (!a13.1)then ((c216 (a0,((65534:Int),()))).bind fun r2=>let f0:=r2.2;let f1:=f0.1;let f2:=f1.2;let f3:=f2.2;let f4:=f3.2;let f5:=f4.2;let f6:=f5.2;let f7:=f6.2;let f8:=f7.2;let f9:=f8.2;let f10:=f9.2;let f11:=f10.2;let f12:=f11.2;let f13:=f12.2;let f14:=f13.2;let f15:=f14.2;let f16:=f15.2;let f17:=f16.2;let f18:=f17.2;let f19:=f18.2;let f20:=f19.2;let f21:=f20.2;let f22:=f21.2;let f23:=f22.2.2;let f24:=f23.2.2;(l0 r1.1 ((a1,(a3,(f3.1,(f4.1,(f5.1,(f6.1,(f7.1,(f8.1,(f9.1,(f10.1,(f11.1,(f12.1,(f13.1,(f14.1,(f15.1,(f16.1,(f17.1,(f18.1,(a21,(a23,(f21.1,(f22.1,(f22.2.1,(f23.1,(f23.2.1,(f24.1,(f24.2.1,(f24.2.2.1,(f24.2.2.2.1,(f24.2.2.2.2.1,(f24.2.2.2.2.2.1,a35))))))))))))))))))))))))))))))),()) ((0:Int),())).bind fun r3=>let g0:=r3.2;let g1:=g0.1;let g2:=g1.2;let g3:=g2.2;let g4:=g3.2;let g5:=g4.2;let g6:=g5.2;let g7:=g6.2;let g8:=g7.2;let g9:=g8.2;let g10:=g9.2;let g11:=g10.2;let g12:=g11.2;let g13:=g12.2;let g14:=g13.2;let g15:=g14.2;let g16:=g15.2;let g17:=g16.2;let g18:=g17.2;let g19:=g18.2;let g20:=g19.2;let g21:=g20.2;let g22:=g21.2;let g23:=g22.2;let g24:=g23.2;let g25:=g24.2;let g26:=g25.2;let g27:=g26.2;let g28:=g27.2;let g29:=g28.2;let g30:=g29.2.2;sumElim r3.1 (fun r4=>some ((true,()),((a1,(a3,(f3.1,(g4.1,(g5.1,(g6.1,(g7.1,(g8.1,(g9.1,(g10.1,(g11.1,(g12.1,(g13.1,(g14.1,(g15.1,(g16.1,(g17.1,(g18.1,(a21,(g20.1,(g21.1,(g22.1,(g23.1,(g24.1,(g25.1,(g26.1,(g27.1,(g28.1,(g29.1,(g29.2.1,((wI (g30.1+1)),(g30.2.1,(g30.2.2.1,a37))))))))))))))))))))))))))))))))),()))) (fun r4=>some ((false,()),((a1,(a3,(f3.1,(g4.1,(g5.1,(g6.1,(g7.1,(g8.1,(g9.1,(g10.1,(g11.1,(g12.1,(g13.1,(g14.1,(g15.1,(g16.1,(g17.1,(g18.1,(a21,(g20.1,(g21.1,(g22.1,(g23.1,(g24.1,(g25.1,(g26.1,(g27.1,(g28.1,(g29.1,(g29.2.1,(g30.1,(g30.2.1,(g30.2.2.1,a37))))))))))))))))))))))))))))))))),()))))else (c217 (a0,(r0.1.1,()))).bind fun r2=>let f0:=r2.2;let f1:=f0.1;let f2:=f1.2;let f3:=f2.2;let f4:=f3.2;let f5:=f4.2;let f6:=f5.2;let f7:=f6.2;let f8:=f7.2;let f9:=f8.2;let f10:=f9.2;let f11:=f10.2;let f12:=f11.2;let f13:=f12.2;let f14:=f13.2;let f15:=f14.2;let f16:=f15.2;let f17:=f16.2;let f18:=f17.2;let f19:=f18.2;let f20:=f19.2;let f21:=f20.2;let f22:=f21.2;let f23:=f22.2;let f24:=f23.2;let f25:=f24.2;let f26:=f25.2.2;let f27:=f26.2.2;let f28:=f27.2.2.2.2.2;(l0 r1.1 ((a1,(a3,(f3.1,(f4.1,(f5.1,(f6.1,(f7.1,(f8.1,(f9.1,(f10.1,(f11.1,(f12.1,(f13.1,(f14.1,(f15.1,(f16.1,(f17.1,(f18.1,(f19.1,(a23,(f21.1,(f22.1,(f23.1,(f24.1,(f25.1,(f25.2.1,(f26.1,(f26.2.1,(f27.1,(f27.2.1,(f27.2.2.1,(a35.1,(a36.1,f28))))))))))))))))))))))))))))))))),()) ((0:Int),())).bind fun r3=>let g0:=r3.2;let g1:=g0.1;let g2:=g1.2;let g3:=g2.2;let g4:=g3.2;let g5:=g4.2;let g6:=g5.2;let g7:=g6.2;let g8:=g7.2;let g9:=g8.2;let g10:=g9.2;let g11:=g10.2;let g12:=g11.2;let g13:=g12.2;let g14:=g13.2;let g15:=g14.2;let g16:=g15.2;let g17:=g16.2;let g18:=g17.2;let g19:=g18.2;let g20:=g19.2;let g21:=g20.2;let g22:=g21.2;let g23:=g22.2;let g24:=g23.2;let g25:=g24.2;let g26:=g25.2;let g27:=g26.2;let g28:=g27.2;let g29:=g28.2;let g30:=g29.2.2;sumElim r3.1 (fun r4=>some ((true,()),((a1,(a3,(f3.1,(g4.1,(g5.1,(g6.1,(g7.1,(g8.1,(g9.1,(g10.1,(g11.1,(g12.1,(g13.1,(g14.1,(g15.1,(g16.1,(g17.1,(g18.1,(f19.1,(g20.1,(g21.1,(g22.1,(g23.1,(g24.1,(g25.1,(g26.1,(g27.1,(g28.1,(g29.1,(g29.2.1,((wI (g30.1+1)),(g30.2.1,(g30.2.2.1,f28))))))))))))))))))))))))))))))))),()))) (fun r4=>some ((false,()),((a1,(a3,(f3.1,(g4.1,(g5.1,(g6.1,(g7.1,(g8.1,(g9.1,(g10.1,(g11.1,(g12.1,(g13.1,(g14.1,(g15.1,(g16.1,(g17.1,(g18.1,(f19.1,(g20.1,(g21.1,(g22.1,(g23.1,(g24.1,(g25.1,(g26.1,(g27.1,(g28.1,(g29.1,(g29.2.1,(g30.1,(g30.2.1,(g30.2.2.1,f28))))))))))))))))))))))))))))))))),()))))else (c156 ((a1,()),((a4.1,(a5.1,())),(a9.1,())))).bind fun r0=>(c43 (r0.1.1.1,())).bind fun r1=>bif (ltI 20000 (wI (a14.1+r1.1.1)))then (some ((false,()),(a0,())))else bif a33.1 then ((c216 ((a1,(a3,(a4.1,(a5.1,(a6.1,(a7.1,(a8.1,(a9.1,(a10.1,(a11.1,(a12.1,(a13.1,(a14.1,(a15.1,(a16.1,(a17.1,(a18.1,(a19.1,(a21,(a23,(a24.1,(a25.1,(a26.1,(a27.1,(a28.1,(a29.1,(a30.1,(a31.1,(a32.1,(false,a34)))))))))))))))))))))))))))))),((65530:Int),()))).bind fun r2=>let f0:=r2.2;let f1:=f0.1;let f2:=f1.2;let f3:=f2.2;let f4:=f3.2;let f5:=f4.2;let f6:=f5.2;let f7:=f6.2;let f8:=f7.2;let f9:=f8.2;let f10:=f9.2;let f11:=f10.2;let f12:=f11.2;let f13:=f12.2;let f14:=f13.2;let f15:=f14.2;let f16:=f15.2;let f17:=f16.2;let f18:=f17.2;let f19:=f18.2;let f20:=f19.2;let f21:=f20.2;let f22:=f21.2;let f23:=f22.2.2;let f24:=f23.2.2;(l0 r1.1 ((a1,(a3,(f3.1,(f4.1,(f5.1,(f6.1,(f7.1,(f8.1,(f9.1,(f10.1,(f11.1,(f12.1,(f13.1,(f14.1,(f15.1,(f16.1,(f17.1,(f18.1,(a21,(a23,(f21.1,(f22.1,(f22.2.1,(f23.1,(f23.2.1,(f24.1,(f24.2.1,(f24.2.2.1,(f24.2.2.2.1,(f24.2.2.2.2.1,(f24.2.2.2.2.2.1,a35))))))))))))))))))))))))))))))),()) ((0:Int),())).bind fun r3=>let g0:=r3.2;let g1:=g0.1;let g2:=g1.2;let g3:=g2.2;let g4:=g3.2;let g5:=g4.2;let g6:=g5.2;let g7:=g6.2;let g8:=g7.2;let g9:=g8.2;let g10:=g9.2;let g11:=g10.2;let g12:=g11.2;let g13:=g12.2;let g14:=g13.2;let g15:=g14.2;let g16:=g15.2;let g17:=g16.2;let g18:=g17.2;let g19:=g18.2;let g20:=g19.2;let g21:=g20.2;let g22:=g21.2;let g23:=g22.2;let g24:=g23.2;let g25:=g24.2;let g26:=g25.2;let g27:=g26.2;let g28:=g27.2;let g29:=g28.2;let g30:=g29.2.2;sumElim r3.1 (fun r4=>some ((true,()),((a1,(a3,(f3.1,(g4.1,(g5.1,(g6.1,(g7.1,(g8.1,(g9.1,(g10.1,(g11.1,(g12.1,(g13.1,(g14.1,(g15.1,(g16.1,(g17.1,(g18.1,(a21,(g20.1,(g21.1,(g22.1,(g23.1,(g24.1,(g25.1,(g26.1,(g27.1,(g28.1,(g29.1,(g29.2.1,((wI (g30.1+1)),(g30.2.1,(g30.2.2.1,a37))))))))))))))))))))))))))))))))),()))) (fun r4=>some ((false,()),((a1,(a3,(f3.1,(g4.1,(g5.1,(g6.1,(g7.1,(g8.1,(g9.1,(g10.1,(g11.1,(g12.1,(g13.1,(g14.1,(g15.1,(g16.1,(g17.1,(g18.1,(a21,(g20.1,(g21.1,(g22.1,(g23.1,(g24.1,(g25.1,(g26.1,(g27.1,(g28.1,(g29.1,(g29.2.1,(g30.1,(g30.2.1,(g30.2.2.1,a37))))))))))))))))))))))))))))))))),()))))else (c217 (a0,(r0.1.1,()))).bind fun r2=>let f0:=r2.2;let f1:=f0.1;let f2:=f1.2;let f3:=f2.2;let f4:=f3.2;let f5:=f4.2;let f6:=f5.2;let f7:=f6.2;let f8:=f7.2;let f9:=f8.2;let f10:=f9.2;let f11:=f10.2;let f12:=f11.2;let f13:=f12.2;let f14:=f13.2;let f15:=f14.2;let f16:=f15.2;let f17:=f16.2;let f18:=f17.2;let f19:=f18.2;let f20:=f19.2;let f21:=f20.2;let f22:=f21.2;let f23:=f22.2;let f24:=f23.2;let f25:=f24.2;let f26:=f25.2.2;let f27:=f26.2.2;let f28:=f27.2.2.2.2.2;(l0 r1.1 ((a1,(a3,(f3.1,(f4.1,(f5.1,(f6.1,(f7.1,(f8.1,(f9.1,(f10.1,(f11.1,(f12.1,(f13.1,(f14.1,(f15.1,(f16.1,(f17.1,(f18.1,(f19.1,(a23,(f21.1,(f22.1,(f23.1,(f24.1,(f25.1,(f25.2.1,(f26.1,(f26.2.1,(f27.1,(f27.2.1,(f27.2.2.1,(a35.1,(a36.1,f28))))))))))))))))))))))))))))))))),()) ((0:Int),())).bind fun r3=>let g0:=r3.2;let g1:=g0.1;let g2:=g1.2;let g3:=g2.2;let g4:=g3.2;let g5:=g4.2;let g6:=g5.2;let g7:=g6.2;let g8:=g7.2;let g9:=g8.2;let g10:=g9.2;let g11:=g10.2;let g12:=g11.2;let g13:=g12.2;let g14:=g13.2;let g15:=g14.2;let g16:=g15.2;let g17:=g16.2;let g18:=g17.2;let g19:=g18.2;let g20:=g19.2;let g21:=g20.2;let g22:=g21.2;let g23:=g22.2;let g24:=g23.2;let g25:=g24.2;let g26:=g25.2;let g27:=g26.2;let g28:=g27.2;let g29:=g28.2;let g30:=g29.2.2;sumElim r3.1 (fun r4=>some ((true,()),((a1,(a3,(f3.1,(g4.1,(g5.1,(g6.1,(g7.1,(g8.1,(g9.1,(g10.1,(g11.1,(g12.1,(g13.1,(g14.1,(g15.1,(g16.1,(g17.1,(g18.1,(f19.1,(g20.1,(g21.1,(g22.1,(g23.1,(g24.1,(g25.1,(g26.1,(g27.1,(g28.1,(g29.1,(g29.2.1,((wI (g30.1+1)),(g30.2.1,(g30.2.2.1,f28))))))))))))))))))))))))))))))))),()))) (fun r4=>some ((false,()),((a1,(a3,(f3.1,(g4.1,(g5.1,(g6.1,(g7.1,(g8.1,(g9.1,(g10.1,(g11.1,(g12.1,(g13.1,(g14.1,(g15.1,(g16.1,(g17.1,(g18.1,(f19.1,(g20.1,(g21.1,(g22.1,(g23.1,(g24.1,(g25.1,(g26.1,(g27.1,(g28.1,(g29.1,(g29.2.1,(g30.1,(g30.2.1,(g30.2.2.1,f28))))))))))))))))))))))))))))))))),())))
noncomputable def E146 (c216:F216) (c217:F217) (c218:F218) (c43:F43) (c156:F156) (l0:A146_0):CEnv:=⟨⟨Tryz.prog,fnsL [g216 c216,g217 c217,g218 c218,g43 c43,g156 c156]⟩,loopsL [(15,e146_0 l0)]⟩
theorem t146_0 (c216:F216) (c217:F217) (c218:F218) (c43:F43) (c156:F156) (l0:A146_0) (again) (x y z):loopRound (E146 c216 c217 c218 c43 c156 l0) (loopAt (bodyOf Tryz.f146) 0) (e146_0 l0) Tryz.f146.ntmps again x y z=w146_0 c216 c217 c218 c43 c156 again x y z:=by kernel_rfl
noncomputable def n146_0 (c216:F216) (c217:F217) (c218:F218) (c43:F43) (c156:F156):Nat→A146_0
  |0,_,_,_=>none
  |n+1,x,y,z=>w146_0 c216 c217 c218 c43 c156 (fun y z=>n146_0 c216 c217 c218 c43 c156 n x y z) x y z
theorem s146 (c216:F216) (c217:F217) (c218:F218) (c43:F43) (c156:F156) (l0:A146_0) (y):tevF (E146 c216 c217 c218 c43 c156 l0) Tryz.f146 i146 o146 y=m146 c216 c217 c218 c43 c156 l0 y:=by kernel_rfl
noncomputable def L146_0:A146_0:=n146_0 r216 r217 r218 r43 r156 fuel
noncomputable def r146:F146:=m146 r216 r217 r218 r43 r156 L146_0
theorem k146:KO (g146 r146):=by
  have hE: ∀g f,(E146 r216 r217 r218 r43 r156 L146_0).env.fns g=some f→CallOk Tryz.prog g f:=fnsL_ok ⟨k216,k217,k218,k43,k156,⟨⟩⟩
  have h0:LoopOk Tryz.prog Tryz.f146.ntmps (loopAt (bodyOf Tryz.f146) 0) (e146_0 L146_0):=lp_ok (E:=E146 r216 r217 r218 r43 r156 L146_0) rfl hE mixed (AllLoops.of_list (l:=[]) (by kernel_rfl) trivial) (n146_0 r216 r217 r218 r43 r156) (fun _ _ _=>rfl) (fun n x y z=>t146_0 r216 r217 r218 r43 r156 L146_0 _ x y z) rfl
  exact fn_ok (E:=E146 r216 r217 r218 r43 r156 L146_0) rfl hE mixed (by kernel_rfl) (by kernel_rfl) (AllLoops.of_list (l:=[(loopAt (bodyOf Tryz.f146) 0)]) (by kernel_rfl) (.one (by kernel_rfl) h0 trivial)) (s146 r216 r217 r218 r43 r156 L146_0)
abbrev i94:Ts:=[.v (.sl false .i), .v (.sl false .i)]
abbrev o94:Ts:=[.v (.bool)]
abbrev F94:=FT i94 o94
abbrev g94:=mkG 94 i94 o94
abbrev lc94_0:Ts:=[.v (.sl false .i), .v (.sl false .i), .v (.int .i64)]
abbrev lb94_0:Ts:=[]
abbrev lv94_0:Ts:=[.v (.int .i64)]
abbrev lr94_0:Ts:=[.v (.bool)]
abbrev R94_0:=Option (Sum (PTup lv94_0) (PTup lr94_0)×BTup lb94_0)
abbrev B94_0:=PTup lb94_0→PTup lv94_0→R94_0
abbrev A94_0:=PTup lc94_0→B94_0
noncomputable def w94_0 (again:B94_0) (x:PTup lc94_0) (y:PTup lb94_0) (z:PTup lv94_0):R94_0:=
  bif (ltI z.1 x.2.2.1)then (bif (leI 0 z.1)then (bif (ltI z.1 (lenI x.1))then (bif (leI 0 z.1)then (bif (ltI z.1 (lenI x.2.1))then (bif (neI (rdE .i x.1 z.1) (rdE .i x.2.1 z.1))then (some ((Sum.inr (false,())),()))
       else again () ((wI (z.1+1)),()))
      else none)
     else none)
    else none)
   else none)
  else some ((Sum.inl z),())
noncomputable def e94_0 (l:A94_0):LoopE:=⟨[0,1,12],lc94_0,[],lb94_0,[13],lv94_0,[4],lr94_0,0,[],l⟩
noncomputable def m94 (l0:A94_0) (y:PTup i94):Option (PTup o94×BTup i94):=
  bif (neI (lenI y.1) (lenI y.2.1))then no
  else (l0 (y.1,(y.2.1,((lenI y.1),()))) () ((0:Int),())).bind fun r0=>
  sumElim r0.1 (fun r1=>some ((true,()),()))
  (fun r1=>some (r1,()))
noncomputable def E94 (l0:A94_0):CEnv:=⟨⟨Tryz.prog,fnsL []⟩,loopsL [(4,e94_0 l0)]⟩
theorem t94_0 (l0:A94_0) (again) (x y z):loopRound (E94 l0) (loopAt (bodyOf Tryz.f94) 0) (e94_0 l0) Tryz.f94.ntmps again x y z=w94_0 again x y z:=by kernel_rfl
noncomputable def n94_0:Nat→A94_0
  |0,_,_,_=>none
  |n+1,x,y,z=>w94_0 (fun y z=>n94_0 n x y z) x y z
theorem s94 (l0:A94_0) (y):tevF (E94 l0) Tryz.f94 i94 o94 y=m94 l0 y:=by kernel_rfl
noncomputable def L94_0:A94_0:=n94_0 fuel
noncomputable def r94:F94:=m94 L94_0
theorem k94:KO (g94 r94):=by
  have hE: ∀g f,(E94 L94_0).env.fns g=some f→CallOk Tryz.prog g f:=fnsL_ok trivial
  have h0:LoopOk Tryz.prog Tryz.f94.ntmps (loopAt (bodyOf Tryz.f94) 0) (e94_0 L94_0):=lp_ok (E:=E94 L94_0) rfl hE mixed (AllLoops.of_list (l:=[]) (by kernel_rfl) trivial) (n94_0) (fun _ _ _=>rfl) (fun n x y z=>t94_0 L94_0 _ x y z) rfl
  exact fn_ok (E:=E94 L94_0) rfl hE mixed (by kernel_rfl) (by kernel_rfl) (AllLoops.of_list (l:=[(loopAt (bodyOf Tryz.f94) 0)]) (by kernel_rfl) (.one (by kernel_rfl) h0 trivial)) (s94 L94_0)
abbrev i93:Ts:=[.a q1, .a q1]
abbrev o93:Ts:=[.v (.bool)]
abbrev F93:=FT i93 o93
abbrev g93:=mkG 93 i93 o93
noncomputable def m93 (c94:F94) (y:PTup i93):Option (PTup o93×BTup i93):=
  bif (eqI y.1.2.1 y.2.1.2.1)then ((c94 (y.1.1,(y.2.1.1,()))).bind fun r0=>
   some (r0.1,()))
  else no
theorem s93 (c94:F94) (y):TE [g94 c94] Tryz.f93 i93 o93 y=m93 c94 y:=by kernel_rfl
noncomputable def r93:F93:=m93 r94
theorem k93:KO (g93 r93):=fk (s93 r94) ⟨k94,⟨⟩⟩ (by kernel_rfl)
abbrev i20:Ts:=[.v (.sl false .b)]
abbrev o20:Ts:=[.v (.bool)]
abbrev F20:=FT i20 o20
abbrev g20:=mkG 20 i20 o20
noncomputable def m20 (y:PTup i20):Option (PTup o20×BTup i20):=
  some (((ltI 1048576 (lenI y.1)),()),())
theorem s20 (y):TE [] Tryz.f20 i20 o20 y=m20 y:=by kernel_rfl
noncomputable def r20:F20:=m20
theorem k20:KO (g20 r20):=fk (s20) trivial (by kernel_rfl)
abbrev i102:Ts:=[.v (.sl false .b)]
abbrev o102:Ts:=[.p q12]
abbrev F102:=FT i102 o102
abbrev g102 (c:F102):Nat×Tev.Fn:=(102,⟨i102,o102,c, .lnt⟩)
abbrev lc102_0:Ts:=[.v (.sl false .b)]
abbrev lb102_0:Ts:=[]
abbrev lv102_0:Ts:=[.v (.int .i64), .v (.int .i64)]
abbrev lr102_0:Ts:=[]
abbrev R102_0:=Option (Sum (PTup lv102_0) (PTup lr102_0)×BTup lb102_0)
abbrev B102_0:=PTup lb102_0→PTup lv102_0→R102_0
abbrev A102_0:=PTup lc102_0→B102_0
noncomputable def w102_0 (again:B102_0) (x:PTup lc102_0) (y:PTup lb102_0) (z:PTup lv102_0):R102_0:=
  bif (ltI z.2.1 (lenI x.1))then (bif (ltI z.2.1 4000)then (bif (leI 0 z.2.1)then (bif (ltI z.2.1 (lenI x.1))then (again () ((bAnd Go.IntKind.i64 (wI ((wI ((wI (z.1*131))+(wI (rdE .b x.1 z.2.1))))+7)) (1073741823:Int)),((wI (z.2.1+1)),())))
     else none)
    else none)
   else some ((Sum.inl z),()))
  else some ((Sum.inl z),())
noncomputable def e102_0 (l:A102_0):LoopE:=⟨[0],lc102_0,[],lb102_0,[3,4],lv102_0,[],lr102_0,0,[],l⟩
noncomputable def m102 (l0:A102_0) (y:PTup i102):Option (PTup o102×BTup i102):=
  (l0 y () ((wI ((18554:Int)+(lenI y.1))),((0:Int),()))).bind fun r0=>
  sumElim r0.1 (fun r1=>some (((y.1,((0:Int),(r1.1,()))),()),()))
  (fun r1=>none)
noncomputable def E102 (l0:A102_0):CEnv:=⟨⟨Tryz.prog,fnsL []⟩,loopsL [(3,e102_0 l0)]⟩
theorem t102_0 (l0:A102_0) (again) (x y z):loopRound (E102 l0) (loopAt (bodyOf Tryz.f102) 0) (e102_0 l0) Tryz.f102.ntmps again x y z=w102_0 again x y z:=by kernel_rfl
noncomputable def n102_0:Nat→A102_0
  |0,_,_,_=>none
  |n+1,x,y,z=>w102_0 (fun y z=>n102_0 n x y z) x y z
theorem s102 (l0:A102_0) (y):tevL (E102 l0) Tryz.f102 i102 o102 y=m102 l0 y:=by kernel_rfl
noncomputable def L102_0:A102_0:=n102_0 fuel
noncomputable def r102:F102:=m102 L102_0
theorem k102:KO (g102 r102):=by
  have hE: ∀g f,(E102 L102_0).env.fns g=some f→CallOk Tryz.prog g f:=fnsL_ok trivial
  have h0:LoopOk Tryz.prog Tryz.f102.ntmps (loopAt (bodyOf Tryz.f102) 0) (e102_0 L102_0):=lp_ok (E:=E102 L102_0) rfl hE mixed (AllLoops.of_list (l:=[]) (by kernel_rfl) trivial) (n102_0) (fun _ _ _=>rfl) (fun n x y z=>t102_0 L102_0 _ x y z) rfl
  exact fnL_ok (E:=E102 L102_0) rfl hE mixed (by kernel_rfl) (by kernel_rfl) (AllLoops.of_list (l:=[(loopAt (bodyOf Tryz.f102) 0)]) (by kernel_rfl) (.one (by kernel_rfl) h0 trivial)) (s102 L102_0)
abbrev i228:Ts:=[.p q12]
abbrev o228:Ts:=[.v (.int .i64)]
abbrev F228:=FT i228 o228
abbrev g228:=mkG 228 i228 o228
noncomputable def m228 (y:PTup i228):Option (PTup o228×BTup i228):=
  bif (ltI y.1.2.1 (lenI y.1.1))then (bif (leI 0 y.1.2.1)then (bif (ltI y.1.2.1 (lenI y.1.1))then (some (((bAnd Go.IntKind.i64 (wI ((bAnd Go.IntKind.i64 (bXor Go.IntKind.i64 (Int.fdiv (wI ((wI (y.1.2.2.1*6364136223846793005))+1442695040888963407)) ((2:Int)^(Min.min (Int.toNat (33:Int)) (64:Nat)))) (Int.fdiv (wI ((wI (y.1.2.2.1*6364136223846793005))+1442695040888963407)) ((2:Int)^(Min.min (Int.toNat (45:Int)) (64:Nat))))) (255:Int))+(wI (rdE .b y.1.1 y.1.2.1)))) (255:Int)),()),((y.1.1,((wI (y.1.2.1+1)),((wI ((wI (y.1.2.2.1*6364136223846793005))+1442695040888963407)),()))),())))
    else none)
   else none)
  else some (((bAnd Go.IntKind.i64 (bXor Go.IntKind.i64 (Int.fdiv (wI ((wI (y.1.2.2.1*6364136223846793005))+1442695040888963407)) ((2:Int)^(Min.min (Int.toNat (33:Int)) (64:Nat)))) (Int.fdiv (wI ((wI (y.1.2.2.1*6364136223846793005))+1442695040888963407)) ((2:Int)^(Min.min (Int.toNat (45:Int)) (64:Nat))))) (255:Int)),()),((y.1.1,(y.1.2.1,((wI ((wI (y.1.2.2.1*6364136223846793005))+1442695040888963407)),()))),()))
theorem s228 (y):TE [] Tryz.f228 i228 o228 y=m228 y:=by kernel_rfl
noncomputable def r228:F228:=m228
theorem k228:KO (g228 r228):=fk (s228) trivial (by kernel_rfl)
abbrev i157:Ts:=[.p q12, .v (.int .i64)]
abbrev o157:Ts:=[.v (.int .i64)]
abbrev F157:=FT i157 o157
abbrev g157:=mkG 157 i157 o157
noncomputable def m157 (c228:F228) (y:PTup i157):Option (PTup o157×BTup i157):=
  bif (leI y.2.1 0)then (some (((0:Int),()),(y.1,())))
  else bif (leI y.2.1 256)then ((c228 (y.1,())).bind fun r0=>
   bif (neI y.2.1 0)then (some (((Int.tmod r0.1.1 y.2.1),()),((y.1.1,r0.2.1.2),())))
   else none)
  else (c228 (y.1,())).bind fun r0=>
  (c228 ((y.1.1,r0.2.1.2),())).bind fun r1=>
  (c228 ((y.1.1,r1.2.1.2),())).bind fun r2=>
  (c228 ((y.1.1,r2.2.1.2),())).bind fun r3=>
  bif (neI y.2.1 0)then (some (((Int.tmod (wI ((wI ((wI ((wI (r0.1.1*16777216))+(wI (r1.1.1*65536))))+(wI (r2.1.1*256))))+r3.1.1)) y.2.1),()),((y.1.1,r3.2.1.2),())))
  else none
theorem s157 (c228:F228) (y):TE [g228 c228] Tryz.f157 i157 o157 y=m157 c228 y:=by kernel_rfl
noncomputable def r157:F157:=m157 r228
theorem k157:KO (g157 r157):=fk (s157 r228) ⟨k228,⟨⟩⟩ (by kernel_rfl)
abbrev i187:Ts:=[.p q12, .v (.sl false .i)]
abbrev o187:Ts:=[.v (.int .i64)]
abbrev F187:=FT i187 o187
abbrev g187:=mkG 187 i187 o187
noncomputable def m187 (c157:F157) (y:PTup i187):Option (PTup o187×BTup i187):=
  (c157 (y.1,((lenI y.2.1),()))).bind fun r0=>
  bif (leI 0 r0.1.1)then (bif (ltI r0.1.1 (lenI y.2.1))then (some (((rdE .i y.2.1 r0.1.1),()),((y.1.1,r0.2.1.2),())))
   else none)
  else none
theorem s187 (c157:F157) (y):TE [g157 c157] Tryz.f187 i187 o187 y=m187 c157 y:=by kernel_rfl
noncomputable def r187:F187:=m187 r157
theorem k187:KO (g187 r187):=fk (s187 r157) ⟨k157,⟨⟩⟩ (by kernel_rfl)
abbrev i304:Ts:=[.p q12]
abbrev o304:Ts:=[.v (.sl true .i)]
abbrev F304:=FT i304 o304
abbrev g304:=mkG 304 i304 o304
abbrev lc304_0:Ts:=[]
abbrev lb304_0:Ts:=[.p q12]
abbrev lv304_0:Ts:=[.v (.int .i64), .v (.sl true .i)]
abbrev lr304_0:Ts:=[]
abbrev R304_0:=Option (Sum (PTup lv304_0) (PTup lr304_0)×BTup lb304_0)
abbrev B304_0:=PTup lb304_0→PTup lv304_0→R304_0
abbrev A304_0:=PTup lc304_0→B304_0
noncomputable def w304_0 (c157:F157) (c187:F187) (again:B304_0) (x:PTup lc304_0) (y:PTup lb304_0) (z:PTup lv304_0):R304_0:=
  bif (ltI z.1 256)then ((c157 (y.1,((4:Int),()))).bind fun r0=>
   bif (eqI r0.1.1 0)then ((c157 ((y.1.1,r0.2.1.2),((30:Int),()))).bind fun r1=>
    bif (leI 0 z.1)then (bif (ltI z.1 (lenI z.2.1))then (again ((y.1.1,r1.2.1.2),()) ((wI (z.1+1)),((List.set z.2.1 (Int.toNat z.1) r1.1.1),())))
     else none)
    else none)
   else bif (eqI r0.1.1 1)then ((c187 ((y.1.1,r0.2.1.2),(((32:Int)::((64:Int)::((0:Int)::((1:Int)::((22:Int)::((192:Int)::((128:Int)::((2:Int)::((4:Int)::((5:Int)::[])))))))))),()))).bind fun r1=>
    bif (leI 0 z.1)then (bif (ltI z.1 (lenI z.2.1))then (again ((y.1.1,r1.2.1.2),()) ((wI (z.1+1)),((List.set z.2.1 (Int.toNat z.1) r1.1.1),())))
     else none)
    else none)
   else bif (eqI r0.1.1 2)then ((c157 ((y.1.1,r0.2.1.2),((256:Int),()))).bind fun r1=>
    bif (leI 0 z.1)then (bif (ltI z.1 (lenI z.2.1))then (again ((y.1.1,r1.2.1.2),()) ((wI (z.1+1)),((List.set z.2.1 (Int.toNat z.1) r1.1.1),())))
     else none)
    else none)
   else again ((y.1.1,r0.2.1.2),()) ((wI (z.1+1)),z.2))
  else some ((Sum.inl z),(y.1,()))
noncomputable def e304_0 (l:A304_0):LoopE:=⟨[],lc304_0,[0],lb304_0,[4,3],lv304_0,[],lr304_0,0,[],l⟩
noncomputable def m304 (c157:F157) (c187:F187) (l0:A304_0) (y:PTup i304):Option (PTup o304×BTup i304):=
  (l0 () (y.1,()) ((0:Int),((List.replicate (Int.toNat (256:Int)) (0:Int)),()))).bind fun r0=>
  sumElim r0.1 (fun r1=>some (r1.2,((y.1.1,r0.2.1.2),())))
  (fun r1=>some (([],()),((y.1.1,r0.2.1.2),())))
noncomputable def E304 (c157:F157) (c187:F187) (l0:A304_0):CEnv:=⟨⟨Tryz.prog,fnsL [g157 c157,g187 c187]⟩,loopsL [(3,e304_0 l0)]⟩
theorem t304_0 (c157:F157) (c187:F187) (l0:A304_0) (again) (x y z):loopRound (E304 c157 c187 l0) (loopAt (bodyOf Tryz.f304) 0) (e304_0 l0) Tryz.f304.ntmps again x y z=w304_0 c157 c187 again x y z:=by kernel_rfl
noncomputable def n304_0 (c157:F157) (c187:F187):Nat→A304_0
  |0,_,_,_=>none
  |n+1,x,y,z=>w304_0 c157 c187 (fun y z=>n304_0 c157 c187 n x y z) x y z
theorem s304 (c157:F157) (c187:F187) (l0:A304_0) (y):tevF (E304 c157 c187 l0) Tryz.f304 i304 o304 y=m304 c157 c187 l0 y:=by kernel_rfl
noncomputable def L304_0:A304_0:=n304_0 r157 r187 fuel
noncomputable def r304:F304:=m304 r157 r187 L304_0
theorem k304:KO (g304 r304):=by
  have hE: ∀g f,(E304 r157 r187 L304_0).env.fns g=some f→CallOk Tryz.prog g f:=fnsL_ok ⟨k157,k187,⟨⟩⟩
  have h0:LoopOk Tryz.prog Tryz.f304.ntmps (loopAt (bodyOf Tryz.f304) 0) (e304_0 L304_0):=lp_ok (E:=E304 r157 r187 L304_0) rfl hE mixed (AllLoops.of_list (l:=[]) (by kernel_rfl) trivial) (n304_0 r157 r187) (fun _ _ _=>rfl) (fun n x y z=>t304_0 r157 r187 L304_0 _ x y z) rfl
  exact fn_ok (E:=E304 r157 r187 L304_0) rfl hE mixed (by kernel_rfl) (by kernel_rfl) (AllLoops.of_list (l:=[(loopAt (bodyOf Tryz.f304) 0)]) (by kernel_rfl) (.one (by kernel_rfl) h0 trivial)) (s304 r157 r187 L304_0)
abbrev i104:Ts:=[.p q12, .v (.int .i64)]
abbrev o104:Ts:=[.v (.bool)]
abbrev F104:=FT i104 o104
abbrev g104:=mkG 104 i104 o104
noncomputable def m104 (c157:F157) (y:PTup i104):Option (PTup o104×BTup i104):=
  (c157 y).bind fun r0=>
  some (((eqI r0.1.1 0),()),((y.1.1,r0.2.1.2),()))
theorem s104 (c157:F157) (y):TE [g157 c157] Tryz.f104 i104 o104 y=m104 c157 y:=by kernel_rfl
noncomputable def r104:F104:=m104 r157
theorem k104:KO (g104 r104):=fk (s104 r157) ⟨k157,⟨⟩⟩ (by kernel_rfl)
abbrev i328:Ts:=[.p q12, .v (.sl false .s)]
abbrev o328:Ts:=[.v (.str)]
abbrev F328:=FT i328 o328
abbrev g328:=mkG 328 i328 o328
noncomputable def m328 (c157:F157) (y:PTup i328):Option (PTup o328×BTup i328):=
  (c157 (y.1,((lenI y.2.1),()))).bind fun r0=>
  bif (leI 0 r0.1.1)then (bif (ltI r0.1.1 (lenI y.2.1))then (some (((rdE .s y.2.1 r0.1.1),()),((y.1.1,r0.2.1.2),())))
   else none)
  else none
theorem s328 (c157:F157) (y):TE [g157 c157] Tryz.f328 i328 o328 y=m328 c157 y:=by kernel_rfl
noncomputable def r328:F328:=m328 r157
theorem k328:KO (g328 r328):=fk (s328 r157) ⟨k157,⟨⟩⟩ (by kernel_rfl)
abbrev i306:Ts:=[.p q12]
abbrev o306:Ts:=[.v (.str)]
abbrev F306:=FT i306 o306
abbrev g306:=mkG 306 i306 o306
noncomputable def m306 (c328:F328) (y:PTup i306):Option (PTup o306×BTup i306):=
  (c328 (y.1,(((bz [108,100,105,32,53,10,115,116,97,32,56,49,57,51,10,108,100,105,32,49,50,56,10,115,116,97,32,56,49,57,50,10,108,100,97,32,56,49,57,52,10,115,116,97,32,49,54,10,106,109,112,32,52,57,49,54,50,10])::((bz [108,100,105,32,51,10,115,116,97,32,49,54,51,56,52,10,108,100,105,32,50,10,115,116,97,32,49,54,51,56,53,10,108,100,105,32,49,10,115,116,97,32,49,54,51,56,54,10,99,108,105,10,108,100,97,32,49,54,51,56,54,10,106,109,112,32,52,57,49,54,56,10])::((bz [108,100,105,32,50,10,115,116,97,32,56,49,57,53,10,105,110,120,10,116,120,97,10,115,116,97,32,56,49,57,54,10,115,116,97,32,56,49,57,55,10,108,100,97,32,56,49,57,54,10,115,116,97,32,48,10,106,109,112,32,52,57,49,53,55,10])::((bz [108,100,105,32,49,10,115,116,97,32,49,54,52,48,54,10,108,100,105,32,48,10,115,116,97,32,49,54,52,48,54,10,108,100,97,32,49,54,52,48,54,10,112,104,97,10,108,100,97,32,49,54,52,48,54,10,112,108,97,10,106,109,112,32,52,57,49,54,50,10])::((bz [105,110,120,10,116,120,97,10,115,116,97,32,51,50,55,54,56,10,108,100,97,32,51,50,55,55,48,10,115,116,97,32,56,49,57,51,10,106,109,112,32,52,57,49,53,50,10])::((bz [108,100,105,32,49,50,56,10,115,116,97,32,56,49,57,50,10,108,100,105,32,55,10,115,116,97,32,49,54,51,56,53,10,108,100,105,32,49,10,115,116,97,32,49,54,51,56,54,10,99,108,105,10,106,115,114,32,52,57,51,48,48,10,106,109,112,32,52,57,49,54,56,10])::((bz [108,100,105,32,57,10,115,101,99,10,115,98,105,32,49,10,98,110,101,32,52,57,49,53,52,10,115,116,97,32,56,49,57,51,10,106,109,112,32,52,57,49,53,50,10])::[]))))))),()))).bind fun r0=>
  bif (leN ((ByteArray.size r0.1.1)+(ByteArray.size (bz [97,116,32,49,52,56,10,105,110,120,10,116,120,97,10,115,116,97,32,56,49,57,55,10,114,116,115,10,97,116,32,49,50,56,10,112,104,97,10,108,100,97,32,56,49,57,52,10,97,100,105,32,49,10,115,116,97,32,56,49,57,51,10,112,108,97,10,114,116,105,10,97,116,32,49,54,48,10,115,116,97,32,49,54,51,56,55,10,108,100,97,32,49,54,51,56,54,10,115,116,97,32,49,55,10,108,100,105,32,50,10,115,116,97,32,49,54,51,56,53,10,114,116,105,10]))) (4611686018427387904:Nat))then (some (((r0.1.1++(bz [97,116,32,49,52,56,10,105,110,120,10,116,120,97,10,115,116,97,32,56,49,57,55,10,114,116,115,10,97,116,32,49,50,56,10,112,104,97,10,108,100,97,32,56,49,57,52,10,97,100,105,32,49,10,115,116,97,32,56,49,57,51,10,112,108,97,10,114,116,105,10,97,116,32,49,54,48,10,115,116,97,32,49,54,51,56,55,10,108,100,97,32,49,54,51,56,54,10,115,116,97,32,49,55,10,108,100,105,32,50,10,115,116,97,32,49,54,51,56,53,10,114,116,105,10])),()),((y.1.1,r0.2.1.2),())))
  else none
theorem s306 (c328:F328) (y):TE [g328 c328] Tryz.f306 i306 o306 y=m306 c328 y:=by kernel_rfl
noncomputable def r306:F306:=m306 r328
theorem k306:KO (g306 r306):=fk (s306 r328) ⟨k328,⟨⟩⟩ (by kernel_rfl)
abbrev i345:Ts:=[.v (.int .i64)]
abbrev o345:Ts:=[.v (.str)]
abbrev F345:=FT i345 o345
abbrev g345:=mkG 345 i345 o345
abbrev lc345_0:Ts:=[]
abbrev lb345_0:Ts:=[]
abbrev lv345_0:Ts:=[.v (.int .i64), .v (.str)]
abbrev lr345_0:Ts:=[]
abbrev R345_0:=Option (Sum (PTup lv345_0) (PTup lr345_0)×BTup lb345_0)
abbrev B345_0:=PTup lb345_0→PTup lv345_0→R345_0
abbrev A345_0:=PTup lc345_0→B345_0
noncomputable def w345_0 (again:B345_0) (x:PTup lc345_0) (y:PTup lb345_0) (z:PTup lv345_0):R345_0:=
  bif (ltI 0 z.1)then (bif (leN ((ByteArray.size (strOf ((wB (wI ((48:Int)+(Int.tmod z.1 10))))::[])))+(ByteArray.size z.2.1)) (4611686018427387904:Nat))then (again () ((wI (Int.tdiv z.1 10)),(((strOf ((wB (wI ((48:Int)+(Int.tmod z.1 10))))::[]))++z.2.1),())))
   else none)
  else some ((Sum.inl z),())
noncomputable def e345_0 (l:A345_0):LoopE:=⟨[],lc345_0,[],lb345_0,[0,3],lv345_0,[],lr345_0,0,[],l⟩
noncomputable def m345 (l0:A345_0) (y:PTup i345):Option (PTup o345×BTup i345):=
  bif (eqI y.1 0)then (some (((bz [48]),()),()))
  else (l0 () () (y.1,((bz []),()))).bind fun r0=>
  sumElim r0.1 (fun r1=>some (r1.2,()))
  (fun r1=>some (((bz []),()),()))
noncomputable def E345 (l0:A345_0):CEnv:=⟨⟨Tryz.prog,fnsL []⟩,loopsL [(4,e345_0 l0)]⟩
theorem t345_0 (l0:A345_0) (again) (x y z):loopRound (E345 l0) (loopAt (bodyOf Tryz.f345) 0) (e345_0 l0) Tryz.f345.ntmps again x y z=w345_0 again x y z:=by kernel_rfl
noncomputable def n345_0:Nat→A345_0
  |0,_,_,_=>none
  |n+1,x,y,z=>w345_0 (fun y z=>n345_0 n x y z) x y z
theorem s345 (l0:A345_0) (y):tevF (E345 l0) Tryz.f345 i345 o345 y=m345 l0 y:=by kernel_rfl
noncomputable def L345_0:A345_0:=n345_0 fuel
noncomputable def r345:F345:=m345 L345_0
theorem k345:KO (g345 r345):=by
  have hE: ∀g f,(E345 L345_0).env.fns g=some f→CallOk Tryz.prog g f:=fnsL_ok trivial
  have h0:LoopOk Tryz.prog Tryz.f345.ntmps (loopAt (bodyOf Tryz.f345) 0) (e345_0 L345_0):=lp_ok (E:=E345 L345_0) rfl hE mixed (AllLoops.of_list (l:=[]) (by kernel_rfl) trivial) (n345_0) (fun _ _ _=>rfl) (fun n x y z=>t345_0 L345_0 _ x y z) rfl
  exact fn_ok (E:=E345 L345_0) rfl hE mixed (by kernel_rfl) (by kernel_rfl) (AllLoops.of_list (l:=[(loopAt (bodyOf Tryz.f345) 0)]) (by kernel_rfl) (.one (by kernel_rfl) h0 trivial)) (s345 L345_0)
abbrev i343:Ts:=[.v (.str)]
abbrev o343:Ts:=[.v (.int .i64)]
abbrev F343:=FT i343 o343
abbrev g343:=mkG 343 i343 o343
abbrev lc343_0:Ts:=[.v (.str)]
abbrev lb343_0:Ts:=[]
abbrev lv343_0:Ts:=[.v (.int .i64), .v (.int .i64)]
abbrev lr343_0:Ts:=[.v (.int .i64)]
abbrev R343_0:=Option (Sum (PTup lv343_0) (PTup lr343_0)×BTup lb343_0)
abbrev B343_0:=PTup lb343_0→PTup lv343_0→R343_0
abbrev A343_0:=PTup lc343_0→B343_0
noncomputable def w343_0 (c345:F345) (again:B343_0) (x:PTup lc343_0) (y:PTup lb343_0) (z:PTup lv343_0):R343_0:=
  bif (ltI z.2.1 ((((ByteArray.size x.1):Nat)):Int))then (bif (leI 0 z.2.1)then (bif (ltI z.2.1 ((((ByteArray.size x.1):Nat)):Int))then (bif (ltI (bt x.1 z.2.1) 48)then (some ((Sum.inr ((-(1:Int)),())),()))
     else bif (leI 0 z.2.1)then (bif (ltI z.2.1 ((((ByteArray.size x.1):Nat)):Int))then (bif (ltI 57 (bt x.1 z.2.1))then (some ((Sum.inr ((-(1:Int)),())),()))
       else bif (leI 0 z.2.1)then (bif (ltI z.2.1 ((((ByteArray.size x.1):Nat)):Int))then (again () ((wI ((wI ((wI ((10:Int)*z.1))+(wI (bt x.1 z.2.1))))-48)),((wI (z.2.1+1)),())))
        else none)
       else none)
      else none)
     else none)
    else none)
   else none)
  else some ((Sum.inl z),())
noncomputable def e343_0 (l:A343_0):LoopE:=⟨[0],lc343_0,[],lb343_0,[3,4],lv343_0,[2],lr343_0,0,[],l⟩
noncomputable def m343 (c345:F345) (l0:A343_0) (y:PTup i343):Option (PTup o343×BTup i343):=
  bif ((ByteArray.toList y.1)==(ByteArray.toList (bz [])))then (some (((-(1:Int)),()),()))
  else bif (ltI 5 ((((ByteArray.size y.1):Nat)):Int))then (some (((-(1:Int)),()),()))
  else (l0 y () ((0:Int),((0:Int),()))).bind fun r0=>
  sumElim r0.1 (fun r1=>(c345 (r1.1,())).bind fun r2=>
   bif (!((ByteArray.toList r2.1.1)==(ByteArray.toList y.1)))then (some (((-(1:Int)),()),()))
   else some ((r1.1,()),()))
  (fun r1=>some (r1,()))
noncomputable def E343 (c345:F345) (l0:A343_0):CEnv:=⟨⟨Tryz.prog,fnsL [g345 c345]⟩,loopsL [(5,e343_0 l0)]⟩
theorem t343_0 (c345:F345) (l0:A343_0) (again) (x y z):loopRound (E343 c345 l0) (loopAt (bodyOf Tryz.f343) 0) (e343_0 l0) Tryz.f343.ntmps again x y z=w343_0 c345 again x y z:=by kernel_rfl
noncomputable def n343_0 (c345:F345):Nat→A343_0
  |0,_,_,_=>none
  |n+1,x,y,z=>w343_0 c345 (fun y z=>n343_0 c345 n x y z) x y z
theorem s343 (c345:F345) (l0:A343_0) (y):tevF (E343 c345 l0) Tryz.f343 i343 o343 y=m343 c345 l0 y:=by kernel_rfl
noncomputable def L343_0:A343_0:=n343_0 r345 fuel
noncomputable def r343:F343:=m343 r345 L343_0
theorem k343:KO (g343 r343):=by
  have hE: ∀g f,(E343 r345 L343_0).env.fns g=some f→CallOk Tryz.prog g f:=fnsL_ok ⟨k345,⟨⟩⟩
  have h0:LoopOk Tryz.prog Tryz.f343.ntmps (loopAt (bodyOf Tryz.f343) 0) (e343_0 L343_0):=lp_ok (E:=E343 r345 L343_0) rfl hE mixed (AllLoops.of_list (l:=[]) (by kernel_rfl) trivial) (n343_0 r345) (fun _ _ _=>rfl) (fun n x y z=>t343_0 r345 L343_0 _ x y z) rfl
  exact fn_ok (E:=E343 r345 L343_0) rfl hE mixed (by kernel_rfl) (by kernel_rfl) (AllLoops.of_list (l:=[(loopAt (bodyOf Tryz.f343) 0)]) (by kernel_rfl) (.one (by kernel_rfl) h0 trivial)) (s343 r345 L343_0)
end Go.Proofs.YtgeodknaigdenaaGreat.Plain
