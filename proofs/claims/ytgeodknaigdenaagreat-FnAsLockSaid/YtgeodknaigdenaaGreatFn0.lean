/- Plain functions that the program's functions answer as; their contracts. Printed by a program of the proofs' writer. No condition. -/
import Derived.Test.YtgeodknaigdenaaGreatW5
import Derived.KernelRfl
import Derived.Test.YtgeodknaigdenaaGreatProg
set_option linter.unusedVariables false
set_option linter.unusedSimpArgs false
set_option maxRecDepth 100000
namespace Go.Proofs.YtgeodknaigdenaaGreat.Plain
open Go Go.Tev
theorem mixed : Tryz.prog.follows .mixedOrders = true := by kernel_rfl
noncomputable abbrev mkE (l : List (Nat × Tev.Fn)) : CEnv := ⟨⟨Tryz.prog, fnsL l⟩, loopsL []⟩
abbrev FT (i o : List Ty) := PTup i → Option (PTup o × BTup i)
abbrev Ts := List Ty
abbrev bz (l : List UInt8) : ByteArray := ⟨⟨l⟩⟩
noncomputable abbrev TE (l : List (Nat × Tev.Fn)) (f : Func) (i o : List Ty) := tevF (mkE l) f i o
abbrev no : Option ((Bool × Unit) × Unit) := some ((false, ()), ())
abbrev mkG (k : Nat) (i o : List Ty) (c : FT i o) : Nat × Tev.Fn := (k, ⟨i, o, c, .nor⟩)
abbrev KO (x : Nat × Tev.Fn) : Prop := CK Tryz.prog x
theorem fk {l : List (Nat × Tev.Fn)} {g : FuncId} {f : Func} {i o : List Ty} {run : FT i o} (h : ∀ y, tevF (mkE l) f i o y = run y) (hE : AllCalls Tryz.prog l) (hg : (Tryz.prog.funcs[g]?, staticOk f i o && (loopsOf (bodyOf f)).isEmpty) = (some f, true)) : KO (mkG g i o run) := by
  have hs := congrArg Prod.snd hg
  dsimp only at hs
  rw [Bool.and_eq_true, List.isEmpty_iff] at hs
  exact fn0 h (fnsL_ok hE) rfl mixed (congrArg Prod.fst hg) hs.1 hs.2
abbrev m2 {A B C : Type} (f : B → C) (p : A × B) : A × C := (p.1, f p.2)
abbrev cpuAt {A B C D E F G H I J : Type} (c : A × B × C × D × E × F × G × H × I) (p : A × B × C × D × E × F × G × H × J) : A × B × C × D × E × F × G × H × J := (c.1, c.2.1, c.2.2.1, c.2.2.2.1, c.2.2.2.2.1, c.2.2.2.2.2.1, c.2.2.2.2.2.2.1, c.2.2.2.2.2.2.2.1, p.2.2.2.2.2.2.2.2)
abbrev q0 : List LT := [.sl false .n]
abbrev q1 : List LT := [.sl false .i, .int .i64]
abbrev q2 : List LT := [.int .i64, .int .i64, .int .i64, .int .i64, .bool, .bool, .bool, .bool]
abbrev q3 : List LT := [.int .i64, .int .i64, .int .i64, .int .i64, .int .i64, .bool, .sl false .i, .sl false .i]
abbrev q4 : List LT := [.int .i64, .sl false .t]
abbrev q5 : List LT := [.int .i64, .int .i64, .int .i64, .int .i64, .int .i64, .bool, .sl false .i, .sl false .i, .int .i64, .sl false .t, .sl false .n]
abbrev q6 : List LT := [.int .i64, .int .i64, .int .i64, .int .i64, .int .i64, .bool, .bool]
abbrev q7 : List LT := [.int .i64, .int .i64, .int .i64, .int .i64, .int .i64, .bool, .bool, .int .i64, .sl false .t, .sl false .i]
abbrev q8 : List LT := [.sl false .n, .sl false .i, .sl false .i, .int .i64, .int .i64, .int .i64, .int .i64, .int .i64, .bool, .bool, .bool, .bool, .bool, .int .i64, .int .i64, .bool, .int .i64, .bool, .int .i64, .int .i64, .sl false .i, .int .i64, .int .i64, .int .i64, .int .i64, .int .i64, .bool, .sl false .i, .sl false .i, .int .i64, .sl false .t, .sl false .n, .int .i64, .int .i64, .int .i64, .int .i64, .int .i64, .bool, .bool, .int .i64, .sl false .t, .sl false .i]
abbrev q9 : List LT := [.sl true .i, .int .i64]
abbrev q10 : List LT := [.int .i64, .int .i64, .int .i64, .int .i64, .int .i64, .bool, .sl true .i, .sl true .i]
abbrev q11 : List LT := [.int .i64, .int .i64]
abbrev q12 : List LT := [.sl false .b, .int .i64, .int .i64]
abbrev q13 : List LT := [.sl true .n, .sl true .i, .sl true .i, .int .i64, .int .i64, .int .i64, .int .i64, .int .i64, .bool, .bool, .bool, .bool, .bool, .int .i64, .int .i64, .bool, .int .i64, .bool, .int .i64, .int .i64, .sl true .i, .int .i64, .int .i64, .int .i64, .int .i64, .int .i64, .bool, .sl true .i, .sl true .i, .int .i64, .sl true .t, .sl true .n, .int .i64, .int .i64, .int .i64, .int .i64, .int .i64, .bool, .bool, .int .i64, .sl true .t, .sl true .i]
abbrev q14 : List LT := [.int .i64, .int .i64, .int .i64, .int .i64, .int .i64, .bool, .sl true .i, .sl true .i, .int .i64, .sl true .t, .sl true .n]
abbrev q15 : List LT := [.int .i64, .int .i64, .int .i64, .int .i64, .int .i64, .bool, .bool, .int .i64, .sl true .t, .sl true .i]
abbrev i125:Ts:=[.v (.int .i64), .v (.int .i64), .v (.int .i64)]
abbrev o125:Ts:=[.v (.bool)]
abbrev F125:=FT i125 o125
abbrev g125:=mkG 125 i125 o125
noncomputable def m125 (y:PTup i125):Option (PTup o125×BTup i125):=
  bif (leI y.2.1 y.1)then (some (((leI y.1 y.2.2.1),()),()))
  else no
theorem s125 (y):TE [] Tryz.f125 i125 o125 y=m125 y:=by kernel_rfl
noncomputable def r125:F125:=m125
theorem k125:KO (g125 r125):=fk (s125) trivial (by kernel_rfl)
abbrev i124:Ts:=[.v (.int .i64)]
abbrev o124:Ts:=[.v (.bool)]
abbrev F124:=FT i124 o124
abbrev g124:=mkG 124 i124 o124
noncomputable def m124 (c125:F125) (y:PTup i124):Option (PTup o124×BTup i124):=
  (c125 (y.1,((0:Int),((255:Int),())))).bind fun r0=>
  some (r0.1,())
theorem s124 (c125:F125) (y):TE [g125 c125] Tryz.f124 i124 o124 y=m124 c125 y:=by kernel_rfl
noncomputable def r124:F124:=m124 r125
theorem k124:KO (g124 r124):=fk (s124 r125) ⟨k125,⟨⟩⟩ (by kernel_rfl)
abbrev i119:Ts:=[.v (.sl false .i)]
abbrev o119:Ts:=[.v (.bool)]
abbrev F119:=FT i119 o119
abbrev g119:=mkG 119 i119 o119
abbrev lc119_0:Ts:=[.v (.sl false .i)]
abbrev lb119_0:Ts:=[]
abbrev lv119_0:Ts:=[.v (.int .i64)]
abbrev lr119_0:Ts:=[.v (.bool)]
abbrev R119_0:=Option (Sum (PTup lv119_0) (PTup lr119_0)×BTup lb119_0)
abbrev B119_0:=PTup lb119_0→PTup lv119_0→R119_0
abbrev A119_0:=PTup lc119_0→B119_0
noncomputable def w119_0 (c124:F124) (again:B119_0) (x:PTup lc119_0) (y:PTup lb119_0) (z:PTup lv119_0):R119_0:=
  bif (ltI z.1 (lenI x.1))then (bif (leI 0 z.1)then (bif (ltI z.1 (lenI x.1))then ((c124 ((rdE .i x.1 z.1),())).bind fun r0=>
     bif (!r0.1.1)then (some ((Sum.inr (false,())),()))
     else again () ((wI (z.1+1)),()))
    else none)
   else none)
  else some ((Sum.inl z),())
noncomputable def e119_0 (l:A119_0):LoopE:=⟨[0],lc119_0,[],lb119_0,[3],lv119_0,[2],lr119_0,0,[],l⟩
noncomputable def m119 (c124:F124) (l0:A119_0) (y:PTup i119):Option (PTup o119×BTup i119):=
  (l0 y () ((0:Int),())).bind fun r0=>
  sumElim r0.1 (fun r1=>some (((leI (lenI y.1) 20),()),()))
  (fun r1=>some (r1,()))
noncomputable def E119 (c124:F124) (l0:A119_0):CEnv:=⟨⟨Tryz.prog,fnsL [g124 c124]⟩,loopsL [(2,e119_0 l0)]⟩
theorem t119_0 (c124:F124) (l0:A119_0) (again) (x y z):loopRound (E119 c124 l0) (loopAt (bodyOf Tryz.f119) 0) (e119_0 l0) Tryz.f119.ntmps again x y z=w119_0 c124 again x y z:=by kernel_rfl
noncomputable def n119_0 (c124:F124):Nat→A119_0
  |0,_,_,_=>none
  |n+1,x,y,z=>w119_0 c124 (fun y z=>n119_0 c124 n x y z) x y z
theorem s119 (c124:F124) (l0:A119_0) (y):tevF (E119 c124 l0) Tryz.f119 i119 o119 y=m119 c124 l0 y:=by kernel_rfl
noncomputable def L119_0:A119_0:=n119_0 r124 fuel
noncomputable def r119:F119:=m119 r124 L119_0
theorem k119:KO (g119 r119):=by
  have hE: ∀g f,(E119 r124 L119_0).env.fns g=some f→CallOk Tryz.prog g f:=fnsL_ok ⟨k124,⟨⟩⟩
  have h0:LoopOk Tryz.prog Tryz.f119.ntmps (loopAt (bodyOf Tryz.f119) 0) (e119_0 L119_0):=lp_ok (E:=E119 r124 L119_0) rfl hE mixed (AllLoops.of_list (l:=[]) (by kernel_rfl) trivial) (n119_0 r124) (fun _ _ _=>rfl) (fun n x y z=>t119_0 r124 L119_0 _ x y z) rfl
  exact fn_ok (E:=E119 r124 L119_0) rfl hE mixed (by kernel_rfl) (by kernel_rfl) (AllLoops.of_list (l:=[(loopAt (bodyOf Tryz.f119) 0)]) (by kernel_rfl) (.one (by kernel_rfl) h0 trivial)) (s119 r124 L119_0)
abbrev i193:Ts:=[.a q0]
abbrev o193:Ts:=[.v (.bool)]
abbrev F193:=FT i193 o193
abbrev g193:=mkG 193 i193 o193
abbrev lc193_0:Ts:=[.v (.int .i64)]
abbrev lb193_0:Ts:=[.p q0]
abbrev lv193_0:Ts:=[.v (.int .i64)]
abbrev lr193_0:Ts:=[.v (.bool)]
abbrev R193_0:=Option (Sum (PTup lv193_0) (PTup lr193_0)×BTup lb193_0)
abbrev B193_0:=PTup lb193_0→PTup lv193_0→R193_0
abbrev A193_0:=PTup lc193_0→B193_0
noncomputable def w193_0 (c125:F125) (again:B193_0) (x:PTup lc193_0) (y:PTup lb193_0) (z:PTup lv193_0):R193_0:=
  bif (ltI z.1 256)then (bif (leI 0 x.1)then (bif (ltI x.1 (lenI y.1.1))then (bif (leI 0 z.1)then (bif (ltI z.1 (lenI (rdE .n y.1.1 x.1)))then ((c125 ((rdI (rdE .n y.1.1 x.1) z.1),((0:Int),((255:Int),())))).bind fun r0=>
       bif (!r0.1.1)then (some ((Sum.inr (false,())),(y.1,())))
       else again (y.1,()) ((wI (z.1+1)),()))
      else none)
     else none)
    else none)
   else none)
  else some ((Sum.inl z),(y.1,()))
noncomputable def e193_0 (l:A193_0):LoopE:=⟨[3],lc193_0,[1],lb193_0,[4],lv193_0,[2],lr193_0,2,[],l⟩
abbrev lc193_1:Ts:=[]
abbrev lb193_1:Ts:=[.p q0]
abbrev lv193_1:Ts:=[.v (.int .i64)]
abbrev lr193_1:Ts:=[.v (.bool)]
abbrev R193_1:=Option (Sum (PTup lv193_1) (PTup lr193_1)×BTup lb193_1)
abbrev B193_1:=PTup lb193_1→PTup lv193_1→R193_1
abbrev A193_1:=PTup lc193_1→B193_1
noncomputable def w193_1 (c125:F125) (l0:A193_0) (again:B193_1) (x:PTup lc193_1) (y:PTup lb193_1) (z:PTup lv193_1):R193_1:=
  bif (ltI z.1 (lenI y.1.1))then (bif (leI 0 z.1)then (bif (ltI z.1 (lenI y.1.1))then (bif (neI (lenI (rdE .n y.1.1 z.1)) (256:Int))then (some ((Sum.inr (false,())),(y.1,())))
     else (l0 z (y.1,()) ((0:Int),())).bind fun r0=>
     sumElim r0.1 (fun r1=>again (y.1,()) ((wI (z.1+1)),()))
     (fun r1=>some ((Sum.inr r1),(y.1,()))))
    else none)
   else none)
  else some ((Sum.inl z),(y.1,()))
noncomputable def e193_1 (l:A193_1):LoopE:=⟨[],lc193_1,[1],lb193_1,[3],lv193_1,[2],lr193_1,0,[],l⟩
noncomputable def m193 (c125:F125) (l0:A193_0) (l1:A193_1) (y:PTup i193):Option (PTup o193×BTup i193):=
  (l1 () (y.1,()) ((0:Int),())).bind fun r0=>
  sumElim r0.1 (fun r1=>(c125 ((lenI y.1.1),((1:Int),((8:Int),())))).bind fun r2=>
   some (r2.1,()))
  (fun r1=>some (r1,()))
noncomputable def E193 (c125:F125) (l0:A193_0) (l1:A193_1):CEnv:=⟨⟨Tryz.prog,fnsL [g125 c125]⟩,loopsL [(7,e193_0 l0),(2,e193_1 l1)]⟩
theorem t193_0 (c125:F125) (l0:A193_0) (l1:A193_1) (again) (x y z):loopRound (E193 c125 l0 l1) (loopAt (loopAt (bodyOf Tryz.f193) 0) 0) (e193_0 l0) Tryz.f193.ntmps again x y z=w193_0 c125 again x y z:=by kernel_rfl
noncomputable def n193_0 (c125:F125):Nat→A193_0
  |0,_,_,_=>none
  |n+1,x,y,z=>w193_0 c125 (fun y z=>n193_0 c125 n x y z) x y z
theorem t193_1 (c125:F125) (l0:A193_0) (l1:A193_1) (again) (x y z):loopRound (E193 c125 l0 l1) (loopAt (bodyOf Tryz.f193) 0) (e193_1 l1) Tryz.f193.ntmps again x y z=w193_1 c125 l0 again x y z:=by kernel_rfl
noncomputable def n193_1 (c125:F125) (l0:A193_0):Nat→A193_1
  |0,_,_,_=>none
  |n+1,x,y,z=>w193_1 c125 l0 (fun y z=>n193_1 c125 l0 n x y z) x y z
theorem s193 (c125:F125) (l0:A193_0) (l1:A193_1) (y):tevF (E193 c125 l0 l1) Tryz.f193 i193 o193 y=m193 c125 l0 l1 y:=by kernel_rfl
noncomputable def L193_0:A193_0:=n193_0 r125 fuel
noncomputable def L193_1:A193_1:=n193_1 r125 L193_0 fuel
noncomputable def r193:F193:=m193 r125 L193_0 L193_1
theorem k193:KO (g193 r193):=by
  have hE: ∀g f,(E193 r125 L193_0 L193_1).env.fns g=some f→CallOk Tryz.prog g f:=fnsL_ok ⟨k125,⟨⟩⟩
  have h0:LoopOk Tryz.prog Tryz.f193.ntmps (loopAt (loopAt (bodyOf Tryz.f193) 0) 0) (e193_0 L193_0):=lp_ok (E:=E193 r125 L193_0 L193_1) rfl hE mixed (AllLoops.of_list (l:=[]) (by kernel_rfl) trivial) (n193_0 r125) (fun _ _ _=>rfl) (fun n x y z=>t193_0 r125 L193_0 L193_1 _ x y z) rfl
  have h1:LoopOk Tryz.prog Tryz.f193.ntmps (loopAt (bodyOf Tryz.f193) 0) (e193_1 L193_1):=lp_ok (E:=E193 r125 L193_0 L193_1) rfl hE mixed (AllLoops.of_list (l:=[(loopAt (loopAt (bodyOf Tryz.f193) 0) 0)]) (by kernel_rfl) (.one (by kernel_rfl) h0 trivial)) (n193_1 r125 L193_0) (fun _ _ _=>rfl) (fun n x y z=>t193_1 r125 L193_0 L193_1 _ x y z) rfl
  exact fn_ok (E:=E193 r125 L193_0 L193_1) rfl hE mixed (by kernel_rfl) (by kernel_rfl) (AllLoops.of_list (l:=[(loopAt (bodyOf Tryz.f193) 0)]) (by kernel_rfl) (.one (by kernel_rfl) h1 trivial)) (s193 r125 L193_0 L193_1)
abbrev i120:Ts:=[.a q0, .a q1]
abbrev o120:Ts:=[.v (.bool)]
abbrev F120:=FT i120 o120
abbrev g120:=mkG 120 i120 o120
abbrev lc120_0:Ts:=[]
abbrev lb120_0:Ts:=[.p q1]
abbrev lv120_0:Ts:=[.v (.int .i64)]
abbrev lr120_0:Ts:=[.v (.bool)]
abbrev R120_0:=Option (Sum (PTup lv120_0) (PTup lr120_0)×BTup lb120_0)
abbrev B120_0:=PTup lb120_0→PTup lv120_0→R120_0
abbrev A120_0:=PTup lc120_0→B120_0
noncomputable def w120_0 (c193:F193) (c125:F125) (c124:F124) (again:B120_0) (x:PTup lc120_0) (y:PTup lb120_0) (z:PTup lv120_0):R120_0:=
  bif (ltI z.1 512)then (bif (leI 0 z.1)then (bif (ltI z.1 (lenI y.1.1))then ((c124 ((rdE .i y.1.1 z.1),())).bind fun r0=>
     bif (!r0.1.1)then (some ((Sum.inr (false,())),(y.1,())))
     else again (y.1,()) ((wI (z.1+1)),()))
    else none)
   else none)
  else some ((Sum.inl z),(y.1,()))
noncomputable def e120_0 (l:A120_0):LoopE:=⟨[],lc120_0,[3],lb120_0,[5],lv120_0,[4],lr120_0,0,[],l⟩
noncomputable def m120 (c193:F193) (c125:F125) (c124:F124) (l0:A120_0) (y:PTup i120):Option (PTup o120×BTup i120):=
  (c193 (y.1,())).bind fun r0=>
  bif (!r0.1.1)then no
  else bif (neI (lenI y.2.1.1) 512)then no
  else (c125 (y.2.1.2.1,((0:Int),((wI ((lenI y.1.1)-1)),())))).bind fun r1=>
  bif (!r1.1.1)then no
  else (l0 () (y.2.1,()) ((0:Int),())).bind fun r2=>
  sumElim r2.1 (fun r3=>some ((true,()),()))
  (fun r3=>some (r3,()))
noncomputable def E120 (c193:F193) (c125:F125) (c124:F124) (l0:A120_0):CEnv:=⟨⟨Tryz.prog,fnsL [g193 c193,g125 c125,g124 c124]⟩,loopsL [(4,e120_0 l0)]⟩
theorem t120_0 (c193:F193) (c125:F125) (c124:F124) (l0:A120_0) (again) (x y z):loopRound (E120 c193 c125 c124 l0) (loopAt (bodyOf Tryz.f120) 0) (e120_0 l0) Tryz.f120.ntmps again x y z=w120_0 c193 c125 c124 again x y z:=by kernel_rfl
noncomputable def n120_0 (c193:F193) (c125:F125) (c124:F124):Nat→A120_0
  |0,_,_,_=>none
  |n+1,x,y,z=>w120_0 c193 c125 c124 (fun y z=>n120_0 c193 c125 c124 n x y z) x y z
theorem s120 (c193:F193) (c125:F125) (c124:F124) (l0:A120_0) (y):tevF (E120 c193 c125 c124 l0) Tryz.f120 i120 o120 y=m120 c193 c125 c124 l0 y:=by kernel_rfl
noncomputable def L120_0:A120_0:=n120_0 r193 r125 r124 fuel
noncomputable def r120:F120:=m120 r193 r125 r124 L120_0
theorem k120:KO (g120 r120):=by
  have hE: ∀g f,(E120 r193 r125 r124 L120_0).env.fns g=some f→CallOk Tryz.prog g f:=fnsL_ok ⟨k193,k125,k124,⟨⟩⟩
  have h0:LoopOk Tryz.prog Tryz.f120.ntmps (loopAt (bodyOf Tryz.f120) 0) (e120_0 L120_0):=lp_ok (E:=E120 r193 r125 r124 L120_0) rfl hE mixed (AllLoops.of_list (l:=[]) (by kernel_rfl) trivial) (n120_0 r193 r125 r124) (fun _ _ _=>rfl) (fun n x y z=>t120_0 r193 r125 r124 L120_0 _ x y z) rfl
  exact fn_ok (E:=E120 r193 r125 r124 L120_0) rfl hE mixed (by kernel_rfl) (by kernel_rfl) (AllLoops.of_list (l:=[(loopAt (bodyOf Tryz.f120) 0)]) (by kernel_rfl) (.one (by kernel_rfl) h0 trivial)) (s120 r193 r125 r124 L120_0)
abbrev i121:Ts:=[.a q2]
abbrev o121:Ts:=[.v (.bool)]
abbrev F121:=FT i121 o121
abbrev g121:=mkG 121 i121 o121
noncomputable def m121 (c125:F125) (c124:F124) (y:PTup i121):Option (PTup o121×BTup i121):=
  (c124 (y.1.1,())).bind fun r0=>
  bif r0.1.1 then ((c124 (y.1.2.1,())).bind fun r1=>
   bif r1.1.1 then ((c124 (y.1.2.2.1,())).bind fun r2=>
    bif r2.1.1 then ((c125 (y.1.2.2.2.1,((0:Int),((65535:Int),())))).bind fun r3=>
     some (r3.1,()))
    else no)
   else no)
  else no
theorem s121 (c125:F125) (c124:F124) (y):TE [g125 c125,g124 c124] Tryz.f121 i121 o121 y=m121 c125 c124 y:=by kernel_rfl
noncomputable def r121:F121:=m121 r125 r124
theorem k121:KO (g121 r121):=fk (s121 r125 r124) ⟨k125,k124,⟨⟩⟩ (by kernel_rfl)
abbrev i223:Ts:=[.v (.int .i64)]
abbrev o223:Ts:=[.v (.int .i64)]
abbrev F223:=FT i223 o223
abbrev g223:=mkG 223 i223 o223
noncomputable def m223 (y:PTup i223):Option (PTup o223×BTup i223):=
  bif (ltI 48 (Int.tmod y.1 64))then (some (((0:Int),()),()))
  else some (((Int.tmod y.1 64),()),())
theorem s223 (y):TE [] Tryz.f223 i223 o223 y=m223 y:=by kernel_rfl
noncomputable def r223:F223:=m223
theorem k223:KO (g223 r223):=fk (s223) trivial (by kernel_rfl)
abbrev i153:Ts:=[.a q3]
abbrev o153:Ts:=[.v (.bool)]
abbrev F153:=FT i153 o153
abbrev g153:=mkG 153 i153 o153
abbrev lc153_0:Ts:=[]
abbrev lb153_0:Ts:=[.p q3]
abbrev lv153_0:Ts:=[.v (.int .i64)]
abbrev lr153_0:Ts:=[.v (.bool)]
abbrev R153_0:=Option (Sum (PTup lv153_0) (PTup lr153_0)×BTup lb153_0)
abbrev B153_0:=PTup lb153_0→PTup lv153_0→R153_0
abbrev A153_0:=PTup lc153_0→B153_0
noncomputable def w153_0 (c125:F125) (c124:F124) (c223:F223) (again:B153_0) (x:PTup lc153_0) (y:PTup lb153_0) (z:PTup lv153_0):R153_0:=
  bif (ltI z.1 (lenI y.1.2.2.2.2.2.2.2.1))then (bif (leI 0 z.1)then (bif (ltI z.1 (lenI y.1.2.2.2.2.2.2.2.1))then ((c125 ((rdE .i y.1.2.2.2.2.2.2.2.1 z.1),((0:Int),((63:Int),())))).bind fun r0=>
     bif (!r0.1.1)then (some ((Sum.inr (false,())),(y.1,())))
     else again (y.1,()) ((wI (z.1+1)),()))
    else none)
   else none)
  else some ((Sum.inl z),(y.1,()))
noncomputable def e153_0 (l:A153_0):LoopE:=⟨[],lc153_0,[1],lb153_0,[4],lv153_0,[2],lr153_0,2,[],l⟩
abbrev lc153_1:Ts:=[]
abbrev lb153_1:Ts:=[.p q3]
abbrev lv153_1:Ts:=[.v (.int .i64)]
abbrev lr153_1:Ts:=[.v (.bool)]
abbrev R153_1:=Option (Sum (PTup lv153_1) (PTup lr153_1)×BTup lb153_1)
abbrev B153_1:=PTup lb153_1→PTup lv153_1→R153_1
abbrev A153_1:=PTup lc153_1→B153_1
noncomputable def w153_1 (c125:F125) (c124:F124) (c223:F223) (l0:A153_0) (again:B153_1) (x:PTup lc153_1) (y:PTup lb153_1) (z:PTup lv153_1):R153_1:=
  bif (ltI z.1 16)then (bif (leI 0 z.1)then (bif (ltI z.1 (lenI y.1.2.2.2.2.2.2.1))then ((c125 ((rdE .i y.1.2.2.2.2.2.2.1 z.1),((0:Int),((63:Int),())))).bind fun r0=>
     bif (!r0.1.1)then (some ((Sum.inr (false,())),(y.1,())))
     else again (y.1,()) ((wI (z.1+1)),()))
    else none)
   else none)
  else some ((Sum.inl z),(y.1,()))
noncomputable def e153_1 (l:A153_1):LoopE:=⟨[],lc153_1,[1],lb153_1,[3],lv153_1,[2],lr153_1,0,[],l⟩
noncomputable def m153 (c125:F125) (c124:F124) (c223:F223) (l0:A153_0) (l1:A153_1) (y:PTup i153):Option (PTup o153×BTup i153):=
  (c125 (y.1.1,((0:Int),((20000:Int),())))).bind fun r0=>
  bif (!r0.1.1)then no
  else (c124 (y.1.2.1,())).bind fun r1=>
  bif (!r1.1.1)then no
  else (c124 (y.1.2.2.1,())).bind fun r2=>
  bif (!r2.1.1)then no
  else (c125 (y.1.2.2.2.1,((0:Int),((15:Int),())))).bind fun r3=>
  bif (!r3.1.1)then no
  else (c125 (y.1.2.2.2.2.1,((0:Int),((63:Int),())))).bind fun r4=>
  bif (!r4.1.1)then no
  else bif (neI (lenI y.1.2.2.2.2.2.2.1) 16)then no
  else (c223 (y.1.1,())).bind fun r5=>
  bif (neI (lenI y.1.2.2.2.2.2.2.2.1) r5.1.1)then no
  else (l1 () (y.1,()) ((0:Int),())).bind fun r6=>
  sumElim r6.1 (fun r7=>(l0 () ((r6.2.1.1,(r6.2.1.2.1,(r6.2.1.2.2.1,(r6.2.1.2.2.2.1,(r6.2.1.2.2.2.2.1,(r6.2.1.2.2.2.2.2.1,y.1.2.2.2.2.2.2)))))),()) ((0:Int),())).bind fun r8=>
   sumElim r8.1 (fun r9=>some ((true,()),()))
   (fun r9=>some (r9,())))
  (fun r7=>some (r7,()))
noncomputable def E153 (c125:F125) (c124:F124) (c223:F223) (l0:A153_0) (l1:A153_1):CEnv:=⟨⟨Tryz.prog,fnsL [g125 c125,g124 c124,g223 c223]⟩,loopsL [(9,e153_0 l0),(4,e153_1 l1)]⟩
theorem t153_0 (c125:F125) (c124:F124) (c223:F223) (l0:A153_0) (l1:A153_1) (again) (x y z):loopRound (E153 c125 c124 c223 l0 l1) (loopAt (bodyOf Tryz.f153) 1) (e153_0 l0) Tryz.f153.ntmps again x y z=w153_0 c125 c124 c223 again x y z:=by kernel_rfl
noncomputable def n153_0 (c125:F125) (c124:F124) (c223:F223):Nat→A153_0
  |0,_,_,_=>none
  |n+1,x,y,z=>w153_0 c125 c124 c223 (fun y z=>n153_0 c125 c124 c223 n x y z) x y z
theorem t153_1 (c125:F125) (c124:F124) (c223:F223) (l0:A153_0) (l1:A153_1) (again) (x y z):loopRound (E153 c125 c124 c223 l0 l1) (loopAt (bodyOf Tryz.f153) 0) (e153_1 l1) Tryz.f153.ntmps again x y z=w153_1 c125 c124 c223 l0 again x y z:=by kernel_rfl
noncomputable def n153_1 (c125:F125) (c124:F124) (c223:F223) (l0:A153_0):Nat→A153_1
  |0,_,_,_=>none
  |n+1,x,y,z=>w153_1 c125 c124 c223 l0 (fun y z=>n153_1 c125 c124 c223 l0 n x y z) x y z
theorem s153 (c125:F125) (c124:F124) (c223:F223) (l0:A153_0) (l1:A153_1) (y):tevF (E153 c125 c124 c223 l0 l1) Tryz.f153 i153 o153 y=m153 c125 c124 c223 l0 l1 y:=by kernel_rfl
noncomputable def L153_0:A153_0:=n153_0 r125 r124 r223 fuel
noncomputable def L153_1:A153_1:=n153_1 r125 r124 r223 L153_0 fuel
noncomputable def r153:F153:=m153 r125 r124 r223 L153_0 L153_1
theorem k153:KO (g153 r153):=by
  have hE: ∀g f,(E153 r125 r124 r223 L153_0 L153_1).env.fns g=some f→CallOk Tryz.prog g f:=fnsL_ok ⟨k125,k124,k223,⟨⟩⟩
  have h0:LoopOk Tryz.prog Tryz.f153.ntmps (loopAt (bodyOf Tryz.f153) 1) (e153_0 L153_0):=lp_ok (E:=E153 r125 r124 r223 L153_0 L153_1) rfl hE mixed (AllLoops.of_list (l:=[]) (by kernel_rfl) trivial) (n153_0 r125 r124 r223) (fun _ _ _=>rfl) (fun n x y z=>t153_0 r125 r124 r223 L153_0 L153_1 _ x y z) rfl
  have h1:LoopOk Tryz.prog Tryz.f153.ntmps (loopAt (bodyOf Tryz.f153) 0) (e153_1 L153_1):=lp_ok (E:=E153 r125 r124 r223 L153_0 L153_1) rfl hE mixed (AllLoops.of_list (l:=[]) (by kernel_rfl) trivial) (n153_1 r125 r124 r223 L153_0) (fun _ _ _=>rfl) (fun n x y z=>t153_1 r125 r124 r223 L153_0 L153_1 _ x y z) rfl
  exact fn_ok (E:=E153 r125 r124 r223 L153_0 L153_1) rfl hE mixed (by kernel_rfl) (by kernel_rfl) (AllLoops.of_list (l:=[(loopAt (bodyOf Tryz.f153) 0),(loopAt (bodyOf Tryz.f153) 1)]) (by kernel_rfl) (.one (by kernel_rfl) h1 (.one (by kernel_rfl) h0 trivial))) (s153 r125 r124 r223 L153_0 L153_1)
abbrev i194:Ts:=[.a q4]
abbrev o194:Ts:=[.v (.bool)]
abbrev F194:=FT i194 o194
abbrev g194:=mkG 194 i194 o194
abbrev lc194_0:Ts:=[]
abbrev lb194_0:Ts:=[.p q4]
abbrev lv194_0:Ts:=[.v (.int .i64)]
abbrev lr194_0:Ts:=[.v (.bool)]
abbrev R194_0:=Option (Sum (PTup lv194_0) (PTup lr194_0)×BTup lb194_0)
abbrev B194_0:=PTup lb194_0→PTup lv194_0→R194_0
abbrev A194_0:=PTup lc194_0→B194_0
noncomputable def w194_0 (c125:F125) (c124:F124) (again:B194_0) (x:PTup lc194_0) (y:PTup lb194_0) (z:PTup lv194_0):R194_0:=
  bif (ltI z.1 (lenI y.1.2.1))then (bif (leI 0 z.1)then (bif (ltI z.1 (lenI y.1.2.1))then ((c125 ((rdE .t y.1.2.1 z.1).1,((0:Int),((20000:Int),())))).bind fun r0=>
     bif (!r0.1.1)then (some ((Sum.inr (false,())),(y.1,())))
     else (c125 ((rdE .t y.1.2.1 z.1).2.1,((0:Int),((7:Int),())))).bind fun r1=>
     bif (!r1.1.1)then (some ((Sum.inr (false,())),(y.1,())))
     else (c124 ((rdE .t y.1.2.1 z.1).2.2,())).bind fun r2=>
     bif (!r2.1.1)then (some ((Sum.inr (false,())),(y.1,())))
     else bif (ltI 0 z.1)then (bif (leI 0 (wI (z.1-1)))then (bif (ltI (wI (z.1-1)) (lenI y.1.2.1))then (bif (ltI (rdE .t y.1.2.1 z.1).1 (rdE .t y.1.2.1 (wI (z.1-1))).1)then (some ((Sum.inr (false,())),(y.1,())))
        else again (y.1,()) ((wI (z.1+1)),()))
       else none)
      else none)
     else again (y.1,()) ((wI (z.1+1)),()))
    else none)
   else none)
  else some ((Sum.inl z),(y.1,()))
noncomputable def e194_0 (l:A194_0):LoopE:=⟨[],lc194_0,[1],lb194_0,[3],lv194_0,[2],lr194_0,0,[],l⟩
noncomputable def m194 (c125:F125) (c124:F124) (l0:A194_0) (y:PTup i194):Option (PTup o194×BTup i194):=
  (l0 () (y.1,()) ((0:Int),())).bind fun r0=>
  sumElim r0.1 (fun r1=>(c125 (r0.2.1.1,((1:Int),((16:Int),())))).bind fun r2=>
   bif r2.1.1 then (some (((leI (lenI y.1.2.1) r0.2.1.1),()),()))
   else no)
  (fun r1=>some (r1,()))
noncomputable def E194 (c125:F125) (c124:F124) (l0:A194_0):CEnv:=⟨⟨Tryz.prog,fnsL [g125 c125,g124 c124]⟩,loopsL [(2,e194_0 l0)]⟩
theorem t194_0 (c125:F125) (c124:F124) (l0:A194_0) (again) (x y z):loopRound (E194 c125 c124 l0) (loopAt (bodyOf Tryz.f194) 0) (e194_0 l0) Tryz.f194.ntmps again x y z=w194_0 c125 c124 again x y z:=by kernel_rfl
noncomputable def n194_0 (c125:F125) (c124:F124):Nat→A194_0
  |0,_,_,_=>none
  |n+1,x,y,z=>w194_0 c125 c124 (fun y z=>n194_0 c125 c124 n x y z) x y z
theorem s194 (c125:F125) (c124:F124) (l0:A194_0) (y):tevF (E194 c125 c124 l0) Tryz.f194 i194 o194 y=m194 c125 c124 l0 y:=by kernel_rfl
noncomputable def L194_0:A194_0:=n194_0 r125 r124 fuel
noncomputable def r194:F194:=m194 r125 r124 L194_0
theorem k194:KO (g194 r194):=by
  have hE: ∀g f,(E194 r125 r124 L194_0).env.fns g=some f→CallOk Tryz.prog g f:=fnsL_ok ⟨k125,k124,⟨⟩⟩
  have h0:LoopOk Tryz.prog Tryz.f194.ntmps (loopAt (bodyOf Tryz.f194) 0) (e194_0 L194_0):=lp_ok (E:=E194 r125 r124 L194_0) rfl hE mixed (AllLoops.of_list (l:=[]) (by kernel_rfl) trivial) (n194_0 r125 r124) (fun _ _ _=>rfl) (fun n x y z=>t194_0 r125 r124 L194_0 _ x y z) rfl
  exact fn_ok (E:=E194 r125 r124 L194_0) rfl hE mixed (by kernel_rfl) (by kernel_rfl) (AllLoops.of_list (l:=[(loopAt (bodyOf Tryz.f194) 0)]) (by kernel_rfl) (.one (by kernel_rfl) h0 trivial)) (s194 r125 r124 L194_0)
abbrev i224:Ts:=[.v (.int .i64)]
abbrev o224:Ts:=[.v (.int .i64)]
abbrev F224:=FT i224 o224
abbrev g224:=mkG 224 i224 o224
noncomputable def m224 (y:PTup i224):Option (PTup o224×BTup i224):=
  some (((wI (Int.tdiv (wI ((wI ((wI (y.1+64))-48))-1)) (64:Int))),()),())
theorem s224 (y):TE [] Tryz.f224 i224 o224 y=m224 y:=by kernel_rfl
noncomputable def r224:F224:=m224
theorem k224:KO (g224 r224):=fk (s224) trivial (by kernel_rfl)
abbrev i155:Ts:=[.v (.sl false .n), .v (.int .i64)]
abbrev o155:Ts:=[.v (.bool)]
abbrev F155:=FT i155 o155
abbrev g155:=mkG 155 i155 o155
abbrev lc155_0:Ts:=[.v (.sl false .n)]
abbrev lb155_0:Ts:=[]
abbrev lv155_0:Ts:=[.v (.int .i64)]
abbrev lr155_0:Ts:=[.v (.bool)]
abbrev R155_0:=Option (Sum (PTup lv155_0) (PTup lr155_0)×BTup lb155_0)
abbrev B155_0:=PTup lb155_0→PTup lv155_0→R155_0
abbrev A155_0:=PTup lc155_0→B155_0
noncomputable def w155_0 (c224:F224) (again:B155_0) (x:PTup lc155_0) (y:PTup lb155_0) (z:PTup lv155_0):R155_0:=
  bif (ltI z.1 (lenI x.1))then (bif (leI 0 z.1)then (bif (ltI z.1 (lenI x.1))then (bif (neI (lenI (rdE .n x.1 z.1)) (48:Int))then (some ((Sum.inr (false,())),()))
     else again () ((wI (z.1+1)),()))
    else none)
   else none)
  else some ((Sum.inl z),())
noncomputable def e155_0 (l:A155_0):LoopE:=⟨[0],lc155_0,[],lb155_0,[5],lv155_0,[4],lr155_0,0,[],l⟩
noncomputable def m155 (c224:F224) (l0:A155_0) (y:PTup i155):Option (PTup o155×BTup i155):=
  (l0 (y.1,()) () ((0:Int),())).bind fun r0=>
  sumElim r0.1 (fun r1=>(c224 y.2).bind fun r2=>
   some (((eqI (lenI y.1) r2.1.1),()),()))
  (fun r1=>some (r1,()))
noncomputable def E155 (c224:F224) (l0:A155_0):CEnv:=⟨⟨Tryz.prog,fnsL [g224 c224]⟩,loopsL [(2,e155_0 l0)]⟩
theorem t155_0 (c224:F224) (l0:A155_0) (again) (x y z):loopRound (E155 c224 l0) (loopAt (bodyOf Tryz.f155) 0) (e155_0 l0) Tryz.f155.ntmps again x y z=w155_0 c224 again x y z:=by kernel_rfl
noncomputable def n155_0 (c224:F224):Nat→A155_0
  |0,_,_,_=>none
  |n+1,x,y,z=>w155_0 c224 (fun y z=>n155_0 c224 n x y z) x y z
theorem s155 (c224:F224) (l0:A155_0) (y):tevF (E155 c224 l0) Tryz.f155 i155 o155 y=m155 c224 l0 y:=by kernel_rfl
noncomputable def L155_0:A155_0:=n155_0 r224 fuel
noncomputable def r155:F155:=m155 r224 L155_0
theorem k155:KO (g155 r155):=by
  have hE: ∀g f,(E155 r224 L155_0).env.fns g=some f→CallOk Tryz.prog g f:=fnsL_ok ⟨k224,⟨⟩⟩
  have h0:LoopOk Tryz.prog Tryz.f155.ntmps (loopAt (bodyOf Tryz.f155) 0) (e155_0 L155_0):=lp_ok (E:=E155 r224 L155_0) rfl hE mixed (AllLoops.of_list (l:=[]) (by kernel_rfl) trivial) (n155_0 r224) (fun _ _ _=>rfl) (fun n x y z=>t155_0 r224 L155_0 _ x y z) rfl
  exact fn_ok (E:=E155 r224 L155_0) rfl hE mixed (by kernel_rfl) (by kernel_rfl) (AllLoops.of_list (l:=[(loopAt (bodyOf Tryz.f155) 0)]) (by kernel_rfl) (.one (by kernel_rfl) h0 trivial)) (s155 r224 L155_0)
abbrev i122:Ts:=[.a q5]
abbrev o122:Ts:=[.v (.bool)]
abbrev F122:=FT i122 o122
abbrev g122:=mkG 122 i122 o122
noncomputable def m122 (c153:F153) (c194:F194) (c155:F155) (y:PTup i122):Option (PTup o122×BTup i122):=
  (c153 ((y.1.1,(y.1.2.1,(y.1.2.2.1,(y.1.2.2.2.1,(y.1.2.2.2.2.1,(y.1.2.2.2.2.2.1,(y.1.2.2.2.2.2.2.1,(y.1.2.2.2.2.2.2.2.1,())))))))),())).bind fun r0=>
  bif (!r0.1.1)then no
  else (c194 ((y.1.2.2.2.2.2.2.2.2.1,(y.1.2.2.2.2.2.2.2.2.2.1,())),())).bind fun r1=>
  bif (!r1.1.1)then no
  else bif (eqI (lenI y.1.2.2.2.2.2.2.2.2.2.1) 0)then ((c155 (y.1.2.2.2.2.2.2.2.2.2.2.1,(y.1.1,()))).bind fun r2=>
   some (r2.1,()))
  else bif (ltI 0 (lenI y.1.2.2.2.2.2.2.2.2.2.1))then (bif (leI y.1.1 (rdE .t y.1.2.2.2.2.2.2.2.2.2.1 (0:Int)).1)then ((c155 (y.1.2.2.2.2.2.2.2.2.2.2.1,(y.1.1,()))).bind fun r2=>
    some (r2.1,()))
   else no)
  else none
theorem s122 (c153:F153) (c194:F194) (c155:F155) (y):TE [g153 c153,g194 c194,g155 c155] Tryz.f122 i122 o122 y=m122 c153 c194 c155 y:=by kernel_rfl
noncomputable def r122:F122:=m122 r153 r194 r155
theorem k122:KO (g122 r122):=fk (s122 r153 r194 r155) ⟨k153,k194,k155,⟨⟩⟩ (by kernel_rfl)
abbrev i154:Ts:=[.a q6]
abbrev o154:Ts:=[.v (.bool)]
abbrev F154:=FT i154 o154
abbrev g154:=mkG 154 i154 o154
noncomputable def m154 (c125:F125) (c124:F124) (y:PTup i154):Option (PTup o154×BTup i154):=
  (c125 (y.1.1,((0:Int),((20000:Int),())))).bind fun r0=>
  bif r0.1.1 then ((c124 (y.1.2.1,())).bind fun r1=>
   bif r1.1.1 then ((c124 (y.1.2.2.1,())).bind fun r2=>
    bif r2.1.1 then ((c125 (y.1.2.2.2.1,((0:Int),((1:Int),())))).bind fun r3=>
     bif r3.1.1 then ((c125 (y.1.2.2.2.2.1,((0:Int),((31:Int),())))).bind fun r4=>
      some (r4.1,()))
     else no)
    else no)
   else no)
  else no
theorem s154 (c125:F125) (c124:F124) (y):TE [g125 c125,g124 c124] Tryz.f154 i154 o154 y=m154 c125 c124 y:=by kernel_rfl
noncomputable def r154:F154:=m154 r125 r124
theorem k154:KO (g154 r154):=fk (s154 r125 r124) ⟨k125,k124,⟨⟩⟩ (by kernel_rfl)
abbrev i123:Ts:=[.a q7]
abbrev o123:Ts:=[.v (.bool)]
abbrev F123:=FT i123 o123
abbrev g123:=mkG 123 i123 o123
noncomputable def m123 (c154:F154) (c194:F194) (y:PTup i123):Option (PTup o123×BTup i123):=
  (c154 ((y.1.1,(y.1.2.1,(y.1.2.2.1,(y.1.2.2.2.1,(y.1.2.2.2.2.1,(y.1.2.2.2.2.2.1,(y.1.2.2.2.2.2.2.1,()))))))),())).bind fun r0=>
  bif (!r0.1.1)then no
  else (c194 ((y.1.2.2.2.2.2.2.2.1,(y.1.2.2.2.2.2.2.2.2.1,())),())).bind fun r1=>
  bif (!r1.1.1)then no
  else bif (eqI (lenI y.1.2.2.2.2.2.2.2.2.1) 0)then (some (((eqI (lenI y.1.2.2.2.2.2.2.2.2.2.1) (wI (Int.tdiv y.1.1 16))),()),()))
  else bif (ltI 0 (lenI y.1.2.2.2.2.2.2.2.2.1))then (bif (leI y.1.1 (rdE .t y.1.2.2.2.2.2.2.2.2.1 (0:Int)).1)then (some (((eqI (lenI y.1.2.2.2.2.2.2.2.2.2.1) (wI (Int.tdiv y.1.1 16))),()),()))
   else no)
  else none
theorem s123 (c154:F154) (c194:F194) (y):TE [g154 c154,g194 c194] Tryz.f123 i123 o123 y=m123 c154 c194 y:=by kernel_rfl
noncomputable def r123:F123:=m123 r154 r194
theorem k123:KO (g123 r123):=fk (s123 r154 r194) ⟨k154,k194,⟨⟩⟩ (by kernel_rfl)
abbrev i126:Ts:=[.a q4]
abbrev o126:Ts:=[.v (.int .i64)]
abbrev F126:=FT i126 o126
abbrev g126:=mkG 126 i126 o126
noncomputable def m126 (y:PTup i126):Option (PTup o126×BTup i126):=
  bif (eqI (lenI y.1.2.1) 0)then (some (((0:Int),()),()))
  else bif (leI 0 (wI ((lenI y.1.2.1)-1)))then (bif (ltI (wI ((lenI y.1.2.1)-1)) (lenI y.1.2.1))then (some (((rdE .t y.1.2.1 (wI ((lenI y.1.2.1)-1))).1,()),()))
   else none)
  else none
theorem s126 (y):TE [] Tryz.f126 i126 o126 y=m126 y:=by kernel_rfl
noncomputable def r126:F126:=m126
theorem k126:KO (g126 r126):=fk (s126) trivial (by kernel_rfl)
abbrev i29:Ts:=[.a q8]
abbrev o29:Ts:=[.v (.bool)]
abbrev F29:=FT i29 o29
abbrev g29:=mkG 29 i29 o29
noncomputable def m29 (c121:F121) (c120:F120) (c119:F119) (c122:F122) (c123:F123) (c126:F126) (c125:F125) (c124:F124) (y:PTup i29):Option (PTup o29×BTup i29):=
  let a0:=y.1;let a1:=a0.2;let a2:=a1.2;let a3:=a2.2;let a4:=a3.2;let a5:=a4.2;let a6:=a5.2;let a7:=a6.2;let a8:=a7.2;let a9:=a8.2;let a10:=a9.2;let a11:=a10.2;let a12:=a11.2;let a13:=a12.2;let a14:=a13.2;let a15:=a14.2;let a16:=a15.2;let a17:=a16.2;let a18:=a17.2;let a19:=a18.2;let a20:=a19.2;let a21:=a20.2;let a22:=a21.2;let a23:=a22.2;let a24:=a23.2;let a25:=a24.2;let a26:=a25.2;let a27:=a26.2;let a28:=a27.2;let a29:=a28.2.2;let a30:=a29.2.2.2.2.2.2.2.2.2;(c119 (a1.1,())).bind fun r0=>
  bif (!r0.1.1)then no
  else (c120 ((a0.1,()),((a2.1,(a3.1,())),()))).bind fun r1=>
  bif (!r1.1.1)then no
  else (c121 ((a4.1,(a5.1,(a6.1,(a7.1,(a8.1,(a9.1,(a10.1,(a11.1,())))))))),())).bind fun r2=>
  bif (!r2.1.1)then no
  else (c122 ((a21.1,(a22.1,(a23.1,(a24.1,(a25.1,(a26.1,(a27.1,(a28.1,(a28.2.1,(a29.1,(a29.2.1,()))))))))))),())).bind fun r3=>
  bif (!r3.1.1)then no
  else (c123 (a29.2.2,())).bind fun r4=>
  bif (!r4.1.1)then no
  else (c124 (a13.1,())).bind fun r5=>
  bif (!r5.1.1)then no
  else (c124 (a16.1,())).bind fun r6=>
  bif (!r6.1.1)then no
  else (c125 (a14.1,((0:Int),((20000:Int),())))).bind fun r7=>
  bif (!r7.1.1)then no
  else (c125 (a18.1,((0:Int),(a14.1,())))).bind fun r8=>
  bif (!r8.1.1)then no
  else (c125 (a19.1,((0:Int),(a14.1,())))).bind fun r9=>
  bif (!r9.1.1)then no
  else bif (ltI a14.1 a21.1)then no
  else bif (ltI a14.1 a29.2.2.1)then no
  else (c126 ((a28.2.1,(a29.1,())),())).bind fun r10=>
  bif (leI r10.1.1 a14.1)then ((c126 ((a30.1,(a30.2.1,())),())).bind fun r11=>
   some (((leI r11.1.1 a14.1),()),()))
  else no
theorem s29 (c121:F121) (c120:F120) (c119:F119) (c122:F122) (c123:F123) (c126:F126) (c125:F125) (c124:F124) (y):TE [g121 c121,g120 c120,g119 c119,g122 c122,g123 c123,g126 c126,g125 c125,g124 c124] Tryz.f29 i29 o29 y=m29 c121 c120 c119 c122 c123 c126 c125 c124 y:=by kernel_rfl
noncomputable def r29:F29:=m29 r121 r120 r119 r122 r123 r126 r125 r124
theorem k29:KO (g29 r29):=fk (s29 r121 r120 r119 r122 r123 r126 r125 r124) ⟨k121,k120,k119,k122,k123,k126,k125,k124,⟨⟩⟩ (by kernel_rfl)
abbrev i111:Ts:=[.a q0]
abbrev o111:Ts:=[.a [.sl true .n]]
abbrev F111:=FT i111 o111
abbrev g111:=mkG 111 i111 o111
abbrev lc111_0:Ts:=[]
abbrev lb111_0:Ts:=[.p q0, .p [.sl true .n]]
abbrev lv111_0:Ts:=[.v (.int .i64)]
abbrev lr111_0:Ts:=[]
abbrev R111_0:=Option (Sum (PTup lv111_0) (PTup lr111_0)×BTup lb111_0)
abbrev B111_0:=PTup lb111_0→PTup lv111_0→R111_0
abbrev A111_0:=PTup lc111_0→B111_0
noncomputable def w111_0 (again:B111_0) (x:PTup lc111_0) (y:PTup lb111_0) (z:PTup lv111_0):R111_0:=
  bif (ltI z.1 (lenI y.1.1))then (bif (leI 0 z.1)then (bif (ltI z.1 (lenI y.1.1))then (bif (leN (0+(List.length (rdE .n y.1.1 z.1))) (E.most .i))then (bif (leN ((List.length y.2.1.1)+(List.length (([]++(rdE .n y.1.1 z.1))::[]))) (E.most .n))then (again (y.1,(((y.2.1.1++(([]++(rdE .n y.1.1 z.1))::[])),()),())) ((wI (z.1+1)),()))
      else none)
     else none)
    else none)
   else none)
  else some ((Sum.inl z),(y.1,(y.2.1,())))
noncomputable def e111_0 (l:A111_0):LoopE:=⟨[],lc111_0,[1,3],lb111_0,[4],lv111_0,[],lr111_0,0,[],l⟩
noncomputable def m111 (l0:A111_0) (y:PTup i111):Option (PTup o111×BTup i111):=
  (l0 () (y.1,(([],()),())) ((0:Int),())).bind fun r0=>
  sumElim r0.1 (fun r1=>some ((r0.2.2.1,()),()))
  (fun r1=>some ((([],()),()),()))
noncomputable def E111 (l0:A111_0):CEnv:=⟨⟨Tryz.prog,fnsL []⟩,loopsL [(3,e111_0 l0)]⟩
theorem t111_0 (l0:A111_0) (again) (x y z):loopRound (E111 l0) (loopAt (bodyOf Tryz.f111) 0) (e111_0 l0) Tryz.f111.ntmps again x y z=w111_0 again x y z:=by kernel_rfl
noncomputable def n111_0:Nat→A111_0
  |0,_,_,_=>none
  |n+1,x,y,z=>w111_0 (fun y z=>n111_0 n x y z) x y z
theorem s111 (l0:A111_0) (y):tevF (E111 l0) Tryz.f111 i111 o111 y=m111 l0 y:=by kernel_rfl
noncomputable def L111_0:A111_0:=n111_0 fuel
noncomputable def r111:F111:=m111 L111_0
theorem k111:KO (g111 r111):=by
  have hE: ∀g f,(E111 L111_0).env.fns g=some f→CallOk Tryz.prog g f:=fnsL_ok trivial
  have h0:LoopOk Tryz.prog Tryz.f111.ntmps (loopAt (bodyOf Tryz.f111) 0) (e111_0 L111_0):=lp_ok (E:=E111 L111_0) rfl hE mixed (AllLoops.of_list (l:=[]) (by kernel_rfl) trivial) (n111_0) (fun _ _ _=>rfl) (fun n x y z=>t111_0 L111_0 _ x y z) rfl
  exact fn_ok (E:=E111 L111_0) rfl hE mixed (by kernel_rfl) (by kernel_rfl) (AllLoops.of_list (l:=[(loopAt (bodyOf Tryz.f111) 0)]) (by kernel_rfl) (.one (by kernel_rfl) h0 trivial)) (s111 L111_0)
abbrev i250:Ts:=[]
abbrev o250:Ts:=[.a q9]
abbrev F250:=FT i250 o250
abbrev g250:=mkG 250 i250 o250
noncomputable def m250 (y:PTup i250):Option (PTup o250×BTup i250):=
  some ((((List.replicate (Int.toNat (512:Int)) (0:Int)),((0:Int),())),()),())
theorem s250 (y):TE [] Tryz.f250 i250 o250 y=m250 y:=by kernel_rfl
noncomputable def r250:F250:=m250
theorem k250:KO (g250 r250):=fk (s250) trivial (by kernel_rfl)
abbrev i271:Ts:=[.v (.int .i64)]
abbrev o271:Ts:=[.v (.int .i64)]
abbrev F271:=FT i271 o271
abbrev g271:=mkG 271 i271 o271
noncomputable def m271 (y:PTup i271):Option (PTup o271×BTup i271):=
  some (((bAnd Go.IntKind.i64 y.1 (65535:Int)),()),())
theorem s271 (y):TE [] Tryz.f271 i271 o271 y=m271 y:=by kernel_rfl
noncomputable def r271:F271:=m271
theorem k271:KO (g271 r271):=fk (s271) trivial (by kernel_rfl)
abbrev i212:Ts:=[.v (.int .i64)]
abbrev o212:Ts:=[.v (.int .i64), .v (.int .i64)]
abbrev F212:=FT i212 o212
abbrev g212:=mkG 212 i212 o212
noncomputable def m212 (c271:F271) (y:PTup i212):Option (PTup o212×BTup i212):=
  (c271 y).bind fun r0=>
  bif (ltI r0.1.1 8192)then (some (((1:Int),((Int.tmod r0.1.1 512),())),()))
  else bif (ltI r0.1.1 16384)then (some (((2:Int),((Int.tmod r0.1.1 8),())),()))
  else bif (ltI r0.1.1 16388)then (some (((3:Int),((Int.tmod r0.1.1 4),())),()))
  else bif (eqI r0.1.1 16406)then (some (((4:Int),((0:Int),())),()))
  else bif (ltI r0.1.1 32768)then (some (((7:Int),((0:Int),())),()))
  else bif (ltI r0.1.1 49152)then (some (((5:Int),((Int.tmod r0.1.1 256),())),()))
  else some (((6:Int),((Int.tmod r0.1.1 256),())),())
theorem s212 (c271:F271) (y):TE [g271 c271] Tryz.f212 i212 o212 y=m212 c271 y:=by kernel_rfl
noncomputable def r212:F212:=m212 r271
theorem k212:KO (g212 r212):=fk (s212 r271) ⟨k271,⟨⟩⟩ (by kernel_rfl)
abbrev i289:Ts:=[.a q0, .a q1, .v (.int .i64)]
abbrev o289:Ts:=[.v (.int .i64)]
abbrev F289:=FT i289 o289
abbrev g289:=mkG 289 i289 o289
noncomputable def m289 (c212:F212) (y:PTup i289):Option (PTup o289×BTup i289):=
  (c212 y.2.2).bind fun r0=>
  bif (eqI r0.1.1 1)then (bif (leI 0 r0.1.2.1)then (bif (ltI r0.1.2.1 (lenI y.2.1.1))then (some (((rdE .i y.2.1.1 r0.1.2.1),()),()))
    else none)
   else none)
  else bif (eqI r0.1.1 5)then (bif (leI 0 y.2.1.2.1)then (bif (ltI y.2.1.2.1 (lenI y.1.1))then (bif (leI 0 r0.1.2.1)then (bif (ltI r0.1.2.1 (lenI (rdE .n y.1.1 y.2.1.2.1)))then (some (((rdI (rdE .n y.1.1 y.2.1.2.1) r0.1.2.1),()),()))
      else none)
     else none)
    else none)
   else none)
  else bif (eqI r0.1.1 6)then (bif (leI 0 (wI ((lenI y.1.1)-1)))then (bif (ltI (wI ((lenI y.1.1)-1)) (lenI y.1.1))then (bif (leI 0 r0.1.2.1)then (bif (ltI r0.1.2.1 (lenI (rdE .n y.1.1 (wI ((lenI y.1.1)-1)))))then (some (((rdI (rdE .n y.1.1 (wI ((lenI y.1.1)-1))) r0.1.2.1),()),()))
      else none)
     else none)
    else none)
   else none)
  else some (((0:Int),()),())
theorem s289 (c212:F212) (y):TE [g212 c212] Tryz.f289 i289 o289 y=m289 c212 y:=by kernel_rfl
noncomputable def r289:F289:=m289 r212
theorem k289:KO (g289 r289):=fk (s289 r212) ⟨k212,⟨⟩⟩ (by kernel_rfl)
abbrev i267:Ts:=[.a q0, .a q1, .v (.int .i64)]
abbrev o267:Ts:=[.v (.int .i64)]
abbrev F267:=FT i267 o267
abbrev g267:=mkG 267 i267 o267
noncomputable def m267 (c120:F120) (c289:F289) (y:PTup i267):Option (PTup o267×BTup i267):=
  (c120 (y.1,(y.2.1,()))).bind fun r0=>
  bif (!r0.1.1)then (some (((0:Int),()),()))
  else (c289 y).bind fun r1=>
  some (r1.1,())
theorem s267 (c120:F120) (c289:F289) (y):TE [g120 c120,g289 c289] Tryz.f267 i267 o267 y=m267 c120 c289 y:=by kernel_rfl
noncomputable def r267:F267:=m267 r120 r289
theorem k267:KO (g267 r267):=fk (s267 r120 r289) ⟨k120,k289,⟨⟩⟩ (by kernel_rfl)
abbrev i272:Ts:=[.v (.int .i64)]
abbrev o272:Ts:=[.v (.int .i64)]
abbrev F272:=FT i272 o272
abbrev g272:=mkG 272 i272 o272
noncomputable def m272 (y:PTup i272):Option (PTup o272×BTup i272):=
  some (((bAnd Go.IntKind.i64 y.1 (255:Int)),()),())
theorem s272 (y):TE [] Tryz.f272 i272 o272 y=m272 y:=by kernel_rfl
noncomputable def r272:F272:=m272
theorem k272:KO (g272 r272):=fk (s272) trivial (by kernel_rfl)
abbrev i269:Ts:=[.v (.int .i64), .v (.int .i64)]
abbrev o269:Ts:=[.v (.int .i64)]
abbrev F269:=FT i269 o269
abbrev g269:=mkG 269 i269 o269
noncomputable def m269 (c272:F272) (y:PTup i269):Option (PTup o269×BTup i269):=
  (c272 (y.1,())).bind fun r0=>
  (c272 y.2).bind fun r1=>
  some (((wI (r0.1.1+(wI ((256:Int)*r1.1.1)))),()),())
theorem s269 (c272:F272) (y):TE [g272 c272] Tryz.f269 i269 o269 y=m269 c272 y:=by kernel_rfl
noncomputable def r269:F269:=m269 r272
theorem k269:KO (g269 r269):=fk (s269 r272) ⟨k272,⟨⟩⟩ (by kernel_rfl)
abbrev i251:Ts:=[.a q0]
abbrev o251:Ts:=[.a q2]
abbrev F251:=FT i251 o251
abbrev g251:=mkG 251 i251 o251
noncomputable def m251 (c269:F269) (c250:F250) (c267:F267) (y:PTup i251):Option (PTup o251×BTup i251):=
  (c250 ()).bind fun r0=>
  (c267 (y.1,(r0.1.1,((65532:Int),())))).bind fun r1=>
  (c267 (y.1,(r0.1.1,((65533:Int),())))).bind fun r2=>
  (c269 (r1.1.1,r2.1)).bind fun r3=>
  some ((((0:Int),((0:Int),((255:Int),(r3.1.1,(false,(false,(false,(true,())))))))),()),())
theorem s251 (c269:F269) (c250:F250) (c267:F267) (y):TE [g269 c269,g250 c250,g267 c267] Tryz.f251 i251 o251 y=m251 c269 c250 c267 y:=by kernel_rfl
noncomputable def r251:F251:=m251 r269 r250 r267
theorem k251:KO (g251 r251):=fk (s251 r269 r250 r267) ⟨k269,k250,k267,⟨⟩⟩ (by kernel_rfl)
abbrev i252:Ts:=[]
abbrev o252:Ts:=[.a q10]
abbrev F252:=FT i252 o252
abbrev g252:=mkG 252 i252 o252
noncomputable def m252 (y:PTup i252):Option (PTup o252×BTup i252):=
  some ((((0:Int),((0:Int),((0:Int),((0:Int),((0:Int),(false,((List.replicate (Int.toNat (16:Int)) (0:Int)),([],())))))))),()),())
theorem s252 (y):TE [] Tryz.f252 i252 o252 y=m252 y:=by kernel_rfl
noncomputable def r252:F252:=m252
theorem k252:KO (g252 r252):=fk (s252) trivial (by kernel_rfl)
abbrev i112:Ts:=[.a q1]
abbrev o112:Ts:=[.a q9]
abbrev F112:=FT i112 o112
abbrev g112:=mkG 112 i112 o112
noncomputable def m112 (y:PTup i112):Option (PTup o112×BTup i112):=
  bif (leN (0+(List.length y.1.1)) (E.most .i))then (some (((([]++y.1.1),y.1.2),()),()))
  else none
theorem s112 (y):TE [] Tryz.f112 i112 o112 y=m112 y:=by kernel_rfl
noncomputable def r112:F112:=m112
theorem k112:KO (g112 r112):=fk (s112) trivial (by kernel_rfl)
abbrev i113:Ts:=[.a q3]
abbrev o113:Ts:=[.a q10]
abbrev F113:=FT i113 o113
abbrev g113:=mkG 113 i113 o113
noncomputable def m113 (y:PTup i113):Option (PTup o113×BTup i113):=
  bif (leN (0+(List.length y.1.2.2.2.2.2.2.1)) (E.most .i))then (bif (leN (0+(List.length y.1.2.2.2.2.2.2.2.1)) (E.most .i))then (some (((y.1.1,(y.1.2.1,(y.1.2.2.1,(y.1.2.2.2.1,(y.1.2.2.2.2.1,(y.1.2.2.2.2.2.1,(([]++y.1.2.2.2.2.2.2.1),(([]++y.1.2.2.2.2.2.2.2.1),())))))))),()),()))
   else none)
  else none
theorem s113 (y):TE [] Tryz.f113 i113 o113 y=m113 y:=by kernel_rfl
noncomputable def r113:F113:=m113
theorem k113:KO (g113 r113):=fk (s113) trivial (by kernel_rfl)
abbrev i118:Ts:=[.v (.sl false .n)]
abbrev o118:Ts:=[.v (.sl true .n)]
abbrev F118:=FT i118 o118
abbrev g118:=mkG 118 i118 o118
abbrev lc118_0:Ts:=[.v (.sl false .n)]
abbrev lb118_0:Ts:=[]
abbrev lv118_0:Ts:=[.v (.sl true .n), .v (.int .i64)]
abbrev lr118_0:Ts:=[]
abbrev R118_0:=Option (Sum (PTup lv118_0) (PTup lr118_0)×BTup lb118_0)
abbrev B118_0:=PTup lb118_0→PTup lv118_0→R118_0
abbrev A118_0:=PTup lc118_0→B118_0
noncomputable def w118_0 (again:B118_0) (x:PTup lc118_0) (y:PTup lb118_0) (z:PTup lv118_0):R118_0:=
  bif (ltI z.2.1 (lenI x.1))then (bif (leI 0 z.2.1)then (bif (ltI z.2.1 (lenI x.1))then (bif (leN (0+(List.length (rdE .n x.1 z.2.1))) (E.most .i))then (bif (leN ((List.length z.1)+(List.length (([]++(rdE .n x.1 z.2.1))::[]))) (E.most .n))then (again () ((z.1++(([]++(rdE .n x.1 z.2.1))::[])),((wI (z.2.1+1)),())))
      else none)
     else none)
    else none)
   else none)
  else some ((Sum.inl z),())
noncomputable def e118_0 (l:A118_0):LoopE:=⟨[0],lc118_0,[],lb118_0,[3,4],lv118_0,[],lr118_0,0,[],l⟩
noncomputable def m118 (l0:A118_0) (y:PTup i118):Option (PTup o118×BTup i118):=
  (l0 y () ([],((0:Int),()))).bind fun r0=>
  sumElim r0.1 (fun r1=>some ((r1.1,()),()))
  (fun r1=>some (([],()),()))
noncomputable def E118 (l0:A118_0):CEnv:=⟨⟨Tryz.prog,fnsL []⟩,loopsL [(3,e118_0 l0)]⟩
theorem t118_0 (l0:A118_0) (again) (x y z):loopRound (E118 l0) (loopAt (bodyOf Tryz.f118) 0) (e118_0 l0) Tryz.f118.ntmps again x y z=w118_0 again x y z:=by kernel_rfl
noncomputable def n118_0:Nat→A118_0
  |0,_,_,_=>none
  |n+1,x,y,z=>w118_0 (fun y z=>n118_0 n x y z) x y z
theorem s118 (l0:A118_0) (y):tevF (E118 l0) Tryz.f118 i118 o118 y=m118 l0 y:=by kernel_rfl
noncomputable def L118_0:A118_0:=n118_0 fuel
noncomputable def r118:F118:=m118 L118_0
theorem k118:KO (g118 r118):=by
  have hE: ∀g f,(E118 L118_0).env.fns g=some f→CallOk Tryz.prog g f:=fnsL_ok trivial
  have h0:LoopOk Tryz.prog Tryz.f118.ntmps (loopAt (bodyOf Tryz.f118) 0) (e118_0 L118_0):=lp_ok (E:=E118 L118_0) rfl hE mixed (AllLoops.of_list (l:=[]) (by kernel_rfl) trivial) (n118_0) (fun _ _ _=>rfl) (fun n x y z=>t118_0 L118_0 _ x y z) rfl
  exact fn_ok (E:=E118 L118_0) rfl hE mixed (by kernel_rfl) (by kernel_rfl) (AllLoops.of_list (l:=[(loopAt (bodyOf Tryz.f118) 0)]) (by kernel_rfl) (.one (by kernel_rfl) h0 trivial)) (s118 L118_0)
abbrev i158:Ts:=[.v (.int .i64), .v (.int .i64)]
abbrev o158:Ts:=[.v (.int .i64)]
abbrev F158:=FT i158 o158
abbrev g158:=mkG 158 i158 o158
noncomputable def m158 (y:PTup i158):Option (PTup o158×BTup i158):=
  bif (ltI y.1 y.2.1)then (some ((y.1,()),()))
  else some (y.2,())
theorem s158 (y):TE [] Tryz.f158 i158 o158 y=m158 y:=by kernel_rfl
noncomputable def r158:F158:=m158
theorem k158:KO (g158 r158):=fk (s158) trivial (by kernel_rfl)
abbrev i167:Ts:=[.v (.bool)]
abbrev o167:Ts:=[.v (.int .i64)]
abbrev F167:=FT i167 o167
abbrev g167:=mkG 167 i167 o167
noncomputable def m167 (y:PTup i167):Option (PTup o167×BTup i167):=
  bif y.1 then (some (((1:Int),()),()))
  else some (((0:Int),()),())
theorem s167 (y):TE [] Tryz.f167 i167 o167 y=m167 y:=by kernel_rfl
noncomputable def r167:F167:=m167
theorem k167:KO (g167 r167):=fk (s167) trivial (by kernel_rfl)
abbrev i284:Ts:=[.a q2]
abbrev o284:Ts:=[.v (.int .i64)]
abbrev F284:=FT i284 o284
abbrev g284:=mkG 284 i284 o284
noncomputable def m284 (c167:F167) (y:PTup i284):Option (PTup o284×BTup i284):=
  (c167 (y.1.2.2.2.2.2.2.1,())).bind fun r0=>
  (c167 (y.1.2.2.2.2.1,())).bind fun r1=>
  (c167 y.1.2.2.2.2.2.2.2).bind fun r2=>
  (c167 (y.1.2.2.2.2.2.1,())).bind fun r3=>
  some (((wI ((wI ((wI (r0.1.1+(wI ((2:Int)*r1.1.1))))+(wI ((4:Int)*r2.1.1))))+(wI ((128:Int)*r3.1.1)))),()),())
theorem s284 (c167:F167) (y):TE [g167 c167] Tryz.f284 i284 o284 y=m284 c167 y:=by kernel_rfl
noncomputable def r284:F284:=m284 r167
theorem k284:KO (g284 r284):=fk (s284 r167) ⟨k167,⟨⟩⟩ (by kernel_rfl)
abbrev i285:Ts:=[.a q1, .a q2, .v (.int .i64)]
abbrev o285:Ts:=[.a q9, .a q2]
abbrev F285:=FT i285 o285
abbrev g285:=mkG 285 i285 o285
noncomputable def m285 (c272:F272) (c112:F112) (y:PTup i285):Option (PTup o285×BTup i285):=
  (c112 (y.1,())).bind fun r0=>
  bif (neI (lenI y.1.1) 512)then (some ((r0.1.1,(y.2.1,())),()))
  else (c272 (y.2.1.2.2.1,())).bind fun r1=>
  (c272 y.2.2).bind fun r2=>
  bif (leI 0 (wI ((256:Int)+r1.1.1)))then (bif (ltI (wI ((256:Int)+r1.1.1)) (lenI r0.1.1.1))then ((c272 ((wI (y.2.1.2.2.1-1)),())).bind fun r3=>
    some ((((List.set r0.1.1.1 (Int.toNat (wI ((256:Int)+r1.1.1))) r2.1.1),r0.1.1.2),((y.2.1.1,(y.2.1.2.1,(r3.1.1,y.2.1.2.2.2))),())),()))
   else none)
  else none
theorem s285 (c272:F272) (c112:F112) (y):TE [g272 c272,g112 c112] Tryz.f285 i285 o285 y=m285 c272 c112 y:=by kernel_rfl
noncomputable def r285:F285:=m285 r272 r112
theorem k285:KO (g285 r285):=fk (s285 r272 r112) ⟨k272,k112,⟨⟩⟩ (by kernel_rfl)
abbrev i233:Ts:=[.a q0, .a q1, .a q2, .v (.int .i64)]
abbrev o233:Ts:=[.a q9, .a q2]
abbrev F233:=FT i233 o233
abbrev g233:=mkG 233 i233 o233
noncomputable def m233 (c284:F284) (c269:F269) (c267:F267) (c285:F285) (c112:F112) (y:PTup i233):Option (PTup o233×BTup i233):=
  (c112 (y.2.1,())).bind fun r0=>
  (c284 (y.2.2.1,())).bind fun r1=>
  (c285 (r0.1.1,(y.2.2.1,((Int.fdiv y.2.2.1.2.2.2.1 ((2:Int)^(Min.min (Int.toNat (8:Int)) (64:Nat)))),())))).bind fun r2=>
  (c285 (r2.1.1,(r2.1.2.1,(r2.1.2.1.2.2.2.1,())))).bind fun r3=>
  (c285 (r3.1.1,(r3.1.2.1,r1.1))).bind fun r4=>
  (c267 (y.1,(r4.1.1,y.2.2.2))).bind fun r5=>
  (c267 (y.1,(r4.1.1,((wI (y.2.2.2.1+1)),())))).bind fun r6=>
  (c269 (r5.1.1,r6.1)).bind fun r7=>
  some ((r4.1.1,((r4.1.2.1.1,(r4.1.2.1.2.1,(r4.1.2.1.2.2.1,(r7.1.1,(r4.1.2.1.2.2.2.2.1,(r4.1.2.1.2.2.2.2.2.1,(r4.1.2.1.2.2.2.2.2.2.1,(true,())))))))),())),())
theorem s233 (c284:F284) (c269:F269) (c267:F267) (c285:F285) (c112:F112) (y):TE [g284 c284,g269 c269,g267 c267,g285 c285,g112 c112] Tryz.f233 i233 o233 y=m233 c284 c269 c267 c285 c112 y:=by kernel_rfl
noncomputable def r233:F233:=m233 r284 r269 r267 r285 r112
theorem k233:KO (g233 r233):=fk (s233 r284 r269 r267 r285 r112) ⟨k284,k269,k267,k285,k112,⟨⟩⟩ (by kernel_rfl)
abbrev i268:Ts:=[.v (.int .i64)]
abbrev o268:Ts:=[.v (.int .i64)]
abbrev F268:=FT i268 o268
abbrev g268:=mkG 268 i268 o268
noncomputable def m268 (c125:F125) (y:PTup i268):Option (PTup o268×BTup i268):=
  (c125 (y.1,((0:Int),((29:Int),())))).bind fun r0=>
  bif (!r0.1.1)then (some (((1:Int),()),()))
  else bif (leI 0 y.1)then (bif (ltI y.1 (lenI ((1:Int)::((2:Int)::((3:Int)::((3:Int)::((2:Int)::((2:Int)::((2:Int)::((2:Int)::((2:Int)::((2:Int)::((1:Int)::((1:Int)::((1:Int)::((1:Int)::((3:Int)::((3:Int)::((3:Int)::((3:Int)::((3:Int)::((3:Int)::((3:Int)::((1:Int)::((1:Int)::((1:Int)::((1:Int)::((1:Int)::((1:Int)::((1:Int)::((1:Int)::((3:Int)::[]))))))))))))))))))))))))))))))))then (some (((rdE .i ((1:Int)::((2:Int)::((3:Int)::((3:Int)::((2:Int)::((2:Int)::((2:Int)::((2:Int)::((2:Int)::((2:Int)::((1:Int)::((1:Int)::((1:Int)::((1:Int)::((3:Int)::((3:Int)::((3:Int)::((3:Int)::((3:Int)::((3:Int)::((3:Int)::((1:Int)::((1:Int)::((1:Int)::((1:Int)::((1:Int)::((1:Int)::((1:Int)::((1:Int)::((3:Int)::[])))))))))))))))))))))))))))))) y.1),()),()))
   else none)
  else none
theorem s268 (c125:F125) (y):TE [g125 c125] Tryz.f268 i268 o268 y=m268 c125 y:=by kernel_rfl
noncomputable def r268:F268:=m268 r125
theorem k268:KO (g268 r268):=fk (s268 r125) ⟨k125,⟨⟩⟩ (by kernel_rfl)
abbrev i210:Ts:=[.a q0, .a q1, .v (.int .i64)]
abbrev o210:Ts:=[.a q11]
abbrev F210:=FT i210 o210
abbrev g210:=mkG 210 i210 o210
noncomputable def m210 (c269:F269) (c268:F268) (c267:F267) (y:PTup i210):Option (PTup o210×BTup i210):=
  (c267 y).bind fun r0=>
  (c268 r0.1).bind fun r1=>
  bif (eqI r1.1.1 2)then ((c267 (y.1,(y.2.1,((wI (y.2.2.1+1)),())))).bind fun r2=>
   some (((r0.1.1,r2.1),()),()))
  else bif (eqI r1.1.1 3)then ((c267 (y.1,(y.2.1,((wI (y.2.2.1+1)),())))).bind fun r2=>
   (c267 (y.1,(y.2.1,((wI (y.2.2.1+2)),())))).bind fun r3=>
   (c269 (r2.1.1,r3.1)).bind fun r4=>
   some (((r0.1.1,r4.1),()),()))
  else some (((r0.1.1,((0:Int),())),()),())
theorem s210 (c269:F269) (c268:F268) (c267:F267) (y):TE [g269 c269,g268 c268,g267 c267] Tryz.f210 i210 o210 y=m210 c269 c268 c267 y:=by kernel_rfl
noncomputable def r210:F210:=m210 r269 r268 r267
theorem k210:KO (g210 r210):=fk (s210 r269 r268 r267) ⟨k269,k268,k267,⟨⟩⟩ (by kernel_rfl)
abbrev i270:Ts:=[.v (.int .i64)]
abbrev o270:Ts:=[.v (.int .i64)]
abbrev R270:=Option (PTup o270×BTup i270)
abbrev F270:=PTup i270→R270
abbrev g270:=mkG 270 i270 o270
noncomputable def m270 (y:PTup i270):R270:=
  let X0:R270:=bif (eqI y.1 3)then (bif (eqI y.1 3)then (some (((2:Int),()),()))else some (((0:Int),()),()))else bif (eqI y.1 15)then (some (((2:Int),()),()))else some (((0:Int),()),());bif (eqI y.1 2)then (bif (eqI y.1 2)then (some (((1:Int),()),()))else X0)else bif (eqI y.1 14)then (bif (eqI y.1 14)then (some (((1:Int),()),()))else X0)else bif (eqI y.1 29)then (some (((1:Int),()),()))else X0
theorem s270 (y):TE [] Tryz.f270 i270 o270 y=m270 y:=by kernel_rfl
noncomputable def r270:F270:=m270
theorem k270:KO (g270 r270):=fk (s270) trivial (by kernel_rfl)
abbrev i211:Ts:=[.a q11, .a q2]
abbrev o211:Ts:=[.v (.int .i64), .v (.int .i64), .v (.int .i64)]
abbrev R211:=Option (PTup o211×BTup i211)
abbrev F211:=PTup i211→R211
abbrev g211:=mkG 211 i211 o211
noncomputable def m211 (c271:F271) (c272:F272) (c270:F270) (y:PTup i211):R211:=
  (c270 (y.1.1,())).bind fun r0=>let X0:R211:=bif (eqI r0.1.1 1)then ((c271 ((wI (y.1.2.1+y.2.1.2.1)),())).bind fun r1=>some ((r0.1.1,(r1.1.1,((0:Int),()))),()))else (c271 ((wI (y.1.2.1+y.2.1.2.1)),())).bind fun r1=>(c272 (y.2.1.1,())).bind fun r2=>some ((r0.1.1,(r1.1.1,r2.1)),());bif (eqI r0.1.1 0)then (some (((0:Int),((0:Int),((0:Int),()))),()))else bif (eqI y.1.1 14)then X0 else bif (eqI y.1.1 15)then X0 else bif (eqI r0.1.1 1)then ((c271 y.1.2).bind fun r1=>some ((r0.1.1,(r1.1.1,((0:Int),()))),()))else (c271 y.1.2).bind fun r1=>(c272 (y.2.1.1,())).bind fun r2=>some ((r0.1.1,(r1.1.1,r2.1)),())
theorem s211 (c271:F271) (c272:F272) (c270:F270) (y):TE [g271 c271,g272 c272,g270 c270] Tryz.f211 i211 o211 y=m211 c271 c272 c270 y:=by kernel_rfl
noncomputable def r211:F211:=m211 r271 r272 r270
theorem k211:KO (g211 r211):=fk (s211 r271 r272 r270) ⟨k271,k272,k270,⟨⟩⟩ (by kernel_rfl)
abbrev i286:Ts:=[.a q3, .v (.int .i64)]
abbrev o286:Ts:=[.a q10, .v (.int .i64)]
abbrev F286:=FT i286 o286
abbrev g286:=mkG 286 i286 o286
noncomputable def m286 (c153:F153) (c167:F167) (c113:F113) (y:PTup i286):Option (PTup o286×BTup i286):=
  (c113 (y.1,())).bind fun r0=>
  (c153 (y.1,())).bind fun r1=>
  bif (!r1.1.1)then (some ((r0.1.1,((0:Int),())),()))
  else bif (eqI y.2.1 2)then ((c167 (y.1.2.2.2.2.2.1,())).bind fun r2=>
   some (((r0.1.1.1,(r0.1.1.2.1,(r0.1.1.2.2.1,(r0.1.1.2.2.2.1,(r0.1.1.2.2.2.2.1,(false,r0.1.1.2.2.2.2.2.2)))))),((wI ((128:Int)*r2.1.1)),())),()))
  else bif (eqI y.2.1 4)then (bif (leI 0 y.1.2.2.2.1)then (bif (ltI y.1.2.2.2.1 (lenI y.1.2.2.2.2.2.2.1))then (some (((r0.1.1.1,(r0.1.1.2.1,(r0.1.1.2.2.1,((Int.tmod (wI (y.1.2.2.2.1+1)) (16:Int)),r0.1.1.2.2.2.2)))),((rdE .i y.1.2.2.2.2.2.2.1 y.1.2.2.2.1),())),()))
    else none)
   else none)
  else some ((r0.1.1,((0:Int),())),())
theorem s286 (c153:F153) (c167:F167) (c113:F113) (y):TE [g153 c153,g167 c167,g113 c113] Tryz.f286 i286 o286 y=m286 c153 c167 c113 y:=by kernel_rfl
noncomputable def r286:F286:=m286 r153 r167 r113
theorem k286:KO (g286 r286):=fk (s286 r153 r167 r113) ⟨k153,k167,k113,⟨⟩⟩ (by kernel_rfl)
abbrev i287:Ts:=[.a q6, .v (.int .i64)]
abbrev o287:Ts:=[.a q6, .v (.int .i64)]
abbrev F287:=FT i287 o287
abbrev g287:=mkG 287 i287 o287
noncomputable def m287 (c154:F154) (c167:F167) (y:PTup i287):Option (PTup o287×BTup i287):=
  (c154 (y.1,())).bind fun r0=>
  bif (!r0.1.1)then (some ((y.1,((0:Int),())),()))
  else bif (neI y.2.1 2)then (some ((y.1,((0:Int),())),()))
  else (c167 y.1.2.2.2.2.2.2).bind fun r1=>
  (c167 ((ltI 0 y.1.2.2.2.2.1),())).bind fun r2=>
  some (((y.1.1,(y.1.2.1,(y.1.2.2.1,(y.1.2.2.2.1,(y.1.2.2.2.2.1,(y.1.2.2.2.2.2.1,(false,()))))))),((wI ((wI ((128:Int)*r1.1.1))+r2.1.1)),())),())
theorem s287 (c154:F154) (c167:F167) (y):TE [g154 c154,g167 c167] Tryz.f287 i287 o287 y=m287 c154 c167 y:=by kernel_rfl
noncomputable def r287:F287:=m287 r154 r167
theorem k287:KO (g287 r287):=fk (s287 r154 r167) ⟨k154,k167,⟨⟩⟩ (by kernel_rfl)
abbrev i168:Ts:=[.v (.int .i64), .v (.int .i64)]
abbrev o168:Ts:=[.v (.int .i64)]
abbrev F168:=FT i168 o168
abbrev g168:=mkG 168 i168 o168
noncomputable def m168 (y:PTup i168):Option (PTup o168×BTup i168):=
  bif (ltI y.2.1 y.1)then (some ((y.1,()),()))
  else some (y.2,())
theorem s168 (y):TE [] Tryz.f168 i168 o168 y=m168 y:=by kernel_rfl
noncomputable def r168:F168:=m168
theorem k168:KO (g168 r168):=fk (s168) trivial (by kernel_rfl)
abbrev i338:Ts:=[.v (.int .i64)]
abbrev o338:Ts:=[.v (.int .i64)]
abbrev F338:=FT i338 o338
abbrev g338:=mkG 338 i338 o338
noncomputable def m338 (c168:F168) (y:PTup i338):Option (PTup o338×BTup i338):=
  (c168 (y.1,((0:Int),()))).bind fun r0=>
  some (((wI (Int.tdiv r0.1.1 64)),()),())
theorem s338 (c168:F168) (y):TE [g168 c168] Tryz.f338 i338 o338 y=m338 c168 y:=by kernel_rfl
noncomputable def r338:F338:=m338 r168
theorem k338:KO (g338 r338):=fk (s338 r168) ⟨k168,⟨⟩⟩ (by kernel_rfl)
abbrev i320:Ts:=[.v (.sl false .i), .v (.int .i64)]
abbrev o320:Ts:=[.v (.int .i64)]
abbrev F320:=FT i320 o320
abbrev g320:=mkG 320 i320 o320
noncomputable def m320 (c338:F338) (c119:F119) (y:PTup i320):Option (PTup o320×BTup i320):=
  (c119 (y.1,())).bind fun r0=>
  bif (!r0.1.1)then (some (((0:Int),()),()))
  else bif (eqI (lenI y.1) 0)then (some (((0:Int),()),()))
  else (c338 y.2).bind fun r1=>
  bif (neI (lenI y.1) 0)then (bif (leI 0 (Int.tmod r1.1.1 (lenI y.1)))then (bif (ltI (Int.tmod r1.1.1 (lenI y.1)) (lenI y.1))then (some (((rdE .i y.1 (Int.tmod r1.1.1 (lenI y.1))),()),()))
    else none)
   else none)
  else none
theorem s320 (c338:F338) (c119:F119) (y):TE [g338 c338,g119 c119] Tryz.f320 i320 o320 y=m320 c338 c119 y:=by kernel_rfl
noncomputable def r320:F320:=m320 r338 r119
theorem k320:KO (g320 r320):=fk (s320 r338 r119) ⟨k338,k119,⟨⟩⟩ (by kernel_rfl)
abbrev i288:Ts:=[.a [.bool, .int .i64], .v (.sl false .i), .v (.int .i64)]
abbrev o288:Ts:=[.a [.bool, .int .i64], .v (.int .i64)]
abbrev F288:=FT i288 o288
abbrev g288:=mkG 288 i288 o288
noncomputable def m288 (c320:F320) (y:PTup i288):Option (PTup o288×BTup i288):=
  bif y.1.1 then ((c320 y.2).bind fun r0=>
   some (((y.1.1,r0.1),((bAnd Go.IntKind.i64 r0.1.1 (1:Int)),())),()))
  else some (((y.1.1,((Int.fdiv y.1.2.1 ((2:Int)^(Min.min (Int.toNat (1:Int)) (64:Nat)))),())),((bAnd Go.IntKind.i64 y.1.2.1 (1:Int)),())),())
theorem s288 (c320:F320) (y):TE [g320 c320] Tryz.f288 i288 o288 y=m288 c320 y:=by kernel_rfl
noncomputable def r288:F288:=m288 r320
theorem k288:KO (g288 r288):=fk (s288 r320) ⟨k320,⟨⟩⟩ (by kernel_rfl)
abbrev i241:Ts:=[.a q3, .v (.int .i64), .v (.int .i64)]
abbrev o241:Ts:=[.a q10]
abbrev F241:=FT i241 o241
abbrev g241:=mkG 241 i241 o241
noncomputable def m241 (c272:F272) (c153:F153) (c113:F113) (y:PTup i241):Option (PTup o241×BTup i241):=
  (c113 (y.1,())).bind fun r0=>
  (c153 (y.1,())).bind fun r1=>
  bif (!r1.1.1)then (some ((r0.1.1,()),()))
  else (c272 y.2.2).bind fun r2=>
  bif (eqI y.2.1 0)then (some (((r0.1.1.1,(r2.1.1,r0.1.1.2.2)),()),()))
  else bif (eqI y.2.1 1)then (some (((r0.1.1.1,(r0.1.1.2.1,(r2.1.1,r0.1.1.2.2.2))),()),()))
  else bif (eqI y.2.1 3)then (some (((r0.1.1.1,(r0.1.1.2.1,(r0.1.1.2.2.1,((Int.tmod r2.1.1 16),r0.1.1.2.2.2.2)))),()),()))
  else bif (eqI y.2.1 4)then (bif (leI 0 y.1.2.2.2.1)then (bif (ltI y.1.2.2.2.1 (lenI r0.1.1.2.2.2.2.2.2.1))then (some (((r0.1.1.1,(r0.1.1.2.1,(r0.1.1.2.2.1,((Int.tmod (wI (y.1.2.2.2.1+1)) (16:Int)),(r0.1.1.2.2.2.2.1,(r0.1.1.2.2.2.2.2.1,((List.set r0.1.1.2.2.2.2.2.2.1 (Int.toNat y.1.2.2.2.1) (Int.tmod r2.1.1 64)),r0.1.1.2.2.2.2.2.2.2))))))),()),()))
    else none)
   else none)
  else bif (eqI y.2.1 5)then (some (((r0.1.1.1,(r0.1.1.2.1,(r0.1.1.2.2.1,(r0.1.1.2.2.2.1,((Int.tmod r2.1.1 64),r0.1.1.2.2.2.2.2))))),()),()))
  else some ((r0.1.1,()),())
theorem s241 (c272:F272) (c153:F153) (c113:F113) (y):TE [g272 c272,g153 c153,g113 c113] Tryz.f241 i241 o241 y=m241 c272 c153 c113 y:=by kernel_rfl
noncomputable def r241:F241:=m241 r272 r153 r113
theorem k241:KO (g241 r241):=fk (s241 r272 r153 r113) ⟨k272,k153,k113,⟨⟩⟩ (by kernel_rfl)
abbrev i243:Ts:=[.a q6, .v (.int .i64), .v (.int .i64)]
abbrev o243:Ts:=[.a q6]
abbrev F243:=FT i243 o243
abbrev g243:=mkG 243 i243 o243
noncomputable def m243 (c154:F154) (c272:F272) (y:PTup i243):Option (PTup o243×BTup i243):=
  (c154 (y.1,())).bind fun r0=>
  bif (!r0.1.1)then (some ((y.1,()),()))
  else (c272 y.2.2).bind fun r1=>
  bif (eqI y.2.1 0)then (some (((y.1.1,(r1.1.1,y.1.2.2)),()),()))
  else bif (eqI y.2.1 1)then (some (((y.1.1,(y.1.2.1,(y.1.2.2.1,(y.1.2.2.2.1,((Int.tmod r1.1.1 32),y.1.2.2.2.2.2))))),()),()))
  else bif (eqI y.2.1 2)then (bif y.1.2.2.2.2.2.2.1 then (some (((y.1.1,(y.1.2.1,(y.1.2.2.1,(y.1.2.2.2.1,(y.1.2.2.2.2.1,((eqI (Int.tmod r1.1.1 2) (1:Int)),((eqI (Int.tmod r1.1.1 2) (1:Int)),()))))))),()),()))
   else some (((y.1.1,(y.1.2.1,(y.1.2.2.1,(y.1.2.2.2.1,(y.1.2.2.2.2.1,((eqI (Int.tmod r1.1.1 2) (1:Int)),(false,()))))))),()),()))
  else bif (eqI y.2.1 3)then (some (((y.1.1,(y.1.2.1,(y.1.2.2.1,(y.1.2.2.2.1,(y.1.2.2.2.2.1,(y.1.2.2.2.2.2.1,(false,()))))))),()),()))
  else some ((y.1,()),())
theorem s243 (c154:F154) (c272:F272) (y):TE [g154 c154,g272 c272] Tryz.f243 i243 o243 y=m243 c154 c272 y:=by kernel_rfl
noncomputable def r243:F243:=m243 r154 r272
theorem k243:KO (g243 r243):=fk (s243 r154 r272) ⟨k154,k272,⟨⟩⟩ (by kernel_rfl)
abbrev i290:Ts:=[.a [.bool, .int .i64], .v (.sl false .i), .v (.int .i64), .v (.int .i64)]
abbrev o290:Ts:=[.a [.bool, .int .i64]]
abbrev F290:=FT i290 o290
abbrev g290:=mkG 290 i290 o290
noncomputable def m290 (c320:F320) (y:PTup i290):Option (PTup o290×BTup i290):=
  bif y.1.1 then ((c320 (y.2.1,(y.2.2.1,()))).bind fun r0=>
   some ((((eqI (bAnd Go.IntKind.i64 y.2.2.2.1 (1:Int)) (1:Int)),r0.1),()),()))
  else bif (eqI (bAnd Go.IntKind.i64 y.2.2.2.1 (1:Int)) (1:Int))then ((c320 (y.2.1,(y.2.2.1,()))).bind fun r0=>
   some ((((eqI (bAnd Go.IntKind.i64 y.2.2.2.1 (1:Int)) (1:Int)),r0.1),()),()))
  else some ((((eqI (bAnd Go.IntKind.i64 y.2.2.2.1 (1:Int)) (1:Int)),y.1.2),()),())
theorem s290 (c320:F320) (y):TE [g320 c320] Tryz.f290 i290 o290 y=m290 c320 y:=by kernel_rfl
noncomputable def r290:F290:=m290 r320
theorem k290:KO (g290 r290):=fk (s290 r320) ⟨k320,⟨⟩⟩ (by kernel_rfl)
abbrev i291:Ts:=[.a q0, .a q1, .v (.int .i64), .v (.int .i64)]
abbrev o291:Ts:=[.a q9]
abbrev R291:=Option (PTup o291×BTup i291)
abbrev F291:=PTup i291→R291
abbrev g291:=mkG 291 i291 o291
noncomputable def m291 (c272:F272) (c120:F120) (c212:F212) (c112:F112) (y:PTup i291):R291:=
  (c112 (y.2.1,())).bind fun r0=>let X0:R291:=(c272 y.2.2.2).bind fun r3=>bif (neI (lenI y.1.1) 0)then (some (((r0.1.1.1,((Int.tmod r3.1.1 (lenI y.1.1)),())),()),()))else none;(c120 (y.1,(y.2.1,()))).bind fun r1=>bif (!r1.1.1)then (some ((r0.1.1,()),()))else (c212 (y.2.2.1,())).bind fun r2=>bif (eqI r2.1.1 1)then ((c272 y.2.2.2).bind fun r3=>bif (leI 0 r2.1.2.1)then (bif (ltI r2.1.2.1 (lenI r0.1.1.1))then (some ((((List.set r0.1.1.1 (Int.toNat r2.1.2.1) r3.1.1),r0.1.1.2),()),()))else none)else none)else bif (eqI r2.1.1 5)then (bif (eqI r2.1.1 5)then X0 else some ((r0.1.1,()),()))else bif (eqI r2.1.1 6)then X0 else some ((r0.1.1,()),())
theorem s291 (c272:F272) (c120:F120) (c212:F212) (c112:F112) (y):TE [g272 c272,g120 c120,g212 c212,g112 c112] Tryz.f291 i291 o291 y=m291 c272 c120 c212 c112 y:=by kernel_rfl
noncomputable def r291:F291:=m291 r272 r120 r212 r112
theorem k291:KO (g291 r291):=fk (s291 r272 r120 r212 r112) ⟨k272,k120,k212,k112,⟨⟩⟩ (by kernel_rfl)
abbrev i323:Ts:=[.v (.int .i64)]
abbrev o323:Ts:=[.v (.bool), .v (.bool)]
abbrev F323:=FT i323 o323
abbrev g323:=mkG 323 i323 o323
noncomputable def m323 (c272:F272) (y:PTup i323):Option (PTup o323×BTup i323):=
  (c272 y).bind fun r0=>
  (c272 y).bind fun r1=>
  some (((eqI r0.1.1 0),((ltI 127 r1.1.1),())),())
theorem s323 (c272:F272) (y):TE [g272 c272] Tryz.f323 i323 o323 y=m323 c272 y:=by kernel_rfl
noncomputable def r323:F323:=m323 r272
theorem k323:KO (g323 r323):=fk (s323 r272) ⟨k272,⟨⟩⟩ (by kernel_rfl)
abbrev i295:Ts:=[.a q2, .v (.int .i64)]
abbrev o295:Ts:=[.a q2]
abbrev F295:=FT i295 o295
abbrev g295:=mkG 295 i295 o295
noncomputable def m295 (c272:F272) (c323:F323) (y:PTup i295):Option (PTup o295×BTup i295):=
  (c272 y.2).bind fun r0=>
  (c323 y.2).bind fun r1=>
  some (((r0.1.1,(y.1.2.1,(y.1.2.2.1,(y.1.2.2.2.1,(r1.1.1,(r1.1.2.1,y.1.2.2.2.2.2.2)))))),()),())
theorem s295 (c272:F272) (c323:F323) (y):TE [g272 c272,g323 c323] Tryz.f295 i295 o295 y=m295 c272 c323 y:=by kernel_rfl
noncomputable def r295:F295:=m295 r272 r323
theorem k295:KO (g295 r295):=fk (s295 r272 r323) ⟨k272,k323,⟨⟩⟩ (by kernel_rfl)
abbrev i339:Ts:=[.v (.int .i64), .v (.int .i64), .v (.bool)]
abbrev o339:Ts:=[.v (.int .i64), .v (.bool)]
abbrev F339:=FT i339 o339
abbrev g339:=mkG 339 i339 o339
noncomputable def m339 (c272:F272) (c167:F167) (y:PTup i339):Option (PTup o339×BTup i339):=
  (c272 (y.1,())).bind fun r0=>
  (c272 (y.2.1,())).bind fun r1=>
  (c167 y.2.2).bind fun r2=>
  (c272 ((wI ((wI (r0.1.1+r1.1.1))+r2.1.1)),())).bind fun r3=>
  some ((r3.1.1,((ltI 255 (wI ((wI (r0.1.1+r1.1.1))+r2.1.1))),())),())
theorem s339 (c272:F272) (c167:F167) (y):TE [g272 c272,g167 c167] Tryz.f339 i339 o339 y=m339 c272 c167 y:=by kernel_rfl
noncomputable def r339:F339:=m339 r272 r167
theorem k339:KO (g339 r339):=fk (s339 r272 r167) ⟨k272,k167,⟨⟩⟩ (by kernel_rfl)
abbrev i321:Ts:=[.a q2, .v (.int .i64)]
abbrev o321:Ts:=[.a q2]
abbrev F321:=FT i321 o321
abbrev g321:=mkG 321 i321 o321
noncomputable def m321 (c339:F339) (c295:F295) (y:PTup i321):Option (PTup o321×BTup i321):=
  (c339 (y.1.1,(y.2.1,(y.1.2.2.2.2.2.2.1,())))).bind fun r0=>
  (c295 (y.1,(r0.1.1,()))).bind fun r1=>
  some (((r1.1.1.1,(r1.1.1.2.1,(r1.1.1.2.2.1,(r1.1.1.2.2.2.1,(r1.1.1.2.2.2.2.1,(r1.1.1.2.2.2.2.2.1,(r0.1.2.1,r1.1.1.2.2.2.2.2.2.2))))))),()),())
theorem s321 (c339:F339) (c295:F295) (y):TE [g339 c339,g295 c295] Tryz.f321 i321 o321 y=m321 c339 c295 y:=by kernel_rfl
noncomputable def r321:F321:=m321 r339 r295
theorem k321:KO (g321 r321):=fk (s321 r339 r295) ⟨k339,k295,⟨⟩⟩ (by kernel_rfl)
abbrev i322:Ts:=[.v (.int .i64), .v (.int .i64), .v (.bool)]
abbrev o322:Ts:=[.v (.int .i64), .v (.bool)]
abbrev F322:=FT i322 o322
abbrev g322:=mkG 322 i322 o322
noncomputable def m322 (c272:F272) (c167:F167) (y:PTup i322):Option (PTup o322×BTup i322):=
  (c272 (y.1,())).bind fun r0=>
  (c272 (y.2.1,())).bind fun r1=>
  (c167 y.2.2).bind fun r2=>
  (c272 ((wI ((wI ((wI (r0.1.1-r1.1.1))-1))+r2.1.1)),())).bind fun r3=>
  some ((r3.1.1,((leI 0 (wI ((wI ((wI (r0.1.1-r1.1.1))-1))+r2.1.1))),())),())
theorem s322 (c272:F272) (c167:F167) (y):TE [g272 c272,g167 c167] Tryz.f322 i322 o322 y=m322 c272 c167 y:=by kernel_rfl
noncomputable def r322:F322:=m322 r272 r167
theorem k322:KO (g322 r322):=fk (s322 r272 r167) ⟨k272,k167,⟨⟩⟩ (by kernel_rfl)
abbrev i324:Ts:=[.a q2, .v (.int .i64)]
abbrev o324:Ts:=[.a q2]
abbrev F324:=FT i324 o324
abbrev g324:=mkG 324 i324 o324
noncomputable def m324 (c272:F272) (c323:F323) (y:PTup i324):Option (PTup o324×BTup i324):=
  (c272 y.2).bind fun r0=>
  (c323 y.2).bind fun r1=>
  some (((y.1.1,(r0.1.1,(y.1.2.2.1,(y.1.2.2.2.1,(r1.1.1,(r1.1.2.1,y.1.2.2.2.2.2.2)))))),()),())
theorem s324 (c272:F272) (c323:F323) (y):TE [g272 c272,g323 c323] Tryz.f324 i324 o324 y=m324 c272 c323 y:=by kernel_rfl
noncomputable def r324:F324:=m324 r272 r323
theorem k324:KO (g324 r324):=fk (s324 r272 r323) ⟨k272,k323,⟨⟩⟩ (by kernel_rfl)
abbrev i292:Ts:=[.a q2, .a q11, .v (.int .i64)]
abbrev o292:Ts:=[.a q2, .v (.bool)]
abbrev R292:=Option (PTup o292×BTup i292)
abbrev F292:=PTup i292→R292
abbrev g292:=mkG 292 i292 o292
noncomputable def m292 (c272:F272) (c295:F295) (c324:F324) (c323:F323) (c322:F322) (c321:F321) (y:PTup i292):R292:=
  let X0:R292:=bif (eqI y.2.1.1 4)then ((c321 (y.1,y.2.1.2)).bind fun r0=>some ((r0.1.1,(true,())),()))else bif (eqI y.2.1.1 29)then ((c321 (y.1,y.2.2)).bind fun r0=>some ((r0.1.1,(true,())),()))else bif (eqI y.2.1.1 5)then ((c322 (y.1.1,(y.2.1.2.1,(y.1.2.2.2.2.2.2.1,())))).bind fun r0=>(c295 (y.1,(r0.1.1,()))).bind fun r1=>some (((r1.1.1.1,(r1.1.1.2.1,(r1.1.1.2.2.1,(r1.1.1.2.2.2.1,(r1.1.1.2.2.2.2.1,(r1.1.1.2.2.2.2.2.1,(r0.1.2.1,r1.1.1.2.2.2.2.2.2.2))))))),(true,())),()))else bif (eqI y.2.1.1 6)then ((c272 (y.1.1,())).bind fun r0=>(c272 y.2.1.2).bind fun r1=>(c295 (y.1,((bAnd Go.IntKind.i64 r0.1.1 r1.1.1),()))).bind fun r2=>some ((r2.1.1,(true,())),()))else bif (eqI y.2.1.1 7)then ((c272 (y.1.1,())).bind fun r0=>(c272 y.2.1.2).bind fun r1=>(c295 (y.1,((bOr Go.IntKind.i64 r0.1.1 r1.1.1),()))).bind fun r2=>some ((r2.1.1,(true,())),()))else bif (eqI y.2.1.1 8)then ((c272 (y.1.1,())).bind fun r0=>(c272 y.2.1.2).bind fun r1=>(c295 (y.1,((bXor Go.IntKind.i64 r0.1.1 r1.1.1),()))).bind fun r2=>some ((r2.1.1,(true,())),()))else bif (eqI y.2.1.1 9)then ((c272 (y.1.1,())).bind fun r0=>(c272 y.2.1.2).bind fun r1=>(c323 ((wI (r0.1.1-r1.1.1)),())).bind fun r2=>(c272 (y.1.1,())).bind fun r3=>(c272 y.2.1.2).bind fun r4=>some (((y.1.1,(y.1.2.1,(y.1.2.2.1,(y.1.2.2.2.1,(r2.1.1,(r2.1.2.1,((leI r4.1.1 r3.1.1),y.1.2.2.2.2.2.2.2))))))),(true,())),()))else bif (eqI y.2.1.1 10)then ((c324 (y.1,(y.1.1,()))).bind fun r0=>some ((r0.1.1,(true,())),()))else bif (eqI y.2.1.1 11)then ((c295 (y.1,(y.1.2.1,()))).bind fun r0=>some ((r0.1.1,(true,())),()))else bif (eqI y.2.1.1 12)then ((c272 (y.1.2.1,())).bind fun r0=>(c324 (y.1,((wI (r0.1.1+1)),()))).bind fun r1=>some ((r1.1.1,(true,())),()))else bif (eqI y.2.1.1 13)then ((c272 (y.1.2.1,())).bind fun r0=>(c324 (y.1,((wI (r0.1.1-1)),()))).bind fun r1=>some ((r1.1.1,(true,())),()))else some ((y.1,(false,())),());bif (eqI y.2.1.1 1)then ((c295 (y.1,y.2.1.2)).bind fun r0=>some ((r0.1.1,(true,())),()))else bif (eqI y.2.1.1 2)then (bif (eqI y.2.1.1 2)then ((c295 (y.1,y.2.2)).bind fun r0=>some ((r0.1.1,(true,())),()))else X0)else bif (eqI y.2.1.1 14)then ((c295 (y.1,y.2.2)).bind fun r0=>some ((r0.1.1,(true,())),()))else X0
theorem s292 (c272:F272) (c295:F295) (c324:F324) (c323:F323) (c322:F322) (c321:F321) (y):TE [g272 c272,g295 c295,g324 c324,g323 c323,g322 c322,g321 c321] Tryz.f292 i292 o292 y=m292 c272 c295 c324 c323 c322 c321 y:=by kernel_rfl
noncomputable def r292:F292:=m292 r272 r295 r324 r323 r322 r321
theorem k292:KO (g292 r292):=fk (s292 r272 r295 r324 r323 r322 r321) ⟨k272,k295,k324,k323,k322,k321,⟨⟩⟩ (by kernel_rfl)
abbrev i294:Ts:=[.a q1, .a q2]
abbrev o294:Ts:=[.a q2, .v (.int .i64)]
abbrev F294:=FT i294 o294
abbrev g294:=mkG 294 i294 o294
noncomputable def m294 (c272:F272) (y:PTup i294):Option (PTup o294×BTup i294):=
  bif (neI (lenI y.1.1) 512)then (some ((y.2.1,((0:Int),())),()))
  else (c272 ((wI (y.2.1.2.2.1+1)),())).bind fun r0=>
  bif (leI 0 (wI ((256:Int)+r0.1.1)))then (bif (ltI (wI ((256:Int)+r0.1.1)) (lenI y.1.1))then ((c272 ((rdE .i y.1.1 (wI ((256:Int)+r0.1.1))),())).bind fun r1=>
    some (((y.2.1.1,(y.2.1.2.1,(r0.1.1,y.2.1.2.2.2))),r1.1),()))
   else none)
  else none
theorem s294 (c272:F272) (y):TE [g272 c272] Tryz.f294 i294 o294 y=m294 c272 y:=by kernel_rfl
noncomputable def r294:F294:=m294 r272
theorem k294:KO (g294 r294):=fk (s294 r272) ⟨k272,⟨⟩⟩ (by kernel_rfl)
abbrev i293:Ts:=[.a q1, .a q2]
abbrev o293:Ts:=[.a q2]
abbrev F293:=FT i293 o293
abbrev g293:=mkG 293 i293 o293
noncomputable def m293 (c269:F269) (c294:F294) (y:PTup i293):Option (PTup o293×BTup i293):=
  (c294 (y.1,(y.2.1,()))).bind fun r0=>
  (c294 (y.1,(r0.1.1,()))).bind fun r1=>
  (c269 (r0.1.2.1,r1.1.2)).bind fun r2=>
  some (((r1.1.1.1,(r1.1.1.2.1,(r1.1.1.2.2.1,(r2.1.1,r1.1.1.2.2.2.2)))),()),())
theorem s293 (c269:F269) (c294:F294) (y):TE [g269 c269,g294 c294] Tryz.f293 i293 o293 y=m293 c269 c294 y:=by kernel_rfl
noncomputable def r293:F293:=m293 r269 r294
theorem k293:KO (g293 r293):=fk (s293 r269 r294) ⟨k269,k294,⟨⟩⟩ (by kernel_rfl)
abbrev i296:Ts:=[.a q2, .v (.int .i64)]
abbrev o296:Ts:=[.a q2]
abbrev F296:=FT i296 o296
abbrev g296:=mkG 296 i296 o296
noncomputable def m296 (y:PTup i296):Option (PTup o296×BTup i296):=
  some (((y.1.1,(y.1.2.1,(y.1.2.2.1,(y.1.2.2.2.1,((neI (bAnd Go.IntKind.i64 y.2.1 (2:Int)) (0:Int)),((neI (bAnd Go.IntKind.i64 y.2.1 (128:Int)) (0:Int)),((neI (bAnd Go.IntKind.i64 y.2.1 (1:Int)) (0:Int)),((neI (bAnd Go.IntKind.i64 y.2.1 (4:Int)) (0:Int)),())))))))),()),())
theorem s296 (y):TE [] Tryz.f296 i296 o296 y=m296 y:=by kernel_rfl
noncomputable def r296:F296:=m296
theorem k296:KO (g296 r296):=fk (s296) trivial (by kernel_rfl)
abbrev i237:Ts:=[.a q1, .a q2, .a q11, .v (.int .i64)]
abbrev o237:Ts:=[.a q9, .a q2]
abbrev R237:=Option (PTup o237×BTup i237)
abbrev F237:=PTup i237→R237
abbrev g237:=mkG 237 i237 o237
noncomputable def m237 (c271:F271) (c268:F268) (c294:F294) (c285:F285) (c295:F295) (c296:F296) (c112:F112) (c292:F292) (c293:F293) (y:PTup i237):R237:=
  let a0:=y.2;let a1:=a0.1;let a2:=a0.2;let a3:=a1.1;let a4:=a1.2;let a5:=a2.1;let a6:=a4.1;let a7:=a4.2;let a8:=a5.1;let a9:=a7.1;let a10:=a7.2;let a11:=a10.2;let a12:=a11.2;(c112 (y.1,())).bind fun r0=>let X0:R237:=(c271 a5.2).bind fun r4=>some ((r0.1.1,((a3,(a6,(a9,(r4.1.1,a11)))),())),());(c268 (a8,())).bind fun r1=>(c271 ((wI (a10.1+r1.1.1)),())).bind fun r2=>let X1:R237:=bif (eqI a8 20)then ((c285 (r0.1.1,((a3,(a6,(a9,(r2.1.1,a11)))),((Int.fdiv r2.1.1 ((2:Int)^(Min.min (Int.toNat (8:Int)) (64:Nat)))),())))).bind fun r4=>(c285 (r4.1.1,(r4.1.2.1,(r4.1.2.1.2.2.2.1,())))).bind fun r5=>(c271 a5.2).bind fun r6=>some ((r5.1.1,((r5.1.2.1.1,(r5.1.2.1.2.1,(r5.1.2.1.2.2.1,(r6.1.1,r5.1.2.1.2.2.2.2)))),())),()))else bif (eqI a8 21)then ((c293 (y.1,((a3,(a6,(a9,(r2.1.1,a11)))),()))).bind fun r4=>some ((r0.1.1,(r4.1.1,())),()))else bif (eqI a8 22)then ((c285 (r0.1.1,((a3,(a6,(a9,(r2.1.1,a11)))),(a3,())))).bind fun r4=>some ((r4.1.1,(r4.1.2.1,())),()))else bif (eqI a8 23)then ((c294 (y.1,((a3,(a6,(a9,(r2.1.1,a11)))),()))).bind fun r4=>(c295 r4.1).bind fun r5=>some ((r0.1.1,(r5.1.1,())),()))else bif (eqI a8 24)then ((c294 (y.1,((a3,(a6,(a9,(r2.1.1,a11)))),()))).bind fun r4=>(c296 r4.1).bind fun r5=>(c293 (y.1,(r5.1.1,()))).bind fun r6=>some ((r0.1.1,(r6.1.1,())),()))else bif (eqI a8 25)then (bif (eqI a8 25)then (some ((r0.1.1,((a3,(a6,(a9,(r2.1.1,(a11.1,(a12.1,(a12.2.1,((eqI a8 25),())))))))),())),()))else bif (eqI a8 27)then (bif (eqI a8 27)then (some ((r0.1.1,((a3,(a6,(a9,(r2.1.1,(a11.1,(a12.1,((eqI a8 27),a12.2.2))))))),())),()))else some ((r0.1.1,((a3,(a6,(a9,(r2.1.1,a11)))),())),()))else bif (eqI a8 28)then (some ((r0.1.1,((a3,(a6,(a9,(r2.1.1,(a11.1,(a12.1,((eqI a8 27),a12.2.2))))))),())),()))else some ((r0.1.1,((a3,(a6,(a9,(r2.1.1,a11)))),())),()))else bif (eqI a8 26)then (some ((r0.1.1,((a3,(a6,(a9,(r2.1.1,(a11.1,(a12.1,(a12.2.1,((eqI a8 25),())))))))),())),()))else bif (eqI a8 27)then (bif (eqI a8 27)then (some ((r0.1.1,((a3,(a6,(a9,(r2.1.1,(a11.1,(a12.1,((eqI a8 27),a12.2.2))))))),())),()))else some ((r0.1.1,((a3,(a6,(a9,(r2.1.1,a11)))),())),()))else bif (eqI a8 28)then (some ((r0.1.1,((a3,(a6,(a9,(r2.1.1,(a11.1,(a12.1,((eqI a8 27),a12.2.2))))))),())),()))else some ((r0.1.1,((a3,(a6,(a9,(r2.1.1,a11)))),())),());let X2:R237:=bif (eqI a8 17)then (bif a11.1 then X0 else bif (eqI a8 18)then (bif a12.2.1 then X0 else bif (eqI a8 19)then X0 else some ((r0.1.1,((a3,(a6,(a9,(r2.1.1,a11)))),())),()))else bif (eqI a8 19)then X0 else some ((r0.1.1,((a3,(a6,(a9,(r2.1.1,a11)))),())),()))else bif (eqI a8 18)then (bif a12.2.1 then X0 else bif (eqI a8 19)then X0 else some ((r0.1.1,((a3,(a6,(a9,(r2.1.1,a11)))),())),()))else bif (eqI a8 19)then X0 else some ((r0.1.1,((a3,(a6,(a9,(r2.1.1,a11)))),())),());let X3:R237:=bif (eqI a8 16)then (bif (!a11.1)then X0 else X2)else X2;(c292 ((a3,(a6,(a9,(r2.1.1,a11)))),a2)).bind fun r3=>bif r3.1.2.1 then (some ((r0.1.1,(r3.1.1,())),()))else bif (eqI a8 16)then (bif (eqI a8 16)then X3 else X1)else bif (eqI a8 17)then (bif (eqI a8 17)then X3 else X1)else bif (eqI a8 18)then (bif (eqI a8 18)then X3 else X1)else bif (eqI a8 19)then X3 else X1
theorem s237 (c271:F271) (c268:F268) (c294:F294) (c285:F285) (c295:F295) (c296:F296) (c112:F112) (c292:F292) (c293:F293) (y):TE [g271 c271,g268 c268,g294 c294,g285 c285,g295 c295,g296 c296,g112 c112,g292 c292,g293 c293] Tryz.f237 i237 o237 y=m237 c271 c268 c294 c285 c295 c296 c112 c292 c293 y:=by kernel_rfl
noncomputable def r237:F237:=m237 r271 r268 r294 r285 r295 r296 r112 r292 r293
theorem k237:KO (g237 r237):=fk (s237 r271 r268 r294 r285 r295 r296 r112 r292 r293) ⟨k271,k268,k294,k285,k295,k296,k112,k292,k293,⟨⟩⟩ (by kernel_rfl)
abbrev i213:Ts:=[.v (.int .i64)]
abbrev o213:Ts:=[.v (.int .i64)]
abbrev F213:=FT i213 o213
abbrev g213:=mkG 213 i213 o213
noncomputable def m213 (c125:F125) (y:PTup i213):Option (PTup o213×BTup i213):=
  (c125 (y.1,((0:Int),((29:Int),())))).bind fun r0=>
  bif (!r0.1.1)then (some (((2:Int),()),()))
  else bif (leI 0 y.1)then (bif (ltI y.1 (lenI ((2:Int)::((2:Int)::((4:Int)::((4:Int)::((2:Int)::((2:Int)::((2:Int)::((2:Int)::((2:Int)::((2:Int)::((2:Int)::((2:Int)::((2:Int)::((2:Int)::((4:Int)::((5:Int)::((3:Int)::((3:Int)::((3:Int)::((3:Int)::((6:Int)::((6:Int)::((3:Int)::((4:Int)::((6:Int)::((2:Int)::((2:Int)::((2:Int)::((2:Int)::((4:Int)::[]))))))))))))))))))))))))))))))))then (some (((rdE .i ((2:Int)::((2:Int)::((4:Int)::((4:Int)::((2:Int)::((2:Int)::((2:Int)::((2:Int)::((2:Int)::((2:Int)::((2:Int)::((2:Int)::((2:Int)::((2:Int)::((4:Int)::((5:Int)::((3:Int)::((3:Int)::((3:Int)::((3:Int)::((6:Int)::((6:Int)::((3:Int)::((4:Int)::((6:Int)::((2:Int)::((2:Int)::((2:Int)::((2:Int)::((4:Int)::[])))))))))))))))))))))))))))))) y.1),()),()))
   else none)
  else none
theorem s213 (c125:F125) (y):TE [g125 c125] Tryz.f213 i213 o213 y=m213 c125 y:=by kernel_rfl
noncomputable def r213:F213:=m213 r125
theorem k213:KO (g213 r213):=fk (s213 r125) ⟨k125,⟨⟩⟩ (by kernel_rfl)
abbrev i300:Ts:=[.a q3, .v (.int .i64)]
abbrev o300:Ts:=[.v (.int .i64)]
abbrev F300:=FT i300 o300
abbrev g300:=mkG 300 i300 o300
noncomputable def m300 (y:PTup i300):Option (PTup o300×BTup i300):=
  bif (leI 0 (Int.tmod (wI ((wI ((Int.tmod y.2.1 8)+y.1.2.2.1))+(wI (Int.tdiv y.2.1 8)))) (16:Int)))then (bif (ltI (Int.tmod (wI ((wI ((Int.tmod y.2.1 8)+y.1.2.2.1))+(wI (Int.tdiv y.2.1 8)))) (16:Int)) (lenI y.1.2.2.2.2.2.2.1))then (some (((bXor Go.IntKind.i64 (rdE .i y.1.2.2.2.2.2.2.1 (Int.tmod (wI ((wI ((Int.tmod y.2.1 8)+y.1.2.2.1))+(wI (Int.tdiv y.2.1 8)))) (16:Int))) y.1.2.2.2.2.1),()),()))
   else none)
  else none
theorem s300 (y):TE [] Tryz.f300 i300 o300 y=m300 y:=by kernel_rfl
noncomputable def r300:F300:=m300
theorem k300:KO (g300 r300):=fk (s300) trivial (by kernel_rfl)
abbrev i242:Ts:=[.a q3]
abbrev o242:Ts:=[.a q10, .v (.sl true .i), .v (.bool)]
abbrev F242:=FT i242 o242
abbrev g242:=mkG 242 i242 o242
noncomputable def m242 (c113:F113) (c300:F300) (y:PTup i242):Option (PTup o242×BTup i242):=
  (c113 (y.1,())).bind fun r0=>
  bif (eqI y.1.1 20000)then (some ((r0.1.1,([],(false,()))),()))
  else bif (ltI (Int.tmod y.1.1 64) (48:Int))then ((c300 (y.1,((Int.tmod y.1.1 64),()))).bind fun r1=>
   bif (leN ((List.length r0.1.1.2.2.2.2.2.2.2.1)+(List.length (r1.1.1::[]))) (E.most .i))then (some ((((wI (y.1.1+1)),(r0.1.1.2.1,(r0.1.1.2.2.1,(r0.1.1.2.2.2.1,(r0.1.1.2.2.2.2.1,(r0.1.1.2.2.2.2.2.1,(r0.1.1.2.2.2.2.2.2.1,((r0.1.1.2.2.2.2.2.2.2.1++(r1.1.1::[])),())))))))),([],(false,()))),()))
   else none)
  else bif (eqI (Int.tmod y.1.1 64) (48:Int))then (bif (leN (0+(List.length y.1.2.2.2.2.2.2.2.1)) (E.most .i))then (some ((((wI (y.1.1+1)),(r0.1.1.2.1,(r0.1.1.2.2.1,(r0.1.1.2.2.2.1,(r0.1.1.2.2.2.2.1,(true,(r0.1.1.2.2.2.2.2.2.1,([],())))))))),(([]++y.1.2.2.2.2.2.2.2.1),((ltI 127 y.1.2.1),()))),()))
   else none)
  else bif (eqI (Int.tmod y.1.1 64) (63:Int))then (some ((((wI (y.1.1+1)),(r0.1.1.2.1,(r0.1.1.2.2.1,(r0.1.1.2.2.2.1,(r0.1.1.2.2.2.2.1,(false,r0.1.1.2.2.2.2.2.2)))))),([],(false,()))),()))
  else some ((((wI (y.1.1+1)),r0.1.1.2),([],(false,()))),())
theorem s242 (c113:F113) (c300:F300) (y):TE [g113 c113,g300 c300] Tryz.f242 i242 o242 y=m242 c113 c300 y:=by kernel_rfl
noncomputable def r242:F242:=m242 r113 r300
theorem k242:KO (g242 r242):=fk (s242 r113 r300) ⟨k113,k300,⟨⟩⟩ (by kernel_rfl)
abbrev i244:Ts:=[.a q6]
abbrev o244:Ts:=[.a q6, .v (.int .i64), .v (.bool)]
abbrev R244:=Option (PTup o244×BTup i244)
abbrev F244:=PTup i244→R244
abbrev g244:=mkG 244 i244 o244
noncomputable def m244 (y:PTup i244):R244:=
  let a0:=y.1;let a1:=a0.1;let a2:=a0.2;let a3:=a2.1;let a4:=a2.2;let a5:=a4.1;let a6:=a4.2;let a7:=a6.1;let a8:=a6.2;let a9:=a8.1;let a10:=a8.2;let a11:=a10.1;let X0:R244:=bif (eqI (Int.tmod a1 16) (15:Int))then (bif (ltI 0 a9)then (some ((((wI (a1+1)),(a3,(a3,((wI ((1:Int)-a7)),a8)))),((wI ((8:Int)*(wI ((1:Int)-a7)))),((eqI (Int.tmod a1 16) (15:Int)),()))),()))else some ((((wI (a1+1)),(a3,(a3,((wI ((1:Int)-a7)),a8)))),((0:Int),((eqI (Int.tmod a1 16) (15:Int)),()))),()))else some ((((wI (a1+1)),(a3,(a3,((wI ((1:Int)-a7)),a8)))),((0:Int),((eqI (Int.tmod a1 16) (15:Int)),()))),());let X1:R244:=bif (eqI (Int.tmod a1 16) (15:Int))then (bif (ltI 0 a9)then (some ((((wI (a1+1)),(a3,((wI (a5-1)),a6))),((wI ((8:Int)*a7)),((eqI (Int.tmod a1 16) (15:Int)),()))),()))else some ((((wI (a1+1)),(a3,((wI (a5-1)),a6))),((0:Int),((eqI (Int.tmod a1 16) (15:Int)),()))),()))else some ((((wI (a1+1)),(a3,((wI (a5-1)),a6))),((0:Int),((eqI (Int.tmod a1 16) (15:Int)),()))),());let X2:R244:=bif (eqI (Int.tmod a1 16) (15:Int))then (bif (ltI 0 a9)then (some ((((wI (a1+1)),(a3,(a3,a6))),((wI ((8:Int)*a7)),((eqI (Int.tmod a1 16) (15:Int)),()))),()))else some ((((wI (a1+1)),(a3,(a3,a6))),((0:Int),((eqI (Int.tmod a1 16) (15:Int)),()))),()))else some ((((wI (a1+1)),(a3,(a3,a6))),((0:Int),((eqI (Int.tmod a1 16) (15:Int)),()))),());let X3:R244:=some ((((wI (a1+1)),(a3,((wI (a5-1)),(a7,((wI (a9-1)),(a11,(a11,()))))))),((0:Int),((eqI (Int.tmod a1 16) (15:Int)),()))),());let X4:R244:=some ((((wI (a1+1)),(a3,(a3,((wI ((1:Int)-a7)),((wI (a9-1)),(a11,(a11,()))))))),((0:Int),((eqI (Int.tmod a1 16) (15:Int)),()))),());let X5:R244:=some ((((wI (a1+1)),(a3,((wI (a5-1)),(a7,((wI (a9-1)),(a11,(false,()))))))),((0:Int),((eqI (Int.tmod a1 16) (15:Int)),()))),());let X6:R244:=some ((((wI (a1+1)),(a3,((wI (a5-1)),(a7,((wI (a9-1)),(a11,(true,()))))))),((0:Int),((eqI (Int.tmod a1 16) (15:Int)),()))),());let X7:R244:=some ((((wI (a1+1)),(a3,(a3,((wI ((1:Int)-a7)),((wI (a9-1)),(a11,(false,()))))))),((0:Int),((eqI (Int.tmod a1 16) (15:Int)),()))),());let X8:R244:=some ((((wI (a1+1)),(a3,(a3,((wI ((1:Int)-a7)),((wI (a9-1)),(a11,(true,()))))))),((0:Int),((eqI (Int.tmod a1 16) (15:Int)),()))),());let X9:R244:=some ((((wI (a1+1)),(a3,(a3,(a7,((wI (a9-1)),(a11,(a11,()))))))),((0:Int),((eqI (Int.tmod a1 16) (15:Int)),()))),());let X10:R244:=some ((((wI (a1+1)),(a3,(a3,(a7,((wI (a9-1)),(a11,(false,()))))))),((0:Int),((eqI (Int.tmod a1 16) (15:Int)),()))),());let X11:R244:=some ((((wI (a1+1)),(a3,(a3,(a7,((wI (a9-1)),(a11,(true,()))))))),((0:Int),((eqI (Int.tmod a1 16) (15:Int)),()))),());bif (eqI a1 20000)then (some ((a0,((0:Int),(false,()))),()))else bif (eqI a5 0)then (bif (ltI 0 a9)then (bif (eqI (Int.tmod a1 32) (0:Int))then (bif (ltI 0 a9)then (bif a10.2.1 then (bif (eqI (Int.tmod a1 16) (15:Int))then (bif (ltI 0 (wI (a9-1)))then (some ((((wI (a1+1)),(a3,(a3,((wI ((1:Int)-a7)),((wI (a9-1)),(a11,(true,()))))))),((wI ((8:Int)*(wI ((1:Int)-a7)))),((eqI (Int.tmod a1 16) (15:Int)),()))),()))else X8)else X8)else bif (eqI (wI (a9-1)) (0:Int))then (bif (eqI (Int.tmod a1 16) (15:Int))then (bif (ltI 0 (wI (a9-1)))then (some ((((wI (a1+1)),(a3,(a3,((wI ((1:Int)-a7)),((wI (a9-1)),(a11,(a11,()))))))),((wI ((8:Int)*(wI ((1:Int)-a7)))),((eqI (Int.tmod a1 16) (15:Int)),()))),()))else X4)else X4)else bif (eqI (Int.tmod a1 16) (15:Int))then (bif (ltI 0 (wI (a9-1)))then (some ((((wI (a1+1)),(a3,(a3,((wI ((1:Int)-a7)),((wI (a9-1)),(a11,(false,()))))))),((wI ((8:Int)*(wI ((1:Int)-a7)))),((eqI (Int.tmod a1 16) (15:Int)),()))),()))else X7)else X7)else X0)else X0)else bif (eqI (Int.tmod a1 32) (0:Int))then (bif (ltI 0 a9)then (bif a10.2.1 then (bif (eqI (Int.tmod a1 16) (15:Int))then (bif (ltI 0 (wI (a9-1)))then (some ((((wI (a1+1)),(a3,(a3,(a7,((wI (a9-1)),(a11,(true,()))))))),((wI ((8:Int)*a7)),((eqI (Int.tmod a1 16) (15:Int)),()))),()))else X11)else X11)else bif (eqI (wI (a9-1)) (0:Int))then (bif (eqI (Int.tmod a1 16) (15:Int))then (bif (ltI 0 (wI (a9-1)))then (some ((((wI (a1+1)),(a3,(a3,(a7,((wI (a9-1)),(a11,(a11,()))))))),((wI ((8:Int)*a7)),((eqI (Int.tmod a1 16) (15:Int)),()))),()))else X9)else X9)else bif (eqI (Int.tmod a1 16) (15:Int))then (bif (ltI 0 (wI (a9-1)))then (some ((((wI (a1+1)),(a3,(a3,(a7,((wI (a9-1)),(a11,(false,()))))))),((wI ((8:Int)*a7)),((eqI (Int.tmod a1 16) (15:Int)),()))),()))else X10)else X10)else X2)else X2)else bif (eqI (Int.tmod a1 32) (0:Int))then (bif (ltI 0 a9)then (bif a10.2.1 then (bif (eqI (Int.tmod a1 16) (15:Int))then (bif (ltI 0 (wI (a9-1)))then (some ((((wI (a1+1)),(a3,((wI (a5-1)),(a7,((wI (a9-1)),(a11,(true,()))))))),((wI ((8:Int)*a7)),((eqI (Int.tmod a1 16) (15:Int)),()))),()))else X6)else X6)else bif (eqI (wI (a9-1)) (0:Int))then (bif (eqI (Int.tmod a1 16) (15:Int))then (bif (ltI 0 (wI (a9-1)))then (some ((((wI (a1+1)),(a3,((wI (a5-1)),(a7,((wI (a9-1)),(a11,(a11,()))))))),((wI ((8:Int)*a7)),((eqI (Int.tmod a1 16) (15:Int)),()))),()))else X3)else X3)else bif (eqI (Int.tmod a1 16) (15:Int))then (bif (ltI 0 (wI (a9-1)))then (some ((((wI (a1+1)),(a3,((wI (a5-1)),(a7,((wI (a9-1)),(a11,(false,()))))))),((wI ((8:Int)*a7)),((eqI (Int.tmod a1 16) (15:Int)),()))),()))else X5)else X5)else X1)else X1
theorem s244 (y):TE [] Tryz.f244 i244 o244 y=m244 y:=by kernel_rfl
noncomputable def r244:F244:=m244
theorem k244:KO (g244 r244):=fk (s244) trivial (by kernel_rfl)
abbrev i140:Ts:=[.v (.int .i64), .v (.int .i64), .v (.int .i64)]
abbrev o140:Ts:=[.v (.bool)]
abbrev F140:=FT i140 o140
abbrev g140:=mkG 140 i140 o140
noncomputable def m140 (y:PTup i140):Option (PTup o140×BTup i140):=
  bif (leI y.2.1 y.1)then (some (((leI y.1 y.2.2.1),()),()))
  else no
theorem s140 (y):TE [] Tryz.f140 i140 o140 y=m140 y:=by kernel_rfl
noncomputable def r140:F140:=m140
theorem k140:KO (g140 r140):=fk (s140) trivial (by kernel_rfl)
abbrev i138:Ts:=[.v (.int .i64)]
abbrev o138:Ts:=[.v (.bool)]
abbrev F138:=FT i138 o138
abbrev g138:=mkG 138 i138 o138
noncomputable def m138 (c140:F140) (y:PTup i138):Option (PTup o138×BTup i138):=
  (c140 (y.1,((0:Int),((255:Int),())))).bind fun r0=>
  some (r0.1,())
theorem s138 (c140:F140) (y):TE [g140 c140] Tryz.f138 i138 o138 y=m138 c140 y:=by kernel_rfl
noncomputable def r138:F138:=m138 r140
theorem k138:KO (g138 r138):=fk (s138 r140) ⟨k140,⟨⟩⟩ (by kernel_rfl)
abbrev i200:Ts:=[.v (.sl false .i)]
abbrev o200:Ts:=[.v (.bool)]
abbrev F200:=FT i200 o200
abbrev g200:=mkG 200 i200 o200
abbrev lc200_0:Ts:=[.v (.sl false .i), .v (.int .i64)]
abbrev lb200_0:Ts:=[]
abbrev lv200_0:Ts:=[.v (.int .i64)]
abbrev lr200_0:Ts:=[.v (.bool)]
abbrev R200_0:=Option (Sum (PTup lv200_0) (PTup lr200_0)×BTup lb200_0)
abbrev B200_0:=PTup lb200_0→PTup lv200_0→R200_0
abbrev A200_0:=PTup lc200_0→B200_0
noncomputable def w200_0 (c138:F138) (again:B200_0) (x:PTup lc200_0) (y:PTup lb200_0) (z:PTup lv200_0):R200_0:=
  bif (ltI z.1 x.2.1)then (bif (leI 0 z.1)then (bif (ltI z.1 (lenI x.1))then ((c138 ((rdE .i x.1 z.1),())).bind fun r0=>
     bif (!r0.1.1)then (some ((Sum.inr (false,())),()))
     else again () ((wI (z.1+1)),()))
    else none)
   else none)
  else some ((Sum.inl z),())
noncomputable def e200_0 (l:A200_0):LoopE:=⟨[5,6],lc200_0,[],lb200_0,[7],lv200_0,[2],lr200_0,0,[],l⟩
noncomputable def m200 (c138:F138) (l0:A200_0) (y:PTup i200):Option (PTup o200×BTup i200):=
  (l0 (y.1,((lenI y.1),())) () ((0:Int),())).bind fun r0=>
  sumElim r0.1 (fun r1=>some ((true,()),()))
  (fun r1=>some (r1,()))
noncomputable def E200 (c138:F138) (l0:A200_0):CEnv:=⟨⟨Tryz.prog,fnsL [g138 c138]⟩,loopsL [(2,e200_0 l0)]⟩
theorem t200_0 (c138:F138) (l0:A200_0) (again) (x y z):loopRound (E200 c138 l0) (loopAt (bodyOf Tryz.f200) 0) (e200_0 l0) Tryz.f200.ntmps again x y z=w200_0 c138 again x y z:=by kernel_rfl
noncomputable def n200_0 (c138:F138):Nat→A200_0
  |0,_,_,_=>none
  |n+1,x,y,z=>w200_0 c138 (fun y z=>n200_0 c138 n x y z) x y z
theorem s200 (c138:F138) (l0:A200_0) (y):tevF (E200 c138 l0) Tryz.f200 i200 o200 y=m200 c138 l0 y:=by kernel_rfl
noncomputable def L200_0:A200_0:=n200_0 r138 fuel
noncomputable def r200:F200:=m200 r138 L200_0
theorem k200:KO (g200 r200):=by
  have hE: ∀g f,(E200 r138 L200_0).env.fns g=some f→CallOk Tryz.prog g f:=fnsL_ok ⟨k138,⟨⟩⟩
  have h0:LoopOk Tryz.prog Tryz.f200.ntmps (loopAt (bodyOf Tryz.f200) 0) (e200_0 L200_0):=lp_ok (E:=E200 r138 L200_0) rfl hE mixed (AllLoops.of_list (l:=[]) (by kernel_rfl) trivial) (n200_0 r138) (fun _ _ _=>rfl) (fun n x y z=>t200_0 r138 L200_0 _ x y z) rfl
  exact fn_ok (E:=E200 r138 L200_0) rfl hE mixed (by kernel_rfl) (by kernel_rfl) (AllLoops.of_list (l:=[(loopAt (bodyOf Tryz.f200) 0)]) (by kernel_rfl) (.one (by kernel_rfl) h0 trivial)) (s200 r138 L200_0)
abbrev i199:Ts:=[.a q0]
abbrev o199:Ts:=[.v (.bool)]
abbrev F199:=FT i199 o199
abbrev g199:=mkG 199 i199 o199
abbrev lc199_0:Ts:=[.v (.sl false .n), .v (.int .i64)]
abbrev lb199_0:Ts:=[]
abbrev lv199_0:Ts:=[.v (.int .i64)]
abbrev lr199_0:Ts:=[.v (.bool)]
abbrev R199_0:=Option (Sum (PTup lv199_0) (PTup lr199_0)×BTup lb199_0)
abbrev B199_0:=PTup lb199_0→PTup lv199_0→R199_0
abbrev A199_0:=PTup lc199_0→B199_0
noncomputable def w199_0 (c200:F200) (c140:F140) (again:B199_0) (x:PTup lc199_0) (y:PTup lb199_0) (z:PTup lv199_0):R199_0:=
  bif (ltI z.1 x.2.1)then (bif (leI 0 z.1)then (bif (ltI z.1 (lenI x.1))then (bif (neI (lenI (rdE .n x.1 z.1)) (256:Int))then (some ((Sum.inr (false,())),()))
     else (c200 ((rdE .n x.1 z.1),())).bind fun r0=>
     bif (!r0.1.1)then (some ((Sum.inr (false,())),()))
     else again () ((wI (z.1+1)),()))
    else none)
   else none)
  else some ((Sum.inl z),())
noncomputable def e199_0 (l:A199_0):LoopE:=⟨[6,7],lc199_0,[],lb199_0,[8],lv199_0,[2],lr199_0,0,[],l⟩
noncomputable def m199 (c200:F200) (c140:F140) (l0:A199_0) (y:PTup i199):Option (PTup o199×BTup i199):=
  (l0 (y.1.1,((lenI y.1.1),())) () ((0:Int),())).bind fun r0=>
  sumElim r0.1 (fun r1=>(c140 ((lenI y.1.1),((1:Int),((8:Int),())))).bind fun r2=>
   some (r2.1,()))
  (fun r1=>some (r1,()))
noncomputable def E199 (c200:F200) (c140:F140) (l0:A199_0):CEnv:=⟨⟨Tryz.prog,fnsL [g200 c200,g140 c140]⟩,loopsL [(2,e199_0 l0)]⟩
theorem t199_0 (c200:F200) (c140:F140) (l0:A199_0) (again) (x y z):loopRound (E199 c200 c140 l0) (loopAt (bodyOf Tryz.f199) 0) (e199_0 l0) Tryz.f199.ntmps again x y z=w199_0 c200 c140 again x y z:=by kernel_rfl
noncomputable def n199_0 (c200:F200) (c140:F140):Nat→A199_0
  |0,_,_,_=>none
  |n+1,x,y,z=>w199_0 c200 c140 (fun y z=>n199_0 c200 c140 n x y z) x y z
theorem s199 (c200:F200) (c140:F140) (l0:A199_0) (y):tevF (E199 c200 c140 l0) Tryz.f199 i199 o199 y=m199 c200 c140 l0 y:=by kernel_rfl
noncomputable def L199_0:A199_0:=n199_0 r200 r140 fuel
noncomputable def r199:F199:=m199 r200 r140 L199_0
theorem k199:KO (g199 r199):=by
  have hE: ∀g f,(E199 r200 r140 L199_0).env.fns g=some f→CallOk Tryz.prog g f:=fnsL_ok ⟨k200,k140,⟨⟩⟩
  have h0:LoopOk Tryz.prog Tryz.f199.ntmps (loopAt (bodyOf Tryz.f199) 0) (e199_0 L199_0):=lp_ok (E:=E199 r200 r140 L199_0) rfl hE mixed (AllLoops.of_list (l:=[]) (by kernel_rfl) trivial) (n199_0 r200 r140) (fun _ _ _=>rfl) (fun n x y z=>t199_0 r200 r140 L199_0 _ x y z) rfl
  exact fn_ok (E:=E199 r200 r140 L199_0) rfl hE mixed (by kernel_rfl) (by kernel_rfl) (AllLoops.of_list (l:=[(loopAt (bodyOf Tryz.f199) 0)]) (by kernel_rfl) (.one (by kernel_rfl) h0 trivial)) (s199 r200 r140 L199_0)
abbrev i133:Ts:=[.a q0, .a q1]
abbrev o133:Ts:=[.v (.bool)]
abbrev F133:=FT i133 o133
abbrev g133:=mkG 133 i133 o133
noncomputable def m133 (c199:F199) (c200:F200) (c140:F140) (y:PTup i133):Option (PTup o133×BTup i133):=
  (c199 (y.1,())).bind fun r0=>
  bif r0.1.1 then (bif (eqI (lenI y.2.1.1) 512)then ((c200 (y.2.1.1,())).bind fun r1=>
    bif r1.1.1 then ((c140 (y.2.1.2.1,((0:Int),((wI ((lenI y.1.1)-1)),())))).bind fun r2=>
     some (r2.1,()))
    else no)
   else no)
  else no
theorem s133 (c199:F199) (c200:F200) (c140:F140) (y):TE [g199 c199,g200 c200,g140 c140] Tryz.f133 i133 o133 y=m133 c199 c200 c140 y:=by kernel_rfl
noncomputable def r133:F133:=m133 r199 r200 r140
theorem k133:KO (g133 r133):=fk (s133 r199 r200 r140) ⟨k199,k200,k140,⟨⟩⟩ (by kernel_rfl)
abbrev i134:Ts:=[.v (.sl false .i)]
abbrev o134:Ts:=[.v (.bool)]
abbrev F134:=FT i134 o134
abbrev g134:=mkG 134 i134 o134
noncomputable def m134 (c200:F200) (y:PTup i134):Option (PTup o134×BTup i134):=
  bif (leI (lenI y.1) 20)then ((c200 y).bind fun r0=>
   some (r0.1,()))
  else no
theorem s134 (c200:F200) (y):TE [g200 c200] Tryz.f134 i134 o134 y=m134 c200 y:=by kernel_rfl
noncomputable def r134:F134:=m134 r200
theorem k134:KO (g134 r134):=fk (s134 r200) ⟨k200,⟨⟩⟩ (by kernel_rfl)
abbrev i135:Ts:=[.a q2]
abbrev o135:Ts:=[.v (.bool)]
abbrev F135:=FT i135 o135
abbrev g135:=mkG 135 i135 o135
noncomputable def m135 (c138:F138) (c140:F140) (y:PTup i135):Option (PTup o135×BTup i135):=
  (c138 (y.1.1,())).bind fun r0=>
  bif r0.1.1 then ((c138 (y.1.2.1,())).bind fun r1=>
   bif r1.1.1 then ((c138 (y.1.2.2.1,())).bind fun r2=>
    bif r2.1.1 then ((c140 (y.1.2.2.2.1,((0:Int),((65535:Int),())))).bind fun r3=>
     some (r3.1,()))
    else no)
   else no)
  else no
theorem s135 (c138:F138) (c140:F140) (y):TE [g138 c138,g140 c140] Tryz.f135 i135 o135 y=m135 c138 c140 y:=by kernel_rfl
noncomputable def r135:F135:=m135 r138 r140
theorem k135:KO (g135 r135):=fk (s135 r138 r140) ⟨k138,k140,⟨⟩⟩ (by kernel_rfl)
abbrev i139:Ts:=[.v (.int .i64)]
abbrev o139:Ts:=[.v (.bool)]
abbrev F139:=FT i139 o139
abbrev g139:=mkG 139 i139 o139
noncomputable def m139 (c140:F140) (y:PTup i139):Option (PTup o139×BTup i139):=
  (c140 (y.1,((0:Int),((20000:Int),())))).bind fun r0=>
  some (r0.1,())
theorem s139 (c140:F140) (y):TE [g140 c140] Tryz.f139 i139 o139 y=m139 c140 y:=by kernel_rfl
noncomputable def r139:F139:=m139 r140
theorem k139:KO (g139 r139):=fk (s139 r140) ⟨k140,⟨⟩⟩ (by kernel_rfl)
abbrev i221:Ts:=[.v (.sl false .i)]
abbrev o221:Ts:=[.v (.bool)]
abbrev F221:=FT i221 o221
abbrev g221:=mkG 221 i221 o221
abbrev lc221_0:Ts:=[.v (.sl false .i), .v (.int .i64)]
abbrev lb221_0:Ts:=[]
abbrev lv221_0:Ts:=[.v (.int .i64)]
abbrev lr221_0:Ts:=[.v (.bool)]
abbrev R221_0:=Option (Sum (PTup lv221_0) (PTup lr221_0)×BTup lb221_0)
abbrev B221_0:=PTup lb221_0→PTup lv221_0→R221_0
abbrev A221_0:=PTup lc221_0→B221_0
noncomputable def w221_0 (c140:F140) (again:B221_0) (x:PTup lc221_0) (y:PTup lb221_0) (z:PTup lv221_0):R221_0:=
  bif (ltI z.1 x.2.1)then (bif (leI 0 z.1)then (bif (ltI z.1 (lenI x.1))then ((c140 ((rdE .i x.1 z.1),((0:Int),((63:Int),())))).bind fun r0=>
     bif (!r0.1.1)then (some ((Sum.inr (false,())),()))
     else again () ((wI (z.1+1)),()))
    else none)
   else none)
  else some ((Sum.inl z),())
noncomputable def e221_0 (l:A221_0):LoopE:=⟨[5,6],lc221_0,[],lb221_0,[7],lv221_0,[2],lr221_0,0,[],l⟩
noncomputable def m221 (c140:F140) (l0:A221_0) (y:PTup i221):Option (PTup o221×BTup i221):=
  (l0 (y.1,((lenI y.1),())) () ((0:Int),())).bind fun r0=>
  sumElim r0.1 (fun r1=>some ((true,()),()))
  (fun r1=>some (r1,()))
noncomputable def E221 (c140:F140) (l0:A221_0):CEnv:=⟨⟨Tryz.prog,fnsL [g140 c140]⟩,loopsL [(2,e221_0 l0)]⟩
theorem t221_0 (c140:F140) (l0:A221_0) (again) (x y z):loopRound (E221 c140 l0) (loopAt (bodyOf Tryz.f221) 0) (e221_0 l0) Tryz.f221.ntmps again x y z=w221_0 c140 again x y z:=by kernel_rfl
noncomputable def n221_0 (c140:F140):Nat→A221_0
  |0,_,_,_=>none
  |n+1,x,y,z=>w221_0 c140 (fun y z=>n221_0 c140 n x y z) x y z
theorem s221 (c140:F140) (l0:A221_0) (y):tevF (E221 c140 l0) Tryz.f221 i221 o221 y=m221 c140 l0 y:=by kernel_rfl
noncomputable def L221_0:A221_0:=n221_0 r140 fuel
noncomputable def r221:F221:=m221 r140 L221_0
theorem k221:KO (g221 r221):=by
  have hE: ∀g f,(E221 r140 L221_0).env.fns g=some f→CallOk Tryz.prog g f:=fnsL_ok ⟨k140,⟨⟩⟩
  have h0:LoopOk Tryz.prog Tryz.f221.ntmps (loopAt (bodyOf Tryz.f221) 0) (e221_0 L221_0):=lp_ok (E:=E221 r140 L221_0) rfl hE mixed (AllLoops.of_list (l:=[]) (by kernel_rfl) trivial) (n221_0 r140) (fun _ _ _=>rfl) (fun n x y z=>t221_0 r140 L221_0 _ x y z) rfl
  exact fn_ok (E:=E221 r140 L221_0) rfl hE mixed (by kernel_rfl) (by kernel_rfl) (AllLoops.of_list (l:=[(loopAt (bodyOf Tryz.f221) 0)]) (by kernel_rfl) (.one (by kernel_rfl) h0 trivial)) (s221 r140 L221_0)
abbrev i149:Ts:=[.a q3]
abbrev o149:Ts:=[.v (.bool)]
abbrev F149:=FT i149 o149
abbrev g149:=mkG 149 i149 o149
noncomputable def m149 (c221:F221) (c138:F138) (c139:F139) (c140:F140) (y:PTup i149):Option (PTup o149×BTup i149):=
  (c139 (y.1.1,())).bind fun r0=>
  bif (!r0.1.1)then no
  else (c138 (y.1.2.1,())).bind fun r1=>
  bif (!r1.1.1)then no
  else (c138 (y.1.2.2.1,())).bind fun r2=>
  bif (!r2.1.1)then no
  else (c140 (y.1.2.2.2.1,((0:Int),((15:Int),())))).bind fun r3=>
  bif (!r3.1.1)then no
  else (c140 (y.1.2.2.2.2.1,((0:Int),((63:Int),())))).bind fun r4=>
  bif (!r4.1.1)then no
  else bif (ltI 48 (Int.tmod y.1.1 64))then (bif (eqI (lenI y.1.2.2.2.2.2.2.1) 16)then ((c221 (y.1.2.2.2.2.2.2.1,())).bind fun r5=>
    bif r5.1.1 then (bif (eqI (lenI y.1.2.2.2.2.2.2.2.1) 0)then ((c221 y.1.2.2.2.2.2.2.2).bind fun r6=>
      some (r6.1,()))
     else no)
    else no)
   else no)
  else bif (eqI (lenI y.1.2.2.2.2.2.2.1) 16)then ((c221 (y.1.2.2.2.2.2.2.1,())).bind fun r5=>
   bif r5.1.1 then (bif (eqI (lenI y.1.2.2.2.2.2.2.2.1) (Int.tmod y.1.1 64))then ((c221 y.1.2.2.2.2.2.2.2).bind fun r6=>
     some (r6.1,()))
    else no)
   else no)
  else no
theorem s149 (c221:F221) (c138:F138) (c139:F139) (c140:F140) (y):TE [g221 c221,g138 c138,g139 c139,g140 c140] Tryz.f149 i149 o149 y=m149 c221 c138 c139 c140 y:=by kernel_rfl
noncomputable def r149:F149:=m149 r221 r138 r139 r140
theorem k149:KO (g149 r149):=fk (s149 r221 r138 r139 r140) ⟨k221,k138,k139,k140,⟨⟩⟩ (by kernel_rfl)
abbrev i262:Ts:=[.a q4]
abbrev o262:Ts:=[.v (.bool)]
abbrev R262:=Option (PTup o262×BTup i262)
abbrev F262:=PTup i262→R262
abbrev g262:=mkG 262 i262 o262
abbrev lc262_0:Ts:=[.v (.sl false .t), .v (.int .i64)]
abbrev lb262_0:Ts:=[.p q4]
abbrev lv262_0:Ts:=[.v (.int .i64)]
abbrev lr262_0:Ts:=[.v (.bool)]
abbrev R262_0:=Option (Sum (PTup lv262_0) (PTup lr262_0)×BTup lb262_0)
abbrev B262_0:=PTup lb262_0→PTup lv262_0→R262_0
abbrev A262_0:=PTup lc262_0→B262_0
noncomputable def w262_0 (c138:F138) (c139:F139) (c140:F140) (again:B262_0) (x:PTup lc262_0) (y:PTup lb262_0) (z:PTup lv262_0):R262_0:=
  let X0:R262_0:=(c140 ((rdE .t x.1 z.1).2.1,((0:Int),((7:Int),())))).bind fun r1=>bif (!r1.1.1)then (some ((Sum.inr (false,())),(y.1,())))else (c138 ((rdE .t x.1 z.1).2.2,())).bind fun r2=>bif (!r2.1.1)then (some ((Sum.inr (false,())),(y.1,())))else again (y.1,()) ((wI (z.1+1)),());bif (ltI z.1 x.2.1)then (bif (leI 0 z.1)then (bif (ltI z.1 (lenI x.1))then ((c139 ((rdE .t x.1 z.1).1,())).bind fun r0=>bif (!r0.1.1)then (some ((Sum.inr (false,())),(y.1,())))else bif (ltI 0 z.1)then (bif (leI 0 (wI (z.1-1)))then (bif (ltI (wI (z.1-1)) (lenI y.1.2.1))then (bif (ltI (rdE .t x.1 z.1).1 (rdE .t y.1.2.1 (wI (z.1-1))).1)then (some ((Sum.inr (false,())),(y.1,())))else X0)else none)else none)else X0)else none)else none)else some ((Sum.inl z),(y.1,()))
noncomputable def e262_0 (l:A262_0):LoopE:=⟨[6,7],lc262_0,[1],lb262_0,[8],lv262_0,[2],lr262_0,0,[],l⟩
noncomputable def m262 (c138:F138) (c139:F139) (c140:F140) (l0:A262_0) (y:PTup i262):R262:=
  (l0 (y.1.2.1,((lenI y.1.2.1),())) (y.1,()) ((0:Int),())).bind fun r0=>
  sumElim r0.1 (fun r1=>(c140 (r0.2.1.1,((1:Int),((16:Int),())))).bind fun r2=>
   bif r2.1.1 then (some (((leI (lenI y.1.2.1) r0.2.1.1),()),()))
   else no)
  (fun r1=>some (r1,()))
noncomputable def E262 (c138:F138) (c139:F139) (c140:F140) (l0:A262_0):CEnv:=⟨⟨Tryz.prog,fnsL [g138 c138,g139 c139,g140 c140]⟩,loopsL [(2,e262_0 l0)]⟩
theorem t262_0 (c138:F138) (c139:F139) (c140:F140) (l0:A262_0) (again) (x y z):loopRound (E262 c138 c139 c140 l0) (loopAt (bodyOf Tryz.f262) 0) (e262_0 l0) Tryz.f262.ntmps again x y z=w262_0 c138 c139 c140 again x y z:=by kernel_rfl
noncomputable def n262_0 (c138:F138) (c139:F139) (c140:F140):Nat→A262_0
  |0,_,_,_=>none
  |n+1,x,y,z=>w262_0 c138 c139 c140 (fun y z=>n262_0 c138 c139 c140 n x y z) x y z
theorem s262 (c138:F138) (c139:F139) (c140:F140) (l0:A262_0) (y):tevF (E262 c138 c139 c140 l0) Tryz.f262 i262 o262 y=m262 c138 c139 c140 l0 y:=by kernel_rfl
noncomputable def L262_0:A262_0:=n262_0 r138 r139 r140 fuel
noncomputable def r262:F262:=m262 r138 r139 r140 L262_0
theorem k262:KO (g262 r262):=by
  have hE: ∀g f,(E262 r138 r139 r140 L262_0).env.fns g=some f→CallOk Tryz.prog g f:=fnsL_ok ⟨k138,k139,k140,⟨⟩⟩
  have h0:LoopOk Tryz.prog Tryz.f262.ntmps (loopAt (bodyOf Tryz.f262) 0) (e262_0 L262_0):=lp_ok (E:=E262 r138 r139 r140 L262_0) rfl hE mixed (AllLoops.of_list (l:=[]) (by kernel_rfl) trivial) (n262_0 r138 r139 r140) (fun _ _ _=>rfl) (fun n x y z=>t262_0 r138 r139 r140 L262_0 _ x y z) rfl
  exact fn_ok (E:=E262 r138 r139 r140 L262_0) rfl hE mixed (by kernel_rfl) (by kernel_rfl) (AllLoops.of_list (l:=[(loopAt (bodyOf Tryz.f262) 0)]) (by kernel_rfl) (.one (by kernel_rfl) h0 trivial)) (s262 r138 r139 r140 L262_0)
abbrev i201:Ts:=[.a q4, .v (.int .i64)]
abbrev o201:Ts:=[.v (.bool)]
abbrev F201:=FT i201 o201
abbrev g201:=mkG 201 i201 o201
noncomputable def m201 (c262:F262) (y:PTup i201):Option (PTup o201×BTup i201):=
  (c262 (y.1,())).bind fun r0=>
  bif r0.1.1 then (bif (eqI (lenI y.1.2.1) 0)then (some ((true,()),()))
   else bif (ltI 0 (lenI y.1.2.1))then (some (((leI y.2.1 (rdE .t y.1.2.1 (0:Int)).1),()),()))
   else none)
  else no
theorem s201 (c262:F262) (y):TE [g262 c262] Tryz.f201 i201 o201 y=m201 c262 y:=by kernel_rfl
noncomputable def r201:F201:=m201 r262
theorem k201:KO (g201 r201):=fk (s201 r262) ⟨k262,⟨⟩⟩ (by kernel_rfl)
abbrev i222:Ts:=[.v (.int .i64), .v (.int .i64), .v (.int .i64)]
abbrev o222:Ts:=[.v (.int .i64)]
abbrev F222:=FT i222 o222
abbrev g222:=mkG 222 i222 o222
noncomputable def m222 (y:PTup i222):Option (PTup o222×BTup i222):=
  bif (neI y.2.2.1 0)then (some (((wI (Int.tdiv (wI ((wI ((wI (y.1+y.2.2.1))-1))-y.2.1)) y.2.2.1)),()),()))
  else none
theorem s222 (y):TE [] Tryz.f222 i222 o222 y=m222 y:=by kernel_rfl
noncomputable def r222:F222:=m222
theorem k222:KO (g222 r222):=fk (s222) trivial (by kernel_rfl)
abbrev i151:Ts:=[.v (.sl false .n), .v (.int .i64)]
abbrev o151:Ts:=[.v (.bool)]
abbrev F151:=FT i151 o151
abbrev g151:=mkG 151 i151 o151
abbrev lc151_0:Ts:=[.v (.sl false .n), .v (.int .i64)]
abbrev lb151_0:Ts:=[]
abbrev lv151_0:Ts:=[.v (.int .i64)]
abbrev lr151_0:Ts:=[.v (.bool)]
abbrev R151_0:=Option (Sum (PTup lv151_0) (PTup lr151_0)×BTup lb151_0)
abbrev B151_0:=PTup lb151_0→PTup lv151_0→R151_0
abbrev A151_0:=PTup lc151_0→B151_0
noncomputable def w151_0 (c222:F222) (again:B151_0) (x:PTup lc151_0) (y:PTup lb151_0) (z:PTup lv151_0):R151_0:=
  bif (ltI z.1 x.2.1)then (bif (leI 0 z.1)then (bif (ltI z.1 (lenI x.1))then (bif (neI (lenI (rdE .n x.1 z.1)) (48:Int))then (some ((Sum.inr (false,())),()))
     else again () ((wI (z.1+1)),()))
    else none)
   else none)
  else some ((Sum.inl z),())
noncomputable def e151_0 (l:A151_0):LoopE:=⟨[7,8],lc151_0,[],lb151_0,[9],lv151_0,[4],lr151_0,0,[],l⟩
noncomputable def m151 (c222:F222) (l0:A151_0) (y:PTup i151):Option (PTup o151×BTup i151):=
  (l0 (y.1,((lenI y.1),())) () ((0:Int),())).bind fun r0=>
  sumElim r0.1 (fun r1=>(c222 (y.2.1,((48:Int),((64:Int),())))).bind fun r2=>
   some (((eqI (lenI y.1) r2.1.1),()),()))
  (fun r1=>some (r1,()))
noncomputable def E151 (c222:F222) (l0:A151_0):CEnv:=⟨⟨Tryz.prog,fnsL [g222 c222]⟩,loopsL [(2,e151_0 l0)]⟩
theorem t151_0 (c222:F222) (l0:A151_0) (again) (x y z):loopRound (E151 c222 l0) (loopAt (bodyOf Tryz.f151) 0) (e151_0 l0) Tryz.f151.ntmps again x y z=w151_0 c222 again x y z:=by kernel_rfl
noncomputable def n151_0 (c222:F222):Nat→A151_0
  |0,_,_,_=>none
  |n+1,x,y,z=>w151_0 c222 (fun y z=>n151_0 c222 n x y z) x y z
theorem s151 (c222:F222) (l0:A151_0) (y):tevF (E151 c222 l0) Tryz.f151 i151 o151 y=m151 c222 l0 y:=by kernel_rfl
noncomputable def L151_0:A151_0:=n151_0 r222 fuel
noncomputable def r151:F151:=m151 r222 L151_0
theorem k151:KO (g151 r151):=by
  have hE: ∀g f,(E151 r222 L151_0).env.fns g=some f→CallOk Tryz.prog g f:=fnsL_ok ⟨k222,⟨⟩⟩
  have h0:LoopOk Tryz.prog Tryz.f151.ntmps (loopAt (bodyOf Tryz.f151) 0) (e151_0 L151_0):=lp_ok (E:=E151 r222 L151_0) rfl hE mixed (AllLoops.of_list (l:=[]) (by kernel_rfl) trivial) (n151_0 r222) (fun _ _ _=>rfl) (fun n x y z=>t151_0 r222 L151_0 _ x y z) rfl
  exact fn_ok (E:=E151 r222 L151_0) rfl hE mixed (by kernel_rfl) (by kernel_rfl) (AllLoops.of_list (l:=[(loopAt (bodyOf Tryz.f151) 0)]) (by kernel_rfl) (.one (by kernel_rfl) h0 trivial)) (s151 r222 L151_0)
abbrev i136:Ts:=[.a q5]
abbrev o136:Ts:=[.v (.bool)]
abbrev F136:=FT i136 o136
abbrev g136:=mkG 136 i136 o136
noncomputable def m136 (c149:F149) (c151:F151) (c201:F201) (y:PTup i136):Option (PTup o136×BTup i136):=
  (c149 ((y.1.1,(y.1.2.1,(y.1.2.2.1,(y.1.2.2.2.1,(y.1.2.2.2.2.1,(y.1.2.2.2.2.2.1,(y.1.2.2.2.2.2.2.1,(y.1.2.2.2.2.2.2.2.1,())))))))),())).bind fun r0=>
  bif r0.1.1 then ((c201 ((y.1.2.2.2.2.2.2.2.2.1,(y.1.2.2.2.2.2.2.2.2.2.1,())),(y.1.1,()))).bind fun r1=>
   bif r1.1.1 then ((c151 (y.1.2.2.2.2.2.2.2.2.2.2.1,(y.1.1,()))).bind fun r2=>
    some (r2.1,()))
   else no)
  else no
theorem s136 (c149:F149) (c151:F151) (c201:F201) (y):TE [g149 c149,g151 c151,g201 c201] Tryz.f136 i136 o136 y=m136 c149 c151 c201 y:=by kernel_rfl
noncomputable def r136:F136:=m136 r149 r151 r201
theorem k136:KO (g136 r136):=fk (s136 r149 r151 r201) ⟨k149,k151,k201,⟨⟩⟩ (by kernel_rfl)
abbrev i150:Ts:=[.a q6]
abbrev o150:Ts:=[.v (.bool)]
abbrev F150:=FT i150 o150
abbrev g150:=mkG 150 i150 o150
noncomputable def m150 (c138:F138) (c139:F139) (c140:F140) (y:PTup i150):Option (PTup o150×BTup i150):=
  (c139 (y.1.1,())).bind fun r0=>
  bif r0.1.1 then ((c138 (y.1.2.1,())).bind fun r1=>
   bif r1.1.1 then ((c138 (y.1.2.2.1,())).bind fun r2=>
    bif r2.1.1 then ((c140 (y.1.2.2.2.1,((0:Int),((1:Int),())))).bind fun r3=>
     bif r3.1.1 then ((c140 (y.1.2.2.2.2.1,((0:Int),((31:Int),())))).bind fun r4=>
      some (r4.1,()))
     else no)
    else no)
   else no)
  else no
theorem s150 (c138:F138) (c139:F139) (c140:F140) (y):TE [g138 c138,g139 c139,g140 c140] Tryz.f150 i150 o150 y=m150 c138 c139 c140 y:=by kernel_rfl
noncomputable def r150:F150:=m150 r138 r139 r140
theorem k150:KO (g150 r150):=fk (s150 r138 r139 r140) ⟨k138,k139,k140,⟨⟩⟩ (by kernel_rfl)
abbrev i152:Ts:=[.v (.sl false .i), .v (.int .i64)]
abbrev o152:Ts:=[.v (.bool)]
abbrev F152:=FT i152 o152
abbrev g152:=mkG 152 i152 o152
noncomputable def m152 (c222:F222) (y:PTup i152):Option (PTup o152×BTup i152):=
  (c222 (y.2.1,((15:Int),((16:Int),())))).bind fun r0=>
  some (((eqI (lenI y.1) r0.1.1),()),())
theorem s152 (c222:F222) (y):TE [g222 c222] Tryz.f152 i152 o152 y=m152 c222 y:=by kernel_rfl
noncomputable def r152:F152:=m152 r222
theorem k152:KO (g152 r152):=fk (s152 r222) ⟨k222,⟨⟩⟩ (by kernel_rfl)
abbrev i137:Ts:=[.a q7]
abbrev o137:Ts:=[.v (.bool)]
abbrev F137:=FT i137 o137
abbrev g137:=mkG 137 i137 o137
noncomputable def m137 (c150:F150) (c201:F201) (c152:F152) (y:PTup i137):Option (PTup o137×BTup i137):=
  (c150 ((y.1.1,(y.1.2.1,(y.1.2.2.1,(y.1.2.2.2.1,(y.1.2.2.2.2.1,(y.1.2.2.2.2.2.1,(y.1.2.2.2.2.2.2.1,()))))))),())).bind fun r0=>
  bif r0.1.1 then ((c201 ((y.1.2.2.2.2.2.2.2.1,(y.1.2.2.2.2.2.2.2.2.1,())),(y.1.1,()))).bind fun r1=>
   bif r1.1.1 then ((c152 (y.1.2.2.2.2.2.2.2.2.2.1,(y.1.1,()))).bind fun r2=>
    some (r2.1,()))
   else no)
  else no
theorem s137 (c150:F150) (c201:F201) (c152:F152) (y):TE [g150 c150,g201 c201,g152 c152] Tryz.f137 i137 o137 y=m137 c150 c201 c152 y:=by kernel_rfl
noncomputable def r137:F137:=m137 r150 r201 r152
theorem k137:KO (g137 r137):=fk (s137 r150 r201 r152) ⟨k150,k201,k152,⟨⟩⟩ (by kernel_rfl)
abbrev i141:Ts:=[.a q4, .v (.int .i64)]
abbrev o141:Ts:=[.v (.bool)]
abbrev F141:=FT i141 o141
abbrev g141:=mkG 141 i141 o141
noncomputable def m141 (y:PTup i141):Option (PTup o141×BTup i141):=
  bif (eqI (lenI y.1.2.1) 0)then (some ((true,()),()))
  else bif (leI 0 (wI ((lenI y.1.2.1)-1)))then (bif (ltI (wI ((lenI y.1.2.1)-1)) (lenI y.1.2.1))then (some (((leI (rdE .t y.1.2.1 (wI ((lenI y.1.2.1)-1))).1 y.2.1),()),()))
   else none)
  else none
theorem s141 (y):TE [] Tryz.f141 i141 o141 y=m141 y:=by kernel_rfl
noncomputable def r141:F141:=m141
theorem k141:KO (g141 r141):=fk (s141) trivial (by kernel_rfl)
abbrev i34:Ts:=[.a q8]
abbrev o34:Ts:=[.v (.bool)]
abbrev R34:=Option (PTup o34×BTup i34)
abbrev F34:=PTup i34→R34
abbrev g34:=mkG 34 i34 o34
noncomputable def m34 (c135:F135) (c133:F133) (c134:F134) (c136:F136) (c137:F137) (c138:F138) (c139:F139) (c141:F141) (c140:F140) (y:PTup i34):R34:=
  let a0:=y.1;let a1:=a0.2;let a2:=a1.2;let a3:=a2.2;let a4:=a3.2;let a5:=a4.2;let a6:=a5.2;let a7:=a6.2;let a8:=a7.2;let a9:=a8.2;let a10:=a9.2;let a11:=a10.2;let a12:=a11.2;let a13:=a12.2;let a14:=a13.2;let a15:=a14.1;let a16:=a14.2;let a17:=a16.2;let a18:=a17.2;let a19:=a18.2;let a20:=a19.2;let a21:=a20.2;let a22:=a21.2;let a23:=a22.2;let a24:=a23.2;let a25:=a24.2;let a26:=a25.2;let a27:=a26.2;let a28:=a27.2;let a29:=a28.2;let a30:=a29.2.2;let a31:=a30.2.2.2.2.2.2.2.2.2;(c133 ((a0.1,()),((a2.1,(a3.1,())),()))).bind fun r0=>bif r0.1.1 then ((c134 (a1.1,())).bind fun r1=>bif r1.1.1 then ((c135 ((a4.1,(a5.1,(a6.1,(a7.1,(a8.1,(a9.1,(a10.1,(a11.1,())))))))),())).bind fun r2=>bif r2.1.1 then ((c136 ((a22.1,(a23.1,(a24.1,(a25.1,(a26.1,(a27.1,(a28.1,(a29.1,(a29.2.1,(a30.1,(a30.2.1,()))))))))))),())).bind fun r3=>bif r3.1.1 then ((c137 (a30.2.2,())).bind fun r4=>let X0:R34:=bif r4.1.1 then no else no;(c138 (a13.1,())).bind fun r5=>bif r5.1.1 then ((c138 (a17.1,())).bind fun r6=>bif r6.1.1 then ((c139 (a15,())).bind fun r7=>bif r7.1.1 then ((c140 (a19.1,((0:Int),(a15,())))).bind fun r8=>bif r8.1.1 then ((c140 (a20.1,((0:Int),(a15,())))).bind fun r9=>bif r4.1.1 then (bif r9.1.1 then (bif (leI a22.1 a15)then (bif (leI a30.2.2.1 a15)then ((c141 ((a29.2.1,(a30.1,())),(a15,()))).bind fun r10=>bif r10.1.1 then ((c141 ((a31.1,(a31.2.1,())),(a15,()))).bind fun r11=>some (r11.1,()))else no)else no)else no)else no)else no)else X0)else X0)else X0)else X0)else (c138 (a13.1,())).bind fun r4=>bif r4.1.1 then ((c138 (a17.1,())).bind fun r5=>bif r5.1.1 then ((c139 (a15,())).bind fun r6=>bif r6.1.1 then ((c140 (a19.1,((0:Int),(a15,())))).bind fun r7=>bif r7.1.1 then ((c140 (a20.1,((0:Int),(a15,())))).bind fun r8=>no)else no)else no)else no)else no)else (c138 (a13.1,())).bind fun r3=>bif r3.1.1 then ((c138 (a17.1,())).bind fun r4=>bif r4.1.1 then ((c139 (a15,())).bind fun r5=>bif r5.1.1 then ((c140 (a19.1,((0:Int),(a15,())))).bind fun r6=>bif r6.1.1 then ((c140 (a20.1,((0:Int),(a15,())))).bind fun r7=>no)else no)else no)else no)else no)else (c138 (a13.1,())).bind fun r2=>bif r2.1.1 then ((c138 (a17.1,())).bind fun r3=>bif r3.1.1 then ((c139 (a15,())).bind fun r4=>bif r4.1.1 then ((c140 (a19.1,((0:Int),(a15,())))).bind fun r5=>bif r5.1.1 then ((c140 (a20.1,((0:Int),(a15,())))).bind fun r6=>no)else no)else no)else no)else no)else (c138 (a13.1,())).bind fun r1=>bif r1.1.1 then ((c138 (a17.1,())).bind fun r2=>bif r2.1.1 then ((c139 (a15,())).bind fun r3=>bif r3.1.1 then ((c140 (a19.1,((0:Int),(a15,())))).bind fun r4=>bif r4.1.1 then ((c140 (a20.1,((0:Int),(a15,())))).bind fun r5=>no)else no)else no)else no)else no
theorem s34 (c135:F135) (c133:F133) (c134:F134) (c136:F136) (c137:F137) (c138:F138) (c139:F139) (c141:F141) (c140:F140) (y):TE [g135 c135,g133 c133,g134 c134,g136 c136,g137 c137,g138 c138,g139 c139,g141 c141,g140 c140] Tryz.f34 i34 o34 y=m34 c135 c133 c134 c136 c137 c138 c139 c141 c140 y:=by kernel_rfl
noncomputable def r34:F34:=m34 r135 r133 r134 r136 r137 r138 r139 r141 r140
theorem k34:KO (g34 r34):=fk (s34 r135 r133 r134 r136 r137 r138 r139 r141 r140) ⟨k135,k133,k134,k136,k137,k138,k139,k141,k140,⟨⟩⟩ (by kernel_rfl)
abbrev i117:Ts:=[.v (.sl false .i)]
abbrev o117:Ts:=[.v (.sl true .i)]
abbrev F117:=FT i117 o117
abbrev g117:=mkG 117 i117 o117
noncomputable def m117 (y:PTup i117):Option (PTup o117×BTup i117):=
  bif (leN (0+(List.length y.1)) (E.most .i))then (some ((([]++y.1),()),()))
  else none
theorem s117 (y):TE [] Tryz.f117 i117 o117 y=m117 y:=by kernel_rfl
noncomputable def r117:F117:=m117
theorem k117:KO (g117 r117):=fk (s117) trivial (by kernel_rfl)
abbrev i189:Ts:=[.a q0]
abbrev o189:Ts:=[.a [.sl true .n]]
abbrev F189:=FT i189 o189
abbrev g189:=mkG 189 i189 o189
abbrev lc189_0:Ts:=[.v (.sl false .n), .v (.int .i64)]
abbrev lb189_0:Ts:=[.p [.sl true .n]]
abbrev lv189_0:Ts:=[.v (.int .i64)]
abbrev lr189_0:Ts:=[]
abbrev R189_0:=Option (Sum (PTup lv189_0) (PTup lr189_0)×BTup lb189_0)
abbrev B189_0:=PTup lb189_0→PTup lv189_0→R189_0
abbrev A189_0:=PTup lc189_0→B189_0
noncomputable def w189_0 (c117:F117) (again:B189_0) (x:PTup lc189_0) (y:PTup lb189_0) (z:PTup lv189_0):R189_0:=
  bif (ltI z.1 x.2.1)then (bif (leI 0 z.1)then (bif (ltI z.1 (lenI x.1))then ((c117 ((rdE .n x.1 z.1),())).bind fun r0=>
     bif (leN ((List.length y.1.1)+(List.length (r0.1.1::[]))) (E.most .n))then (again (((y.1.1++(r0.1.1::[])),()),()) ((wI (z.1+1)),()))
     else none)
    else none)
   else none)
  else some ((Sum.inl z),(y.1,()))
noncomputable def e189_0 (l:A189_0):LoopE:=⟨[8,9],lc189_0,[3],lb189_0,[10],lv189_0,[],lr189_0,0,[],l⟩
noncomputable def m189 (c117:F117) (l0:A189_0) (y:PTup i189):Option (PTup o189×BTup i189):=
  (l0 (y.1.1,((lenI y.1.1),())) (([],()),()) ((0:Int),())).bind fun r0=>
  sumElim r0.1 (fun r1=>some ((r0.2.1,()),()))
  (fun r1=>some ((([],()),()),()))
noncomputable def E189 (c117:F117) (l0:A189_0):CEnv:=⟨⟨Tryz.prog,fnsL [g117 c117]⟩,loopsL [(3,e189_0 l0)]⟩
theorem t189_0 (c117:F117) (l0:A189_0) (again) (x y z):loopRound (E189 c117 l0) (loopAt (bodyOf Tryz.f189) 0) (e189_0 l0) Tryz.f189.ntmps again x y z=w189_0 c117 again x y z:=by kernel_rfl
noncomputable def n189_0 (c117:F117):Nat→A189_0
  |0,_,_,_=>none
  |n+1,x,y,z=>w189_0 c117 (fun y z=>n189_0 c117 n x y z) x y z
theorem s189 (c117:F117) (l0:A189_0) (y):tevF (E189 c117 l0) Tryz.f189 i189 o189 y=m189 c117 l0 y:=by kernel_rfl
noncomputable def L189_0:A189_0:=n189_0 r117 fuel
noncomputable def r189:F189:=m189 r117 L189_0
theorem k189:KO (g189 r189):=by
  have hE: ∀g f,(E189 r117 L189_0).env.fns g=some f→CallOk Tryz.prog g f:=fnsL_ok ⟨k117,⟨⟩⟩
  have h0:LoopOk Tryz.prog Tryz.f189.ntmps (loopAt (bodyOf Tryz.f189) 0) (e189_0 L189_0):=lp_ok (E:=E189 r117 L189_0) rfl hE mixed (AllLoops.of_list (l:=[]) (by kernel_rfl) trivial) (n189_0 r117) (fun _ _ _=>rfl) (fun n x y z=>t189_0 r117 L189_0 _ x y z) rfl
  exact fn_ok (E:=E189 r117 L189_0) rfl hE mixed (by kernel_rfl) (by kernel_rfl) (AllLoops.of_list (l:=[(loopAt (bodyOf Tryz.f189) 0)]) (by kernel_rfl) (.one (by kernel_rfl) h0 trivial)) (s189 r117 L189_0)
abbrev i190:Ts:=[.a q1]
abbrev o190:Ts:=[.a q9]
abbrev F190:=FT i190 o190
abbrev g190:=mkG 190 i190 o190
noncomputable def m190 (c117:F117) (y:PTup i190):Option (PTup o190×BTup i190):=
  (c117 (y.1.1,())).bind fun r0=>
  some (((r0.1.1,y.1.2),()),())
theorem s190 (c117:F117) (y):TE [g117 c117] Tryz.f190 i190 o190 y=m190 c117 y:=by kernel_rfl
noncomputable def r190:F190:=m190 r117
theorem k190:KO (g190 r190):=fk (s190 r117) ⟨k117,⟨⟩⟩ (by kernel_rfl)
abbrev i215:Ts:=[.a q3]
abbrev o215:Ts:=[.a q10]
abbrev F215:=FT i215 o215
abbrev g215:=mkG 215 i215 o215
noncomputable def m215 (c117:F117) (y:PTup i215):Option (PTup o215×BTup i215):=
  (c117 (y.1.2.2.2.2.2.2.1,())).bind fun r0=>
  (c117 y.1.2.2.2.2.2.2.2).bind fun r1=>
  some (((y.1.1,(y.1.2.1,(y.1.2.2.1,(y.1.2.2.2.1,(y.1.2.2.2.2.1,(y.1.2.2.2.2.2.1,(r0.1.1,r1.1))))))),()),())
theorem s215 (c117:F117) (y):TE [g117 c117] Tryz.f215 i215 o215 y=m215 c117 y:=by kernel_rfl
noncomputable def r215:F215:=m215 r117
theorem k215:KO (g215 r215):=fk (s215 r117) ⟨k117,⟨⟩⟩ (by kernel_rfl)
abbrev i116:Ts:=[.v (.sl false .n)]
abbrev o116:Ts:=[.v (.sl true .n)]
abbrev F116:=FT i116 o116
abbrev g116:=mkG 116 i116 o116
abbrev lc116_0:Ts:=[.v (.sl false .n), .v (.int .i64)]
abbrev lb116_0:Ts:=[]
abbrev lv116_0:Ts:=[.v (.sl true .n), .v (.int .i64)]
abbrev lr116_0:Ts:=[]
abbrev R116_0:=Option (Sum (PTup lv116_0) (PTup lr116_0)×BTup lb116_0)
abbrev B116_0:=PTup lb116_0→PTup lv116_0→R116_0
abbrev A116_0:=PTup lc116_0→B116_0
noncomputable def w116_0 (c117:F117) (again:B116_0) (x:PTup lc116_0) (y:PTup lb116_0) (z:PTup lv116_0):R116_0:=
  bif (ltI z.2.1 x.2.1)then (bif (leI 0 z.2.1)then (bif (ltI z.2.1 (lenI x.1))then ((c117 ((rdE .n x.1 z.2.1),())).bind fun r0=>
     bif (leN ((List.length z.1)+(List.length (r0.1.1::[]))) (E.most .n))then (again () ((z.1++(r0.1.1::[])),((wI (z.2.1+1)),())))
     else none)
    else none)
   else none)
  else some ((Sum.inl z),())
noncomputable def e116_0 (l:A116_0):LoopE:=⟨[7,8],lc116_0,[],lb116_0,[3,9],lv116_0,[],lr116_0,0,[],l⟩
noncomputable def m116 (c117:F117) (l0:A116_0) (y:PTup i116):Option (PTup o116×BTup i116):=
  (l0 (y.1,((lenI y.1),())) () ([],((0:Int),()))).bind fun r0=>
  sumElim r0.1 (fun r1=>some ((r1.1,()),()))
  (fun r1=>some (([],()),()))
noncomputable def E116 (c117:F117) (l0:A116_0):CEnv:=⟨⟨Tryz.prog,fnsL [g117 c117]⟩,loopsL [(3,e116_0 l0)]⟩
theorem t116_0 (c117:F117) (l0:A116_0) (again) (x y z):loopRound (E116 c117 l0) (loopAt (bodyOf Tryz.f116) 0) (e116_0 l0) Tryz.f116.ntmps again x y z=w116_0 c117 again x y z:=by kernel_rfl
noncomputable def n116_0 (c117:F117):Nat→A116_0
  |0,_,_,_=>none
  |n+1,x,y,z=>w116_0 c117 (fun y z=>n116_0 c117 n x y z) x y z
theorem s116 (c117:F117) (l0:A116_0) (y):tevF (E116 c117 l0) Tryz.f116 i116 o116 y=m116 c117 l0 y:=by kernel_rfl
noncomputable def L116_0:A116_0:=n116_0 r117 fuel
noncomputable def r116:F116:=m116 r117 L116_0
theorem k116:KO (g116 r116):=by
  have hE: ∀g f,(E116 r117 L116_0).env.fns g=some f→CallOk Tryz.prog g f:=fnsL_ok ⟨k117,⟨⟩⟩
  have h0:LoopOk Tryz.prog Tryz.f116.ntmps (loopAt (bodyOf Tryz.f116) 0) (e116_0 L116_0):=lp_ok (E:=E116 r117 L116_0) rfl hE mixed (AllLoops.of_list (l:=[]) (by kernel_rfl) trivial) (n116_0 r117) (fun _ _ _=>rfl) (fun n x y z=>t116_0 r117 L116_0 _ x y z) rfl
  exact fn_ok (E:=E116 r117 L116_0) rfl hE mixed (by kernel_rfl) (by kernel_rfl) (AllLoops.of_list (l:=[(loopAt (bodyOf Tryz.f116) 0)]) (by kernel_rfl) (.one (by kernel_rfl) h0 trivial)) (s116 r117 L116_0)
abbrev i20:Ts:=[.v (.sl false .b)]
abbrev o20:Ts:=[.v (.bool)]
abbrev F20:=FT i20 o20
abbrev g20:=mkG 20 i20 o20
noncomputable def m20 (y:PTup i20):Option (PTup o20×BTup i20):=
  some (((ltI 1048576 (lenI y.1)),()),())
theorem s20 (y):TE [] Tryz.f20 i20 o20 y=m20 y:=by kernel_rfl
noncomputable def r20:F20:=m20
theorem k20:KO (g20 r20):=fk (s20) trivial (by kernel_rfl)
abbrev i102:Ts:=[.v (.sl false .b)]
abbrev o102:Ts:=[.p q12]
abbrev F102:=FT i102 o102
abbrev g102 (c:F102):Nat×Tev.Fn:=(102,⟨i102,o102,c, .lnt⟩)
abbrev lc102_0:Ts:=[.v (.sl false .b)]
abbrev lb102_0:Ts:=[]
abbrev lv102_0:Ts:=[.v (.int .i64), .v (.int .i64)]
abbrev lr102_0:Ts:=[]
abbrev R102_0:=Option (Sum (PTup lv102_0) (PTup lr102_0)×BTup lb102_0)
abbrev B102_0:=PTup lb102_0→PTup lv102_0→R102_0
abbrev A102_0:=PTup lc102_0→B102_0
noncomputable def w102_0 (again:B102_0) (x:PTup lc102_0) (y:PTup lb102_0) (z:PTup lv102_0):R102_0:=
  bif (ltI z.2.1 (lenI x.1))then (bif (ltI z.2.1 4000)then (bif (leI 0 z.2.1)then (bif (ltI z.2.1 (lenI x.1))then (again () ((bAnd Go.IntKind.i64 (wI ((wI ((wI (z.1*131))+(wI (rdE .b x.1 z.2.1))))+7)) (1073741823:Int)),((wI (z.2.1+1)),())))
     else none)
    else none)
   else some ((Sum.inl z),()))
  else some ((Sum.inl z),())
noncomputable def e102_0 (l:A102_0):LoopE:=⟨[0],lc102_0,[],lb102_0,[3,4],lv102_0,[],lr102_0,0,[],l⟩
noncomputable def m102 (l0:A102_0) (y:PTup i102):Option (PTup o102×BTup i102):=
  (l0 y () ((wI ((18554:Int)+(lenI y.1))),((0:Int),()))).bind fun r0=>
  sumElim r0.1 (fun r1=>some (((y.1,((0:Int),(r1.1,()))),()),()))
  (fun r1=>none)
noncomputable def E102 (l0:A102_0):CEnv:=⟨⟨Tryz.prog,fnsL []⟩,loopsL [(3,e102_0 l0)]⟩
theorem t102_0 (l0:A102_0) (again) (x y z):loopRound (E102 l0) (loopAt (bodyOf Tryz.f102) 0) (e102_0 l0) Tryz.f102.ntmps again x y z=w102_0 again x y z:=by kernel_rfl
noncomputable def n102_0:Nat→A102_0
  |0,_,_,_=>none
  |n+1,x,y,z=>w102_0 (fun y z=>n102_0 n x y z) x y z
theorem s102 (l0:A102_0) (y):tevL (E102 l0) Tryz.f102 i102 o102 y=m102 l0 y:=by kernel_rfl
noncomputable def L102_0:A102_0:=n102_0 fuel
noncomputable def r102:F102:=m102 L102_0
theorem k102:KO (g102 r102):=by
  have hE: ∀g f,(E102 L102_0).env.fns g=some f→CallOk Tryz.prog g f:=fnsL_ok trivial
  have h0:LoopOk Tryz.prog Tryz.f102.ntmps (loopAt (bodyOf Tryz.f102) 0) (e102_0 L102_0):=lp_ok (E:=E102 L102_0) rfl hE mixed (AllLoops.of_list (l:=[]) (by kernel_rfl) trivial) (n102_0) (fun _ _ _=>rfl) (fun n x y z=>t102_0 L102_0 _ x y z) rfl
  exact fnL_ok (E:=E102 L102_0) rfl hE mixed (by kernel_rfl) (by kernel_rfl) (AllLoops.of_list (l:=[(loopAt (bodyOf Tryz.f102) 0)]) (by kernel_rfl) (.one (by kernel_rfl) h0 trivial)) (s102 L102_0)
abbrev i228:Ts:=[.p q12]
abbrev o228:Ts:=[.v (.int .i64)]
abbrev F228:=FT i228 o228
abbrev g228:=mkG 228 i228 o228
noncomputable def m228 (y:PTup i228):Option (PTup o228×BTup i228):=
  bif (ltI y.1.2.1 (lenI y.1.1))then (bif (leI 0 y.1.2.1)then (bif (ltI y.1.2.1 (lenI y.1.1))then (some (((bAnd Go.IntKind.i64 (wI ((bAnd Go.IntKind.i64 (bXor Go.IntKind.i64 (Int.fdiv (wI ((wI (y.1.2.2.1*6364136223846793005))+1442695040888963407)) ((2:Int)^(Min.min (Int.toNat (33:Int)) (64:Nat)))) (Int.fdiv (wI ((wI (y.1.2.2.1*6364136223846793005))+1442695040888963407)) ((2:Int)^(Min.min (Int.toNat (45:Int)) (64:Nat))))) (255:Int))+(wI (rdE .b y.1.1 y.1.2.1)))) (255:Int)),()),((y.1.1,((wI (y.1.2.1+1)),((wI ((wI (y.1.2.2.1*6364136223846793005))+1442695040888963407)),()))),())))
    else none)
   else none)
  else some (((bAnd Go.IntKind.i64 (bXor Go.IntKind.i64 (Int.fdiv (wI ((wI (y.1.2.2.1*6364136223846793005))+1442695040888963407)) ((2:Int)^(Min.min (Int.toNat (33:Int)) (64:Nat)))) (Int.fdiv (wI ((wI (y.1.2.2.1*6364136223846793005))+1442695040888963407)) ((2:Int)^(Min.min (Int.toNat (45:Int)) (64:Nat))))) (255:Int)),()),((y.1.1,(y.1.2.1,((wI ((wI (y.1.2.2.1*6364136223846793005))+1442695040888963407)),()))),()))
theorem s228 (y):TE [] Tryz.f228 i228 o228 y=m228 y:=by kernel_rfl
noncomputable def r228:F228:=m228
theorem k228:KO (g228 r228):=fk (s228) trivial (by kernel_rfl)
abbrev i157:Ts:=[.p q12, .v (.int .i64)]
abbrev o157:Ts:=[.v (.int .i64)]
abbrev F157:=FT i157 o157
abbrev g157:=mkG 157 i157 o157
noncomputable def m157 (c228:F228) (y:PTup i157):Option (PTup o157×BTup i157):=
  bif (leI y.2.1 0)then (some (((0:Int),()),(y.1,())))
  else bif (leI y.2.1 256)then ((c228 (y.1,())).bind fun r0=>
   bif (neI y.2.1 0)then (some (((Int.tmod r0.1.1 y.2.1),()),((y.1.1,r0.2.1.2),())))
   else none)
  else (c228 (y.1,())).bind fun r0=>
  (c228 ((y.1.1,r0.2.1.2),())).bind fun r1=>
  (c228 ((y.1.1,r1.2.1.2),())).bind fun r2=>
  (c228 ((y.1.1,r2.2.1.2),())).bind fun r3=>
  bif (neI y.2.1 0)then (some (((Int.tmod (wI ((wI ((wI ((wI (r0.1.1*16777216))+(wI (r1.1.1*65536))))+(wI (r2.1.1*256))))+r3.1.1)) y.2.1),()),((y.1.1,r3.2.1.2),())))
  else none
theorem s157 (c228:F228) (y):TE [g228 c228] Tryz.f157 i157 o157 y=m157 c228 y:=by kernel_rfl
noncomputable def r157:F157:=m157 r228
theorem k157:KO (g157 r157):=fk (s157 r228) ⟨k228,⟨⟩⟩ (by kernel_rfl)
abbrev i187:Ts:=[.p q12, .v (.sl false .i)]
abbrev o187:Ts:=[.v (.int .i64)]
abbrev F187:=FT i187 o187
abbrev g187:=mkG 187 i187 o187
noncomputable def m187 (c157:F157) (y:PTup i187):Option (PTup o187×BTup i187):=
  (c157 (y.1,((lenI y.2.1),()))).bind fun r0=>
  bif (leI 0 r0.1.1)then (bif (ltI r0.1.1 (lenI y.2.1))then (some (((rdE .i y.2.1 r0.1.1),()),((y.1.1,r0.2.1.2),())))
   else none)
  else none
theorem s187 (c157:F157) (y):TE [g157 c157] Tryz.f187 i187 o187 y=m187 c157 y:=by kernel_rfl
noncomputable def r187:F187:=m187 r157
theorem k187:KO (g187 r187):=fk (s187 r157) ⟨k157,⟨⟩⟩ (by kernel_rfl)
abbrev i304:Ts:=[.p q12]
abbrev o304:Ts:=[.v (.sl true .i)]
abbrev F304:=FT i304 o304
abbrev g304:=mkG 304 i304 o304
abbrev lc304_0:Ts:=[]
abbrev lb304_0:Ts:=[.p q12]
abbrev lv304_0:Ts:=[.v (.int .i64), .v (.sl true .i)]
abbrev lr304_0:Ts:=[]
abbrev R304_0:=Option (Sum (PTup lv304_0) (PTup lr304_0)×BTup lb304_0)
abbrev B304_0:=PTup lb304_0→PTup lv304_0→R304_0
abbrev A304_0:=PTup lc304_0→B304_0
noncomputable def w304_0 (c157:F157) (c187:F187) (again:B304_0) (x:PTup lc304_0) (y:PTup lb304_0) (z:PTup lv304_0):R304_0:=
  bif (ltI z.1 256)then ((c157 (y.1,((4:Int),()))).bind fun r0=>
   bif (eqI r0.1.1 0)then ((c157 ((y.1.1,r0.2.1.2),((30:Int),()))).bind fun r1=>
    bif (leI 0 z.1)then (bif (ltI z.1 (lenI z.2.1))then (again ((y.1.1,r1.2.1.2),()) ((wI (z.1+1)),((List.set z.2.1 (Int.toNat z.1) r1.1.1),())))
     else none)
    else none)
   else bif (eqI r0.1.1 1)then ((c187 ((y.1.1,r0.2.1.2),(((32:Int)::((64:Int)::((0:Int)::((1:Int)::((22:Int)::((192:Int)::((128:Int)::((2:Int)::((4:Int)::((5:Int)::[])))))))))),()))).bind fun r1=>
    bif (leI 0 z.1)then (bif (ltI z.1 (lenI z.2.1))then (again ((y.1.1,r1.2.1.2),()) ((wI (z.1+1)),((List.set z.2.1 (Int.toNat z.1) r1.1.1),())))
     else none)
    else none)
   else bif (eqI r0.1.1 2)then ((c157 ((y.1.1,r0.2.1.2),((256:Int),()))).bind fun r1=>
    bif (leI 0 z.1)then (bif (ltI z.1 (lenI z.2.1))then (again ((y.1.1,r1.2.1.2),()) ((wI (z.1+1)),((List.set z.2.1 (Int.toNat z.1) r1.1.1),())))
     else none)
    else none)
   else again ((y.1.1,r0.2.1.2),()) ((wI (z.1+1)),z.2))
  else some ((Sum.inl z),(y.1,()))
noncomputable def e304_0 (l:A304_0):LoopE:=⟨[],lc304_0,[0],lb304_0,[4,3],lv304_0,[],lr304_0,0,[],l⟩
noncomputable def m304 (c157:F157) (c187:F187) (l0:A304_0) (y:PTup i304):Option (PTup o304×BTup i304):=
  (l0 () (y.1,()) ((0:Int),((List.replicate (Int.toNat (256:Int)) (0:Int)),()))).bind fun r0=>
  sumElim r0.1 (fun r1=>some (r1.2,((y.1.1,r0.2.1.2),())))
  (fun r1=>some (([],()),((y.1.1,r0.2.1.2),())))
noncomputable def E304 (c157:F157) (c187:F187) (l0:A304_0):CEnv:=⟨⟨Tryz.prog,fnsL [g157 c157,g187 c187]⟩,loopsL [(3,e304_0 l0)]⟩
theorem t304_0 (c157:F157) (c187:F187) (l0:A304_0) (again) (x y z):loopRound (E304 c157 c187 l0) (loopAt (bodyOf Tryz.f304) 0) (e304_0 l0) Tryz.f304.ntmps again x y z=w304_0 c157 c187 again x y z:=by kernel_rfl
noncomputable def n304_0 (c157:F157) (c187:F187):Nat→A304_0
  |0,_,_,_=>none
  |n+1,x,y,z=>w304_0 c157 c187 (fun y z=>n304_0 c157 c187 n x y z) x y z
theorem s304 (c157:F157) (c187:F187) (l0:A304_0) (y):tevF (E304 c157 c187 l0) Tryz.f304 i304 o304 y=m304 c157 c187 l0 y:=by kernel_rfl
noncomputable def L304_0:A304_0:=n304_0 r157 r187 fuel
noncomputable def r304:F304:=m304 r157 r187 L304_0
theorem k304:KO (g304 r304):=by
  have hE: ∀g f,(E304 r157 r187 L304_0).env.fns g=some f→CallOk Tryz.prog g f:=fnsL_ok ⟨k157,k187,⟨⟩⟩
  have h0:LoopOk Tryz.prog Tryz.f304.ntmps (loopAt (bodyOf Tryz.f304) 0) (e304_0 L304_0):=lp_ok (E:=E304 r157 r187 L304_0) rfl hE mixed (AllLoops.of_list (l:=[]) (by kernel_rfl) trivial) (n304_0 r157 r187) (fun _ _ _=>rfl) (fun n x y z=>t304_0 r157 r187 L304_0 _ x y z) rfl
  exact fn_ok (E:=E304 r157 r187 L304_0) rfl hE mixed (by kernel_rfl) (by kernel_rfl) (AllLoops.of_list (l:=[(loopAt (bodyOf Tryz.f304) 0)]) (by kernel_rfl) (.one (by kernel_rfl) h0 trivial)) (s304 r157 r187 L304_0)
abbrev i104:Ts:=[.p q12, .v (.int .i64)]
abbrev o104:Ts:=[.v (.bool)]
abbrev F104:=FT i104 o104
abbrev g104:=mkG 104 i104 o104
noncomputable def m104 (c157:F157) (y:PTup i104):Option (PTup o104×BTup i104):=
  (c157 y).bind fun r0=>
  some (((eqI r0.1.1 0),()),((y.1.1,r0.2.1.2),()))
theorem s104 (c157:F157) (y):TE [g157 c157] Tryz.f104 i104 o104 y=m104 c157 y:=by kernel_rfl
noncomputable def r104:F104:=m104 r157
theorem k104:KO (g104 r104):=fk (s104 r157) ⟨k157,⟨⟩⟩ (by kernel_rfl)
abbrev i328:Ts:=[.p q12, .v (.sl false .s)]
abbrev o328:Ts:=[.v (.str)]
abbrev F328:=FT i328 o328
abbrev g328:=mkG 328 i328 o328
noncomputable def m328 (c157:F157) (y:PTup i328):Option (PTup o328×BTup i328):=
  (c157 (y.1,((lenI y.2.1),()))).bind fun r0=>
  bif (leI 0 r0.1.1)then (bif (ltI r0.1.1 (lenI y.2.1))then (some (((rdE .s y.2.1 r0.1.1),()),((y.1.1,r0.2.1.2),())))
   else none)
  else none
theorem s328 (c157:F157) (y):TE [g157 c157] Tryz.f328 i328 o328 y=m328 c157 y:=by kernel_rfl
noncomputable def r328:F328:=m328 r157
theorem k328:KO (g328 r328):=fk (s328 r157) ⟨k157,⟨⟩⟩ (by kernel_rfl)
abbrev i306:Ts:=[.p q12]
abbrev o306:Ts:=[.v (.str)]
abbrev F306:=FT i306 o306
abbrev g306:=mkG 306 i306 o306
noncomputable def m306 (c328:F328) (y:PTup i306):Option (PTup o306×BTup i306):=
  (c328 (y.1,(((bz [108,100,105,32,53,10,115,116,97,32,56,49,57,51,10,108,100,105,32,49,50,56,10,115,116,97,32,56,49,57,50,10,108,100,97,32,56,49,57,52,10,115,116,97,32,49,54,10,106,109,112,32,52,57,49,54,50,10])::((bz [108,100,105,32,51,10,115,116,97,32,49,54,51,56,52,10,108,100,105,32,50,10,115,116,97,32,49,54,51,56,53,10,108,100,105,32,49,10,115,116,97,32,49,54,51,56,54,10,99,108,105,10,108,100,97,32,49,54,51,56,54,10,106,109,112,32,52,57,49,54,56,10])::((bz [108,100,105,32,50,10,115,116,97,32,56,49,57,53,10,105,110,120,10,116,120,97,10,115,116,97,32,56,49,57,54,10,115,116,97,32,56,49,57,55,10,108,100,97,32,56,49,57,54,10,115,116,97,32,48,10,106,109,112,32,52,57,49,53,55,10])::((bz [108,100,105,32,49,10,115,116,97,32,49,54,52,48,54,10,108,100,105,32,48,10,115,116,97,32,49,54,52,48,54,10,108,100,97,32,49,54,52,48,54,10,112,104,97,10,108,100,97,32,49,54,52,48,54,10,112,108,97,10,106,109,112,32,52,57,49,54,50,10])::((bz [105,110,120,10,116,120,97,10,115,116,97,32,51,50,55,54,56,10,108,100,97,32,51,50,55,55,48,10,115,116,97,32,56,49,57,51,10,106,109,112,32,52,57,49,53,50,10])::((bz [108,100,105,32,49,50,56,10,115,116,97,32,56,49,57,50,10,108,100,105,32,55,10,115,116,97,32,49,54,51,56,53,10,108,100,105,32,49,10,115,116,97,32,49,54,51,56,54,10,99,108,105,10,106,115,114,32,52,57,51,48,48,10,106,109,112,32,52,57,49,54,56,10])::((bz [108,100,105,32,57,10,115,101,99,10,115,98,105,32,49,10,98,110,101,32,52,57,49,53,52,10,115,116,97,32,56,49,57,51,10,106,109,112,32,52,57,49,53,50,10])::[]))))))),()))).bind fun r0=>
  bif (leN ((ByteArray.size r0.1.1)+(ByteArray.size (bz [97,116,32,49,52,56,10,105,110,120,10,116,120,97,10,115,116,97,32,56,49,57,55,10,114,116,115,10,97,116,32,49,50,56,10,112,104,97,10,108,100,97,32,56,49,57,52,10,97,100,105,32,49,10,115,116,97,32,56,49,57,51,10,112,108,97,10,114,116,105,10,97,116,32,49,54,48,10,115,116,97,32,49,54,51,56,55,10,108,100,97,32,49,54,51,56,54,10,115,116,97,32,49,55,10,108,100,105,32,50,10,115,116,97,32,49,54,51,56,53,10,114,116,105,10]))) (4611686018427387904:Nat))then (some (((r0.1.1++(bz [97,116,32,49,52,56,10,105,110,120,10,116,120,97,10,115,116,97,32,56,49,57,55,10,114,116,115,10,97,116,32,49,50,56,10,112,104,97,10,108,100,97,32,56,49,57,52,10,97,100,105,32,49,10,115,116,97,32,56,49,57,51,10,112,108,97,10,114,116,105,10,97,116,32,49,54,48,10,115,116,97,32,49,54,51,56,55,10,108,100,97,32,49,54,51,56,54,10,115,116,97,32,49,55,10,108,100,105,32,50,10,115,116,97,32,49,54,51,56,53,10,114,116,105,10])),()),((y.1.1,r0.2.1.2),())))
  else none
theorem s306 (c328:F328) (y):TE [g328 c328] Tryz.f306 i306 o306 y=m306 c328 y:=by kernel_rfl
noncomputable def r306:F306:=m306 r328
theorem k306:KO (g306 r306):=fk (s306 r328) ⟨k328,⟨⟩⟩ (by kernel_rfl)
abbrev i345:Ts:=[.v (.int .i64)]
abbrev o345:Ts:=[.v (.str)]
abbrev F345:=FT i345 o345
abbrev g345:=mkG 345 i345 o345
abbrev lc345_0:Ts:=[]
abbrev lb345_0:Ts:=[]
abbrev lv345_0:Ts:=[.v (.int .i64), .v (.str)]
abbrev lr345_0:Ts:=[]
abbrev R345_0:=Option (Sum (PTup lv345_0) (PTup lr345_0)×BTup lb345_0)
abbrev B345_0:=PTup lb345_0→PTup lv345_0→R345_0
abbrev A345_0:=PTup lc345_0→B345_0
noncomputable def w345_0 (again:B345_0) (x:PTup lc345_0) (y:PTup lb345_0) (z:PTup lv345_0):R345_0:=
  bif (ltI 0 z.1)then (bif (leN ((ByteArray.size (strOf ((wB (wI ((48:Int)+(Int.tmod z.1 10))))::[])))+(ByteArray.size z.2.1)) (4611686018427387904:Nat))then (again () ((wI (Int.tdiv z.1 10)),(((strOf ((wB (wI ((48:Int)+(Int.tmod z.1 10))))::[]))++z.2.1),())))
   else none)
  else some ((Sum.inl z),())
noncomputable def e345_0 (l:A345_0):LoopE:=⟨[],lc345_0,[],lb345_0,[0,3],lv345_0,[],lr345_0,0,[],l⟩
noncomputable def m345 (l0:A345_0) (y:PTup i345):Option (PTup o345×BTup i345):=
  bif (eqI y.1 0)then (some (((bz [48]),()),()))
  else (l0 () () (y.1,((bz []),()))).bind fun r0=>
  sumElim r0.1 (fun r1=>some (r1.2,()))
  (fun r1=>some (((bz []),()),()))
noncomputable def E345 (l0:A345_0):CEnv:=⟨⟨Tryz.prog,fnsL []⟩,loopsL [(4,e345_0 l0)]⟩
theorem t345_0 (l0:A345_0) (again) (x y z):loopRound (E345 l0) (loopAt (bodyOf Tryz.f345) 0) (e345_0 l0) Tryz.f345.ntmps again x y z=w345_0 again x y z:=by kernel_rfl
noncomputable def n345_0:Nat→A345_0
  |0,_,_,_=>none
  |n+1,x,y,z=>w345_0 (fun y z=>n345_0 n x y z) x y z
theorem s345 (l0:A345_0) (y):tevF (E345 l0) Tryz.f345 i345 o345 y=m345 l0 y:=by kernel_rfl
noncomputable def L345_0:A345_0:=n345_0 fuel
noncomputable def r345:F345:=m345 L345_0
theorem k345:KO (g345 r345):=by
  have hE: ∀g f,(E345 L345_0).env.fns g=some f→CallOk Tryz.prog g f:=fnsL_ok trivial
  have h0:LoopOk Tryz.prog Tryz.f345.ntmps (loopAt (bodyOf Tryz.f345) 0) (e345_0 L345_0):=lp_ok (E:=E345 L345_0) rfl hE mixed (AllLoops.of_list (l:=[]) (by kernel_rfl) trivial) (n345_0) (fun _ _ _=>rfl) (fun n x y z=>t345_0 L345_0 _ x y z) rfl
  exact fn_ok (E:=E345 L345_0) rfl hE mixed (by kernel_rfl) (by kernel_rfl) (AllLoops.of_list (l:=[(loopAt (bodyOf Tryz.f345) 0)]) (by kernel_rfl) (.one (by kernel_rfl) h0 trivial)) (s345 L345_0)
abbrev i343:Ts:=[.v (.str)]
abbrev o343:Ts:=[.v (.int .i64)]
abbrev F343:=FT i343 o343
abbrev g343:=mkG 343 i343 o343
abbrev lc343_0:Ts:=[.v (.str)]
abbrev lb343_0:Ts:=[]
abbrev lv343_0:Ts:=[.v (.int .i64), .v (.int .i64)]
abbrev lr343_0:Ts:=[.v (.int .i64)]
abbrev R343_0:=Option (Sum (PTup lv343_0) (PTup lr343_0)×BTup lb343_0)
abbrev B343_0:=PTup lb343_0→PTup lv343_0→R343_0
abbrev A343_0:=PTup lc343_0→B343_0
noncomputable def w343_0 (c345:F345) (again:B343_0) (x:PTup lc343_0) (y:PTup lb343_0) (z:PTup lv343_0):R343_0:=
  bif (ltI z.2.1 ((((ByteArray.size x.1):Nat)):Int))then (bif (leI 0 z.2.1)then (bif (ltI z.2.1 ((((ByteArray.size x.1):Nat)):Int))then (bif (ltI (bt x.1 z.2.1) 48)then (some ((Sum.inr ((-(1:Int)),())),()))
     else bif (leI 0 z.2.1)then (bif (ltI z.2.1 ((((ByteArray.size x.1):Nat)):Int))then (bif (ltI 57 (bt x.1 z.2.1))then (some ((Sum.inr ((-(1:Int)),())),()))
       else bif (leI 0 z.2.1)then (bif (ltI z.2.1 ((((ByteArray.size x.1):Nat)):Int))then (again () ((wI ((wI ((wI ((10:Int)*z.1))+(wI (bt x.1 z.2.1))))-48)),((wI (z.2.1+1)),())))
        else none)
       else none)
      else none)
     else none)
    else none)
   else none)
  else some ((Sum.inl z),())
noncomputable def e343_0 (l:A343_0):LoopE:=⟨[0],lc343_0,[],lb343_0,[3,4],lv343_0,[2],lr343_0,0,[],l⟩
noncomputable def m343 (c345:F345) (l0:A343_0) (y:PTup i343):Option (PTup o343×BTup i343):=
  bif ((ByteArray.toList y.1)==(ByteArray.toList (bz [])))then (some (((-(1:Int)),()),()))
  else bif (ltI 5 ((((ByteArray.size y.1):Nat)):Int))then (some (((-(1:Int)),()),()))
  else (l0 y () ((0:Int),((0:Int),()))).bind fun r0=>
  sumElim r0.1 (fun r1=>(c345 (r1.1,())).bind fun r2=>
   bif (!((ByteArray.toList r2.1.1)==(ByteArray.toList y.1)))then (some (((-(1:Int)),()),()))
   else some ((r1.1,()),()))
  (fun r1=>some (r1,()))
noncomputable def E343 (c345:F345) (l0:A343_0):CEnv:=⟨⟨Tryz.prog,fnsL [g345 c345]⟩,loopsL [(5,e343_0 l0)]⟩
theorem t343_0 (c345:F345) (l0:A343_0) (again) (x y z):loopRound (E343 c345 l0) (loopAt (bodyOf Tryz.f343) 0) (e343_0 l0) Tryz.f343.ntmps again x y z=w343_0 c345 again x y z:=by kernel_rfl
noncomputable def n343_0 (c345:F345):Nat→A343_0
  |0,_,_,_=>none
  |n+1,x,y,z=>w343_0 c345 (fun y z=>n343_0 c345 n x y z) x y z
theorem s343 (c345:F345) (l0:A343_0) (y):tevF (E343 c345 l0) Tryz.f343 i343 o343 y=m343 c345 l0 y:=by kernel_rfl
noncomputable def L343_0:A343_0:=n343_0 r345 fuel
noncomputable def r343:F343:=m343 r345 L343_0
theorem k343:KO (g343 r343):=by
  have hE: ∀g f,(E343 r345 L343_0).env.fns g=some f→CallOk Tryz.prog g f:=fnsL_ok ⟨k345,⟨⟩⟩
  have h0:LoopOk Tryz.prog Tryz.f343.ntmps (loopAt (bodyOf Tryz.f343) 0) (e343_0 L343_0):=lp_ok (E:=E343 r345 L343_0) rfl hE mixed (AllLoops.of_list (l:=[]) (by kernel_rfl) trivial) (n343_0 r345) (fun _ _ _=>rfl) (fun n x y z=>t343_0 r345 L343_0 _ x y z) rfl
  exact fn_ok (E:=E343 r345 L343_0) rfl hE mixed (by kernel_rfl) (by kernel_rfl) (AllLoops.of_list (l:=[(loopAt (bodyOf Tryz.f343) 0)]) (by kernel_rfl) (.one (by kernel_rfl) h0 trivial)) (s343 r345 L343_0)
abbrev i340:Ts:=[.v (.str)]
abbrev o340:Ts:=[.v (.str), .v (.int .i64), .v (.bool)]
abbrev F340:=FT i340 o340
abbrev g340:=mkG 340 i340 o340
abbrev lc340_0:Ts:=[.v (.str)]
abbrev lb340_0:Ts:=[]
abbrev lv340_0:Ts:=[.v (.int .i64)]
abbrev lr340_0:Ts:=[.v (.str), .v (.int .i64), .v (.bool)]
abbrev R340_0:=Option (Sum (PTup lv340_0) (PTup lr340_0)×BTup lb340_0)
abbrev B340_0:=PTup lb340_0→PTup lv340_0→R340_0
abbrev A340_0:=PTup lc340_0→B340_0
noncomputable def w340_0 (c343:F343) (again:B340_0) (x:PTup lc340_0) (y:PTup lb340_0) (z:PTup lv340_0):R340_0:=
  bif (ltI z.1 ((((ByteArray.size x.1):Nat)):Int))then (bif (leI 0 z.1)then (bif (ltI z.1 ((((ByteArray.size x.1):Nat)):Int))then (bif (eqI (bt x.1 z.1) 32)then (bif (leI 0 (wI (z.1+1)))then (bif (leI (wI (z.1+1)) ((((ByteArray.size x.1):Nat)):Int))then ((c343 ((ByteArray.extract x.1 (Int.toNat (wI (z.1+1))) (ByteArray.size x.1)),())).bind fun r0=>
        bif (leI 0 z.1)then (bif (leI z.1 ((((ByteArray.size x.1):Nat)):Int))then (some ((Sum.inr ((ByteArray.extract x.1 (0:Nat) (Int.toNat z.1)),(r0.1.1,((leI 0 r0.1.1),())))),()))
         else none)
        else none)
       else none)
      else none)
     else again () ((wI (z.1+1)),()))
    else none)
   else none)
  else some ((Sum.inl z),())
noncomputable def e340_0 (l:A340_0):LoopE:=⟨[0],lc340_0,[],lb340_0,[5],lv340_0,[2,3,4],lr340_0,0,[],l⟩
noncomputable def m340 (c343:F343) (l0:A340_0) (y:PTup i340):Option (PTup o340×BTup i340):=
  (l0 y () ((0:Int),())).bind fun r0=>
  sumElim r0.1 (fun r1=>some ((y.1,((-(1:Int)),(true,()))),()))
  (fun r1=>some (r1,()))
noncomputable def E340 (c343:F343) (l0:A340_0):CEnv:=⟨⟨Tryz.prog,fnsL [g343 c343]⟩,loopsL [(2,e340_0 l0)]⟩
theorem t340_0 (c343:F343) (l0:A340_0) (again) (x y z):loopRound (E340 c343 l0) (loopAt (bodyOf Tryz.f340) 0) (e340_0 l0) Tryz.f340.ntmps again x y z=w340_0 c343 again x y z:=by kernel_rfl
noncomputable def n340_0 (c343:F343):Nat→A340_0
  |0,_,_,_=>none
  |n+1,x,y,z=>w340_0 c343 (fun y z=>n340_0 c343 n x y z) x y z
theorem s340 (c343:F343) (l0:A340_0) (y):tevF (E340 c343 l0) Tryz.f340 i340 o340 y=m340 c343 l0 y:=by kernel_rfl
noncomputable def L340_0:A340_0:=n340_0 r343 fuel
noncomputable def r340:F340:=m340 r343 L340_0
theorem k340:KO (g340 r340):=by
  have hE: ∀g f,(E340 r343 L340_0).env.fns g=some f→CallOk Tryz.prog g f:=fnsL_ok ⟨k343,⟨⟩⟩
  have h0:LoopOk Tryz.prog Tryz.f340.ntmps (loopAt (bodyOf Tryz.f340) 0) (e340_0 L340_0):=lp_ok (E:=E340 r343 L340_0) rfl hE mixed (AllLoops.of_list (l:=[]) (by kernel_rfl) trivial) (n340_0 r343) (fun _ _ _=>rfl) (fun n x y z=>t340_0 r343 L340_0 _ x y z) rfl
  exact fn_ok (E:=E340 r343 L340_0) rfl hE mixed (by kernel_rfl) (by kernel_rfl) (AllLoops.of_list (l:=[(loopAt (bodyOf Tryz.f340) 0)]) (by kernel_rfl) (.one (by kernel_rfl) h0 trivial)) (s340 r343 L340_0)
abbrev i344:Ts:=[]
abbrev o344:Ts:=[.v (.sl true .s)]
abbrev F344:=FT i344 o344
abbrev g344:=mkG 344 i344 o344
noncomputable def m344 (y:PTup i344):Option (PTup o344×BTup i344):=
  some ((((bz [110,111,112])::((bz [108,100,105])::((bz [108,100,97])::((bz [115,116,97])::((bz [97,100,105])::((bz [115,98,105])::((bz [97,110,105])::((bz [111,114,105])::((bz [120,114,105])::((bz [99,112,105])::((bz [116,97,120])::((bz [116,120,97])::((bz [105,110,120])::((bz [100,101,120])::((bz [108,97,120])::((bz [115,97,120])::((bz [98,110,101])::((bz [98,101,113])::((bz [98,99,115])::((bz [106,109,112])::((bz [106,115,114])::((bz [114,116,115])::((bz [112,104,97])::((bz [112,108,97])::((bz [114,116,105])::((bz [115,101,105])::((bz [99,108,105])::((bz [115,101,99])::((bz [99,108,99])::((bz [97,100,97])::[])))))))))))))))))))))))))))))),()),())
theorem s344 (y):TE [] Tryz.f344 i344 o344 y=m344 y:=by kernel_rfl
noncomputable def r344:F344:=m344
theorem k344:KO (g344 r344):=fk (s344) trivial (by kernel_rfl)
abbrev i341:Ts:=[.v (.str)]
abbrev o341:Ts:=[.v (.int .i64)]
abbrev F341:=FT i341 o341
abbrev g341:=mkG 341 i341 o341
abbrev lc341_0:Ts:=[.v (.str), .v (.sl false .s)]
abbrev lb341_0:Ts:=[]
abbrev lv341_0:Ts:=[.v (.int .i64)]
abbrev lr341_0:Ts:=[.v (.int .i64)]
abbrev R341_0:=Option (Sum (PTup lv341_0) (PTup lr341_0)×BTup lb341_0)
abbrev B341_0:=PTup lb341_0→PTup lv341_0→R341_0
abbrev A341_0:=PTup lc341_0→B341_0
noncomputable def w341_0 (c344:F344) (again:B341_0) (x:PTup lc341_0) (y:PTup lb341_0) (z:PTup lv341_0):R341_0:=
  bif (ltI z.1 (lenI x.2.1))then (bif (leI 0 z.1)then (bif (ltI z.1 (lenI x.2.1))then (bif ((ByteArray.toList (rdE .s x.2.1 z.1))==(ByteArray.toList x.1))then (some ((Sum.inr z),()))
     else again () ((wI (z.1+1)),()))
    else none)
   else none)
  else some ((Sum.inl z),())
noncomputable def e341_0 (l:A341_0):LoopE:=⟨[0,3],lc341_0,[],lb341_0,[4],lv341_0,[2],lr341_0,0,[],l⟩
noncomputable def m341 (c344:F344) (l0:A341_0) (y:PTup i341):Option (PTup o341×BTup i341):=
  (c344 ()).bind fun r0=>
  (l0 (y.1,r0.1) () ((0:Int),())).bind fun r1=>
  sumElim r1.1 (fun r2=>some (((-(1:Int)),()),()))
  (fun r2=>some (r2,()))
noncomputable def E341 (c344:F344) (l0:A341_0):CEnv:=⟨⟨Tryz.prog,fnsL [g344 c344]⟩,loopsL [(3,e341_0 l0)]⟩
theorem t341_0 (c344:F344) (l0:A341_0) (again) (x y z):loopRound (E341 c344 l0) (loopAt (bodyOf Tryz.f341) 0) (e341_0 l0) Tryz.f341.ntmps again x y z=w341_0 c344 again x y z:=by kernel_rfl
noncomputable def n341_0 (c344:F344):Nat→A341_0
  |0,_,_,_=>none
  |n+1,x,y,z=>w341_0 c344 (fun y z=>n341_0 c344 n x y z) x y z
theorem s341 (c344:F344) (l0:A341_0) (y):tevF (E341 c344 l0) Tryz.f341 i341 o341 y=m341 c344 l0 y:=by kernel_rfl
noncomputable def L341_0:A341_0:=n341_0 r344 fuel
noncomputable def r341:F341:=m341 r344 L341_0
theorem k341:KO (g341 r341):=by
  have hE: ∀g f,(E341 r344 L341_0).env.fns g=some f→CallOk Tryz.prog g f:=fnsL_ok ⟨k344,⟨⟩⟩
  have h0:LoopOk Tryz.prog Tryz.f341.ntmps (loopAt (bodyOf Tryz.f341) 0) (e341_0 L341_0):=lp_ok (E:=E341 r344 L341_0) rfl hE mixed (AllLoops.of_list (l:=[]) (by kernel_rfl) trivial) (n341_0 r344) (fun _ _ _=>rfl) (fun n x y z=>t341_0 r344 L341_0 _ x y z) rfl
  exact fn_ok (E:=E341 r344 L341_0) rfl hE mixed (by kernel_rfl) (by kernel_rfl) (AllLoops.of_list (l:=[(loopAt (bodyOf Tryz.f341) 0)]) (by kernel_rfl) (.one (by kernel_rfl) h0 trivial)) (s341 r344 L341_0)
abbrev i327:Ts:=[.v (.str)]
abbrev o327:Ts:=[.v (.sl true .i), .v (.int .i64), .v (.bool)]
abbrev R327:=Option (PTup o327×BTup i327)
abbrev F327:=PTup i327→R327
abbrev g327:=mkG 327 i327 o327
noncomputable def m327 (c272:F272) (c268:F268) (c341:F341) (c125:F125) (c340:F340) (y:PTup i327):R327:=
  (c340 y).bind fun r0=>let X0:R327:=(c125 (r0.1.2.1,((0:Int),((255:Int),())))).bind fun r1=>bif (!r1.1.1)then (some (([],((-1),(false,()))),()))else bif ((ByteArray.toList r0.1.1)==(ByteArray.toList (bz [97,116])))then (some (([],(r0.1.2.1,(true,()))),()))else some (((r0.1.2.1::[]),((-1),(true,()))),());bif (!r0.1.2.2.1)then (some (([],((-1),(false,()))),()))else bif ((ByteArray.toList r0.1.1)==(ByteArray.toList (bz [97,116])))then X0 else bif ((ByteArray.toList r0.1.1)==(ByteArray.toList (bz [98,121,116,101])))then X0 else (c341 (r0.1.1,())).bind fun r1=>bif (ltI r1.1.1 0)then (some (([],((-1),(false,()))),()))else (c268 r1.1).bind fun r2=>bif (eqI r2.1.1 1)then (some (((r1.1.1::[]),((-1),((ltI r0.1.2.1 0),()))),()))else bif (eqI r2.1.1 2)then ((c272 (r0.1.2.1,())).bind fun r3=>(c125 (r0.1.2.1,((0:Int),((255:Int),())))).bind fun r4=>some (((r1.1.1::(r3.1.1::[])),((-1),r4.1)),()))else (c272 (r0.1.2.1,())).bind fun r3=>(c272 ((Int.fdiv r0.1.2.1 ((2:Int)^(Min.min (Int.toNat (8:Int)) (64:Nat)))),())).bind fun r4=>(c125 (r0.1.2.1,((0:Int),((65535:Int),())))).bind fun r5=>some (((r1.1.1::(r3.1.1::(r4.1.1::[]))),((-1),r5.1)),())
theorem s327 (c272:F272) (c268:F268) (c341:F341) (c125:F125) (c340:F340) (y):TE [g272 c272,g268 c268,g341 c341,g125 c125,g340 c340] Tryz.f327 i327 o327 y=m327 c272 c268 c341 c125 c340 y:=by kernel_rfl
noncomputable def r327:F327:=m327 r272 r268 r341 r125 r340
theorem k327:KO (g327 r327):=fk (s327 r272 r268 r341 r125 r340) ⟨k272,k268,k341,k125,k340,⟨⟩⟩ (by kernel_rfl)
abbrev i305:Ts:=[.v (.str)]
abbrev o305:Ts:=[.v (.sl true .i), .v (.int .i64)]
abbrev R305:=Option (PTup o305×BTup i305)
abbrev F305:=PTup i305→R305
abbrev g305:=mkG 305 i305 o305
abbrev lc305_0:Ts:=[.v (.sl false .i)]
abbrev lb305_0:Ts:=[]
abbrev lv305_0:Ts:=[.v (.int .i64), .v (.int .i64), .v (.sl true .i)]
abbrev lr305_0:Ts:=[]
abbrev R305_0:=Option (Sum (PTup lv305_0) (PTup lr305_0)×BTup lb305_0)
abbrev B305_0:=PTup lb305_0→PTup lv305_0→R305_0
abbrev A305_0:=PTup lc305_0→B305_0
noncomputable def w305_0 (c272:F272) (c327:F327) (again:B305_0) (x:PTup lc305_0) (y:PTup lb305_0) (z:PTup lv305_0):R305_0:=
  bif (ltI z.2.1 (lenI x.1))then ((c272 (z.1,())).bind fun r0=>
   bif (leI 0 z.2.1)then (bif (ltI z.2.1 (lenI x.1))then (bif (leI 0 r0.1.1)then (bif (ltI r0.1.1 (lenI z.2.2.1))then (again () ((wI (z.1+1)),((wI (z.2.1+1)),((List.set z.2.2.1 (Int.toNat r0.1.1) (rdE .i x.1 z.2.1)),()))))
      else none)
     else none)
    else none)
   else none)
  else some ((Sum.inl z),())
noncomputable def e305_0 (l:A305_0):LoopE:=⟨[10],lc305_0,[],lb305_0,[5,13,4],lv305_0,[],lr305_0,2,[],l⟩
abbrev lc305_1:Ts:=[.v (.str)]
abbrev lb305_1:Ts:=[]
abbrev lv305_1:Ts:=[.v (.int .i64), .v (.int .i64), .v (.int .i64), .v (.int .i64), .v (.sl true .i)]
abbrev lr305_1:Ts:=[.v (.sl true .i), .v (.int .i64)]
abbrev R305_1:=Option (Sum (PTup lv305_1) (PTup lr305_1)×BTup lb305_1)
abbrev B305_1:=PTup lb305_1→PTup lv305_1→R305_1
abbrev A305_1:=PTup lc305_1→B305_1
noncomputable def w305_1 (c272:F272) (c327:F327) (l0:A305_0) (again:B305_1) (x:PTup lc305_1) (y:PTup lb305_1) (z:PTup lv305_1):R305_1:=
  let X0:R305_1:=bif (leI 0 z.2.2.2.1)then (bif (leI z.2.2.2.1 ((((ByteArray.size x.1):Nat)):Int))then (bif (leI 0 z.2.1)then (bif (leI z.2.1 z.2.2.2.1)then (bif ((ByteArray.toList (ByteArray.extract x.1 (Int.toNat z.2.1) (Int.toNat z.2.2.2.1)))==(ByteArray.toList (bz [])))then (again () (z.1,((wI (z.2.2.2.1+1)),((wI (z.2.2.1+1)),((wI (z.2.2.2.1+1)),z.2.2.2.2)))))else (c327 ((ByteArray.extract x.1 (Int.toNat z.2.1) (Int.toNat z.2.2.2.1)),())).bind fun r0=>bif (!r0.1.2.2.1)then (some ((Sum.inr ([],((wI (z.2.2.1+1)),()))),()))else bif (leI 0 r0.1.2.1)then ((l0 (r0.1.1,()) () (r0.1.2.1,((0:Int),z.2.2.2.2))).bind fun r1=>sumElim r1.1 (fun r2=>again () (r2.1,((wI (z.2.2.2.1+1)),((wI (z.2.2.1+1)),((wI (z.2.2.2.1+1)),r2.2.2))))) (fun r2=>none))else (l0 (r0.1.1,()) () (z.1,((0:Int),z.2.2.2.2))).bind fun r1=>sumElim r1.1 (fun r2=>again () (r2.1,((wI (z.2.2.2.1+1)),((wI (z.2.2.1+1)),((wI (z.2.2.2.1+1)),r2.2.2))))) (fun r2=>none))else none)else none)else none)else none;let X1:R305_1:=bif (eqI z.2.2.2.1 ((((ByteArray.size x.1):Nat)):Int))then (bif (eqI z.2.1 ((((ByteArray.size x.1):Nat)):Int))then (again () (z.1,(z.2.1,(z.2.2.1,((wI (z.2.2.2.1+1)),z.2.2.2.2)))))else X0)else X0;bif (leI z.2.2.2.1 ((((ByteArray.size x.1):Nat)):Int))then (bif (ltI z.2.2.2.1 ((((ByteArray.size x.1):Nat)):Int))then (bif (leI 0 z.2.2.2.1)then (bif (ltI z.2.2.2.1 ((((ByteArray.size x.1):Nat)):Int))then (bif (neI (bt x.1 z.2.2.2.1) 10)then (again () (z.1,(z.2.1,(z.2.2.1,((wI (z.2.2.2.1+1)),z.2.2.2.2)))))else X1)else none)else none)else X1)else some ((Sum.inl z),())
noncomputable def e305_1 (l:A305_1):LoopE:=⟨[0],lc305_1,[],lb305_1,[5,6,7,8,4],lv305_1,[2,3],lr305_1,0,[],l⟩
noncomputable def m305 (c272:F272) (c327:F327) (l0:A305_0) (l1:A305_1) (y:PTup i305):R305:=
  bif (ltI 3000 ((((ByteArray.size y.1):Nat)):Int))then (some (([],((-(1:Int)),())),()))
  else (l1 y () ((0:Int),((0:Int),((0:Int),((0:Int),((List.replicate (Int.toNat (256:Int)) (0:Int)),())))))).bind fun r0=>
  sumElim r0.1 (fun r1=>some ((r1.2.2.2.2.1,((0:Int),())),()))
  (fun r1=>some (r1,()))
noncomputable def E305 (c272:F272) (c327:F327) (l0:A305_0) (l1:A305_1):CEnv:=⟨⟨Tryz.prog,fnsL [g272 c272,g327 c327]⟩,loopsL [(19,e305_0 l0),(6,e305_1 l1)]⟩
theorem t305_0 (c272:F272) (c327:F327) (l0:A305_0) (l1:A305_1) (again) (x y z):loopRound (E305 c272 c327 l0 l1) (loopAt (loopAt (bodyOf Tryz.f305) 0) 0) (e305_0 l0) Tryz.f305.ntmps again x y z=w305_0 c272 c327 again x y z:=by kernel_rfl
noncomputable def n305_0 (c272:F272) (c327:F327):Nat→A305_0
  |0,_,_,_=>none
  |n+1,x,y,z=>w305_0 c272 c327 (fun y z=>n305_0 c272 c327 n x y z) x y z
theorem t305_1 (c272:F272) (c327:F327) (l0:A305_0) (l1:A305_1) (again) (x y z):loopRound (E305 c272 c327 l0 l1) (loopAt (bodyOf Tryz.f305) 0) (e305_1 l1) Tryz.f305.ntmps again x y z=w305_1 c272 c327 l0 again x y z:=by kernel_rfl
noncomputable def n305_1 (c272:F272) (c327:F327) (l0:A305_0):Nat→A305_1
  |0,_,_,_=>none
  |n+1,x,y,z=>w305_1 c272 c327 l0 (fun y z=>n305_1 c272 c327 l0 n x y z) x y z
theorem s305 (c272:F272) (c327:F327) (l0:A305_0) (l1:A305_1) (y):tevF (E305 c272 c327 l0 l1) Tryz.f305 i305 o305 y=m305 c272 c327 l0 l1 y:=by kernel_rfl
noncomputable def L305_0:A305_0:=n305_0 r272 r327 fuel
noncomputable def L305_1:A305_1:=n305_1 r272 r327 L305_0 fuel
noncomputable def r305:F305:=m305 r272 r327 L305_0 L305_1
theorem k305:KO (g305 r305):=by
  have hE: ∀g f,(E305 r272 r327 L305_0 L305_1).env.fns g=some f→CallOk Tryz.prog g f:=fnsL_ok ⟨k272,k327,⟨⟩⟩
  have h0:LoopOk Tryz.prog Tryz.f305.ntmps (loopAt (loopAt (bodyOf Tryz.f305) 0) 0) (e305_0 L305_0):=lp_ok (E:=E305 r272 r327 L305_0 L305_1) rfl hE mixed (AllLoops.of_list (l:=[]) (by kernel_rfl) trivial) (n305_0 r272 r327) (fun _ _ _=>rfl) (fun n x y z=>t305_0 r272 r327 L305_0 L305_1 _ x y z) rfl
  have h1:LoopOk Tryz.prog Tryz.f305.ntmps (loopAt (bodyOf Tryz.f305) 0) (e305_1 L305_1):=lp_ok (E:=E305 r272 r327 L305_0 L305_1) rfl hE mixed (AllLoops.of_list (l:=[(loopAt (loopAt (bodyOf Tryz.f305) 0) 0)]) (by kernel_rfl) (.one (by kernel_rfl) h0 trivial)) (n305_1 r272 r327 L305_0) (fun _ _ _=>rfl) (fun n x y z=>t305_1 r272 r327 L305_0 L305_1 _ x y z) rfl
  exact fn_ok (E:=E305 r272 r327 L305_0 L305_1) rfl hE mixed (by kernel_rfl) (by kernel_rfl) (AllLoops.of_list (l:=[(loopAt (bodyOf Tryz.f305) 0)]) (by kernel_rfl) (.one (by kernel_rfl) h1 trivial)) (s305 r272 r327 L305_0 L305_1)
abbrev vec1 {R:Type} (f:List (List Int)) (k j v:Int) (K:List (List Int)→Option R):Option R:=bif (ltI j (lenI (rdE .n f k)))then (K (List.set f (Int.toNat k) (List.set (rdE .n f k) (Int.toNat j) v)))else none
abbrev vecs6 {R:Type} (f:List (List Int)) (k:Int) (K:List (List Int)→Option R):Option R:=bif (leI 0 k)then (bif (ltI k (lenI f))then (vec1 f k 250 128 fun f=>vec1 f k 251 192 fun f=>vec1 f k 252 0 fun f=>vec1 f k 253 192 fun f=>vec1 f k 254 160 fun f=>vec1 f k 255 192 K)else none)else none
abbrev i257:Ts:=[.p q12]
abbrev o257:Ts:=[.a [.sl true .n]]
abbrev F257:=FT i257 o257
abbrev g257:=mkG 257 i257 o257
abbrev lc257_0:Ts:=[.v (.int .i64)]
abbrev lb257_0:Ts:=[.p q12, .p [.sl true .n]]
abbrev lv257_0:Ts:=[.v (.int .i64)]
abbrev lr257_0:Ts:=[]
abbrev R257_0:=Option (Sum (PTup lv257_0) (PTup lr257_0)×BTup lb257_0)
abbrev B257_0:=PTup lb257_0→PTup lv257_0→R257_0
abbrev A257_0:=PTup lc257_0→B257_0
noncomputable def w257_0 (c305:F305) (c157:F157) (c104:F104) (c304:F304) (c306:F306) (again:B257_0) (x:PTup lc257_0) (y:PTup lb257_0) (z:PTup lv257_0):R257_0:=
  bif (ltI z.1 x.1)then ((c304 (y.1,())).bind fun r0=>
   bif (leN ((List.length y.2.1.1)+(List.length (r0.1.1::[]))) (E.most .n))then (again ((y.1.1,r0.2.1.2),(((y.2.1.1++(r0.1.1::[])),()),())) ((wI (z.1+1)),()))
   else none)
  else some ((Sum.inl z),(y.1,(y.2.1,())))
noncomputable def e257_0 (l:A257_0):LoopE:=⟨[4],lc257_0,[0,3],lb257_0,[5],lv257_0,[],lr257_0,0,[],l⟩
noncomputable def m257 (c305:F305) (c157:F157) (c104:F104) (c304:F304) (c306:F306) (l0:A257_0) (y:PTup i257):Option (PTup o257×BTup i257):=
  (c157 (y.1,((3:Int),()))).bind fun r0=>let k:=wI (1+r0.1.1);(l0 (k,()) ((y.1.1,r0.2.1.2),(([],()),())) ((0:Int),())).bind fun r1=>sumElim r1.1 (fun _=>(c104 ((y.1.1,r1.2.1.2),((4:Int),()))).bind fun r3=>
   bif (!r3.1.1)then ((c306 ((y.1.1,r3.2.1.2),())).bind fun r4=>(c305 r4.1).bind fun r5=>
    bif (eqI (lenI r5.1.1) 256)then (bif (leI 0 (wI (k-1)))then (bif (ltI (wI (k-1)) (lenI r1.2.2.1.1))then (vecs6 (List.set r1.2.2.1.1 (Int.toNat (wI (k-1))) r5.1.1) (wI (k-1)) fun f=>some (((f,()),()),((y.1.1,r4.2.1.2),())))else none)else none)
    else vecs6 r1.2.2.1.1 (wI (k-1)) fun f=>some (((f,()),()),((y.1.1,r4.2.1.2),())))
   else vecs6 r1.2.2.1.1 (wI (k-1)) fun f=>some (((f,()),()),((y.1.1,r3.2.1.2),())))
  (fun _=>some ((([],()),()),((y.1.1,r1.2.1.2),())))
noncomputable def E257 (c305:F305) (c157:F157) (c104:F104) (c304:F304) (c306:F306) (l0:A257_0):CEnv:=⟨⟨Tryz.prog,fnsL [g305 c305,g157 c157,g104 c104,g304 c304,g306 c306]⟩,loopsL [(4,e257_0 l0)]⟩
theorem t257_0 (c305:F305) (c157:F157) (c104:F104) (c304:F304) (c306:F306) (l0:A257_0) (again) (x y z):loopRound (E257 c305 c157 c104 c304 c306 l0) (loopAt (bodyOf Tryz.f257) 0) (e257_0 l0) Tryz.f257.ntmps again x y z=w257_0 c305 c157 c104 c304 c306 again x y z:=by kernel_rfl
noncomputable def n257_0 (c305:F305) (c157:F157) (c104:F104) (c304:F304) (c306:F306):Nat→A257_0
  |0,_,_,_=>none
  |n+1,x,y,z=>w257_0 c305 c157 c104 c304 c306 (fun y z=>n257_0 c305 c157 c104 c304 c306 n x y z) x y z
theorem s257 (c305:F305) (c157:F157) (c104:F104) (c304:F304) (c306:F306) (l0:A257_0) (y):tevF (E257 c305 c157 c104 c304 c306 l0) Tryz.f257 i257 o257 y=m257 c305 c157 c104 c304 c306 l0 y:=by kernel_rfl
noncomputable def L257_0:A257_0:=n257_0 r305 r157 r104 r304 r306 fuel
noncomputable def r257:F257:=m257 r305 r157 r104 r304 r306 L257_0
theorem k257:KO (g257 r257):=by
  have hE: ∀g f,(E257 r305 r157 r104 r304 r306 L257_0).env.fns g=some f→CallOk Tryz.prog g f:=fnsL_ok ⟨k305,k157,k104,k304,k306,⟨⟩⟩
  have h0:LoopOk Tryz.prog Tryz.f257.ntmps (loopAt (bodyOf Tryz.f257) 0) (e257_0 L257_0):=lp_ok (E:=E257 r305 r157 r104 r304 r306 L257_0) rfl hE mixed (AllLoops.of_list (l:=[]) (by kernel_rfl) trivial) (n257_0 r305 r157 r104 r304 r306) (fun _ _ _=>rfl) (fun n x y z=>t257_0 r305 r157 r104 r304 r306 L257_0 _ x y z) rfl
  exact fn_ok (E:=E257 r305 r157 r104 r304 r306 L257_0) rfl hE mixed (by kernel_rfl) (by kernel_rfl) (AllLoops.of_list (l:=[(loopAt (bodyOf Tryz.f257) 0)]) (by kernel_rfl) (.one (by kernel_rfl) h0 trivial)) (s257 r305 r157 r104 r304 r306 L257_0)
abbrev i256:Ts:=[.a q0, .v (.sl false .i), .v (.int .i64)]
abbrev o256:Ts:=[.a q13, .v (.bool)]
abbrev F256:=FT i256 o256
abbrev g256:=mkG 256 i256 o256
noncomputable def m256 (c251:F251) (c250:F250) (c252:F252) (c29:F29) (c111:F111) (y:PTup i256):Option (PTup o256×BTup i256):=
  (c111 (y.1,())).bind fun r0=>
  bif (leN (0+(List.length y.2.1)) (E.most .i))then ((c250 ()).bind fun r1=>
   (c251 (y.1,())).bind fun r2=>
   (c252 ()).bind fun r3=>
   (c29 ((r0.1.1.1,(([]++y.2.1),(r1.1.1.1,(r1.1.1.2.1,(r2.1.1.1,(r2.1.1.2.1,(r2.1.1.2.2.1,(r2.1.1.2.2.2.1,(r2.1.1.2.2.2.2.1,(r2.1.1.2.2.2.2.2.1,(r2.1.1.2.2.2.2.2.2.1,(r2.1.1.2.2.2.2.2.2.2.1,(false,((0:Int),((0:Int),(false,((0:Int),(false,((0:Int),((0:Int),([],(r3.1.1.1,(r3.1.1.2.1,(r3.1.1.2.2.1,(r3.1.1.2.2.2.1,(r3.1.1.2.2.2.2.1,(r3.1.1.2.2.2.2.2.1,(r3.1.1.2.2.2.2.2.2.1,(r3.1.1.2.2.2.2.2.2.2.1,(y.2.2.1,([],([],((0:Int),((0:Int),((0:Int),((0:Int),((0:Int),(false,(false,(y.2.2.1,([],([],())))))))))))))))))))))))))))))))))))))))))),())).bind fun r4=>
   bif (!r4.1.1)then (some ((([],([],([],((0:Int),((0:Int),((0:Int),((0:Int),((0:Int),(false,(false,(false,(false,(false,((0:Int),((0:Int),(false,((0:Int),(false,((0:Int),((0:Int),([],((0:Int),((0:Int),((0:Int),((0:Int),((0:Int),(false,([],([],((0:Int),([],([],((0:Int),((0:Int),((0:Int),((0:Int),((0:Int),(false,(false,((0:Int),([],([],())))))))))))))))))))))))))))))))))))))))))),(false,())),()))
   else some (((r0.1.1.1,(([]++y.2.1),(r1.1.1.1,(r1.1.1.2.1,(r2.1.1.1,(r2.1.1.2.1,(r2.1.1.2.2.1,(r2.1.1.2.2.2.1,(r2.1.1.2.2.2.2.1,(r2.1.1.2.2.2.2.2.1,(r2.1.1.2.2.2.2.2.2.1,(r2.1.1.2.2.2.2.2.2.2.1,(false,((0:Int),((0:Int),(false,((0:Int),(false,((0:Int),((0:Int),([],(r3.1.1.1,(r3.1.1.2.1,(r3.1.1.2.2.1,(r3.1.1.2.2.2.1,(r3.1.1.2.2.2.2.1,(r3.1.1.2.2.2.2.2.1,(r3.1.1.2.2.2.2.2.2.1,(r3.1.1.2.2.2.2.2.2.2.1,(y.2.2.1,([],([],((0:Int),((0:Int),((0:Int),((0:Int),((0:Int),(false,(false,(y.2.2.1,([],([],())))))))))))))))))))))))))))))))))))))))))),(true,())),()))
  else none
theorem s256 (c251:F251) (c250:F250) (c252:F252) (c29:F29) (c111:F111) (y):TE [g251 c251,g250 c250,g252 c252,g29 c29,g111 c111] Tryz.f256 i256 o256 y=m256 c251 c250 c252 c29 c111 y:=by kernel_rfl
noncomputable def r256:F256:=m256 r251 r250 r252 r29 r111
theorem k256:KO (g256 r256):=fk (s256 r251 r250 r252 r29 r111) ⟨k251,k250,k252,k29,k111,⟨⟩⟩ (by kernel_rfl)
abbrev i186:Ts:=[.p q12]
abbrev o186:Ts:=[.a q13]
abbrev F186:=FT i186 o186
abbrev g186:=mkG 186 i186 o186
abbrev lc186_0:Ts:=[]
abbrev lb186_0:Ts:=[.p q12]
abbrev lv186_0:Ts:=[.v (.sl true .i), .v (.int .i64)]
abbrev lr186_0:Ts:=[]
abbrev R186_0:=Option (Sum (PTup lv186_0) (PTup lr186_0)×BTup lb186_0)
abbrev B186_0:=PTup lb186_0→PTup lv186_0→R186_0
abbrev A186_0:=PTup lc186_0→B186_0
noncomputable def w186_0 (c256:F256) (c157:F157) (c257:F257) (again:B186_0) (x:PTup lc186_0) (y:PTup lb186_0) (z:PTup lv186_0):R186_0:=
  (c157 (y.1,((4:Int),()))).bind fun r0=>
  bif (ltI z.2.1 r0.1.1)then ((c157 ((y.1.1,r0.2.1.2),((256:Int),()))).bind fun r1=>
   bif (leN ((List.length z.1)+(List.length (r1.1.1::[]))) (E.most .i))then (again ((y.1.1,r1.2.1.2),()) ((z.1++(r1.1.1::[])),((wI (z.2.1+1)),())))
   else none)
  else some ((Sum.inl z),((y.1.1,r0.2.1.2),()))
noncomputable def e186_0 (l:A186_0):LoopE:=⟨[],lc186_0,[0],lb186_0,[3,4],lv186_0,[],lr186_0,0,[],l⟩
noncomputable def m186 (c256:F256) (c157:F157) (c257:F257) (l0:A186_0) (y:PTup i186):Option (PTup o186×BTup i186):=
  (l0 () (y.1,()) ([],((0:Int),()))).bind fun r0=>
  sumElim r0.1 (fun r1=>(c257 ((y.1.1,r0.2.1.2),())).bind fun r2=>
   (c157 ((y.1.1,r2.2.1.2),((5:Int),()))).bind fun r3=>
   (c256 (r2.1.1,(r1.1,((wI ((1:Int)+r3.1.1)),())))).bind fun r4=>
   some ((r4.1.1,()),((y.1.1,r3.2.1.2),())))
  (fun r1=>some ((([],([],([],((0:Int),((0:Int),((0:Int),((0:Int),((0:Int),(false,(false,(false,(false,(false,((0:Int),((0:Int),(false,((0:Int),(false,((0:Int),((0:Int),([],((0:Int),((0:Int),((0:Int),((0:Int),((0:Int),(false,([],([],((0:Int),([],([],((0:Int),((0:Int),((0:Int),((0:Int),((0:Int),(false,(false,((0:Int),([],([],())))))))))))))))))))))))))))))))))))))))))),()),((y.1.1,r0.2.1.2),())))
noncomputable def E186 (c256:F256) (c157:F157) (c257:F257) (l0:A186_0):CEnv:=⟨⟨Tryz.prog,fnsL [g256 c256,g157 c157,g257 c257]⟩,loopsL [(3,e186_0 l0)]⟩
theorem t186_0 (c256:F256) (c157:F157) (c257:F257) (l0:A186_0) (again) (x y z):loopRound (E186 c256 c157 c257 l0) (loopAt (bodyOf Tryz.f186) 0) (e186_0 l0) Tryz.f186.ntmps again x y z=w186_0 c256 c157 c257 again x y z:=by kernel_rfl
noncomputable def n186_0 (c256:F256) (c157:F157) (c257:F257):Nat→A186_0
  |0,_,_,_=>none
  |n+1,x,y,z=>w186_0 c256 c157 c257 (fun y z=>n186_0 c256 c157 c257 n x y z) x y z
theorem s186 (c256:F256) (c157:F157) (c257:F257) (l0:A186_0) (y):tevF (E186 c256 c157 c257 l0) Tryz.f186 i186 o186 y=m186 c256 c157 c257 l0 y:=by kernel_rfl
noncomputable def L186_0:A186_0:=n186_0 r256 r157 r257 fuel
noncomputable def r186:F186:=m186 r256 r157 r257 L186_0
theorem k186:KO (g186 r186):=by
  have hE: ∀g f,(E186 r256 r157 r257 L186_0).env.fns g=some f→CallOk Tryz.prog g f:=fnsL_ok ⟨k256,k157,k257,⟨⟩⟩
  have h0:LoopOk Tryz.prog Tryz.f186.ntmps (loopAt (bodyOf Tryz.f186) 0) (e186_0 L186_0):=lp_ok (E:=E186 r256 r157 r257 L186_0) rfl hE mixed (AllLoops.of_list (l:=[]) (by kernel_rfl) trivial) (n186_0 r256 r157 r257) (fun _ _ _=>rfl) (fun n x y z=>t186_0 r256 r157 r257 L186_0 _ x y z) rfl
  exact fn_ok (E:=E186 r256 r157 r257 L186_0) rfl hE mixed (by kernel_rfl) (by kernel_rfl) (AllLoops.of_list (l:=[(loopAt (bodyOf Tryz.f186) 0)]) (by kernel_rfl) (.one (by kernel_rfl) h0 trivial)) (s186 r256 r157 r257 L186_0)
abbrev i261:Ts:=[.a q4]
abbrev o261:Ts:=[.a [.int .i64, .sl true .t]]
abbrev F261:=FT i261 o261
abbrev g261:=mkG 261 i261 o261
noncomputable def m261 (y:PTup i261):Option (PTup o261×BTup i261):=
  bif (leN (0+(List.length y.1.2.1)) (E.most .t))then (some (((y.1.1,(([]++y.1.2.1),())),()),()))
  else none
theorem s261 (y):TE [] Tryz.f261 i261 o261 y=m261 y:=by kernel_rfl
noncomputable def r261:F261:=m261
theorem k261:KO (g261 r261):=fk (s261) trivial (by kernel_rfl)
abbrev i197:Ts:=[.a q5]
abbrev o197:Ts:=[.a q14]
abbrev F197:=FT i197 o197
abbrev g197:=mkG 197 i197 o197
noncomputable def m197 (c118:F118) (c261:F261) (c113:F113) (y:PTup i197):Option (PTup o197×BTup i197):=
  (c113 ((y.1.1,(y.1.2.1,(y.1.2.2.1,(y.1.2.2.2.1,(y.1.2.2.2.2.1,(y.1.2.2.2.2.2.1,(y.1.2.2.2.2.2.2.1,(y.1.2.2.2.2.2.2.2.1,())))))))),())).bind fun r0=>
  (c261 ((y.1.2.2.2.2.2.2.2.2.1,(y.1.2.2.2.2.2.2.2.2.2.1,())),())).bind fun r1=>
  (c118 y.1.2.2.2.2.2.2.2.2.2.2).bind fun r2=>
  some (((r0.1.1.1,(r0.1.1.2.1,(r0.1.1.2.2.1,(r0.1.1.2.2.2.1,(r0.1.1.2.2.2.2.1,(r0.1.1.2.2.2.2.2.1,(r0.1.1.2.2.2.2.2.2.1,(r0.1.1.2.2.2.2.2.2.2.1,(r1.1.1.1,(r1.1.1.2.1,r2.1)))))))))),()),())
theorem s197 (c118:F118) (c261:F261) (c113:F113) (y):TE [g118 c118,g261 c261,g113 c113] Tryz.f197 i197 o197 y=m197 c118 c261 c113 y:=by kernel_rfl
noncomputable def r197:F197:=m197 r118 r261 r113
theorem k197:KO (g197 r197):=fk (s197 r118 r261 r113) ⟨k118,k261,k113,⟨⟩⟩ (by kernel_rfl)
abbrev i198:Ts:=[.a q7]
abbrev o198:Ts:=[.a q15]
abbrev F198:=FT i198 o198
abbrev g198:=mkG 198 i198 o198
noncomputable def m198 (c261:F261) (y:PTup i198):Option (PTup o198×BTup i198):=
  (c261 ((y.1.2.2.2.2.2.2.2.1,(y.1.2.2.2.2.2.2.2.2.1,())),())).bind fun r0=>
  bif (leN (0+(List.length y.1.2.2.2.2.2.2.2.2.2.1)) (E.most .i))then (some (((y.1.1,(y.1.2.1,(y.1.2.2.1,(y.1.2.2.2.1,(y.1.2.2.2.2.1,(y.1.2.2.2.2.2.1,(y.1.2.2.2.2.2.2.1,(r0.1.1.1,(r0.1.1.2.1,(([]++y.1.2.2.2.2.2.2.2.2.2.1),())))))))))),()),()))
  else none
theorem s198 (c261:F261) (y):TE [g261 c261] Tryz.f198 i198 o198 y=m198 c261 y:=by kernel_rfl
noncomputable def r198:F198:=m198 r261
theorem k198:KO (g198 r198):=fk (s198 r261) ⟨k261,⟨⟩⟩ (by kernel_rfl)
abbrev i130:Ts:=[.a q8]
abbrev o130:Ts:=[.a q13]
abbrev F130:=FT i130 o130
abbrev g130:=mkG 130 i130 o130
noncomputable def m130 (c111:F111) (c197:F197) (c198:F198) (c112:F112) (y:PTup i130):Option (PTup o130×BTup i130):=
  let a0:=y.1;let a1:=a0.2;let a2:=a1.2;let a3:=a2.2;let a4:=a3.2;let a5:=a4.2;let a6:=a5.2;let a7:=a6.2;let a8:=a7.2;let a9:=a8.2;let a10:=a9.2;let a11:=a10.2;let a12:=a11.2;let a13:=a12.2;let a14:=a13.2;let a15:=a14.2;let a16:=a15.2;let a17:=a16.2;let a18:=a17.2;let a19:=a18.2;let a20:=a19.2;let a21:=a20.2;let a22:=a21.2;let a23:=a22.2;let a24:=a23.2.2;let a25:=a24.2.2;(c111 ((a0.1,()),())).bind fun r0=>
  bif (leN (0+(List.length a1.1)) (E.most .i))then ((c112 ((a2.1,(a3.1,())),())).bind fun r1=>
   bif (leN (0+(List.length a20.1)) (E.most .i))then ((c197 ((a21.1,(a22.1,(a23.1,(a23.2.1,(a24.1,(a24.2.1,(a25.1,(a25.2.1,(a25.2.2.1,(a25.2.2.2.1,(a25.2.2.2.2.1,()))))))))))),())).bind fun r2=>
    (c198 (a25.2.2.2.2.2,())).bind fun r3=>
    some (((r0.1.1.1,(([]++a1.1),(r1.1.1.1,(r1.1.1.2.1,(a4.1,(a5.1,(a6.1,(a7.1,(a8.1,(a9.1,(a10.1,(a11.1,(a12.1,(a13.1,(a14.1,(a15.1,(a16.1,(a17.1,(a18.1,(a19.1,(([]++a20.1),(r2.1.1.1,(r2.1.1.2.1,(r2.1.1.2.2.1,(r2.1.1.2.2.2.1,(r2.1.1.2.2.2.2.1,(r2.1.1.2.2.2.2.2.1,(r2.1.1.2.2.2.2.2.2.1,(r2.1.1.2.2.2.2.2.2.2.1,(r2.1.1.2.2.2.2.2.2.2.2.1,(r2.1.1.2.2.2.2.2.2.2.2.2.1,(r2.1.1.2.2.2.2.2.2.2.2.2.2.1,r3.1.1)))))))))))))))))))))))))))))))),()),()))
   else none)
  else none
theorem s130 (c111:F111) (c197:F197) (c198:F198) (c112:F112) (y):TE [g111 c111,g197 c197,g198 c198,g112 c112] Tryz.f130 i130 o130 y=m130 c111 c197 c198 c112 y:=by kernel_rfl
noncomputable def r130:F130:=m130 r111 r197 r198 r112
theorem k130:KO (g130 r130):=fk (s130 r111 r197 r198 r112) ⟨k111,k197,k198,k112,⟨⟩⟩ (by kernel_rfl)
abbrev i207:Ts:=[.a q8, .v (.int .i64)]
abbrev o207:Ts:=[.v (.int .i64)]
abbrev F207:=FT i207 o207
abbrev g207:=mkG 207 i207 o207
noncomputable def m207 (y:PTup i207):Option (PTup o207×BTup i207):=
  bif (ltI 20000 (wI (y.1.2.2.2.2.2.2.2.2.2.2.2.2.2.2.1+y.2.1)))then (some (((5:Int),()),()))
  else some (((0:Int),()),())
theorem s207 (y):TE [] Tryz.f207 i207 o207 y=m207 y:=by kernel_rfl
noncomputable def r207:F207:=m207
theorem k207:KO (g207 r207):=fk (s207) trivial (by kernel_rfl)
abbrev i238:Ts:=[.v (.int .i64), .v (.int .i64), .v (.int .i64), .v (.int .i64)]
abbrev o238:Ts:=[.v (.bool)]
abbrev F238:=FT i238 o238
abbrev g238:=mkG 238 i238 o238
noncomputable def m238 (c168:F168) (c158:F158) (y:PTup i238):Option (PTup o238×BTup i238):=
  (c168 (y.1,((0:Int),()))).bind fun r0=>
  (c158 (y.2.1,((20000:Int),()))).bind fun r1=>
  bif (leI r1.1.1 r0.1.1)then no
  else bif (neI y.2.2.2.1 0)then (bif (neI y.2.2.2.1 0)then (some (((ltI (wI (r0.1.1+(Int.tmod (wI ((wI (y.2.2.1-(Int.tmod r0.1.1 y.2.2.2.1)))+y.2.2.2.1)) y.2.2.2.1))) r1.1.1),()),()))
   else none)
  else none
theorem s238 (c168:F168) (c158:F158) (y):TE [g168 c168,g158 c158] Tryz.f238 i238 o238 y=m238 c168 c158 y:=by kernel_rfl
noncomputable def r238:F238:=m238 r168 r158
theorem k238:KO (g238 r238):=fk (s238 r168 r158) ⟨k168,k158,⟨⟩⟩ (by kernel_rfl)
abbrev i208:Ts:=[.v (.int .i64), .v (.int .i64)]
abbrev o208:Ts:=[.v (.bool)]
abbrev F208:=FT i208 o208
abbrev g208:=mkG 208 i208 o208
noncomputable def m208 (c238:F238) (y:PTup i208):Option (PTup o208×BTup i208):=
  (c238 (y.1,(y.2.1,((0:Int),((32:Int),()))))).bind fun r0=>
  some (r0.1,())
theorem s208 (c238:F238) (y):TE [g238 c238] Tryz.f208 i208 o208 y=m208 c238 y:=by kernel_rfl
noncomputable def r208:F208:=m208 r238
theorem k208:KO (g208 r208):=fk (s208 r238) ⟨k238,⟨⟩⟩ (by kernel_rfl)
abbrev i110:Ts:=[.a q8]
abbrev o110:Ts:=[.v (.bool)]
abbrev F110:=FT i110 o110
abbrev g110:=mkG 110 i110 o110
noncomputable def m110 (y:PTup i110):Option (PTup o110×BTup i110):=
  bif (eqI y.1.2.2.2.2.2.2.2.2.2.2.2.2.2.2.2.2.2.2.2.2.2.2.2.2.2.2.2.2.2.2.2.2.1 y.1.2.2.2.2.2.2.2.2.2.2.2.2.2.2.1)then (some (((eqI (lenI y.1.2.2.2.2.2.2.2.2.2.2.2.2.2.2.2.2.2.2.2.2.2.2.2.2.2.2.2.2.2.2.2.2.2.2.2.2.2.2.2.2.1) 0),()),()))
  else no
theorem s110 (y):TE [] Tryz.f110 i110 o110 y=m110 y:=by kernel_rfl
noncomputable def r110:F110:=m110
theorem k110:KO (g110 r110):=fk (s110) trivial (by kernel_rfl)
abbrev i209:Ts:=[.a q8]
abbrev o209:Ts:=[.v (.bool)]
abbrev F209:=FT i209 o209
abbrev g209:=mkG 209 i209 o209
noncomputable def m209 (c208:F208) (y:PTup i209):Option (PTup o209×BTup i209):=
  (c208 (y.1.2.2.2.2.2.2.2.2.2.2.2.2.2.2.2.2.2.2.1,(y.1.2.2.2.2.2.2.2.2.2.2.2.2.2.2.1,()))).bind fun r0=>
  bif r0.1.1 then (some ((y.1.2.2.2.2.2.2.2.2.2.2.2.2.2.2.2.2.2.2.2.2.2.2.2.2.2.2.2.2.2.2.2.2.2.2.2.2.2.2.1,()),()))
  else some ((y.1.2.2.2.2.2.2.2.2.2.2.2.2.2.2.2.2.2.1,()),())
theorem s209 (c208:F208) (y):TE [g208 c208] Tryz.f209 i209 o209 y=m209 c208 y:=by kernel_rfl
noncomputable def r209:F209:=m209 r208
theorem k209:KO (g209 r209):=fk (s209 r208) ⟨k208,⟨⟩⟩ (by kernel_rfl)
abbrev i109:Ts:=[.a q8]
abbrev o109:Ts:=[.v (.bool)]
abbrev F109:=FT i109 o109
abbrev g109:=mkG 109 i109 o109
noncomputable def m109 (y:PTup i109):Option (PTup o109×BTup i109):=
  bif (eqI y.1.2.2.2.2.2.2.2.2.2.2.2.2.2.2.2.2.2.2.2.2.2.1 y.1.2.2.2.2.2.2.2.2.2.2.2.2.2.2.1)then (some (((eqI (lenI y.1.2.2.2.2.2.2.2.2.2.2.2.2.2.2.2.2.2.2.2.2.2.2.2.2.2.2.2.2.2.2.1) 0),()),()))
  else no
theorem s109 (y):TE [] Tryz.f109 i109 o109 y=m109 y:=by kernel_rfl
noncomputable def r109:F109:=m109
theorem k109:KO (g109 r109):=fk (s109) trivial (by kernel_rfl)
abbrev i143:Ts:=[.a q8]
abbrev o143:Ts:=[.v (.int .i64)]
abbrev R143:=Option (PTup o143×BTup i143)
abbrev F143:=PTup i143→R143
abbrev g143:=mkG 143 i143 o143
noncomputable def m143 (c211:F211) (c208:F208) (c210:F210) (c213:F213) (c212:F212) (c209:F209) (c207:F207) (c109:F109) (c110:F110) (y:PTup i143):R143:=
  let a0:=y.1;let a1:=a0.2;let a2:=a1.2;let a3:=a2.2;let a4:=a3.2;let a5:=a4.2;let a6:=a5.2;let a7:=a6.2;let a8:=a7.2;let a9:=a8.2;let a10:=a9.2;let a11:=a10.2;let a12:=a11.2;let a13:=a12.2;let a14:=a13.2;let a15:=a14.2;let a16:=a15.2;let a17:=a16.2;let a18:=a17.2;let a19:=a18.2;let a20:=a19.2;let a21:=a20.2;let a22:=a21.2;let a23:=a22.2;let a24:=a23.2;let a25:=a24.2;let a26:=a25.2;let a27:=a26.2;let a28:=a27.2;let a29:=a28.2;let a30:=a29.1;let a31:=a29.2;let a32:=a31.1;let a33:=a31.2;let a34:=a33.2;let a35:=a34.2;let a36:=a35.2;let a37:=a36.2;let a38:=a37.2;let a39:=a38.2;let a40:=a39.2;let a41:=a40.2;let a42:=a41.2.1;bif a15.1 then ((c207 (a0,((7:Int),()))).bind fun r0=>some (r0.1,()))else bif (!a11.1)then ((c208 (a18.1,(a14.1,()))).bind fun r0=>bif r0.1.1 then ((c110 (a0,())).bind fun r1=>bif (!r1.1.1)then (some (((2:Int),()),()))else (c209 (a0,())).bind fun r2=>bif r2.1.1 then ((c207 (a0,((7:Int),()))).bind fun r3=>some (r3.1,()))else (c210 ((a0.1,()),((a2.1,(a3.1,())),(a7.1,())))).bind fun r3=>let X0:R143:=bif (eqI (lenI a42) a41.1)then (some (((4:Int),()),()))else (c213 (r3.1.1.1,())).bind fun r7=>(c207 (a0,r7.1)).bind fun r8=>some (r8.1,());let X1:R143:=bif (eqI (lenI a42) a41.1)then (some (((4:Int),()),()))else (c213 (r3.1.1.1,())).bind fun r6=>(c207 (a0,r6.1)).bind fun r7=>some (r7.1,());let X2:R143:=(c213 (r3.1.1.1,())).bind fun r7=>(c207 (a0,r7.1)).bind fun r8=>some (r8.1,());let X3:R143:=(c213 (r3.1.1.1,())).bind fun r6=>(c207 (a0,r6.1)).bind fun r7=>some (r7.1,());let X4:R143:=(c213 (r3.1.1.1,())).bind fun r8=>(c207 (a0,r8.1)).bind fun r9=>some (r9.1,());let X5:R143:=bif (eqI (lenI a42) a41.1)then (some (((4:Int),()),()))else X4;(c211 (r3.1.1,((a4.1,(a5.1,(a6.1,(a7.1,(a8.1,(a9.1,(a10.1,(a11.1,())))))))),()))).bind fun r4=>(c212 (r4.1.2.1,())).bind fun r5=>let X6:R143:=bif (eqI r4.1.1 1)then (bif (eqI r5.1.1 3)then ((c110 (a0,())).bind fun r6=>let X9:R143:=bif (eqI r4.1.1 2)then (bif (eqI r5.1.1 3)then X0 else X2)else X2;bif (!r6.1.1)then (some (((2:Int),()),()))else bif (eqI r4.1.1 2)then (bif (eqI r5.1.1 2)then (bif (eqI (lenI a32) a30)then (some (((3:Int),()),()))else X9)else X9)else X9)else bif (eqI r4.1.1 2)then (bif (eqI r5.1.1 2)then (bif (eqI (lenI a32) a30)then (some (((3:Int),()),()))else bif (eqI r4.1.1 2)then (bif (eqI r5.1.1 3)then X1 else X3)else X3)else bif (eqI r4.1.1 2)then (bif (eqI r5.1.1 3)then X1 else X3)else X3)else bif (eqI r4.1.1 2)then (bif (eqI r5.1.1 3)then X1 else X3)else X3)else bif (eqI r4.1.1 2)then (bif (eqI r5.1.1 2)then (bif (eqI (lenI a32) a30)then (some (((3:Int),()),()))else bif (eqI r4.1.1 2)then (bif (eqI r5.1.1 3)then X1 else X3)else X3)else bif (eqI r4.1.1 2)then (bif (eqI r5.1.1 3)then X1 else X3)else X3)else bif (eqI r4.1.1 2)then (bif (eqI r5.1.1 3)then X1 else X3)else X3;let X7:R143:=bif (eqI r4.1.1 2)then (bif (eqI r5.1.1 2)then (bif (eqI (lenI a32) a30)then (some (((3:Int),()),()))else bif (eqI r4.1.1 2)then (bif (eqI r5.1.1 3)then X0 else X2)else X2)else bif (eqI r4.1.1 2)then (bif (eqI r5.1.1 3)then X0 else X2)else X2)else bif (eqI r4.1.1 2)then (bif (eqI r5.1.1 3)then X0 else X2)else X2;let X8:R143:=bif (eqI r4.1.1 2)then (bif (eqI r5.1.1 3)then X5 else X4)else X4;bif (eqI r4.1.1 1)then (bif (eqI r5.1.1 2)then ((c109 (a0,())).bind fun r6=>bif (!r6.1.1)then (some (((1:Int),()),()))else bif (eqI r4.1.1 1)then (bif (eqI r5.1.1 3)then ((c110 (a0,())).bind fun r7=>bif (!r7.1.1)then (some (((2:Int),()),()))else bif (eqI r4.1.1 2)then (bif (eqI r5.1.1 2)then (bif (eqI (lenI a32) a30)then (some (((3:Int),()),()))else X8)else X8)else X8)else X7)else X7)else X6)else X6)else (c209 (a0,())).bind fun r1=>bif r1.1.1 then ((c207 (a0,((7:Int),()))).bind fun r2=>some (r2.1,()))else (c210 ((a0.1,()),((a2.1,(a3.1,())),(a7.1,())))).bind fun r2=>let X10:R143:=bif (eqI (lenI a42) a41.1)then (some (((4:Int),()),()))else (c213 (r2.1.1.1,())).bind fun r6=>(c207 (a0,r6.1)).bind fun r7=>some (r7.1,());let X11:R143:=bif (eqI (lenI a42) a41.1)then (some (((4:Int),()),()))else (c213 (r2.1.1.1,())).bind fun r5=>(c207 (a0,r5.1)).bind fun r6=>some (r6.1,());let X12:R143:=(c213 (r2.1.1.1,())).bind fun r6=>(c207 (a0,r6.1)).bind fun r7=>some (r7.1,());let X13:R143:=(c213 (r2.1.1.1,())).bind fun r5=>(c207 (a0,r5.1)).bind fun r6=>some (r6.1,());let X14:R143:=(c213 (r2.1.1.1,())).bind fun r7=>(c207 (a0,r7.1)).bind fun r8=>some (r8.1,());let X15:R143:=bif (eqI (lenI a42) a41.1)then (some (((4:Int),()),()))else X14;(c211 (r2.1.1,((a4.1,(a5.1,(a6.1,(a7.1,(a8.1,(a9.1,(a10.1,(a11.1,())))))))),()))).bind fun r3=>(c212 (r3.1.2.1,())).bind fun r4=>let X16:R143:=bif (eqI r3.1.1 1)then (bif (eqI r4.1.1 3)then ((c110 (a0,())).bind fun r5=>let X19:R143:=bif (eqI r3.1.1 2)then (bif (eqI r4.1.1 3)then X10 else X12)else X12;bif (!r5.1.1)then (some (((2:Int),()),()))else bif (eqI r3.1.1 2)then (bif (eqI r4.1.1 2)then (bif (eqI (lenI a32) a30)then (some (((3:Int),()),()))else X19)else X19)else X19)else bif (eqI r3.1.1 2)then (bif (eqI r4.1.1 2)then (bif (eqI (lenI a32) a30)then (some (((3:Int),()),()))else bif (eqI r3.1.1 2)then (bif (eqI r4.1.1 3)then X11 else X13)else X13)else bif (eqI r3.1.1 2)then (bif (eqI r4.1.1 3)then X11 else X13)else X13)else bif (eqI r3.1.1 2)then (bif (eqI r4.1.1 3)then X11 else X13)else X13)else bif (eqI r3.1.1 2)then (bif (eqI r4.1.1 2)then (bif (eqI (lenI a32) a30)then (some (((3:Int),()),()))else bif (eqI r3.1.1 2)then (bif (eqI r4.1.1 3)then X11 else X13)else X13)else bif (eqI r3.1.1 2)then (bif (eqI r4.1.1 3)then X11 else X13)else X13)else bif (eqI r3.1.1 2)then (bif (eqI r4.1.1 3)then X11 else X13)else X13;let X17:R143:=bif (eqI r3.1.1 2)then (bif (eqI r4.1.1 2)then (bif (eqI (lenI a32) a30)then (some (((3:Int),()),()))else bif (eqI r3.1.1 2)then (bif (eqI r4.1.1 3)then X10 else X12)else X12)else bif (eqI r3.1.1 2)then (bif (eqI r4.1.1 3)then X10 else X12)else X12)else bif (eqI r3.1.1 2)then (bif (eqI r4.1.1 3)then X10 else X12)else X12;let X18:R143:=bif (eqI r3.1.1 2)then (bif (eqI r4.1.1 3)then X15 else X14)else X14;bif (eqI r3.1.1 1)then (bif (eqI r4.1.1 2)then ((c109 (a0,())).bind fun r5=>bif (!r5.1.1)then (some (((1:Int),()),()))else bif (eqI r3.1.1 1)then (bif (eqI r4.1.1 3)then ((c110 (a0,())).bind fun r6=>bif (!r6.1.1)then (some (((2:Int),()),()))else bif (eqI r3.1.1 2)then (bif (eqI r4.1.1 2)then (bif (eqI (lenI a32) a30)then (some (((3:Int),()),()))else X18)else X18)else X18)else X17)else X17)else X16)else X16)else (c210 ((a0.1,()),((a2.1,(a3.1,())),(a7.1,())))).bind fun r0=>let X20:R143:=bif (eqI (lenI a42) a41.1)then (some (((4:Int),()),()))else (c213 (r0.1.1.1,())).bind fun r4=>(c207 (a0,r4.1)).bind fun r5=>some (r5.1,());let X21:R143:=bif (eqI (lenI a42) a41.1)then (some (((4:Int),()),()))else (c213 (r0.1.1.1,())).bind fun r3=>(c207 (a0,r3.1)).bind fun r4=>some (r4.1,());let X22:R143:=(c213 (r0.1.1.1,())).bind fun r4=>(c207 (a0,r4.1)).bind fun r5=>some (r5.1,());let X23:R143:=(c213 (r0.1.1.1,())).bind fun r3=>(c207 (a0,r3.1)).bind fun r4=>some (r4.1,());let X24:R143:=(c213 (r0.1.1.1,())).bind fun r5=>(c207 (a0,r5.1)).bind fun r6=>some (r6.1,());let X25:R143:=bif (eqI (lenI a42) a41.1)then (some (((4:Int),()),()))else X24;(c211 (r0.1.1,((a4.1,(a5.1,(a6.1,(a7.1,(a8.1,(a9.1,(a10.1,(a11.1,())))))))),()))).bind fun r1=>(c212 (r1.1.2.1,())).bind fun r2=>let X26:R143:=bif (eqI r1.1.1 1)then (bif (eqI r2.1.1 3)then ((c110 (a0,())).bind fun r3=>let X29:R143:=bif (eqI r1.1.1 2)then (bif (eqI r2.1.1 3)then X20 else X22)else X22;bif (!r3.1.1)then (some (((2:Int),()),()))else bif (eqI r1.1.1 2)then (bif (eqI r2.1.1 2)then (bif (eqI (lenI a32) a30)then (some (((3:Int),()),()))else X29)else X29)else X29)else bif (eqI r1.1.1 2)then (bif (eqI r2.1.1 2)then (bif (eqI (lenI a32) a30)then (some (((3:Int),()),()))else bif (eqI r1.1.1 2)then (bif (eqI r2.1.1 3)then X21 else X23)else X23)else bif (eqI r1.1.1 2)then (bif (eqI r2.1.1 3)then X21 else X23)else X23)else bif (eqI r1.1.1 2)then (bif (eqI r2.1.1 3)then X21 else X23)else X23)else bif (eqI r1.1.1 2)then (bif (eqI r2.1.1 2)then (bif (eqI (lenI a32) a30)then (some (((3:Int),()),()))else bif (eqI r1.1.1 2)then (bif (eqI r2.1.1 3)then X21 else X23)else X23)else bif (eqI r1.1.1 2)then (bif (eqI r2.1.1 3)then X21 else X23)else X23)else bif (eqI r1.1.1 2)then (bif (eqI r2.1.1 3)then X21 else X23)else X23;let X27:R143:=bif (eqI r1.1.1 2)then (bif (eqI r2.1.1 2)then (bif (eqI (lenI a32) a30)then (some (((3:Int),()),()))else bif (eqI r1.1.1 2)then (bif (eqI r2.1.1 3)then X20 else X22)else X22)else bif (eqI r1.1.1 2)then (bif (eqI r2.1.1 3)then X20 else X22)else X22)else bif (eqI r1.1.1 2)then (bif (eqI r2.1.1 3)then X20 else X22)else X22;let X28:R143:=bif (eqI r1.1.1 2)then (bif (eqI r2.1.1 3)then X25 else X24)else X24;bif (eqI r1.1.1 1)then (bif (eqI r2.1.1 2)then ((c109 (a0,())).bind fun r3=>bif (!r3.1.1)then (some (((1:Int),()),()))else bif (eqI r1.1.1 1)then (bif (eqI r2.1.1 3)then ((c110 (a0,())).bind fun r4=>bif (!r4.1.1)then (some (((2:Int),()),()))else bif (eqI r1.1.1 2)then (bif (eqI r2.1.1 2)then (bif (eqI (lenI a32) a30)then (some (((3:Int),()),()))else X28)else X28)else X28)else X27)else X27)else X26)else X26
theorem s143 (c211:F211) (c208:F208) (c210:F210) (c213:F213) (c212:F212) (c209:F209) (c207:F207) (c109:F109) (c110:F110) (y):TE [g211 c211,g208 c208,g210 c210,g213 c213,g212 c212,g209 c209,g207 c207,g109 c109,g110 c110] Tryz.f143 i143 o143 y=m143 c211 c208 c210 c213 c212 c209 c207 c109 c110 y:=by kernel_rfl
noncomputable def r143:F143:=m143 r211 r208 r210 r213 r212 r209 r207 r109 r110
theorem k143:KO (g143 r143):=fk (s143 r211 r208 r210 r213 r212 r209 r207 r109 r110) ⟨k211,k208,k210,k213,k212,k209,k207,k109,k110,⟨⟩⟩ (by kernel_rfl)
abbrev i234:Ts:=[.a q13, .v (.bool)]
abbrev o234:Ts:=[.a q13]
abbrev F234:=FT i234 o234
abbrev g234:=mkG 234 i234 o234
noncomputable def m234 (y:PTup i234):Option (PTup o234×BTup i234):=
  some (((y.1.1,(y.1.2.1,(y.1.2.2.1,(y.1.2.2.2.1,(y.1.2.2.2.2.1,(y.1.2.2.2.2.2.1,(y.1.2.2.2.2.2.2.1,(y.1.2.2.2.2.2.2.2.1,(y.1.2.2.2.2.2.2.2.2.1,(y.1.2.2.2.2.2.2.2.2.2.1,(y.1.2.2.2.2.2.2.2.2.2.2.1,(y.1.2.2.2.2.2.2.2.2.2.2.2.1,(y.1.2.2.2.2.2.2.2.2.2.2.2.2.1,(y.1.2.2.2.2.2.2.2.2.2.2.2.2.2.1,(y.1.2.2.2.2.2.2.2.2.2.2.2.2.2.2.1,(y.1.2.2.2.2.2.2.2.2.2.2.2.2.2.2.2.1,(y.1.2.2.2.2.2.2.2.2.2.2.2.2.2.2.2.2.1,(y.2.1,(y.1.2.2.2.2.2.2.2.2.2.2.2.2.2.2.1,y.1.2.2.2.2.2.2.2.2.2.2.2.2.2.2.2.2.2.2.2))))))))))))))))))),()),())
theorem s234 (y):TE [] Tryz.f234 i234 o234 y=m234 y:=by kernel_rfl
noncomputable def r234:F234:=m234
theorem k234:KO (g234 r234):=fk (s234) trivial (by kernel_rfl)
abbrev i235:Ts:=[.a q13, .v (.int .i64)]
abbrev o235:Ts:=[.a q13, .v (.int .i64)]
abbrev F235:=FT i235 o235
abbrev g235:=mkG 235 i235 o235
noncomputable def m235 (c287:F287) (c288:F288) (c286:F286) (c212:F212) (c234:F234) (c289:F289) (y:PTup i235):Option (PTup o235×BTup i235):=
  let a0:=y.1;let a1:=a0.2;let a2:=a1.2;let a3:=a2.2;let a4:=a3.2;let a5:=a4.2;let a6:=a5.2;let a7:=a6.2;let a8:=a7.2;let a9:=a8.2;let a10:=a9.2;let a11:=a10.2;let a12:=a11.2;let a13:=a12.2;let a14:=a13.2;let a15:=a14.2;let a16:=a15.2;let a17:=a16.2;let a18:=a17.2;let a19:=a18.2;let a20:=a19.2;let a21:=a20.2;let a22:=a21.2;let a23:=a22.2;let a24:=a23.2;let a25:=a24.2;let a26:=a25.2;let a27:=a26.2;let a28:=a27.2;let a29:=a28.2;let a30:=a29.2;let a31:=a30.2;let a32:=a31.2.2;let a33:=a32.2.2;(c212 y.2).bind fun r0=>
  bif (eqI r0.1.1 2)then ((c286 ((a21.1,(a22.1,(a23.1,(a24.1,(a25.1,(a26.1,(a27.1,(a28.1,())))))))),r0.1.2)).bind fun r1=>
   bif (leN ((List.length a20.1)+(List.length (r1.1.2.1::[]))) (E.most .i))then (some (((a0.1,(a1.1,(a2.1,(a3.1,(a4.1,(a5.1,(a6.1,(a7.1,(a8.1,(a9.1,(a10.1,(a11.1,(a12.1,(a13.1,(a14.1,(a15.1,(a16.1,(a17.1,(a18.1,(a19.1,((a20.1++(r1.1.2.1::[])),(r1.1.1.1,(r1.1.1.2.1,(r1.1.1.2.2.1,(r1.1.1.2.2.2.1,(r1.1.1.2.2.2.2.1,(r1.1.1.2.2.2.2.2.1,(r1.1.1.2.2.2.2.2.2.1,(r1.1.1.2.2.2.2.2.2.2.1,a29))))))))))))))))))))))))))))),r1.1.2),()))
   else none)
  else bif (eqI r0.1.1 3)then ((c287 ((a31.2.1,(a32.1,(a32.2.1,(a33.1,(a33.2.1,(a33.2.2.1,(a33.2.2.2.1,()))))))),r0.1.2)).bind fun r1=>
   bif (eqI r0.1.2.1 2)then ((c234 ((a0.1,(a1.1,(a2.1,(a3.1,(a4.1,(a5.1,(a6.1,(a7.1,(a8.1,(a9.1,(a10.1,(a11.1,(a12.1,(a13.1,(a14.1,(a15.1,(a16.1,(a17.1,(a18.1,(a19.1,(a20.1,(a21.1,(a22.1,(a23.1,(a24.1,(a25.1,(a26.1,(a27.1,(a28.1,(a29.1,(a30.1,(a31.1,(r1.1.1.1,(r1.1.1.2.1,(r1.1.1.2.2.1,(r1.1.1.2.2.2.1,(r1.1.1.2.2.2.2.1,(r1.1.1.2.2.2.2.2.1,(r1.1.1.2.2.2.2.2.2.1,a33.2.2.2.2))))))))))))))))))))))))))))))))))))))),(false,()))).bind fun r2=>let f0:=r2.1;let f1:=f0.1;let f2:=f1.2;let f3:=f2.2;let f4:=f3.2;let f5:=f4.2;let f6:=f5.2;let f7:=f6.2;let f8:=f7.2;let f9:=f8.2;let f10:=f9.2.2;let f11:=f10.2;let f12:=f11.2;let f13:=f12.2;let f14:=f13.2.2;let f15:=f14.2.2;bif (leN ((List.length f15.2.2.2.1)+(List.length (r1.1.2.1::[]))) (E.most .i))then (some (((f1.1,(f2.1,(f3.1,(f4.1,(f5.1,(f6.1,(f7.1,(f8.1,(f9.1,(f9.2.1,(f10.1,(f11.1,(f12.1,(f13.1,(f13.2.1,(f14.1,(f14.2.1,(f15.1,(f15.2.1,(f15.2.2.1,((f15.2.2.2.1++(r1.1.2.1::[])),f15.2.2.2.2))))))))))))))))))))),r1.1.2),()))
    else none)
   else bif (leN ((List.length a20.1)+(List.length (r1.1.2.1::[]))) (E.most .i))then (some (((a0.1,(a1.1,(a2.1,(a3.1,(a4.1,(a5.1,(a6.1,(a7.1,(a8.1,(a9.1,(a10.1,(a11.1,(a12.1,(a13.1,(a14.1,(a15.1,(a16.1,(a17.1,(a18.1,(a19.1,((a20.1++(r1.1.2.1::[])),(a21.1,(a22.1,(a23.1,(a24.1,(a25.1,(a26.1,(a27.1,(a28.1,(a29.1,(a30.1,(a31.1,(r1.1.1.1,(r1.1.1.2.1,(r1.1.1.2.2.1,(r1.1.1.2.2.2.1,(r1.1.1.2.2.2.2.1,(r1.1.1.2.2.2.2.2.1,(r1.1.1.2.2.2.2.2.2.1,a33.2.2.2.2))))))))))))))))))))))))))))))))))))))),r1.1.2),()))
   else none)
  else bif (eqI r0.1.1 4)then ((c288 ((a12.1,(a13.1,())),(a1.1,(a14.1,())))).bind fun r1=>
   bif (leN ((List.length a20.1)+(List.length (r1.1.2.1::[]))) (E.most .i))then (some (((a0.1,(a1.1,(a2.1,(a3.1,(a4.1,(a5.1,(a6.1,(a7.1,(a8.1,(a9.1,(a10.1,(a11.1,(r1.1.1.1,(r1.1.1.2.1,(a14.1,(a15.1,(a16.1,(a17.1,(a18.1,(a19.1,((a20.1++(r1.1.2.1::[])),a21))))))))))))))))))))),r1.1.2),()))
   else none)
  else (c289 ((a0.1,()),((a2.1,(a3.1,())),y.2))).bind fun r1=>
  some ((a0,r1.1),())
theorem s235 (c287:F287) (c288:F288) (c286:F286) (c212:F212) (c234:F234) (c289:F289) (y):TE [g287 c287,g288 c288,g286 c286,g212 c212,g234 c234,g289 c289] Tryz.f235 i235 o235 y=m235 c287 c288 c286 c212 c234 c289 y:=by kernel_rfl
noncomputable def r235:F235:=m235 r287 r288 r286 r212 r234 r289
theorem k235:KO (g235 r235):=fk (s235 r287 r288 r286 r212 r234 r289) ⟨k287,k288,k286,k212,k234,k289,⟨⟩⟩ (by kernel_rfl)
abbrev i236:Ts:=[.a q13, .v (.int .i64), .v (.int .i64)]
abbrev o236:Ts:=[.a q13]
abbrev R236:=Option (PTup o236×BTup i236)
abbrev F236:=PTup i236→R236
abbrev g236:=mkG 236 i236 o236
noncomputable def m236 (c290:F290) (c291:F291) (c212:F212) (c234:F234) (y:PTup i236):R236:=
  let a0:=y.1;let a1:=a0.2;let a2:=y.2.2;let a3:=a1.2;let a4:=a3.2;let a5:=a4.2;let a6:=a5.2;let a7:=a6.2;let a8:=a7.2;let a9:=a8.2;let a10:=a9.2;let a11:=a10.2;let a12:=a11.2;let a13:=a12.2;let a14:=a13.2;let a15:=a14.2;let a16:=a15.1;let a17:=a15.2;let a18:=a17.2;let a19:=a18.2;let a20:=a19.2;let a21:=a20.2;let a22:=a21.2;let a23:=a22.2;let a24:=a23.2;let a25:=a24.2;let a26:=a25.2;let a27:=a26.2;let a28:=a27.2;let a29:=a28.2;let a30:=a29.2;let a31:=a30.2;let a32:=a31.2;let a33:=a32.2;let a34:=a33.2;let a35:=a34.2;let a36:=a35.2;let a37:=a36.2;let a38:=a37.2;let a39:=a38.2;let a40:=a39.2.2;(c212 (y.2.1,())).bind fun r0=>let X0:R236:=(c234 ((a0.1,(a1.1,(a3.1,(a4.1,(a5.1,(a6.1,(a7.1,(a8.1,(a9.1,(a10.1,(a11.1,(a12.1,(a13.1,(a14.1,(a16,(a17.1,(a18.1,(a19.1,(a20.1,(a21.1,(a22.1,(a23.1,(a24.1,(a25.1,(a26.1,(a27.1,(a28.1,(a29.1,(a30.1,(a31.1,(a32.1,(a33.1,(a34.1,(a35.1,(a36.1,(a37.1,(a38.1,(a39.1,(a39.2.1,(a40.1,((a40.2.1++((a16,(r0.1.2.1,a2.1))::[])),a40.2.2))))))))))))))))))))))))))))))))))))))))),(false,()))).bind fun r1=>some ((r1.1.1,()),());let X1:R236:=some (((a0.1,(a1.1,(a3.1,(a4.1,(a5.1,(a6.1,(a7.1,(a8.1,(a9.1,(a10.1,(a11.1,(a12.1,(a13.1,(a14.1,(a16,(a17.1,(a18.1,(a19.1,(a20.1,(a21.1,(a22.1,(a23.1,(a24.1,(a25.1,(a26.1,(a27.1,(a28.1,(a29.1,(a30.1,(a31.1,(a32.1,(a33.1,(a34.1,(a35.1,(a36.1,(a37.1,(a38.1,(a39.1,(a39.2.1,(a40.1,((a40.2.1++((a16,(r0.1.2.1,a2.1))::[])),a40.2.2))))))))))))))))))))))))))))))))))))))))),()),());bif (eqI r0.1.1 2)then (bif (leN ((List.length a32.1)+(List.length ((a16,(r0.1.2.1,a2.1))::[]))) (E.most .t))then (bif (eqI r0.1.2.1 0)then (some (((a0.1,(a1.1,(a3.1,(a4.1,(a5.1,(a6.1,(a7.1,(a8.1,(a9.1,(a10.1,(a11.1,(a12.1,(a13.1,(a14.1,(a16,(a17.1,(a2.1,(a19.1,(a20.1,(a21.1,(a22.1,(a23.1,(a24.1,(a25.1,(a26.1,(a27.1,(a28.1,(a29.1,(a30.1,(a31.1,((a32.1++((a16,(r0.1.2.1,a2.1))::[])),a33))))))))))))))))))))))))))))))),()),()))else some (((a0.1,(a1.1,(a3.1,(a4.1,(a5.1,(a6.1,(a7.1,(a8.1,(a9.1,(a10.1,(a11.1,(a12.1,(a13.1,(a14.1,(a16,(a17.1,(a18.1,(a19.1,(a20.1,(a21.1,(a22.1,(a23.1,(a24.1,(a25.1,(a26.1,(a27.1,(a28.1,(a29.1,(a30.1,(a31.1,((a32.1++((a16,(r0.1.2.1,a2.1))::[])),a33))))))))))))))))))))))))))))))),()),()))else none)else bif (eqI r0.1.1 3)then (bif (leN ((List.length a40.2.1)+(List.length ((a16,(r0.1.2.1,a2.1))::[]))) (E.most .t))then (bif (eqI r0.1.2.1 3)then X0 else bif (eqI r0.1.2.1 2)then (bif (eqI (Int.tmod a2.1 2) (0:Int))then X0 else X1)else X1)else none)else bif (eqI r0.1.1 4)then ((c290 ((a13.1,(a14.1,())),(a1.1,(a16,a2)))).bind fun r1=>some (((a0.1,(a1.1,(a3.1,(a4.1,(a5.1,(a6.1,(a7.1,(a8.1,(a9.1,(a10.1,(a11.1,(a12.1,(r1.1.1.1,(r1.1.1.2.1,a15)))))))))))))),()),()))else (c291 ((a0.1,()),((a3.1,(a4.1,())),y.2))).bind fun r1=>some (((a0.1,(a1.1,(r1.1.1.1,(r1.1.1.2.1,a5)))),()),())
theorem s236 (c290:F290) (c291:F291) (c212:F212) (c234:F234) (y):TE [g290 c290,g291 c291,g212 c212,g234 c234] Tryz.f236 i236 o236 y=m236 c290 c291 c212 c234 y:=by kernel_rfl
noncomputable def r236:F236:=m236 r290 r291 r212 r234
theorem k236:KO (g236 r236):=fk (s236 r290 r291 r212 r234) ⟨k290,k291,k212,k234,⟨⟩⟩ (by kernel_rfl)
abbrev i160:Ts:=[.a q13]
abbrev o160:Ts:=[.a q13, .v (.int .i64)]
abbrev F160:=FT i160 o160
abbrev g160:=mkG 160 i160 o160
noncomputable def m160 (c211:F211) (c208:F208) (c233:F233) (c237:F237) (c210:F210) (c213:F213) (c234:F234) (c235:F235) (c236:F236) (y:PTup i160):Option (PTup o160×BTup i160):=
  let a0:=y.1;let a1:=a0.2;let a2:=a1.2;let a3:=a2.2;let a4:=a3.2;let a5:=a4.2;let a6:=a5.2;let a7:=a6.2;let a8:=a7.2;let a9:=a8.2;let a10:=a9.2;let a11:=a10.2;let a12:=a11.2;let a13:=a12.2.2;bif a13.2.1 then ((c233 ((a0.1,()),((a2.1,(a3.1,())),((a4.1,(a5.1,(a6.1,(a7.1,(a8.1,(a9.1,(a10.1,(a11.1,())))))))),((65530:Int),()))))).bind fun r0=>some (((a0.1,(a1.1,(r0.1.1.1,(r0.1.1.2.1,(r0.1.2.1.1,(r0.1.2.1.2.1,(r0.1.2.1.2.2.1,(r0.1.2.1.2.2.2.1,(r0.1.2.1.2.2.2.2.1,(r0.1.2.1.2.2.2.2.2.1,(r0.1.2.1.2.2.2.2.2.2.1,(r0.1.2.1.2.2.2.2.2.2.2.1,(a12.1,(a12.2.1,(a13.1,(false,a13.2.2)))))))))))))))),((7:Int),())),()))else bif (!a11.1)then ((c208 (a13.2.2.2.2.1,(a13.1,()))).bind fun r0=>bif r0.1.1 then ((c234 (a0,(a13.2.2.2.2.2.2.2.2.2.2.2.2.2.2.2.2.2.2.2.2.2.2.2.2.1,()))).bind fun r1=>let d0:=r1.1;let d1:=d0.1;let d2:=d1.2;let d3:=d2.2;let d4:=d3.2;let d5:=d4.2;let d6:=d5.2;let d7:=d6.2;let d8:=d7.2;let d9:=d8.2;let d10:=d9.2.2;bif d10.2.2.2.2.2.2.2.1 then ((c233 ((d1.1,()),((d3.1,(d4.1,())),((d5.1,(d6.1,(d7.1,(d8.1,(d9.1,(d9.2.1,(d10.1,(d10.2.1,())))))))),((65534:Int),()))))).bind fun r2=>some (((d1.1,(d2.1,(r2.1.1.1,(r2.1.1.2.1,(r2.1.2.1.1,(r2.1.2.1.2.1,(r2.1.2.1.2.2.1,(r2.1.2.1.2.2.2.1,(r2.1.2.1.2.2.2.2.1,(r2.1.2.1.2.2.2.2.2.1,(r2.1.2.1.2.2.2.2.2.2.1,(r2.1.2.1.2.2.2.2.2.2.2.1,d10.2.2)))))))))))),((7:Int),())),()))else (c210 ((d1.1,()),((d3.1,(d4.1,())),(d8.1,())))).bind fun r2=>(c211 (r2.1.1,((d5.1,(d6.1,(d7.1,(d8.1,(d9.1,(d9.2.1,(d10.1,(d10.2.1,())))))))),()))).bind fun r3=>bif (eqI r3.1.1 1)then ((c235 (d1,(r3.1.2.1,()))).bind fun r4=>(c237 ((r4.1.1.2.2.1,(r4.1.1.2.2.2.1,())),((r4.1.1.2.2.2.2.1,(r4.1.1.2.2.2.2.2.1,(r4.1.1.2.2.2.2.2.2.1,(r4.1.1.2.2.2.2.2.2.2.1,(r4.1.1.2.2.2.2.2.2.2.2.1,(r4.1.1.2.2.2.2.2.2.2.2.2.1,(r4.1.1.2.2.2.2.2.2.2.2.2.2.1,(r4.1.1.2.2.2.2.2.2.2.2.2.2.2.1,())))))))),(r2.1.1,r4.1.2)))).bind fun r5=>(c213 (r2.1.1.1,())).bind fun r6=>some (((r4.1.1.1,(r4.1.1.2.1,(r5.1.1.1,(r5.1.1.2.1,(r5.1.2.1.1,(r5.1.2.1.2.1,(r5.1.2.1.2.2.1,(r5.1.2.1.2.2.2.1,(r5.1.2.1.2.2.2.2.1,(r5.1.2.1.2.2.2.2.2.1,(r5.1.2.1.2.2.2.2.2.2.1,(r5.1.2.1.2.2.2.2.2.2.2.1,r4.1.1.2.2.2.2.2.2.2.2.2.2.2.2)))))))))))),r6.1),()))else bif (eqI r3.1.1 2)then ((c236 (d1,r3.1.2)).bind fun r4=>(c237 ((r4.1.1.2.2.1,(r4.1.1.2.2.2.1,())),((r4.1.1.2.2.2.2.1,(r4.1.1.2.2.2.2.2.1,(r4.1.1.2.2.2.2.2.2.1,(r4.1.1.2.2.2.2.2.2.2.1,(r4.1.1.2.2.2.2.2.2.2.2.1,(r4.1.1.2.2.2.2.2.2.2.2.2.1,(r4.1.1.2.2.2.2.2.2.2.2.2.2.1,(r4.1.1.2.2.2.2.2.2.2.2.2.2.2.1,())))))))),(r2.1.1,((0:Int),()))))).bind fun r5=>(c213 (r2.1.1.1,())).bind fun r6=>some (((r4.1.1.1,(r4.1.1.2.1,(r5.1.1.1,(r5.1.1.2.1,(r5.1.2.1.1,(r5.1.2.1.2.1,(r5.1.2.1.2.2.1,(r5.1.2.1.2.2.2.1,(r5.1.2.1.2.2.2.2.1,(r5.1.2.1.2.2.2.2.2.1,(r5.1.2.1.2.2.2.2.2.2.1,(r5.1.2.1.2.2.2.2.2.2.2.1,r4.1.1.2.2.2.2.2.2.2.2.2.2.2.2)))))))))))),r6.1),()))else (c237 ((d3.1,(d4.1,())),((d5.1,(d6.1,(d7.1,(d8.1,(d9.1,(d9.2.1,(d10.1,(d10.2.1,())))))))),(r2.1.1,((0:Int),()))))).bind fun r4=>(c213 (r2.1.1.1,())).bind fun r5=>some (((d1.1,(d2.1,(r4.1.1.1,(r4.1.1.2.1,(r4.1.2.1.1,(r4.1.2.1.2.1,(r4.1.2.1.2.2.1,(r4.1.2.1.2.2.2.1,(r4.1.2.1.2.2.2.2.1,(r4.1.2.1.2.2.2.2.2.1,(r4.1.2.1.2.2.2.2.2.2.1,(r4.1.2.1.2.2.2.2.2.2.2.1,d10.2.2)))))))))))),r5.1),()))else bif a13.2.2.2.1 then ((c233 ((a0.1,()),((a2.1,(a3.1,())),((a4.1,(a5.1,(a6.1,(a7.1,(a8.1,(a9.1,(a10.1,(a11.1,())))))))),((65534:Int),()))))).bind fun r1=>some (((a0.1,(a1.1,(r1.1.1.1,(r1.1.1.2.1,(r1.1.2.1.1,(r1.1.2.1.2.1,(r1.1.2.1.2.2.1,(r1.1.2.1.2.2.2.1,(r1.1.2.1.2.2.2.2.1,(r1.1.2.1.2.2.2.2.2.1,(r1.1.2.1.2.2.2.2.2.2.1,(r1.1.2.1.2.2.2.2.2.2.2.1,a12)))))))))))),((7:Int),())),()))else (c210 ((a0.1,()),((a2.1,(a3.1,())),(a7.1,())))).bind fun r1=>(c211 (r1.1.1,((a4.1,(a5.1,(a6.1,(a7.1,(a8.1,(a9.1,(a10.1,(a11.1,())))))))),()))).bind fun r2=>bif (eqI r2.1.1 1)then ((c235 (a0,(r2.1.2.1,()))).bind fun r3=>(c237 ((r3.1.1.2.2.1,(r3.1.1.2.2.2.1,())),((r3.1.1.2.2.2.2.1,(r3.1.1.2.2.2.2.2.1,(r3.1.1.2.2.2.2.2.2.1,(r3.1.1.2.2.2.2.2.2.2.1,(r3.1.1.2.2.2.2.2.2.2.2.1,(r3.1.1.2.2.2.2.2.2.2.2.2.1,(r3.1.1.2.2.2.2.2.2.2.2.2.2.1,(r3.1.1.2.2.2.2.2.2.2.2.2.2.2.1,())))))))),(r1.1.1,r3.1.2)))).bind fun r4=>(c213 (r1.1.1.1,())).bind fun r5=>some (((r3.1.1.1,(r3.1.1.2.1,(r4.1.1.1,(r4.1.1.2.1,(r4.1.2.1.1,(r4.1.2.1.2.1,(r4.1.2.1.2.2.1,(r4.1.2.1.2.2.2.1,(r4.1.2.1.2.2.2.2.1,(r4.1.2.1.2.2.2.2.2.1,(r4.1.2.1.2.2.2.2.2.2.1,(r4.1.2.1.2.2.2.2.2.2.2.1,r3.1.1.2.2.2.2.2.2.2.2.2.2.2.2)))))))))))),r5.1),()))else bif (eqI r2.1.1 2)then ((c236 (a0,r2.1.2)).bind fun r3=>(c237 ((r3.1.1.2.2.1,(r3.1.1.2.2.2.1,())),((r3.1.1.2.2.2.2.1,(r3.1.1.2.2.2.2.2.1,(r3.1.1.2.2.2.2.2.2.1,(r3.1.1.2.2.2.2.2.2.2.1,(r3.1.1.2.2.2.2.2.2.2.2.1,(r3.1.1.2.2.2.2.2.2.2.2.2.1,(r3.1.1.2.2.2.2.2.2.2.2.2.2.1,(r3.1.1.2.2.2.2.2.2.2.2.2.2.2.1,())))))))),(r1.1.1,((0:Int),()))))).bind fun r4=>(c213 (r1.1.1.1,())).bind fun r5=>some (((r3.1.1.1,(r3.1.1.2.1,(r4.1.1.1,(r4.1.1.2.1,(r4.1.2.1.1,(r4.1.2.1.2.1,(r4.1.2.1.2.2.1,(r4.1.2.1.2.2.2.1,(r4.1.2.1.2.2.2.2.1,(r4.1.2.1.2.2.2.2.2.1,(r4.1.2.1.2.2.2.2.2.2.1,(r4.1.2.1.2.2.2.2.2.2.2.1,r3.1.1.2.2.2.2.2.2.2.2.2.2.2.2)))))))))))),r5.1),()))else (c237 ((a2.1,(a3.1,())),((a4.1,(a5.1,(a6.1,(a7.1,(a8.1,(a9.1,(a10.1,(a11.1,())))))))),(r1.1.1,((0:Int),()))))).bind fun r3=>(c213 (r1.1.1.1,())).bind fun r4=>some (((a0.1,(a1.1,(r3.1.1.1,(r3.1.1.2.1,(r3.1.2.1.1,(r3.1.2.1.2.1,(r3.1.2.1.2.2.1,(r3.1.2.1.2.2.2.1,(r3.1.2.1.2.2.2.2.1,(r3.1.2.1.2.2.2.2.2.1,(r3.1.2.1.2.2.2.2.2.2.1,(r3.1.2.1.2.2.2.2.2.2.2.1,a12)))))))))))),r4.1),()))else (c210 ((a0.1,()),((a2.1,(a3.1,())),(a7.1,())))).bind fun r0=>(c211 (r0.1.1,((a4.1,(a5.1,(a6.1,(a7.1,(a8.1,(a9.1,(a10.1,(a11.1,())))))))),()))).bind fun r1=>bif (eqI r1.1.1 1)then ((c235 (a0,(r1.1.2.1,()))).bind fun r2=>(c237 ((r2.1.1.2.2.1,(r2.1.1.2.2.2.1,())),((r2.1.1.2.2.2.2.1,(r2.1.1.2.2.2.2.2.1,(r2.1.1.2.2.2.2.2.2.1,(r2.1.1.2.2.2.2.2.2.2.1,(r2.1.1.2.2.2.2.2.2.2.2.1,(r2.1.1.2.2.2.2.2.2.2.2.2.1,(r2.1.1.2.2.2.2.2.2.2.2.2.2.1,(r2.1.1.2.2.2.2.2.2.2.2.2.2.2.1,())))))))),(r0.1.1,r2.1.2)))).bind fun r3=>(c213 (r0.1.1.1,())).bind fun r4=>some (((r2.1.1.1,(r2.1.1.2.1,(r3.1.1.1,(r3.1.1.2.1,(r3.1.2.1.1,(r3.1.2.1.2.1,(r3.1.2.1.2.2.1,(r3.1.2.1.2.2.2.1,(r3.1.2.1.2.2.2.2.1,(r3.1.2.1.2.2.2.2.2.1,(r3.1.2.1.2.2.2.2.2.2.1,(r3.1.2.1.2.2.2.2.2.2.2.1,r2.1.1.2.2.2.2.2.2.2.2.2.2.2.2)))))))))))),r4.1),()))else bif (eqI r1.1.1 2)then ((c236 (a0,r1.1.2)).bind fun r2=>(c237 ((r2.1.1.2.2.1,(r2.1.1.2.2.2.1,())),((r2.1.1.2.2.2.2.1,(r2.1.1.2.2.2.2.2.1,(r2.1.1.2.2.2.2.2.2.1,(r2.1.1.2.2.2.2.2.2.2.1,(r2.1.1.2.2.2.2.2.2.2.2.1,(r2.1.1.2.2.2.2.2.2.2.2.2.1,(r2.1.1.2.2.2.2.2.2.2.2.2.2.1,(r2.1.1.2.2.2.2.2.2.2.2.2.2.2.1,())))))))),(r0.1.1,((0:Int),()))))).bind fun r3=>(c213 (r0.1.1.1,())).bind fun r4=>some (((r2.1.1.1,(r2.1.1.2.1,(r3.1.1.1,(r3.1.1.2.1,(r3.1.2.1.1,(r3.1.2.1.2.1,(r3.1.2.1.2.2.1,(r3.1.2.1.2.2.2.1,(r3.1.2.1.2.2.2.2.1,(r3.1.2.1.2.2.2.2.2.1,(r3.1.2.1.2.2.2.2.2.2.1,(r3.1.2.1.2.2.2.2.2.2.2.1,r2.1.1.2.2.2.2.2.2.2.2.2.2.2.2)))))))))))),r4.1),()))else (c237 ((a2.1,(a3.1,())),((a4.1,(a5.1,(a6.1,(a7.1,(a8.1,(a9.1,(a10.1,(a11.1,())))))))),(r0.1.1,((0:Int),()))))).bind fun r2=>(c213 (r0.1.1.1,())).bind fun r3=>some (((a0.1,(a1.1,(r2.1.1.1,(r2.1.1.2.1,(r2.1.2.1.1,(r2.1.2.1.2.1,(r2.1.2.1.2.2.1,(r2.1.2.1.2.2.2.1,(r2.1.2.1.2.2.2.2.1,(r2.1.2.1.2.2.2.2.2.1,(r2.1.2.1.2.2.2.2.2.2.1,(r2.1.2.1.2.2.2.2.2.2.2.1,a12)))))))))))),r3.1),())
theorem s160 (c211:F211) (c208:F208) (c233:F233) (c237:F237) (c210:F210) (c213:F213) (c234:F234) (c235:F235) (c236:F236) (y):TE [g211 c211,g208 c208,g233 c233,g237 c237,g210 c210,g213 c213,g234 c234,g235 c235,g236 c236] Tryz.f160 i160 o160 y=m160 c211 c208 c233 c237 c210 c213 c234 c235 c236 y:=by kernel_rfl
noncomputable def r160:F160:=m160 r211 r208 r233 r237 r210 r213 r234 r235 r236
theorem k160:KO (g160 r160):=fk (s160 r211 r208 r233 r237 r210 r213 r234 r235 r236) ⟨k211,k208,k233,k237,k210,k213,k234,k235,k236,⟨⟩⟩ (by kernel_rfl)
abbrev i161:Ts:=[.v (.int .i64), .v (.int .i64)]
abbrev o161:Ts:=[.v (.bool)]
abbrev F161:=FT i161 o161
abbrev g161:=mkG 161 i161 o161
noncomputable def m161 (c238:F238) (y:PTup i161):Option (PTup o161×BTup i161):=
  (c238 (y.1,(y.2.1,((48:Int),((64:Int),()))))).bind fun r0=>
  some (r0.1,())
theorem s161 (c238:F238) (y):TE [g238 c238] Tryz.f161 i161 o161 y=m161 c238 y:=by kernel_rfl
noncomputable def r161:F161:=m161 r238
theorem k161:KO (g161 r161):=fk (s161 r238) ⟨k238,⟨⟩⟩ (by kernel_rfl)
abbrev i52:Ts:=[.a q8]
abbrev o52:Ts:=[.a q13, .v (.bool)]
abbrev F52:=FT i52 o52
abbrev g52:=mkG 52 i52 o52
noncomputable def m52 (c161:F161) (c29:F29) (c130:F130) (c160:F160) (c143:F143) (y:PTup i52):Option (PTup o52×BTup i52):=
  (c29 (y.1,())).bind fun r0=>
  bif (!r0.1.1)then (some ((([],([],([],((0:Int),((0:Int),((0:Int),((0:Int),((0:Int),(false,(false,(false,(false,(false,((0:Int),((0:Int),(false,((0:Int),(false,((0:Int),((0:Int),([],((0:Int),((0:Int),((0:Int),((0:Int),((0:Int),(false,([],([],((0:Int),([],([],((0:Int),((0:Int),((0:Int),((0:Int),((0:Int),(false,(false,((0:Int),([],([],())))))))))))))))))))))))))))))))))))))))))),(false,())),()))
  else (c143 (y.1,())).bind fun r1=>
  bif (neI r1.1.1 0)then ((c130 (y.1,())).bind fun r2=>
   some ((r2.1.1,(false,())),()))
  else (c130 (y.1,())).bind fun r2=>
  (c160 (r2.1.1,())).bind fun r3=>let g0:=r3.1;let g1:=g0.1;let g2:=g1.2;let g3:=g2.2;let g4:=g3.2;let g5:=g4.2;let g6:=g5.2;let g7:=g6.2;let g8:=g7.2;let g9:=g8.2;let g10:=g9.2;let g11:=g10.2;let g12:=g11.2;let g13:=g12.2;let g14:=g13.2;let g15:=g14.2.2;let g16:=g15.2.2;bif (ltI 127 g15.2.1)then ((c161 (y.1.2.2.2.2.2.2.2.2.2.2.2.2.2.2.1,((wI (y.1.2.2.2.2.2.2.2.2.2.2.2.2.2.2.1+g0.2.1)),()))).bind fun r4=>
   some (((g1.1,(g2.1,(g3.1,(g4.1,(g5.1,(g6.1,(g7.1,(g8.1,(g9.1,(g10.1,(g11.1,(g12.1,(g13.1,(g14.1,((wI (y.1.2.2.2.2.2.2.2.2.2.2.2.2.2.2.1+g0.2.1)),(r4.1.1,(g15.2.1,(g16.1,(g16.2.1,((wI (y.1.2.2.2.2.2.2.2.2.2.2.2.2.2.2.2.2.2.2.2.1+1)),g16.2.2.2)))))))))))))))))))),(true,())),()))
  else some (((g1.1,(g2.1,(g3.1,(g4.1,(g5.1,(g6.1,(g7.1,(g8.1,(g9.1,(g10.1,(g11.1,(g12.1,(g13.1,(g14.1,((wI (y.1.2.2.2.2.2.2.2.2.2.2.2.2.2.2.1+g0.2.1)),(false,(g15.2.1,(g16.1,(g16.2.1,((wI (y.1.2.2.2.2.2.2.2.2.2.2.2.2.2.2.2.2.2.2.2.1+1)),g16.2.2.2)))))))))))))))))))),(true,())),())
theorem s52 (c161:F161) (c29:F29) (c130:F130) (c160:F160) (c143:F143) (y):TE [g161 c161,g29 c29,g130 c130,g160 c160,g143 c143] Tryz.f52 i52 o52 y=m52 c161 c29 c130 c160 c143 y:=by kernel_rfl
noncomputable def r52:F52:=m52 r161 r29 r130 r160 r143
theorem k52:KO (g52 r52):=fk (s52 r161 r29 r130 r160 r143) ⟨k161,k29,k130,k160,k143,⟨⟩⟩ (by kernel_rfl)
abbrev i163:Ts:=[.a q14, .v (.int .i64)]
abbrev o163:Ts:=[.a q14, .v (.bool)]
abbrev R163:=Option (PTup o163×BTup i163)
abbrev F163:=PTup i163→R163
abbrev g163:=mkG 163 i163 o163
noncomputable def m163 (c241:F241) (c242:F242) (y:PTup i163):R163:=
  let a0:=y.1;let a1:=a0.2;let a2:=a1.2;let a3:=a2.2;let a4:=a3.2;let a5:=a4.2;let a6:=a5.2;let a7:=a6.2;let a8:=a7.2;let a9:=a8.2;let X0:R163:=bif (leI y.2.1 a0.1)then (some ((a0,(false,())),()))else bif (eqI a0.1 20000)then (some ((a0,(false,())),()))else (c242 ((a0.1,(a1.1,(a2.1,(a3.1,(a4.1,(a5.1,(a6.1,(a7.1,())))))))),())).bind fun r0=>bif (eqI (Int.tmod a0.1 64) (48:Int))then (bif (leN ((List.length a9.2.1)+(List.length (r0.1.2.1::[]))) (E.most .n))then (some (((r0.1.1.1,(r0.1.1.2.1,(r0.1.1.2.2.1,(r0.1.1.2.2.2.1,(r0.1.1.2.2.2.2.1,(r0.1.1.2.2.2.2.2.1,(r0.1.1.2.2.2.2.2.2.1,(r0.1.1.2.2.2.2.2.2.2.1,(a8.1,(a9.1,((a9.2.1++(r0.1.2.1::[])),()))))))))))),(true,())),()))else none)else some (((r0.1.1.1,(r0.1.1.2.1,(r0.1.1.2.2.1,(r0.1.1.2.2.2.1,(r0.1.1.2.2.2.2.1,(r0.1.1.2.2.2.2.2.1,(r0.1.1.2.2.2.2.2.2.1,(r0.1.1.2.2.2.2.2.2.2.1,a8)))))))),(true,())),());bif (ltI 0 (lenI a9.1))then (bif (ltI 0 (lenI a9.1))then (bif (eqI (rdE .t a9.1 (0:Int)).1 a0.1)then (bif (ltI 0 (lenI a9.1))then (bif (leI 1 (lenI a9.1))then (bif (leN (0+(List.length (List.drop (Int.toNat (1:Int)) a9.1))) (E.most .t))then ((c241 ((a0.1,(a1.1,(a2.1,(a3.1,(a4.1,(a5.1,(a6.1,(a7.1,())))))))),((rdE .t a9.1 (0:Int)).2.1,((rdE .t a9.1 (0:Int)).2.2,())))).bind fun r0=>some (((r0.1.1.1,(r0.1.1.2.1,(r0.1.1.2.2.1,(r0.1.1.2.2.2.1,(r0.1.1.2.2.2.2.1,(r0.1.1.2.2.2.2.2.1,(r0.1.1.2.2.2.2.2.2.1,(r0.1.1.2.2.2.2.2.2.2.1,(a8.1,(([]++(List.drop (Int.toNat (1:Int)) a9.1)),a9.2)))))))))),(true,())),()))else none)else none)else none)else X0)else none)else X0
theorem s163 (c241:F241) (c242:F242) (y):TE [g241 c241,g242 c242] Tryz.f163 i163 o163 y=m163 c241 c242 y:=by kernel_rfl
noncomputable def r163:F163:=m163 r241 r242
theorem k163:KO (g163 r163):=fk (s163 r241 r242) ⟨k241,k242,⟨⟩⟩ (by kernel_rfl)
abbrev i164:Ts:=[.a q15, .v (.int .i64)]
abbrev o164:Ts:=[.a q15, .v (.bool)]
abbrev R164:=Option (PTup o164×BTup i164)
abbrev F164:=PTup i164→R164
abbrev g164:=mkG 164 i164 o164
noncomputable def m164 (c243:F243) (c244:F244) (y:PTup i164):R164:=
  let a0:=y.1;let a1:=a0.2;let a2:=a1.2;let a3:=a2.2;let a4:=a3.2;let a5:=a4.2;let a6:=a5.2;let a7:=a6.2;let a8:=a7.2;let a9:=a8.1;let X0:R164:=bif (leI y.2.1 a0.1)then (some ((a0,(false,())),()))else bif (eqI a0.1 20000)then (some ((a0,(false,())),()))else (c244 ((a0.1,(a1.1,(a2.1,(a3.1,(a4.1,(a5.1,(a6.1,()))))))),())).bind fun r0=>bif r0.1.2.2.1 then (bif (leN ((List.length a8.2.1)+(List.length (r0.1.2.1::[]))) (E.most .i))then (some (((r0.1.1.1,(r0.1.1.2.1,(r0.1.1.2.2.1,(r0.1.1.2.2.2.1,(r0.1.1.2.2.2.2.1,(r0.1.1.2.2.2.2.2.1,(r0.1.1.2.2.2.2.2.2.1,(a7.1,(a9,((a8.2.1++(r0.1.2.1::[])),())))))))))),(true,())),()))else none)else some (((r0.1.1.1,(r0.1.1.2.1,(r0.1.1.2.2.1,(r0.1.1.2.2.2.1,(r0.1.1.2.2.2.2.1,(r0.1.1.2.2.2.2.2.1,(r0.1.1.2.2.2.2.2.2.1,a7))))))),(true,())),());bif (ltI 0 (lenI a9))then (bif (ltI 0 (lenI a9))then (bif (eqI (rdE .t a9 (0:Int)).1 a0.1)then (bif (ltI 0 (lenI a9))then (bif (leI 1 (lenI a9))then (bif (leN (0+(List.length (List.drop (Int.toNat (1:Int)) a9))) (E.most .t))then ((c243 ((a0.1,(a1.1,(a2.1,(a3.1,(a4.1,(a5.1,(a6.1,()))))))),((rdE .t a9 (0:Int)).2.1,((rdE .t a9 (0:Int)).2.2,())))).bind fun r0=>some (((r0.1.1.1,(r0.1.1.2.1,(r0.1.1.2.2.1,(r0.1.1.2.2.2.1,(r0.1.1.2.2.2.2.1,(r0.1.1.2.2.2.2.2.1,(r0.1.1.2.2.2.2.2.2.1,(a7.1,(([]++(List.drop (Int.toNat (1:Int)) a9)),a8.2))))))))),(true,())),()))else none)else none)else none)else X0)else none)else X0
theorem s164 (c243:F243) (c244:F244) (y):TE [g243 c243,g244 c244] Tryz.f164 i164 o164 y=m164 c243 c244 y:=by kernel_rfl
noncomputable def r164:F164:=m164 r243 r244
theorem k164:KO (g164 r164):=fk (s164 r243 r244) ⟨k243,k244,⟨⟩⟩ (by kernel_rfl)
abbrev i60:Ts:=[.a q8, .v (.int .i64)]
abbrev o60:Ts:=[.a q13, .v (.bool)]
abbrev F60:=FT i60 o60
abbrev g60:=mkG 60 i60 o60
noncomputable def m60 (c52:F52) (c29:F29) (c163:F163) (c164:F164) (c130:F130) (y:PTup i60):Option (PTup o60×BTup i60):=
  (c29 (y.1,())).bind fun r0=>
  bif (!r0.1.1)then (some ((([],([],([],((0:Int),((0:Int),((0:Int),((0:Int),((0:Int),(false,(false,(false,(false,(false,((0:Int),((0:Int),(false,((0:Int),(false,((0:Int),((0:Int),([],((0:Int),((0:Int),((0:Int),((0:Int),((0:Int),(false,([],([],((0:Int),([],([],((0:Int),((0:Int),((0:Int),((0:Int),((0:Int),(false,(false,((0:Int),([],([],())))))))))))))))))))))))))))))))))))))))))),(false,())),()))
  else (c130 (y.1,())).bind fun r1=>let d0:=r1.1;let d1:=d0.1;let d2:=d1.2;let d3:=d2.2;let d4:=d3.2;let d5:=d4.2;let d6:=d5.2;let d7:=d6.2;let d8:=d7.2;let d9:=d8.2;let d10:=d9.2;let d11:=d10.2;let d12:=d11.2;let d13:=d12.2;let d14:=d13.2;let d15:=d14.2;let d16:=d15.2;let d17:=d16.2;let d18:=d17.2;let d19:=d18.2;let d20:=d19.2;let d21:=d20.2;let d22:=d21.2;let d23:=d22.2;let d24:=d23.2;let d25:=d24.2;let d26:=d25.2;let d27:=d26.2;let d28:=d27.2;let d29:=d28.2;let d30:=d29.2.2;bif (eqI y.2.1 0)then ((c52 (y.1,())).bind fun r2=>
   some (r2.1,()))
  else bif (eqI y.2.1 1)then ((c163 ((d22.1,(d23.1,(d24.1,(d25.1,(d26.1,(d27.1,(d28.1,(d29.1,(d29.2.1,(d30.1,(d30.2.1,()))))))))))),(y.1.2.2.2.2.2.2.2.2.2.2.2.2.2.2.1,()))).bind fun r2=>
   some (((d1.1,(d2.1,(d3.1,(d4.1,(d5.1,(d6.1,(d7.1,(d8.1,(d9.1,(d10.1,(d11.1,(d12.1,(d13.1,(d14.1,(d15.1,(d16.1,(d17.1,(d18.1,(d19.1,(d20.1,(d21.1,(r2.1.1.1,(r2.1.1.2.1,(r2.1.1.2.2.1,(r2.1.1.2.2.2.1,(r2.1.1.2.2.2.2.1,(r2.1.1.2.2.2.2.2.1,(r2.1.1.2.2.2.2.2.2.1,(r2.1.1.2.2.2.2.2.2.2.1,(r2.1.1.2.2.2.2.2.2.2.2.1,(r2.1.1.2.2.2.2.2.2.2.2.2.1,(r2.1.1.2.2.2.2.2.2.2.2.2.2.1,d30.2.2)))))))))))))))))))))))))))))))),r2.1.2),()))
  else bif (eqI y.2.1 2)then ((c164 (d30.2.2,(y.1.2.2.2.2.2.2.2.2.2.2.2.2.2.2.1,()))).bind fun r2=>
   some (((d1.1,(d2.1,(d3.1,(d4.1,(d5.1,(d6.1,(d7.1,(d8.1,(d9.1,(d10.1,(d11.1,(d12.1,(d13.1,(d14.1,(d15.1,(d16.1,(d17.1,(d18.1,(d19.1,(d20.1,(d21.1,(d22.1,(d23.1,(d24.1,(d25.1,(d26.1,(d27.1,(d28.1,(d29.1,(d29.2.1,(d30.1,(d30.2.1,r2.1.1)))))))))))))))))))))))))))))))),r2.1.2),()))
  else some ((d1,(false,())),())
theorem s60 (c52:F52) (c29:F29) (c163:F163) (c164:F164) (c130:F130) (y):TE [g52 c52,g29 c29,g163 c163,g164 c164,g130 c130] Tryz.f60 i60 o60 y=m60 c52 c29 c163 c164 c130 y:=by kernel_rfl
noncomputable def r60:F60:=m60 r52 r29 r163 r164 r130
theorem k60:KO (g60 r60):=fk (s60 r52 r29 r163 r164 r130) ⟨k52,k29,k163,k164,k130,⟨⟩⟩ (by kernel_rfl)
abbrev i185:Ts:=[.p q12, .a q13, .v (.int .i64)]
abbrev o185:Ts:=[.a q13]
abbrev F185:=FT i185 o185
abbrev g185:=mkG 185 i185 o185
abbrev lc185_0:Ts:=[.v (.int .i64), .v (.int .i64)]
abbrev lb185_0:Ts:=[.p q13]
abbrev lv185_0:Ts:=[.v (.int .i64)]
abbrev lr185_0:Ts:=[]
abbrev R185_0:=Option (Sum (PTup lv185_0) (PTup lr185_0)×BTup lb185_0)
abbrev B185_0:=PTup lb185_0→PTup lv185_0→R185_0
abbrev A185_0:=PTup lc185_0→B185_0
noncomputable def w185_0 (c60:F60) (c157:F157) (again:B185_0) (x:PTup lc185_0) (y:PTup lb185_0) (z:PTup lv185_0):R185_0:=
  bif (ltI z.1 x.1)then ((c60 (y.1,x.2)).bind fun r0=>
   again (r0.1.1,()) ((wI (z.1+1)),()))
  else some ((Sum.inl z),(y.1,()))
noncomputable def e185_0 (l:A185_0):LoopE:=⟨[9,10],lc185_0,[4],lb185_0,[11],lv185_0,[],lr185_0,2,[],l⟩
abbrev lc185_1:Ts:=[.v (.int .i64)]
abbrev lb185_1:Ts:=[.p q12, .p q13]
abbrev lv185_1:Ts:=[.v (.int .i64)]
abbrev lr185_1:Ts:=[]
abbrev R185_1:=Option (Sum (PTup lv185_1) (PTup lr185_1)×BTup lb185_1)
abbrev B185_1:=PTup lb185_1→PTup lv185_1→R185_1
abbrev A185_1:=PTup lc185_1→B185_1
noncomputable def w185_1 (c60:F60) (c157:F157) (l0:A185_0) (again:B185_1) (x:PTup lc185_1) (y:PTup lb185_1) (z:PTup lv185_1):R185_1:=
  bif (ltI z.1 x.1)then ((c157 (y.1,((12:Int),()))).bind fun r0=>
   (c157 ((y.1.1,r0.2.1.2),((3:Int),()))).bind fun r1=>
   (l0 ((wI ((1:Int)+r0.1.1)),r1.1) (y.2.1,()) ((0:Int),())).bind fun r2=>
   sumElim r2.1 (fun r3=>again ((y.1.1,r1.2.1.2),(r2.2.1,())) ((wI (z.1+1)),()))
   (fun r3=>some ((Sum.inr ()),((y.1.1,r1.2.1.2),(r2.2.1,())))))
  else some ((Sum.inl z),(y.1,(y.2.1,())))
noncomputable def e185_1 (l:A185_1):LoopE:=⟨[7],lc185_1,[0,4],lb185_1,[8],lv185_1,[],lr185_1,0,[],l⟩
noncomputable def m185 (c60:F60) (c157:F157) (l0:A185_0) (l1:A185_1) (y:PTup i185):Option (PTup o185×BTup i185):=
  (c157 (y.1,((wI (y.2.2.1+1)),()))).bind fun r0=>
  (l1 r0.1 ((y.1.1,r0.2.1.2),(y.2.1,())) ((0:Int),())).bind fun r1=>
  sumElim r1.1 (fun r2=>some ((r1.2.2.1,()),((y.1.1,r1.2.1.2),())))
  (fun r2=>some ((([],([],([],((0:Int),((0:Int),((0:Int),((0:Int),((0:Int),(false,(false,(false,(false,(false,((0:Int),((0:Int),(false,((0:Int),(false,((0:Int),((0:Int),([],((0:Int),((0:Int),((0:Int),((0:Int),((0:Int),(false,([],([],((0:Int),([],([],((0:Int),((0:Int),((0:Int),((0:Int),((0:Int),(false,(false,((0:Int),([],([],())))))))))))))))))))))))))))))))))))))))))),()),((y.1.1,r1.2.1.2),())))
noncomputable def E185 (c60:F60) (c157:F157) (l0:A185_0) (l1:A185_1):CEnv:=⟨⟨Tryz.prog,fnsL [g60 c60,g157 c157]⟩,loopsL [(8,e185_0 l0),(3,e185_1 l1)]⟩
theorem t185_0 (c60:F60) (c157:F157) (l0:A185_0) (l1:A185_1) (again) (x y z):loopRound (E185 c60 c157 l0 l1) (loopAt (loopAt (bodyOf Tryz.f185) 0) 0) (e185_0 l0) Tryz.f185.ntmps again x y z=w185_0 c60 c157 again x y z:=by kernel_rfl
noncomputable def n185_0 (c60:F60) (c157:F157):Nat→A185_0
  |0,_,_,_=>none
  |n+1,x,y,z=>w185_0 c60 c157 (fun y z=>n185_0 c60 c157 n x y z) x y z
theorem t185_1 (c60:F60) (c157:F157) (l0:A185_0) (l1:A185_1) (again) (x y z):loopRound (E185 c60 c157 l0 l1) (loopAt (bodyOf Tryz.f185) 0) (e185_1 l1) Tryz.f185.ntmps again x y z=w185_1 c60 c157 l0 again x y z:=by kernel_rfl
noncomputable def n185_1 (c60:F60) (c157:F157) (l0:A185_0):Nat→A185_1
  |0,_,_,_=>none
  |n+1,x,y,z=>w185_1 c60 c157 l0 (fun y z=>n185_1 c60 c157 l0 n x y z) x y z
theorem s185 (c60:F60) (c157:F157) (l0:A185_0) (l1:A185_1) (y):tevF (E185 c60 c157 l0 l1) Tryz.f185 i185 o185 y=m185 c60 c157 l0 l1 y:=by kernel_rfl
noncomputable def L185_0:A185_0:=n185_0 r60 r157 fuel
noncomputable def L185_1:A185_1:=n185_1 r60 r157 L185_0 fuel
noncomputable def r185:F185:=m185 r60 r157 L185_0 L185_1
theorem k185:KO (g185 r185):=by
  have hE: ∀g f,(E185 r60 r157 L185_0 L185_1).env.fns g=some f→CallOk Tryz.prog g f:=fnsL_ok ⟨k60,k157,⟨⟩⟩
  have h0:LoopOk Tryz.prog Tryz.f185.ntmps (loopAt (loopAt (bodyOf Tryz.f185) 0) 0) (e185_0 L185_0):=lp_ok (E:=E185 r60 r157 L185_0 L185_1) rfl hE mixed (AllLoops.of_list (l:=[]) (by kernel_rfl) trivial) (n185_0 r60 r157) (fun _ _ _=>rfl) (fun n x y z=>t185_0 r60 r157 L185_0 L185_1 _ x y z) rfl
  have h1:LoopOk Tryz.prog Tryz.f185.ntmps (loopAt (bodyOf Tryz.f185) 0) (e185_1 L185_1):=lp_ok (E:=E185 r60 r157 L185_0 L185_1) rfl hE mixed (AllLoops.of_list (l:=[(loopAt (loopAt (bodyOf Tryz.f185) 0) 0)]) (by kernel_rfl) (.one (by kernel_rfl) h0 trivial)) (n185_1 r60 r157 L185_0) (fun _ _ _=>rfl) (fun n x y z=>t185_1 r60 r157 L185_0 L185_1 _ x y z) rfl
  exact fn_ok (E:=E185 r60 r157 L185_0 L185_1) rfl hE mixed (by kernel_rfl) (by kernel_rfl) (AllLoops.of_list (l:=[(loopAt (bodyOf Tryz.f185) 0)]) (by kernel_rfl) (.one (by kernel_rfl) h1 trivial)) (s185 r60 r157 L185_0 L185_1)
abbrev i258:Ts:=[.p q12]
abbrev o258:Ts:=[.a q2]
abbrev F258:=FT i258 o258
abbrev g258:=mkG 258 i258 o258
noncomputable def m258 (c296:F296) (c157:F157) (c187:F187) (y:PTup i258):Option (PTup o258×BTup i258):=
  (c157 (y.1,((256:Int),()))).bind fun r0=>
  (c157 ((y.1.1,r0.2.1.2),((256:Int),()))).bind fun r1=>
  (c187 ((y.1.1,r1.2.1.2),(((0:Int)::((1:Int)::((2:Int)::((255:Int)::((254:Int)::((128:Int)::[])))))),()))).bind fun r2=>
  (c187 ((y.1.1,r2.2.1.2),(((0:Int)::((49152:Int)::((49200:Int)::((65535:Int)::((65534:Int)::((32768:Int)::((8192:Int)::((511:Int)::[])))))))),()))).bind fun r3=>
  (c157 ((y.1.1,r3.2.1.2),((256:Int),()))).bind fun r4=>
  (c296 ((r0.1.1,(r1.1.1,(r2.1.1,(r3.1.1,(false,(false,(false,(false,())))))))),r4.1)).bind fun r5=>
  some ((r5.1.1,()),((y.1.1,r4.2.1.2),()))
theorem s258 (c296:F296) (c157:F157) (c187:F187) (y):TE [g296 c296,g157 c157,g187 c187] Tryz.f258 i258 o258 y=m258 c296 c157 c187 y:=by kernel_rfl
noncomputable def r258:F258:=m258 r296 r157 r187
theorem k258:KO (g258 r258):=fk (s258 r296 r157 r187) ⟨k296,k157,k187,⟨⟩⟩ (by kernel_rfl)
abbrev i259:Ts:=[.p q12]
abbrev o259:Ts:=[.v (.int .i64)]
abbrev F259:=FT i259 o259
abbrev g259:=mkG 259 i259 o259
noncomputable def m259 (c157:F157) (c104:F104) (c187:F187) (y:PTup i259):Option (PTup o259×BTup i259):=
  (c104 (y.1,((9:Int),()))).bind fun r0=>
  bif r0.1.1 then ((c187 ((y.1.1,r0.2.1.2),(((-(1:Int))::((256:Int)::((65535:Int)::((65536:Int)::((9223372036854775807:Int)::((-(9223372036854775808:Int))::((511:Int)::[]))))))),()))).bind fun r1=>
   some (r1.1,((y.1.1,r1.2.1.2),())))
  else (c157 ((y.1.1,r0.2.1.2),((256:Int),()))).bind fun r1=>
  some (r1.1,((y.1.1,r1.2.1.2),()))
theorem s259 (c157:F157) (c104:F104) (c187:F187) (y):TE [g157 c157,g104 c104,g187 c187] Tryz.f259 i259 o259 y=m259 c157 c104 c187 y:=by kernel_rfl
noncomputable def r259:F259:=m259 r157 r104 r187
theorem k259:KO (g259 r259):=fk (s259 r157 r104 r187) ⟨k157,k104,k187,⟨⟩⟩ (by kernel_rfl)
abbrev i188:Ts:=[.p q12]
abbrev o188:Ts:=[.a q2]
abbrev F188:=FT i188 o188
abbrev g188:=mkG 188 i188 o188
noncomputable def m188 (c157:F157) (c259:F259) (c187:F187) (c258:F258) (y:PTup i188):Option (PTup o188×BTup i188):=
  (c258 (y.1,())).bind fun r0=>
  (c157 ((y.1.1,r0.2.1.2),((25:Int),()))).bind fun r1=>
  bif (eqI r1.1.1 0)then ((c259 ((y.1.1,r1.2.1.2),())).bind fun r2=>
   some (((r2.1.1,r0.1.1.2),()),((y.1.1,r2.2.1.2),())))
  else bif (eqI r1.1.1 1)then ((c259 ((y.1.1,r1.2.1.2),())).bind fun r2=>
   some (((r0.1.1.1,(r2.1.1,r0.1.1.2.2)),()),((y.1.1,r2.2.1.2),())))
  else bif (eqI r1.1.1 2)then ((c259 ((y.1.1,r1.2.1.2),())).bind fun r2=>
   some (((r0.1.1.1,(r0.1.1.2.1,(r2.1.1,r0.1.1.2.2.2))),()),((y.1.1,r2.2.1.2),())))
  else bif (eqI r1.1.1 3)then ((c187 ((y.1.1,r1.2.1.2),(((-(1:Int))::((65536:Int)::[])),()))).bind fun r2=>
   some (((r0.1.1.1,(r0.1.1.2.1,(r0.1.1.2.2.1,(r2.1.1,r0.1.1.2.2.2.2)))),()),((y.1.1,r2.2.1.2),())))
  else some ((r0.1.1,()),((y.1.1,r1.2.1.2),()))
theorem s188 (c157:F157) (c259:F259) (c187:F187) (c258:F258) (y):TE [g157 c157,g259 c259,g187 c187,g258 c258] Tryz.f188 i188 o188 y=m188 c157 c259 c187 c258 y:=by kernel_rfl
noncomputable def r188:F188:=m188 r157 r259 r187 r258
theorem k188:KO (g188 r188):=fk (s188 r157 r259 r187 r258) ⟨k157,k259,k187,k258,⟨⟩⟩ (by kernel_rfl)
abbrev i103:Ts:=[.p q12]
abbrev o103:Ts:=[.a q13]
abbrev F103:=FT i103 o103
abbrev g103:=mkG 103 i103 o103
noncomputable def m103 (c186:F186) (c185:F185) (c157:F157) (c187:F187) (c188:F188) (y:PTup i103):Option (PTup o103×BTup i103):=
  (c186 (y.1,())).bind fun r0=>
  (c185 ((y.1.1,r0.2.1.2),(r0.1.1,((60:Int),())))).bind fun r1=>
  (c157 ((y.1.1,r1.2.1.2),((30:Int),()))).bind fun r2=>
  bif (eqI r2.1.1 0)then ((c187 ((y.1.1,r2.2.1.2),(((-(1:Int))::((0:Int)::((wI (r1.1.1.2.2.2.2.2.2.2.2.2.2.2.2.2.2.1+3))::((20000:Int)::((19997:Int)::[]))))),()))).bind fun r3=>some (((m2 (m2 (m2 (m2 (m2 (m2 (m2 (m2 (m2 (m2 (m2 (m2 (m2 (m2 (fun p=>(r3.1.1,p.2))))))))))))))) r1.1.1),()),((y.1.1,r3.2.1.2),())))
  else bif (eqI r2.1.1 1)then ((c157 ((y.1.1,r2.2.1.2),((99:Int),()))).bind fun r3=>some (((m2 (m2 (m2 (m2 (m2 (m2 (m2 (m2 (m2 (m2 (m2 (m2 (m2 (m2 (m2 (m2 (m2 (m2 (fun p=>(wI (r3.1.1-1),p.2))))))))))))))))))) r1.1.1),()),((y.1.1,r3.2.1.2),())))
  else bif (eqI r2.1.1 2)then (some (((m2 (m2 (m2 (m2 (m2 (m2 (m2 (m2 (m2 (m2 (m2 (m2 (m2 (m2 (m2 (fun p=>(!p.1,p.2)))))))))))))))) r1.1.1),()),((y.1.1,r2.2.1.2),())))
  else bif (eqI r2.1.1 3)then (some (((m2 (m2 (m2 (m2 (m2 (m2 (m2 (m2 (m2 (m2 (m2 (m2 (m2 (m2 (m2 (m2 (m2 (fun p=>(!p.1,p.2)))))))))))))))))) r1.1.1),()),((y.1.1,r2.2.1.2),())))
  else bif (eqI r2.1.1 4)then ((c188 ((y.1.1,r2.2.1.2),())).bind fun r3=>some (((m2 (m2 (m2 (m2 (cpuAt r3.1.1)))) r1.1.1),()),((y.1.1,r3.2.1.2),())))
  else bif (eqI r2.1.1 5)then ((c157 ((y.1.1,r2.2.1.2),((2:Int),()))).bind fun r3=>bif (leN ((List.length r1.1.1.2.2.2.2.2.2.2.2.2.2.2.2.2.2.2.2.2.2.2.2.2.2.2.2.2.2.2.2.2.2.2.2.2.2.2.2.2.2.2.2.1)+(List.length [(wI (r1.1.1.2.2.2.2.2.2.2.2.2.2.2.2.2.2.1+r3.1.1),((0:Int),(0:Int)))])) (E.most .t))then (some (((m2 (m2 (m2 (m2 (m2 (m2 (m2 (m2 (m2 (m2 (m2 (m2 (m2 (m2 (m2 (m2 (m2 (m2 (m2 (m2 (m2 (m2 (m2 (m2 (m2 (m2 (m2 (m2 (m2 (m2 (m2 (m2 (m2 (m2 (m2 (m2 (m2 (m2 (m2 (m2 (fun p=>(p.1++[(wI (r1.1.1.2.2.2.2.2.2.2.2.2.2.2.2.2.2.1+r3.1.1),((0:Int),(0:Int)))],p.2))))))))))))))))))))))))))))))))))))))))) r1.1.1),()),((y.1.1,r3.2.1.2),())))else none)
  else bif (eqI r2.1.1 6)then ((c187 ((y.1.1,r2.2.1.2),(((0:Int)::((128:Int)::((256:Int)::[]))),()))).bind fun r3=>some (((m2 (m2 (m2 (m2 (m2 (m2 (m2 (m2 (m2 (m2 (m2 (m2 (m2 (m2 (m2 (m2 (fun p=>(r3.1.1,p.2))))))))))))))))) r1.1.1),()),((y.1.1,r3.2.1.2),())))
  else some ((r1.1.1,()),((y.1.1,r2.2.1.2),()))
theorem s103 (c186:F186) (c185:F185) (c157:F157) (c187:F187) (c188:F188) (y):TE [g186 c186,g185 c185,g157 c157,g187 c187,g188 c188] Tryz.f103 i103 o103 y=m103 c186 c185 c157 c187 c188 y:=by kernel_rfl
noncomputable def r103:F103:=m103 r186 r185 r157 r187 r188
theorem k103:KO (g103 r103):=fk (s103 r186 r185 r157 r187 r188) ⟨k186,k185,k157,k187,k188,⟨⟩⟩ (by kernel_rfl)
abbrev i260:Ts:=[.a q4]
abbrev o260:Ts:=[.a [.int .i64, .sl true .t]]
abbrev F260:=FT i260 o260
abbrev g260:=mkG 260 i260 o260
noncomputable def m260 (y:PTup i260):Option (PTup o260×BTup i260):=
  bif (leN (0+(List.length y.1.2.1)) (E.most .t))then (some (((y.1.1,(([]++y.1.2.1),())),()),()))
  else none
theorem s260 (y):TE [] Tryz.f260 i260 o260 y=m260 y:=by kernel_rfl
noncomputable def r260:F260:=m260
theorem k260:KO (g260 r260):=fk (s260) trivial (by kernel_rfl)
abbrev i191:Ts:=[.a q5]
abbrev o191:Ts:=[.a q14]
abbrev F191:=FT i191 o191
abbrev g191:=mkG 191 i191 o191
noncomputable def m191 (c116:F116) (c215:F215) (c260:F260) (y:PTup i191):Option (PTup o191×BTup i191):=
  (c215 ((y.1.1,(y.1.2.1,(y.1.2.2.1,(y.1.2.2.2.1,(y.1.2.2.2.2.1,(y.1.2.2.2.2.2.1,(y.1.2.2.2.2.2.2.1,(y.1.2.2.2.2.2.2.2.1,())))))))),())).bind fun r0=>
  (c260 ((y.1.2.2.2.2.2.2.2.2.1,(y.1.2.2.2.2.2.2.2.2.2.1,())),())).bind fun r1=>
  (c116 y.1.2.2.2.2.2.2.2.2.2.2).bind fun r2=>
  some (((r0.1.1.1,(r0.1.1.2.1,(r0.1.1.2.2.1,(r0.1.1.2.2.2.1,(r0.1.1.2.2.2.2.1,(r0.1.1.2.2.2.2.2.1,(r0.1.1.2.2.2.2.2.2.1,(r0.1.1.2.2.2.2.2.2.2.1,(r1.1.1.1,(r1.1.1.2.1,r2.1)))))))))),()),())
theorem s191 (c116:F116) (c215:F215) (c260:F260) (y):TE [g116 c116,g215 c215,g260 c260] Tryz.f191 i191 o191 y=m191 c116 c215 c260 y:=by kernel_rfl
noncomputable def r191:F191:=m191 r116 r215 r260
theorem k191:KO (g191 r191):=fk (s191 r116 r215 r260) ⟨k116,k215,k260,⟨⟩⟩ (by kernel_rfl)
abbrev i192:Ts:=[.a q7]
abbrev o192:Ts:=[.a q15]
abbrev F192:=FT i192 o192
abbrev g192:=mkG 192 i192 o192
noncomputable def m192 (c117:F117) (c260:F260) (y:PTup i192):Option (PTup o192×BTup i192):=
  (c260 ((y.1.2.2.2.2.2.2.2.1,(y.1.2.2.2.2.2.2.2.2.1,())),())).bind fun r0=>
  (c117 y.1.2.2.2.2.2.2.2.2.2).bind fun r1=>
  some (((y.1.1,(y.1.2.1,(y.1.2.2.1,(y.1.2.2.2.1,(y.1.2.2.2.2.1,(y.1.2.2.2.2.2.1,(y.1.2.2.2.2.2.2.1,(r0.1.1.1,(r0.1.1.2.1,r1.1))))))))),()),())
theorem s192 (c117:F117) (c260:F260) (y):TE [g117 c117,g260 c260] Tryz.f192 i192 o192 y=m192 c117 c260 y:=by kernel_rfl
noncomputable def r192:F192:=m192 r117 r260
theorem k192:KO (g192 r192):=fk (s192 r117 r260) ⟨k117,k260,⟨⟩⟩ (by kernel_rfl)
abbrev i107:Ts:=[.a q8]
abbrev o107:Ts:=[.a q13]
abbrev F107:=FT i107 o107
abbrev g107:=mkG 107 i107 o107
noncomputable def m107 (c189:F189) (c117:F117) (c190:F190) (c191:F191) (c192:F192) (y:PTup i107):Option (PTup o107×BTup i107):=
  let a0:=y.1;let a1:=a0.2;let a2:=a1.2;let a3:=a2.2;let a4:=a3.2;let a5:=a4.2;let a6:=a5.2;let a7:=a6.2;let a8:=a7.2;let a9:=a8.2;let a10:=a9.2;let a11:=a10.2;let a12:=a11.2;let a13:=a12.2;let a14:=a13.2;let a15:=a14.2;let a16:=a15.2;let a17:=a16.2;let a18:=a17.2;let a19:=a18.2;let a20:=a19.2;let a21:=a20.2;let a22:=a21.2;let a23:=a22.2;let a24:=a23.2.2;let a25:=a24.2.2;(c189 ((a0.1,()),())).bind fun r0=>
  (c117 (a1.1,())).bind fun r1=>
  (c190 ((a2.1,(a3.1,())),())).bind fun r2=>
  (c117 (a20.1,())).bind fun r3=>
  (c191 ((a21.1,(a22.1,(a23.1,(a23.2.1,(a24.1,(a24.2.1,(a25.1,(a25.2.1,(a25.2.2.1,(a25.2.2.2.1,(a25.2.2.2.2.1,()))))))))))),())).bind fun r4=>
  (c192 (a25.2.2.2.2.2,())).bind fun r5=>
  some (((r0.1.1.1,(r1.1.1,(r2.1.1.1,(r2.1.1.2.1,(a4.1,(a5.1,(a6.1,(a7.1,(a8.1,(a9.1,(a10.1,(a11.1,(a12.1,(a13.1,(a14.1,(a15.1,(a16.1,(a17.1,(a18.1,(a19.1,(r3.1.1,(r4.1.1.1,(r4.1.1.2.1,(r4.1.1.2.2.1,(r4.1.1.2.2.2.1,(r4.1.1.2.2.2.2.1,(r4.1.1.2.2.2.2.2.1,(r4.1.1.2.2.2.2.2.2.1,(r4.1.1.2.2.2.2.2.2.2.1,(r4.1.1.2.2.2.2.2.2.2.2.1,(r4.1.1.2.2.2.2.2.2.2.2.2.1,(r4.1.1.2.2.2.2.2.2.2.2.2.2.1,r5.1.1)))))))))))))))))))))))))))))))),()),())
theorem s107 (c189:F189) (c117:F117) (c190:F190) (c191:F191) (c192:F192) (y):TE [g189 c189,g117 c117,g190 c190,g191 c191,g192 c192] Tryz.f107 i107 o107 y=m107 c189 c117 c190 c191 c192 y:=by kernel_rfl
noncomputable def r107:F107:=m107 r189 r117 r190 r191 r192
theorem k107:KO (g107 r107):=fk (s107 r189 r117 r190 r191 r192) ⟨k189,k117,k190,k191,k192,⟨⟩⟩ (by kernel_rfl)
end Go.Proofs.YtgeodknaigdenaaGreat.Plain
