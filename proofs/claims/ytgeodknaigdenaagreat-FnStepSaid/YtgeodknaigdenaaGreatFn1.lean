/- Plain functions that the program's functions answer as; their contracts. Printed by a program of the proofs' writer. No condition. -/
import Derived.Test.YtgeodknaigdenaaGreatW5
import Derived.KernelRfl
import Derived.Test.YtgeodknaigdenaaGreatFn0
set_option linter.unusedVariables false
set_option linter.unusedSimpArgs false
set_option maxRecDepth 100000
namespace Go.Proofs.YtgeodknaigdenaaGreat.Plain
open Go Go.Tev
abbrev i340:Ts:=[.v (.str)]
abbrev o340:Ts:=[.v (.str), .v (.int .i64), .v (.bool)]
abbrev F340:=FT i340 o340
abbrev g340:=mkG 340 i340 o340
abbrev lc340_0:Ts:=[.v (.str)]
abbrev lb340_0:Ts:=[]
abbrev lv340_0:Ts:=[.v (.int .i64)]
abbrev lr340_0:Ts:=[.v (.str), .v (.int .i64), .v (.bool)]
abbrev R340_0:=Option (Sum (PTup lv340_0) (PTup lr340_0)×BTup lb340_0)
abbrev B340_0:=PTup lb340_0→PTup lv340_0→R340_0
abbrev A340_0:=PTup lc340_0→B340_0
noncomputable def w340_0 (c343:F343) (again:B340_0) (x:PTup lc340_0) (y:PTup lb340_0) (z:PTup lv340_0):R340_0:=
  bif (ltI z.1 ((((ByteArray.size x.1):Nat)):Int))then (bif (leI 0 z.1)then (bif (ltI z.1 ((((ByteArray.size x.1):Nat)):Int))then (bif (eqI (bt x.1 z.1) 32)then (bif (leI 0 (wI (z.1+1)))then (bif (leI (wI (z.1+1)) ((((ByteArray.size x.1):Nat)):Int))then ((c343 ((ByteArray.extract x.1 (Int.toNat (wI (z.1+1))) (ByteArray.size x.1)),())).bind fun r0=>
        bif (leI 0 z.1)then (bif (leI z.1 ((((ByteArray.size x.1):Nat)):Int))then (some ((Sum.inr ((ByteArray.extract x.1 (0:Nat) (Int.toNat z.1)),(r0.1.1,((leI 0 r0.1.1),())))),()))
         else none)
        else none)
       else none)
      else none)
     else again () ((wI (z.1+1)),()))
    else none)
   else none)
  else some ((Sum.inl z),())
noncomputable def e340_0 (l:A340_0):LoopE:=⟨[0],lc340_0,[],lb340_0,[5],lv340_0,[2,3,4],lr340_0,0,[],l⟩
noncomputable def m340 (c343:F343) (l0:A340_0) (y:PTup i340):Option (PTup o340×BTup i340):=
  (l0 y () ((0:Int),())).bind fun r0=>
  sumElim r0.1 (fun r1=>some ((y.1,((-(1:Int)),(true,()))),()))
  (fun r1=>some (r1,()))
noncomputable def E340 (c343:F343) (l0:A340_0):CEnv:=⟨⟨Tryz.prog,fnsL [g343 c343]⟩,loopsL [(2,e340_0 l0)]⟩
theorem t340_0 (c343:F343) (l0:A340_0) (again) (x y z):loopRound (E340 c343 l0) (loopAt (bodyOf Tryz.f340) 0) (e340_0 l0) Tryz.f340.ntmps again x y z=w340_0 c343 again x y z:=by kernel_rfl
noncomputable def n340_0 (c343:F343):Nat→A340_0
  |0,_,_,_=>none
  |n+1,x,y,z=>w340_0 c343 (fun y z=>n340_0 c343 n x y z) x y z
theorem s340 (c343:F343) (l0:A340_0) (y):tevF (E340 c343 l0) Tryz.f340 i340 o340 y=m340 c343 l0 y:=by kernel_rfl
noncomputable def L340_0:A340_0:=n340_0 r343 fuel
noncomputable def r340:F340:=m340 r343 L340_0
theorem k340:KO (g340 r340):=by
  have hE: ∀g f,(E340 r343 L340_0).env.fns g=some f→CallOk Tryz.prog g f:=fnsL_ok ⟨k343,⟨⟩⟩
  have h0:LoopOk Tryz.prog Tryz.f340.ntmps (loopAt (bodyOf Tryz.f340) 0) (e340_0 L340_0):=lp_ok (E:=E340 r343 L340_0) rfl hE mixed (AllLoops.of_list (l:=[]) (by kernel_rfl) trivial) (n340_0 r343) (fun _ _ _=>rfl) (fun n x y z=>t340_0 r343 L340_0 _ x y z) rfl
  exact fn_ok (E:=E340 r343 L340_0) rfl hE mixed (by kernel_rfl) (by kernel_rfl) (AllLoops.of_list (l:=[(loopAt (bodyOf Tryz.f340) 0)]) (by kernel_rfl) (.one (by kernel_rfl) h0 trivial)) (s340 r343 L340_0)
abbrev i344:Ts:=[]
abbrev o344:Ts:=[.v (.sl true .s)]
abbrev F344:=FT i344 o344
abbrev g344:=mkG 344 i344 o344
noncomputable def m344 (y:PTup i344):Option (PTup o344×BTup i344):=
  some ((((bz [110,111,112])::((bz [108,100,105])::((bz [108,100,97])::((bz [115,116,97])::((bz [97,100,105])::((bz [115,98,105])::((bz [97,110,105])::((bz [111,114,105])::((bz [120,114,105])::((bz [99,112,105])::((bz [116,97,120])::((bz [116,120,97])::((bz [105,110,120])::((bz [100,101,120])::((bz [108,97,120])::((bz [115,97,120])::((bz [98,110,101])::((bz [98,101,113])::((bz [98,99,115])::((bz [106,109,112])::((bz [106,115,114])::((bz [114,116,115])::((bz [112,104,97])::((bz [112,108,97])::((bz [114,116,105])::((bz [115,101,105])::((bz [99,108,105])::((bz [115,101,99])::((bz [99,108,99])::((bz [97,100,97])::[])))))))))))))))))))))))))))))),()),())
theorem s344 (y):TE [] Tryz.f344 i344 o344 y=m344 y:=by kernel_rfl
noncomputable def r344:F344:=m344
theorem k344:KO (g344 r344):=fk (s344) trivial (by kernel_rfl)
abbrev i341:Ts:=[.v (.str)]
abbrev o341:Ts:=[.v (.int .i64)]
abbrev F341:=FT i341 o341
abbrev g341:=mkG 341 i341 o341
abbrev lc341_0:Ts:=[.v (.str), .v (.sl false .s)]
abbrev lb341_0:Ts:=[]
abbrev lv341_0:Ts:=[.v (.int .i64)]
abbrev lr341_0:Ts:=[.v (.int .i64)]
abbrev R341_0:=Option (Sum (PTup lv341_0) (PTup lr341_0)×BTup lb341_0)
abbrev B341_0:=PTup lb341_0→PTup lv341_0→R341_0
abbrev A341_0:=PTup lc341_0→B341_0
noncomputable def w341_0 (c344:F344) (again:B341_0) (x:PTup lc341_0) (y:PTup lb341_0) (z:PTup lv341_0):R341_0:=
  bif (ltI z.1 (lenI x.2.1))then (bif (leI 0 z.1)then (bif (ltI z.1 (lenI x.2.1))then (bif ((ByteArray.toList (rdE .s x.2.1 z.1))==(ByteArray.toList x.1))then (some ((Sum.inr z),()))
     else again () ((wI (z.1+1)),()))
    else none)
   else none)
  else some ((Sum.inl z),())
noncomputable def e341_0 (l:A341_0):LoopE:=⟨[0,3],lc341_0,[],lb341_0,[4],lv341_0,[2],lr341_0,0,[],l⟩
noncomputable def m341 (c344:F344) (l0:A341_0) (y:PTup i341):Option (PTup o341×BTup i341):=
  (c344 ()).bind fun r0=>
  (l0 (y.1,r0.1) () ((0:Int),())).bind fun r1=>
  sumElim r1.1 (fun r2=>some (((-(1:Int)),()),()))
  (fun r2=>some (r2,()))
noncomputable def E341 (c344:F344) (l0:A341_0):CEnv:=⟨⟨Tryz.prog,fnsL [g344 c344]⟩,loopsL [(3,e341_0 l0)]⟩
theorem t341_0 (c344:F344) (l0:A341_0) (again) (x y z):loopRound (E341 c344 l0) (loopAt (bodyOf Tryz.f341) 0) (e341_0 l0) Tryz.f341.ntmps again x y z=w341_0 c344 again x y z:=by kernel_rfl
noncomputable def n341_0 (c344:F344):Nat→A341_0
  |0,_,_,_=>none
  |n+1,x,y,z=>w341_0 c344 (fun y z=>n341_0 c344 n x y z) x y z
theorem s341 (c344:F344) (l0:A341_0) (y):tevF (E341 c344 l0) Tryz.f341 i341 o341 y=m341 c344 l0 y:=by kernel_rfl
noncomputable def L341_0:A341_0:=n341_0 r344 fuel
noncomputable def r341:F341:=m341 r344 L341_0
theorem k341:KO (g341 r341):=by
  have hE: ∀g f,(E341 r344 L341_0).env.fns g=some f→CallOk Tryz.prog g f:=fnsL_ok ⟨k344,⟨⟩⟩
  have h0:LoopOk Tryz.prog Tryz.f341.ntmps (loopAt (bodyOf Tryz.f341) 0) (e341_0 L341_0):=lp_ok (E:=E341 r344 L341_0) rfl hE mixed (AllLoops.of_list (l:=[]) (by kernel_rfl) trivial) (n341_0 r344) (fun _ _ _=>rfl) (fun n x y z=>t341_0 r344 L341_0 _ x y z) rfl
  exact fn_ok (E:=E341 r344 L341_0) rfl hE mixed (by kernel_rfl) (by kernel_rfl) (AllLoops.of_list (l:=[(loopAt (bodyOf Tryz.f341) 0)]) (by kernel_rfl) (.one (by kernel_rfl) h0 trivial)) (s341 r344 L341_0)
abbrev i327:Ts:=[.v (.str)]
abbrev o327:Ts:=[.v (.sl true .i), .v (.int .i64), .v (.bool)]
abbrev R327:=Option (PTup o327×BTup i327)
abbrev F327:=PTup i327→R327
abbrev g327:=mkG 327 i327 o327
noncomputable def m327 (c272:F272) (c268:F268) (c341:F341) (c125:F125) (c340:F340) (y:PTup i327):R327:=
  (c340 y).bind fun r0=>let X0:R327:=(c125 (r0.1.2.1,((0:Int),((255:Int),())))).bind fun r1=>bif (!r1.1.1)then (some (([],((-1),(false,()))),()))else bif ((ByteArray.toList r0.1.1)==(ByteArray.toList (bz [97,116])))then (some (([],(r0.1.2.1,(true,()))),()))else some (((r0.1.2.1::[]),((-1),(true,()))),());bif (!r0.1.2.2.1)then (some (([],((-1),(false,()))),()))else bif ((ByteArray.toList r0.1.1)==(ByteArray.toList (bz [97,116])))then X0 else bif ((ByteArray.toList r0.1.1)==(ByteArray.toList (bz [98,121,116,101])))then X0 else (c341 (r0.1.1,())).bind fun r1=>bif (ltI r1.1.1 0)then (some (([],((-1),(false,()))),()))else (c268 r1.1).bind fun r2=>bif (eqI r2.1.1 1)then (some (((r1.1.1::[]),((-1),((ltI r0.1.2.1 0),()))),()))else bif (eqI r2.1.1 2)then ((c272 (r0.1.2.1,())).bind fun r3=>(c125 (r0.1.2.1,((0:Int),((255:Int),())))).bind fun r4=>some (((r1.1.1::(r3.1.1::[])),((-1),r4.1)),()))else (c272 (r0.1.2.1,())).bind fun r3=>(c272 ((Int.fdiv r0.1.2.1 ((2:Int)^(Min.min (Int.toNat (8:Int)) (64:Nat)))),())).bind fun r4=>(c125 (r0.1.2.1,((0:Int),((65535:Int),())))).bind fun r5=>some (((r1.1.1::(r3.1.1::(r4.1.1::[]))),((-1),r5.1)),())
theorem s327 (c272:F272) (c268:F268) (c341:F341) (c125:F125) (c340:F340) (y):TE [g272 c272,g268 c268,g341 c341,g125 c125,g340 c340] Tryz.f327 i327 o327 y=m327 c272 c268 c341 c125 c340 y:=by kernel_rfl
noncomputable def r327:F327:=m327 r272 r268 r341 r125 r340
theorem k327:KO (g327 r327):=fk (s327 r272 r268 r341 r125 r340) ⟨k272,k268,k341,k125,k340,⟨⟩⟩ (by kernel_rfl)
abbrev i305:Ts:=[.v (.str)]
abbrev o305:Ts:=[.v (.sl true .i), .v (.int .i64)]
abbrev R305:=Option (PTup o305×BTup i305)
abbrev F305:=PTup i305→R305
abbrev g305:=mkG 305 i305 o305
abbrev lc305_0:Ts:=[.v (.sl false .i)]
abbrev lb305_0:Ts:=[]
abbrev lv305_0:Ts:=[.v (.int .i64), .v (.int .i64), .v (.sl true .i)]
abbrev lr305_0:Ts:=[]
abbrev R305_0:=Option (Sum (PTup lv305_0) (PTup lr305_0)×BTup lb305_0)
abbrev B305_0:=PTup lb305_0→PTup lv305_0→R305_0
abbrev A305_0:=PTup lc305_0→B305_0
noncomputable def w305_0 (c272:F272) (c327:F327) (again:B305_0) (x:PTup lc305_0) (y:PTup lb305_0) (z:PTup lv305_0):R305_0:=
  bif (ltI z.2.1 (lenI x.1))then ((c272 (z.1,())).bind fun r0=>
   bif (leI 0 z.2.1)then (bif (ltI z.2.1 (lenI x.1))then (bif (leI 0 r0.1.1)then (bif (ltI r0.1.1 (lenI z.2.2.1))then (again () ((wI (z.1+1)),((wI (z.2.1+1)),((List.set z.2.2.1 (Int.toNat r0.1.1) (rdE .i x.1 z.2.1)),()))))
      else none)
     else none)
    else none)
   else none)
  else some ((Sum.inl z),())
noncomputable def e305_0 (l:A305_0):LoopE:=⟨[10],lc305_0,[],lb305_0,[5,13,4],lv305_0,[],lr305_0,2,[],l⟩
abbrev lc305_1:Ts:=[.v (.str)]
abbrev lb305_1:Ts:=[]
abbrev lv305_1:Ts:=[.v (.int .i64), .v (.int .i64), .v (.int .i64), .v (.int .i64), .v (.sl true .i)]
abbrev lr305_1:Ts:=[.v (.sl true .i), .v (.int .i64)]
abbrev R305_1:=Option (Sum (PTup lv305_1) (PTup lr305_1)×BTup lb305_1)
abbrev B305_1:=PTup lb305_1→PTup lv305_1→R305_1
abbrev A305_1:=PTup lc305_1→B305_1
noncomputable def w305_1 (c272:F272) (c327:F327) (l0:A305_0) (again:B305_1) (x:PTup lc305_1) (y:PTup lb305_1) (z:PTup lv305_1):R305_1:=
  let X0:R305_1:=bif (leI 0 z.2.2.2.1)then (bif (leI z.2.2.2.1 ((((ByteArray.size x.1):Nat)):Int))then (bif (leI 0 z.2.1)then (bif (leI z.2.1 z.2.2.2.1)then (bif ((ByteArray.toList (ByteArray.extract x.1 (Int.toNat z.2.1) (Int.toNat z.2.2.2.1)))==(ByteArray.toList (bz [])))then (again () (z.1,((wI (z.2.2.2.1+1)),((wI (z.2.2.1+1)),((wI (z.2.2.2.1+1)),z.2.2.2.2)))))else (c327 ((ByteArray.extract x.1 (Int.toNat z.2.1) (Int.toNat z.2.2.2.1)),())).bind fun r0=>bif (!r0.1.2.2.1)then (some ((Sum.inr ([],((wI (z.2.2.1+1)),()))),()))else bif (leI 0 r0.1.2.1)then ((l0 (r0.1.1,()) () (r0.1.2.1,((0:Int),z.2.2.2.2))).bind fun r1=>sumElim r1.1 (fun r2=>again () (r2.1,((wI (z.2.2.2.1+1)),((wI (z.2.2.1+1)),((wI (z.2.2.2.1+1)),r2.2.2))))) (fun r2=>none))else (l0 (r0.1.1,()) () (z.1,((0:Int),z.2.2.2.2))).bind fun r1=>sumElim r1.1 (fun r2=>again () (r2.1,((wI (z.2.2.2.1+1)),((wI (z.2.2.1+1)),((wI (z.2.2.2.1+1)),r2.2.2))))) (fun r2=>none))else none)else none)else none)else none;let X1:R305_1:=bif (eqI z.2.2.2.1 ((((ByteArray.size x.1):Nat)):Int))then (bif (eqI z.2.1 ((((ByteArray.size x.1):Nat)):Int))then (again () (z.1,(z.2.1,(z.2.2.1,((wI (z.2.2.2.1+1)),z.2.2.2.2)))))else X0)else X0;bif (leI z.2.2.2.1 ((((ByteArray.size x.1):Nat)):Int))then (bif (ltI z.2.2.2.1 ((((ByteArray.size x.1):Nat)):Int))then (bif (leI 0 z.2.2.2.1)then (bif (ltI z.2.2.2.1 ((((ByteArray.size x.1):Nat)):Int))then (bif (neI (bt x.1 z.2.2.2.1) 10)then (again () (z.1,(z.2.1,(z.2.2.1,((wI (z.2.2.2.1+1)),z.2.2.2.2)))))else X1)else none)else none)else X1)else some ((Sum.inl z),())
noncomputable def e305_1 (l:A305_1):LoopE:=⟨[0],lc305_1,[],lb305_1,[5,6,7,8,4],lv305_1,[2,3],lr305_1,0,[],l⟩
noncomputable def m305 (c272:F272) (c327:F327) (l0:A305_0) (l1:A305_1) (y:PTup i305):R305:=
  bif (ltI 3000 ((((ByteArray.size y.1):Nat)):Int))then (some (([],((-(1:Int)),())),()))
  else (l1 y () ((0:Int),((0:Int),((0:Int),((0:Int),((List.replicate (Int.toNat (256:Int)) (0:Int)),())))))).bind fun r0=>
  sumElim r0.1 (fun r1=>some ((r1.2.2.2.2.1,((0:Int),())),()))
  (fun r1=>some (r1,()))
noncomputable def E305 (c272:F272) (c327:F327) (l0:A305_0) (l1:A305_1):CEnv:=⟨⟨Tryz.prog,fnsL [g272 c272,g327 c327]⟩,loopsL [(19,e305_0 l0),(6,e305_1 l1)]⟩
theorem t305_0 (c272:F272) (c327:F327) (l0:A305_0) (l1:A305_1) (again) (x y z):loopRound (E305 c272 c327 l0 l1) (loopAt (loopAt (bodyOf Tryz.f305) 0) 0) (e305_0 l0) Tryz.f305.ntmps again x y z=w305_0 c272 c327 again x y z:=by kernel_rfl
noncomputable def n305_0 (c272:F272) (c327:F327):Nat→A305_0
  |0,_,_,_=>none
  |n+1,x,y,z=>w305_0 c272 c327 (fun y z=>n305_0 c272 c327 n x y z) x y z
theorem t305_1 (c272:F272) (c327:F327) (l0:A305_0) (l1:A305_1) (again) (x y z):loopRound (E305 c272 c327 l0 l1) (loopAt (bodyOf Tryz.f305) 0) (e305_1 l1) Tryz.f305.ntmps again x y z=w305_1 c272 c327 l0 again x y z:=by kernel_rfl
noncomputable def n305_1 (c272:F272) (c327:F327) (l0:A305_0):Nat→A305_1
  |0,_,_,_=>none
  |n+1,x,y,z=>w305_1 c272 c327 l0 (fun y z=>n305_1 c272 c327 l0 n x y z) x y z
theorem s305 (c272:F272) (c327:F327) (l0:A305_0) (l1:A305_1) (y):tevF (E305 c272 c327 l0 l1) Tryz.f305 i305 o305 y=m305 c272 c327 l0 l1 y:=by kernel_rfl
noncomputable def L305_0:A305_0:=n305_0 r272 r327 fuel
noncomputable def L305_1:A305_1:=n305_1 r272 r327 L305_0 fuel
noncomputable def r305:F305:=m305 r272 r327 L305_0 L305_1
theorem k305:KO (g305 r305):=by
  have hE: ∀g f,(E305 r272 r327 L305_0 L305_1).env.fns g=some f→CallOk Tryz.prog g f:=fnsL_ok ⟨k272,k327,⟨⟩⟩
  have h0:LoopOk Tryz.prog Tryz.f305.ntmps (loopAt (loopAt (bodyOf Tryz.f305) 0) 0) (e305_0 L305_0):=lp_ok (E:=E305 r272 r327 L305_0 L305_1) rfl hE mixed (AllLoops.of_list (l:=[]) (by kernel_rfl) trivial) (n305_0 r272 r327) (fun _ _ _=>rfl) (fun n x y z=>t305_0 r272 r327 L305_0 L305_1 _ x y z) rfl
  have h1:LoopOk Tryz.prog Tryz.f305.ntmps (loopAt (bodyOf Tryz.f305) 0) (e305_1 L305_1):=lp_ok (E:=E305 r272 r327 L305_0 L305_1) rfl hE mixed (AllLoops.of_list (l:=[(loopAt (loopAt (bodyOf Tryz.f305) 0) 0)]) (by kernel_rfl) (.one (by kernel_rfl) h0 trivial)) (n305_1 r272 r327 L305_0) (fun _ _ _=>rfl) (fun n x y z=>t305_1 r272 r327 L305_0 L305_1 _ x y z) rfl
  exact fn_ok (E:=E305 r272 r327 L305_0 L305_1) rfl hE mixed (by kernel_rfl) (by kernel_rfl) (AllLoops.of_list (l:=[(loopAt (bodyOf Tryz.f305) 0)]) (by kernel_rfl) (.one (by kernel_rfl) h1 trivial)) (s305 r272 r327 L305_0 L305_1)
abbrev vec1 {R:Type} (f:List (List Int)) (k j v:Int) (K:List (List Int)→Option R):Option R:=bif (ltI j (lenI (rdE .n f k)))then (K (List.set f (Int.toNat k) (List.set (rdE .n f k) (Int.toNat j) v)))else none
abbrev vecs6 {R:Type} (f:List (List Int)) (k:Int) (K:List (List Int)→Option R):Option R:=bif (leI 0 k)then (bif (ltI k (lenI f))then (vec1 f k 250 128 fun f=>vec1 f k 251 192 fun f=>vec1 f k 252 0 fun f=>vec1 f k 253 192 fun f=>vec1 f k 254 160 fun f=>vec1 f k 255 192 K)else none)else none
abbrev i257:Ts:=[.p q12]
abbrev o257:Ts:=[.a [.sl true .n]]
abbrev F257:=FT i257 o257
abbrev g257:=mkG 257 i257 o257
abbrev lc257_0:Ts:=[.v (.int .i64)]
abbrev lb257_0:Ts:=[.p q12, .p [.sl true .n]]
abbrev lv257_0:Ts:=[.v (.int .i64)]
abbrev lr257_0:Ts:=[]
abbrev R257_0:=Option (Sum (PTup lv257_0) (PTup lr257_0)×BTup lb257_0)
abbrev B257_0:=PTup lb257_0→PTup lv257_0→R257_0
abbrev A257_0:=PTup lc257_0→B257_0
noncomputable def w257_0 (c305:F305) (c157:F157) (c104:F104) (c304:F304) (c306:F306) (again:B257_0) (x:PTup lc257_0) (y:PTup lb257_0) (z:PTup lv257_0):R257_0:=
  bif (ltI z.1 x.1)then ((c304 (y.1,())).bind fun r0=>
   bif (leN ((List.length y.2.1.1)+(List.length (r0.1.1::[]))) (E.most .n))then (again ((y.1.1,r0.2.1.2),(((y.2.1.1++(r0.1.1::[])),()),())) ((wI (z.1+1)),()))
   else none)
  else some ((Sum.inl z),(y.1,(y.2.1,())))
noncomputable def e257_0 (l:A257_0):LoopE:=⟨[4],lc257_0,[0,3],lb257_0,[5],lv257_0,[],lr257_0,0,[],l⟩
noncomputable def m257 (c305:F305) (c157:F157) (c104:F104) (c304:F304) (c306:F306) (l0:A257_0) (y:PTup i257):Option (PTup o257×BTup i257):=
  (c157 (y.1,((3:Int),()))).bind fun r0=>let k:=wI (1+r0.1.1);(l0 (k,()) ((y.1.1,r0.2.1.2),(([],()),())) ((0:Int),())).bind fun r1=>sumElim r1.1 (fun _=>(c104 ((y.1.1,r1.2.1.2),((4:Int),()))).bind fun r3=>
   bif (!r3.1.1)then ((c306 ((y.1.1,r3.2.1.2),())).bind fun r4=>(c305 r4.1).bind fun r5=>
    bif (eqI (lenI r5.1.1) 256)then (bif (leI 0 (wI (k-1)))then (bif (ltI (wI (k-1)) (lenI r1.2.2.1.1))then (vecs6 (List.set r1.2.2.1.1 (Int.toNat (wI (k-1))) r5.1.1) (wI (k-1)) fun f=>some (((f,()),()),((y.1.1,r4.2.1.2),())))else none)else none)
    else vecs6 r1.2.2.1.1 (wI (k-1)) fun f=>some (((f,()),()),((y.1.1,r4.2.1.2),())))
   else vecs6 r1.2.2.1.1 (wI (k-1)) fun f=>some (((f,()),()),((y.1.1,r3.2.1.2),())))
  (fun _=>some ((([],()),()),((y.1.1,r1.2.1.2),())))
noncomputable def E257 (c305:F305) (c157:F157) (c104:F104) (c304:F304) (c306:F306) (l0:A257_0):CEnv:=⟨⟨Tryz.prog,fnsL [g305 c305,g157 c157,g104 c104,g304 c304,g306 c306]⟩,loopsL [(4,e257_0 l0)]⟩
theorem t257_0 (c305:F305) (c157:F157) (c104:F104) (c304:F304) (c306:F306) (l0:A257_0) (again) (x y z):loopRound (E257 c305 c157 c104 c304 c306 l0) (loopAt (bodyOf Tryz.f257) 0) (e257_0 l0) Tryz.f257.ntmps again x y z=w257_0 c305 c157 c104 c304 c306 again x y z:=by kernel_rfl
noncomputable def n257_0 (c305:F305) (c157:F157) (c104:F104) (c304:F304) (c306:F306):Nat→A257_0
  |0,_,_,_=>none
  |n+1,x,y,z=>w257_0 c305 c157 c104 c304 c306 (fun y z=>n257_0 c305 c157 c104 c304 c306 n x y z) x y z
theorem s257 (c305:F305) (c157:F157) (c104:F104) (c304:F304) (c306:F306) (l0:A257_0) (y):tevF (E257 c305 c157 c104 c304 c306 l0) Tryz.f257 i257 o257 y=m257 c305 c157 c104 c304 c306 l0 y:=by kernel_rfl
noncomputable def L257_0:A257_0:=n257_0 r305 r157 r104 r304 r306 fuel
noncomputable def r257:F257:=m257 r305 r157 r104 r304 r306 L257_0
theorem k257:KO (g257 r257):=by
  have hE: ∀g f,(E257 r305 r157 r104 r304 r306 L257_0).env.fns g=some f→CallOk Tryz.prog g f:=fnsL_ok ⟨k305,k157,k104,k304,k306,⟨⟩⟩
  have h0:LoopOk Tryz.prog Tryz.f257.ntmps (loopAt (bodyOf Tryz.f257) 0) (e257_0 L257_0):=lp_ok (E:=E257 r305 r157 r104 r304 r306 L257_0) rfl hE mixed (AllLoops.of_list (l:=[]) (by kernel_rfl) trivial) (n257_0 r305 r157 r104 r304 r306) (fun _ _ _=>rfl) (fun n x y z=>t257_0 r305 r157 r104 r304 r306 L257_0 _ x y z) rfl
  exact fn_ok (E:=E257 r305 r157 r104 r304 r306 L257_0) rfl hE mixed (by kernel_rfl) (by kernel_rfl) (AllLoops.of_list (l:=[(loopAt (bodyOf Tryz.f257) 0)]) (by kernel_rfl) (.one (by kernel_rfl) h0 trivial)) (s257 r305 r157 r104 r304 r306 L257_0)
abbrev i258:Ts:=[.p q12]
abbrev o258:Ts:=[.a q2]
abbrev F258:=FT i258 o258
abbrev g258:=mkG 258 i258 o258
noncomputable def m258 (c296:F296) (c157:F157) (c187:F187) (y:PTup i258):Option (PTup o258×BTup i258):=
  (c157 (y.1,((256:Int),()))).bind fun r0=>
  (c157 ((y.1.1,r0.2.1.2),((256:Int),()))).bind fun r1=>
  (c187 ((y.1.1,r1.2.1.2),(((0:Int)::((1:Int)::((2:Int)::((255:Int)::((254:Int)::((128:Int)::[])))))),()))).bind fun r2=>
  (c187 ((y.1.1,r2.2.1.2),(((0:Int)::((49152:Int)::((49200:Int)::((65535:Int)::((65534:Int)::((32768:Int)::((8192:Int)::((511:Int)::[])))))))),()))).bind fun r3=>
  (c157 ((y.1.1,r3.2.1.2),((256:Int),()))).bind fun r4=>
  (c296 ((r0.1.1,(r1.1.1,(r2.1.1,(r3.1.1,(false,(false,(false,(false,())))))))),r4.1)).bind fun r5=>
  some ((r5.1.1,()),((y.1.1,r4.2.1.2),()))
theorem s258 (c296:F296) (c157:F157) (c187:F187) (y):TE [g296 c296,g157 c157,g187 c187] Tryz.f258 i258 o258 y=m258 c296 c157 c187 y:=by kernel_rfl
noncomputable def r258:F258:=m258 r296 r157 r187
theorem k258:KO (g258 r258):=fk (s258 r296 r157 r187) ⟨k296,k157,k187,⟨⟩⟩ (by kernel_rfl)
abbrev i259:Ts:=[.p q12]
abbrev o259:Ts:=[.v (.int .i64)]
abbrev F259:=FT i259 o259
abbrev g259:=mkG 259 i259 o259
noncomputable def m259 (c157:F157) (c104:F104) (c187:F187) (y:PTup i259):Option (PTup o259×BTup i259):=
  (c104 (y.1,((9:Int),()))).bind fun r0=>
  bif r0.1.1 then ((c187 ((y.1.1,r0.2.1.2),(((-(1:Int))::((256:Int)::((65535:Int)::((65536:Int)::((9223372036854775807:Int)::((-(9223372036854775808:Int))::((511:Int)::[]))))))),()))).bind fun r1=>
   some (r1.1,((y.1.1,r1.2.1.2),())))
  else (c157 ((y.1.1,r0.2.1.2),((256:Int),()))).bind fun r1=>
  some (r1.1,((y.1.1,r1.2.1.2),()))
theorem s259 (c157:F157) (c104:F104) (c187:F187) (y):TE [g157 c157,g104 c104,g187 c187] Tryz.f259 i259 o259 y=m259 c157 c104 c187 y:=by kernel_rfl
noncomputable def r259:F259:=m259 r157 r104 r187
theorem k259:KO (g259 r259):=fk (s259 r157 r104 r187) ⟨k157,k104,k187,⟨⟩⟩ (by kernel_rfl)
abbrev i188:Ts:=[.p q12]
abbrev o188:Ts:=[.a q2]
abbrev F188:=FT i188 o188
abbrev g188:=mkG 188 i188 o188
noncomputable def m188 (c157:F157) (c259:F259) (c187:F187) (c258:F258) (y:PTup i188):Option (PTup o188×BTup i188):=
  (c258 (y.1,())).bind fun r0=>
  (c157 ((y.1.1,r0.2.1.2),((25:Int),()))).bind fun r1=>
  bif (eqI r1.1.1 0)then ((c259 ((y.1.1,r1.2.1.2),())).bind fun r2=>
   some (((r2.1.1,r0.1.1.2),()),((y.1.1,r2.2.1.2),())))
  else bif (eqI r1.1.1 1)then ((c259 ((y.1.1,r1.2.1.2),())).bind fun r2=>
   some (((r0.1.1.1,(r2.1.1,r0.1.1.2.2)),()),((y.1.1,r2.2.1.2),())))
  else bif (eqI r1.1.1 2)then ((c259 ((y.1.1,r1.2.1.2),())).bind fun r2=>
   some (((r0.1.1.1,(r0.1.1.2.1,(r2.1.1,r0.1.1.2.2.2))),()),((y.1.1,r2.2.1.2),())))
  else bif (eqI r1.1.1 3)then ((c187 ((y.1.1,r1.2.1.2),(((-(1:Int))::((65536:Int)::[])),()))).bind fun r2=>
   some (((r0.1.1.1,(r0.1.1.2.1,(r0.1.1.2.2.1,(r2.1.1,r0.1.1.2.2.2.2)))),()),((y.1.1,r2.2.1.2),())))
  else some ((r0.1.1,()),((y.1.1,r1.2.1.2),()))
theorem s188 (c157:F157) (c259:F259) (c187:F187) (c258:F258) (y):TE [g157 c157,g259 c259,g187 c187,g258 c258] Tryz.f188 i188 o188 y=m188 c157 c259 c187 c258 y:=by kernel_rfl
noncomputable def r188:F188:=m188 r157 r259 r187 r258
theorem k188:KO (g188 r188):=fk (s188 r157 r259 r187 r258) ⟨k157,k259,k187,k258,⟨⟩⟩ (by kernel_rfl)
abbrev i108:Ts:=[.a q3, .a q3]
abbrev o108:Ts:=[.v (.bool)]
abbrev F108:=FT i108 o108
abbrev g108:=mkG 108 i108 o108
noncomputable def m108 (c94:F94) (y:PTup i108):Option (PTup o108×BTup i108):=
  bif (eqI y.1.1 y.2.1.1)then (bif (eqI y.1.2.1 y.2.1.2.1)then (bif (eqI y.1.2.2.1 y.2.1.2.2.1)then (bif (eqI y.1.2.2.2.1 y.2.1.2.2.2.1)then (bif (eqI y.1.2.2.2.2.1 y.2.1.2.2.2.2.1)then (bif (y.1.2.2.2.2.2.1==y.2.1.2.2.2.2.2.1)then ((c94 (y.1.2.2.2.2.2.2.1,(y.2.1.2.2.2.2.2.2.1,()))).bind fun r0=>
        bif r0.1.1 then ((c94 (y.1.2.2.2.2.2.2.2.1,y.2.1.2.2.2.2.2.2.2)).bind fun r1=>
         some (r1.1,()))
        else no)
       else no)
      else no)
     else no)
    else no)
   else no)
  else no
theorem s108 (c94:F94) (y):TE [g94 c94] Tryz.f108 i108 o108 y=m108 c94 y:=by kernel_rfl
noncomputable def r108:F108:=m108 r94
theorem k108:KO (g108 r108):=fk (s108 r94) ⟨k94,⟨⟩⟩ (by kernel_rfl)
abbrev i115:Ts:=[.v (.sl false .i), .v (.sl false .i)]
abbrev o115:Ts:=[.v (.bool)]
abbrev F115:=FT i115 o115
abbrev g115:=mkG 115 i115 o115
noncomputable def m115 (c94:F94) (y:PTup i115):Option (PTup o115×BTup i115):=
  (c94 y).bind fun r0=>
  some (r0.1,())
theorem s115 (c94:F94) (y):TE [g94 c94] Tryz.f115 i115 o115 y=m115 c94 y:=by kernel_rfl
noncomputable def r115:F115:=m115 r94
theorem k115:KO (g115 r115):=fk (s115 r94) ⟨k94,⟨⟩⟩ (by kernel_rfl)
abbrev i114:Ts:=[.v (.sl false .n), .v (.sl false .n), .v (.fn 115)]
abbrev o114:Ts:=[.v (.bool)]
abbrev F114:=FT i114 o114
abbrev g114:=mkG 114 i114 o114
abbrev lc114_0:Ts:=[.v (.sl false .n), .v (.fn 115), .v (.sl false .n), .v (.int .i64)]
abbrev lb114_0:Ts:=[]
abbrev lv114_0:Ts:=[.v (.int .i64)]
abbrev lr114_0:Ts:=[.v (.bool)]
abbrev R114_0:=Option (Sum (PTup lv114_0) (PTup lr114_0)×BTup lb114_0)
abbrev B114_0:=PTup lb114_0→PTup lv114_0→R114_0
abbrev A114_0:=PTup lc114_0→B114_0
noncomputable def w114_0 (c115:F115) (again:B114_0) (x:PTup lc114_0) (y:PTup lb114_0) (z:PTup lv114_0):R114_0:=
  bif (ltI z.1 x.2.2.2.1)then (bif (leI 0 z.1)then (bif (ltI z.1 (lenI x.2.2.1))then (bif (leI 0 z.1)then (bif (ltI z.1 (lenI x.1))then ((c115 ((rdE .n x.2.2.1 z.1),((rdE .n x.1 z.1),()))).bind fun r0=>
       bif (!r0.1.1)then (some ((Sum.inr (false,())),()))
       else again () ((wI (z.1+1)),()))
      else none)
     else none)
    else none)
   else none)
  else some ((Sum.inl z),())
noncomputable def e114_0 (l:A114_0):LoopE:=⟨[1,2,15,16],lc114_0,[],lb114_0,[17],lv114_0,[6],lr114_0,0,[],l⟩
noncomputable def m114 (c115:F115) (l0:A114_0) (y:PTup i114):Option (PTup o114×BTup i114):=
  bif (neI (lenI y.1) (lenI y.2.1))then no
  else (l0 (y.2.1,((),(y.1,((lenI y.1),())))) () ((0:Int),())).bind fun r0=>
  sumElim r0.1 (fun r1=>some ((true,()),()))
  (fun r1=>some (r1,()))
noncomputable def E114 (c115:F115) (l0:A114_0):CEnv:=⟨⟨Tryz.prog,fnsL [g115 c115]⟩,loopsL [(4,e114_0 l0)]⟩
theorem t114_0 (c115:F115) (l0:A114_0) (again) (x y z):loopRound (E114 c115 l0) (loopAt (bodyOf Tryz.f114) 0) (e114_0 l0) Tryz.f114.ntmps again x y z=w114_0 c115 again x y z:=by kernel_rfl
noncomputable def n114_0 (c115:F115):Nat→A114_0
  |0,_,_,_=>none
  |n+1,x,y,z=>w114_0 c115 (fun y z=>n114_0 c115 n x y z) x y z
theorem s114 (c115:F115) (l0:A114_0) (y):tevF (E114 c115 l0) Tryz.f114 i114 o114 y=m114 c115 l0 y:=by kernel_rfl
noncomputable def L114_0:A114_0:=n114_0 r115 fuel
noncomputable def r114:F114:=m114 r115 L114_0
theorem k114:KO (g114 r114):=by
  have hE: ∀g f,(E114 r115 L114_0).env.fns g=some f→CallOk Tryz.prog g f:=fnsL_ok ⟨k115,⟨⟩⟩
  have h0:LoopOk Tryz.prog Tryz.f114.ntmps (loopAt (bodyOf Tryz.f114) 0) (e114_0 L114_0):=lp_ok (E:=E114 r115 L114_0) rfl hE mixed (AllLoops.of_list (l:=[]) (by kernel_rfl) trivial) (n114_0 r115) (fun _ _ _=>rfl) (fun n x y z=>t114_0 r115 L114_0 _ x y z) rfl
  exact fn_ok (E:=E114 r115 L114_0) rfl hE mixed (by kernel_rfl) (by kernel_rfl) (AllLoops.of_list (l:=[(loopAt (bodyOf Tryz.f114) 0)]) (by kernel_rfl) (.one (by kernel_rfl) h0 trivial)) (s114 r115 L114_0)
abbrev i26:Ts:=[.a [.sl false .n, .sl false .i, .sl false .i], .a [.sl false .n, .sl false .i, .sl false .i]]
abbrev o26:Ts:=[.v (.bool)]
abbrev F26:=FT i26 o26
abbrev g26:=mkG 26 i26 o26
noncomputable def m26 (c114:F114) (c94:F94) (y:PTup i26):Option (PTup o26×BTup i26):=
  (c114 (y.1.1,(y.2.1.1,((),())))).bind fun r0=>
  bif r0.1.1 then ((c94 (y.1.2.1,(y.2.1.2.1,()))).bind fun r1=>
   bif r1.1.1 then ((c94 (y.1.2.2.1,y.2.1.2.2)).bind fun r2=>
    some (r2.1,()))
   else no)
  else no
theorem s26 (c114:F114) (c94:F94) (y):TE [g114 c114,g94 c94] Tryz.f26 i26 o26 y=m26 c114 c94 y:=by kernel_rfl
noncomputable def r26:F26:=m26 r114 r94
theorem k26:KO (g26 r26):=fk (s26 r114 r94) ⟨k114,k94,⟨⟩⟩ (by kernel_rfl)
abbrev i23:Ts:=[.a q7, .a q7]
abbrev o23:Ts:=[.v (.bool)]
abbrev F23:=FT i23 o23
abbrev g23:=mkG 23 i23 o23
noncomputable def m23 (c26:F26) (c93:F93) (c108:F108) (y:PTup i23):Option (PTup o23×BTup i23):=
  let a0:=y.1;let a1:=y.2;let a2:=a0.2;let a3:=a1.1;let a4:=a2.2;let a5:=a3.2;let a6:=a4.2;let a7:=a5.2;let a8:=a6.2;let a9:=a7.2;let a10:=a8.2;let a11:=a9.2;let a12:=a10.2;let a13:=a11.2;let a14:=a12.2;let a15:=a13.2;let a16:=a14.2;let a17:=a15.2;let a18:=a16.2;let a19:=a17.2;let a20:=a18.2;let a21:=a19.2;let a22:=a20.2;let a23:=a21.2;let a24:=a22.2;let a25:=a23.2;let a26:=a24.2;let a27:=a25.2;let a28:=a26.2;let a29:=a27.2;let a30:=a28.2;let a31:=a29.2;let a32:=a30.2;let a33:=a31.2;let a34:=a32.2;let a35:=a33.2;let a36:=a34.2;let a37:=a35.2;let a38:=a36.2;let a39:=a37.2;let a40:=a38.2;let a41:=a39.2;let a42:=a40.2;let a43:=a41.2;let a44:=a42.2;let a45:=a43.2;let a46:=a45.2;let a47:=a44.2.2;let a48:=a46.2.2;let a49:=a47.2.2;let a50:=a48.2.2;bif ((eqI a8.1 a11.1)&&((eqI a10.1 a13.1)&&((eqI a12.1 a15.1)&&((eqI a14.1 a17.1)&&((a16.1==a19.1)&&((a18.1==a21.1)&&((a20.1==a23.1)&&((a22.1==a25.1)&&true))))))))then (bif ((eqI a40.1 a43.1)&&((eqI a42.1 a45.1)&&((eqI a44.1 a46.1)&&((eqI a44.2.1 a46.2.1)&&((eqI a47.1 a48.1)&&((a47.2.1==a48.2.1)&&((a49.1==a50.1)&&true)))))))then (bif ((a49.2.1==a50.2.1)&&((eqI a49.2.2.1 a50.2.2.1)&&true))then (bif (a49.2.2.2.1==a50.2.2.2.1)then (bif (eqI a49.2.2.2.2.1 a50.2.2.2.2.1)then ((c93 ((a4.1,(a6.1,())),((a7.1,(a9.1,())),()))).bind fun r0=>
       bif r0.1.1 then ((c108 ((a24.1,(a26.1,(a28.1,(a30.1,(a32.1,(a34.1,(a36.1,(a38.1,())))))))),((a27.1,(a29.1,(a31.1,(a33.1,(a35.1,(a37.1,(a39.1,(a41.1,())))))))),()))).bind fun r1=>
        bif r1.1.1 then ((c26 (a49.2.2.2.2.2,(a50.2.2.2.2.2,()))).bind fun r2=>
         some (r2.1,()))
        else no)
       else no)
      else no)
     else no)
    else no)
   else no)
  else no
theorem s23 (c26:F26) (c93:F93) (c108:F108) (y):TE [g26 c26,g93 c93,g108 c108] Tryz.f23 i23 o23 y=m23 c26 c93 c108 y:=by kernel_rfl
noncomputable def r23:F23:=m23 r26 r93 r108
theorem k23:KO (g23 r23):=fk (s23 r26 r93 r108) ⟨k26,k93,k108,⟨⟩⟩ (by kernel_rfl)
abbrev i214:Ts:=[.p q12]
abbrev o214:Ts:=[.a q8]
abbrev F214:=FT i214 o214
abbrev g214:=mkG 214 i214 o214
abbrev lc214_0:Ts:=[]
abbrev lb214_0:Ts:=[.p q12]
abbrev lv214_0:Ts:=[.v (.sl true .i), .v (.int .i64)]
abbrev lr214_0:Ts:=[]
abbrev R214_0:=Option (Sum (PTup lv214_0) (PTup lr214_0)×BTup lb214_0)
abbrev B214_0:=PTup lb214_0→PTup lv214_0→R214_0
abbrev A214_0:=PTup lc214_0→B214_0
noncomputable def w214_0 (c172:F172) (c47:F47) (c157:F157) (c257:F257) (again:B214_0) (x:PTup lc214_0) (y:PTup lb214_0) (z:PTup lv214_0):R214_0:=
  (c157 (y.1,((4:Int),()))).bind fun r0=>
  bif (ltI z.2.1 r0.1.1)then ((c157 ((y.1.1,r0.2.1.2),((256:Int),()))).bind fun r1=>
   bif (leN ((List.length z.1)+(List.length (r1.1.1::[]))) (E.most .i))then (again ((y.1.1,r1.2.1.2),()) ((z.1++(r1.1.1::[])),((wI (z.2.1+1)),())))
   else none)
  else some ((Sum.inl z),((y.1.1,r0.2.1.2),()))
noncomputable def e214_0 (l:A214_0):LoopE:=⟨[],lc214_0,[0],lb214_0,[3,4],lv214_0,[],lr214_0,0,[],l⟩
noncomputable def m214 (c172:F172) (c47:F47) (c157:F157) (c257:F257) (l0:A214_0) (y:PTup i214):Option (PTup o214×BTup i214):=
  (l0 () (y.1,()) ([],((0:Int),()))).bind fun r0=>
  sumElim r0.1 (fun r1=>(c257 ((y.1.1,r0.2.1.2),())).bind fun r2=>
   (c172 (r2.1.1,(r1.1,()))).bind fun r3=>
   (c157 ((y.1.1,r2.2.1.2),((60:Int),()))).bind fun r4=>
   (c47 (r3.1.1,r4.1)).bind fun r5=>
   some ((r5.1.1,()),((y.1.1,r4.2.1.2),())))
  (fun r1=>some ((([],([],([],((0:Int),((0:Int),((0:Int),((0:Int),((0:Int),(false,(false,(false,(false,((0:Int),((0:Int),((0:Int),((0:Int),((0:Int),(false,([],([],((0:Int),((0:Int),((0:Int),((0:Int),((0:Int),(false,(false,(false,((0:Int),(false,((0:Int),([],([],([],())))))))))))))))))))))))))))))))))),()),((y.1.1,r0.2.1.2),())))
noncomputable def E214 (c172:F172) (c47:F47) (c157:F157) (c257:F257) (l0:A214_0):CEnv:=⟨⟨Tryz.prog,fnsL [g172 c172,g47 c47,g157 c157,g257 c257]⟩,loopsL [(3,e214_0 l0)]⟩
theorem t214_0 (c172:F172) (c47:F47) (c157:F157) (c257:F257) (l0:A214_0) (again) (x y z):loopRound (E214 c172 c47 c157 c257 l0) (loopAt (bodyOf Tryz.f214) 0) (e214_0 l0) Tryz.f214.ntmps again x y z=w214_0 c172 c47 c157 c257 again x y z:=by kernel_rfl
noncomputable def n214_0 (c172:F172) (c47:F47) (c157:F157) (c257:F257):Nat→A214_0
  |0,_,_,_=>none
  |n+1,x,y,z=>w214_0 c172 c47 c157 c257 (fun y z=>n214_0 c172 c47 c157 c257 n x y z) x y z
theorem s214 (c172:F172) (c47:F47) (c157:F157) (c257:F257) (l0:A214_0) (y):tevF (E214 c172 c47 c157 c257 l0) Tryz.f214 i214 o214 y=m214 c172 c47 c157 c257 l0 y:=by kernel_rfl
noncomputable def L214_0:A214_0:=n214_0 r172 r47 r157 r257 fuel
noncomputable def r214:F214:=m214 r172 r47 r157 r257 L214_0
theorem k214:KO (g214 r214):=by
  have hE: ∀g f,(E214 r172 r47 r157 r257 L214_0).env.fns g=some f→CallOk Tryz.prog g f:=fnsL_ok ⟨k172,k47,k157,k257,⟨⟩⟩
  have h0:LoopOk Tryz.prog Tryz.f214.ntmps (loopAt (bodyOf Tryz.f214) 0) (e214_0 L214_0):=lp_ok (E:=E214 r172 r47 r157 r257 L214_0) rfl hE mixed (AllLoops.of_list (l:=[]) (by kernel_rfl) trivial) (n214_0 r172 r47 r157 r257) (fun _ _ _=>rfl) (fun n x y z=>t214_0 r172 r47 r157 r257 L214_0 _ x y z) rfl
  exact fn_ok (E:=E214 r172 r47 r157 r257 L214_0) rfl hE mixed (by kernel_rfl) (by kernel_rfl) (AllLoops.of_list (l:=[(loopAt (bodyOf Tryz.f214) 0)]) (by kernel_rfl) (.one (by kernel_rfl) h0 trivial)) (s214 r172 r47 r157 r257 L214_0)
abbrev i144:Ts:=[.p q12]
abbrev o144:Ts:=[.a q8]
abbrev F144:=FT i144 o144
abbrev g144:=mkG 144 i144 o144
noncomputable def m144 (c214:F214) (c157:F157) (c188:F188) (y:PTup i144):Option (PTup o144×BTup i144):=
  (c214 (y.1,())).bind fun r0=>(c157 ((y.1.1,r0.2.1.2),((30:Int),()))).bind fun r1=>
  bif (eqI r1.1.1 0)then (some (((m2 (m2 (m2 (m2 (m2 (m2 (m2 (m2 (m2 (m2 (m2 (m2 (m2 (m2 (m2 (m2 (m2 (m2 (m2 (m2 (fun p=>(wI (p.1+1),p.2))))))))))))))))))))) r0.1.1),()),((y.1.1,r1.2.1.2),())))
  else bif (eqI r1.1.1 1)then (some (((m2 (m2 (m2 (m2 (m2 (m2 (m2 (m2 (m2 (m2 (m2 (m2 (m2 (m2 (m2 (m2 (m2 (m2 (m2 (m2 (m2 (m2 (m2 (m2 (m2 (m2 (m2 (m2 (m2 (m2 (fun p=>(-(1:Int),p.2))))))))))))))))))))))))))))))) r0.1.1),()),((y.1.1,r1.2.1.2),())))
  else bif (eqI r1.1.1 2)then (bif (leN ((List.length r0.1.1.2.2.2.2.2.2.2.2.2.2.2.2.2.2.2.2.2.2.2.2.2.2.2.2.2.2.2.2.2.2.2.2.1)+(List.length [(0:Int)])) (E.most .i))then (some (((m2 (m2 (m2 (m2 (m2 (m2 (m2 (m2 (m2 (m2 (m2 (m2 (m2 (m2 (m2 (m2 (m2 (m2 (m2 (m2 (m2 (m2 (m2 (m2 (m2 (m2 (m2 (m2 (m2 (m2 (m2 (m2 (fun p=>(p.1++[(0:Int)],p.2))))))))))))))))))))))))))))))))) r0.1.1),()),((y.1.1,r1.2.1.2),())))else none)
  else bif (eqI r1.1.1 3)then (bif (leN ((List.length r0.1.1.2.2.2.2.2.2.2.2.2.2.2.2.2.2.2.2.2.2.2.2.2.2.2.2.2.2.2.2.2.2.2.1)+(List.length [[(1:Int)]])) (E.most .n))then (some (((m2 (m2 (m2 (m2 (m2 (m2 (m2 (m2 (m2 (m2 (m2 (m2 (m2 (m2 (m2 (m2 (m2 (m2 (m2 (m2 (m2 (m2 (m2 (m2 (m2 (m2 (m2 (m2 (m2 (m2 (m2 (fun p=>(p.1++[[(1:Int)]],p.2)))))))))))))))))))))))))))))))) r0.1.1),()),((y.1.1,r1.2.1.2),())))else none)
  else bif (eqI r1.1.1 4)then ((c188 ((y.1.1,r1.2.1.2),())).bind fun r2=>some (((m2 (m2 (m2 (m2 (cpuAt r2.1.1)))) r0.1.1),()),((y.1.1,r2.2.1.2),())))
  else bif (eqI r1.1.1 5)then (some (((m2 (m2 (m2 (m2 (m2 (m2 (m2 (m2 (m2 (m2 (m2 (m2 (m2 (m2 (m2 (m2 (m2 (m2 (m2 (m2 (m2 (m2 (m2 (m2 (m2 (m2 (m2 (m2 (m2 (fun p=>(true,p.2)))))))))))))))))))))))))))))) r0.1.1),()),((y.1.1,r1.2.1.2),())))
  else bif (eqI r1.1.1 6)then (some (((m2 (m2 (m2 (m2 (m2 (m2 (m2 (m2 (m2 (m2 (m2 (fun p=>(false,m2 (m2 (m2 (m2 (m2 (m2 (m2 (m2 (m2 (m2 (m2 (m2 (m2 (m2 (fun p=>(true,p.2))))))))))))))) p.2)))))))))))) r0.1.1),()),((y.1.1,r1.2.1.2),())))
  else bif (eqI r1.1.1 7)then (some (((m2 (m2 (m2 (m2 (m2 (m2 (m2 (m2 (m2 (m2 (m2 (m2 (m2 (m2 (m2 (m2 (m2 (m2 (m2 (m2 (m2 (m2 (m2 (m2 (m2 (m2 (m2 (m2 (fun p=>((256:Int),p.2))))))))))))))))))))))))))))) r0.1.1),()),((y.1.1,r1.2.1.2),())))
  else some ((r0.1.1,()),((y.1.1,r1.2.1.2),()))
theorem s144 (c214:F214) (c157:F157) (c188:F188) (y):TE [g214 c214,g157 c157,g188 c188] Tryz.f144 i144 o144 y=m144 c214 c157 c188 y:=by kernel_rfl
noncomputable def r144:F144:=m144 r214 r157 r188
theorem k144:KO (g144 r144):=fk (s144 r214 r157 r188) ⟨k214,k157,k188,⟨⟩⟩ (by kernel_rfl)
end Go.Proofs.YtgeodknaigdenaaGreat.Plain
