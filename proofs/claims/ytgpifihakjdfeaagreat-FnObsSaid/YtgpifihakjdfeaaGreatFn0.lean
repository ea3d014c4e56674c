/- Plain functions that the program's functions answer as; their contracts. Printed by a program of the proofs' writer. No condition. -/
import Derived.Test.YtgpifihakjdfeaaGreatW5
import Derived.KernelRfl
import Derived.Test.YtgpifihakjdfeaaGreatProg
set_option linter.unusedVariables false
set_option linter.unusedSimpArgs false
set_option maxRecDepth 100000
namespace Go.Proofs.YtgpifihakjdfeaaGreat.Plain
open Go Go.Tev
theorem mixed : Tryz.prog.follows .mixedOrders = true := by kernel_rfl
noncomputable abbrev mkE (l : List (Nat × Tev.Fn)) : CEnv := ⟨⟨Tryz.prog, fnsL l⟩, loopsL []⟩
abbrev FT (i o : List Ty) := PTup i → Option (PTup o × BTup i)
abbrev Ts := List Ty
abbrev bz (l : List UInt8) : ByteArray := ⟨⟨l⟩⟩
noncomputable abbrev TE (l : List (Nat × Tev.Fn)) (f : Func) (i o : List Ty) := tevF (mkE l) f i o
abbrev no : Option ((Bool × Unit) × Unit) := some ((false, ()), ())
abbrev mkG (k : Nat) (i o : List Ty) (c : FT i o) : Nat × Tev.Fn := (k, ⟨i, o, c, .nor⟩)
abbrev KO (x : Nat × Tev.Fn) : Prop := CK Tryz.prog x
theorem fk {l : List (Nat × Tev.Fn)} {g : FuncId} {f : Func} {i o : List Ty} {run : FT i o} (h : ∀ y, tevF (mkE l) f i o y = run y) (hE : AllCalls Tryz.prog l) (hg : (Tryz.prog.funcs[g]?, staticOk f i o && (loopsOf (bodyOf f)).isEmpty) = (some f, true)) : KO (mkG g i o run) := by
  have hs := congrArg Prod.snd hg
  dsimp only at hs
  rw [Bool.and_eq_true, List.isEmpty_iff] at hs
  exact fn0 h (fnsL_ok hE) rfl mixed (congrArg Prod.fst hg) hs.1 hs.2
abbrev m2 {A B C : Type} (f : B → C) (p : A × B) : A × C := (p.1, f p.2)
abbrev cpuAt {A B C D E F G H I J : Type} (c : A × B × C × D × E × F × G × H × I) (p : A × B × C × D × E × F × G × H × J) : A × B × C × D × E × F × G × H × J := (c.1, c.2.1, c.2.2.1, c.2.2.2.1, c.2.2.2.2.1, c.2.2.2.2.2.1, c.2.2.2.2.2.2.1, c.2.2.2.2.2.2.2.1, p.2.2.2.2.2.2.2.2)
abbrev q0 : List LT := [.sl false .b, .int .i64, .int .i64]
abbrev q1 : List LT := [.sl false .n]
abbrev q2 : List LT := [.sl true .i, .int .i64]
abbrev q3 : List LT := [.sl false .i, .int .i64]
abbrev q4 : List LT := [.int .i64, .int .i64, .int .i64, .int .i64, .bool, .bool, .bool, .bool]
abbrev q5 : List LT := [.int .i64, .int .i64, .int .i64, .int .i64, .int .i64, .bool, .sl true .i, .sl true .i]
abbrev q6 : List LT := [.int .i64, .int .i64, .int .i64, .int .i64, .int .i64, .bool, .sl false .i, .sl false .i]
abbrev q7 : List LT := [.int .i64, .int .i64, .int .i64, .int .i64, .int .i64, .bool, .bool]
abbrev q8 : List LT := [.int .i64, .int .i64]
abbrev q9 : List LT := [.sl false .n, .sl false .i, .sl false .i]
abbrev q10 : List LT := [.sl false .n, .sl false .i, .sl false .i, .int .i64, .int .i64, .int .i64, .int .i64, .int .i64, .bool, .bool, .bool, .bool, .int .i64, .int .i64, .int .i64, .int .i64, .int .i64, .bool, .sl false .i, .sl false .i, .int .i64, .int .i64, .int .i64, .int .i64, .int .i64, .bool, .bool, .bool, .int .i64, .bool, .int .i64, .sl false .n, .sl false .i, .sl false .i]
abbrev q11 : List LT := [.sl true .n, .sl true .i, .sl true .i, .int .i64, .int .i64, .int .i64, .int .i64, .int .i64, .bool, .bool, .bool, .bool, .int .i64, .int .i64, .int .i64, .int .i64, .int .i64, .bool, .sl true .i, .sl true .i, .int .i64, .int .i64, .int .i64, .int .i64, .int .i64, .bool, .bool, .bool, .int .i64, .bool, .int .i64, .sl true .n, .sl true .i, .sl true .i]
abbrev q12 : List LT := [.sl true .n, .sl true .i, .sl true .i]
abbrev i12:Ts:=[.v (.sl false .b)]
abbrev o12:Ts:=[.v (.bool)]
abbrev F12:=FT i12 o12
abbrev g12:=mkG 12 i12 o12
noncomputable def m12 (y:PTup i12):Option (PTup o12×BTup i12):=
  some (((ltI 1048576 (lenI y.1)),()),())
theorem s12 (y):TE [] Tryz.f12 i12 o12 y=m12 y:=by kernel_rfl
noncomputable def r12:F12:=m12
theorem k12:KO (g12 r12):=fk (s12) trivial (by kernel_rfl)
abbrev i54:Ts:=[.v (.sl false .b)]
abbrev o54:Ts:=[.p q0]
abbrev F54:=FT i54 o54
abbrev g54 (c:F54):Nat×Tev.Fn:=(54,⟨i54,o54,c, .lnt⟩)
abbrev lc54_0:Ts:=[.v (.sl false .b)]
abbrev lb54_0:Ts:=[]
abbrev lv54_0:Ts:=[.v (.int .i64), .v (.int .i64)]
abbrev lr54_0:Ts:=[]
abbrev R54_0:=Option (Sum (PTup lv54_0) (PTup lr54_0)×BTup lb54_0)
abbrev B54_0:=PTup lb54_0→PTup lv54_0→R54_0
abbrev A54_0:=PTup lc54_0→B54_0
noncomputable def w54_0 (again:B54_0) (x:PTup lc54_0) (y:PTup lb54_0) (z:PTup lv54_0):R54_0:=
  bif (ltI z.2.1 (lenI x.1))then (bif (ltI z.2.1 4000)then (bif (leI 0 z.2.1)then (bif (ltI z.2.1 (lenI x.1))then (again () ((bAnd Go.IntKind.i64 (wI ((wI ((wI (z.1*131))+(wI (rdE .b x.1 z.2.1))))+7)) (1073741823:Int)),((wI (z.2.1+1)),())))
     else none)
    else none)
   else some ((Sum.inl z),()))
  else some ((Sum.inl z),())
noncomputable def e54_0 (l:A54_0):LoopE:=⟨[0],lc54_0,[],lb54_0,[3,4],lv54_0,[],lr54_0,0,[],l⟩
noncomputable def m54 (l0:A54_0) (y:PTup i54):Option (PTup o54×BTup i54):=
  (l0 y () ((wI ((18554:Int)+(lenI y.1))),((0:Int),()))).bind fun r0=>
  sumElim r0.1 (fun r1=>some (((y.1,((0:Int),(r1.1,()))),()),()))
  (fun r1=>none)
noncomputable def E54 (l0:A54_0):CEnv:=⟨⟨Tryz.prog,fnsL []⟩,loopsL [(3,e54_0 l0)]⟩
theorem t54_0 (l0:A54_0) (again) (x y z):loopRound (E54 l0) (loopAt (bodyOf Tryz.f54) 0) (e54_0 l0) Tryz.f54.ntmps again x y z=w54_0 again x y z:=by kernel_rfl
noncomputable def n54_0:Nat→A54_0
  |0,_,_,_=>none
  |n+1,x,y,z=>w54_0 (fun y z=>n54_0 n x y z) x y z
theorem s54 (l0:A54_0) (y):tevL (E54 l0) Tryz.f54 i54 o54 y=m54 l0 y:=by kernel_rfl
noncomputable def L54_0:A54_0:=n54_0 fuel
noncomputable def r54:F54:=m54 L54_0
theorem k54:KO (g54 r54):=by
  have hE: ∀g f,(E54 L54_0).env.fns g=some f→CallOk Tryz.prog g f:=fnsL_ok trivial
  have h0:LoopOk Tryz.prog Tryz.f54.ntmps (loopAt (bodyOf Tryz.f54) 0) (e54_0 L54_0):=lp_ok (E:=E54 L54_0) rfl hE mixed (AllLoops.of_list (l:=[]) (by kernel_rfl) trivial) (n54_0) (fun _ _ _=>rfl) (fun n x y z=>t54_0 L54_0 _ x y z) rfl
  exact fnL_ok (E:=E54 L54_0) rfl hE mixed (by kernel_rfl) (by kernel_rfl) (AllLoops.of_list (l:=[(loopAt (bodyOf Tryz.f54) 0)]) (by kernel_rfl) (.one (by kernel_rfl) h0 trivial)) (s54 L54_0)
abbrev i130:Ts:=[.p q0]
abbrev o130:Ts:=[.v (.int .i64)]
abbrev F130:=FT i130 o130
abbrev g130:=mkG 130 i130 o130
noncomputable def m130 (y:PTup i130):Option (PTup o130×BTup i130):=
  bif (ltI y.1.2.1 (lenI y.1.1))then (bif (leI 0 y.1.2.1)then (bif (ltI y.1.2.1 (lenI y.1.1))then (some (((bAnd Go.IntKind.i64 (wI ((bAnd Go.IntKind.i64 (bXor Go.IntKind.i64 (Int.fdiv (wI ((wI (y.1.2.2.1*6364136223846793005))+1442695040888963407)) ((2:Int)^(Min.min (Int.toNat (33:Int)) (64:Nat)))) (Int.fdiv (wI ((wI (y.1.2.2.1*6364136223846793005))+1442695040888963407)) ((2:Int)^(Min.min (Int.toNat (45:Int)) (64:Nat))))) (255:Int))+(wI (rdE .b y.1.1 y.1.2.1)))) (255:Int)),()),((y.1.1,((wI (y.1.2.1+1)),((wI ((wI (y.1.2.2.1*6364136223846793005))+1442695040888963407)),()))),())))
    else none)
   else none)
  else some (((bAnd Go.IntKind.i64 (bXor Go.IntKind.i64 (Int.fdiv (wI ((wI (y.1.2.2.1*6364136223846793005))+1442695040888963407)) ((2:Int)^(Min.min (Int.toNat (33:Int)) (64:Nat)))) (Int.fdiv (wI ((wI (y.1.2.2.1*6364136223846793005))+1442695040888963407)) ((2:Int)^(Min.min (Int.toNat (45:Int)) (64:Nat))))) (255:Int)),()),((y.1.1,(y.1.2.1,((wI ((wI (y.1.2.2.1*6364136223846793005))+1442695040888963407)),()))),()))
theorem s130 (y):TE [] Tryz.f130 i130 o130 y=m130 y:=by kernel_rfl
noncomputable def r130:F130:=m130
theorem k130:KO (g130 r130):=fk (s130) trivial (by kernel_rfl)
abbrev i57:Ts:=[.p q0, .v (.int .i64)]
abbrev o57:Ts:=[.v (.int .i64)]
abbrev F57:=FT i57 o57
abbrev g57:=mkG 57 i57 o57
noncomputable def m57 (c130:F130) (y:PTup i57):Option (PTup o57×BTup i57):=
  bif (leI y.2.1 0)then (some (((0:Int),()),(y.1,())))
  else bif (leI y.2.1 256)then ((c130 (y.1,())).bind fun r0=>
   bif (neI y.2.1 0)then (some (((Int.tmod r0.1.1 y.2.1),()),((y.1.1,r0.2.1.2),())))
   else none)
  else (c130 (y.1,())).bind fun r0=>
  (c130 ((y.1.1,r0.2.1.2),())).bind fun r1=>
  (c130 ((y.1.1,r1.2.1.2),())).bind fun r2=>
  (c130 ((y.1.1,r2.2.1.2),())).bind fun r3=>
  bif (neI y.2.1 0)then (some (((Int.tmod (wI ((wI ((wI ((wI (r0.1.1*16777216))+(wI (r1.1.1*65536))))+(wI (r2.1.1*256))))+r3.1.1)) y.2.1),()),((y.1.1,r3.2.1.2),())))
  else none
theorem s57 (c130:F130) (y):TE [g130 c130] Tryz.f57 i57 o57 y=m57 c130 y:=by kernel_rfl
noncomputable def r57:F57:=m57 r130
theorem k57:KO (g57 r57):=fk (s57 r130) ⟨k130,⟨⟩⟩ (by kernel_rfl)
abbrev i160:Ts:=[.p q0, .v (.sl false .i)]
abbrev o160:Ts:=[.v (.int .i64)]
abbrev F160:=FT i160 o160
abbrev g160:=mkG 160 i160 o160
noncomputable def m160 (c57:F57) (y:PTup i160):Option (PTup o160×BTup i160):=
  (c57 (y.1,((lenI y.2.1),()))).bind fun r0=>
  bif (leI 0 r0.1.1)then (bif (ltI r0.1.1 (lenI y.2.1))then (some (((rdE .i y.2.1 r0.1.1),()),((y.1.1,r0.2.1.2),())))
   else none)
  else none
theorem s160 (c57:F57) (y):TE [g57 c57] Tryz.f160 i160 o160 y=m160 c57 y:=by kernel_rfl
noncomputable def r160:F160:=m160 r57
theorem k160:KO (g160 r160):=fk (s160 r57) ⟨k57,⟨⟩⟩ (by kernel_rfl)
abbrev i199:Ts:=[.p q0]
abbrev o199:Ts:=[.v (.sl true .i)]
abbrev F199:=FT i199 o199
abbrev g199:=mkG 199 i199 o199
abbrev lc199_0:Ts:=[]
abbrev lb199_0:Ts:=[.p q0]
abbrev lv199_0:Ts:=[.v (.int .i64), .v (.sl true .i)]
abbrev lr199_0:Ts:=[]
abbrev R199_0:=Option (Sum (PTup lv199_0) (PTup lr199_0)×BTup lb199_0)
abbrev B199_0:=PTup lb199_0→PTup lv199_0→R199_0
abbrev A199_0:=PTup lc199_0→B199_0
noncomputable def w199_0 (c57:F57) (c160:F160) (again:B199_0) (x:PTup lc199_0) (y:PTup lb199_0) (z:PTup lv199_0):R199_0:=
  bif (ltI z.1 256)then ((c57 (y.1,((4:Int),()))).bind fun r0=>
   bif (eqI r0.1.1 0)then ((c57 ((y.1.1,r0.2.1.2),((30:Int),()))).bind fun r1=>
    bif (leI 0 z.1)then (bif (ltI z.1 (lenI z.2.1))then (again ((y.1.1,r1.2.1.2),()) ((wI (z.1+1)),((List.set z.2.1 (Int.toNat z.1) r1.1.1),())))
     else none)
    else none)
   else bif (eqI r0.1.1 1)then ((c160 ((y.1.1,r0.2.1.2),(((32:Int)::((64:Int)::((0:Int)::((1:Int)::((22:Int)::((192:Int)::((128:Int)::((2:Int)::((4:Int)::((5:Int)::[])))))))))),()))).bind fun r1=>
    bif (leI 0 z.1)then (bif (ltI z.1 (lenI z.2.1))then (again ((y.1.1,r1.2.1.2),()) ((wI (z.1+1)),((List.set z.2.1 (Int.toNat z.1) r1.1.1),())))
     else none)
    else none)
   else bif (eqI r0.1.1 2)then ((c57 ((y.1.1,r0.2.1.2),((256:Int),()))).bind fun r1=>
    bif (leI 0 z.1)then (bif (ltI z.1 (lenI z.2.1))then (again ((y.1.1,r1.2.1.2),()) ((wI (z.1+1)),((List.set z.2.1 (Int.toNat z.1) r1.1.1),())))
     else none)
    else none)
   else again ((y.1.1,r0.2.1.2),()) ((wI (z.1+1)),z.2))
  else some ((Sum.inl z),(y.1,()))
noncomputable def e199_0 (l:A199_0):LoopE:=⟨[],lc199_0,[0],lb199_0,[4,3],lv199_0,[],lr199_0,0,[],l⟩
noncomputable def m199 (c57:F57) (c160:F160) (l0:A199_0) (y:PTup i199):Option (PTup o199×BTup i199):=
  (l0 () (y.1,()) ((0:Int),((List.replicate (Int.toNat (256:Int)) (0:Int)),()))).bind fun r0=>
  sumElim r0.1 (fun r1=>some (r1.2,((y.1.1,r0.2.1.2),())))
  (fun r1=>some (([],()),((y.1.1,r0.2.1.2),())))
noncomputable def E199 (c57:F57) (c160:F160) (l0:A199_0):CEnv:=⟨⟨Tryz.prog,fnsL [g57 c57,g160 c160]⟩,loopsL [(3,e199_0 l0)]⟩
theorem t199_0 (c57:F57) (c160:F160) (l0:A199_0) (again) (x y z):loopRound (E199 c57 c160 l0) (loopAt (bodyOf Tryz.f199) 0) (e199_0 l0) Tryz.f199.ntmps again x y z=w199_0 c57 c160 again x y z:=by kernel_rfl
noncomputable def n199_0 (c57:F57) (c160:F160):Nat→A199_0
  |0,_,_,_=>none
  |n+1,x,y,z=>w199_0 c57 c160 (fun y z=>n199_0 c57 c160 n x y z) x y z
theorem s199 (c57:F57) (c160:F160) (l0:A199_0) (y):tevF (E199 c57 c160 l0) Tryz.f199 i199 o199 y=m199 c57 c160 l0 y:=by kernel_rfl
noncomputable def L199_0:A199_0:=n199_0 r57 r160 fuel
noncomputable def r199:F199:=m199 r57 r160 L199_0
theorem k199:KO (g199 r199):=by
  have hE: ∀g f,(E199 r57 r160 L199_0).env.fns g=some f→CallOk Tryz.prog g f:=fnsL_ok ⟨k57,k160,⟨⟩⟩
  have h0:LoopOk Tryz.prog Tryz.f199.ntmps (loopAt (bodyOf Tryz.f199) 0) (e199_0 L199_0):=lp_ok (E:=E199 r57 r160 L199_0) rfl hE mixed (AllLoops.of_list (l:=[]) (by kernel_rfl) trivial) (n199_0 r57 r160) (fun _ _ _=>rfl) (fun n x y z=>t199_0 r57 r160 L199_0 _ x y z) rfl
  exact fn_ok (E:=E199 r57 r160 L199_0) rfl hE mixed (by kernel_rfl) (by kernel_rfl) (AllLoops.of_list (l:=[(loopAt (bodyOf Tryz.f199) 0)]) (by kernel_rfl) (.one (by kernel_rfl) h0 trivial)) (s199 r57 r160 L199_0)
abbrev i161:Ts:=[.p q0, .v (.int .i64)]
abbrev o161:Ts:=[.v (.bool)]
abbrev F161:=FT i161 o161
abbrev g161:=mkG 161 i161 o161
noncomputable def m161 (c57:F57) (y:PTup i161):Option (PTup o161×BTup i161):=
  (c57 y).bind fun r0=>
  some (((eqI r0.1.1 0),()),((y.1.1,r0.2.1.2),()))
theorem s161 (c57:F57) (y):TE [g57 c57] Tryz.f161 i161 o161 y=m161 c57 y:=by kernel_rfl
noncomputable def r161:F161:=m161 r57
theorem k161:KO (g161 r161):=fk (s161 r57) ⟨k57,⟨⟩⟩ (by kernel_rfl)
abbrev i242:Ts:=[.p q0, .v (.sl false .s)]
abbrev o242:Ts:=[.v (.str)]
abbrev F242:=FT i242 o242
abbrev g242:=mkG 242 i242 o242
noncomputable def m242 (c57:F57) (y:PTup i242):Option (PTup o242×BTup i242):=
  (c57 (y.1,((lenI y.2.1),()))).bind fun r0=>
  bif (leI 0 r0.1.1)then (bif (ltI r0.1.1 (lenI y.2.1))then (some (((rdE .s y.2.1 r0.1.1),()),((y.1.1,r0.2.1.2),())))
   else none)
  else none
theorem s242 (c57:F57) (y):TE [g57 c57] Tryz.f242 i242 o242 y=m242 c57 y:=by kernel_rfl
noncomputable def r242:F242:=m242 r57
theorem k242:KO (g242 r242):=fk (s242 r57) ⟨k57,⟨⟩⟩ (by kernel_rfl)
abbrev i201:Ts:=[.p q0]
abbrev o201:Ts:=[.v (.str)]
abbrev F201:=FT i201 o201
abbrev g201:=mkG 201 i201 o201
noncomputable def m201 (c242:F242) (y:PTup i201):Option (PTup o201×BTup i201):=
  (c242 (y.1,(((bz [108,100,105,32,53,10,115,116,97,32,56,49,57,51,10,108,100,105,32,49,50,56,10,115,116,97,32,56,49,57,50,10,108,100,97,32,56,49,57,52,10,115,116,97,32,49,54,10,106,109,112,32,52,57,49,54,50,10])::((bz [108,100,105,32,51,10,115,116,97,32,49,54,51,56,52,10,108,100,105,32,50,10,115,116,97,32,49,54,51,56,53,10,108,100,105,32,49,10,115,116,97,32,49,54,51,56,54,10,99,108,105,10,108,100,97,32,49,54,51,56,54,10,106,109,112,32,52,57,49,54,56,10])::((bz [108,100,105,32,50,10,115,116,97,32,56,49,57,53,10,105,110,120,10,116,120,97,10,115,116,97,32,56,49,57,54,10,115,116,97,32,56,49,57,55,10,108,100,97,32,56,49,57,54,10,115,116,97,32,48,10,106,109,112,32,52,57,49,53,55,10])::((bz [108,100,105,32,49,10,115,116,97,32,49,54,52,48,54,10,108,100,105,32,48,10,115,116,97,32,49,54,52,48,54,10,108,100,97,32,49,54,52,48,54,10,112,104,97,10,108,100,97,32,49,54,52,48,54,10,112,108,97,10,106,109,112,32,52,57,49,54,50,10])::((bz [105,110,120,10,116,120,97,10,115,116,97,32,51,50,55,54,56,10,108,100,97,32,51,50,55,55,48,10,115,116,97,32,56,49,57,51,10,106,109,112,32,52,57,49,53,50,10])::((bz [108,100,105,32,49,50,56,10,115,116,97,32,56,49,57,50,10,108,100,105,32,55,10,115,116,97,32,49,54,51,56,53,10,108,100,105,32,49,10,115,116,97,32,49,54,51,56,54,10,99,108,105,10,106,115,114,32,52,57,51,48,48,10,106,109,112,32,52,57,49,54,56,10])::((bz [108,100,105,32,57,10,115,101,99,10,115,98,105,32,49,10,98,110,101,32,52,57,49,53,52,10,115,116,97,32,56,49,57,51,10,106,109,112,32,52,57,49,53,50,10])::[]))))))),()))).bind fun r0=>
  bif (leN ((ByteArray.size r0.1.1)+(ByteArray.size (bz [97,116,32,49,52,56,10,105,110,120,10,116,120,97,10,115,116,97,32,56,49,57,55,10,114,116,115,10,97,116,32,49,50,56,10,112,104,97,10,108,100,97,32,56,49,57,52,10,97,100,105,32,49,10,115,116,97,32,56,49,57,51,10,112,108,97,10,114,116,105,10,97,116,32,49,54,48,10,115,116,97,32,49,54,51,56,55,10,108,100,97,32,49,54,51,56,54,10,115,116,97,32,49,55,10,108,100,105,32,50,10,115,116,97,32,49,54,51,56,53,10,114,116,105,10]))) (4611686018427387904:Nat))then (some (((r0.1.1++(bz [97,116,32,49,52,56,10,105,110,120,10,116,120,97,10,115,116,97,32,56,49,57,55,10,114,116,115,10,97,116,32,49,50,56,10,112,104,97,10,108,100,97,32,56,49,57,52,10,97,100,105,32,49,10,115,116,97,32,56,49,57,51,10,112,108,97,10,114,116,105,10,97,116,32,49,54,48,10,115,116,97,32,49,54,51,56,55,10,108,100,97,32,49,54,51,56,54,10,115,116,97,32,49,55,10,108,100,105,32,50,10,115,116,97,32,49,54,51,56,53,10,114,116,105,10])),()),((y.1.1,r0.2.1.2),())))
  else none
theorem s201 (c242:F242) (y):TE [g242 c242] Tryz.f201 i201 o201 y=m201 c242 y:=by kernel_rfl
noncomputable def r201:F201:=m201 r242
theorem k201:KO (g201 r201):=fk (s201 r242) ⟨k242,⟨⟩⟩ (by kernel_rfl)
abbrev i283:Ts:=[.v (.int .i64)]
abbrev o283:Ts:=[.v (.str)]
abbrev F283:=FT i283 o283
abbrev g283:=mkG 283 i283 o283
abbrev lc283_0:Ts:=[]
abbrev lb283_0:Ts:=[]
abbrev lv283_0:Ts:=[.v (.int .i64), .v (.str)]
abbrev lr283_0:Ts:=[]
abbrev R283_0:=Option (Sum (PTup lv283_0) (PTup lr283_0)×BTup lb283_0)
abbrev B283_0:=PTup lb283_0→PTup lv283_0→R283_0
abbrev A283_0:=PTup lc283_0→B283_0
noncomputable def w283_0 (again:B283_0) (x:PTup lc283_0) (y:PTup lb283_0) (z:PTup lv283_0):R283_0:=
  bif (ltI 0 z.1)then (bif (leN ((ByteArray.size (strOf ((wB (wI ((48:Int)+(Int.tmod z.1 10))))::[])))+(ByteArray.size z.2.1)) (4611686018427387904:Nat))then (again () ((wI (Int.tdiv z.1 10)),(((strOf ((wB (wI ((48:Int)+(Int.tmod z.1 10))))::[]))++z.2.1),())))
   else none)
  else some ((Sum.inl z),())
noncomputable def e283_0 (l:A283_0):LoopE:=⟨[],lc283_0,[],lb283_0,[0,3],lv283_0,[],lr283_0,0,[],l⟩
noncomputable def m283 (l0:A283_0) (y:PTup i283):Option (PTup o283×BTup i283):=
  bif (eqI y.1 0)then (some (((bz [48]),()),()))
  else (l0 () () (y.1,((bz []),()))).bind fun r0=>
  sumElim r0.1 (fun r1=>some (r1.2,()))
  (fun r1=>some (((bz []),()),()))
noncomputable def E283 (l0:A283_0):CEnv:=⟨⟨Tryz.prog,fnsL []⟩,loopsL [(4,e283_0 l0)]⟩
theorem t283_0 (l0:A283_0) (again) (x y z):loopRound (E283 l0) (loopAt (bodyOf Tryz.f283) 0) (e283_0 l0) Tryz.f283.ntmps again x y z=w283_0 again x y z:=by kernel_rfl
noncomputable def n283_0:Nat→A283_0
  |0,_,_,_=>none
  |n+1,x,y,z=>w283_0 (fun y z=>n283_0 n x y z) x y z
theorem s283 (l0:A283_0) (y):tevF (E283 l0) Tryz.f283 i283 o283 y=m283 l0 y:=by kernel_rfl
noncomputable def L283_0:A283_0:=n283_0 fuel
noncomputable def r283:F283:=m283 L283_0
theorem k283:KO (g283 r283):=by
  have hE: ∀g f,(E283 L283_0).env.fns g=some f→CallOk Tryz.prog g f:=fnsL_ok trivial
  have h0:LoopOk Tryz.prog Tryz.f283.ntmps (loopAt (bodyOf Tryz.f283) 0) (e283_0 L283_0):=lp_ok (E:=E283 L283_0) rfl hE mixed (AllLoops.of_list (l:=[]) (by kernel_rfl) trivial) (n283_0) (fun _ _ _=>rfl) (fun n x y z=>t283_0 L283_0 _ x y z) rfl
  exact fn_ok (E:=E283 L283_0) rfl hE mixed (by kernel_rfl) (by kernel_rfl) (AllLoops.of_list (l:=[(loopAt (bodyOf Tryz.f283) 0)]) (by kernel_rfl) (.one (by kernel_rfl) h0 trivial)) (s283 L283_0)
abbrev i280:Ts:=[.v (.str)]
abbrev o280:Ts:=[.v (.int .i64)]
abbrev F280:=FT i280 o280
abbrev g280:=mkG 280 i280 o280
abbrev lc280_0:Ts:=[.v (.str)]
abbrev lb280_0:Ts:=[]
abbrev lv280_0:Ts:=[.v (.int .i64), .v (.int .i64)]
abbrev lr280_0:Ts:=[.v (.int .i64)]
abbrev R280_0:=Option (Sum (PTup lv280_0) (PTup lr280_0)×BTup lb280_0)
abbrev B280_0:=PTup lb280_0→PTup lv280_0→R280_0
abbrev A280_0:=PTup lc280_0→B280_0
noncomputable def w280_0 (c283:F283) (again:B280_0) (x:PTup lc280_0) (y:PTup lb280_0) (z:PTup lv280_0):R280_0:=
  bif (ltI z.2.1 ((((ByteArray.size x.1):Nat)):Int))then (bif (leI 0 z.2.1)then (bif (ltI z.2.1 ((((ByteArray.size x.1):Nat)):Int))then (bif (ltI (bt x.1 z.2.1) 48)then (some ((Sum.inr ((-(1:Int)),())),()))
     else bif (leI 0 z.2.1)then (bif (ltI z.2.1 ((((ByteArray.size x.1):Nat)):Int))then (bif (ltI 57 (bt x.1 z.2.1))then (some ((Sum.inr ((-(1:Int)),())),()))
       else bif (leI 0 z.2.1)then (bif (ltI z.2.1 ((((ByteArray.size x.1):Nat)):Int))then (again () ((wI ((wI ((wI ((10:Int)*z.1))+(wI (bt x.1 z.2.1))))-48)),((wI (z.2.1+1)),())))
        else none)
       else none)
      else none)
     else none)
    else none)
   else none)
  else some ((Sum.inl z),())
noncomputable def e280_0 (l:A280_0):LoopE:=⟨[0],lc280_0,[],lb280_0,[3,4],lv280_0,[2],lr280_0,0,[],l⟩
noncomputable def m280 (c283:F283) (l0:A280_0) (y:PTup i280):Option (PTup o280×BTup i280):=
  bif ((ByteArray.toList y.1)==(ByteArray.toList (bz [])))then (some (((-(1:Int)),()),()))
  else bif (ltI 5 ((((ByteArray.size y.1):Nat)):Int))then (some (((-(1:Int)),()),()))
  else (l0 y () ((0:Int),((0:Int),()))).bind fun r0=>
  sumElim r0.1 (fun r1=>(c283 (r1.1,())).bind fun r2=>
   bif (!((ByteArray.toList r2.1.1)==(ByteArray.toList y.1)))then (some (((-(1:Int)),()),()))
   else some ((r1.1,()),()))
  (fun r1=>some (r1,()))
noncomputable def E280 (c283:F283) (l0:A280_0):CEnv:=⟨⟨Tryz.prog,fnsL [g283 c283]⟩,loopsL [(5,e280_0 l0)]⟩
theorem t280_0 (c283:F283) (l0:A280_0) (again) (x y z):loopRound (E280 c283 l0) (loopAt (bodyOf Tryz.f280) 0) (e280_0 l0) Tryz.f280.ntmps again x y z=w280_0 c283 again x y z:=by kernel_rfl
noncomputable def n280_0 (c283:F283):Nat→A280_0
  |0,_,_,_=>none
  |n+1,x,y,z=>w280_0 c283 (fun y z=>n280_0 c283 n x y z) x y z
theorem s280 (c283:F283) (l0:A280_0) (y):tevF (E280 c283 l0) Tryz.f280 i280 o280 y=m280 c283 l0 y:=by kernel_rfl
noncomputable def L280_0:A280_0:=n280_0 r283 fuel
noncomputable def r280:F280:=m280 r283 L280_0
theorem k280:KO (g280 r280):=by
  have hE: ∀g f,(E280 r283 L280_0).env.fns g=some f→CallOk Tryz.prog g f:=fnsL_ok ⟨k283,⟨⟩⟩
  have h0:LoopOk Tryz.prog Tryz.f280.ntmps (loopAt (bodyOf Tryz.f280) 0) (e280_0 L280_0):=lp_ok (E:=E280 r283 L280_0) rfl hE mixed (AllLoops.of_list (l:=[]) (by kernel_rfl) trivial) (n280_0 r283) (fun _ _ _=>rfl) (fun n x y z=>t280_0 r283 L280_0 _ x y z) rfl
  exact fn_ok (E:=E280 r283 L280_0) rfl hE mixed (by kernel_rfl) (by kernel_rfl) (AllLoops.of_list (l:=[(loopAt (bodyOf Tryz.f280) 0)]) (by kernel_rfl) (.one (by kernel_rfl) h0 trivial)) (s280 r283 L280_0)
abbrev i266:Ts:=[.v (.str)]
abbrev o266:Ts:=[.v (.str), .v (.int .i64), .v (.bool)]
abbrev F266:=FT i266 o266
abbrev g266:=mkG 266 i266 o266
abbrev lc266_0:Ts:=[.v (.str)]
abbrev lb266_0:Ts:=[]
abbrev lv266_0:Ts:=[.v (.int .i64)]
abbrev lr266_0:Ts:=[.v (.str), .v (.int .i64), .v (.bool)]
abbrev R266_0:=Option (Sum (PTup lv266_0) (PTup lr266_0)×BTup lb266_0)
abbrev B266_0:=PTup lb266_0→PTup lv266_0→R266_0
abbrev A266_0:=PTup lc266_0→B266_0
noncomputable def w266_0 (c280:F280) (again:B266_0) (x:PTup lc266_0) (y:PTup lb266_0) (z:PTup lv266_0):R266_0:=
  bif (ltI z.1 ((((ByteArray.size x.1):Nat)):Int))then (bif (leI 0 z.1)then (bif (ltI z.1 ((((ByteArray.size x.1):Nat)):Int))then (bif (eqI (bt x.1 z.1) 32)then (bif (leI 0 (wI (z.1+1)))then (bif (leI (wI (z.1+1)) ((((ByteArray.size x.1):Nat)):Int))then ((c280 ((ByteArray.extract x.1 (Int.toNat (wI (z.1+1))) (ByteArray.size x.1)),())).bind fun r0=>
        bif (leI 0 z.1)then (bif (leI z.1 ((((ByteArray.size x.1):Nat)):Int))then (some ((Sum.inr ((ByteArray.extract x.1 (0:Nat) (Int.toNat z.1)),(r0.1.1,((leI 0 r0.1.1),())))),()))
         else none)
        else none)
       else none)
      else none)
     else again () ((wI (z.1+1)),()))
    else none)
   else none)
  else some ((Sum.inl z),())
noncomputable def e266_0 (l:A266_0):LoopE:=⟨[0],lc266_0,[],lb266_0,[5],lv266_0,[2,3,4],lr266_0,0,[],l⟩
noncomputable def m266 (c280:F280) (l0:A266_0) (y:PTup i266):Option (PTup o266×BTup i266):=
  (l0 y () ((0:Int),())).bind fun r0=>
  sumElim r0.1 (fun r1=>some ((y.1,((-(1:Int)),(true,()))),()))
  (fun r1=>some (r1,()))
noncomputable def E266 (c280:F280) (l0:A266_0):CEnv:=⟨⟨Tryz.prog,fnsL [g280 c280]⟩,loopsL [(2,e266_0 l0)]⟩
theorem t266_0 (c280:F280) (l0:A266_0) (again) (x y z):loopRound (E266 c280 l0) (loopAt (bodyOf Tryz.f266) 0) (e266_0 l0) Tryz.f266.ntmps again x y z=w266_0 c280 again x y z:=by kernel_rfl
noncomputable def n266_0 (c280:F280):Nat→A266_0
  |0,_,_,_=>none
  |n+1,x,y,z=>w266_0 c280 (fun y z=>n266_0 c280 n x y z) x y z
theorem s266 (c280:F280) (l0:A266_0) (y):tevF (E266 c280 l0) Tryz.f266 i266 o266 y=m266 c280 l0 y:=by kernel_rfl
noncomputable def L266_0:A266_0:=n266_0 r280 fuel
noncomputable def r266:F266:=m266 r280 L266_0
theorem k266:KO (g266 r266):=by
  have hE: ∀g f,(E266 r280 L266_0).env.fns g=some f→CallOk Tryz.prog g f:=fnsL_ok ⟨k280,⟨⟩⟩
  have h0:LoopOk Tryz.prog Tryz.f266.ntmps (loopAt (bodyOf Tryz.f266) 0) (e266_0 L266_0):=lp_ok (E:=E266 r280 L266_0) rfl hE mixed (AllLoops.of_list (l:=[]) (by kernel_rfl) trivial) (n266_0 r280) (fun _ _ _=>rfl) (fun n x y z=>t266_0 r280 L266_0 _ x y z) rfl
  exact fn_ok (E:=E266 r280 L266_0) rfl hE mixed (by kernel_rfl) (by kernel_rfl) (AllLoops.of_list (l:=[(loopAt (bodyOf Tryz.f266) 0)]) (by kernel_rfl) (.one (by kernel_rfl) h0 trivial)) (s266 r280 L266_0)
abbrev i116:Ts:=[.v (.int .i64), .v (.int .i64), .v (.int .i64)]
abbrev o116:Ts:=[.v (.bool)]
abbrev F116:=FT i116 o116
abbrev g116:=mkG 116 i116 o116
noncomputable def m116 (y:PTup i116):Option (PTup o116×BTup i116):=
  bif (leI y.2.1 y.1)then (some (((leI y.1 y.2.2.1),()),()))
  else no
theorem s116 (y):TE [] Tryz.f116 i116 o116 y=m116 y:=by kernel_rfl
noncomputable def r116:F116:=m116
theorem k116:KO (g116 r116):=fk (s116) trivial (by kernel_rfl)
abbrev i281:Ts:=[]
abbrev o281:Ts:=[.v (.sl true .s)]
abbrev F281:=FT i281 o281
abbrev g281:=mkG 281 i281 o281
noncomputable def m281 (y:PTup i281):Option (PTup o281×BTup i281):=
  some ((((bz [110,111,112])::((bz [108,100,105])::((bz [108,100,97])::((bz [115,116,97])::((bz [97,100,105])::((bz [115,98,105])::((bz [97,110,105])::((bz [111,114,105])::((bz [120,114,105])::((bz [99,112,105])::((bz [116,97,120])::((bz [116,120,97])::((bz [105,110,120])::((bz [100,101,120])::((bz [108,97,120])::((bz [115,97,120])::((bz [98,110,101])::((bz [98,101,113])::((bz [98,99,115])::((bz [106,109,112])::((bz [106,115,114])::((bz [114,116,115])::((bz [112,104,97])::((bz [112,108,97])::((bz [114,116,105])::((bz [115,101,105])::((bz [99,108,105])::((bz [115,101,99])::((bz [99,108,99])::((bz [97,100,97])::[])))))))))))))))))))))))))))))),()),())
theorem s281 (y):TE [] Tryz.f281 i281 o281 y=m281 y:=by kernel_rfl
noncomputable def r281:F281:=m281
theorem k281:KO (g281 r281):=fk (s281) trivial (by kernel_rfl)
abbrev i267:Ts:=[.v (.str)]
abbrev o267:Ts:=[.v (.int .i64)]
abbrev F267:=FT i267 o267
abbrev g267:=mkG 267 i267 o267
abbrev lc267_0:Ts:=[.v (.str), .v (.sl false .s)]
abbrev lb267_0:Ts:=[]
abbrev lv267_0:Ts:=[.v (.int .i64)]
abbrev lr267_0:Ts:=[.v (.int .i64)]
abbrev R267_0:=Option (Sum (PTup lv267_0) (PTup lr267_0)×BTup lb267_0)
abbrev B267_0:=PTup lb267_0→PTup lv267_0→R267_0
abbrev A267_0:=PTup lc267_0→B267_0
noncomputable def w267_0 (c281:F281) (again:B267_0) (x:PTup lc267_0) (y:PTup lb267_0) (z:PTup lv267_0):R267_0:=
  bif (ltI z.1 (lenI x.2.1))then (bif (leI 0 z.1)then (bif (ltI z.1 (lenI x.2.1))then (bif ((ByteArray.toList (rdE .s x.2.1 z.1))==(ByteArray.toList x.1))then (some ((Sum.inr z),()))
     else again () ((wI (z.1+1)),()))
    else none)
   else none)
  else some ((Sum.inl z),())
noncomputable def e267_0 (l:A267_0):LoopE:=⟨[0,3],lc267_0,[],lb267_0,[4],lv267_0,[2],lr267_0,0,[],l⟩
noncomputable def m267 (c281:F281) (l0:A267_0) (y:PTup i267):Option (PTup o267×BTup i267):=
  (c281 ()).bind fun r0=>
  (l0 (y.1,r0.1) () ((0:Int),())).bind fun r1=>
  sumElim r1.1 (fun r2=>some (((-(1:Int)),()),()))
  (fun r2=>some (r2,()))
noncomputable def E267 (c281:F281) (l0:A267_0):CEnv:=⟨⟨Tryz.prog,fnsL [g281 c281]⟩,loopsL [(3,e267_0 l0)]⟩
theorem t267_0 (c281:F281) (l0:A267_0) (again) (x y z):loopRound (E267 c281 l0) (loopAt (bodyOf Tryz.f267) 0) (e267_0 l0) Tryz.f267.ntmps again x y z=w267_0 c281 again x y z:=by kernel_rfl
noncomputable def n267_0 (c281:F281):Nat→A267_0
  |0,_,_,_=>none
  |n+1,x,y,z=>w267_0 c281 (fun y z=>n267_0 c281 n x y z) x y z
theorem s267 (c281:F281) (l0:A267_0) (y):tevF (E267 c281 l0) Tryz.f267 i267 o267 y=m267 c281 l0 y:=by kernel_rfl
noncomputable def L267_0:A267_0:=n267_0 r281 fuel
noncomputable def r267:F267:=m267 r281 L267_0
theorem k267:KO (g267 r267):=by
  have hE: ∀g f,(E267 r281 L267_0).env.fns g=some f→CallOk Tryz.prog g f:=fnsL_ok ⟨k281,⟨⟩⟩
  have h0:LoopOk Tryz.prog Tryz.f267.ntmps (loopAt (bodyOf Tryz.f267) 0) (e267_0 L267_0):=lp_ok (E:=E267 r281 L267_0) rfl hE mixed (AllLoops.of_list (l:=[]) (by kernel_rfl) trivial) (n267_0 r281) (fun _ _ _=>rfl) (fun n x y z=>t267_0 r281 L267_0 _ x y z) rfl
  exact fn_ok (E:=E267 r281 L267_0) rfl hE mixed (by kernel_rfl) (by kernel_rfl) (AllLoops.of_list (l:=[(loopAt (bodyOf Tryz.f267) 0)]) (by kernel_rfl) (.one (by kernel_rfl) h0 trivial)) (s267 r281 L267_0)
abbrev i257:Ts:=[.v (.int .i64)]
abbrev o257:Ts:=[.v (.int .i64)]
abbrev F257:=FT i257 o257
abbrev g257:=mkG 257 i257 o257
noncomputable def m257 (c116:F116) (y:PTup i257):Option (PTup o257×BTup i257):=
  (c116 (y.1,((0:Int),((29:Int),())))).bind fun r0=>
  bif (!r0.1.1)then (some (((1:Int),()),()))
  else bif (leI 0 y.1)then (bif (ltI y.1 (lenI ((1:Int)::((2:Int)::((3:Int)::((3:Int)::((2:Int)::((2:Int)::((2:Int)::((2:Int)::((2:Int)::((2:Int)::((1:Int)::((1:Int)::((1:Int)::((1:Int)::((3:Int)::((3:Int)::((3:Int)::((3:Int)::((3:Int)::((3:Int)::((3:Int)::((1:Int)::((1:Int)::((1:Int)::((1:Int)::((1:Int)::((1:Int)::((1:Int)::((1:Int)::((3:Int)::[]))))))))))))))))))))))))))))))))then (some (((rdE .i ((1:Int)::((2:Int)::((3:Int)::((3:Int)::((2:Int)::((2:Int)::((2:Int)::((2:Int)::((2:Int)::((2:Int)::((1:Int)::((1:Int)::((1:Int)::((1:Int)::((3:Int)::((3:Int)::((3:Int)::((3:Int)::((3:Int)::((3:Int)::((3:Int)::((1:Int)::((1:Int)::((1:Int)::((1:Int)::((1:Int)::((1:Int)::((1:Int)::((1:Int)::((3:Int)::[])))))))))))))))))))))))))))))) y.1),()),()))
   else none)
  else none
theorem s257 (c116:F116) (y):TE [g116 c116] Tryz.f257 i257 o257 y=m257 c116 y:=by kernel_rfl
noncomputable def r257:F257:=m257 r116
theorem k257:KO (g257 r257):=fk (s257 r116) ⟨k116,⟨⟩⟩ (by kernel_rfl)
abbrev i215:Ts:=[.v (.int .i64)]
abbrev o215:Ts:=[.v (.int .i64)]
abbrev F215:=FT i215 o215
abbrev g215:=mkG 215 i215 o215
noncomputable def m215 (y:PTup i215):Option (PTup o215×BTup i215):=
  some (((bAnd Go.IntKind.i64 y.1 (255:Int)),()),())
theorem s215 (y):TE [] Tryz.f215 i215 o215 y=m215 y:=by kernel_rfl
noncomputable def r215:F215:=m215
theorem k215:KO (g215 r215):=fk (s215) trivial (by kernel_rfl)
abbrev i241:Ts:=[.v (.str)]
abbrev o241:Ts:=[.v (.sl true .i), .v (.int .i64), .v (.bool)]
abbrev R241:=Option (PTup o241×BTup i241)
abbrev F241:=PTup i241→R241
abbrev g241:=mkG 241 i241 o241
noncomputable def m241 (c215:F215) (c257:F257) (c267:F267) (c116:F116) (c266:F266) (y:PTup i241):R241:=
  (c266 y).bind fun r0=>let X0:R241:=(c116 (r0.1.2.1,((0:Int),((255:Int),())))).bind fun r1=>bif (!r1.1.1)then (some (([],((-1),(false,()))),()))else bif ((ByteArray.toList r0.1.1)==(ByteArray.toList (bz [97,116])))then (some (([],(r0.1.2.1,(true,()))),()))else some (((r0.1.2.1::[]),((-1),(true,()))),());bif (!r0.1.2.2.1)then (some (([],((-1),(false,()))),()))else bif ((ByteArray.toList r0.1.1)==(ByteArray.toList (bz [97,116])))then X0 else bif ((ByteArray.toList r0.1.1)==(ByteArray.toList (bz [98,121,116,101])))then X0 else (c267 (r0.1.1,())).bind fun r1=>bif (ltI r1.1.1 0)then (some (([],((-1),(false,()))),()))else (c257 r1.1).bind fun r2=>bif (eqI r2.1.1 1)then (some (((r1.1.1::[]),((-1),((ltI r0.1.2.1 0),()))),()))else bif (eqI r2.1.1 2)then ((c215 (r0.1.2.1,())).bind fun r3=>(c116 (r0.1.2.1,((0:Int),((255:Int),())))).bind fun r4=>some (((r1.1.1::(r3.1.1::[])),((-1),r4.1)),()))else (c215 (r0.1.2.1,())).bind fun r3=>(c215 ((Int.fdiv r0.1.2.1 ((2:Int)^(Min.min (Int.toNat (8:Int)) (64:Nat)))),())).bind fun r4=>(c116 (r0.1.2.1,((0:Int),((65535:Int),())))).bind fun r5=>some (((r1.1.1::(r3.1.1::(r4.1.1::[]))),((-1),r5.1)),())
theorem s241 (c215:F215) (c257:F257) (c267:F267) (c116:F116) (c266:F266) (y):TE [g215 c215,g257 c257,g267 c267,g116 c116,g266 c266] Tryz.f241 i241 o241 y=m241 c215 c257 c267 c116 c266 y:=by kernel_rfl
noncomputable def r241:F241:=m241 r215 r257 r267 r116 r266
theorem k241:KO (g241 r241):=fk (s241 r215 r257 r267 r116 r266) ⟨k215,k257,k267,k116,k266,⟨⟩⟩ (by kernel_rfl)
abbrev i200:Ts:=[.v (.str)]
abbrev o200:Ts:=[.v (.sl true .i), .v (.int .i64)]
abbrev R200:=Option (PTup o200×BTup i200)
abbrev F200:=PTup i200→R200
abbrev g200:=mkG 200 i200 o200
abbrev lc200_0:Ts:=[.v (.sl false .i)]
abbrev lb200_0:Ts:=[]
abbrev lv200_0:Ts:=[.v (.int .i64), .v (.int .i64), .v (.sl true .i)]
abbrev lr200_0:Ts:=[]
abbrev R200_0:=Option (Sum (PTup lv200_0) (PTup lr200_0)×BTup lb200_0)
abbrev B200_0:=PTup lb200_0→PTup lv200_0→R200_0
abbrev A200_0:=PTup lc200_0→B200_0
noncomputable def w200_0 (c215:F215) (c241:F241) (again:B200_0) (x:PTup lc200_0) (y:PTup lb200_0) (z:PTup lv200_0):R200_0:=
  bif (ltI z.2.1 (lenI x.1))then ((c215 (z.1,())).bind fun r0=>
   bif (leI 0 z.2.1)then (bif (ltI z.2.1 (lenI x.1))then (bif (leI 0 r0.1.1)then (bif (ltI r0.1.1 (lenI z.2.2.1))then (again () ((wI (z.1+1)),((wI (z.2.1+1)),((List.set z.2.2.1 (Int.toNat r0.1.1) (rdE .i x.1 z.2.1)),()))))
      else none)
     else none)
    else none)
   else none)
  else some ((Sum.inl z),())
noncomputable def e200_0 (l:A200_0):LoopE:=⟨[10],lc200_0,[],lb200_0,[5,13,4],lv200_0,[],lr200_0,2,[],l⟩
abbrev lc200_1:Ts:=[.v (.str)]
abbrev lb200_1:Ts:=[]
abbrev lv200_1:Ts:=[.v (.int .i64), .v (.int .i64), .v (.int .i64), .v (.int .i64), .v (.sl true .i)]
abbrev lr200_1:Ts:=[.v (.sl true .i), .v (.int .i64)]
abbrev R200_1:=Option (Sum (PTup lv200_1) (PTup lr200_1)×BTup lb200_1)
abbrev B200_1:=PTup lb200_1→PTup lv200_1→R200_1
abbrev A200_1:=PTup lc200_1→B200_1
noncomputable def w200_1 (c215:F215) (c241:F241) (l0:A200_0) (again:B200_1) (x:PTup lc200_1) (y:PTup lb200_1) (z:PTup lv200_1):R200_1:=
  let X0:R200_1:=bif (leI 0 z.2.2.2.1)then (bif (leI z.2.2.2.1 ((((ByteArray.size x.1):Nat)):Int))then (bif (leI 0 z.2.1)then (bif (leI z.2.1 z.2.2.2.1)then (bif ((ByteArray.toList (ByteArray.extract x.1 (Int.toNat z.2.1) (Int.toNat z.2.2.2.1)))==(ByteArray.toList (bz [])))then (again () (z.1,((wI (z.2.2.2.1+1)),((wI (z.2.2.1+1)),((wI (z.2.2.2.1+1)),z.2.2.2.2)))))else (c241 ((ByteArray.extract x.1 (Int.toNat z.2.1) (Int.toNat z.2.2.2.1)),())).bind fun r0=>bif (!r0.1.2.2.1)then (some ((Sum.inr ([],((wI (z.2.2.1+1)),()))),()))else bif (leI 0 r0.1.2.1)then ((l0 (r0.1.1,()) () (r0.1.2.1,((0:Int),z.2.2.2.2))).bind fun r1=>sumElim r1.1 (fun r2=>again () (r2.1,((wI (z.2.2.2.1+1)),((wI (z.2.2.1+1)),((wI (z.2.2.2.1+1)),r2.2.2))))) (fun r2=>none))else (l0 (r0.1.1,()) () (z.1,((0:Int),z.2.2.2.2))).bind fun r1=>sumElim r1.1 (fun r2=>again () (r2.1,((wI (z.2.2.2.1+1)),((wI (z.2.2.1+1)),((wI (z.2.2.2.1+1)),r2.2.2))))) (fun r2=>none))else none)else none)else none)else none;let X1:R200_1:=bif (eqI z.2.2.2.1 ((((ByteArray.size x.1):Nat)):Int))then (bif (eqI z.2.1 ((((ByteArray.size x.1):Nat)):Int))then (again () (z.1,(z.2.1,(z.2.2.1,((wI (z.2.2.2.1+1)),z.2.2.2.2)))))else X0)else X0;bif (leI z.2.2.2.1 ((((ByteArray.size x.1):Nat)):Int))then (bif (ltI z.2.2.2.1 ((((ByteArray.size x.1):Nat)):Int))then (bif (leI 0 z.2.2.2.1)then (bif (ltI z.2.2.2.1 ((((ByteArray.size x.1):Nat)):Int))then (bif (neI (bt x.1 z.2.2.2.1) 10)then (again () (z.1,(z.2.1,(z.2.2.1,((wI (z.2.2.2.1+1)),z.2.2.2.2)))))else X1)else none)else none)else X1)else some ((Sum.inl z),())
noncomputable def e200_1 (l:A200_1):LoopE:=⟨[0],lc200_1,[],lb200_1,[5,6,7,8,4],lv200_1,[2,3],lr200_1,0,[],l⟩
noncomputable def m200 (c215:F215) (c241:F241) (l0:A200_0) (l1:A200_1) (y:PTup i200):R200:=
  bif (ltI 3000 ((((ByteArray.size y.1):Nat)):Int))then (some (([],((-(1:Int)),())),()))
  else (l1 y () ((0:Int),((0:Int),((0:Int),((0:Int),((List.replicate (Int.toNat (256:Int)) (0:Int)),())))))).bind fun r0=>
  sumElim r0.1 (fun r1=>some ((r1.2.2.2.2.1,((0:Int),())),()))
  (fun r1=>some (r1,()))
noncomputable def E200 (c215:F215) (c241:F241) (l0:A200_0) (l1:A200_1):CEnv:=⟨⟨Tryz.prog,fnsL [g215 c215,g241 c241]⟩,loopsL [(19,e200_0 l0),(6,e200_1 l1)]⟩
theorem t200_0 (c215:F215) (c241:F241) (l0:A200_0) (l1:A200_1) (again) (x y z):loopRound (E200 c215 c241 l0 l1) (loopAt (loopAt (bodyOf Tryz.f200) 0) 0) (e200_0 l0) Tryz.f200.ntmps again x y z=w200_0 c215 c241 again x y z:=by kernel_rfl
noncomputable def n200_0 (c215:F215) (c241:F241):Nat→A200_0
  |0,_,_,_=>none
  |n+1,x,y,z=>w200_0 c215 c241 (fun y z=>n200_0 c215 c241 n x y z) x y z
theorem t200_1 (c215:F215) (c241:F241) (l0:A200_0) (l1:A200_1) (again) (x y z):loopRound (E200 c215 c241 l0 l1) (loopAt (bodyOf Tryz.f200) 0) (e200_1 l1) Tryz.f200.ntmps again x y z=w200_1 c215 c241 l0 again x y z:=by kernel_rfl
noncomputable def n200_1 (c215:F215) (c241:F241) (l0:A200_0):Nat→A200_1
  |0,_,_,_=>none
  |n+1,x,y,z=>w200_1 c215 c241 l0 (fun y z=>n200_1 c215 c241 l0 n x y z) x y z
theorem s200 (c215:F215) (c241:F241) (l0:A200_0) (l1:A200_1) (y):tevF (E200 c215 c241 l0 l1) Tryz.f200 i200 o200 y=m200 c215 c241 l0 l1 y:=by kernel_rfl
noncomputable def L200_0:A200_0:=n200_0 r215 r241 fuel
noncomputable def L200_1:A200_1:=n200_1 r215 r241 L200_0 fuel
noncomputable def r200:F200:=m200 r215 r241 L200_0 L200_1
theorem k200:KO (g200 r200):=by
  have hE: ∀g f,(E200 r215 r241 L200_0 L200_1).env.fns g=some f→CallOk Tryz.prog g f:=fnsL_ok ⟨k215,k241,⟨⟩⟩
  have h0:LoopOk Tryz.prog Tryz.f200.ntmps (loopAt (loopAt (bodyOf Tryz.f200) 0) 0) (e200_0 L200_0):=lp_ok (E:=E200 r215 r241 L200_0 L200_1) rfl hE mixed (AllLoops.of_list (l:=[]) (by kernel_rfl) trivial) (n200_0 r215 r241) (fun _ _ _=>rfl) (fun n x y z=>t200_0 r215 r241 L200_0 L200_1 _ x y z) rfl
  have h1:LoopOk Tryz.prog Tryz.f200.ntmps (loopAt (bodyOf Tryz.f200) 0) (e200_1 L200_1):=lp_ok (E:=E200 r215 r241 L200_0 L200_1) rfl hE mixed (AllLoops.of_list (l:=[(loopAt (loopAt (bodyOf Tryz.f200) 0) 0)]) (by kernel_rfl) (.one (by kernel_rfl) h0 trivial)) (n200_1 r215 r241 L200_0) (fun _ _ _=>rfl) (fun n x y z=>t200_1 r215 r241 L200_0 L200_1 _ x y z) rfl
  exact fn_ok (E:=E200 r215 r241 L200_0 L200_1) rfl hE mixed (by kernel_rfl) (by kernel_rfl) (AllLoops.of_list (l:=[(loopAt (bodyOf Tryz.f200) 0)]) (by kernel_rfl) (.one (by kernel_rfl) h1 trivial)) (s200 r215 r241 L200_0 L200_1)
abbrev vec1 {R:Type} (f:List (List Int)) (k j v:Int) (K:List (List Int)→Option R):Option R:=bif (ltI j (lenI (rdE .n f k)))then (K (List.set f (Int.toNat k) (List.set (rdE .n f k) (Int.toNat j) v)))else none
abbrev vecs6 {R:Type} (f:List (List Int)) (k:Int) (K:List (List Int)→Option R):Option R:=bif (leI 0 k)then (bif (ltI k (lenI f))then (vec1 f k 250 128 fun f=>vec1 f k 251 192 fun f=>vec1 f k 252 0 fun f=>vec1 f k 253 192 fun f=>vec1 f k 254 160 fun f=>vec1 f k 255 192 K)else none)else none
abbrev i129:Ts:=[.p q0]
abbrev o129:Ts:=[.a [.sl true .n]]
abbrev F129:=FT i129 o129
abbrev g129:=mkG 129 i129 o129
abbrev lc129_0:Ts:=[.v (.int .i64)]
abbrev lb129_0:Ts:=[.p q0, .p [.sl true .n]]
abbrev lv129_0:Ts:=[.v (.int .i64)]
abbrev lr129_0:Ts:=[]
abbrev R129_0:=Option (Sum (PTup lv129_0) (PTup lr129_0)×BTup lb129_0)
abbrev B129_0:=PTup lb129_0→PTup lv129_0→R129_0
abbrev A129_0:=PTup lc129_0→B129_0
noncomputable def w129_0 (c200:F200) (c57:F57) (c161:F161) (c199:F199) (c201:F201) (again:B129_0) (x:PTup lc129_0) (y:PTup lb129_0) (z:PTup lv129_0):R129_0:=
  bif (ltI z.1 x.1)then ((c199 (y.1,())).bind fun r0=>
   bif (leN ((List.length y.2.1.1)+(List.length (r0.1.1::[]))) (E.most .n))then (again ((y.1.1,r0.2.1.2),(((y.2.1.1++(r0.1.1::[])),()),())) ((wI (z.1+1)),()))
   else none)
  else some ((Sum.inl z),(y.1,(y.2.1,())))
noncomputable def e129_0 (l:A129_0):LoopE:=⟨[4],lc129_0,[0,3],lb129_0,[5],lv129_0,[],lr129_0,0,[],l⟩
noncomputable def m129 (c200:F200) (c57:F57) (c161:F161) (c199:F199) (c201:F201) (l0:A129_0) (y:PTup i129):Option (PTup o129×BTup i129):=
  (c57 (y.1,((3:Int),()))).bind fun r0=>let k:=wI (1+r0.1.1);(l0 (k,()) ((y.1.1,r0.2.1.2),(([],()),())) ((0:Int),())).bind fun r1=>sumElim r1.1 (fun _=>(c161 ((y.1.1,r1.2.1.2),((4:Int),()))).bind fun r3=>
   bif (!r3.1.1)then ((c201 ((y.1.1,r3.2.1.2),())).bind fun r4=>(c200 r4.1).bind fun r5=>
    bif (eqI (lenI r5.1.1) 256)then (bif (leI 0 (wI (k-1)))then (bif (ltI (wI (k-1)) (lenI r1.2.2.1.1))then (vecs6 (List.set r1.2.2.1.1 (Int.toNat (wI (k-1))) r5.1.1) (wI (k-1)) fun f=>some (((f,()),()),((y.1.1,r4.2.1.2),())))else none)else none)
    else vecs6 r1.2.2.1.1 (wI (k-1)) fun f=>some (((f,()),()),((y.1.1,r4.2.1.2),())))
   else vecs6 r1.2.2.1.1 (wI (k-1)) fun f=>some (((f,()),()),((y.1.1,r3.2.1.2),())))
  (fun _=>some ((([],()),()),((y.1.1,r1.2.1.2),())))
noncomputable def E129 (c200:F200) (c57:F57) (c161:F161) (c199:F199) (c201:F201) (l0:A129_0):CEnv:=⟨⟨Tryz.prog,fnsL [g200 c200,g57 c57,g161 c161,g199 c199,g201 c201]⟩,loopsL [(4,e129_0 l0)]⟩
theorem t129_0 (c200:F200) (c57:F57) (c161:F161) (c199:F199) (c201:F201) (l0:A129_0) (again) (x y z):loopRound (E129 c200 c57 c161 c199 c201 l0) (loopAt (bodyOf Tryz.f129) 0) (e129_0 l0) Tryz.f129.ntmps again x y z=w129_0 c200 c57 c161 c199 c201 again x y z:=by kernel_rfl
noncomputable def n129_0 (c200:F200) (c57:F57) (c161:F161) (c199:F199) (c201:F201):Nat→A129_0
  |0,_,_,_=>none
  |n+1,x,y,z=>w129_0 c200 c57 c161 c199 c201 (fun y z=>n129_0 c200 c57 c161 c199 c201 n x y z) x y z
theorem s129 (c200:F200) (c57:F57) (c161:F161) (c199:F199) (c201:F201) (l0:A129_0) (y):tevF (E129 c200 c57 c161 c199 c201 l0) Tryz.f129 i129 o129 y=m129 c200 c57 c161 c199 c201 l0 y:=by kernel_rfl
noncomputable def L129_0:A129_0:=n129_0 r200 r57 r161 r199 r201 fuel
noncomputable def r129:F129:=m129 r200 r57 r161 r199 r201 L129_0
theorem k129:KO (g129 r129):=by
  have hE: ∀g f,(E129 r200 r57 r161 r199 r201 L129_0).env.fns g=some f→CallOk Tryz.prog g f:=fnsL_ok ⟨k200,k57,k161,k199,k201,⟨⟩⟩
  have h0:LoopOk Tryz.prog Tryz.f129.ntmps (loopAt (bodyOf Tryz.f129) 0) (e129_0 L129_0):=lp_ok (E:=E129 r200 r57 r161 r199 r201 L129_0) rfl hE mixed (AllLoops.of_list (l:=[]) (by kernel_rfl) trivial) (n129_0 r200 r57 r161 r199 r201) (fun _ _ _=>rfl) (fun n x y z=>t129_0 r200 r57 r161 r199 r201 L129_0 _ x y z) rfl
  exact fn_ok (E:=E129 r200 r57 r161 r199 r201 L129_0) rfl hE mixed (by kernel_rfl) (by kernel_rfl) (AllLoops.of_list (l:=[(loopAt (bodyOf Tryz.f129) 0)]) (by kernel_rfl) (.one (by kernel_rfl) h0 trivial)) (s129 r200 r57 r161 r199 r201 L129_0)
abbrev i101:Ts:=[.a q1]
abbrev o101:Ts:=[.a [.sl true .n]]
abbrev F101:=FT i101 o101
abbrev g101:=mkG 101 i101 o101
abbrev lc101_0:Ts:=[]
abbrev lb101_0:Ts:=[.p q1, .p [.sl true .n]]
abbrev lv101_0:Ts:=[.v (.int .i64)]
abbrev lr101_0:Ts:=[]
abbrev R101_0:=Option (Sum (PTup lv101_0) (PTup lr101_0)×BTup lb101_0)
abbrev B101_0:=PTup lb101_0→PTup lv101_0→R101_0
abbrev A101_0:=PTup lc101_0→B101_0
noncomputable def w101_0 (again:B101_0) (x:PTup lc101_0) (y:PTup lb101_0) (z:PTup lv101_0):R101_0:=
  bif (ltI z.1 (lenI y.1.1))then (bif (leI 0 z.1)then (bif (ltI z.1 (lenI y.1.1))then (bif (leN (0+(List.length (rdE .n y.1.1 z.1))) (E.most .i))then (bif (leN ((List.length y.2.1.1)+(List.length (([]++(rdE .n y.1.1 z.1))::[]))) (E.most .n))then (again (y.1,(((y.2.1.1++(([]++(rdE .n y.1.1 z.1))::[])),()),())) ((wI (z.1+1)),()))
      else none)
     else none)
    else none)
   else none)
  else some ((Sum.inl z),(y.1,(y.2.1,())))
noncomputable def e101_0 (l:A101_0):LoopE:=⟨[],lc101_0,[1,3],lb101_0,[4],lv101_0,[],lr101_0,0,[],l⟩
noncomputable def m101 (l0:A101_0) (y:PTup i101):Option (PTup o101×BTup i101):=
  (l0 () (y.1,(([],()),())) ((0:Int),())).bind fun r0=>
  sumElim r0.1 (fun r1=>some ((r0.2.2.1,()),()))
  (fun r1=>some ((([],()),()),()))
noncomputable def E101 (l0:A101_0):CEnv:=⟨⟨Tryz.prog,fnsL []⟩,loopsL [(3,e101_0 l0)]⟩
theorem t101_0 (l0:A101_0) (again) (x y z):loopRound (E101 l0) (loopAt (bodyOf Tryz.f101) 0) (e101_0 l0) Tryz.f101.ntmps again x y z=w101_0 again x y z:=by kernel_rfl
noncomputable def n101_0:Nat→A101_0
  |0,_,_,_=>none
  |n+1,x,y,z=>w101_0 (fun y z=>n101_0 n x y z) x y z
theorem s101 (l0:A101_0) (y):tevF (E101 l0) Tryz.f101 i101 o101 y=m101 l0 y:=by kernel_rfl
noncomputable def L101_0:A101_0:=n101_0 fuel
noncomputable def r101:F101:=m101 L101_0
theorem k101:KO (g101 r101):=by
  have hE: ∀g f,(E101 L101_0).env.fns g=some f→CallOk Tryz.prog g f:=fnsL_ok trivial
  have h0:LoopOk Tryz.prog Tryz.f101.ntmps (loopAt (bodyOf Tryz.f101) 0) (e101_0 L101_0):=lp_ok (E:=E101 L101_0) rfl hE mixed (AllLoops.of_list (l:=[]) (by kernel_rfl) trivial) (n101_0) (fun _ _ _=>rfl) (fun n x y z=>t101_0 L101_0 _ x y z) rfl
  exact fn_ok (E:=E101 L101_0) rfl hE mixed (by kernel_rfl) (by kernel_rfl) (AllLoops.of_list (l:=[(loopAt (bodyOf Tryz.f101) 0)]) (by kernel_rfl) (.one (by kernel_rfl) h0 trivial)) (s101 L101_0)
abbrev i102:Ts:=[]
abbrev o102:Ts:=[.a q2]
abbrev F102:=FT i102 o102
abbrev g102:=mkG 102 i102 o102
noncomputable def m102 (y:PTup i102):Option (PTup o102×BTup i102):=
  some ((((List.replicate (Int.toNat (512:Int)) (0:Int)),((0:Int),())),()),())
theorem s102 (y):TE [] Tryz.f102 i102 o102 y=m102 y:=by kernel_rfl
noncomputable def r102:F102:=m102
theorem k102:KO (g102 r102):=fk (s102) trivial (by kernel_rfl)
abbrev i181:Ts:=[.a q1]
abbrev o181:Ts:=[.v (.bool)]
abbrev F181:=FT i181 o181
abbrev g181:=mkG 181 i181 o181
abbrev lc181_0:Ts:=[.v (.int .i64)]
abbrev lb181_0:Ts:=[.p q1]
abbrev lv181_0:Ts:=[.v (.int .i64)]
abbrev lr181_0:Ts:=[.v (.bool)]
abbrev R181_0:=Option (Sum (PTup lv181_0) (PTup lr181_0)×BTup lb181_0)
abbrev B181_0:=PTup lb181_0→PTup lv181_0→R181_0
abbrev A181_0:=PTup lc181_0→B181_0
noncomputable def w181_0 (c116:F116) (again:B181_0) (x:PTup lc181_0) (y:PTup lb181_0) (z:PTup lv181_0):R181_0:=
  bif (ltI z.1 256)then (bif (leI 0 x.1)then (bif (ltI x.1 (lenI y.1.1))then (bif (leI 0 z.1)then (bif (ltI z.1 (lenI (rdE .n y.1.1 x.1)))then ((c116 ((rdI (rdE .n y.1.1 x.1) z.1),((0:Int),((255:Int),())))).bind fun r0=>
       bif (!r0.1.1)then (some ((Sum.inr (false,())),(y.1,())))
       else again (y.1,()) ((wI (z.1+1)),()))
      else none)
     else none)
    else none)
   else none)
  else some ((Sum.inl z),(y.1,()))
noncomputable def e181_0 (l:A181_0):LoopE:=⟨[3],lc181_0,[1],lb181_0,[4],lv181_0,[2],lr181_0,2,[],l⟩
abbrev lc181_1:Ts:=[]
abbrev lb181_1:Ts:=[.p q1]
abbrev lv181_1:Ts:=[.v (.int .i64)]
abbrev lr181_1:Ts:=[.v (.bool)]
abbrev R181_1:=Option (Sum (PTup lv181_1) (PTup lr181_1)×BTup lb181_1)
abbrev B181_1:=PTup lb181_1→PTup lv181_1→R181_1
abbrev A181_1:=PTup lc181_1→B181_1
noncomputable def w181_1 (c116:F116) (l0:A181_0) (again:B181_1) (x:PTup lc181_1) (y:PTup lb181_1) (z:PTup lv181_1):R181_1:=
  bif (ltI z.1 (lenI y.1.1))then (bif (leI 0 z.1)then (bif (ltI z.1 (lenI y.1.1))then (bif (neI (lenI (rdE .n y.1.1 z.1)) (256:Int))then (some ((Sum.inr (false,())),(y.1,())))
     else (l0 z (y.1,()) ((0:Int),())).bind fun r0=>
     sumElim r0.1 (fun r1=>again (y.1,()) ((wI (z.1+1)),()))
     (fun r1=>some ((Sum.inr r1),(y.1,()))))
    else none)
   else none)
  else some ((Sum.inl z),(y.1,()))
noncomputable def e181_1 (l:A181_1):LoopE:=⟨[],lc181_1,[1],lb181_1,[3],lv181_1,[2],lr181_1,0,[],l⟩
noncomputable def m181 (c116:F116) (l0:A181_0) (l1:A181_1) (y:PTup i181):Option (PTup o181×BTup i181):=
  (l1 () (y.1,()) ((0:Int),())).bind fun r0=>
  sumElim r0.1 (fun r1=>(c116 ((lenI y.1.1),((1:Int),((8:Int),())))).bind fun r2=>
   some (r2.1,()))
  (fun r1=>some (r1,()))
noncomputable def E181 (c116:F116) (l0:A181_0) (l1:A181_1):CEnv:=⟨⟨Tryz.prog,fnsL [g116 c116]⟩,loopsL [(7,e181_0 l0),(2,e181_1 l1)]⟩
theorem t181_0 (c116:F116) (l0:A181_0) (l1:A181_1) (again) (x y z):loopRound (E181 c116 l0 l1) (loopAt (loopAt (bodyOf Tryz.f181) 0) 0) (e181_0 l0) Tryz.f181.ntmps again x y z=w181_0 c116 again x y z:=by kernel_rfl
noncomputable def n181_0 (c116:F116):Nat→A181_0
  |0,_,_,_=>none
  |n+1,x,y,z=>w181_0 c116 (fun y z=>n181_0 c116 n x y z) x y z
theorem t181_1 (c116:F116) (l0:A181_0) (l1:A181_1) (again) (x y z):loopRound (E181 c116 l0 l1) (loopAt (bodyOf Tryz.f181) 0) (e181_1 l1) Tryz.f181.ntmps again x y z=w181_1 c116 l0 again x y z:=by kernel_rfl
noncomputable def n181_1 (c116:F116) (l0:A181_0):Nat→A181_1
  |0,_,_,_=>none
  |n+1,x,y,z=>w181_1 c116 l0 (fun y z=>n181_1 c116 l0 n x y z) x y z
theorem s181 (c116:F116) (l0:A181_0) (l1:A181_1) (y):tevF (E181 c116 l0 l1) Tryz.f181 i181 o181 y=m181 c116 l0 l1 y:=by kernel_rfl
noncomputable def L181_0:A181_0:=n181_0 r116 fuel
noncomputable def L181_1:A181_1:=n181_1 r116 L181_0 fuel
noncomputable def r181:F181:=m181 r116 L181_0 L181_1
theorem k181:KO (g181 r181):=by
  have hE: ∀g f,(E181 r116 L181_0 L181_1).env.fns g=some f→CallOk Tryz.prog g f:=fnsL_ok ⟨k116,⟨⟩⟩
  have h0:LoopOk Tryz.prog Tryz.f181.ntmps (loopAt (loopAt (bodyOf Tryz.f181) 0) 0) (e181_0 L181_0):=lp_ok (E:=E181 r116 L181_0 L181_1) rfl hE mixed (AllLoops.of_list (l:=[]) (by kernel_rfl) trivial) (n181_0 r116) (fun _ _ _=>rfl) (fun n x y z=>t181_0 r116 L181_0 L181_1 _ x y z) rfl
  have h1:LoopOk Tryz.prog Tryz.f181.ntmps (loopAt (bodyOf Tryz.f181) 0) (e181_1 L181_1):=lp_ok (E:=E181 r116 L181_0 L181_1) rfl hE mixed (AllLoops.of_list (l:=[(loopAt (loopAt (bodyOf Tryz.f181) 0) 0)]) (by kernel_rfl) (.one (by kernel_rfl) h0 trivial)) (n181_1 r116 L181_0) (fun _ _ _=>rfl) (fun n x y z=>t181_1 r116 L181_0 L181_1 _ x y z) rfl
  exact fn_ok (E:=E181 r116 L181_0 L181_1) rfl hE mixed (by kernel_rfl) (by kernel_rfl) (AllLoops.of_list (l:=[(loopAt (bodyOf Tryz.f181) 0)]) (by kernel_rfl) (.one (by kernel_rfl) h1 trivial)) (s181 r116 L181_0 L181_1)
abbrev i115:Ts:=[.v (.int .i64)]
abbrev o115:Ts:=[.v (.bool)]
abbrev F115:=FT i115 o115
abbrev g115:=mkG 115 i115 o115
noncomputable def m115 (c116:F116) (y:PTup i115):Option (PTup o115×BTup i115):=
  (c116 (y.1,((0:Int),((255:Int),())))).bind fun r0=>
  some (r0.1,())
theorem s115 (c116:F116) (y):TE [g116 c116] Tryz.f115 i115 o115 y=m115 c116 y:=by kernel_rfl
noncomputable def r115:F115:=m115 r116
theorem k115:KO (g115 r115):=fk (s115 r116) ⟨k116,⟨⟩⟩ (by kernel_rfl)
abbrev i111:Ts:=[.a q1, .a q3]
abbrev o111:Ts:=[.v (.bool)]
abbrev F111:=FT i111 o111
abbrev g111:=mkG 111 i111 o111
abbrev lc111_0:Ts:=[]
abbrev lb111_0:Ts:=[.p q3]
abbrev lv111_0:Ts:=[.v (.int .i64)]
abbrev lr111_0:Ts:=[.v (.bool)]
abbrev R111_0:=Option (Sum (PTup lv111_0) (PTup lr111_0)×BTup lb111_0)
abbrev B111_0:=PTup lb111_0→PTup lv111_0→R111_0
abbrev A111_0:=PTup lc111_0→B111_0
noncomputable def w111_0 (c181:F181) (c116:F116) (c115:F115) (again:B111_0) (x:PTup lc111_0) (y:PTup lb111_0) (z:PTup lv111_0):R111_0:=
  bif (ltI z.1 512)then (bif (leI 0 z.1)then (bif (ltI z.1 (lenI y.1.1))then ((c115 ((rdE .i y.1.1 z.1),())).bind fun r0=>
     bif (!r0.1.1)then (some ((Sum.inr (false,())),(y.1,())))
     else again (y.1,()) ((wI (z.1+1)),()))
    else none)
   else none)
  else some ((Sum.inl z),(y.1,()))
noncomputable def e111_0 (l:A111_0):LoopE:=⟨[],lc111_0,[3],lb111_0,[5],lv111_0,[4],lr111_0,0,[],l⟩
noncomputable def m111 (c181:F181) (c116:F116) (c115:F115) (l0:A111_0) (y:PTup i111):Option (PTup o111×BTup i111):=
  (c181 (y.1,())).bind fun r0=>
  bif (!r0.1.1)then no
  else bif (neI (lenI y.2.1.1) 512)then no
  else (c116 (y.2.1.2.1,((0:Int),((wI ((lenI y.1.1)-1)),())))).bind fun r1=>
  bif (!r1.1.1)then no
  else (l0 () (y.2.1,()) ((0:Int),())).bind fun r2=>
  sumElim r2.1 (fun r3=>some ((true,()),()))
  (fun r3=>some (r3,()))
noncomputable def E111 (c181:F181) (c116:F116) (c115:F115) (l0:A111_0):CEnv:=⟨⟨Tryz.prog,fnsL [g181 c181,g116 c116,g115 c115]⟩,loopsL [(4,e111_0 l0)]⟩
theorem t111_0 (c181:F181) (c116:F116) (c115:F115) (l0:A111_0) (again) (x y z):loopRound (E111 c181 c116 c115 l0) (loopAt (bodyOf Tryz.f111) 0) (e111_0 l0) Tryz.f111.ntmps again x y z=w111_0 c181 c116 c115 again x y z:=by kernel_rfl
noncomputable def n111_0 (c181:F181) (c116:F116) (c115:F115):Nat→A111_0
  |0,_,_,_=>none
  |n+1,x,y,z=>w111_0 c181 c116 c115 (fun y z=>n111_0 c181 c116 c115 n x y z) x y z
theorem s111 (c181:F181) (c116:F116) (c115:F115) (l0:A111_0) (y):tevF (E111 c181 c116 c115 l0) Tryz.f111 i111 o111 y=m111 c181 c116 c115 l0 y:=by kernel_rfl
noncomputable def L111_0:A111_0:=n111_0 r181 r116 r115 fuel
noncomputable def r111:F111:=m111 r181 r116 r115 L111_0
theorem k111:KO (g111 r111):=by
  have hE: ∀g f,(E111 r181 r116 r115 L111_0).env.fns g=some f→CallOk Tryz.prog g f:=fnsL_ok ⟨k181,k116,k115,⟨⟩⟩
  have h0:LoopOk Tryz.prog Tryz.f111.ntmps (loopAt (bodyOf Tryz.f111) 0) (e111_0 L111_0):=lp_ok (E:=E111 r181 r116 r115 L111_0) rfl hE mixed (AllLoops.of_list (l:=[]) (by kernel_rfl) trivial) (n111_0 r181 r116 r115) (fun _ _ _=>rfl) (fun n x y z=>t111_0 r181 r116 r115 L111_0 _ x y z) rfl
  exact fn_ok (E:=E111 r181 r116 r115 L111_0) rfl hE mixed (by kernel_rfl) (by kernel_rfl) (AllLoops.of_list (l:=[(loopAt (bodyOf Tryz.f111) 0)]) (by kernel_rfl) (.one (by kernel_rfl) h0 trivial)) (s111 r181 r116 r115 L111_0)
abbrev i223:Ts:=[.v (.int .i64)]
abbrev o223:Ts:=[.v (.int .i64)]
abbrev F223:=FT i223 o223
abbrev g223:=mkG 223 i223 o223
noncomputable def m223 (y:PTup i223):Option (PTup o223×BTup i223):=
  some (((bAnd Go.IntKind.i64 y.1 (65535:Int)),()),())
theorem s223 (y):TE [] Tryz.f223 i223 o223 y=m223 y:=by kernel_rfl
noncomputable def r223:F223:=m223
theorem k223:KO (g223 r223):=fk (s223) trivial (by kernel_rfl)
abbrev i176:Ts:=[.v (.int .i64)]
abbrev o176:Ts:=[.v (.int .i64), .v (.int .i64)]
abbrev F176:=FT i176 o176
abbrev g176:=mkG 176 i176 o176
noncomputable def m176 (c223:F223) (y:PTup i176):Option (PTup o176×BTup i176):=
  (c223 y).bind fun r0=>
  bif (ltI r0.1.1 8192)then (some (((1:Int),((Int.tmod r0.1.1 512),())),()))
  else bif (ltI r0.1.1 16384)then (some (((2:Int),((Int.tmod r0.1.1 8),())),()))
  else bif (ltI r0.1.1 16388)then (some (((3:Int),((Int.tmod r0.1.1 4),())),()))
  else bif (eqI r0.1.1 16406)then (some (((4:Int),((0:Int),())),()))
  else bif (ltI r0.1.1 32768)then (some (((7:Int),((0:Int),())),()))
  else bif (ltI r0.1.1 49152)then (some (((5:Int),((Int.tmod r0.1.1 256),())),()))
  else some (((6:Int),((Int.tmod r0.1.1 256),())),())
theorem s176 (c223:F223) (y):TE [g223 c223] Tryz.f176 i176 o176 y=m176 c223 y:=by kernel_rfl
noncomputable def r176:F176:=m176 r223
theorem k176:KO (g176 r176):=fk (s176 r223) ⟨k223,⟨⟩⟩ (by kernel_rfl)
abbrev i180:Ts:=[.a q1, .a q3, .v (.int .i64)]
abbrev o180:Ts:=[.v (.int .i64)]
abbrev F180:=FT i180 o180
abbrev g180:=mkG 180 i180 o180
noncomputable def m180 (c176:F176) (y:PTup i180):Option (PTup o180×BTup i180):=
  (c176 y.2.2).bind fun r0=>
  bif (eqI r0.1.1 1)then (bif (leI 0 r0.1.2.1)then (bif (ltI r0.1.2.1 (lenI y.2.1.1))then (some (((rdE .i y.2.1.1 r0.1.2.1),()),()))
    else none)
   else none)
  else bif (eqI r0.1.1 5)then (bif (leI 0 y.2.1.2.1)then (bif (ltI y.2.1.2.1 (lenI y.1.1))then (bif (leI 0 r0.1.2.1)then (bif (ltI r0.1.2.1 (lenI (rdE .n y.1.1 y.2.1.2.1)))then (some (((rdI (rdE .n y.1.1 y.2.1.2.1) r0.1.2.1),()),()))
      else none)
     else none)
    else none)
   else none)
  else bif (eqI r0.1.1 6)then (bif (leI 0 (wI ((lenI y.1.1)-1)))then (bif (ltI (wI ((lenI y.1.1)-1)) (lenI y.1.1))then (bif (leI 0 r0.1.2.1)then (bif (ltI r0.1.2.1 (lenI (rdE .n y.1.1 (wI ((lenI y.1.1)-1)))))then (some (((rdI (rdE .n y.1.1 (wI ((lenI y.1.1)-1))) r0.1.2.1),()),()))
      else none)
     else none)
    else none)
   else none)
  else some (((0:Int),()),())
theorem s180 (c176:F176) (y):TE [g176 c176] Tryz.f180 i180 o180 y=m180 c176 y:=by kernel_rfl
noncomputable def r180:F180:=m180 r176
theorem k180:KO (g180 r180):=fk (s180 r176) ⟨k176,⟨⟩⟩ (by kernel_rfl)
abbrev i164:Ts:=[.a q1, .a q3, .v (.int .i64)]
abbrev o164:Ts:=[.v (.int .i64)]
abbrev F164:=FT i164 o164
abbrev g164:=mkG 164 i164 o164
noncomputable def m164 (c111:F111) (c180:F180) (y:PTup i164):Option (PTup o164×BTup i164):=
  (c111 (y.1,(y.2.1,()))).bind fun r0=>
  bif (!r0.1.1)then (some (((0:Int),()),()))
  else (c180 y).bind fun r1=>
  some (r1.1,())
theorem s164 (c111:F111) (c180:F180) (y):TE [g111 c111,g180 c180] Tryz.f164 i164 o164 y=m164 c111 c180 y:=by kernel_rfl
noncomputable def r164:F164:=m164 r111 r180
theorem k164:KO (g164 r164):=fk (s164 r111 r180) ⟨k111,k180,⟨⟩⟩ (by kernel_rfl)
abbrev i163:Ts:=[.v (.int .i64), .v (.int .i64)]
abbrev o163:Ts:=[.v (.int .i64)]
abbrev F163:=FT i163 o163
abbrev g163:=mkG 163 i163 o163
noncomputable def m163 (c215:F215) (y:PTup i163):Option (PTup o163×BTup i163):=
  (c215 (y.1,())).bind fun r0=>
  (c215 y.2).bind fun r1=>
  some (((wI (r0.1.1+(wI ((256:Int)*r1.1.1)))),()),())
theorem s163 (c215:F215) (y):TE [g215 c215] Tryz.f163 i163 o163 y=m163 c215 y:=by kernel_rfl
noncomputable def r163:F163:=m163 r215
theorem k163:KO (g163 r163):=fk (s163 r215) ⟨k215,⟨⟩⟩ (by kernel_rfl)
abbrev i103:Ts:=[.a q1]
abbrev o103:Ts:=[.a q4]
abbrev F103:=FT i103 o103
abbrev g103:=mkG 103 i103 o103
noncomputable def m103 (c163:F163) (c102:F102) (c164:F164) (y:PTup i103):Option (PTup o103×BTup i103):=
  (c102 ()).bind fun r0=>
  (c164 (y.1,(r0.1.1,((65532:Int),())))).bind fun r1=>
  (c164 (y.1,(r0.1.1,((65533:Int),())))).bind fun r2=>
  (c163 (r1.1.1,r2.1)).bind fun r3=>
  some ((((0:Int),((0:Int),((255:Int),(r3.1.1,(false,(false,(false,(true,())))))))),()),())
theorem s103 (c163:F163) (c102:F102) (c164:F164) (y):TE [g163 c163,g102 c102,g164 c164] Tryz.f103 i103 o103 y=m103 c163 c102 c164 y:=by kernel_rfl
noncomputable def r103:F103:=m103 r163 r102 r164
theorem k103:KO (g103 r103):=fk (s103 r163 r102 r164) ⟨k163,k102,k164,⟨⟩⟩ (by kernel_rfl)
abbrev i104:Ts:=[]
abbrev o104:Ts:=[.a q5]
abbrev F104:=FT i104 o104
abbrev g104:=mkG 104 i104 o104
noncomputable def m104 (y:PTup i104):Option (PTup o104×BTup i104):=
  some ((((0:Int),((0:Int),((0:Int),((0:Int),((0:Int),(false,((List.replicate (Int.toNat (16:Int)) (0:Int)),([],())))))))),()),())
theorem s104 (y):TE [] Tryz.f104 i104 o104 y=m104 y:=by kernel_rfl
noncomputable def r104:F104:=m104
theorem k104:KO (g104 r104):=fk (s104) trivial (by kernel_rfl)
abbrev i110:Ts:=[.v (.sl false .i)]
abbrev o110:Ts:=[.v (.bool)]
abbrev F110:=FT i110 o110
abbrev g110:=mkG 110 i110 o110
abbrev lc110_0:Ts:=[.v (.sl false .i)]
abbrev lb110_0:Ts:=[]
abbrev lv110_0:Ts:=[.v (.int .i64)]
abbrev lr110_0:Ts:=[.v (.bool)]
abbrev R110_0:=Option (Sum (PTup lv110_0) (PTup lr110_0)×BTup lb110_0)
abbrev B110_0:=PTup lb110_0→PTup lv110_0→R110_0
abbrev A110_0:=PTup lc110_0→B110_0
noncomputable def w110_0 (c115:F115) (again:B110_0) (x:PTup lc110_0) (y:PTup lb110_0) (z:PTup lv110_0):R110_0:=
  bif (ltI z.1 (lenI x.1))then (bif (leI 0 z.1)then (bif (ltI z.1 (lenI x.1))then ((c115 ((rdE .i x.1 z.1),())).bind fun r0=>
     bif (!r0.1.1)then (some ((Sum.inr (false,())),()))
     else again () ((wI (z.1+1)),()))
    else none)
   else none)
  else some ((Sum.inl z),())
noncomputable def e110_0 (l:A110_0):LoopE:=⟨[0],lc110_0,[],lb110_0,[3],lv110_0,[2],lr110_0,0,[],l⟩
noncomputable def m110 (c115:F115) (l0:A110_0) (y:PTup i110):Option (PTup o110×BTup i110):=
  (l0 y () ((0:Int),())).bind fun r0=>
  sumElim r0.1 (fun r1=>some (((leI (lenI y.1) 20),()),()))
  (fun r1=>some (r1,()))
noncomputable def E110 (c115:F115) (l0:A110_0):CEnv:=⟨⟨Tryz.prog,fnsL [g115 c115]⟩,loopsL [(2,e110_0 l0)]⟩
theorem t110_0 (c115:F115) (l0:A110_0) (again) (x y z):loopRound (E110 c115 l0) (loopAt (bodyOf Tryz.f110) 0) (e110_0 l0) Tryz.f110.ntmps again x y z=w110_0 c115 again x y z:=by kernel_rfl
noncomputable def n110_0 (c115:F115):Nat→A110_0
  |0,_,_,_=>none
  |n+1,x,y,z=>w110_0 c115 (fun y z=>n110_0 c115 n x y z) x y z
theorem s110 (c115:F115) (l0:A110_0) (y):tevF (E110 c115 l0) Tryz.f110 i110 o110 y=m110 c115 l0 y:=by kernel_rfl
noncomputable def L110_0:A110_0:=n110_0 r115 fuel
noncomputable def r110:F110:=m110 r115 L110_0
theorem k110:KO (g110 r110):=by
  have hE: ∀g f,(E110 r115 L110_0).env.fns g=some f→CallOk Tryz.prog g f:=fnsL_ok ⟨k115,⟨⟩⟩
  have h0:LoopOk Tryz.prog Tryz.f110.ntmps (loopAt (bodyOf Tryz.f110) 0) (e110_0 L110_0):=lp_ok (E:=E110 r115 L110_0) rfl hE mixed (AllLoops.of_list (l:=[]) (by kernel_rfl) trivial) (n110_0 r115) (fun _ _ _=>rfl) (fun n x y z=>t110_0 r115 L110_0 _ x y z) rfl
  exact fn_ok (E:=E110 r115 L110_0) rfl hE mixed (by kernel_rfl) (by kernel_rfl) (AllLoops.of_list (l:=[(loopAt (bodyOf Tryz.f110) 0)]) (by kernel_rfl) (.one (by kernel_rfl) h0 trivial)) (s110 r115 L110_0)
abbrev i112:Ts:=[.a q4]
abbrev o112:Ts:=[.v (.bool)]
abbrev F112:=FT i112 o112
abbrev g112:=mkG 112 i112 o112
noncomputable def m112 (c116:F116) (c115:F115) (y:PTup i112):Option (PTup o112×BTup i112):=
  (c115 (y.1.1,())).bind fun r0=>
  bif r0.1.1 then ((c115 (y.1.2.1,())).bind fun r1=>
   bif r1.1.1 then ((c115 (y.1.2.2.1,())).bind fun r2=>
    bif r2.1.1 then ((c116 (y.1.2.2.2.1,((0:Int),((65535:Int),())))).bind fun r3=>
     some (r3.1,()))
    else no)
   else no)
  else no
theorem s112 (c116:F116) (c115:F115) (y):TE [g116 c116,g115 c115] Tryz.f112 i112 o112 y=m112 c116 c115 y:=by kernel_rfl
noncomputable def r112:F112:=m112 r116 r115
theorem k112:KO (g112 r112):=fk (s112 r116 r115) ⟨k116,k115,⟨⟩⟩ (by kernel_rfl)
abbrev i182:Ts:=[.v (.int .i64)]
abbrev o182:Ts:=[.v (.int .i64)]
abbrev F182:=FT i182 o182
abbrev g182:=mkG 182 i182 o182
noncomputable def m182 (y:PTup i182):Option (PTup o182×BTup i182):=
  bif (ltI 48 (Int.tmod y.1 64))then (some (((0:Int),()),()))
  else some (((Int.tmod y.1 64),()),())
theorem s182 (y):TE [] Tryz.f182 i182 o182 y=m182 y:=by kernel_rfl
noncomputable def r182:F182:=m182
theorem k182:KO (g182 r182):=fk (s182) trivial (by kernel_rfl)
abbrev i113:Ts:=[.a q6]
abbrev o113:Ts:=[.v (.bool)]
abbrev F113:=FT i113 o113
abbrev g113:=mkG 113 i113 o113
abbrev lc113_0:Ts:=[]
abbrev lb113_0:Ts:=[.p q6]
abbrev lv113_0:Ts:=[.v (.int .i64)]
abbrev lr113_0:Ts:=[.v (.bool)]
abbrev R113_0:=Option (Sum (PTup lv113_0) (PTup lr113_0)×BTup lb113_0)
abbrev B113_0:=PTup lb113_0→PTup lv113_0→R113_0
abbrev A113_0:=PTup lc113_0→B113_0
noncomputable def w113_0 (c116:F116) (c115:F115) (c182:F182) (again:B113_0) (x:PTup lc113_0) (y:PTup lb113_0) (z:PTup lv113_0):R113_0:=
  bif (ltI z.1 (lenI y.1.2.2.2.2.2.2.2.1))then (bif (leI 0 z.1)then (bif (ltI z.1 (lenI y.1.2.2.2.2.2.2.2.1))then ((c116 ((rdE .i y.1.2.2.2.2.2.2.2.1 z.1),((0:Int),((63:Int),())))).bind fun r0=>
     bif (!r0.1.1)then (some ((Sum.inr (false,())),(y.1,())))
     else again (y.1,()) ((wI (z.1+1)),()))
    else none)
   else none)
  else some ((Sum.inl z),(y.1,()))
noncomputable def e113_0 (l:A113_0):LoopE:=⟨[],lc113_0,[1],lb113_0,[4],lv113_0,[2],lr113_0,2,[],l⟩
abbrev lc113_1:Ts:=[]
abbrev lb113_1:Ts:=[.p q6]
abbrev lv113_1:Ts:=[.v (.int .i64)]
abbrev lr113_1:Ts:=[.v (.bool)]
abbrev R113_1:=Option (Sum (PTup lv113_1) (PTup lr113_1)×BTup lb113_1)
abbrev B113_1:=PTup lb113_1→PTup lv113_1→R113_1
abbrev A113_1:=PTup lc113_1→B113_1
noncomputable def w113_1 (c116:F116) (c115:F115) (c182:F182) (l0:A113_0) (again:B113_1) (x:PTup lc113_1) (y:PTup lb113_1) (z:PTup lv113_1):R113_1:=
  bif (ltI z.1 16)then (bif (leI 0 z.1)then (bif (ltI z.1 (lenI y.1.2.2.2.2.2.2.1))then ((c116 ((rdE .i y.1.2.2.2.2.2.2.1 z.1),((0:Int),((63:Int),())))).bind fun r0=>
     bif (!r0.1.1)then (some ((Sum.inr (false,())),(y.1,())))
     else again (y.1,()) ((wI (z.1+1)),()))
    else none)
   else none)
  else some ((Sum.inl z),(y.1,()))
noncomputable def e113_1 (l:A113_1):LoopE:=⟨[],lc113_1,[1],lb113_1,[3],lv113_1,[2],lr113_1,0,[],l⟩
noncomputable def m113 (c116:F116) (c115:F115) (c182:F182) (l0:A113_0) (l1:A113_1) (y:PTup i113):Option (PTup o113×BTup i113):=
  (c116 (y.1.1,((0:Int),((20000:Int),())))).bind fun r0=>
  bif (!r0.1.1)then no
  else (c115 (y.1.2.1,())).bind fun r1=>
  bif (!r1.1.1)then no
  else (c115 (y.1.2.2.1,())).bind fun r2=>
  bif (!r2.1.1)then no
  else (c116 (y.1.2.2.2.1,((0:Int),((15:Int),())))).bind fun r3=>
  bif (!r3.1.1)then no
  else (c116 (y.1.2.2.2.2.1,((0:Int),((63:Int),())))).bind fun r4=>
  bif (!r4.1.1)then no
  else bif (neI (lenI y.1.2.2.2.2.2.2.1) 16)then no
  else (c182 (y.1.1,())).bind fun r5=>
  bif (neI (lenI y.1.2.2.2.2.2.2.2.1) r5.1.1)then no
  else (l1 () (y.1,()) ((0:Int),())).bind fun r6=>
  sumElim r6.1 (fun r7=>(l0 () ((r6.2.1.1,(r6.2.1.2.1,(r6.2.1.2.2.1,(r6.2.1.2.2.2.1,(r6.2.1.2.2.2.2.1,(r6.2.1.2.2.2.2.2.1,y.1.2.2.2.2.2.2)))))),()) ((0:Int),())).bind fun r8=>
   sumElim r8.1 (fun r9=>some ((true,()),()))
   (fun r9=>some (r9,())))
  (fun r7=>some (r7,()))
noncomputable def E113 (c116:F116) (c115:F115) (c182:F182) (l0:A113_0) (l1:A113_1):CEnv:=⟨⟨Tryz.prog,fnsL [g116 c116,g115 c115,g182 c182]⟩,loopsL [(9,e113_0 l0),(4,e113_1 l1)]⟩
theorem t113_0 (c116:F116) (c115:F115) (c182:F182) (l0:A113_0) (l1:A113_1) (again) (x y z):loopRound (E113 c116 c115 c182 l0 l1) (loopAt (bodyOf Tryz.f113) 1) (e113_0 l0) Tryz.f113.ntmps again x y z=w113_0 c116 c115 c182 again x y z:=by kernel_rfl
noncomputable def n113_0 (c116:F116) (c115:F115) (c182:F182):Nat→A113_0
  |0,_,_,_=>none
  |n+1,x,y,z=>w113_0 c116 c115 c182 (fun y z=>n113_0 c116 c115 c182 n x y z) x y z
theorem t113_1 (c116:F116) (c115:F115) (c182:F182) (l0:A113_0) (l1:A113_1) (again) (x y z):loopRound (E113 c116 c115 c182 l0 l1) (loopAt (bodyOf Tryz.f113) 0) (e113_1 l1) Tryz.f113.ntmps again x y z=w113_1 c116 c115 c182 l0 again x y z:=by kernel_rfl
noncomputable def n113_1 (c116:F116) (c115:F115) (c182:F182) (l0:A113_0):Nat→A113_1
  |0,_,_,_=>none
  |n+1,x,y,z=>w113_1 c116 c115 c182 l0 (fun y z=>n113_1 c116 c115 c182 l0 n x y z) x y z
theorem s113 (c116:F116) (c115:F115) (c182:F182) (l0:A113_0) (l1:A113_1) (y):tevF (E113 c116 c115 c182 l0 l1) Tryz.f113 i113 o113 y=m113 c116 c115 c182 l0 l1 y:=by kernel_rfl
noncomputable def L113_0:A113_0:=n113_0 r116 r115 r182 fuel
noncomputable def L113_1:A113_1:=n113_1 r116 r115 r182 L113_0 fuel
noncomputable def r113:F113:=m113 r116 r115 r182 L113_0 L113_1
theorem k113:KO (g113 r113):=by
  have hE: ∀g f,(E113 r116 r115 r182 L113_0 L113_1).env.fns g=some f→CallOk Tryz.prog g f:=fnsL_ok ⟨k116,k115,k182,⟨⟩⟩
  have h0:LoopOk Tryz.prog Tryz.f113.ntmps (loopAt (bodyOf Tryz.f113) 1) (e113_0 L113_0):=lp_ok (E:=E113 r116 r115 r182 L113_0 L113_1) rfl hE mixed (AllLoops.of_list (l:=[]) (by kernel_rfl) trivial) (n113_0 r116 r115 r182) (fun _ _ _=>rfl) (fun n x y z=>t113_0 r116 r115 r182 L113_0 L113_1 _ x y z) rfl
  have h1:LoopOk Tryz.prog Tryz.f113.ntmps (loopAt (bodyOf Tryz.f113) 0) (e113_1 L113_1):=lp_ok (E:=E113 r116 r115 r182 L113_0 L113_1) rfl hE mixed (AllLoops.of_list (l:=[]) (by kernel_rfl) trivial) (n113_1 r116 r115 r182 L113_0) (fun _ _ _=>rfl) (fun n x y z=>t113_1 r116 r115 r182 L113_0 L113_1 _ x y z) rfl
  exact fn_ok (E:=E113 r116 r115 r182 L113_0 L113_1) rfl hE mixed (by kernel_rfl) (by kernel_rfl) (AllLoops.of_list (l:=[(loopAt (bodyOf Tryz.f113) 0),(loopAt (bodyOf Tryz.f113) 1)]) (by kernel_rfl) (.one (by kernel_rfl) h1 (.one (by kernel_rfl) h0 trivial))) (s113 r116 r115 r182 L113_0 L113_1)
abbrev i183:Ts:=[.v (.int .i64)]
abbrev o183:Ts:=[.v (.int .i64)]
abbrev F183:=FT i183 o183
abbrev g183:=mkG 183 i183 o183
noncomputable def m183 (y:PTup i183):Option (PTup o183×BTup i183):=
  some (((wI (Int.tdiv (wI ((wI ((wI (y.1+64))-48))-1)) (64:Int))),()),())
theorem s183 (y):TE [] Tryz.f183 i183 o183 y=m183 y:=by kernel_rfl
noncomputable def r183:F183:=m183
theorem k183:KO (g183 r183):=fk (s183) trivial (by kernel_rfl)
abbrev i117:Ts:=[.v (.sl false .n), .v (.int .i64)]
abbrev o117:Ts:=[.v (.bool)]
abbrev F117:=FT i117 o117
abbrev g117:=mkG 117 i117 o117
abbrev lc117_0:Ts:=[.v (.sl false .n)]
abbrev lb117_0:Ts:=[]
abbrev lv117_0:Ts:=[.v (.int .i64)]
abbrev lr117_0:Ts:=[.v (.bool)]
abbrev R117_0:=Option (Sum (PTup lv117_0) (PTup lr117_0)×BTup lb117_0)
abbrev B117_0:=PTup lb117_0→PTup lv117_0→R117_0
abbrev A117_0:=PTup lc117_0→B117_0
noncomputable def w117_0 (c183:F183) (again:B117_0) (x:PTup lc117_0) (y:PTup lb117_0) (z:PTup lv117_0):R117_0:=
  bif (ltI z.1 (lenI x.1))then (bif (leI 0 z.1)then (bif (ltI z.1 (lenI x.1))then (bif (neI (lenI (rdE .n x.1 z.1)) (48:Int))then (some ((Sum.inr (false,())),()))
     else again () ((wI (z.1+1)),()))
    else none)
   else none)
  else some ((Sum.inl z),())
noncomputable def e117_0 (l:A117_0):LoopE:=⟨[0],lc117_0,[],lb117_0,[5],lv117_0,[4],lr117_0,0,[],l⟩
noncomputable def m117 (c183:F183) (l0:A117_0) (y:PTup i117):Option (PTup o117×BTup i117):=
  (l0 (y.1,()) () ((0:Int),())).bind fun r0=>
  sumElim r0.1 (fun r1=>(c183 y.2).bind fun r2=>
   some (((eqI (lenI y.1) r2.1.1),()),()))
  (fun r1=>some (r1,()))
noncomputable def E117 (c183:F183) (l0:A117_0):CEnv:=⟨⟨Tryz.prog,fnsL [g183 c183]⟩,loopsL [(2,e117_0 l0)]⟩
theorem t117_0 (c183:F183) (l0:A117_0) (again) (x y z):loopRound (E117 c183 l0) (loopAt (bodyOf Tryz.f117) 0) (e117_0 l0) Tryz.f117.ntmps again x y z=w117_0 c183 again x y z:=by kernel_rfl
noncomputable def n117_0 (c183:F183):Nat→A117_0
  |0,_,_,_=>none
  |n+1,x,y,z=>w117_0 c183 (fun y z=>n117_0 c183 n x y z) x y z
theorem s117 (c183:F183) (l0:A117_0) (y):tevF (E117 c183 l0) Tryz.f117 i117 o117 y=m117 c183 l0 y:=by kernel_rfl
noncomputable def L117_0:A117_0:=n117_0 r183 fuel
noncomputable def r117:F117:=m117 r183 L117_0
theorem k117:KO (g117 r117):=by
  have hE: ∀g f,(E117 r183 L117_0).env.fns g=some f→CallOk Tryz.prog g f:=fnsL_ok ⟨k183,⟨⟩⟩
  have h0:LoopOk Tryz.prog Tryz.f117.ntmps (loopAt (bodyOf Tryz.f117) 0) (e117_0 L117_0):=lp_ok (E:=E117 r183 L117_0) rfl hE mixed (AllLoops.of_list (l:=[]) (by kernel_rfl) trivial) (n117_0 r183) (fun _ _ _=>rfl) (fun n x y z=>t117_0 r183 L117_0 _ x y z) rfl
  exact fn_ok (E:=E117 r183 L117_0) rfl hE mixed (by kernel_rfl) (by kernel_rfl) (AllLoops.of_list (l:=[(loopAt (bodyOf Tryz.f117) 0)]) (by kernel_rfl) (.one (by kernel_rfl) h0 trivial)) (s117 r183 L117_0)
abbrev i114:Ts:=[.a q7]
abbrev o114:Ts:=[.v (.bool)]
abbrev F114:=FT i114 o114
abbrev g114:=mkG 114 i114 o114
noncomputable def m114 (c116:F116) (c115:F115) (y:PTup i114):Option (PTup o114×BTup i114):=
  (c116 (y.1.1,((0:Int),((20000:Int),())))).bind fun r0=>
  bif r0.1.1 then ((c115 (y.1.2.1,())).bind fun r1=>
   bif r1.1.1 then ((c115 (y.1.2.2.1,())).bind fun r2=>
    bif r2.1.1 then ((c116 (y.1.2.2.2.1,((0:Int),((1:Int),())))).bind fun r3=>
     bif r3.1.1 then ((c116 (y.1.2.2.2.2.1,((0:Int),((31:Int),())))).bind fun r4=>
      some (r4.1,()))
     else no)
    else no)
   else no)
  else no
theorem s114 (c116:F116) (c115:F115) (y):TE [g116 c116,g115 c115] Tryz.f114 i114 o114 y=m114 c116 c115 y:=by kernel_rfl
noncomputable def r114:F114:=m114 r116 r115
theorem k114:KO (g114 r114):=fk (s114 r116 r115) ⟨k116,k115,⟨⟩⟩ (by kernel_rfl)
abbrev i139:Ts:=[.a q3]
abbrev o139:Ts:=[.a q2]
abbrev F139:=FT i139 o139
abbrev g139:=mkG 139 i139 o139
noncomputable def m139 (y:PTup i139):Option (PTup o139×BTup i139):=
  bif (leN (0+(List.length y.1.1)) (E.most .i))then (some (((([]++y.1.1),y.1.2),()),()))
  else none
theorem s139 (y):TE [] Tryz.f139 i139 o139 y=m139 y:=by kernel_rfl
noncomputable def r139:F139:=m139
theorem k139:KO (g139 r139):=fk (s139) trivial (by kernel_rfl)
abbrev i156:Ts:=[.a q6]
abbrev o156:Ts:=[.a q5]
abbrev F156:=FT i156 o156
abbrev g156:=mkG 156 i156 o156
noncomputable def m156 (y:PTup i156):Option (PTup o156×BTup i156):=
  bif (leN (0+(List.length y.1.2.2.2.2.2.2.1)) (E.most .i))then (bif (leN (0+(List.length y.1.2.2.2.2.2.2.2.1)) (E.most .i))then (some (((y.1.1,(y.1.2.1,(y.1.2.2.1,(y.1.2.2.2.1,(y.1.2.2.2.2.1,(y.1.2.2.2.2.2.1,(([]++y.1.2.2.2.2.2.2.1),(([]++y.1.2.2.2.2.2.2.2.1),())))))))),()),()))
   else none)
  else none
theorem s156 (y):TE [] Tryz.f156 i156 o156 y=m156 y:=by kernel_rfl
noncomputable def r156:F156:=m156
theorem k156:KO (g156 r156):=fk (s156) trivial (by kernel_rfl)
abbrev i157:Ts:=[.v (.sl false .n)]
abbrev o157:Ts:=[.v (.sl true .n)]
abbrev F157:=FT i157 o157
abbrev g157:=mkG 157 i157 o157
abbrev lc157_0:Ts:=[.v (.sl false .n)]
abbrev lb157_0:Ts:=[]
abbrev lv157_0:Ts:=[.v (.sl true .n), .v (.int .i64)]
abbrev lr157_0:Ts:=[]
abbrev R157_0:=Option (Sum (PTup lv157_0) (PTup lr157_0)×BTup lb157_0)
abbrev B157_0:=PTup lb157_0→PTup lv157_0→R157_0
abbrev A157_0:=PTup lc157_0→B157_0
noncomputable def w157_0 (again:B157_0) (x:PTup lc157_0) (y:PTup lb157_0) (z:PTup lv157_0):R157_0:=
  bif (ltI z.2.1 (lenI x.1))then (bif (leI 0 z.2.1)then (bif (ltI z.2.1 (lenI x.1))then (bif (leN (0+(List.length (rdE .n x.1 z.2.1))) (E.most .i))then (bif (leN ((List.length z.1)+(List.length (([]++(rdE .n x.1 z.2.1))::[]))) (E.most .n))then (again () ((z.1++(([]++(rdE .n x.1 z.2.1))::[])),((wI (z.2.1+1)),())))
      else none)
     else none)
    else none)
   else none)
  else some ((Sum.inl z),())
noncomputable def e157_0 (l:A157_0):LoopE:=⟨[0],lc157_0,[],lb157_0,[3,4],lv157_0,[],lr157_0,0,[],l⟩
noncomputable def m157 (l0:A157_0) (y:PTup i157):Option (PTup o157×BTup i157):=
  (l0 y () ([],((0:Int),()))).bind fun r0=>
  sumElim r0.1 (fun r1=>some ((r1.1,()),()))
  (fun r1=>some (([],()),()))
noncomputable def E157 (l0:A157_0):CEnv:=⟨⟨Tryz.prog,fnsL []⟩,loopsL [(3,e157_0 l0)]⟩
theorem t157_0 (l0:A157_0) (again) (x y z):loopRound (E157 l0) (loopAt (bodyOf Tryz.f157) 0) (e157_0 l0) Tryz.f157.ntmps again x y z=w157_0 again x y z:=by kernel_rfl
noncomputable def n157_0:Nat→A157_0
  |0,_,_,_=>none
  |n+1,x,y,z=>w157_0 (fun y z=>n157_0 n x y z) x y z
theorem s157 (l0:A157_0) (y):tevF (E157 l0) Tryz.f157 i157 o157 y=m157 l0 y:=by kernel_rfl
noncomputable def L157_0:A157_0:=n157_0 fuel
noncomputable def r157:F157:=m157 L157_0
theorem k157:KO (g157 r157):=by
  have hE: ∀g f,(E157 L157_0).env.fns g=some f→CallOk Tryz.prog g f:=fnsL_ok trivial
  have h0:LoopOk Tryz.prog Tryz.f157.ntmps (loopAt (bodyOf Tryz.f157) 0) (e157_0 L157_0):=lp_ok (E:=E157 L157_0) rfl hE mixed (AllLoops.of_list (l:=[]) (by kernel_rfl) trivial) (n157_0) (fun _ _ _=>rfl) (fun n x y z=>t157_0 L157_0 _ x y z) rfl
  exact fn_ok (E:=E157 L157_0) rfl hE mixed (by kernel_rfl) (by kernel_rfl) (AllLoops.of_list (l:=[(loopAt (bodyOf Tryz.f157) 0)]) (by kernel_rfl) (.one (by kernel_rfl) h0 trivial)) (s157 L157_0)
abbrev i265:Ts:=[.v (.int .i64), .v (.int .i64)]
abbrev o265:Ts:=[.v (.int .i64)]
abbrev F265:=FT i265 o265
abbrev g265:=mkG 265 i265 o265
noncomputable def m265 (y:PTup i265):Option (PTup o265×BTup i265):=
  bif (ltI y.2.1 y.1)then (some ((y.1,()),()))
  else some (y.2,())
theorem s265 (y):TE [] Tryz.f265 i265 o265 y=m265 y:=by kernel_rfl
noncomputable def r265:F265:=m265
theorem k265:KO (g265 r265):=fk (s265) trivial (by kernel_rfl)
abbrev i158:Ts:=[.v (.int .i64), .v (.int .i64)]
abbrev o158:Ts:=[.v (.int .i64)]
abbrev F158:=FT i158 o158
abbrev g158:=mkG 158 i158 o158
noncomputable def m158 (y:PTup i158):Option (PTup o158×BTup i158):=
  bif (ltI y.1 y.2.1)then (some ((y.1,()),()))
  else some (y.2,())
theorem s158 (y):TE [] Tryz.f158 i158 o158 y=m158 y:=by kernel_rfl
noncomputable def r158:F158:=m158
theorem k158:KO (g158 r158):=fk (s158) trivial (by kernel_rfl)
abbrev i230:Ts:=[.a q1, .a q3, .v (.int .i64)]
abbrev o230:Ts:=[.a q8]
abbrev F230:=FT i230 o230
abbrev g230:=mkG 230 i230 o230
noncomputable def m230 (c163:F163) (c257:F257) (c164:F164) (y:PTup i230):Option (PTup o230×BTup i230):=
  (c164 y).bind fun r0=>
  (c257 r0.1).bind fun r1=>
  bif (eqI r1.1.1 2)then ((c164 (y.1,(y.2.1,((wI (y.2.2.1+1)),())))).bind fun r2=>
   some (((r0.1.1,r2.1),()),()))
  else bif (eqI r1.1.1 3)then ((c164 (y.1,(y.2.1,((wI (y.2.2.1+1)),())))).bind fun r2=>
   (c164 (y.1,(y.2.1,((wI (y.2.2.1+2)),())))).bind fun r3=>
   (c163 (r2.1.1,r3.1)).bind fun r4=>
   some (((r0.1.1,r4.1),()),()))
  else some (((r0.1.1,((0:Int),())),()),())
theorem s230 (c163:F163) (c257:F257) (c164:F164) (y):TE [g163 c163,g257 c257,g164 c164] Tryz.f230 i230 o230 y=m230 c163 c257 c164 y:=by kernel_rfl
noncomputable def r230:F230:=m230 r163 r257 r164
theorem k230:KO (g230 r230):=fk (s230 r163 r257 r164) ⟨k163,k257,k164,⟨⟩⟩ (by kernel_rfl)
abbrev i258:Ts:=[.v (.int .i64)]
abbrev o258:Ts:=[.v (.int .i64)]
abbrev R258:=Option (PTup o258×BTup i258)
abbrev F258:=PTup i258→R258
abbrev g258:=mkG 258 i258 o258
noncomputable def m258 (y:PTup i258):R258:=
  let X0:R258:=bif (eqI y.1 3)then (bif (eqI y.1 3)then (some (((2:Int),()),()))else some (((0:Int),()),()))else bif (eqI y.1 15)then (some (((2:Int),()),()))else some (((0:Int),()),());bif (eqI y.1 2)then (bif (eqI y.1 2)then (some (((1:Int),()),()))else X0)else bif (eqI y.1 14)then (bif (eqI y.1 14)then (some (((1:Int),()),()))else X0)else bif (eqI y.1 29)then (some (((1:Int),()),()))else X0
theorem s258 (y):TE [] Tryz.f258 i258 o258 y=m258 y:=by kernel_rfl
noncomputable def r258:F258:=m258
theorem k258:KO (g258 r258):=fk (s258) trivial (by kernel_rfl)
abbrev i231:Ts:=[.a q8, .a q4]
abbrev o231:Ts:=[.v (.int .i64), .v (.int .i64), .v (.int .i64)]
abbrev R231:=Option (PTup o231×BTup i231)
abbrev F231:=PTup i231→R231
abbrev g231:=mkG 231 i231 o231
noncomputable def m231 (c223:F223) (c215:F215) (c258:F258) (y:PTup i231):R231:=
  (c258 (y.1.1,())).bind fun r0=>let X0:R231:=bif (eqI r0.1.1 1)then ((c223 ((wI (y.1.2.1+y.2.1.2.1)),())).bind fun r1=>some ((r0.1.1,(r1.1.1,((0:Int),()))),()))else (c223 ((wI (y.1.2.1+y.2.1.2.1)),())).bind fun r1=>(c215 (y.2.1.1,())).bind fun r2=>some ((r0.1.1,(r1.1.1,r2.1)),());bif (eqI r0.1.1 0)then (some (((0:Int),((0:Int),((0:Int),()))),()))else bif (eqI y.1.1 14)then X0 else bif (eqI y.1.1 15)then X0 else bif (eqI r0.1.1 1)then ((c223 y.1.2).bind fun r1=>some ((r0.1.1,(r1.1.1,((0:Int),()))),()))else (c223 y.1.2).bind fun r1=>(c215 (y.2.1.1,())).bind fun r2=>some ((r0.1.1,(r1.1.1,r2.1)),())
theorem s231 (c223:F223) (c215:F215) (c258:F258) (y):TE [g223 c223,g215 c215,g258 c258] Tryz.f231 i231 o231 y=m231 c223 c215 c258 y:=by kernel_rfl
noncomputable def r231:F231:=m231 r223 r215 r258
theorem k231:KO (g231 r231):=fk (s231 r223 r215 r258) ⟨k223,k215,k258,⟨⟩⟩ (by kernel_rfl)
abbrev i233:Ts:=[.v (.int .i64)]
abbrev o233:Ts:=[.v (.int .i64)]
abbrev F233:=FT i233 o233
abbrev g233:=mkG 233 i233 o233
noncomputable def m233 (c116:F116) (y:PTup i233):Option (PTup o233×BTup i233):=
  (c116 (y.1,((0:Int),((29:Int),())))).bind fun r0=>
  bif (!r0.1.1)then (some (((2:Int),()),()))
  else bif (leI 0 y.1)then (bif (ltI y.1 (lenI ((2:Int)::((2:Int)::((4:Int)::((4:Int)::((2:Int)::((2:Int)::((2:Int)::((2:Int)::((2:Int)::((2:Int)::((2:Int)::((2:Int)::((2:Int)::((2:Int)::((4:Int)::((5:Int)::((3:Int)::((3:Int)::((3:Int)::((3:Int)::((6:Int)::((6:Int)::((3:Int)::((4:Int)::((6:Int)::((2:Int)::((2:Int)::((2:Int)::((2:Int)::((4:Int)::[]))))))))))))))))))))))))))))))))then (some (((rdE .i ((2:Int)::((2:Int)::((4:Int)::((4:Int)::((2:Int)::((2:Int)::((2:Int)::((2:Int)::((2:Int)::((2:Int)::((2:Int)::((2:Int)::((2:Int)::((2:Int)::((4:Int)::((5:Int)::((3:Int)::((3:Int)::((3:Int)::((3:Int)::((6:Int)::((6:Int)::((3:Int)::((4:Int)::((6:Int)::((2:Int)::((2:Int)::((2:Int)::((2:Int)::((4:Int)::[])))))))))))))))))))))))))))))) y.1),()),()))
   else none)
  else none
theorem s233 (c116:F116) (y):TE [g116 c116] Tryz.f233 i233 o233 y=m233 c116 y:=by kernel_rfl
noncomputable def r233:F233:=m233 r116
theorem k233:KO (g233 r233):=fk (s233 r116) ⟨k116,⟨⟩⟩ (by kernel_rfl)
abbrev i63:Ts:=[.v (.bool)]
abbrev o63:Ts:=[.v (.int .i64)]
abbrev F63:=FT i63 o63
abbrev g63:=mkG 63 i63 o63
noncomputable def m63 (y:PTup i63):Option (PTup o63×BTup i63):=
  bif y.1 then (some (((1:Int),()),()))
  else some (((0:Int),()),())
theorem s63 (y):TE [] Tryz.f63 i63 o63 y=m63 y:=by kernel_rfl
noncomputable def r63:F63:=m63
theorem k63:KO (g63 r63):=fk (s63) trivial (by kernel_rfl)
abbrev i259:Ts:=[.a q4]
abbrev o259:Ts:=[.v (.int .i64)]
abbrev F259:=FT i259 o259
abbrev g259:=mkG 259 i259 o259
noncomputable def m259 (c63:F63) (y:PTup i259):Option (PTup o259×BTup i259):=
  (c63 (y.1.2.2.2.2.2.2.1,())).bind fun r0=>
  (c63 (y.1.2.2.2.2.1,())).bind fun r1=>
  (c63 y.1.2.2.2.2.2.2.2).bind fun r2=>
  (c63 (y.1.2.2.2.2.2.1,())).bind fun r3=>
  some (((wI ((wI ((wI (r0.1.1+(wI ((2:Int)*r1.1.1))))+(wI ((4:Int)*r2.1.1))))+(wI ((128:Int)*r3.1.1)))),()),())
theorem s259 (c63:F63) (y):TE [g63 c63] Tryz.f259 i259 o259 y=m259 c63 y:=by kernel_rfl
noncomputable def r259:F259:=m259 r63
theorem k259:KO (g259 r259):=fk (s259 r63) ⟨k63,⟨⟩⟩ (by kernel_rfl)
abbrev i260:Ts:=[.a q3, .a q4, .v (.int .i64)]
abbrev o260:Ts:=[.a q2, .a q4]
abbrev F260:=FT i260 o260
abbrev g260:=mkG 260 i260 o260
noncomputable def m260 (c215:F215) (c139:F139) (y:PTup i260):Option (PTup o260×BTup i260):=
  (c139 (y.1,())).bind fun r0=>
  bif (neI (lenI y.1.1) 512)then (some ((r0.1.1,(y.2.1,())),()))
  else (c215 (y.2.1.2.2.1,())).bind fun r1=>
  (c215 y.2.2).bind fun r2=>
  bif (leI 0 (wI ((256:Int)+r1.1.1)))then (bif (ltI (wI ((256:Int)+r1.1.1)) (lenI r0.1.1.1))then ((c215 ((wI (y.2.1.2.2.1-1)),())).bind fun r3=>
    some ((((List.set r0.1.1.1 (Int.toNat (wI ((256:Int)+r1.1.1))) r2.1.1),r0.1.1.2),((y.2.1.1,(y.2.1.2.1,(r3.1.1,y.2.1.2.2.2))),())),()))
   else none)
  else none
theorem s260 (c215:F215) (c139:F139) (y):TE [g215 c215,g139 c139] Tryz.f260 i260 o260 y=m260 c215 c139 y:=by kernel_rfl
noncomputable def r260:F260:=m260 r215 r139
theorem k260:KO (g260 r260):=fk (s260 r215 r139) ⟨k215,k139,⟨⟩⟩ (by kernel_rfl)
abbrev i234:Ts:=[.a q1, .a q3, .a q4, .v (.int .i64)]
abbrev o234:Ts:=[.a q2, .a q4]
abbrev F234:=FT i234 o234
abbrev g234:=mkG 234 i234 o234
noncomputable def m234 (c259:F259) (c163:F163) (c164:F164) (c260:F260) (c139:F139) (y:PTup i234):Option (PTup o234×BTup i234):=
  (c139 (y.2.1,())).bind fun r0=>
  (c259 (y.2.2.1,())).bind fun r1=>
  (c260 (r0.1.1,(y.2.2.1,((Int.fdiv y.2.2.1.2.2.2.1 ((2:Int)^(Min.min (Int.toNat (8:Int)) (64:Nat)))),())))).bind fun r2=>
  (c260 (r2.1.1,(r2.1.2.1,(r2.1.2.1.2.2.2.1,())))).bind fun r3=>
  (c260 (r3.1.1,(r3.1.2.1,r1.1))).bind fun r4=>
  (c164 (y.1,(r4.1.1,y.2.2.2))).bind fun r5=>
  (c164 (y.1,(r4.1.1,((wI (y.2.2.2.1+1)),())))).bind fun r6=>
  (c163 (r5.1.1,r6.1)).bind fun r7=>
  some ((r4.1.1,((r4.1.2.1.1,(r4.1.2.1.2.1,(r4.1.2.1.2.2.1,(r7.1.1,(r4.1.2.1.2.2.2.2.1,(r4.1.2.1.2.2.2.2.2.1,(r4.1.2.1.2.2.2.2.2.2.1,(true,())))))))),())),())
theorem s234 (c259:F259) (c163:F163) (c164:F164) (c260:F260) (c139:F139) (y):TE [g259 c259,g163 c163,g164 c164,g260 c260,g139 c139] Tryz.f234 i234 o234 y=m234 c259 c163 c164 c260 c139 y:=by kernel_rfl
noncomputable def r234:F234:=m234 r259 r163 r164 r260 r139
theorem k234:KO (g234 r234):=fk (s234 r259 r163 r164 r260 r139) ⟨k259,k163,k164,k260,k139,⟨⟩⟩ (by kernel_rfl)
abbrev i177:Ts:=[.a q6, .v (.int .i64)]
abbrev o177:Ts:=[.a q5, .v (.int .i64)]
abbrev F177:=FT i177 o177
abbrev g177:=mkG 177 i177 o177
noncomputable def m177 (c113:F113) (c63:F63) (c156:F156) (y:PTup i177):Option (PTup o177×BTup i177):=
  (c156 (y.1,())).bind fun r0=>
  (c113 (y.1,())).bind fun r1=>
  bif (!r1.1.1)then (some ((r0.1.1,((0:Int),())),()))
  else bif (eqI y.2.1 2)then ((c63 (y.1.2.2.2.2.2.1,())).bind fun r2=>
   some (((r0.1.1.1,(r0.1.1.2.1,(r0.1.1.2.2.1,(r0.1.1.2.2.2.1,(r0.1.1.2.2.2.2.1,(false,r0.1.1.2.2.2.2.2.2)))))),((wI ((128:Int)*r2.1.1)),())),()))
  else bif (eqI y.2.1 4)then (bif (leI 0 y.1.2.2.2.1)then (bif (ltI y.1.2.2.2.1 (lenI y.1.2.2.2.2.2.2.1))then (some (((r0.1.1.1,(r0.1.1.2.1,(r0.1.1.2.2.1,((Int.tmod (wI (y.1.2.2.2.1+1)) (16:Int)),r0.1.1.2.2.2.2)))),((rdE .i y.1.2.2.2.2.2.2.1 y.1.2.2.2.1),())),()))
    else none)
   else none)
  else some ((r0.1.1,((0:Int),())),())
theorem s177 (c113:F113) (c63:F63) (c156:F156) (y):TE [g113 c113,g63 c63,g156 c156] Tryz.f177 i177 o177 y=m177 c113 c63 c156 y:=by kernel_rfl
noncomputable def r177:F177:=m177 r113 r63 r156
theorem k177:KO (g177 r177):=fk (s177 r113 r63 r156) ⟨k113,k63,k156,⟨⟩⟩ (by kernel_rfl)
abbrev i178:Ts:=[.a q7, .v (.int .i64)]
abbrev o178:Ts:=[.a q7, .v (.int .i64)]
abbrev F178:=FT i178 o178
abbrev g178:=mkG 178 i178 o178
noncomputable def m178 (c114:F114) (c63:F63) (y:PTup i178):Option (PTup o178×BTup i178):=
  (c114 (y.1,())).bind fun r0=>
  bif (!r0.1.1)then (some ((y.1,((0:Int),())),()))
  else bif (neI y.2.1 2)then (some ((y.1,((0:Int),())),()))
  else (c63 y.1.2.2.2.2.2.2).bind fun r1=>
  (c63 ((ltI 0 y.1.2.2.2.2.1),())).bind fun r2=>
  some (((y.1.1,(y.1.2.1,(y.1.2.2.1,(y.1.2.2.2.1,(y.1.2.2.2.2.1,(y.1.2.2.2.2.2.1,(false,()))))))),((wI ((wI ((128:Int)*r1.1.1))+r2.1.1)),())),())
theorem s178 (c114:F114) (c63:F63) (y):TE [g114 c114,g63 c63] Tryz.f178 i178 o178 y=m178 c114 c63 y:=by kernel_rfl
noncomputable def r178:F178:=m178 r114 r63
theorem k178:KO (g178 r178):=fk (s178 r114 r63) ⟨k114,k63,⟨⟩⟩ (by kernel_rfl)
abbrev i256:Ts:=[.v (.int .i64)]
abbrev o256:Ts:=[.v (.int .i64)]
abbrev F256:=FT i256 o256
abbrev g256:=mkG 256 i256 o256
noncomputable def m256 (c265:F265) (y:PTup i256):Option (PTup o256×BTup i256):=
  (c265 (y.1,((0:Int),()))).bind fun r0=>
  some (((wI (Int.tdiv r0.1.1 64)),()),())
theorem s256 (c265:F265) (y):TE [g265 c265] Tryz.f256 i256 o256 y=m256 c265 y:=by kernel_rfl
noncomputable def r256:F256:=m256 r265
theorem k256:KO (g256 r256):=fk (s256 r265) ⟨k265,⟨⟩⟩ (by kernel_rfl)
abbrev i224:Ts:=[.v (.sl false .i), .v (.int .i64)]
abbrev o224:Ts:=[.v (.int .i64)]
abbrev F224:=FT i224 o224
abbrev g224:=mkG 224 i224 o224
noncomputable def m224 (c256:F256) (c110:F110) (y:PTup i224):Option (PTup o224×BTup i224):=
  (c110 (y.1,())).bind fun r0=>
  bif (!r0.1.1)then (some (((0:Int),()),()))
  else bif (eqI (lenI y.1) 0)then (some (((0:Int),()),()))
  else (c256 y.2).bind fun r1=>
  bif (neI (lenI y.1) 0)then (bif (leI 0 (Int.tmod r1.1.1 (lenI y.1)))then (bif (ltI (Int.tmod r1.1.1 (lenI y.1)) (lenI y.1))then (some (((rdE .i y.1 (Int.tmod r1.1.1 (lenI y.1))),()),()))
    else none)
   else none)
  else none
theorem s224 (c256:F256) (c110:F110) (y):TE [g256 c256,g110 c110] Tryz.f224 i224 o224 y=m224 c256 c110 y:=by kernel_rfl
noncomputable def r224:F224:=m224 r256 r110
theorem k224:KO (g224 r224):=fk (s224 r256 r110) ⟨k256,k110,⟨⟩⟩ (by kernel_rfl)
abbrev i179:Ts:=[.a [.bool, .int .i64], .v (.sl false .i), .v (.int .i64)]
abbrev o179:Ts:=[.a [.bool, .int .i64], .v (.int .i64)]
abbrev F179:=FT i179 o179
abbrev g179:=mkG 179 i179 o179
noncomputable def m179 (c224:F224) (y:PTup i179):Option (PTup o179×BTup i179):=
  bif y.1.1 then ((c224 y.2).bind fun r0=>
   some (((y.1.1,r0.1),((bAnd Go.IntKind.i64 r0.1.1 (1:Int)),())),()))
  else some (((y.1.1,((Int.fdiv y.1.2.1 ((2:Int)^(Min.min (Int.toNat (1:Int)) (64:Nat)))),())),((bAnd Go.IntKind.i64 y.1.2.1 (1:Int)),())),())
theorem s179 (c224:F224) (y):TE [g224 c224] Tryz.f179 i179 o179 y=m179 c224 y:=by kernel_rfl
noncomputable def r179:F179:=m179 r224
theorem k179:KO (g179 r179):=fk (s179 r224) ⟨k224,⟨⟩⟩ (by kernel_rfl)
abbrev i190:Ts:=[.a [.bool, .int .i64], .v (.sl false .i), .v (.int .i64), .v (.int .i64)]
abbrev o190:Ts:=[.a [.bool, .int .i64]]
abbrev F190:=FT i190 o190
abbrev g190:=mkG 190 i190 o190
noncomputable def m190 (c224:F224) (y:PTup i190):Option (PTup o190×BTup i190):=
  bif y.1.1 then ((c224 (y.2.1,(y.2.2.1,()))).bind fun r0=>
   some ((((eqI (bAnd Go.IntKind.i64 y.2.2.2.1 (1:Int)) (1:Int)),r0.1),()),()))
  else bif (eqI (bAnd Go.IntKind.i64 y.2.2.2.1 (1:Int)) (1:Int))then ((c224 (y.2.1,(y.2.2.1,()))).bind fun r0=>
   some ((((eqI (bAnd Go.IntKind.i64 y.2.2.2.1 (1:Int)) (1:Int)),r0.1),()),()))
  else some ((((eqI (bAnd Go.IntKind.i64 y.2.2.2.1 (1:Int)) (1:Int)),y.1.2),()),())
theorem s190 (c224:F224) (y):TE [g224 c224] Tryz.f190 i190 o190 y=m190 c224 y:=by kernel_rfl
noncomputable def r190:F190:=m190 r224
theorem k190:KO (g190 r190):=fk (s190 r224) ⟨k224,⟨⟩⟩ (by kernel_rfl)
abbrev i191:Ts:=[.a q1, .a q3, .v (.int .i64), .v (.int .i64)]
abbrev o191:Ts:=[.a q2]
abbrev R191:=Option (PTup o191×BTup i191)
abbrev F191:=PTup i191→R191
abbrev g191:=mkG 191 i191 o191
noncomputable def m191 (c215:F215) (c111:F111) (c176:F176) (c139:F139) (y:PTup i191):R191:=
  (c139 (y.2.1,())).bind fun r0=>let X0:R191:=(c215 y.2.2.2).bind fun r3=>bif (neI (lenI y.1.1) 0)then (some (((r0.1.1.1,((Int.tmod r3.1.1 (lenI y.1.1)),())),()),()))else none;(c111 (y.1,(y.2.1,()))).bind fun r1=>bif (!r1.1.1)then (some ((r0.1.1,()),()))else (c176 (y.2.2.1,())).bind fun r2=>bif (eqI r2.1.1 1)then ((c215 y.2.2.2).bind fun r3=>bif (leI 0 r2.1.2.1)then (bif (ltI r2.1.2.1 (lenI r0.1.1.1))then (some ((((List.set r0.1.1.1 (Int.toNat r2.1.2.1) r3.1.1),r0.1.1.2),()),()))else none)else none)else bif (eqI r2.1.1 5)then (bif (eqI r2.1.1 5)then X0 else some ((r0.1.1,()),()))else bif (eqI r2.1.1 6)then X0 else some ((r0.1.1,()),())
theorem s191 (c215:F215) (c111:F111) (c176:F176) (c139:F139) (y):TE [g215 c215,g111 c111,g176 c176,g139 c139] Tryz.f191 i191 o191 y=m191 c215 c111 c176 c139 y:=by kernel_rfl
noncomputable def r191:F191:=m191 r215 r111 r176 r139
theorem k191:KO (g191 r191):=fk (s191 r215 r111 r176 r139) ⟨k215,k111,k176,k139,⟨⟩⟩ (by kernel_rfl)
abbrev i278:Ts:=[.v (.int .i64)]
abbrev o278:Ts:=[.v (.bool), .v (.bool)]
abbrev F278:=FT i278 o278
abbrev g278:=mkG 278 i278 o278
noncomputable def m278 (c215:F215) (y:PTup i278):Option (PTup o278×BTup i278):=
  (c215 y).bind fun r0=>
  (c215 y).bind fun r1=>
  some (((eqI r0.1.1 0),((ltI 127 r1.1.1),())),())
theorem s278 (c215:F215) (y):TE [g215 c215] Tryz.f278 i278 o278 y=m278 c215 y:=by kernel_rfl
noncomputable def r278:F278:=m278 r215
theorem k278:KO (g278 r278):=fk (s278 r215) ⟨k215,⟨⟩⟩ (by kernel_rfl)
abbrev i264:Ts:=[.a q4, .v (.int .i64)]
abbrev o264:Ts:=[.a q4]
abbrev F264:=FT i264 o264
abbrev g264:=mkG 264 i264 o264
noncomputable def m264 (c215:F215) (c278:F278) (y:PTup i264):Option (PTup o264×BTup i264):=
  (c215 y.2).bind fun r0=>
  (c278 y.2).bind fun r1=>
  some (((r0.1.1,(y.1.2.1,(y.1.2.2.1,(y.1.2.2.2.1,(r1.1.1,(r1.1.2.1,y.1.2.2.2.2.2.2)))))),()),())
theorem s264 (c215:F215) (c278:F278) (y):TE [g215 c215,g278 c278] Tryz.f264 i264 o264 y=m264 c215 c278 y:=by kernel_rfl
noncomputable def r264:F264:=m264 r215 r278
theorem k264:KO (g264 r264):=fk (s264 r215 r278) ⟨k215,k278,⟨⟩⟩ (by kernel_rfl)
abbrev i282:Ts:=[.v (.int .i64), .v (.int .i64), .v (.bool)]
abbrev o282:Ts:=[.v (.int .i64), .v (.bool)]
abbrev F282:=FT i282 o282
abbrev g282:=mkG 282 i282 o282
noncomputable def m282 (c215:F215) (c63:F63) (y:PTup i282):Option (PTup o282×BTup i282):=
  (c215 (y.1,())).bind fun r0=>
  (c215 (y.2.1,())).bind fun r1=>
  (c63 y.2.2).bind fun r2=>
  (c215 ((wI ((wI (r0.1.1+r1.1.1))+r2.1.1)),())).bind fun r3=>
  some ((r3.1.1,((ltI 255 (wI ((wI (r0.1.1+r1.1.1))+r2.1.1))),())),())
theorem s282 (c215:F215) (c63:F63) (y):TE [g215 c215,g63 c63] Tryz.f282 i282 o282 y=m282 c215 c63 y:=by kernel_rfl
noncomputable def r282:F282:=m282 r215 r63
theorem k282:KO (g282 r282):=fk (s282 r215 r63) ⟨k215,k63,⟨⟩⟩ (by kernel_rfl)
abbrev i276:Ts:=[.a q4, .v (.int .i64)]
abbrev o276:Ts:=[.a q4]
abbrev F276:=FT i276 o276
abbrev g276:=mkG 276 i276 o276
noncomputable def m276 (c282:F282) (c264:F264) (y:PTup i276):Option (PTup o276×BTup i276):=
  (c282 (y.1.1,(y.2.1,(y.1.2.2.2.2.2.2.1,())))).bind fun r0=>
  (c264 (y.1,(r0.1.1,()))).bind fun r1=>
  some (((r1.1.1.1,(r1.1.1.2.1,(r1.1.1.2.2.1,(r1.1.1.2.2.2.1,(r1.1.1.2.2.2.2.1,(r1.1.1.2.2.2.2.2.1,(r0.1.2.1,r1.1.1.2.2.2.2.2.2.2))))))),()),())
theorem s276 (c282:F282) (c264:F264) (y):TE [g282 c282,g264 c264] Tryz.f276 i276 o276 y=m276 c282 c264 y:=by kernel_rfl
noncomputable def r276:F276:=m276 r282 r264
theorem k276:KO (g276 r276):=fk (s276 r282 r264) ⟨k282,k264,⟨⟩⟩ (by kernel_rfl)
abbrev i277:Ts:=[.v (.int .i64), .v (.int .i64), .v (.bool)]
abbrev o277:Ts:=[.v (.int .i64), .v (.bool)]
abbrev F277:=FT i277 o277
abbrev g277:=mkG 277 i277 o277
noncomputable def m277 (c215:F215) (c63:F63) (y:PTup i277):Option (PTup o277×BTup i277):=
  (c215 (y.1,())).bind fun r0=>
  (c215 (y.2.1,())).bind fun r1=>
  (c63 y.2.2).bind fun r2=>
  (c215 ((wI ((wI ((wI (r0.1.1-r1.1.1))-1))+r2.1.1)),())).bind fun r3=>
  some ((r3.1.1,((leI 0 (wI ((wI ((wI (r0.1.1-r1.1.1))-1))+r2.1.1))),())),())
theorem s277 (c215:F215) (c63:F63) (y):TE [g215 c215,g63 c63] Tryz.f277 i277 o277 y=m277 c215 c63 y:=by kernel_rfl
noncomputable def r277:F277:=m277 r215 r63
theorem k277:KO (g277 r277):=fk (s277 r215 r63) ⟨k215,k63,⟨⟩⟩ (by kernel_rfl)
abbrev i279:Ts:=[.a q4, .v (.int .i64)]
abbrev o279:Ts:=[.a q4]
abbrev F279:=FT i279 o279
abbrev g279:=mkG 279 i279 o279
noncomputable def m279 (c215:F215) (c278:F278) (y:PTup i279):Option (PTup o279×BTup i279):=
  (c215 y.2).bind fun r0=>
  (c278 y.2).bind fun r1=>
  some (((y.1.1,(r0.1.1,(y.1.2.2.1,(y.1.2.2.2.1,(r1.1.1,(r1.1.2.1,y.1.2.2.2.2.2.2)))))),()),())
theorem s279 (c215:F215) (c278:F278) (y):TE [g215 c215,g278 c278] Tryz.f279 i279 o279 y=m279 c215 c278 y:=by kernel_rfl
noncomputable def r279:F279:=m279 r215 r278
theorem k279:KO (g279 r279):=fk (s279 r215 r278) ⟨k215,k278,⟨⟩⟩ (by kernel_rfl)
abbrev i261:Ts:=[.a q4, .a q8, .v (.int .i64)]
abbrev o261:Ts:=[.a q4, .v (.bool)]
abbrev R261:=Option (PTup o261×BTup i261)
abbrev F261:=PTup i261→R261
abbrev g261:=mkG 261 i261 o261
noncomputable def m261 (c215:F215) (c264:F264) (c279:F279) (c278:F278) (c277:F277) (c276:F276) (y:PTup i261):R261:=
  let X0:R261:=bif (eqI y.2.1.1 4)then ((c276 (y.1,y.2.1.2)).bind fun r0=>some ((r0.1.1,(true,())),()))else bif (eqI y.2.1.1 29)then ((c276 (y.1,y.2.2)).bind fun r0=>some ((r0.1.1,(true,())),()))else bif (eqI y.2.1.1 5)then ((c277 (y.1.1,(y.2.1.2.1,(y.1.2.2.2.2.2.2.1,())))).bind fun r0=>(c264 (y.1,(r0.1.1,()))).bind fun r1=>some (((r1.1.1.1,(r1.1.1.2.1,(r1.1.1.2.2.1,(r1.1.1.2.2.2.1,(r1.1.1.2.2.2.2.1,(r1.1.1.2.2.2.2.2.1,(r0.1.2.1,r1.1.1.2.2.2.2.2.2.2))))))),(true,())),()))else bif (eqI y.2.1.1 6)then ((c215 (y.1.1,())).bind fun r0=>(c215 y.2.1.2).bind fun r1=>(c264 (y.1,((bAnd Go.IntKind.i64 r0.1.1 r1.1.1),()))).bind fun r2=>some ((r2.1.1,(true,())),()))else bif (eqI y.2.1.1 7)then ((c215 (y.1.1,())).bind fun r0=>(c215 y.2.1.2).bind fun r1=>(c264 (y.1,((bOr Go.IntKind.i64 r0.1.1 r1.1.1),()))).bind fun r2=>some ((r2.1.1,(true,())),()))else bif (eqI y.2.1.1 8)then ((c215 (y.1.1,())).bind fun r0=>(c215 y.2.1.2).bind fun r1=>(c264 (y.1,((bXor Go.IntKind.i64 r0.1.1 r1.1.1),()))).bind fun r2=>some ((r2.1.1,(true,())),()))else bif (eqI y.2.1.1 9)then ((c215 (y.1.1,())).bind fun r0=>(c215 y.2.1.2).bind fun r1=>(c278 ((wI (r0.1.1-r1.1.1)),())).bind fun r2=>(c215 (y.1.1,())).bind fun r3=>(c215 y.2.1.2).bind fun r4=>some (((y.1.1,(y.1.2.1,(y.1.2.2.1,(y.1.2.2.2.1,(r2.1.1,(r2.1.2.1,((leI r4.1.1 r3.1.1),y.1.2.2.2.2.2.2.2))))))),(true,())),()))else bif (eqI y.2.1.1 10)then ((c279 (y.1,(y.1.1,()))).bind fun r0=>some ((r0.1.1,(true,())),()))else bif (eqI y.2.1.1 11)then ((c264 (y.1,(y.1.2.1,()))).bind fun r0=>some ((r0.1.1,(true,())),()))else bif (eqI y.2.1.1 12)then ((c215 (y.1.2.1,())).bind fun r0=>(c279 (y.1,((wI (r0.1.1+1)),()))).bind fun r1=>some ((r1.1.1,(true,())),()))else bif (eqI y.2.1.1 13)then ((c215 (y.1.2.1,())).bind fun r0=>(c279 (y.1,((wI (r0.1.1-1)),()))).bind fun r1=>some ((r1.1.1,(true,())),()))else some ((y.1,(false,())),());bif (eqI y.2.1.1 1)then ((c264 (y.1,y.2.1.2)).bind fun r0=>some ((r0.1.1,(true,())),()))else bif (eqI y.2.1.1 2)then (bif (eqI y.2.1.1 2)then ((c264 (y.1,y.2.2)).bind fun r0=>some ((r0.1.1,(true,())),()))else X0)else bif (eqI y.2.1.1 14)then ((c264 (y.1,y.2.2)).bind fun r0=>some ((r0.1.1,(true,())),()))else X0
theorem s261 (c215:F215) (c264:F264) (c279:F279) (c278:F278) (c277:F277) (c276:F276) (y):TE [g215 c215,g264 c264,g279 c279,g278 c278,g277 c277,g276 c276] Tryz.f261 i261 o261 y=m261 c215 c264 c279 c278 c277 c276 y:=by kernel_rfl
noncomputable def r261:F261:=m261 r215 r264 r279 r278 r277 r276
theorem k261:KO (g261 r261):=fk (s261 r215 r264 r279 r278 r277 r276) ⟨k215,k264,k279,k278,k277,k276,⟨⟩⟩ (by kernel_rfl)
abbrev i263:Ts:=[.a q3, .a q4]
abbrev o263:Ts:=[.a q4, .v (.int .i64)]
abbrev F263:=FT i263 o263
abbrev g263:=mkG 263 i263 o263
noncomputable def m263 (c215:F215) (y:PTup i263):Option (PTup o263×BTup i263):=
  bif (neI (lenI y.1.1) 512)then (some ((y.2.1,((0:Int),())),()))
  else (c215 ((wI (y.2.1.2.2.1+1)),())).bind fun r0=>
  bif (leI 0 (wI ((256:Int)+r0.1.1)))then (bif (ltI (wI ((256:Int)+r0.1.1)) (lenI y.1.1))then ((c215 ((rdE .i y.1.1 (wI ((256:Int)+r0.1.1))),())).bind fun r1=>
    some (((y.2.1.1,(y.2.1.2.1,(r0.1.1,y.2.1.2.2.2))),r1.1),()))
   else none)
  else none
theorem s263 (c215:F215) (y):TE [g215 c215] Tryz.f263 i263 o263 y=m263 c215 y:=by kernel_rfl
noncomputable def r263:F263:=m263 r215
theorem k263:KO (g263 r263):=fk (s263 r215) ⟨k215,⟨⟩⟩ (by kernel_rfl)
abbrev i262:Ts:=[.a q3, .a q4]
abbrev o262:Ts:=[.a q4]
abbrev F262:=FT i262 o262
abbrev g262:=mkG 262 i262 o262
noncomputable def m262 (c163:F163) (c263:F263) (y:PTup i262):Option (PTup o262×BTup i262):=
  (c263 (y.1,(y.2.1,()))).bind fun r0=>
  (c263 (y.1,(r0.1.1,()))).bind fun r1=>
  (c163 (r0.1.2.1,r1.1.2)).bind fun r2=>
  some (((r1.1.1.1,(r1.1.1.2.1,(r1.1.1.2.2.1,(r2.1.1,r1.1.1.2.2.2.2)))),()),())
theorem s262 (c163:F163) (c263:F263) (y):TE [g163 c163,g263 c263] Tryz.f262 i262 o262 y=m262 c163 c263 y:=by kernel_rfl
noncomputable def r262:F262:=m262 r163 r263
theorem k262:KO (g262 r262):=fk (s262 r163 r263) ⟨k163,k263,⟨⟩⟩ (by kernel_rfl)
abbrev i251:Ts:=[.a q4, .v (.int .i64)]
abbrev o251:Ts:=[.a q4]
abbrev F251:=FT i251 o251
abbrev g251:=mkG 251 i251 o251
noncomputable def m251 (y:PTup i251):Option (PTup o251×BTup i251):=
  some (((y.1.1,(y.1.2.1,(y.1.2.2.1,(y.1.2.2.2.1,((neI (bAnd Go.IntKind.i64 y.2.1 (2:Int)) (0:Int)),((neI (bAnd Go.IntKind.i64 y.2.1 (128:Int)) (0:Int)),((neI (bAnd Go.IntKind.i64 y.2.1 (1:Int)) (0:Int)),((neI (bAnd Go.IntKind.i64 y.2.1 (4:Int)) (0:Int)),())))))))),()),())
theorem s251 (y):TE [] Tryz.f251 i251 o251 y=m251 y:=by kernel_rfl
noncomputable def r251:F251:=m251
theorem k251:KO (g251 r251):=fk (s251) trivial (by kernel_rfl)
abbrev i238:Ts:=[.a q3, .a q4, .a q8, .v (.int .i64)]
abbrev o238:Ts:=[.a q2, .a q4]
abbrev R238:=Option (PTup o238×BTup i238)
abbrev F238:=PTup i238→R238
abbrev g238:=mkG 238 i238 o238
noncomputable def m238 (c223:F223) (c257:F257) (c263:F263) (c260:F260) (c264:F264) (c251:F251) (c139:F139) (c261:F261) (c262:F262) (y:PTup i238):R238:=
  let a0:=y.2;let a1:=a0.1;let a2:=a0.2;let a3:=a1.1;let a4:=a1.2;let a5:=a2.1;let a6:=a4.1;let a7:=a4.2;let a8:=a5.1;let a9:=a7.1;let a10:=a7.2;let a11:=a10.2;let a12:=a11.2;(c139 (y.1,())).bind fun r0=>let X0:R238:=(c223 a5.2).bind fun r4=>some ((r0.1.1,((a3,(a6,(a9,(r4.1.1,a11)))),())),());(c257 (a8,())).bind fun r1=>(c223 ((wI (a10.1+r1.1.1)),())).bind fun r2=>let X1:R238:=bif (eqI a8 20)then ((c260 (r0.1.1,((a3,(a6,(a9,(r2.1.1,a11)))),((Int.fdiv r2.1.1 ((2:Int)^(Min.min (Int.toNat (8:Int)) (64:Nat)))),())))).bind fun r4=>(c260 (r4.1.1,(r4.1.2.1,(r4.1.2.1.2.2.2.1,())))).bind fun r5=>(c223 a5.2).bind fun r6=>some ((r5.1.1,((r5.1.2.1.1,(r5.1.2.1.2.1,(r5.1.2.1.2.2.1,(r6.1.1,r5.1.2.1.2.2.2.2)))),())),()))else bif (eqI a8 21)then ((c262 (y.1,((a3,(a6,(a9,(r2.1.1,a11)))),()))).bind fun r4=>some ((r0.1.1,(r4.1.1,())),()))else bif (eqI a8 22)then ((c260 (r0.1.1,((a3,(a6,(a9,(r2.1.1,a11)))),(a3,())))).bind fun r4=>some ((r4.1.1,(r4.1.2.1,())),()))else bif (eqI a8 23)then ((c263 (y.1,((a3,(a6,(a9,(r2.1.1,a11)))),()))).bind fun r4=>(c264 r4.1).bind fun r5=>some ((r0.1.1,(r5.1.1,())),()))else bif (eqI a8 24)then ((c263 (y.1,((a3,(a6,(a9,(r2.1.1,a11)))),()))).bind fun r4=>(c251 r4.1).bind fun r5=>(c262 (y.1,(r5.1.1,()))).bind fun r6=>some ((r0.1.1,(r6.1.1,())),()))else bif (eqI a8 25)then (bif (eqI a8 25)then (some ((r0.1.1,((a3,(a6,(a9,(r2.1.1,(a11.1,(a12.1,(a12.2.1,((eqI a8 25),())))))))),())),()))else bif (eqI a8 27)then (bif (eqI a8 27)then (some ((r0.1.1,((a3,(a6,(a9,(r2.1.1,(a11.1,(a12.1,((eqI a8 27),a12.2.2))))))),())),()))else some ((r0.1.1,((a3,(a6,(a9,(r2.1.1,a11)))),())),()))else bif (eqI a8 28)then (some ((r0.1.1,((a3,(a6,(a9,(r2.1.1,(a11.1,(a12.1,((eqI a8 27),a12.2.2))))))),())),()))else some ((r0.1.1,((a3,(a6,(a9,(r2.1.1,a11)))),())),()))else bif (eqI a8 26)then (some ((r0.1.1,((a3,(a6,(a9,(r2.1.1,(a11.1,(a12.1,(a12.2.1,((eqI a8 25),())))))))),())),()))else bif (eqI a8 27)then (bif (eqI a8 27)then (some ((r0.1.1,((a3,(a6,(a9,(r2.1.1,(a11.1,(a12.1,((eqI a8 27),a12.2.2))))))),())),()))else some ((r0.1.1,((a3,(a6,(a9,(r2.1.1,a11)))),())),()))else bif (eqI a8 28)then (some ((r0.1.1,((a3,(a6,(a9,(r2.1.1,(a11.1,(a12.1,((eqI a8 27),a12.2.2))))))),())),()))else some ((r0.1.1,((a3,(a6,(a9,(r2.1.1,a11)))),())),());let X2:R238:=bif (eqI a8 17)then (bif a11.1 then X0 else bif (eqI a8 18)then (bif a12.2.1 then X0 else bif (eqI a8 19)then X0 else some ((r0.1.1,((a3,(a6,(a9,(r2.1.1,a11)))),())),()))else bif (eqI a8 19)then X0 else some ((r0.1.1,((a3,(a6,(a9,(r2.1.1,a11)))),())),()))else bif (eqI a8 18)then (bif a12.2.1 then X0 else bif (eqI a8 19)then X0 else some ((r0.1.1,((a3,(a6,(a9,(r2.1.1,a11)))),())),()))else bif (eqI a8 19)then X0 else some ((r0.1.1,((a3,(a6,(a9,(r2.1.1,a11)))),())),());let X3:R238:=bif (eqI a8 16)then (bif (!a11.1)then X0 else X2)else X2;(c261 ((a3,(a6,(a9,(r2.1.1,a11)))),a2)).bind fun r3=>bif r3.1.2.1 then (some ((r0.1.1,(r3.1.1,())),()))else bif (eqI a8 16)then (bif (eqI a8 16)then X3 else X1)else bif (eqI a8 17)then (bif (eqI a8 17)then X3 else X1)else bif (eqI a8 18)then (bif (eqI a8 18)then X3 else X1)else bif (eqI a8 19)then X3 else X1
theorem s238 (c223:F223) (c257:F257) (c263:F263) (c260:F260) (c264:F264) (c251:F251) (c139:F139) (c261:F261) (c262:F262) (y):TE [g223 c223,g257 c257,g263 c263,g260 c260,g264 c264,g251 c251,g139 c139,g261 c261,g262 c262] Tryz.f238 i238 o238 y=m238 c223 c257 c263 c260 c264 c251 c139 c261 c262 y:=by kernel_rfl
noncomputable def r238:F238:=m238 r223 r257 r263 r260 r264 r251 r139 r261 r262
theorem k238:KO (g238 r238):=fk (s238 r223 r257 r263 r260 r264 r251 r139 r261 r262) ⟨k223,k257,k263,k260,k264,k251,k139,k261,k262,⟨⟩⟩ (by kernel_rfl)
abbrev i188:Ts:=[.a q6, .v (.int .i64), .v (.int .i64)]
abbrev o188:Ts:=[.a q5]
abbrev F188:=FT i188 o188
abbrev g188:=mkG 188 i188 o188
noncomputable def m188 (c215:F215) (c113:F113) (c156:F156) (y:PTup i188):Option (PTup o188×BTup i188):=
  (c156 (y.1,())).bind fun r0=>
  (c113 (y.1,())).bind fun r1=>
  bif (!r1.1.1)then (some ((r0.1.1,()),()))
  else (c215 y.2.2).bind fun r2=>
  bif (eqI y.2.1 0)then (some (((r0.1.1.1,(r2.1.1,r0.1.1.2.2)),()),()))
  else bif (eqI y.2.1 1)then (some (((r0.1.1.1,(r0.1.1.2.1,(r2.1.1,r0.1.1.2.2.2))),()),()))
  else bif (eqI y.2.1 3)then (some (((r0.1.1.1,(r0.1.1.2.1,(r0.1.1.2.2.1,((Int.tmod r2.1.1 16),r0.1.1.2.2.2.2)))),()),()))
  else bif (eqI y.2.1 4)then (bif (leI 0 y.1.2.2.2.1)then (bif (ltI y.1.2.2.2.1 (lenI r0.1.1.2.2.2.2.2.2.1))then (some (((r0.1.1.1,(r0.1.1.2.1,(r0.1.1.2.2.1,((Int.tmod (wI (y.1.2.2.2.1+1)) (16:Int)),(r0.1.1.2.2.2.2.1,(r0.1.1.2.2.2.2.2.1,((List.set r0.1.1.2.2.2.2.2.2.1 (Int.toNat y.1.2.2.2.1) (Int.tmod r2.1.1 64)),r0.1.1.2.2.2.2.2.2.2))))))),()),()))
    else none)
   else none)
  else bif (eqI y.2.1 5)then (some (((r0.1.1.1,(r0.1.1.2.1,(r0.1.1.2.2.1,(r0.1.1.2.2.2.1,((Int.tmod r2.1.1 64),r0.1.1.2.2.2.2.2))))),()),()))
  else some ((r0.1.1,()),())
theorem s188 (c215:F215) (c113:F113) (c156:F156) (y):TE [g215 c215,g113 c113,g156 c156] Tryz.f188 i188 o188 y=m188 c215 c113 c156 y:=by kernel_rfl
noncomputable def r188:F188:=m188 r215 r113 r156
theorem k188:KO (g188 r188):=fk (s188 r215 r113 r156) ⟨k215,k113,k156,⟨⟩⟩ (by kernel_rfl)
abbrev i240:Ts:=[.a q6, .v (.int .i64)]
abbrev o240:Ts:=[.v (.int .i64)]
abbrev F240:=FT i240 o240
abbrev g240:=mkG 240 i240 o240
noncomputable def m240 (y:PTup i240):Option (PTup o240×BTup i240):=
  bif (leI 0 (Int.tmod (wI ((wI ((Int.tmod y.2.1 8)+y.1.2.2.1))+(wI (Int.tdiv y.2.1 8)))) (16:Int)))then (bif (ltI (Int.tmod (wI ((wI ((Int.tmod y.2.1 8)+y.1.2.2.1))+(wI (Int.tdiv y.2.1 8)))) (16:Int)) (lenI y.1.2.2.2.2.2.2.1))then (some (((bXor Go.IntKind.i64 (rdE .i y.1.2.2.2.2.2.2.1 (Int.tmod (wI ((wI ((Int.tmod y.2.1 8)+y.1.2.2.1))+(wI (Int.tdiv y.2.1 8)))) (16:Int))) y.1.2.2.2.2.1),()),()))
   else none)
  else none
theorem s240 (y):TE [] Tryz.f240 i240 o240 y=m240 y:=by kernel_rfl
noncomputable def r240:F240:=m240
theorem k240:KO (g240 r240):=fk (s240) trivial (by kernel_rfl)
abbrev i197:Ts:=[.a q6]
abbrev o197:Ts:=[.a q5, .v (.sl true .i), .v (.bool)]
abbrev F197:=FT i197 o197
abbrev g197:=mkG 197 i197 o197
noncomputable def m197 (c156:F156) (c240:F240) (y:PTup i197):Option (PTup o197×BTup i197):=
  (c156 (y.1,())).bind fun r0=>
  bif (eqI y.1.1 20000)then (some ((r0.1.1,([],(false,()))),()))
  else bif (ltI (Int.tmod y.1.1 64) (48:Int))then ((c240 (y.1,((Int.tmod y.1.1 64),()))).bind fun r1=>
   bif (leN ((List.length r0.1.1.2.2.2.2.2.2.2.1)+(List.length (r1.1.1::[]))) (E.most .i))then (some ((((wI (y.1.1+1)),(r0.1.1.2.1,(r0.1.1.2.2.1,(r0.1.1.2.2.2.1,(r0.1.1.2.2.2.2.1,(r0.1.1.2.2.2.2.2.1,(r0.1.1.2.2.2.2.2.2.1,((r0.1.1.2.2.2.2.2.2.2.1++(r1.1.1::[])),())))))))),([],(false,()))),()))
   else none)
  else bif (eqI (Int.tmod y.1.1 64) (48:Int))then (bif (leN (0+(List.length y.1.2.2.2.2.2.2.2.1)) (E.most .i))then (some ((((wI (y.1.1+1)),(r0.1.1.2.1,(r0.1.1.2.2.1,(r0.1.1.2.2.2.1,(r0.1.1.2.2.2.2.1,(true,(r0.1.1.2.2.2.2.2.2.1,([],())))))))),(([]++y.1.2.2.2.2.2.2.2.1),((ltI 127 y.1.2.1),()))),()))
   else none)
  else bif (eqI (Int.tmod y.1.1 64) (63:Int))then (some ((((wI (y.1.1+1)),(r0.1.1.2.1,(r0.1.1.2.2.1,(r0.1.1.2.2.2.1,(r0.1.1.2.2.2.2.1,(false,r0.1.1.2.2.2.2.2.2)))))),([],(false,()))),()))
  else some ((((wI (y.1.1+1)),r0.1.1.2),([],(false,()))),())
theorem s197 (c156:F156) (c240:F240) (y):TE [g156 c156,g240 c240] Tryz.f197 i197 o197 y=m197 c156 c240 y:=by kernel_rfl
noncomputable def r197:F197:=m197 r156 r240
theorem k197:KO (g197 r197):=fk (s197 r156 r240) ⟨k156,k240,⟨⟩⟩ (by kernel_rfl)
abbrev i189:Ts:=[.a q7, .v (.int .i64), .v (.int .i64)]
abbrev o189:Ts:=[.a q7]
abbrev F189:=FT i189 o189
abbrev g189:=mkG 189 i189 o189
noncomputable def m189 (c114:F114) (c215:F215) (y:PTup i189):Option (PTup o189×BTup i189):=
  (c114 (y.1,())).bind fun r0=>
  bif (!r0.1.1)then (some ((y.1,()),()))
  else (c215 y.2.2).bind fun r1=>
  bif (eqI y.2.1 0)then (some (((y.1.1,(r1.1.1,y.1.2.2)),()),()))
  else bif (eqI y.2.1 1)then (some (((y.1.1,(y.1.2.1,(y.1.2.2.1,(y.1.2.2.2.1,((Int.tmod r1.1.1 32),y.1.2.2.2.2.2))))),()),()))
  else bif (eqI y.2.1 2)then (bif y.1.2.2.2.2.2.2.1 then (some (((y.1.1,(y.1.2.1,(y.1.2.2.1,(y.1.2.2.2.1,(y.1.2.2.2.2.1,((eqI (Int.tmod r1.1.1 2) (1:Int)),((eqI (Int.tmod r1.1.1 2) (1:Int)),()))))))),()),()))
   else some (((y.1.1,(y.1.2.1,(y.1.2.2.1,(y.1.2.2.2.1,(y.1.2.2.2.2.1,((eqI (Int.tmod r1.1.1 2) (1:Int)),(false,()))))))),()),()))
  else bif (eqI y.2.1 3)then (some (((y.1.1,(y.1.2.1,(y.1.2.2.1,(y.1.2.2.2.1,(y.1.2.2.2.2.1,(y.1.2.2.2.2.2.1,(false,()))))))),()),()))
  else some ((y.1,()),())
theorem s189 (c114:F114) (c215:F215) (y):TE [g114 c114,g215 c215] Tryz.f189 i189 o189 y=m189 c114 c215 y:=by kernel_rfl
noncomputable def r189:F189:=m189 r114 r215
theorem k189:KO (g189 r189):=fk (s189 r114 r215) ⟨k114,k215,⟨⟩⟩ (by kernel_rfl)
abbrev i198:Ts:=[.a q7]
abbrev o198:Ts:=[.a q7, .v (.int .i64), .v (.bool)]
abbrev R198:=Option (PTup o198×BTup i198)
abbrev F198:=PTup i198→R198
abbrev g198:=mkG 198 i198 o198
noncomputable def m198 (y:PTup i198):R198:=
  let a0:=y.1;let a1:=a0.1;let a2:=a0.2;let a3:=a2.1;let a4:=a2.2;let a5:=a4.1;let a6:=a4.2;let a7:=a6.1;let a8:=a6.2;let a9:=a8.1;let a10:=a8.2;let a11:=a10.1;let X0:R198:=bif (eqI (Int.tmod a1 16) (15:Int))then (bif (ltI 0 a9)then (some ((((wI (a1+1)),(a3,(a3,((wI ((1:Int)-a7)),a8)))),((wI ((8:Int)*(wI ((1:Int)-a7)))),((eqI (Int.tmod a1 16) (15:Int)),()))),()))else some ((((wI (a1+1)),(a3,(a3,((wI ((1:Int)-a7)),a8)))),((0:Int),((eqI (Int.tmod a1 16) (15:Int)),()))),()))else some ((((wI (a1+1)),(a3,(a3,((wI ((1:Int)-a7)),a8)))),((0:Int),((eqI (Int.tmod a1 16) (15:Int)),()))),());let X1:R198:=bif (eqI (Int.tmod a1 16) (15:Int))then (bif (ltI 0 a9)then (some ((((wI (a1+1)),(a3,((wI (a5-1)),a6))),((wI ((8:Int)*a7)),((eqI (Int.tmod a1 16) (15:Int)),()))),()))else some ((((wI (a1+1)),(a3,((wI (a5-1)),a6))),((0:Int),((eqI (Int.tmod a1 16) (15:Int)),()))),()))else some ((((wI (a1+1)),(a3,((wI (a5-1)),a6))),((0:Int),((eqI (Int.tmod a1 16) (15:Int)),()))),());let X2:R198:=bif (eqI (Int.tmod a1 16) (15:Int))then (bif (ltI 0 a9)then (some ((((wI (a1+1)),(a3,(a3,a6))),((wI ((8:Int)*a7)),((eqI (Int.tmod a1 16) (15:Int)),()))),()))else some ((((wI (a1+1)),(a3,(a3,a6))),((0:Int),((eqI (Int.tmod a1 16) (15:Int)),()))),()))else some ((((wI (a1+1)),(a3,(a3,a6))),((0:Int),((eqI (Int.tmod a1 16) (15:Int)),()))),());let X3:R198:=some ((((wI (a1+1)),(a3,((wI (a5-1)),(a7,((wI (a9-1)),(a11,(a11,()))))))),((0:Int),((eqI (Int.tmod a1 16) (15:Int)),()))),());let X4:R198:=some ((((wI (a1+1)),(a3,(a3,((wI ((1:Int)-a7)),((wI (a9-1)),(a11,(a11,()))))))),((0:Int),((eqI (Int.tmod a1 16) (15:Int)),()))),());let X5:R198:=some ((((wI (a1+1)),(a3,((wI (a5-1)),(a7,((wI (a9-1)),(a11,(false,()))))))),((0:Int),((eqI (Int.tmod a1 16) (15:Int)),()))),());let X6:R198:=some ((((wI (a1+1)),(a3,((wI (a5-1)),(a7,((wI (a9-1)),(a11,(true,()))))))),((0:Int),((eqI (Int.tmod a1 16) (15:Int)),()))),());let X7:R198:=some ((((wI (a1+1)),(a3,(a3,((wI ((1:Int)-a7)),((wI (a9-1)),(a11,(false,()))))))),((0:Int),((eqI (Int.tmod a1 16) (15:Int)),()))),());let X8:R198:=some ((((wI (a1+1)),(a3,(a3,((wI ((1:Int)-a7)),((wI (a9-1)),(a11,(true,()))))))),((0:Int),((eqI (Int.tmod a1 16) (15:Int)),()))),());let X9:R198:=some ((((wI (a1+1)),(a3,(a3,(a7,((wI (a9-1)),(a11,(a11,()))))))),((0:Int),((eqI (Int.tmod a1 16) (15:Int)),()))),());let X10:R198:=some ((((wI (a1+1)),(a3,(a3,(a7,((wI (a9-1)),(a11,(false,()))))))),((0:Int),((eqI (Int.tmod a1 16) (15:Int)),()))),());let X11:R198:=some ((((wI (a1+1)),(a3,(a3,(a7,((wI (a9-1)),(a11,(true,()))))))),((0:Int),((eqI (Int.tmod a1 16) (15:Int)),()))),());bif (eqI a1 20000)then (some ((a0,((0:Int),(false,()))),()))else bif (eqI a5 0)then (bif (ltI 0 a9)then (bif (eqI (Int.tmod a1 32) (0:Int))then (bif (ltI 0 a9)then (bif a10.2.1 then (bif (eqI (Int.tmod a1 16) (15:Int))then (bif (ltI 0 (wI (a9-1)))then (some ((((wI (a1+1)),(a3,(a3,((wI ((1:Int)-a7)),((wI (a9-1)),(a11,(true,()))))))),((wI ((8:Int)*(wI ((1:Int)-a7)))),((eqI (Int.tmod a1 16) (15:Int)),()))),()))else X8)else X8)else bif (eqI (wI (a9-1)) (0:Int))then (bif (eqI (Int.tmod a1 16) (15:Int))then (bif (ltI 0 (wI (a9-1)))then (some ((((wI (a1+1)),(a3,(a3,((wI ((1:Int)-a7)),((wI (a9-1)),(a11,(a11,()))))))),((wI ((8:Int)*(wI ((1:Int)-a7)))),((eqI (Int.tmod a1 16) (15:Int)),()))),()))else X4)else X4)else bif (eqI (Int.tmod a1 16) (15:Int))then (bif (ltI 0 (wI (a9-1)))then (some ((((wI (a1+1)),(a3,(a3,((wI ((1:Int)-a7)),((wI (a9-1)),(a11,(false,()))))))),((wI ((8:Int)*(wI ((1:Int)-a7)))),((eqI (Int.tmod a1 16) (15:Int)),()))),()))else X7)else X7)else X0)else X0)else bif (eqI (Int.tmod a1 32) (0:Int))then (bif (ltI 0 a9)then (bif a10.2.1 then (bif (eqI (Int.tmod a1 16) (15:Int))then (bif (ltI 0 (wI (a9-1)))then (some ((((wI (a1+1)),(a3,(a3,(a7,((wI (a9-1)),(a11,(true,()))))))),((wI ((8:Int)*a7)),((eqI (Int.tmod a1 16) (15:Int)),()))),()))else X11)else X11)else bif (eqI (wI (a9-1)) (0:Int))then (bif (eqI (Int.tmod a1 16) (15:Int))then (bif (ltI 0 (wI (a9-1)))then (some ((((wI (a1+1)),(a3,(a3,(a7,((wI (a9-1)),(a11,(a11,()))))))),((wI ((8:Int)*a7)),((eqI (Int.tmod a1 16) (15:Int)),()))),()))else X9)else X9)else bif (eqI (Int.tmod a1 16) (15:Int))then (bif (ltI 0 (wI (a9-1)))then (some ((((wI (a1+1)),(a3,(a3,(a7,((wI (a9-1)),(a11,(false,()))))))),((wI ((8:Int)*a7)),((eqI (Int.tmod a1 16) (15:Int)),()))),()))else X10)else X10)else X2)else X2)else bif (eqI (Int.tmod a1 32) (0:Int))then (bif (ltI 0 a9)then (bif a10.2.1 then (bif (eqI (Int.tmod a1 16) (15:Int))then (bif (ltI 0 (wI (a9-1)))then (some ((((wI (a1+1)),(a3,((wI (a5-1)),(a7,((wI (a9-1)),(a11,(true,()))))))),((wI ((8:Int)*a7)),((eqI (Int.tmod a1 16) (15:Int)),()))),()))else X6)else X6)else bif (eqI (wI (a9-1)) (0:Int))then (bif (eqI (Int.tmod a1 16) (15:Int))then (bif (ltI 0 (wI (a9-1)))then (some ((((wI (a1+1)),(a3,((wI (a5-1)),(a7,((wI (a9-1)),(a11,(a11,()))))))),((wI ((8:Int)*a7)),((eqI (Int.tmod a1 16) (15:Int)),()))),()))else X3)else X3)else bif (eqI (Int.tmod a1 16) (15:Int))then (bif (ltI 0 (wI (a9-1)))then (some ((((wI (a1+1)),(a3,((wI (a5-1)),(a7,((wI (a9-1)),(a11,(false,()))))))),((wI ((8:Int)*a7)),((eqI (Int.tmod a1 16) (15:Int)),()))),()))else X5)else X5)else X1)else X1
theorem s198 (y):TE [] Tryz.f198 i198 o198 y=m198 y:=by kernel_rfl
noncomputable def r198:F198:=m198
theorem k198:KO (g198 r198):=fk (s198) trivial (by kernel_rfl)
abbrev i77:Ts:=[.v (.sl false .i), .v (.sl false .i)]
abbrev o77:Ts:=[.v (.bool)]
abbrev F77:=FT i77 o77
abbrev g77:=mkG 77 i77 o77
abbrev lc77_0:Ts:=[.v (.sl false .i), .v (.sl false .i), .v (.int .i64)]
abbrev lb77_0:Ts:=[]
abbrev lv77_0:Ts:=[.v (.int .i64)]
abbrev lr77_0:Ts:=[.v (.bool)]
abbrev R77_0:=Option (Sum (PTup lv77_0) (PTup lr77_0)×BTup lb77_0)
abbrev B77_0:=PTup lb77_0→PTup lv77_0→R77_0
abbrev A77_0:=PTup lc77_0→B77_0
noncomputable def w77_0 (again:B77_0) (x:PTup lc77_0) (y:PTup lb77_0) (z:PTup lv77_0):R77_0:=
  bif (ltI z.1 x.2.2.1)then (bif (leI 0 z.1)then (bif (ltI z.1 (lenI x.1))then (bif (leI 0 z.1)then (bif (ltI z.1 (lenI x.2.1))then (bif (neI (rdE .i x.1 z.1) (rdE .i x.2.1 z.1))then (some ((Sum.inr (false,())),()))
       else again () ((wI (z.1+1)),()))
      else none)
     else none)
    else none)
   else none)
  else some ((Sum.inl z),())
noncomputable def e77_0 (l:A77_0):LoopE:=⟨[0,1,12],lc77_0,[],lb77_0,[13],lv77_0,[4],lr77_0,0,[],l⟩
noncomputable def m77 (l0:A77_0) (y:PTup i77):Option (PTup o77×BTup i77):=
  bif (neI (lenI y.1) (lenI y.2.1))then no
  else (l0 (y.1,(y.2.1,((lenI y.1),()))) () ((0:Int),())).bind fun r0=>
  sumElim r0.1 (fun r1=>some ((true,()),()))
  (fun r1=>some (r1,()))
noncomputable def E77 (l0:A77_0):CEnv:=⟨⟨Tryz.prog,fnsL []⟩,loopsL [(4,e77_0 l0)]⟩
theorem t77_0 (l0:A77_0) (again) (x y z):loopRound (E77 l0) (loopAt (bodyOf Tryz.f77) 0) (e77_0 l0) Tryz.f77.ntmps again x y z=w77_0 again x y z:=by kernel_rfl
noncomputable def n77_0:Nat→A77_0
  |0,_,_,_=>none
  |n+1,x,y,z=>w77_0 (fun y z=>n77_0 n x y z) x y z
theorem s77 (l0:A77_0) (y):tevF (E77 l0) Tryz.f77 i77 o77 y=m77 l0 y:=by kernel_rfl
noncomputable def L77_0:A77_0:=n77_0 fuel
noncomputable def r77:F77:=m77 L77_0
theorem k77:KO (g77 r77):=by
  have hE: ∀g f,(E77 L77_0).env.fns g=some f→CallOk Tryz.prog g f:=fnsL_ok trivial
  have h0:LoopOk Tryz.prog Tryz.f77.ntmps (loopAt (bodyOf Tryz.f77) 0) (e77_0 L77_0):=lp_ok (E:=E77 L77_0) rfl hE mixed (AllLoops.of_list (l:=[]) (by kernel_rfl) trivial) (n77_0) (fun _ _ _=>rfl) (fun n x y z=>t77_0 L77_0 _ x y z) rfl
  exact fn_ok (E:=E77 L77_0) rfl hE mixed (by kernel_rfl) (by kernel_rfl) (AllLoops.of_list (l:=[(loopAt (bodyOf Tryz.f77) 0)]) (by kernel_rfl) (.one (by kernel_rfl) h0 trivial)) (s77 L77_0)
abbrev i89:Ts:=[.v (.sl false .i), .v (.sl false .i)]
abbrev o89:Ts:=[.v (.bool)]
abbrev F89:=FT i89 o89
abbrev g89:=mkG 89 i89 o89
noncomputable def m89 (c77:F77) (y:PTup i89):Option (PTup o89×BTup i89):=
  (c77 y).bind fun r0=>
  some (r0.1,())
theorem s89 (c77:F77) (y):TE [g77 c77] Tryz.f89 i89 o89 y=m89 c77 y:=by kernel_rfl
noncomputable def r89:F89:=m89 r77
theorem k89:KO (g89 r89):=fk (s89 r77) ⟨k77,⟨⟩⟩ (by kernel_rfl)
abbrev i88:Ts:=[.v (.sl false .n), .v (.sl false .n), .v (.fn 89)]
abbrev o88:Ts:=[.v (.bool)]
abbrev F88:=FT i88 o88
abbrev g88:=mkG 88 i88 o88
abbrev lc88_0:Ts:=[.v (.sl false .n), .v (.fn 89), .v (.sl false .n), .v (.int .i64)]
abbrev lb88_0:Ts:=[]
abbrev lv88_0:Ts:=[.v (.int .i64)]
abbrev lr88_0:Ts:=[.v (.bool)]
abbrev R88_0:=Option (Sum (PTup lv88_0) (PTup lr88_0)×BTup lb88_0)
abbrev B88_0:=PTup lb88_0→PTup lv88_0→R88_0
abbrev A88_0:=PTup lc88_0→B88_0
noncomputable def w88_0 (c89:F89) (again:B88_0) (x:PTup lc88_0) (y:PTup lb88_0) (z:PTup lv88_0):R88_0:=
  bif (ltI z.1 x.2.2.2.1)then (bif (leI 0 z.1)then (bif (ltI z.1 (lenI x.2.2.1))then (bif (leI 0 z.1)then (bif (ltI z.1 (lenI x.1))then ((c89 ((rdE .n x.2.2.1 z.1),((rdE .n x.1 z.1),()))).bind fun r0=>
       bif (!r0.1.1)then (some ((Sum.inr (false,())),()))
       else again () ((wI (z.1+1)),()))
      else none)
     else none)
    else none)
   else none)
  else some ((Sum.inl z),())
noncomputable def e88_0 (l:A88_0):LoopE:=⟨[1,2,15,16],lc88_0,[],lb88_0,[17],lv88_0,[6],lr88_0,0,[],l⟩
noncomputable def m88 (c89:F89) (l0:A88_0) (y:PTup i88):Option (PTup o88×BTup i88):=
  bif (neI (lenI y.1) (lenI y.2.1))then no
  else (l0 (y.2.1,((),(y.1,((lenI y.1),())))) () ((0:Int),())).bind fun r0=>
  sumElim r0.1 (fun r1=>some ((true,()),()))
  (fun r1=>some (r1,()))
noncomputable def E88 (c89:F89) (l0:A88_0):CEnv:=⟨⟨Tryz.prog,fnsL [g89 c89]⟩,loopsL [(4,e88_0 l0)]⟩
theorem t88_0 (c89:F89) (l0:A88_0) (again) (x y z):loopRound (E88 c89 l0) (loopAt (bodyOf Tryz.f88) 0) (e88_0 l0) Tryz.f88.ntmps again x y z=w88_0 c89 again x y z:=by kernel_rfl
noncomputable def n88_0 (c89:F89):Nat→A88_0
  |0,_,_,_=>none
  |n+1,x,y,z=>w88_0 c89 (fun y z=>n88_0 c89 n x y z) x y z
theorem s88 (c89:F89) (l0:A88_0) (y):tevF (E88 c89 l0) Tryz.f88 i88 o88 y=m88 c89 l0 y:=by kernel_rfl
noncomputable def L88_0:A88_0:=n88_0 r89 fuel
noncomputable def r88:F88:=m88 r89 L88_0
theorem k88:KO (g88 r88):=by
  have hE: ∀g f,(E88 r89 L88_0).env.fns g=some f→CallOk Tryz.prog g f:=fnsL_ok ⟨k89,⟨⟩⟩
  have h0:LoopOk Tryz.prog Tryz.f88.ntmps (loopAt (bodyOf Tryz.f88) 0) (e88_0 L88_0):=lp_ok (E:=E88 r89 L88_0) rfl hE mixed (AllLoops.of_list (l:=[]) (by kernel_rfl) trivial) (n88_0 r89) (fun _ _ _=>rfl) (fun n x y z=>t88_0 r89 L88_0 _ x y z) rfl
  exact fn_ok (E:=E88 r89 L88_0) rfl hE mixed (by kernel_rfl) (by kernel_rfl) (AllLoops.of_list (l:=[(loopAt (bodyOf Tryz.f88) 0)]) (by kernel_rfl) (.one (by kernel_rfl) h0 trivial)) (s88 r89 L88_0)
abbrev i29:Ts:=[.a q9, .a q9]
abbrev o29:Ts:=[.v (.bool)]
abbrev F29:=FT i29 o29
abbrev g29:=mkG 29 i29 o29
noncomputable def m29 (c88:F88) (c77:F77) (y:PTup i29):Option (PTup o29×BTup i29):=
  (c88 (y.1.1,(y.2.1.1,((),())))).bind fun r0=>
  bif r0.1.1 then ((c77 (y.1.2.1,(y.2.1.2.1,()))).bind fun r1=>
   bif r1.1.1 then ((c77 (y.1.2.2.1,y.2.1.2.2)).bind fun r2=>
    some (r2.1,()))
   else no)
  else no
theorem s29 (c88:F88) (c77:F77) (y):TE [g88 c88,g77 c77] Tryz.f29 i29 o29 y=m29 c88 c77 y:=by kernel_rfl
noncomputable def r29:F29:=m29 r88 r77
theorem k29:KO (g29 r29):=fk (s29 r88 r77) ⟨k88,k77,⟨⟩⟩ (by kernel_rfl)
abbrev i19:Ts:=[.a q9, .a q9]
abbrev o19:Ts:=[.v (.bool)]
abbrev F19:=FT i19 o19
abbrev g19:=mkG 19 i19 o19
noncomputable def m19 (c29:F29) (y:PTup i19):Option (PTup o19×BTup i19):=
  bif (ltI (lenI y.2.1.1) (lenI y.1.1))then no
  else bif (ltI (lenI y.2.1.2.1) (lenI y.1.2.1))then no
  else bif (ltI (lenI y.2.1.2.2.1) (lenI y.1.2.2.1))then no
  else bif (leI (lenI y.1.1) (lenI y.2.1.1))then (bif (leI (lenI y.1.2.1) (lenI y.2.1.2.1))then (bif (leI (lenI y.1.2.2.1) (lenI y.2.1.2.2.1))then ((c29 (y.1,(((List.take (Int.toNat (lenI y.1.1)) y.2.1.1),((List.take (Int.toNat (lenI y.1.2.1)) y.2.1.2.1),((List.take (Int.toNat (lenI y.1.2.2.1)) y.2.1.2.2.1),()))),()))).bind fun r0=>
     some (r0.1,()))
    else none)
   else none)
  else none
theorem s19 (c29:F29) (y):TE [g29 c29] Tryz.f19 i19 o19 y=m19 c29 y:=by kernel_rfl
noncomputable def r19:F19:=m19 r29
theorem k19:KO (g19 r19):=fk (s19 r29) ⟨k29,⟨⟩⟩ (by kernel_rfl)
abbrev i76:Ts:=[.a q3, .a q3]
abbrev o76:Ts:=[.v (.bool)]
abbrev F76:=FT i76 o76
abbrev g76:=mkG 76 i76 o76
noncomputable def m76 (c77:F77) (y:PTup i76):Option (PTup o76×BTup i76):=
  bif (eqI y.1.2.1 y.2.1.2.1)then ((c77 (y.1.1,(y.2.1.1,()))).bind fun r0=>
   some (r0.1,()))
  else no
theorem s76 (c77:F77) (y):TE [g77 c77] Tryz.f76 i76 o76 y=m76 c77 y:=by kernel_rfl
noncomputable def r76:F76:=m76 r77
theorem k76:KO (g76 r76):=fk (s76 r77) ⟨k77,⟨⟩⟩ (by kernel_rfl)
abbrev i85:Ts:=[.a q6, .a q6]
abbrev o85:Ts:=[.v (.bool)]
abbrev F85:=FT i85 o85
abbrev g85:=mkG 85 i85 o85
noncomputable def m85 (c77:F77) (y:PTup i85):Option (PTup o85×BTup i85):=
  bif (eqI y.1.1 y.2.1.1)then (bif (eqI y.1.2.1 y.2.1.2.1)then (bif (eqI y.1.2.2.1 y.2.1.2.2.1)then (bif (eqI y.1.2.2.2.1 y.2.1.2.2.2.1)then (bif (eqI y.1.2.2.2.2.1 y.2.1.2.2.2.2.1)then (bif (y.1.2.2.2.2.2.1==y.2.1.2.2.2.2.2.1)then ((c77 (y.1.2.2.2.2.2.2.1,(y.2.1.2.2.2.2.2.2.1,()))).bind fun r0=>
        bif r0.1.1 then ((c77 (y.1.2.2.2.2.2.2.2.1,y.2.1.2.2.2.2.2.2.2)).bind fun r1=>
         some (r1.1,()))
        else no)
       else no)
      else no)
     else no)
    else no)
   else no)
  else no
theorem s85 (c77:F77) (y):TE [g77 c77] Tryz.f85 i85 o85 y=m85 c77 y:=by kernel_rfl
noncomputable def r85:F85:=m85 r77
theorem k85:KO (g85 r85):=fk (s85 r77) ⟨k77,⟨⟩⟩ (by kernel_rfl)
abbrev i26:Ts:=[.a q10, .a q10]
abbrev o26:Ts:=[.v (.bool)]
abbrev F26:=FT i26 o26
abbrev g26:=mkG 26 i26 o26
noncomputable def m26 (c29:F29) (c76:F76) (c85:F85) (y:PTup i26):Option (PTup o26×BTup i26):=
  let a0:=y.1;let a1:=y.2;let a2:=a0.2;let a3:=a1.1;let a4:=a2.2;let a5:=a3.2;let a6:=a4.2;let a7:=a5.2;let a8:=a6.2;let a9:=a7.2;let a10:=a8.2;let a11:=a9.2;let a12:=a10.2;let a13:=a11.2;let a14:=a12.2;let a15:=a13.2;let a16:=a14.2;let a17:=a15.2;let a18:=a16.2;let a19:=a17.2;let a20:=a18.2;let a21:=a19.2;let a22:=a20.2;let a23:=a21.2;let a24:=a22.2;let a25:=a23.2;let a26:=a24.2;let a27:=a25.2;let a28:=a26.2;let a29:=a27.2;let a30:=a28.2;let a31:=a29.2;let a32:=a30.2;let a33:=a31.2;let a34:=a32.2;let a35:=a33.2;let a36:=a34.2;let a37:=a35.2;let a38:=a36.2;let a39:=a37.2;let a40:=a38.2;let a41:=a39.2;let a42:=a40.2;let a43:=a41.2;let a44:=a42.2;let a45:=a43.2;let a46:=a45.2;let a47:=a44.2.2;let a48:=a46.2.2;let a49:=a47.2.2;let a50:=a48.2.2;bif ((eqI a8.1 a11.1)&&((eqI a10.1 a13.1)&&((eqI a12.1 a15.1)&&((eqI a14.1 a17.1)&&((a16.1==a19.1)&&((a18.1==a21.1)&&((a20.1==a23.1)&&((a22.1==a25.1)&&true))))))))then (bif ((eqI a40.1 a43.1)&&((eqI a42.1 a45.1)&&((eqI a44.1 a46.1)&&((eqI a44.2.1 a46.2.1)&&((eqI a47.1 a48.1)&&((a47.2.1==a48.2.1)&&((a49.1==a50.1)&&true)))))))then (bif ((a49.2.1==a50.2.1)&&((eqI a49.2.2.1 a50.2.2.1)&&true))then (bif (a49.2.2.2.1==a50.2.2.2.1)then (bif (eqI a49.2.2.2.2.1 a50.2.2.2.2.1)then ((c76 ((a4.1,(a6.1,())),((a7.1,(a9.1,())),()))).bind fun r0=>
       bif r0.1.1 then ((c85 ((a24.1,(a26.1,(a28.1,(a30.1,(a32.1,(a34.1,(a36.1,(a38.1,())))))))),((a27.1,(a29.1,(a31.1,(a33.1,(a35.1,(a37.1,(a39.1,(a41.1,())))))))),()))).bind fun r1=>
        bif r1.1.1 then ((c29 (a49.2.2.2.2.2,(a50.2.2.2.2.2,()))).bind fun r2=>
         some (r2.1,()))
        else no)
       else no)
      else no)
     else no)
    else no)
   else no)
  else no
theorem s26 (c29:F29) (c76:F76) (c85:F85) (y):TE [g29 c29,g76 c76,g85 c85] Tryz.f26 i26 o26 y=m26 c29 c76 c85 y:=by kernel_rfl
noncomputable def r26:F26:=m26 r29 r76 r85
theorem k26:KO (g26 r26):=fk (s26 r29 r76 r85) ⟨k29,k76,k85,⟨⟩⟩ (by kernel_rfl)
abbrev i43:Ts:=[.a q10]
abbrev o43:Ts:=[.v (.bool)]
abbrev F43:=FT i43 o43
abbrev g43:=mkG 43 i43 o43
noncomputable def m43 (c114:F114) (c112:F112) (c111:F111) (c110:F110) (c113:F113) (c117:F117) (c116:F116) (c115:F115) (y:PTup i43):Option (PTup o43×BTup i43):=
  let a0:=y.1;let a1:=a0.2;let a2:=a1.2;let a3:=a2.2;let a4:=a3.2;let a5:=a4.2;let a6:=a5.2;let a7:=a6.2;let a8:=a7.2;let a9:=a8.2;let a10:=a9.2;let a11:=a10.2;let a12:=a11.2;let a13:=a12.2;let a14:=a13.2;let a15:=a14.2;let a16:=a15.2;let a17:=a16.2;let a18:=a17.2;let a19:=a18.2;let a20:=a19.2;let a21:=a20.2;let a22:=a21.2.2;let a23:=a22.2.2;let a24:=a23.2.2.2;(c110 (a1.1,())).bind fun r0=>
  bif r0.1.1 then ((c111 ((a0.1,()),((a2.1,(a3.1,())),()))).bind fun r1=>
   bif r1.1.1 then ((c112 ((a4.1,(a5.1,(a6.1,(a7.1,(a8.1,(a9.1,(a10.1,(a11.1,())))))))),())).bind fun r2=>
    bif r2.1.1 then ((c113 ((a12.1,(a13.1,(a14.1,(a15.1,(a16.1,(a17.1,(a18.1,(a19.1,())))))))),())).bind fun r3=>
     bif r3.1.1 then ((c114 ((a20.1,(a21.1,(a21.2.1,(a22.1,(a22.2.1,(a23.1,(a23.2.1,()))))))),())).bind fun r4=>
      bif r4.1.1 then ((c115 (a24.1,())).bind fun r5=>
       bif r5.1.1 then (bif (eqI a12.1 a20.1)then ((c116 (a24.2.2.1,((0:Int),(a12.1,())))).bind fun r6=>
         bif r6.1.1 then ((c117 (a24.2.2.2.1,(a12.1,()))).bind fun r7=>
          bif r7.1.1 then (some (((eqI (lenI a24.2.2.2.2.1) (wI (Int.tdiv a12.1 16))),()),()))
          else no)
         else no)
        else no)
       else no)
      else no)
     else no)
    else no)
   else no)
  else no
theorem s43 (c114:F114) (c112:F112) (c111:F111) (c110:F110) (c113:F113) (c117:F117) (c116:F116) (c115:F115) (y):TE [g114 c114,g112 c112,g111 c111,g110 c110,g113 c113,g117 c117,g116 c116,g115 c115] Tryz.f43 i43 o43 y=m43 c114 c112 c111 c110 c113 c117 c116 c115 y:=by kernel_rfl
noncomputable def r43:F43:=m43 r114 r112 r111 r110 r113 r117 r116 r115
theorem k43:KO (g43 r43):=fk (s43 r114 r112 r111 r110 r113 r117 r116 r115) ⟨k114,k112,k111,k110,k113,k117,k116,k115,⟨⟩⟩ (by kernel_rfl)
abbrev i48:Ts:=[.a q1, .v (.sl false .i)]
abbrev o48:Ts:=[.a q11, .v (.bool)]
abbrev F48:=FT i48 o48
abbrev g48:=mkG 48 i48 o48
noncomputable def m48 (c103:F103) (c43:F43) (c102:F102) (c104:F104) (c101:F101) (y:PTup i48):Option (PTup o48×BTup i48):=
  (c101 (y.1,())).bind fun r0=>
  bif (leN (0+(List.length y.2.1)) (E.most .i))then ((c102 ()).bind fun r1=>
   (c103 (y.1,())).bind fun r2=>
   (c104 ()).bind fun r3=>
   (c43 ((r0.1.1.1,(([]++y.2.1),(r1.1.1.1,(r1.1.1.2.1,(r2.1.1.1,(r2.1.1.2.1,(r2.1.1.2.2.1,(r2.1.1.2.2.2.1,(r2.1.1.2.2.2.2.1,(r2.1.1.2.2.2.2.2.1,(r2.1.1.2.2.2.2.2.2.1,(r2.1.1.2.2.2.2.2.2.2.1,(r3.1.1.1,(r3.1.1.2.1,(r3.1.1.2.2.1,(r3.1.1.2.2.2.1,(r3.1.1.2.2.2.2.1,(r3.1.1.2.2.2.2.2.1,(r3.1.1.2.2.2.2.2.2.1,(r3.1.1.2.2.2.2.2.2.2.1,((0:Int),((0:Int),((0:Int),((0:Int),((0:Int),(false,(false,(false,((0:Int),(false,((0:Int),([],([],([],())))))))))))))))))))))))))))))))))),())).bind fun r4=>
   bif (!r4.1.1)then (some ((([],([],([],((0:Int),((0:Int),((0:Int),((0:Int),((0:Int),(false,(false,(false,(false,((0:Int),((0:Int),((0:Int),((0:Int),((0:Int),(false,([],([],((0:Int),((0:Int),((0:Int),((0:Int),((0:Int),(false,(false,(false,((0:Int),(false,((0:Int),([],([],([],())))))))))))))))))))))))))))))))))),(false,())),()))
   else some (((r0.1.1.1,(([]++y.2.1),(r1.1.1.1,(r1.1.1.2.1,(r2.1.1.1,(r2.1.1.2.1,(r2.1.1.2.2.1,(r2.1.1.2.2.2.1,(r2.1.1.2.2.2.2.1,(r2.1.1.2.2.2.2.2.1,(r2.1.1.2.2.2.2.2.2.1,(r2.1.1.2.2.2.2.2.2.2.1,(r3.1.1.1,(r3.1.1.2.1,(r3.1.1.2.2.1,(r3.1.1.2.2.2.1,(r3.1.1.2.2.2.2.1,(r3.1.1.2.2.2.2.2.1,(r3.1.1.2.2.2.2.2.2.1,(r3.1.1.2.2.2.2.2.2.2.1,((0:Int),((0:Int),((0:Int),((0:Int),((0:Int),(false,(false,(false,((0:Int),(false,((0:Int),([],([],([],())))))))))))))))))))))))))))))))))),(true,())),()))
  else none
theorem s48 (c103:F103) (c43:F43) (c102:F102) (c104:F104) (c101:F101) (y):TE [g103 c103,g43 c43,g102 c102,g104 c104,g101 c101] Tryz.f48 i48 o48 y=m48 c103 c43 c102 c104 c101 y:=by kernel_rfl
noncomputable def r48:F48:=m48 r103 r43 r102 r104 r101
theorem k48:KO (g48 r48):=fk (s48 r103 r43 r102 r104 r101) ⟨k103,k43,k102,k104,k101,⟨⟩⟩ (by kernel_rfl)
abbrev i94:Ts:=[.a q10]
abbrev o94:Ts:=[.a q11]
abbrev F94:=FT i94 o94
abbrev g94:=mkG 94 i94 o94
noncomputable def m94 (c101:F101) (c157:F157) (c139:F139) (c156:F156) (y:PTup i94):Option (PTup o94×BTup i94):=
  let a0:=y.1;let a1:=a0.2;let a2:=a1.2;let a3:=a2.2;let a4:=a3.2;let a5:=a4.2;let a6:=a5.2;let a7:=a6.2;let a8:=a7.2;let a9:=a8.2;let a10:=a9.2;let a11:=a10.2;let a12:=a11.2;let a13:=a12.2;let a14:=a13.2;let a15:=a14.2;let a16:=a15.2;let a17:=a16.2;let a18:=a17.2;let a19:=a18.2;let a20:=a19.2;let a21:=a20.2;let a22:=a21.2;let a23:=a22.2;let a24:=a23.2;let a25:=a24.2;let a26:=a25.2;let a27:=a26.2.2;let a28:=a27.2.2;(c101 ((a0.1,()),())).bind fun r0=>
  bif (leN (0+(List.length a1.1)) (E.most .i))then ((c139 ((a2.1,(a3.1,())),())).bind fun r1=>
   (c156 ((a12.1,(a13.1,(a14.1,(a15.1,(a16.1,(a17.1,(a18.1,(a19.1,())))))))),())).bind fun r2=>
   (c157 (a28.2.1,())).bind fun r3=>
   bif (leN (0+(List.length a28.2.2.1)) (E.most .i))then (bif (leN (0+(List.length a28.2.2.2.1)) (E.most .i))then (some (((r0.1.1.1,(([]++a1.1),(r1.1.1.1,(r1.1.1.2.1,(a4.1,(a5.1,(a6.1,(a7.1,(a8.1,(a9.1,(a10.1,(a11.1,(r2.1.1.1,(r2.1.1.2.1,(r2.1.1.2.2.1,(r2.1.1.2.2.2.1,(r2.1.1.2.2.2.2.1,(r2.1.1.2.2.2.2.2.1,(r2.1.1.2.2.2.2.2.2.1,(r2.1.1.2.2.2.2.2.2.2.1,(a20.1,(a21.1,(a22.1,(a23.1,(a24.1,(a25.1,(a26.1,(a26.2.1,(a27.1,(a27.2.1,(a28.1,(r3.1.1,(([]++a28.2.2.1),(([]++a28.2.2.2.1),())))))))))))))))))))))))))))))))))),()),()))
    else none)
   else none)
  else none
theorem s94 (c101:F101) (c157:F157) (c139:F139) (c156:F156) (y):TE [g101 c101,g157 c157,g139 c139,g156 c156] Tryz.f94 i94 o94 y=m94 c101 c157 c139 c156 y:=by kernel_rfl
noncomputable def r94:F94:=m94 r101 r157 r139 r156
theorem k94:KO (g94 r94):=fk (s94 r101 r157 r139 r156) ⟨k101,k157,k139,k156,⟨⟩⟩ (by kernel_rfl)
abbrev i108:Ts:=[.a q11, .v (.int .i64)]
abbrev o108:Ts:=[.a q11, .v (.int .i64)]
abbrev F108:=FT i108 o108
abbrev g108:=mkG 108 i108 o108
noncomputable def m108 (c178:F178) (c179:F179) (c177:F177) (c176:F176) (c180:F180) (y:PTup i108):Option (PTup o108×BTup i108):=
  let a0:=y.1;let a1:=a0.2;let a2:=a1.2;let a3:=a2.2;let a4:=a3.2;let a5:=a4.2;let a6:=a5.2;let a7:=a6.2;let a8:=a7.2;let a9:=a8.2;let a10:=a9.2;let a11:=a10.2;let a12:=a11.2;let a13:=a12.2;let a14:=a13.2;let a15:=a14.2;let a16:=a15.2;let a17:=a16.2;let a18:=a17.2;let a19:=a18.2;let a20:=a19.2;let a21:=a20.2;let a22:=a21.2;let a23:=a22.2;let a24:=a23.2;let a25:=a24.2;let a26:=a25.2;let a27:=a26.2;let a28:=a27.2;let a29:=a28.2;let a30:=a29.2;let a31:=a30.2;let a32:=a31.2.2;(c176 y.2).bind fun r0=>
  bif (eqI r0.1.1 2)then ((c177 ((a12.1,(a13.1,(a14.1,(a15.1,(a16.1,(a17.1,(a18.1,(a19.1,())))))))),r0.1.2)).bind fun r1=>
   bif (leN ((List.length a32.1)+(List.length (r1.1.2.1::[]))) (E.most .i))then (some (((a0.1,(a1.1,(a2.1,(a3.1,(a4.1,(a5.1,(a6.1,(a7.1,(a8.1,(a9.1,(a10.1,(a11.1,(r1.1.1.1,(r1.1.1.2.1,(r1.1.1.2.2.1,(r1.1.1.2.2.2.1,(r1.1.1.2.2.2.2.1,(r1.1.1.2.2.2.2.2.1,(r1.1.1.2.2.2.2.2.2.1,(r1.1.1.2.2.2.2.2.2.2.1,(a20.1,(a21.1,(a22.1,(a23.1,(a24.1,(a25.1,(a26.1,(a27.1,(a28.1,(a29.1,(a30.1,(a31.1,(a31.2.1,((a32.1++(r1.1.2.1::[])),())))))))))))))))))))))))))))))))))),r1.1.2),()))
   else none)
  else bif (eqI r0.1.1 3)then ((c178 ((a20.1,(a21.1,(a22.1,(a23.1,(a24.1,(a25.1,(a26.1,()))))))),r0.1.2)).bind fun r1=>
   bif (leN ((List.length a32.1)+(List.length (r1.1.2.1::[]))) (E.most .i))then (some (((a0.1,(a1.1,(a2.1,(a3.1,(a4.1,(a5.1,(a6.1,(a7.1,(a8.1,(a9.1,(a10.1,(a11.1,(a12.1,(a13.1,(a14.1,(a15.1,(a16.1,(a17.1,(a18.1,(a19.1,(r1.1.1.1,(r1.1.1.2.1,(r1.1.1.2.2.1,(r1.1.1.2.2.2.1,(r1.1.1.2.2.2.2.1,(r1.1.1.2.2.2.2.2.1,(r1.1.1.2.2.2.2.2.2.1,(a27.1,(a28.1,(a29.1,(a30.1,(a31.1,(a31.2.1,((a32.1++(r1.1.2.1::[])),())))))))))))))))))))))))))))))))))),r1.1.2),()))
   else none)
  else bif (eqI r0.1.1 4)then ((c179 ((a27.1,(a28.1,())),(a1.1,(a12.1,())))).bind fun r1=>
   bif (leN ((List.length a32.1)+(List.length (r1.1.2.1::[]))) (E.most .i))then (some (((a0.1,(a1.1,(a2.1,(a3.1,(a4.1,(a5.1,(a6.1,(a7.1,(a8.1,(a9.1,(a10.1,(a11.1,(a12.1,(a13.1,(a14.1,(a15.1,(a16.1,(a17.1,(a18.1,(a19.1,(a20.1,(a21.1,(a22.1,(a23.1,(a24.1,(a25.1,(a26.1,(r1.1.1.1,(r1.1.1.2.1,(a29.1,(a30.1,(a31.1,(a31.2.1,((a32.1++(r1.1.2.1::[])),())))))))))))))))))))))))))))))))))),r1.1.2),()))
   else none)
  else (c180 ((a0.1,()),((a2.1,(a3.1,())),y.2))).bind fun r1=>
  some ((a0,r1.1),())
theorem s108 (c178:F178) (c179:F179) (c177:F177) (c176:F176) (c180:F180) (y):TE [g178 c178,g179 c179,g177 c177,g176 c176,g180 c180] Tryz.f108 i108 o108 y=m108 c178 c179 c177 c176 c180 y:=by kernel_rfl
noncomputable def r108:F108:=m108 r178 r179 r177 r176 r180
theorem k108:KO (g108 r108):=fk (s108 r178 r179 r177 r176 r180) ⟨k178,k179,k177,k176,k180,⟨⟩⟩ (by kernel_rfl)
abbrev i120:Ts:=[.a q11, .v (.int .i64), .v (.int .i64)]
abbrev o120:Ts:=[.a q11]
abbrev F120:=FT i120 o120
abbrev g120:=mkG 120 i120 o120
noncomputable def m120 (c189:F189) (c190:F190) (c191:F191) (c188:F188) (c176:F176) (y:PTup i120):Option (PTup o120×BTup i120):=
  let a0:=y.1;let a1:=a0.2;let a2:=a1.2;let a3:=a2.2;let a4:=a3.2;let a5:=a4.2;let a6:=a5.2;let a7:=a6.2;let a8:=a7.2;let a9:=a8.2;let a10:=a9.2;let a11:=a10.2;let a12:=a11.2;let a13:=a12.2;let a14:=a13.2;let a15:=a14.2;let a16:=a15.2;let a17:=a16.2;let a18:=a17.2;let a19:=a18.2;let a20:=a19.2;let a21:=a20.2;let a22:=a21.2;let a23:=a22.2;let a24:=a23.2;let a25:=a24.2.2;(c176 (y.2.1,())).bind fun r0=>
  bif (eqI r0.1.1 2)then ((c188 ((a12.1,(a13.1,(a14.1,(a15.1,(a16.1,(a17.1,(a18.1,(a19.1,())))))))),(r0.1.2.1,y.2.2))).bind fun r1=>
   some (((a0.1,(a1.1,(a2.1,(a3.1,(a4.1,(a5.1,(a6.1,(a7.1,(a8.1,(a9.1,(a10.1,(a11.1,(r1.1.1.1,(r1.1.1.2.1,(r1.1.1.2.2.1,(r1.1.1.2.2.2.1,(r1.1.1.2.2.2.2.1,(r1.1.1.2.2.2.2.2.1,(r1.1.1.2.2.2.2.2.2.1,(r1.1.1.2.2.2.2.2.2.2.1,a20)))))))))))))))))))),()),()))
  else bif (eqI r0.1.1 3)then ((c189 ((a20.1,(a21.1,(a22.1,(a23.1,(a24.1,(a24.2.1,(a25.1,()))))))),(r0.1.2.1,y.2.2))).bind fun r1=>
   some (((a0.1,(a1.1,(a2.1,(a3.1,(a4.1,(a5.1,(a6.1,(a7.1,(a8.1,(a9.1,(a10.1,(a11.1,(a12.1,(a13.1,(a14.1,(a15.1,(a16.1,(a17.1,(a18.1,(a19.1,(r1.1.1.1,(r1.1.1.2.1,(r1.1.1.2.2.1,(r1.1.1.2.2.2.1,(r1.1.1.2.2.2.2.1,(r1.1.1.2.2.2.2.2.1,(r1.1.1.2.2.2.2.2.2.1,a25.2))))))))))))))))))))))))))),()),()))
  else bif (eqI r0.1.1 4)then ((c190 ((a25.2.1,(a25.2.2.1,())),(a1.1,(a12.1,y.2.2)))).bind fun r1=>
   some (((a0.1,(a1.1,(a2.1,(a3.1,(a4.1,(a5.1,(a6.1,(a7.1,(a8.1,(a9.1,(a10.1,(a11.1,(a12.1,(a13.1,(a14.1,(a15.1,(a16.1,(a17.1,(a18.1,(a19.1,(a20.1,(a21.1,(a22.1,(a23.1,(a24.1,(a24.2.1,(a25.1,(r1.1.1.1,(r1.1.1.2.1,a25.2.2.2))))))))))))))))))))))))))))),()),()))
  else (c191 ((a0.1,()),((a2.1,(a3.1,())),y.2))).bind fun r1=>
  some (((a0.1,(a1.1,(r1.1.1.1,(r1.1.1.2.1,a4)))),()),())
theorem s120 (c189:F189) (c190:F190) (c191:F191) (c188:F188) (c176:F176) (y):TE [g189 c189,g190 c190,g191 c191,g188 c188,g176 c176] Tryz.f120 i120 o120 y=m120 c189 c190 c191 c188 c176 y:=by kernel_rfl
noncomputable def r120:F120:=m120 r189 r190 r191 r188 r176
theorem k120:KO (g120 r120):=fk (s120 r189 r190 r191 r188 r176) ⟨k189,k190,k191,k188,k176,⟨⟩⟩ (by kernel_rfl)
abbrev i252:Ts:=[.a q11]
abbrev o252:Ts:=[.a q11, .v (.int .i64)]
abbrev R252:=Option (PTup o252×BTup i252)
abbrev F252:=PTup i252→R252
abbrev g252:=mkG 252 i252 o252
noncomputable def m252 (c231:F231) (c234:F234) (c238:F238) (c230:F230) (c233:F233) (c108:F108) (c120:F120) (y:PTup i252):R252:=
  let a0:=y.1;let a1:=a0.2;let a2:=a1.2;let a3:=a2.2;let a4:=a3.2;let a5:=a4.2;let a6:=a5.2;let a7:=a6.2;let a8:=a7.2;let a9:=a8.2;let a10:=a9.2;let a11:=a10.2;let a12:=a11.2;let a13:=a12.2;let a14:=a13.2;let a15:=a14.2;let a16:=a15.2;let a17:=a16.2;let a18:=a17.2;let a19:=a18.2;let a20:=a19.2;let a21:=a20.2;let a22:=a21.2;let a23:=a22.2.2;let a24:=a23.2.2;let X0:R252:=(c230 ((a0.1,()),((a2.1,(a3.1,())),(a7.1,())))).bind fun r0=>(c231 (r0.1.1,((a4.1,(a5.1,(a6.1,(a7.1,(a8.1,(a9.1,(a10.1,(a11.1,())))))))),()))).bind fun r1=>bif (eqI r1.1.1 1)then ((c108 (a0,(r1.1.2.1,()))).bind fun r2=>(c238 ((r2.1.1.2.2.1,(r2.1.1.2.2.2.1,())),((r2.1.1.2.2.2.2.1,(r2.1.1.2.2.2.2.2.1,(r2.1.1.2.2.2.2.2.2.1,(r2.1.1.2.2.2.2.2.2.2.1,(r2.1.1.2.2.2.2.2.2.2.2.1,(r2.1.1.2.2.2.2.2.2.2.2.2.1,(r2.1.1.2.2.2.2.2.2.2.2.2.2.1,(r2.1.1.2.2.2.2.2.2.2.2.2.2.2.1,())))))))),(r0.1.1,r2.1.2)))).bind fun r3=>(c233 (r0.1.1.1,())).bind fun r4=>some (((r2.1.1.1,(r2.1.1.2.1,(r3.1.1.1,(r3.1.1.2.1,(r3.1.2.1.1,(r3.1.2.1.2.1,(r3.1.2.1.2.2.1,(r3.1.2.1.2.2.2.1,(r3.1.2.1.2.2.2.2.1,(r3.1.2.1.2.2.2.2.2.1,(r3.1.2.1.2.2.2.2.2.2.1,(r3.1.2.1.2.2.2.2.2.2.2.1,r2.1.1.2.2.2.2.2.2.2.2.2.2.2.2)))))))))))),r4.1),()))else bif (eqI r1.1.1 2)then ((c120 (a0,r1.1.2)).bind fun r2=>(c238 ((r2.1.1.2.2.1,(r2.1.1.2.2.2.1,())),((r2.1.1.2.2.2.2.1,(r2.1.1.2.2.2.2.2.1,(r2.1.1.2.2.2.2.2.2.1,(r2.1.1.2.2.2.2.2.2.2.1,(r2.1.1.2.2.2.2.2.2.2.2.1,(r2.1.1.2.2.2.2.2.2.2.2.2.1,(r2.1.1.2.2.2.2.2.2.2.2.2.2.1,(r2.1.1.2.2.2.2.2.2.2.2.2.2.2.1,())))))))),(r0.1.1,((0:Int),()))))).bind fun r3=>(c233 (r0.1.1.1,())).bind fun r4=>some (((r2.1.1.1,(r2.1.1.2.1,(r3.1.1.1,(r3.1.1.2.1,(r3.1.2.1.1,(r3.1.2.1.2.1,(r3.1.2.1.2.2.1,(r3.1.2.1.2.2.2.1,(r3.1.2.1.2.2.2.2.1,(r3.1.2.1.2.2.2.2.2.1,(r3.1.2.1.2.2.2.2.2.2.1,(r3.1.2.1.2.2.2.2.2.2.2.1,r2.1.1.2.2.2.2.2.2.2.2.2.2.2.2)))))))))))),r4.1),()))else (c238 ((a2.1,(a3.1,())),((a4.1,(a5.1,(a6.1,(a7.1,(a8.1,(a9.1,(a10.1,(a11.1,())))))))),(r0.1.1,((0:Int),()))))).bind fun r2=>(c233 (r0.1.1.1,())).bind fun r3=>some (((a0.1,(a1.1,(r2.1.1.1,(r2.1.1.2.1,(r2.1.2.1.1,(r2.1.2.1.2.1,(r2.1.2.1.2.2.1,(r2.1.2.1.2.2.2.1,(r2.1.2.1.2.2.2.2.1,(r2.1.2.1.2.2.2.2.2.1,(r2.1.2.1.2.2.2.2.2.2.1,(r2.1.2.1.2.2.2.2.2.2.2.1,a12)))))))))))),r3.1),());bif a24.2.2.2.1 then ((c234 ((a0.1,()),((a2.1,(a3.1,())),((a4.1,(a5.1,(a6.1,(a7.1,(a8.1,(a9.1,(a10.1,(a11.1,())))))))),((65530:Int),()))))).bind fun r0=>some (((a0.1,(a1.1,(r0.1.1.1,(r0.1.1.2.1,(r0.1.2.1.1,(r0.1.2.1.2.1,(r0.1.2.1.2.2.1,(r0.1.2.1.2.2.2.1,(r0.1.2.1.2.2.2.2.1,(r0.1.2.1.2.2.2.2.2.1,(r0.1.2.1.2.2.2.2.2.2.1,(r0.1.2.1.2.2.2.2.2.2.2.1,(a12.1,(a13.1,(a14.1,(a15.1,(a16.1,(a17.1,(a18.1,(a19.1,(a20.1,(a21.1,(a22.1,(a22.2.1,(a23.1,(a23.2.1,(a24.1,(a24.2.1,(a24.2.2.1,(false,a24.2.2.2.2)))))))))))))))))))))))))))))),((7:Int),())),()))else bif a24.1 then (bif (!a11.1)then ((c234 ((a0.1,()),((a2.1,(a3.1,())),((a4.1,(a5.1,(a6.1,(a7.1,(a8.1,(a9.1,(a10.1,(a11.1,())))))))),((65534:Int),()))))).bind fun r0=>some (((a0.1,(a1.1,(r0.1.1.1,(r0.1.1.2.1,(r0.1.2.1.1,(r0.1.2.1.2.1,(r0.1.2.1.2.2.1,(r0.1.2.1.2.2.2.1,(r0.1.2.1.2.2.2.2.1,(r0.1.2.1.2.2.2.2.2.1,(r0.1.2.1.2.2.2.2.2.2.1,(r0.1.2.1.2.2.2.2.2.2.2.1,a12)))))))))))),((7:Int),())),()))else X0)else X0
theorem s252 (c231:F231) (c234:F234) (c238:F238) (c230:F230) (c233:F233) (c108:F108) (c120:F120) (y):TE [g231 c231,g234 c234,g238 c238,g230 c230,g233 c233,g108 c108,g120 c120] Tryz.f252 i252 o252 y=m252 c231 c234 c238 c230 c233 c108 c120 y:=by kernel_rfl
noncomputable def r252:F252:=m252 r231 r234 r238 r230 r233 r108 r120
theorem k252:KO (g252 r252):=fk (s252 r231 r234 r238 r230 r233 r108 r120) ⟨k231,k234,k238,k230,k233,k108,k120,⟨⟩⟩ (by kernel_rfl)
abbrev i253:Ts:=[.a [.sl true .n, .sl true .i, .sl true .i, .int .i64, .int .i64, .int .i64, .int .i64, .int .i64, .bool, .bool, .bool, .bool, .int .i64, .int .i64, .int .i64, .int .i64, .int .i64, .bool, .sl false .i, .sl false .i, .int .i64, .int .i64, .int .i64, .int .i64, .int .i64, .bool, .bool, .bool, .int .i64, .bool, .int .i64, .sl true .n, .sl true .i, .sl true .i]]
abbrev o253:Ts:=[.a q11]
abbrev F253:=FT i253 o253
abbrev g253:=mkG 253 i253 o253
noncomputable def m253 (c198:F198) (c197:F197) (y:PTup i253):Option (PTup o253×BTup i253):=
  let a0:=y.1;let a1:=a0.2;let a2:=a1.2;let a3:=a2.2;let a4:=a3.2;let a5:=a4.2;let a6:=a5.2;let a7:=a6.2;let a8:=a7.2;let a9:=a8.2;let a10:=a9.2;let a11:=a10.2;let a12:=a11.2;let a13:=a12.2;let a14:=a13.2;let a15:=a14.2;let a16:=a15.2;let a17:=a16.2;let a18:=a17.2;let a19:=a18.2;let a20:=a19.2;let a21:=a20.2;let a22:=a21.2;let a23:=a22.2;let a24:=a23.2;let a25:=a24.2;let a26:=a25.2;let a27:=a26.2;let a28:=a27.2;let a29:=a28.2;let a30:=a29.2;let a31:=a30.2;let a32:=a31.2;(c197 ((a12.1,(a13.1,(a14.1,(a15.1,(a16.1,(a17.1,(a18.1,(a19.1,())))))))),())).bind fun r0=>let b0:=r0.1;let b1:=b0.1;let b2:=b0.2;let b3:=b1.2;let b4:=b3.2;let b5:=b4.2;let b6:=b5.2;let b7:=b6.2;let b8:=b7.2;let b9:=b8.2.1;(c198 ((a20.1,(a21.1,(a22.1,(a23.1,(a24.1,(a25.1,(a26.1,()))))))),())).bind fun r1=>let d0:=r1.1;let d1:=d0.1;let d2:=d1.2;let d3:=d0.2.1;let d4:=d2.2;let d5:=d4.2;let d6:=d5.2;let d7:=d6.2;let d8:=d7.2.1;bif (eqI (Int.tmod a12.1 64) (48:Int))then (bif (leN ((List.length a31.1)+(List.length (b2.1::[]))) (E.most .n))then (bif d0.2.2.1 then (bif (leN ((List.length a32.1)+(List.length (d3::[]))) (E.most .i))then (bif a29.1 then (some (((a0.1,(a1.1,(a2.1,(a3.1,(a4.1,(a5.1,(a6.1,(a7.1,(a8.1,(a9.1,(a10.1,(a11.1,(b1.1,(b3.1,(b4.1,(b5.1,(b6.1,(b7.1,(b8.1,(b9,(d1.1,(d2.1,(d4.1,(d5.1,(d6.1,(d7.1,(d8,(a27.1,(a28.1,(true,(a30.1,((a31.1++(b2.1::[])),((a32.1++(d3::[])),a32.2))))))))))))))))))))))))))))))))),()),()))
      else some (((a0.1,(a1.1,(a2.1,(a3.1,(a4.1,(a5.1,(a6.1,(a7.1,(a8.1,(a9.1,(a10.1,(a11.1,(b1.1,(b3.1,(b4.1,(b5.1,(b6.1,(b7.1,(b8.1,(b9,(d1.1,(d2.1,(d4.1,(d5.1,(d6.1,(d7.1,(d8,(a27.1,(a28.1,(b2.2.1,(a30.1,((a31.1++(b2.1::[])),((a32.1++(d3::[])),a32.2))))))))))))))))))))))))))))))))),()),()))
     else none)
    else bif a29.1 then (some (((a0.1,(a1.1,(a2.1,(a3.1,(a4.1,(a5.1,(a6.1,(a7.1,(a8.1,(a9.1,(a10.1,(a11.1,(b1.1,(b3.1,(b4.1,(b5.1,(b6.1,(b7.1,(b8.1,(b9,(d1.1,(d2.1,(d4.1,(d5.1,(d6.1,(d7.1,(d8,(a27.1,(a28.1,(true,(a30.1,((a31.1++(b2.1::[])),a32)))))))))))))))))))))))))))))))),()),()))
    else some (((a0.1,(a1.1,(a2.1,(a3.1,(a4.1,(a5.1,(a6.1,(a7.1,(a8.1,(a9.1,(a10.1,(a11.1,(b1.1,(b3.1,(b4.1,(b5.1,(b6.1,(b7.1,(b8.1,(b9,(d1.1,(d2.1,(d4.1,(d5.1,(d6.1,(d7.1,(d8,(a27.1,(a28.1,(b2.2.1,(a30.1,((a31.1++(b2.1::[])),a32)))))))))))))))))))))))))))))))),()),()))
   else none)
  else bif d0.2.2.1 then (bif (leN ((List.length a32.1)+(List.length (d3::[]))) (E.most .i))then (bif a29.1 then (some (((a0.1,(a1.1,(a2.1,(a3.1,(a4.1,(a5.1,(a6.1,(a7.1,(a8.1,(a9.1,(a10.1,(a11.1,(b1.1,(b3.1,(b4.1,(b5.1,(b6.1,(b7.1,(b8.1,(b9,(d1.1,(d2.1,(d4.1,(d5.1,(d6.1,(d7.1,(d8,(a27.1,(a28.1,(true,(a30.1,(a31.1,((a32.1++(d3::[])),a32.2))))))))))))))))))))))))))))))))),()),()))
    else some (((a0.1,(a1.1,(a2.1,(a3.1,(a4.1,(a5.1,(a6.1,(a7.1,(a8.1,(a9.1,(a10.1,(a11.1,(b1.1,(b3.1,(b4.1,(b5.1,(b6.1,(b7.1,(b8.1,(b9,(d1.1,(d2.1,(d4.1,(d5.1,(d6.1,(d7.1,(d8,(a27.1,(a28.1,(b2.2.1,(a30.1,(a31.1,((a32.1++(d3::[])),a32.2))))))))))))))))))))))))))))))))),()),()))
   else none)
  else bif a29.1 then (some (((a0.1,(a1.1,(a2.1,(a3.1,(a4.1,(a5.1,(a6.1,(a7.1,(a8.1,(a9.1,(a10.1,(a11.1,(b1.1,(b3.1,(b4.1,(b5.1,(b6.1,(b7.1,(b8.1,(b9,(d1.1,(d2.1,(d4.1,(d5.1,(d6.1,(d7.1,(d8,(a27.1,(a28.1,(true,a30)))))))))))))))))))))))))))))),()),()))
  else some (((a0.1,(a1.1,(a2.1,(a3.1,(a4.1,(a5.1,(a6.1,(a7.1,(a8.1,(a9.1,(a10.1,(a11.1,(b1.1,(b3.1,(b4.1,(b5.1,(b6.1,(b7.1,(b8.1,(b9,(d1.1,(d2.1,(d4.1,(d5.1,(d6.1,(d7.1,(d8,(a27.1,(a28.1,(b2.2.1,a30)))))))))))))))))))))))))))))),()),())
theorem s253 (c198:F198) (c197:F197) (y):TE [g198 c198,g197 c197] Tryz.f253 i253 o253 y=m253 c198 c197 y:=by kernel_rfl
noncomputable def r253:F253:=m253 r198 r197
theorem k253:KO (g253 r253):=fk (s253 r198 r197) ⟨k198,k197,⟨⟩⟩ (by kernel_rfl)
abbrev i214:Ts:=[.a q11]
abbrev o214:Ts:=[.a q11, .v (.bool)]
abbrev R214:=Option (PTup o214×BTup i214)
abbrev F214:=PTup i214→R214
abbrev g214 (c:F214):Nat×Tev.Fn:=(214,⟨i214,o214,c, .may⟩)
abbrev lc214_0:Ts:=[.v (.int .i64)]
abbrev lb214_0:Ts:=[.p q11]
abbrev lv214_0:Ts:=[.v (.int .i64)]
abbrev lr214_0:Ts:=[]
abbrev R214_0:=Option (Sum (PTup lv214_0) (PTup lr214_0)×BTup lb214_0)
abbrev B214_0:=PTup lb214_0→PTup lv214_0→R214_0
abbrev A214_0:=PTup lc214_0→B214_0
noncomputable def w214_0 (c252:F252) (c253:F253) (again:B214_0) (x:PTup lc214_0) (y:PTup lb214_0) (z:PTup lv214_0):R214_0:=
  bif (ltI z.1 x.1)then ((c253 (y.1,())).bind fun r0=>
   again (r0.1.1,()) ((wI (z.1+1)),()))
  else some ((Sum.inl z),(y.1,()))
noncomputable def e214_0 (l:A214_0):LoopE:=⟨[5],lc214_0,[4],lb214_0,[6],lv214_0,[],lr214_0,0,[],l⟩
noncomputable def m214 (c252:F252) (c253:F253) (l0:A214_0) (y:PTup i214):R214:=
  let X0:R214:=some ((([],([],([],((0:Int),((0:Int),((0:Int),((0:Int),((0:Int),(false,(false,(false,(false,((0:Int),((0:Int),((0:Int),((0:Int),((0:Int),(false,([],([],((0:Int),((0:Int),((0:Int),((0:Int),((0:Int),(false,(false,(false,((0:Int),(false,((0:Int),([],([],([],())))))))))))))))))))))))))))))))))),(false,())),());(c252 (y.1,())).bind fun r0=>bif (ltI 20000 (wI (r0.1.1.2.2.2.2.2.2.2.2.2.2.2.2.1+r0.1.2.1)))then X0 else (l0 r0.1.2 (r0.1.1,()) ((0:Int),())).bind fun r1=>let d0:=r1.2;let d1:=d0.1;let d2:=d1.2;let d3:=d2.2;let d4:=d3.2;let d5:=d4.2;let d6:=d5.2;let d7:=d6.2;let d8:=d7.2;let d9:=d8.2;let d10:=d9.2;let d11:=d10.2;let d12:=d11.2;let d13:=d12.2;let d14:=d13.2;let d15:=d14.2;let d16:=d15.2;let d17:=d16.2;let d18:=d17.2;let d19:=d18.2;let d20:=d19.2;let d21:=d20.2;let d22:=d21.2;let d23:=d22.2;let d24:=d23.2.2;let d25:=d24.2.2;sumElim r1.1 (fun r2=>some (((d1.1,(d2.1,(d3.1,(d4.1,(d5.1,(d6.1,(d7.1,(d8.1,(d9.1,(d10.1,(d11.1,(d12.1,(d13.1,(d14.1,(d15.1,(d16.1,(d17.1,(d18.1,(d19.1,(d20.1,(d21.1,(d22.1,(d23.1,(d23.2.1,(d24.1,(d24.2.1,(d25.1,(d25.2.1,(d25.2.2.1,(d25.2.2.2.1,((wI (d25.2.2.2.2.1+1)),d25.2.2.2.2.2))))))))))))))))))))))))))))))),(true,())),())) (fun r2=>X0)
noncomputable def E214 (c252:F252) (c253:F253) (l0:A214_0):CEnv:=⟨⟨Tryz.prog,fnsL [g252 c252,g253 c253]⟩,loopsL [(5,e214_0 l0)]⟩
theorem t214_0 (c252:F252) (c253:F253) (l0:A214_0) (again) (x y z):loopRound (E214 c252 c253 l0) (loopAt (bodyOf Tryz.f214) 0) (e214_0 l0) Tryz.f214.ntmps again x y z=w214_0 c252 c253 again x y z:=by kernel_rfl
noncomputable def n214_0 (c252:F252) (c253:F253):Nat→A214_0
  |0,_,_,_=>none
  |n+1,x,y,z=>w214_0 c252 c253 (fun y z=>n214_0 c252 c253 n x y z) x y z
theorem s214 (c252:F252) (c253:F253) (l0:A214_0) (y):tevY (E214 c252 c253 l0) Tryz.f214 i214 [.sl true .n, .sl true .i, .sl true .i, .int .i64, .int .i64, .int .i64, .int .i64, .int .i64, .bool, .bool, .bool, .bool, .int .i64, .int .i64, .int .i64, .int .i64, .int .i64, .bool, .sl true .i, .sl true .i, .int .i64, .int .i64, .int .i64, .int .i64, .int .i64, .bool, .bool, .bool, .int .i64, .bool, .int .i64, .sl true .n, .sl true .i, .sl true .i] y=m214 c252 c253 l0 y:=by kernel_rfl
noncomputable def L214_0:A214_0:=n214_0 r252 r253 fuel
noncomputable def r214:F214:=m214 r252 r253 L214_0
theorem k214:KO (g214 r214):=by
  have hE: ∀g f,(E214 r252 r253 L214_0).env.fns g=some f→CallOk Tryz.prog g f:=fnsL_ok ⟨k252,k253,⟨⟩⟩
  have h0:LoopOk Tryz.prog Tryz.f214.ntmps (loopAt (bodyOf Tryz.f214) 0) (e214_0 L214_0):=lp_ok (E:=E214 r252 r253 L214_0) rfl hE mixed (AllLoops.of_list (l:=[]) (by kernel_rfl) trivial) (n214_0 r252 r253) (fun _ _ _=>rfl) (fun n x y z=>t214_0 r252 r253 L214_0 _ x y z) rfl
  exact fnY_ok (E:=E214 r252 r253 L214_0) rfl hE mixed (by kernel_rfl) (by kernel_rfl) (AllLoops.of_list (l:=[(loopAt (bodyOf Tryz.f214) 0)]) (by kernel_rfl) (.one (by kernel_rfl) h0 trivial)) (s214 r252 r253 L214_0)
abbrev i159:Ts:=[.a q10]
abbrev o159:Ts:=[.a q11, .v (.bool)]
abbrev F159:=FT i159 o159
abbrev g159:=mkG 159 i159 o159
noncomputable def m159 (c43:F43) (c94:F94) (c214:F214) (y:PTup i159):Option (PTup o159×BTup i159):=
  (c43 (y.1,())).bind fun r0=>
  bif (!r0.1.1)then (some ((([],([],([],((0:Int),((0:Int),((0:Int),((0:Int),((0:Int),(false,(false,(false,(false,((0:Int),((0:Int),((0:Int),((0:Int),((0:Int),(false,([],([],((0:Int),((0:Int),((0:Int),((0:Int),((0:Int),(false,(false,(false,((0:Int),(false,((0:Int),([],([],([],())))))))))))))))))))))))))))))))))),(false,())),()))
  else (c94 (y.1,())).bind fun r1=>
  (c214 (r1.1.1,())).bind fun r2=>
  bif r2.1.2.1 then (some ((r2.1.1,(true,())),()))
  else (c94 (y.1,())).bind fun r3=>
  some ((r3.1.1,(false,())),())
theorem s159 (c43:F43) (c94:F94) (c214:F214) (y):TE [g43 c43,g94 c94,g214 c214] Tryz.f159 i159 o159 y=m159 c43 c94 c214 y:=by kernel_rfl
noncomputable def r159:F159:=m159 r43 r94 r214
theorem k159:KO (g159 r159):=fk (s159 r43 r94 r214) ⟨k43,k94,k214,⟨⟩⟩ (by kernel_rfl)
abbrev i95:Ts:=[.a q10, .v (.int .i64)]
abbrev o95:Ts:=[.a q11, .v (.int .i64)]
abbrev F95:=FT i95 o95
abbrev g95:=mkG 95 i95 o95
abbrev lc95_0:Ts:=[.v (.int .i64)]
abbrev lb95_0:Ts:=[.p q11, .p q11]
abbrev lv95_0:Ts:=[.v (.int .i64)]
abbrev lr95_0:Ts:=[.v (.int .i64)]
abbrev R95_0:=Option (Sum (PTup lv95_0) (PTup lr95_0)×BTup lb95_0)
abbrev B95_0:=PTup lb95_0→PTup lv95_0→R95_0
abbrev A95_0:=PTup lc95_0→B95_0
noncomputable def w95_0 (c43:F43) (c159:F159) (c94:F94) (c158:F158) (again:B95_0) (x:PTup lc95_0) (y:PTup lb95_0) (z:PTup lv95_0):R95_0:=
  let a0:=y.2;let a1:=a0.1;let a2:=a1.2;let a3:=a2.2;let a4:=a3.2;let a5:=a4.2;let a6:=a5.2;let a7:=a6.2;let a8:=a7.2;let a9:=a8.2;let a10:=a9.2;let a11:=a10.2;let a12:=a11.2;let a13:=a12.2;let a14:=a13.2;let a15:=a14.2;let a16:=a15.2;let a17:=a16.2;let a18:=a17.2;let a19:=a18.2;let a20:=a19.2;let a21:=a20.2;let a22:=a21.2;let a23:=a22.2.2;let a24:=a23.2.2;(c158 (x.1,((3000:Int),()))).bind fun r0=>
  bif (ltI z.1 r0.1.1)then ((c159 (a1,())).bind fun r1=>
   bif (!r1.1.2.1)then (some ((Sum.inr z),(a1,(([],([],([],(a4.1,(a5.1,(a6.1,(a7.1,(a8.1,(a9.1,(a10.1,(a11.1,(a12.1,(a13.1,(a14.1,(a15.1,(a16.1,(a17.1,(a18.1,([],([],(a21.1,(a22.1,(a22.2.1,(a23.1,(a23.2.1,(a24.1,(a24.2.1,(a24.2.2.1,(a24.2.2.2.1,(a24.2.2.2.2.1,(a24.2.2.2.2.2.1,([],([],([],())))))))))))))))))))))))))))))))))),()))))
   else again (y.1,(r1.1.1,())) ((wI (z.1+1)),()))
  else some ((Sum.inl z),(y.1,(a1,())))
noncomputable def e95_0 (l:A95_0):LoopE:=⟨[1],lc95_0,[4,6],lb95_0,[7],lv95_0,[5],lr95_0,0,[false,true],l⟩
noncomputable def m95 (c43:F43) (c159:F159) (c94:F94) (c158:F158) (l0:A95_0) (y:PTup i95):Option (PTup o95×BTup i95):=
  (c43 (y.1,())).bind fun r0=>
  bif (!r0.1.1)then (some ((([],([],([],((0:Int),((0:Int),((0:Int),((0:Int),((0:Int),(false,(false,(false,(false,((0:Int),((0:Int),((0:Int),((0:Int),((0:Int),(false,([],([],((0:Int),((0:Int),((0:Int),((0:Int),((0:Int),(false,(false,(false,((0:Int),(false,((0:Int),([],([],([],())))))))))))))))))))))))))))))))))),((0:Int),())),()))
  else (c94 (y.1,())).bind fun r1=>
  (l0 y.2 (([],([],([],((0:Int),((0:Int),((0:Int),((0:Int),((0:Int),(false,(false,(false,(false,((0:Int),((0:Int),((0:Int),((0:Int),((0:Int),(false,([],([],((0:Int),((0:Int),((0:Int),((0:Int),((0:Int),(false,(false,(false,((0:Int),(false,((0:Int),([],([],([],())))))))))))))))))))))))))))))))))),(r1.1.1,())) ((0:Int),())).bind fun r2=>
  sumElim r2.1 (fun r3=>some ((r2.2.2.1,r3),()))
  (fun r3=>some ((r2.2.1,r3),()))
noncomputable def E95 (c43:F43) (c159:F159) (c94:F94) (c158:F158) (l0:A95_0):CEnv:=⟨⟨Tryz.prog,fnsL [g43 c43,g159 c159,g94 c94,g158 c158]⟩,loopsL [(5,e95_0 l0)]⟩
theorem t95_0 (c43:F43) (c159:F159) (c94:F94) (c158:F158) (l0:A95_0) (again) (x y z):loopRound (E95 c43 c159 c94 c158 l0) (loopAt (bodyOf Tryz.f95) 0) (e95_0 l0) Tryz.f95.ntmps again x y z=w95_0 c43 c159 c94 c158 again x y z:=by kernel_rfl
noncomputable def n95_0 (c43:F43) (c159:F159) (c94:F94) (c158:F158):Nat→A95_0
  |0,_,_,_=>none
  |n+1,x,y,z=>w95_0 c43 c159 c94 c158 (fun y z=>n95_0 c43 c159 c94 c158 n x y z) x y z
theorem s95 (c43:F43) (c159:F159) (c94:F94) (c158:F158) (l0:A95_0) (y):tevF (E95 c43 c159 c94 c158 l0) Tryz.f95 i95 o95 y=m95 c43 c159 c94 c158 l0 y:=by kernel_rfl
noncomputable def L95_0:A95_0:=n95_0 r43 r159 r94 r158 fuel
noncomputable def r95:F95:=m95 r43 r159 r94 r158 L95_0
theorem k95:KO (g95 r95):=by
  have hE: ∀g f,(E95 r43 r159 r94 r158 L95_0).env.fns g=some f→CallOk Tryz.prog g f:=fnsL_ok ⟨k43,k159,k94,k158,⟨⟩⟩
  have h0:LoopOk Tryz.prog Tryz.f95.ntmps (loopAt (bodyOf Tryz.f95) 0) (e95_0 L95_0):=lp_ok (E:=E95 r43 r159 r94 r158 L95_0) rfl hE mixed (AllLoops.of_list (l:=[]) (by kernel_rfl) trivial) (n95_0 r43 r159 r94 r158) (fun _ _ _=>rfl) (fun n x y z=>t95_0 r43 r159 r94 r158 L95_0 _ x y z) rfl
  exact fn_ok (E:=E95 r43 r159 r94 r158 L95_0) rfl hE mixed (by kernel_rfl) (by kernel_rfl) (AllLoops.of_list (l:=[(loopAt (bodyOf Tryz.f95) 0)]) (by kernel_rfl) (.one (by kernel_rfl) h0 trivial)) (s95 r43 r159 r94 r158 L95_0)
abbrev i154:Ts:=[.p q0]
abbrev o154:Ts:=[.a q11]
abbrev F154:=FT i154 o154
abbrev g154:=mkG 154 i154 o154
abbrev lc154_0:Ts:=[]
abbrev lb154_0:Ts:=[.p q0]
abbrev lv154_0:Ts:=[.v (.sl true .i), .v (.int .i64)]
abbrev lr154_0:Ts:=[]
abbrev R154_0:=Option (Sum (PTup lv154_0) (PTup lr154_0)×BTup lb154_0)
abbrev B154_0:=PTup lb154_0→PTup lv154_0→R154_0
abbrev A154_0:=PTup lc154_0→B154_0
noncomputable def w154_0 (c48:F48) (c95:F95) (c57:F57) (c129:F129) (again:B154_0) (x:PTup lc154_0) (y:PTup lb154_0) (z:PTup lv154_0):R154_0:=
  (c57 (y.1,((4:Int),()))).bind fun r0=>
  bif (ltI z.2.1 r0.1.1)then ((c57 ((y.1.1,r0.2.1.2),((256:Int),()))).bind fun r1=>
   bif (leN ((List.length z.1)+(List.length (r1.1.1::[]))) (E.most .i))then (again ((y.1.1,r1.2.1.2),()) ((z.1++(r1.1.1::[])),((wI (z.2.1+1)),())))
   else none)
  else some ((Sum.inl z),((y.1.1,r0.2.1.2),()))
noncomputable def e154_0 (l:A154_0):LoopE:=⟨[],lc154_0,[0],lb154_0,[3,4],lv154_0,[],lr154_0,0,[],l⟩
noncomputable def m154 (c48:F48) (c95:F95) (c57:F57) (c129:F129) (l0:A154_0) (y:PTup i154):Option (PTup o154×BTup i154):=
  (l0 () (y.1,()) ([],((0:Int),()))).bind fun r0=>
  sumElim r0.1 (fun r1=>(c129 ((y.1.1,r0.2.1.2),())).bind fun r2=>
   (c48 (r2.1.1,(r1.1,()))).bind fun r3=>
   (c57 ((y.1.1,r2.2.1.2),((60:Int),()))).bind fun r4=>
   (c95 (r3.1.1,r4.1)).bind fun r5=>
   some ((r5.1.1,()),((y.1.1,r4.2.1.2),())))
  (fun r1=>some ((([],([],([],((0:Int),((0:Int),((0:Int),((0:Int),((0:Int),(false,(false,(false,(false,((0:Int),((0:Int),((0:Int),((0:Int),((0:Int),(false,([],([],((0:Int),((0:Int),((0:Int),((0:Int),((0:Int),(false,(false,(false,((0:Int),(false,((0:Int),([],([],([],())))))))))))))))))))))))))))))))))),()),((y.1.1,r0.2.1.2),())))
noncomputable def E154 (c48:F48) (c95:F95) (c57:F57) (c129:F129) (l0:A154_0):CEnv:=⟨⟨Tryz.prog,fnsL [g48 c48,g95 c95,g57 c57,g129 c129]⟩,loopsL [(3,e154_0 l0)]⟩
theorem t154_0 (c48:F48) (c95:F95) (c57:F57) (c129:F129) (l0:A154_0) (again) (x y z):loopRound (E154 c48 c95 c57 c129 l0) (loopAt (bodyOf Tryz.f154) 0) (e154_0 l0) Tryz.f154.ntmps again x y z=w154_0 c48 c95 c57 c129 again x y z:=by kernel_rfl
noncomputable def n154_0 (c48:F48) (c95:F95) (c57:F57) (c129:F129):Nat→A154_0
  |0,_,_,_=>none
  |n+1,x,y,z=>w154_0 c48 c95 c57 c129 (fun y z=>n154_0 c48 c95 c57 c129 n x y z) x y z
theorem s154 (c48:F48) (c95:F95) (c57:F57) (c129:F129) (l0:A154_0) (y):tevF (E154 c48 c95 c57 c129 l0) Tryz.f154 i154 o154 y=m154 c48 c95 c57 c129 l0 y:=by kernel_rfl
noncomputable def L154_0:A154_0:=n154_0 r48 r95 r57 r129 fuel
noncomputable def r154:F154:=m154 r48 r95 r57 r129 L154_0
theorem k154:KO (g154 r154):=by
  have hE: ∀g f,(E154 r48 r95 r57 r129 L154_0).env.fns g=some f→CallOk Tryz.prog g f:=fnsL_ok ⟨k48,k95,k57,k129,⟨⟩⟩
  have h0:LoopOk Tryz.prog Tryz.f154.ntmps (loopAt (bodyOf Tryz.f154) 0) (e154_0 L154_0):=lp_ok (E:=E154 r48 r95 r57 r129 L154_0) rfl hE mixed (AllLoops.of_list (l:=[]) (by kernel_rfl) trivial) (n154_0 r48 r95 r57 r129) (fun _ _ _=>rfl) (fun n x y z=>t154_0 r48 r95 r57 r129 L154_0 _ x y z) rfl
  exact fn_ok (E:=E154 r48 r95 r57 r129 L154_0) rfl hE mixed (by kernel_rfl) (by kernel_rfl) (AllLoops.of_list (l:=[(loopAt (bodyOf Tryz.f154) 0)]) (by kernel_rfl) (.one (by kernel_rfl) h0 trivial)) (s154 r48 r95 r57 r129 L154_0)
abbrev i90:Ts:=[.p q0]
abbrev o90:Ts:=[.a q12, .a q12, .v (.bool)]
abbrev R90:=Option (PTup o90×BTup i90)
abbrev F90:=PTup i90→R90
abbrev g90 (c:F90):Nat×Tev.Fn:=(90,⟨i90,o90,c, .ali⟩)
noncomputable def m90 (c95:F95) (c154:F154) (c57:F57) (y:PTup i90):R90:=
  (c154 (y.1,())).bind fun r0=>let b0:=r0.1;let b1:=b0.1;let b2:=b1.2;let b3:=b2.2;let b4:=b3.2;let b5:=b4.2;let b6:=b5.2;let b7:=b6.2;let b8:=b7.2;let b9:=b8.2;let b10:=b9.2.2;let b11:=b10.2;let b12:=b11.2;let b13:=b12.2;let b14:=b13.2;let b15:=b14.2;let b16:=b15.2;let b17:=b16.2;let b18:=b17.2;let b19:=b18.2;let b20:=b19.2;let b21:=b20.2;let b22:=b21.2;let b23:=b22.2;let b24:=b23.2;let b25:=b24.2;let b26:=b25.2;let b27:=b26.2;let b28:=b27.2;let b29:=b28.2;let b30:=b29.2;let b31:=b30.2;(c57 ((y.1.1,r0.2.1.2),((30:Int),()))).bind fun r1=>(c95 (b1,r1.1)).bind fun r2=>(c57 ((y.1.1,r1.2.1.2),((6:Int),()))).bind fun r3=>let X0:R90:=some ((b31,(r2.1.1.2.2.2.2.2.2.2.2.2.2.2.2.2.2.2.2.2.2.2.2.2.2.2.2.2.2.2.2.2.2.2,(false,()))),((y.1.1,r3.2.1.2),()));bif (eqI r3.1.1 0)then (bif (ltI 0 (lenI r2.1.1.2.2.2.2.2.2.2.2.2.2.2.2.2.2.2.2.2.2.2.2.2.2.2.2.2.2.2.2.2.2.2.2.1))then (bif (ltI 0 (lenI r2.1.1.2.2.2.2.2.2.2.2.2.2.2.2.2.2.2.2.2.2.2.2.2.2.2.2.2.2.2.2.2.2.2.2.1))then (bif (ltI 0 (lenI r2.1.1.2.2.2.2.2.2.2.2.2.2.2.2.2.2.2.2.2.2.2.2.2.2.2.2.2.2.2.2.2.2.2.2.1))then (some ((b31,((r2.1.1.2.2.2.2.2.2.2.2.2.2.2.2.2.2.2.2.2.2.2.2.2.2.2.2.2.2.2.2.2.2.2.1,((List.set r2.1.1.2.2.2.2.2.2.2.2.2.2.2.2.2.2.2.2.2.2.2.2.2.2.2.2.2.2.2.2.2.2.2.2.1 (Int.toNat (0:Int)) (wI ((rdE .i r2.1.1.2.2.2.2.2.2.2.2.2.2.2.2.2.2.2.2.2.2.2.2.2.2.2.2.2.2.2.2.2.2.2.2.1 (0:Int))+1))),r2.1.1.2.2.2.2.2.2.2.2.2.2.2.2.2.2.2.2.2.2.2.2.2.2.2.2.2.2.2.2.2.2.2.2.2)),(false,()))),((y.1.1,r3.2.1.2),())))else none)else none)else X0)else bif (eqI r3.1.1 1)then (bif (ltI 0 (lenI b31.1))then (bif (ltI 0 (lenI b31.1))then (bif (ltI 0 (lenI b31.1))then (bif (ltI 1 (lenI (rdE .n b31.1 (0:Int))))then (bif (ltI 1 (lenI (rdE .n b31.1 (0:Int))))then (some ((((List.set b31.1 (Int.toNat (0:Int)) (List.set (rdE .n b31.1 (0:Int)) (Int.toNat (1:Int)) (wI ((rdI (rdE .n b31.1 (0:Int)) (1:Int))+1)))),b31.2),(r2.1.1.2.2.2.2.2.2.2.2.2.2.2.2.2.2.2.2.2.2.2.2.2.2.2.2.2.2.2.2.2.2.2,(false,()))),((y.1.1,r3.2.1.2),())))else none)else none)else none)else none)else X0)else bif (eqI r3.1.1 2)then (some ((r2.1.1.2.2.2.2.2.2.2.2.2.2.2.2.2.2.2.2.2.2.2.2.2.2.2.2.2.2.2.2.2.2.2,(([],([],([],()))),(true,()))),((y.1.1,r3.2.1.2),())))else X0
noncomputable def E90 (c95:F95) (c154:F154) (c57:F57):=mkE [g95 c95,g154 c154,g57 c57]
theorem s90 (c95:F95) (c154:F154) (c57:F57) (y):tevA (E90 c95 c154 c57) Tryz.f90 i90 [.sl true .n, .sl true .i, .sl true .i] [.sl true .n, .sl true .i, .sl true .i] y=m90 c95 c154 c57 y:=by kernel_rfl
noncomputable def r90:F90:=m90 r95 r154 r57
theorem k90:KO (g90 r90):=by
  exact fnA_ok (E:=E90 r95 r154 r57) rfl (fnsL_ok ⟨k95,k154,k57,⟨⟩⟩) mixed (by kernel_rfl) (by kernel_rfl) (AllLoops.of_list (l:=[]) (by kernel_rfl) trivial) (s90 r95 r154 r57)
abbrev i30:Ts:=[.v (.sl false .b)]
abbrev o30:Ts:=[.a q12, .a q12, .v (.bool)]
abbrev F30:=FT i30 o30
abbrev g30 (c:F30):Nat×Tev.Fn:=(30,⟨i30,o30,c, .ali⟩)
noncomputable def m30 (c90:F90) (c54:F54) (y:PTup i30):Option (PTup o30×BTup i30):=
  (c54 y).bind fun r0=>
  (c90 (r0.1.1,())).bind fun r1=>
  bif r1.1.2.2.1 then (some ((r1.1.1,(([],([],([],()))),(true,()))),()))
  else some ((r1.1.1,(r1.1.2.1,(false,()))),())
noncomputable def E30 (c90:F90) (c54:F54):=mkE [g90 c90,g54 c54]
theorem s30 (c90:F90) (c54:F54) (y):tevA (E30 c90 c54) Tryz.f30 i30 [.sl true .n, .sl true .i, .sl true .i] [.sl true .n, .sl true .i, .sl true .i] y=m30 c90 c54 y:=by kernel_rfl
noncomputable def r30:F30:=m30 r90 r54
theorem k30:KO (g30 r30):=by
  exact fnA_ok (E:=E30 r90 r54) rfl (fnsL_ok ⟨k90,k54,⟨⟩⟩) mixed (by kernel_rfl) (by kernel_rfl) (AllLoops.of_list (l:=[]) (by kernel_rfl) trivial) (s30 r90 r54)
abbrev i91:Ts:=[.v (.sl false .i), .v (.sl false .i)]
abbrev o91:Ts:=[.v (.bool)]
abbrev F91:=FT i91 o91
abbrev g91:=mkG 91 i91 o91
abbrev lc91_0:Ts:=[.v (.sl false .i), .v (.sl false .i)]
abbrev lb91_0:Ts:=[]
abbrev lv91_0:Ts:=[.v (.int .i64)]
abbrev lr91_0:Ts:=[.v (.bool)]
abbrev R91_0:=Option (Sum (PTup lv91_0) (PTup lr91_0)×BTup lb91_0)
abbrev B91_0:=PTup lb91_0→PTup lv91_0→R91_0
abbrev A91_0:=PTup lc91_0→B91_0
noncomputable def w91_0 (again:B91_0) (x:PTup lc91_0) (y:PTup lb91_0) (z:PTup lv91_0):R91_0:=
  bif (ltI z.1 (lenI x.1))then (bif (ltI z.1 (lenI x.2.1))then (bif (leI 0 z.1)then (bif (ltI z.1 (lenI x.1))then (bif (leI 0 z.1)then (bif (ltI z.1 (lenI x.2.1))then (bif (neI (rdE .i x.1 z.1) (rdE .i x.2.1 z.1))then (some ((Sum.inr (false,())),()))
        else again () ((wI (z.1+1)),()))
       else none)
      else none)
     else none)
    else none)
   else some ((Sum.inl z),()))
  else some ((Sum.inl z),())
noncomputable def e91_0 (l:A91_0):LoopE:=⟨[0,1],lc91_0,[],lb91_0,[5],lv91_0,[4],lr91_0,0,[],l⟩
noncomputable def m91 (l0:A91_0) (y:PTup i91):Option (PTup o91×BTup i91):=
  (l0 y () ((0:Int),())).bind fun r0=>
  sumElim r0.1 (fun r1=>some (((leI (lenI y.1) (lenI y.2.1)),()),()))
  (fun r1=>some (r1,()))
noncomputable def E91 (l0:A91_0):CEnv:=⟨⟨Tryz.prog,fnsL []⟩,loopsL [(2,e91_0 l0)]⟩
theorem t91_0 (l0:A91_0) (again) (x y z):loopRound (E91 l0) (loopAt (bodyOf Tryz.f91) 0) (e91_0 l0) Tryz.f91.ntmps again x y z=w91_0 again x y z:=by kernel_rfl
noncomputable def n91_0:Nat→A91_0
  |0,_,_,_=>none
  |n+1,x,y,z=>w91_0 (fun y z=>n91_0 n x y z) x y z
theorem s91 (l0:A91_0) (y):tevF (E91 l0) Tryz.f91 i91 o91 y=m91 l0 y:=by kernel_rfl
noncomputable def L91_0:A91_0:=n91_0 fuel
noncomputable def r91:F91:=m91 L91_0
theorem k91:KO (g91 r91):=by
  have hE: ∀g f,(E91 L91_0).env.fns g=some f→CallOk Tryz.prog g f:=fnsL_ok trivial
  have h0:LoopOk Tryz.prog Tryz.f91.ntmps (loopAt (bodyOf Tryz.f91) 0) (e91_0 L91_0):=lp_ok (E:=E91 L91_0) rfl hE mixed (AllLoops.of_list (l:=[]) (by kernel_rfl) trivial) (n91_0) (fun _ _ _=>rfl) (fun n x y z=>t91_0 L91_0 _ x y z) rfl
  exact fn_ok (E:=E91 L91_0) rfl hE mixed (by kernel_rfl) (by kernel_rfl) (AllLoops.of_list (l:=[(loopAt (bodyOf Tryz.f91) 0)]) (by kernel_rfl) (.one (by kernel_rfl) h0 trivial)) (s91 L91_0)
abbrev i92:Ts:=[.v (.sl false .i), .v (.sl false .i)]
abbrev o92:Ts:=[.v (.bool)]
abbrev F92:=FT i92 o92
abbrev g92:=mkG 92 i92 o92
noncomputable def m92 (c91:F91) (y:PTup i92):Option (PTup o92×BTup i92):=
  bif (eqI (lenI y.1) (lenI y.2.1))then ((c91 y).bind fun r0=>
   some (r0.1,()))
  else no
theorem s92 (c91:F91) (y):TE [g91 c91] Tryz.f92 i92 o92 y=m92 c91 y:=by kernel_rfl
noncomputable def r92:F92:=m92 r91
theorem k92:KO (g92 r92):=fk (s92 r91) ⟨k91,⟨⟩⟩ (by kernel_rfl)
abbrev i31:Ts:=[.a q9, .a q9]
abbrev o31:Ts:=[.v (.bool)]
abbrev F31:=FT i31 o31
abbrev g31:=mkG 31 i31 o31
abbrev lc31_0:Ts:=[]
abbrev lb31_0:Ts:=[.p q9, .p q9]
abbrev lv31_0:Ts:=[.v (.int .i64)]
abbrev lr31_0:Ts:=[.v (.bool)]
abbrev R31_0:=Option (Sum (PTup lv31_0) (PTup lr31_0)×BTup lb31_0)
abbrev B31_0:=PTup lb31_0→PTup lv31_0→R31_0
abbrev A31_0:=PTup lc31_0→B31_0
noncomputable def w31_0 (c91:F91) (c92:F92) (again:B31_0) (x:PTup lc31_0) (y:PTup lb31_0) (z:PTup lv31_0):R31_0:=
  bif (ltI z.1 (lenI y.1.1))then (bif (leI 0 z.1)then (bif (ltI z.1 (lenI y.1.1))then (bif (leI 0 z.1)then (bif (ltI z.1 (lenI y.2.1.1))then ((c92 ((rdE .n y.1.1 z.1),((rdE .n y.2.1.1 z.1),()))).bind fun r0=>
       bif (!r0.1.1)then (some ((Sum.inr (false,())),(y.1,(y.2.1,()))))
       else again (y.1,(y.2.1,())) ((wI (z.1+1)),()))
      else none)
     else none)
    else none)
   else none)
  else some ((Sum.inl z),(y.1,(y.2.1,())))
noncomputable def e31_0 (l:A31_0):LoopE:=⟨[],lc31_0,[2,3],lb31_0,[5],lv31_0,[4],lr31_0,0,[],l⟩
noncomputable def m31 (c91:F91) (c92:F92) (l0:A31_0) (y:PTup i31):Option (PTup o31×BTup i31):=
  bif (ltI (lenI y.2.1.1) (lenI y.1.1))then no
  else (c91 (y.1.2.1,(y.2.1.2.1,()))).bind fun r0=>
  bif (!r0.1.1)then no
  else (c91 (y.1.2.2.1,y.2.1.2.2)).bind fun r1=>
  bif (!r1.1.1)then no
  else (l0 () (y.1,(y.2.1,())) ((0:Int),())).bind fun r2=>
  sumElim r2.1 (fun r3=>some ((true,()),()))
  (fun r3=>some (r3,()))
noncomputable def E31 (c91:F91) (c92:F92) (l0:A31_0):CEnv:=⟨⟨Tryz.prog,fnsL [g91 c91,g92 c92]⟩,loopsL [(4,e31_0 l0)]⟩
theorem t31_0 (c91:F91) (c92:F92) (l0:A31_0) (again) (x y z):loopRound (E31 c91 c92 l0) (loopAt (bodyOf Tryz.f31) 0) (e31_0 l0) Tryz.f31.ntmps again x y z=w31_0 c91 c92 again x y z:=by kernel_rfl
noncomputable def n31_0 (c91:F91) (c92:F92):Nat→A31_0
  |0,_,_,_=>none
  |n+1,x,y,z=>w31_0 c91 c92 (fun y z=>n31_0 c91 c92 n x y z) x y z
theorem s31 (c91:F91) (c92:F92) (l0:A31_0) (y):tevF (E31 c91 c92 l0) Tryz.f31 i31 o31 y=m31 c91 c92 l0 y:=by kernel_rfl
noncomputable def L31_0:A31_0:=n31_0 r91 r92 fuel
noncomputable def r31:F31:=m31 r91 r92 L31_0
theorem k31:KO (g31 r31):=by
  have hE: ∀g f,(E31 r91 r92 L31_0).env.fns g=some f→CallOk Tryz.prog g f:=fnsL_ok ⟨k91,k92,⟨⟩⟩
  have h0:LoopOk Tryz.prog Tryz.f31.ntmps (loopAt (bodyOf Tryz.f31) 0) (e31_0 L31_0):=lp_ok (E:=E31 r91 r92 L31_0) rfl hE mixed (AllLoops.of_list (l:=[]) (by kernel_rfl) trivial) (n31_0 r91 r92) (fun _ _ _=>rfl) (fun n x y z=>t31_0 r91 r92 L31_0 _ x y z) rfl
  exact fn_ok (E:=E31 r91 r92 L31_0) rfl hE mixed (by kernel_rfl) (by kernel_rfl) (AllLoops.of_list (l:=[(loopAt (bodyOf Tryz.f31) 0)]) (by kernel_rfl) (.one (by kernel_rfl) h0 trivial)) (s31 r91 r92 L31_0)
abbrev i32:Ts:=[.a q9, .a q9]
abbrev o32:Ts:=[.v (.bool)]
abbrev F32:=FT i32 o32
abbrev g32:=mkG 32 i32 o32
noncomputable def m32 (c31:F31) (y:PTup i32):Option (PTup o32×BTup i32):=
  (c31 (y.1,(y.2.1,()))).bind fun r0=>
  bif r0.1.1 then ((c31 (y.2.1,(y.1,()))).bind fun r1=>
   some (r1.1,()))
  else no
theorem s32 (c31:F31) (y):TE [g31 c31] Tryz.f32 i32 o32 y=m32 c31 y:=by kernel_rfl
noncomputable def r32:F32:=m32 r31
theorem k32:KO (g32 r32):=fk (s32 r31) ⟨k31,⟨⟩⟩ (by kernel_rfl)
abbrev i213:Ts:=[.p q0]
abbrev o213:Ts:=[.a q4]
abbrev F213:=FT i213 o213
abbrev g213:=mkG 213 i213 o213
noncomputable def m213 (c251:F251) (c57:F57) (c160:F160) (y:PTup i213):Option (PTup o213×BTup i213):=
  (c57 (y.1,((256:Int),()))).bind fun r0=>
  (c57 ((y.1.1,r0.2.1.2),((256:Int),()))).bind fun r1=>
  (c160 ((y.1.1,r1.2.1.2),(((0:Int)::((1:Int)::((2:Int)::((255:Int)::((254:Int)::((128:Int)::[])))))),()))).bind fun r2=>
  (c160 ((y.1.1,r2.2.1.2),(((0:Int)::((49152:Int)::((49200:Int)::((65535:Int)::((65534:Int)::((32768:Int)::((8192:Int)::((511:Int)::[])))))))),()))).bind fun r3=>
  (c57 ((y.1.1,r3.2.1.2),((256:Int),()))).bind fun r4=>
  (c251 ((r0.1.1,(r1.1.1,(r2.1.1,(r3.1.1,(false,(false,(false,(false,())))))))),r4.1)).bind fun r5=>
  some ((r5.1.1,()),((y.1.1,r4.2.1.2),()))
theorem s213 (c251:F251) (c57:F57) (c160:F160) (y):TE [g251 c251,g57 c57,g160 c160] Tryz.f213 i213 o213 y=m213 c251 c57 c160 y:=by kernel_rfl
noncomputable def r213:F213:=m213 r251 r57 r160
theorem k213:KO (g213 r213):=fk (s213 r251 r57 r160) ⟨k251,k57,k160,⟨⟩⟩ (by kernel_rfl)
abbrev i118:Ts:=[.p q0]
abbrev o118:Ts:=[.v (.int .i64)]
abbrev F118:=FT i118 o118
abbrev g118:=mkG 118 i118 o118
noncomputable def m118 (c57:F57) (c161:F161) (c160:F160) (y:PTup i118):Option (PTup o118×BTup i118):=
  (c161 (y.1,((9:Int),()))).bind fun r0=>
  bif r0.1.1 then ((c160 ((y.1.1,r0.2.1.2),(((-(1:Int))::((256:Int)::((65535:Int)::((65536:Int)::((9223372036854775807:Int)::((-(9223372036854775808:Int))::((511:Int)::[]))))))),()))).bind fun r1=>
   some (r1.1,((y.1.1,r1.2.1.2),())))
  else (c57 ((y.1.1,r0.2.1.2),((256:Int),()))).bind fun r1=>
  some (r1.1,((y.1.1,r1.2.1.2),()))
theorem s118 (c57:F57) (c161:F161) (c160:F160) (y):TE [g57 c57,g161 c161,g160 c160] Tryz.f118 i118 o118 y=m118 c57 c161 c160 y:=by kernel_rfl
noncomputable def r118:F118:=m118 r57 r161 r160
theorem k118:KO (g118 r118):=fk (s118 r57 r161 r160) ⟨k57,k161,k160,⟨⟩⟩ (by kernel_rfl)
abbrev i155:Ts:=[.p q0]
abbrev o155:Ts:=[.a q4]
abbrev F155:=FT i155 o155
abbrev g155:=mkG 155 i155 o155
noncomputable def m155 (c57:F57) (c118:F118) (c160:F160) (c213:F213) (y:PTup i155):Option (PTup o155×BTup i155):=
  (c213 (y.1,())).bind fun r0=>
  (c57 ((y.1.1,r0.2.1.2),((25:Int),()))).bind fun r1=>
  bif (eqI r1.1.1 0)then ((c118 ((y.1.1,r1.2.1.2),())).bind fun r2=>
   some (((r2.1.1,r0.1.1.2),()),((y.1.1,r2.2.1.2),())))
  else bif (eqI r1.1.1 1)then ((c118 ((y.1.1,r1.2.1.2),())).bind fun r2=>
   some (((r0.1.1.1,(r2.1.1,r0.1.1.2.2)),()),((y.1.1,r2.2.1.2),())))
  else bif (eqI r1.1.1 2)then ((c118 ((y.1.1,r1.2.1.2),())).bind fun r2=>
   some (((r0.1.1.1,(r0.1.1.2.1,(r2.1.1,r0.1.1.2.2.2))),()),((y.1.1,r2.2.1.2),())))
  else bif (eqI r1.1.1 3)then ((c160 ((y.1.1,r1.2.1.2),(((-(1:Int))::((65536:Int)::[])),()))).bind fun r2=>
   some (((r0.1.1.1,(r0.1.1.2.1,(r0.1.1.2.2.1,(r2.1.1,r0.1.1.2.2.2.2)))),()),((y.1.1,r2.2.1.2),())))
  else some ((r0.1.1,()),((y.1.1,r1.2.1.2),()))
theorem s155 (c57:F57) (c118:F118) (c160:F160) (c213:F213) (y):TE [g57 c57,g118 c118,g160 c160,g213 c213] Tryz.f155 i155 o155 y=m155 c57 c118 c160 c213 y:=by kernel_rfl
noncomputable def r155:F155:=m155 r57 r118 r160 r213
theorem k155:KO (g155 r155):=fk (s155 r57 r118 r160 r213) ⟨k57,k118,k160,k213,⟨⟩⟩ (by kernel_rfl)
abbrev i93:Ts:=[.p q0]
abbrev o93:Ts:=[.a q11]
abbrev F93:=FT i93 o93
abbrev g93:=mkG 93 i93 o93
noncomputable def m93 (c154:F154) (c57:F57) (c155:F155) (y:PTup i93):Option (PTup o93×BTup i93):=
  (c154 (y.1,())).bind fun r0=>(c57 ((y.1.1,r0.2.1.2),((30:Int),()))).bind fun r1=>
  bif (eqI r1.1.1 0)then (some (((m2 (m2 (m2 (m2 (m2 (m2 (m2 (m2 (m2 (m2 (m2 (m2 (m2 (m2 (m2 (m2 (m2 (m2 (m2 (m2 (fun p=>(wI (p.1+1),p.2))))))))))))))))))))) r0.1.1),()),((y.1.1,r1.2.1.2),())))
  else bif (eqI r1.1.1 1)then (some (((m2 (m2 (m2 (m2 (m2 (m2 (m2 (m2 (m2 (m2 (m2 (m2 (m2 (m2 (m2 (m2 (m2 (m2 (m2 (m2 (m2 (m2 (m2 (m2 (m2 (m2 (m2 (m2 (m2 (m2 (fun p=>(-(1:Int),p.2))))))))))))))))))))))))))))))) r0.1.1),()),((y.1.1,r1.2.1.2),())))
  else bif (eqI r1.1.1 2)then (bif (leN ((List.length r0.1.1.2.2.2.2.2.2.2.2.2.2.2.2.2.2.2.2.2.2.2.2.2.2.2.2.2.2.2.2.2.2.2.2.1)+(List.length [(0:Int)])) (E.most .i))then (some (((m2 (m2 (m2 (m2 (m2 (m2 (m2 (m2 (m2 (m2 (m2 (m2 (m2 (m2 (m2 (m2 (m2 (m2 (m2 (m2 (m2 (m2 (m2 (m2 (m2 (m2 (m2 (m2 (m2 (m2 (m2 (m2 (fun p=>(p.1++[(0:Int)],p.2))))))))))))))))))))))))))))))))) r0.1.1),()),((y.1.1,r1.2.1.2),())))else none)
  else bif (eqI r1.1.1 3)then (bif (leN ((List.length r0.1.1.2.2.2.2.2.2.2.2.2.2.2.2.2.2.2.2.2.2.2.2.2.2.2.2.2.2.2.2.2.2.2.1)+(List.length [[(1:Int)]])) (E.most .n))then (some (((m2 (m2 (m2 (m2 (m2 (m2 (m2 (m2 (m2 (m2 (m2 (m2 (m2 (m2 (m2 (m2 (m2 (m2 (m2 (m2 (m2 (m2 (m2 (m2 (m2 (m2 (m2 (m2 (m2 (m2 (m2 (fun p=>(p.1++[[(1:Int)]],p.2)))))))))))))))))))))))))))))))) r0.1.1),()),((y.1.1,r1.2.1.2),())))else none)
  else bif (eqI r1.1.1 4)then ((c155 ((y.1.1,r1.2.1.2),())).bind fun r2=>some (((m2 (m2 (m2 (m2 (cpuAt r2.1.1)))) r0.1.1),()),((y.1.1,r2.2.1.2),())))
  else bif (eqI r1.1.1 5)then (some (((m2 (m2 (m2 (m2 (m2 (m2 (m2 (m2 (m2 (m2 (m2 (m2 (m2 (m2 (m2 (m2 (m2 (m2 (m2 (m2 (m2 (m2 (m2 (m2 (m2 (m2 (m2 (m2 (m2 (fun p=>(true,p.2)))))))))))))))))))))))))))))) r0.1.1),()),((y.1.1,r1.2.1.2),())))
  else bif (eqI r1.1.1 6)then (some (((m2 (m2 (m2 (m2 (m2 (m2 (m2 (m2 (m2 (m2 (m2 (fun p=>(false,m2 (m2 (m2 (m2 (m2 (m2 (m2 (m2 (m2 (m2 (m2 (m2 (m2 (m2 (fun p=>(true,p.2))))))))))))))) p.2)))))))))))) r0.1.1),()),((y.1.1,r1.2.1.2),())))
  else bif (eqI r1.1.1 7)then (some (((m2 (m2 (m2 (m2 (m2 (m2 (m2 (m2 (m2 (m2 (m2 (m2 (m2 (m2 (m2 (m2 (m2 (m2 (m2 (m2 (m2 (m2 (m2 (m2 (m2 (m2 (m2 (m2 (fun p=>((256:Int),p.2))))))))))))))))))))))))))))) r0.1.1),()),((y.1.1,r1.2.1.2),())))
  else some ((r0.1.1,()),((y.1.1,r1.2.1.2),()))
theorem s93 (c154:F154) (c57:F57) (c155:F155) (y):TE [g154 c154,g57 c57,g155 c155] Tryz.f93 i93 o93 y=m93 c154 c57 c155 y:=by kernel_rfl
noncomputable def r93:F93:=m93 r154 r57 r155
theorem k93:KO (g93 r93):=fk (s93 r154 r57 r155) ⟨k154,k57,k155,⟨⟩⟩ (by kernel_rfl)
abbrev i33:Ts:=[.v (.sl false .b)]
abbrev o33:Ts:=[.a q11, .a q11]
abbrev F33:=FT i33 o33
abbrev g33:=mkG 33 i33 o33
noncomputable def m33 (c95:F95) (c94:F94) (c93:F93) (c57:F57) (c54:F54) (y:PTup i33):Option (PTup o33×BTup i33):=
  (c54 y).bind fun r0=>
  (c93 (r0.1.1,())).bind fun r1=>
  (c94 (r1.1.1,())).bind fun r2=>let f0:=r2.1;let f1:=f0.1;let f2:=f1.2;let f3:=f2.2;let f4:=f3.2;let f5:=f4.2;let f6:=f5.2;let f7:=f6.2;let f8:=f7.2;let f9:=f8.2.2;(c57 ((r0.1.1.1,r1.2.1.2),((6:Int),()))).bind fun r3=>
  bif (eqI r3.1.1 0)then (some ((r1.1.1,((f1.1,(f2.1,(f3.1,(f4.1,((wI (f5.1+1)),f6))))),())),()))
  else bif (eqI r3.1.1 1)then (bif (ltI 16 (lenI f3.1))then (bif (ltI 16 (lenI f3.1))then (bif (ltI 16 (lenI f3.1))then (some ((r1.1.1,((f1.1,(f2.1,((List.set f3.1 (Int.toNat (16:Int)) (wI ((rdE .i f3.1 (16:Int))+1))),f4))),())),()))
     else none)
    else none)
   else some ((r1.1.1,(f1,())),()))
  else bif (eqI r3.1.1 2)then ((c95 (f1,((1:Int),()))).bind fun r4=>
   some ((r1.1.1,(r4.1.1,())),()))
  else bif (eqI r3.1.1 3)then (some ((r1.1.1,((f1.1,(f2.1,(f3.1,(f4.1,(f5.1,(f6.1,(f7.1,(f8.1,(f8.2.1,(f9.1,(f9.2.1,(f9.2.2.1,(f9.2.2.2.1,(f9.2.2.2.2.1,((wI (f9.2.2.2.2.2.1+1)),f9.2.2.2.2.2.2))))))))))))))),())),()))
  else some ((r1.1.1,(f1,())),())
theorem s33 (c95:F95) (c94:F94) (c93:F93) (c57:F57) (c54:F54) (y):TE [g95 c95,g94 c94,g93 c93,g57 c57,g54 c54] Tryz.f33 i33 o33 y=m33 c95 c94 c93 c57 c54 y:=by kernel_rfl
noncomputable def r33:F33:=m33 r95 r94 r93 r57 r54
theorem k33:KO (g33 r33):=fk (s33 r95 r94 r93 r57 r54) ⟨k95,k94,k93,k57,k54,⟨⟩⟩ (by kernel_rfl)
abbrev i96:Ts:=[.a q6, .a q6]
abbrev o96:Ts:=[.v (.bool)]
abbrev F96:=FT i96 o96
abbrev g96:=mkG 96 i96 o96
noncomputable def m96 (c92:F92) (y:PTup i96):Option (PTup o96×BTup i96):=
  bif (eqI y.1.1 y.2.1.1)then (bif (eqI y.1.2.1 y.2.1.2.1)then (bif (eqI y.1.2.2.1 y.2.1.2.2.1)then (bif (eqI y.1.2.2.2.1 y.2.1.2.2.2.1)then (bif (eqI y.1.2.2.2.2.1 y.2.1.2.2.2.2.1)then (bif (y.1.2.2.2.2.2.1==y.2.1.2.2.2.2.2.1)then ((c92 (y.1.2.2.2.2.2.2.1,(y.2.1.2.2.2.2.2.2.1,()))).bind fun r0=>
        bif r0.1.1 then ((c92 (y.1.2.2.2.2.2.2.2.1,y.2.1.2.2.2.2.2.2.2)).bind fun r1=>
         some (r1.1,()))
        else no)
       else no)
      else no)
     else no)
    else no)
   else no)
  else no
theorem s96 (c92:F92) (y):TE [g92 c92] Tryz.f96 i96 o96 y=m96 c92 y:=by kernel_rfl
noncomputable def r96:F96:=m96 r92
theorem k96:KO (g96 r96):=fk (s96 r92) ⟨k92,⟨⟩⟩ (by kernel_rfl)
abbrev i34:Ts:=[.a q10, .a q10]
abbrev o34:Ts:=[.v (.bool)]
abbrev F34:=FT i34 o34
abbrev g34:=mkG 34 i34 o34
noncomputable def m34 (c32:F32) (c96:F96) (c92:F92) (y:PTup i34):Option (PTup o34×BTup i34):=
  let a0:=y.1;let a1:=y.2;let a2:=a0.2;let a3:=a1.1;let a4:=a2.2;let a5:=a3.2;let a6:=a4.2;let a7:=a5.2;let a8:=a6.2;let a9:=a7.2;let a10:=a8.2;let a11:=a9.2;let a12:=a10.2;let a13:=a11.2;let a14:=a12.2;let a15:=a13.2;let a16:=a14.2;let a17:=a15.2;let a18:=a16.2;let a19:=a17.2;let a20:=a18.2;let a21:=a19.2;let a22:=a20.2;let a23:=a21.2;let a24:=a22.2;let a25:=a23.2;let a26:=a24.2;let a27:=a25.2;let a28:=a26.2;let a29:=a27.2;let a30:=a28.2;let a31:=a29.2;let a32:=a30.2;let a33:=a31.2;let a34:=a32.2;let a35:=a33.2;let a36:=a34.2;let a37:=a35.2;let a38:=a36.2;let a39:=a37.2;let a40:=a38.2;let a41:=a39.2;let a42:=a40.2;let a43:=a41.2;let a44:=a42.2;let a45:=a43.2;let a46:=a45.2;let a47:=a44.2.2;let a48:=a46.2.2;let a49:=a47.2.2;let a50:=a48.2.2;(c92 (a4.1,(a7.1,()))).bind fun r0=>
  bif r0.1.1 then (bif (eqI a6.1 a9.1)then (bif ((eqI a8.1 a11.1)&&((eqI a10.1 a13.1)&&((eqI a12.1 a15.1)&&((eqI a14.1 a17.1)&&((a16.1==a19.1)&&((a18.1==a21.1)&&((a20.1==a23.1)&&((a22.1==a25.1)&&true))))))))then ((c96 ((a24.1,(a26.1,(a28.1,(a30.1,(a32.1,(a34.1,(a36.1,(a38.1,())))))))),((a27.1,(a29.1,(a31.1,(a33.1,(a35.1,(a37.1,(a39.1,(a41.1,())))))))),()))).bind fun r1=>
     bif r1.1.1 then (bif ((eqI a40.1 a43.1)&&((eqI a42.1 a45.1)&&((eqI a44.1 a46.1)&&((eqI a44.2.1 a46.2.1)&&((eqI a47.1 a48.1)&&((a47.2.1==a48.2.1)&&((a49.1==a50.1)&&true)))))))then (bif ((a49.2.1==a50.2.1)&&((eqI a49.2.2.1 a50.2.2.1)&&true))then (bif (a49.2.2.2.1==a50.2.2.2.1)then (bif (eqI a49.2.2.2.2.1 a50.2.2.2.2.1)then ((c32 (a49.2.2.2.2.2,(a50.2.2.2.2.2,()))).bind fun r2=>
          some (r2.1,()))
         else no)
        else no)
       else no)
      else no)
     else no)
    else no)
   else no)
  else no
theorem s34 (c32:F32) (c96:F96) (c92:F92) (y):TE [g32 c32,g96 c96,g92 c92] Tryz.f34 i34 o34 y=m34 c32 c96 c92 y:=by kernel_rfl
noncomputable def r34:F34:=m34 r32 r96 r92
theorem k34:KO (g34 r34):=fk (s34 r32 r96 r92) ⟨k32,k96,k92,⟨⟩⟩ (by kernel_rfl)
abbrev i5:Ts:=[.v (.sl false .b)]
abbrev o5:Ts:=[.v (.bool)]
abbrev R5:=Option (PTup o5×BTup i5)
abbrev F5:=PTup i5→R5
abbrev g5:=mkG 5 i5 o5
noncomputable def m5 (c26:F26) (c19:F19) (c29:F29) (c12:F12) (c33:F33) (c30:F30) (c34:F34) (c31:F31) (c32:F32) (y:PTup i5):R5:=
  let X0:R5:=(c33 y).bind fun r8=>(c26 (r8.1.1,(r8.1.2.1,()))).bind fun r9=>(c34 (r8.1.1,(r8.1.2.1,()))).bind fun r10=>bif (r9.1.1==r10.1.1)then ((c26 (r8.1.2.1,(r8.1.1,()))).bind fun r11=>bif (r9.1.1==r11.1.1)then ((c26 (r8.1.1,(r8.1.1,()))).bind fun r12=>some (r12.1,()))else no)else no;(c12 y).bind fun r0=>bif r0.1.1 then (some ((true,()),()))else (c30 y).bind fun r1=>let X1:R5:=(c29 (r1.1.1,(r1.1.1,()))).bind fun r7=>bif (!r7.1.1)then no else X0;bif r1.1.2.2.1 then ((c19 (r1.1.1,(r1.1.1,()))).bind fun r2=>(c19 (r1.1.1,(r1.1.1,()))).bind fun r3=>(c29 (r1.1.1,(r1.1.1,()))).bind fun r4=>(c31 (r1.1.1,(r1.1.1,()))).bind fun r5=>bif (! (r2.1.1==r5.1.1))then no else (c32 (r1.1.1,(r1.1.1,()))).bind fun r6=>bif (! (r4.1.1==r6.1.1))then no else bif r2.1.1 then (bif (! (r4.1.1==r3.1.1))then no else X1)else bif (! (r4.1.1==false))then no else X1)else (c19 (r1.1.1,(r1.1.2.1,()))).bind fun r2=>(c19 (r1.1.2.1,(r1.1.1,()))).bind fun r3=>(c29 (r1.1.1,(r1.1.2.1,()))).bind fun r4=>(c31 (r1.1.1,(r1.1.2.1,()))).bind fun r5=>bif (! (r2.1.1==r5.1.1))then no else (c32 (r1.1.1,(r1.1.2.1,()))).bind fun r6=>bif (! (r4.1.1==r6.1.1))then no else bif r2.1.1 then (bif (! (r4.1.1==r3.1.1))then no else X1)else bif (! (r4.1.1==false))then no else X1
theorem s5 (c26:F26) (c19:F19) (c29:F29) (c12:F12) (c33:F33) (c30:F30) (c34:F34) (c31:F31) (c32:F32) (y):TE [g26 c26,g19 c19,g29 c29,g12 c12,g33 c33,g30 c30,g34 c34,g31 c31,g32 c32] Tryz.f5 i5 o5 y=m5 c26 c19 c29 c12 c33 c30 c34 c31 c32 y:=by kernel_rfl
noncomputable def r5:F5:=m5 r26 r19 r29 r12 r33 r30 r34 r31 r32
theorem k5:KO (g5 r5):=fk (s5 r26 r19 r29 r12 r33 r30 r34 r31 r32) ⟨k26,k19,k29,k12,k33,k30,k34,k31,k32,⟨⟩⟩ (by kernel_rfl)
end Go.Proofs.YtgpifihakjdfeaaGreat.Plain
