/- Plain functions that the program's functions answer as; their contracts. Printed by a program of the proofs' writer. No condition. -/
import Derived.Test.YtjagjoolnoodaaaDoorX
import Derived.KernelRfl
import Derived.Test.YtjagjoolnoodaaaDoorProg
set_option linter.unusedVariables false
set_option linter.unusedSimpArgs false
set_option maxRecDepth 100000
namespace Go.Proofs.YtjagjoolnoodaaaDoor.Plain
open Go Go.Tev
theorem mixed : Tryd.prog.follows .mixedOrders = true := by kernel_rfl
noncomputable abbrev mkE (l : List (Nat × Tev.Fn)) : CEnv := ⟨⟨Tryd.prog, fnsL l⟩, loopsL []⟩
abbrev FT (i o : List Ty) := PTup i → Option (PTup o × BTup i)
abbrev Ts := List Ty
abbrev bz (l : List UInt8) : ByteArray := ⟨⟨l⟩⟩
noncomputable abbrev TE (l : List (Nat × Tev.Fn)) (f : Func) (i o : List Ty) := tevF (mkE l) f i o
abbrev no : Option ((Bool × Unit) × Unit) := some ((false, ()), ())
abbrev mkG (k : Nat) (i o : List Ty) (c : FT i o) : Nat × Tev.Fn := (k, ⟨i, o, c, .nor⟩)
abbrev KO (x : Nat × Tev.Fn) : Prop := CK Tryd.prog x
theorem fk {l : List (Nat × Tev.Fn)} {g : FuncId} {f : Func} {i o : List Ty} {run : FT i o} (h : ∀ y, tevF (mkE l) f i o y = run y) (hE : AllCalls Tryd.prog l) (hg : (Tryd.prog.funcs[g]?, staticOk f i o && (loopsOf (bodyOf f)).isEmpty) = (some f, true)) : KO (mkG g i o run) := by
  have hs := congrArg Prod.snd hg
  dsimp only at hs
  rw [Bool.and_eq_true, List.isEmpty_iff] at hs
  exact fn0 h (fnsL_ok hE) rfl mixed (congrArg Prod.fst hg) hs.1 hs.2
abbrev i39 : Ts := [.v (.int .i64)]
abbrev o39 : Ts := [.v .str]
abbrev F39 := FT i39 o39
abbrev g39 (c : F39) : Nat × Tev.Fn := mkG 39 i39 o39 c
noncomputable def r39 : F39 := itoaF.run
theorem k39 : KO (g39 r39) := itoaK
abbrev i23 : Ts := [.v (.sl false .s), .v .str]
abbrev o23 : Ts := [.v .str]
abbrev F23 := FT i23 o23
abbrev g23 (c : F23) : Nat × Tev.Fn := mkG 23 i23 o23 c
noncomputable def r23 : F23 := joinF.run
theorem k23 : KO (g23 r23) := joinK
abbrev q0 : List LT := [.int .i64, .int .i64, .int .i64, .int .i64, .bool, .bool, .bool, .bool]
abbrev q1 : List LT := [.sl false .b, .int .i64, .int .i64]
abbrev i28:Ts:=[.v (.int .i64), .v (.int .i64), .v (.int .i64)]
abbrev o28:Ts:=[.v (.bool)]
abbrev F28:=FT i28 o28
abbrev g28:=mkG 28 i28 o28
noncomputable def m28 (y:PTup i28):Option (PTup o28×BTup i28):=
  bif (leI y.2.1 y.1)then (some (((leI y.1 y.2.2.1),()),()))
  else no
theorem s28 (y):TE [] Tryd.f28 i28 o28 y=m28 y:=by kernel_rfl
noncomputable def r28:F28:=m28
theorem k28:KO (g28 r28):=fk (s28) trivial (by kernel_rfl)
abbrev i35:Ts:=[.v (.int .i64)]
abbrev o35:Ts:=[.v (.bool)]
abbrev F35:=FT i35 o35
abbrev g35:=mkG 35 i35 o35
noncomputable def m35 (c28:F28) (y:PTup i35):Option (PTup o35×BTup i35):=
  (c28 (y.1,((0:Int),((255:Int),())))).bind fun r0=>
  some (r0.1,())
theorem s35 (c28:F28) (y):TE [g28 c28] Tryd.f35 i35 o35 y=m35 c28 y:=by kernel_rfl
noncomputable def r35:F35:=m35 r28
theorem k35:KO (g35 r35):=fk (s35 r28) ⟨k28,⟨⟩⟩ (by kernel_rfl)
abbrev i21:Ts:=[.a q0]
abbrev o21:Ts:=[.v (.bool)]
abbrev F21:=FT i21 o21
abbrev g21:=mkG 21 i21 o21
noncomputable def m21 (c28:F28) (c35:F35) (y:PTup i21):Option (PTup o21×BTup i21):=
  (c35 (y.1.1,())).bind fun r0=>
  bif r0.1.1 then ((c35 (y.1.2.1,())).bind fun r1=>
   bif r1.1.1 then ((c35 (y.1.2.2.1,())).bind fun r2=>
    bif r2.1.1 then ((c28 (y.1.2.2.2.1,((0:Int),((65535:Int),())))).bind fun r3=>
     some (r3.1,()))
    else no)
   else no)
  else no
theorem s21 (c28:F28) (c35:F35) (y):TE [g28 c28,g35 c35] Tryd.f21 i21 o21 y=m21 c28 c35 y:=by kernel_rfl
noncomputable def r21:F21:=m21 r28 r35
theorem k21:KO (g21 r21):=fk (s21 r28 r35) ⟨k28,k35,⟨⟩⟩ (by kernel_rfl)
abbrev i22:Ts:=[.v (.int .i64)]
abbrev o22:Ts:=[.v (.str)]
abbrev F22:=FT i22 o22
abbrev g22:=mkG 22 i22 o22
abbrev lc22_0:Ts:=[]
abbrev lb22_0:Ts:=[]
abbrev lv22_0:Ts:=[.v (.int .i64), .v (.str)]
abbrev lr22_0:Ts:=[]
abbrev R22_0:=Option (Sum (PTup lv22_0) (PTup lr22_0)×BTup lb22_0)
abbrev B22_0:=PTup lb22_0→PTup lv22_0→R22_0
abbrev A22_0:=PTup lc22_0→B22_0
noncomputable def w22_0 (again:B22_0) (x:PTup lc22_0) (y:PTup lb22_0) (z:PTup lv22_0):R22_0:=
  bif (ltI 0 z.1)then (bif (leN ((ByteArray.size (strOf ((wB (wI ((48:Int)+(Int.tmod z.1 10))))::[])))+(ByteArray.size z.2.1)) (4611686018427387904:Nat))then (again () ((wI (Int.tdiv z.1 10)),(((strOf ((wB (wI ((48:Int)+(Int.tmod z.1 10))))::[]))++z.2.1),())))
   else none)
  else some ((Sum.inl z),())
noncomputable def e22_0 (l:A22_0):LoopE:=⟨[],lc22_0,[],lb22_0,[0,3],lv22_0,[],lr22_0,0,[],l⟩
noncomputable def m22 (l0:A22_0) (y:PTup i22):Option (PTup o22×BTup i22):=
  bif (eqI y.1 0)then (some (((bz [48]),()),()))
  else (l0 () () (y.1,((bz []),()))).bind fun r0=>
  sumElim r0.1 (fun r1=>some (r1.2,()))
  (fun r1=>some (((bz []),()),()))
noncomputable def E22 (l0:A22_0):CEnv:=⟨⟨Tryd.prog,fnsL []⟩,loopsL [(4,e22_0 l0)]⟩
theorem t22_0 (l0:A22_0) (again) (x y z):loopRound (E22 l0) (loopAt (bodyOf Tryd.f22) 0) (e22_0 l0) Tryd.f22.ntmps again x y z=w22_0 again x y z:=by kernel_rfl
noncomputable def n22_0:Nat→A22_0
  |0,_,_,_=>none
  |n+1,x,y,z=>w22_0 (fun y z=>n22_0 n x y z) x y z
theorem s22 (l0:A22_0) (y):tevF (E22 l0) Tryd.f22 i22 o22 y=m22 l0 y:=by kernel_rfl
noncomputable def L22_0:A22_0:=n22_0 fuel
noncomputable def r22:F22:=m22 L22_0
theorem k22:KO (g22 r22):=by
  have hE: ∀g f,(E22 L22_0).env.fns g=some f→CallOk Tryd.prog g f:=fnsL_ok trivial
  have h0:LoopOk Tryd.prog Tryd.f22.ntmps (loopAt (bodyOf Tryd.f22) 0) (e22_0 L22_0):=lp_ok (E:=E22 L22_0) rfl hE mixed (AllLoops.of_list (l:=[]) (by kernel_rfl) trivial) (n22_0) (fun _ _ _=>rfl) (fun n x y z=>t22_0 L22_0 _ x y z) rfl
  exact fn_ok (E:=E22 L22_0) rfl hE mixed (by kernel_rfl) (by kernel_rfl) (AllLoops.of_list (l:=[(loopAt (bodyOf Tryd.f22) 0)]) (by kernel_rfl) (.one (by kernel_rfl) h0 trivial)) (s22 L22_0)
abbrev i5:Ts:=[.a q0]
abbrev o5:Ts:=[.v (.str)]
abbrev F5:=FT i5 o5
abbrev g5:=mkG 5 i5 o5
noncomputable def m5 (c21:F21) (c22:F22) (y:PTup i5):Option (PTup o5×BTup i5):=
  (c21 (y.1,())).bind fun r0=>bif (!r0.1.1)then (some (((bz []),()),()))else (c22 (y.1.1,())).bind fun r1=>bif (leN ((ByteArray.size (bz [65]))+(ByteArray.size r1.1.1)) (4611686018427387904:Nat))then (bif (leN ((ByteArray.size ((bz [65])++r1.1.1))+(ByteArray.size (bz [32,88]))) (4611686018427387904:Nat))then ((c22 (y.1.2.1,())).bind fun r2=>bif (leN ((ByteArray.size (((bz [65])++r1.1.1)++(bz [32,88])))+(ByteArray.size r2.1.1)) (4611686018427387904:Nat))then (bif (leN ((ByteArray.size ((((bz [65])++r1.1.1)++(bz [32,88]))++r2.1.1))+(ByteArray.size (bz [32,83]))) (4611686018427387904:Nat))then ((c22 (y.1.2.2.1,())).bind fun r3=>bif (leN ((ByteArray.size (((((bz [65])++r1.1.1)++(bz [32,88]))++r2.1.1)++(bz [32,83])))+(ByteArray.size r3.1.1)) (4611686018427387904:Nat))then (bif (leN ((ByteArray.size ((((((bz [65])++r1.1.1)++(bz [32,88]))++r2.1.1)++(bz [32,83]))++r3.1.1))+(ByteArray.size (bz [32,80,99]))) (4611686018427387904:Nat))then ((c22 (y.1.2.2.2.1,())).bind fun r4=>bif (leN ((ByteArray.size (((((((bz [65])++r1.1.1)++(bz [32,88]))++r2.1.1)++(bz [32,83]))++r3.1.1)++(bz [32,80,99])))+(ByteArray.size r4.1.1)) (4611686018427387904:Nat))then (bif (leN ((ByteArray.size ((((((((bz [65])++r1.1.1)++(bz [32,88]))++r2.1.1)++(bz [32,83]))++r3.1.1)++(bz [32,80,99]))++r4.1.1))+(ByteArray.size (bz [32]))) (4611686018427387904:Nat))then (bif y.1.2.2.2.2.2.2.1 then (bif y.1.2.2.2.2.1 then (bif y.1.2.2.2.2.2.2.2.1 then (bif y.1.2.2.2.2.2.1 then (bif (leN ((ByteArray.size (((((((((bz [65])++r1.1.1)++(bz [32,88]))++r2.1.1)++(bz [32,83]))++r3.1.1)++(bz [32,80,99]))++r4.1.1)++(bz [32])))+(ByteArray.size (((((bz [])++(bz [67]))++(bz [90]))++(bz [73]))++(bz [78])))) (4611686018427387904:Nat))then (some ((((((((((((bz [65])++r1.1.1)++(bz [32,88]))++r2.1.1)++(bz [32,83]))++r3.1.1)++(bz [32,80,99]))++r4.1.1)++(bz [32]))++(((((bz [])++(bz [67]))++(bz [90]))++(bz [73]))++(bz [78]))),()),()))else none)else bif (leN ((ByteArray.size (((((((((bz [65])++r1.1.1)++(bz [32,88]))++r2.1.1)++(bz [32,83]))++r3.1.1)++(bz [32,80,99]))++r4.1.1)++(bz [32])))+(ByteArray.size ((((bz [])++(bz [67]))++(bz [90]))++(bz [73])))) (4611686018427387904:Nat))then (some ((((((((((((bz [65])++r1.1.1)++(bz [32,88]))++r2.1.1)++(bz [32,83]))++r3.1.1)++(bz [32,80,99]))++r4.1.1)++(bz [32]))++((((bz [])++(bz [67]))++(bz [90]))++(bz [73]))),()),()))else none)else bif y.1.2.2.2.2.2.1 then (bif (leN ((ByteArray.size (((((((((bz [65])++r1.1.1)++(bz [32,88]))++r2.1.1)++(bz [32,83]))++r3.1.1)++(bz [32,80,99]))++r4.1.1)++(bz [32])))+(ByteArray.size ((((bz [])++(bz [67]))++(bz [90]))++(bz [78])))) (4611686018427387904:Nat))then (some ((((((((((((bz [65])++r1.1.1)++(bz [32,88]))++r2.1.1)++(bz [32,83]))++r3.1.1)++(bz [32,80,99]))++r4.1.1)++(bz [32]))++((((bz [])++(bz [67]))++(bz [90]))++(bz [78]))),()),()))else none)else bif (leN ((ByteArray.size (((((((((bz [65])++r1.1.1)++(bz [32,88]))++r2.1.1)++(bz [32,83]))++r3.1.1)++(bz [32,80,99]))++r4.1.1)++(bz [32])))+(ByteArray.size (((bz [])++(bz [67]))++(bz [90])))) (4611686018427387904:Nat))then (some ((((((((((((bz [65])++r1.1.1)++(bz [32,88]))++r2.1.1)++(bz [32,83]))++r3.1.1)++(bz [32,80,99]))++r4.1.1)++(bz [32]))++(((bz [])++(bz [67]))++(bz [90]))),()),()))else none)else bif y.1.2.2.2.2.2.2.2.1 then (bif y.1.2.2.2.2.2.1 then (bif (leN ((ByteArray.size (((((((((bz [65])++r1.1.1)++(bz [32,88]))++r2.1.1)++(bz [32,83]))++r3.1.1)++(bz [32,80,99]))++r4.1.1)++(bz [32])))+(ByteArray.size ((((bz [])++(bz [67]))++(bz [73]))++(bz [78])))) (4611686018427387904:Nat))then (some ((((((((((((bz [65])++r1.1.1)++(bz [32,88]))++r2.1.1)++(bz [32,83]))++r3.1.1)++(bz [32,80,99]))++r4.1.1)++(bz [32]))++((((bz [])++(bz [67]))++(bz [73]))++(bz [78]))),()),()))else none)else bif (leN ((ByteArray.size (((((((((bz [65])++r1.1.1)++(bz [32,88]))++r2.1.1)++(bz [32,83]))++r3.1.1)++(bz [32,80,99]))++r4.1.1)++(bz [32])))+(ByteArray.size (((bz [])++(bz [67]))++(bz [73])))) (4611686018427387904:Nat))then (some ((((((((((((bz [65])++r1.1.1)++(bz [32,88]))++r2.1.1)++(bz [32,83]))++r3.1.1)++(bz [32,80,99]))++r4.1.1)++(bz [32]))++(((bz [])++(bz [67]))++(bz [73]))),()),()))else none)else bif y.1.2.2.2.2.2.1 then (bif (leN ((ByteArray.size (((((((((bz [65])++r1.1.1)++(bz [32,88]))++r2.1.1)++(bz [32,83]))++r3.1.1)++(bz [32,80,99]))++r4.1.1)++(bz [32])))+(ByteArray.size (((bz [])++(bz [67]))++(bz [78])))) (4611686018427387904:Nat))then (some ((((((((((((bz [65])++r1.1.1)++(bz [32,88]))++r2.1.1)++(bz [32,83]))++r3.1.1)++(bz [32,80,99]))++r4.1.1)++(bz [32]))++(((bz [])++(bz [67]))++(bz [78]))),()),()))else none)else bif (leN ((ByteArray.size (((((((((bz [65])++r1.1.1)++(bz [32,88]))++r2.1.1)++(bz [32,83]))++r3.1.1)++(bz [32,80,99]))++r4.1.1)++(bz [32])))+(ByteArray.size ((bz [])++(bz [67])))) (4611686018427387904:Nat))then (some ((((((((((((bz [65])++r1.1.1)++(bz [32,88]))++r2.1.1)++(bz [32,83]))++r3.1.1)++(bz [32,80,99]))++r4.1.1)++(bz [32]))++((bz [])++(bz [67]))),()),()))else none)else bif y.1.2.2.2.2.1 then (bif y.1.2.2.2.2.2.2.2.1 then (bif y.1.2.2.2.2.2.1 then (bif (leN ((ByteArray.size (((((((((bz [65])++r1.1.1)++(bz [32,88]))++r2.1.1)++(bz [32,83]))++r3.1.1)++(bz [32,80,99]))++r4.1.1)++(bz [32])))+(ByteArray.size ((((bz [])++(bz [90]))++(bz [73]))++(bz [78])))) (4611686018427387904:Nat))then (some ((((((((((((bz [65])++r1.1.1)++(bz [32,88]))++r2.1.1)++(bz [32,83]))++r3.1.1)++(bz [32,80,99]))++r4.1.1)++(bz [32]))++((((bz [])++(bz [90]))++(bz [73]))++(bz [78]))),()),()))else none)else bif (leN ((ByteArray.size (((((((((bz [65])++r1.1.1)++(bz [32,88]))++r2.1.1)++(bz [32,83]))++r3.1.1)++(bz [32,80,99]))++r4.1.1)++(bz [32])))+(ByteArray.size (((bz [])++(bz [90]))++(bz [73])))) (4611686018427387904:Nat))then (some ((((((((((((bz [65])++r1.1.1)++(bz [32,88]))++r2.1.1)++(bz [32,83]))++r3.1.1)++(bz [32,80,99]))++r4.1.1)++(bz [32]))++(((bz [])++(bz [90]))++(bz [73]))),()),()))else none)else bif y.1.2.2.2.2.2.1 then (bif (leN ((ByteArray.size (((((((((bz [65])++r1.1.1)++(bz [32,88]))++r2.1.1)++(bz [32,83]))++r3.1.1)++(bz [32,80,99]))++r4.1.1)++(bz [32])))+(ByteArray.size (((bz [])++(bz [90]))++(bz [78])))) (4611686018427387904:Nat))then (some ((((((((((((bz [65])++r1.1.1)++(bz [32,88]))++r2.1.1)++(bz [32,83]))++r3.1.1)++(bz [32,80,99]))++r4.1.1)++(bz [32]))++(((bz [])++(bz [90]))++(bz [78]))),()),()))else none)else bif (leN ((ByteArray.size (((((((((bz [65])++r1.1.1)++(bz [32,88]))++r2.1.1)++(bz [32,83]))++r3.1.1)++(bz [32,80,99]))++r4.1.1)++(bz [32])))+(ByteArray.size ((bz [])++(bz [90])))) (4611686018427387904:Nat))then (some ((((((((((((bz [65])++r1.1.1)++(bz [32,88]))++r2.1.1)++(bz [32,83]))++r3.1.1)++(bz [32,80,99]))++r4.1.1)++(bz [32]))++((bz [])++(bz [90]))),()),()))else none)else bif y.1.2.2.2.2.2.2.2.1 then (bif y.1.2.2.2.2.2.1 then (bif (leN ((ByteArray.size (((((((((bz [65])++r1.1.1)++(bz [32,88]))++r2.1.1)++(bz [32,83]))++r3.1.1)++(bz [32,80,99]))++r4.1.1)++(bz [32])))+(ByteArray.size (((bz [])++(bz [73]))++(bz [78])))) (4611686018427387904:Nat))then (some ((((((((((((bz [65])++r1.1.1)++(bz [32,88]))++r2.1.1)++(bz [32,83]))++r3.1.1)++(bz [32,80,99]))++r4.1.1)++(bz [32]))++(((bz [])++(bz [73]))++(bz [78]))),()),()))else none)else bif (leN ((ByteArray.size (((((((((bz [65])++r1.1.1)++(bz [32,88]))++r2.1.1)++(bz [32,83]))++r3.1.1)++(bz [32,80,99]))++r4.1.1)++(bz [32])))+(ByteArray.size ((bz [])++(bz [73])))) (4611686018427387904:Nat))then (some ((((((((((((bz [65])++r1.1.1)++(bz [32,88]))++r2.1.1)++(bz [32,83]))++r3.1.1)++(bz [32,80,99]))++r4.1.1)++(bz [32]))++((bz [])++(bz [73]))),()),()))else none)else bif y.1.2.2.2.2.2.1 then (bif (leN ((ByteArray.size (((((((((bz [65])++r1.1.1)++(bz [32,88]))++r2.1.1)++(bz [32,83]))++r3.1.1)++(bz [32,80,99]))++r4.1.1)++(bz [32])))+(ByteArray.size ((bz [])++(bz [78])))) (4611686018427387904:Nat))then (some ((((((((((((bz [65])++r1.1.1)++(bz [32,88]))++r2.1.1)++(bz [32,83]))++r3.1.1)++(bz [32,80,99]))++r4.1.1)++(bz [32]))++((bz [])++(bz [78]))),()),()))else none)else bif (leN ((ByteArray.size (((((((((bz [65])++r1.1.1)++(bz [32,88]))++r2.1.1)++(bz [32,83]))++r3.1.1)++(bz [32,80,99]))++r4.1.1)++(bz [32])))+(ByteArray.size (bz [45]))) (4611686018427387904:Nat))then (some ((((((((((((bz [65])++r1.1.1)++(bz [32,88]))++r2.1.1)++(bz [32,83]))++r3.1.1)++(bz [32,80,99]))++r4.1.1)++(bz [32]))++(bz [45])),()),()))else none)else none)else none)else none)else none)else none)else none)else none)else none
theorem s5 (c21:F21) (c22:F22) (y):TE [g21 c21,g22 c22] Tryd.f5 i5 o5 y=m5 c21 c22 y:=by kernel_rfl
noncomputable def r5:F5:=m5 r21 r22
theorem k5:KO (g5 r5):=fk (s5 r21 r22) ⟨k21,k22,⟨⟩⟩ (by kernel_rfl)
abbrev i34:Ts:=[.v (.int .i64), .v (.int .i64), .v (.int .i64)]
abbrev o34:Ts:=[.v (.bool)]
abbrev F34:=FT i34 o34
abbrev g34:=mkG 34 i34 o34
noncomputable def m34 (y:PTup i34):Option (PTup o34×BTup i34):=
  bif (leI y.2.1 y.1)then (some (((leI y.1 y.2.2.1),()),()))
  else no
theorem s34 (y):TE [] Tryd.f34 i34 o34 y=m34 y:=by kernel_rfl
noncomputable def r34:F34:=m34
theorem k34:KO (g34 r34):=fk (s34) trivial (by kernel_rfl)
abbrev i33:Ts:=[.v (.int .i64)]
abbrev o33:Ts:=[.v (.bool)]
abbrev F33:=FT i33 o33
abbrev g33:=mkG 33 i33 o33
noncomputable def m33 (c34:F34) (y:PTup i33):Option (PTup o33×BTup i33):=
  (c34 (y.1,((0:Int),((255:Int),())))).bind fun r0=>
  some (r0.1,())
theorem s33 (c34:F34) (y):TE [g34 c34] Tryd.f33 i33 o33 y=m33 c34 y:=by kernel_rfl
noncomputable def r33:F33:=m33 r34
theorem k33:KO (g33 r33):=fk (s33 r34) ⟨k34,⟨⟩⟩ (by kernel_rfl)
abbrev i20:Ts:=[.a q0]
abbrev o20:Ts:=[.v (.bool)]
abbrev F20:=FT i20 o20
abbrev g20:=mkG 20 i20 o20
noncomputable def m20 (c33:F33) (c34:F34) (y:PTup i20):Option (PTup o20×BTup i20):=
  (c33 (y.1.1,())).bind fun r0=>
  bif r0.1.1 then ((c33 (y.1.2.1,())).bind fun r1=>
   bif r1.1.1 then ((c33 (y.1.2.2.1,())).bind fun r2=>
    bif r2.1.1 then ((c34 (y.1.2.2.2.1,((0:Int),((65535:Int),())))).bind fun r3=>
     some (r3.1,()))
    else no)
   else no)
  else no
theorem s20 (c33:F33) (c34:F34) (y):TE [g33 c33,g34 c34] Tryd.f20 i20 o20 y=m20 c33 c34 y:=by kernel_rfl
noncomputable def r20:F20:=m20 r33 r34
theorem k20:KO (g20 r20):=fk (s20 r33 r34) ⟨k33,k34,⟨⟩⟩ (by kernel_rfl)
abbrev i24:Ts:=[.v (.int .i64)]
abbrev o24:Ts:=[.v (.str)]
abbrev F24:=FT i24 o24
abbrev g24:=mkG 24 i24 o24
noncomputable def m24 (c39:F39) (y:PTup i24):Option (PTup o24×BTup i24):=
  (c39 y).bind fun r0=>
  some (r0.1,())
theorem s24 (c39:F39) (y):TE [g39 c39] Tryd.f24 i24 o24 y=m24 c39 y:=by kernel_rfl
noncomputable def r24:F24:=m24 r39
theorem k24:KO (g24 r24):=fk (s24 r39) ⟨k39,⟨⟩⟩ (by kernel_rfl)
abbrev i7:Ts:=[.a q0]
abbrev o7:Ts:=[.v (.str)]
abbrev F7:=FT i7 o7
abbrev g7:=mkG 7 i7 o7
abbrev lc7_0:Ts:=[.v (.sl false .o), .v (.int .i64)]
abbrev lb7_0:Ts:=[]
abbrev lv7_0:Ts:=[.v (.str), .v (.int .i64)]
abbrev lr7_0:Ts:=[]
abbrev R7_0:=Option (Sum (PTup lv7_0) (PTup lr7_0)×BTup lb7_0)
abbrev B7_0:=PTup lb7_0→PTup lv7_0→R7_0
abbrev A7_0:=PTup lc7_0→B7_0
noncomputable def w7_0 (c20:F20) (c24:F24) (c23:F23) (again:B7_0) (x:PTup lc7_0) (y:PTup lb7_0) (z:PTup lv7_0):R7_0:=
  bif (ltI z.2.1 x.2.1)then (bif (leI 0 z.2.1)then (bif (ltI z.2.1 (lenI x.1))then (bif (rdE .o x.1 z.2.1)then (bif (leI 0 (wI (z.2.1+1)))then (bif (leI (wI (z.2.1+1)) ((((ByteArray.size (bz [67,90,73,78])):Nat)):Int))then (bif (leI 0 z.2.1)then (bif (leI z.2.1 (wI (z.2.1+1)))then (bif (leN ((ByteArray.size z.1)+(ByteArray.size (ByteArray.extract (bz [67,90,73,78]) (Int.toNat z.2.1) (Int.toNat (wI (z.2.1+1)))))) (4611686018427387904:Nat))then (again () ((z.1++(ByteArray.extract (bz [67,90,73,78]) (Int.toNat z.2.1) (Int.toNat (wI (z.2.1+1))))),((wI (z.2.1+1)),())))
          else none)
         else none)
        else none)
       else none)
      else none)
     else again () (z.1,((wI (z.2.1+1)),())))
    else none)
   else none)
  else some ((Sum.inl z),())
noncomputable def e7_0 (l:A7_0):LoopE:=⟨[17,18],lc7_0,[],lb7_0,[3,19],lv7_0,[],lr7_0,0,[],l⟩
noncomputable def m7 (c20:F20) (c24:F24) (c23:F23) (l0:A7_0) (y:PTup i7):Option (PTup o7×BTup i7):=
  (c20 (y.1,())).bind fun r0=>
  bif (!r0.1.1)then (some (((bz []),()),()))
  else (l0 ((y.1.2.2.2.2.2.2.1::(y.1.2.2.2.2.1::(y.1.2.2.2.2.2.2.2.1::(y.1.2.2.2.2.2.1::[])))),((lenI (y.1.2.2.2.2.2.2.1::(y.1.2.2.2.2.1::(y.1.2.2.2.2.2.2.2.1::(y.1.2.2.2.2.2.1::[]))))),())) () ((bz []),((0:Int),()))).bind fun r1=>
  sumElim r1.1 (fun r2=>bif ((ByteArray.toList r2.1)==(ByteArray.toList (bz [])))then ((c24 (y.1.1,())).bind fun r3=>
    bif (leN ((ByteArray.size (bz [65]))+(ByteArray.size r3.1.1)) (4611686018427387904:Nat))then ((c24 (y.1.2.1,())).bind fun r4=>
     bif (leN ((ByteArray.size (bz [88]))+(ByteArray.size r4.1.1)) (4611686018427387904:Nat))then ((c24 (y.1.2.2.1,())).bind fun r5=>
      bif (leN ((ByteArray.size (bz [83]))+(ByteArray.size r5.1.1)) (4611686018427387904:Nat))then ((c24 (y.1.2.2.2.1,())).bind fun r6=>
       bif (leN ((ByteArray.size (bz [80,99]))+(ByteArray.size r6.1.1)) (4611686018427387904:Nat))then ((c23 ((((bz [65])++r3.1.1)::(((bz [88])++r4.1.1)::(((bz [83])++r5.1.1)::(((bz [80,99])++r6.1.1)::((bz [45])::[]))))),((bz [32]),()))).bind fun r7=>
        some (r7.1,()))
       else none)
      else none)
     else none)
    else none)
   else (c24 (y.1.1,())).bind fun r3=>
   bif (leN ((ByteArray.size (bz [65]))+(ByteArray.size r3.1.1)) (4611686018427387904:Nat))then ((c24 (y.1.2.1,())).bind fun r4=>
    bif (leN ((ByteArray.size (bz [88]))+(ByteArray.size r4.1.1)) (4611686018427387904:Nat))then ((c24 (y.1.2.2.1,())).bind fun r5=>
     bif (leN ((ByteArray.size (bz [83]))+(ByteArray.size r5.1.1)) (4611686018427387904:Nat))then ((c24 (y.1.2.2.2.1,())).bind fun r6=>
      bif (leN ((ByteArray.size (bz [80,99]))+(ByteArray.size r6.1.1)) (4611686018427387904:Nat))then ((c23 ((((bz [65])++r3.1.1)::(((bz [88])++r4.1.1)::(((bz [83])++r5.1.1)::(((bz [80,99])++r6.1.1)::(r2.1::[]))))),((bz [32]),()))).bind fun r7=>
       some (r7.1,()))
      else none)
     else none)
    else none)
   else none)
  (fun r2=>some (((bz []),()),()))
noncomputable def E7 (c20:F20) (c24:F24) (c23:F23) (l0:A7_0):CEnv:=⟨⟨Tryd.prog,fnsL [g20 c20,g24 c24,g23 c23]⟩,loopsL [(5,e7_0 l0)]⟩
theorem t7_0 (c20:F20) (c24:F24) (c23:F23) (l0:A7_0) (again) (x y z):loopRound (E7 c20 c24 c23 l0) (loopAt (bodyOf Tryd.f7) 0) (e7_0 l0) Tryd.f7.ntmps again x y z=w7_0 c20 c24 c23 again x y z:=by kernel_rfl
noncomputable def n7_0 (c20:F20) (c24:F24) (c23:F23):Nat→A7_0
  |0,_,_,_=>none
  |n+1,x,y,z=>w7_0 c20 c24 c23 (fun y z=>n7_0 c20 c24 c23 n x y z) x y z
theorem s7 (c20:F20) (c24:F24) (c23:F23) (l0:A7_0) (y):tevF (E7 c20 c24 c23 l0) Tryd.f7 i7 o7 y=m7 c20 c24 c23 l0 y:=by kernel_rfl
noncomputable def L7_0:A7_0:=n7_0 r20 r24 r23 fuel
noncomputable def r7:F7:=m7 r20 r24 r23 L7_0
theorem k7:KO (g7 r7):=by
  have hE: ∀g f,(E7 r20 r24 r23 L7_0).env.fns g=some f→CallOk Tryd.prog g f:=fnsL_ok ⟨k20,k24,k23,⟨⟩⟩
  have h0:LoopOk Tryd.prog Tryd.f7.ntmps (loopAt (bodyOf Tryd.f7) 0) (e7_0 L7_0):=lp_ok (E:=E7 r20 r24 r23 L7_0) rfl hE mixed (AllLoops.of_list (l:=[]) (by kernel_rfl) trivial) (n7_0 r20 r24 r23) (fun _ _ _=>rfl) (fun n x y z=>t7_0 r20 r24 r23 L7_0 _ x y z) rfl
  exact fn_ok (E:=E7 r20 r24 r23 L7_0) rfl hE mixed (by kernel_rfl) (by kernel_rfl) (AllLoops.of_list (l:=[(loopAt (bodyOf Tryd.f7) 0)]) (by kernel_rfl) (.one (by kernel_rfl) h0 trivial)) (s7 r20 r24 r23 L7_0)
abbrev i8:Ts:=[.v (.sl false .b)]
abbrev o8:Ts:=[.v (.bool)]
abbrev F8:=FT i8 o8
abbrev g8:=mkG 8 i8 o8
noncomputable def m8 (y:PTup i8):Option (PTup o8×BTup i8):=
  some (((ltI 1048576 (lenI y.1)),()),())
theorem s8 (y):TE [] Tryd.f8 i8 o8 y=m8 y:=by kernel_rfl
noncomputable def r8:F8:=m8
theorem k8:KO (g8 r8):=fk (s8) trivial (by kernel_rfl)
abbrev i26:Ts:=[.v (.sl false .b)]
abbrev o26:Ts:=[.p q1]
abbrev F26:=FT i26 o26
abbrev g26 (c:F26):Nat×Tev.Fn:=(26,⟨i26,o26,c, .lnt⟩)
abbrev lc26_0:Ts:=[.v (.sl false .b)]
abbrev lb26_0:Ts:=[]
abbrev lv26_0:Ts:=[.v (.int .i64), .v (.int .i64)]
abbrev lr26_0:Ts:=[]
abbrev R26_0:=Option (Sum (PTup lv26_0) (PTup lr26_0)×BTup lb26_0)
abbrev B26_0:=PTup lb26_0→PTup lv26_0→R26_0
abbrev A26_0:=PTup lc26_0→B26_0
noncomputable def w26_0 (again:B26_0) (x:PTup lc26_0) (y:PTup lb26_0) (z:PTup lv26_0):R26_0:=
  bif (ltI z.2.1 (lenI x.1))then (bif (ltI z.2.1 4000)then (bif (leI 0 z.2.1)then (bif (ltI z.2.1 (lenI x.1))then (again () ((bAnd Go.IntKind.i64 (wI ((wI ((wI (z.1*131))+(wI (rdE .b x.1 z.2.1))))+7)) (1073741823:Int)),((wI (z.2.1+1)),())))
     else none)
    else none)
   else some ((Sum.inl z),()))
  else some ((Sum.inl z),())
noncomputable def e26_0 (l:A26_0):LoopE:=⟨[0],lc26_0,[],lb26_0,[3,4],lv26_0,[],lr26_0,0,[],l⟩
noncomputable def m26 (l0:A26_0) (y:PTup i26):Option (PTup o26×BTup i26):=
  (l0 y () ((wI ((18554:Int)+(lenI y.1))),((0:Int),()))).bind fun r0=>
  sumElim r0.1 (fun r1=>some (((y.1,((0:Int),(r1.1,()))),()),()))
  (fun r1=>none)
noncomputable def E26 (l0:A26_0):CEnv:=⟨⟨Tryd.prog,fnsL []⟩,loopsL [(3,e26_0 l0)]⟩
theorem t26_0 (l0:A26_0) (again) (x y z):loopRound (E26 l0) (loopAt (bodyOf Tryd.f26) 0) (e26_0 l0) Tryd.f26.ntmps again x y z=w26_0 again x y z:=by kernel_rfl
noncomputable def n26_0:Nat→A26_0
  |0,_,_,_=>none
  |n+1,x,y,z=>w26_0 (fun y z=>n26_0 n x y z) x y z
theorem s26 (l0:A26_0) (y):tevL (E26 l0) Tryd.f26 i26 o26 y=m26 l0 y:=by kernel_rfl
noncomputable def L26_0:A26_0:=n26_0 fuel
noncomputable def r26:F26:=m26 L26_0
theorem k26:KO (g26 r26):=by
  have hE: ∀g f,(E26 L26_0).env.fns g=some f→CallOk Tryd.prog g f:=fnsL_ok trivial
  have h0:LoopOk Tryd.prog Tryd.f26.ntmps (loopAt (bodyOf Tryd.f26) 0) (e26_0 L26_0):=lp_ok (E:=E26 L26_0) rfl hE mixed (AllLoops.of_list (l:=[]) (by kernel_rfl) trivial) (n26_0) (fun _ _ _=>rfl) (fun n x y z=>t26_0 L26_0 _ x y z) rfl
  exact fnL_ok (E:=E26 L26_0) rfl hE mixed (by kernel_rfl) (by kernel_rfl) (AllLoops.of_list (l:=[(loopAt (bodyOf Tryd.f26) 0)]) (by kernel_rfl) (.one (by kernel_rfl) h0 trivial)) (s26 L26_0)
abbrev i40:Ts:=[.p q1]
abbrev o40:Ts:=[.v (.int .i64)]
abbrev F40:=FT i40 o40
abbrev g40:=mkG 40 i40 o40
noncomputable def m40 (y:PTup i40):Option (PTup o40×BTup i40):=
  bif (ltI y.1.2.1 (lenI y.1.1))then (bif (leI 0 y.1.2.1)then (bif (ltI y.1.2.1 (lenI y.1.1))then (some (((bAnd Go.IntKind.i64 (wI ((bAnd Go.IntKind.i64 (bXor Go.IntKind.i64 (Int.fdiv (wI ((wI (y.1.2.2.1*6364136223846793005))+1442695040888963407)) ((2:Int)^(Min.min (Int.toNat (33:Int)) (64:Nat)))) (Int.fdiv (wI ((wI (y.1.2.2.1*6364136223846793005))+1442695040888963407)) ((2:Int)^(Min.min (Int.toNat (45:Int)) (64:Nat))))) (255:Int))+(wI (rdE .b y.1.1 y.1.2.1)))) (255:Int)),()),((y.1.1,((wI (y.1.2.1+1)),((wI ((wI (y.1.2.2.1*6364136223846793005))+1442695040888963407)),()))),())))
    else none)
   else none)
  else some (((bAnd Go.IntKind.i64 (bXor Go.IntKind.i64 (Int.fdiv (wI ((wI (y.1.2.2.1*6364136223846793005))+1442695040888963407)) ((2:Int)^(Min.min (Int.toNat (33:Int)) (64:Nat)))) (Int.fdiv (wI ((wI (y.1.2.2.1*6364136223846793005))+1442695040888963407)) ((2:Int)^(Min.min (Int.toNat (45:Int)) (64:Nat))))) (255:Int)),()),((y.1.1,(y.1.2.1,((wI ((wI (y.1.2.2.1*6364136223846793005))+1442695040888963407)),()))),()))
theorem s40 (y):TE [] Tryd.f40 i40 o40 y=m40 y:=by kernel_rfl
noncomputable def r40:F40:=m40
theorem k40:KO (g40 r40):=fk (s40) trivial (by kernel_rfl)
abbrev i29:Ts:=[.p q1, .v (.int .i64)]
abbrev o29:Ts:=[.v (.int .i64)]
abbrev F29:=FT i29 o29
abbrev g29:=mkG 29 i29 o29
noncomputable def m29 (c40:F40) (y:PTup i29):Option (PTup o29×BTup i29):=
  bif (leI y.2.1 0)then (some (((0:Int),()),(y.1,())))
  else bif (leI y.2.1 256)then ((c40 (y.1,())).bind fun r0=>
   bif (neI y.2.1 0)then (some (((Int.tmod r0.1.1 y.2.1),()),((y.1.1,r0.2.1.2),())))
   else none)
  else (c40 (y.1,())).bind fun r0=>
  (c40 ((y.1.1,r0.2.1.2),())).bind fun r1=>
  (c40 ((y.1.1,r1.2.1.2),())).bind fun r2=>
  (c40 ((y.1.1,r2.2.1.2),())).bind fun r3=>
  bif (neI y.2.1 0)then (some (((Int.tmod (wI ((wI ((wI ((wI (r0.1.1*16777216))+(wI (r1.1.1*65536))))+(wI (r2.1.1*256))))+r3.1.1)) y.2.1),()),((y.1.1,r3.2.1.2),())))
  else none
theorem s29 (c40:F40) (y):TE [g40 c40] Tryd.f29 i29 o29 y=m29 c40 y:=by kernel_rfl
noncomputable def r29:F29:=m29 r40
theorem k29:KO (g29 r29):=fk (s29 r40) ⟨k40,⟨⟩⟩ (by kernel_rfl)
abbrev i31:Ts:=[.p q1, .v (.sl false .i)]
abbrev o31:Ts:=[.v (.int .i64)]
abbrev F31:=FT i31 o31
abbrev g31:=mkG 31 i31 o31
noncomputable def m31 (c29:F29) (y:PTup i31):Option (PTup o31×BTup i31):=
  (c29 (y.1,((lenI y.2.1),()))).bind fun r0=>
  bif (leI 0 r0.1.1)then (bif (ltI r0.1.1 (lenI y.2.1))then (some (((rdE .i y.2.1 r0.1.1),()),((y.1.1,r0.2.1.2),())))
   else none)
  else none
theorem s31 (c29:F29) (y):TE [g29 c29] Tryd.f31 i31 o31 y=m31 c29 y:=by kernel_rfl
noncomputable def r31:F31:=m31 r29
theorem k31:KO (g31 r31):=fk (s31 r29) ⟨k29,⟨⟩⟩ (by kernel_rfl)
abbrev i25:Ts:=[.p q1]
abbrev o25:Ts:=[.v (.sl true .i)]
abbrev F25:=FT i25 o25
abbrev g25:=mkG 25 i25 o25
abbrev lc25_0:Ts:=[]
abbrev lb25_0:Ts:=[.p q1]
abbrev lv25_0:Ts:=[.v (.sl true .i), .v (.int .i64)]
abbrev lr25_0:Ts:=[]
abbrev R25_0:=Option (Sum (PTup lv25_0) (PTup lr25_0)×BTup lb25_0)
abbrev B25_0:=PTup lb25_0→PTup lv25_0→R25_0
abbrev A25_0:=PTup lc25_0→B25_0
noncomputable def w25_0 (c29:F29) (c31:F31) (again:B25_0) (x:PTup lc25_0) (y:PTup lb25_0) (z:PTup lv25_0):R25_0:=
  bif (ltI z.2.1 48)then ((c29 (y.1,((64:Int),()))).bind fun r0=>
   bif (leN ((List.length z.1)+(List.length (r0.1.1::[]))) (E.most .i))then (again ((y.1.1,r0.2.1.2),()) ((z.1++(r0.1.1::[])),((wI (z.2.1+1)),())))
   else none)
  else some ((Sum.inl z),(y.1,()))
noncomputable def e25_0 (l:A25_0):LoopE:=⟨[],lc25_0,[0],lb25_0,[3,4],lv25_0,[],lr25_0,0,[],l⟩
noncomputable def m25 (c29:F29) (c31:F31) (l0:A25_0) (y:PTup i25):Option (PTup o25×BTup i25):=
  (l0 () (y.1,()) ([],((0:Int),()))).bind fun r0=>
  sumElim r0.1 (fun r1=>(c29 ((y.1.1,r0.2.1.2),((9:Int),()))).bind fun r2=>
   bif (eqI r2.1.1 0)then ((c31 ((y.1.1,r2.2.1.2),(((-(1:Int))::((64:Int)::[])),()))).bind fun r3=>
    bif (ltI 3 (lenI r1.1))then (some (((List.set r1.1 (Int.toNat (3:Int)) r3.1.1),()),((y.1.1,r3.2.1.2),())))
    else none)
   else bif (eqI r2.1.1 1)then (bif (leI 1 (lenI r1.1))then (some (((List.drop (Int.toNat (1:Int)) r1.1),()),((y.1.1,r2.2.1.2),())))
    else none)
   else some ((r1.1,()),((y.1.1,r2.2.1.2),())))
  (fun r1=>some (([],()),((y.1.1,r0.2.1.2),())))
noncomputable def E25 (c29:F29) (c31:F31) (l0:A25_0):CEnv:=⟨⟨Tryd.prog,fnsL [g29 c29,g31 c31]⟩,loopsL [(3,e25_0 l0)]⟩
theorem t25_0 (c29:F29) (c31:F31) (l0:A25_0) (again) (x y z):loopRound (E25 c29 c31 l0) (loopAt (bodyOf Tryd.f25) 0) (e25_0 l0) Tryd.f25.ntmps again x y z=w25_0 c29 c31 again x y z:=by kernel_rfl
noncomputable def n25_0 (c29:F29) (c31:F31):Nat→A25_0
  |0,_,_,_=>none
  |n+1,x,y,z=>w25_0 c29 c31 (fun y z=>n25_0 c29 c31 n x y z) x y z
theorem s25 (c29:F29) (c31:F31) (l0:A25_0) (y):tevF (E25 c29 c31 l0) Tryd.f25 i25 o25 y=m25 c29 c31 l0 y:=by kernel_rfl
noncomputable def L25_0:A25_0:=n25_0 r29 r31 fuel
noncomputable def r25:F25:=m25 r29 r31 L25_0
theorem k25:KO (g25 r25):=by
  have hE: ∀g f,(E25 r29 r31 L25_0).env.fns g=some f→CallOk Tryd.prog g f:=fnsL_ok ⟨k29,k31,⟨⟩⟩
  have h0:LoopOk Tryd.prog Tryd.f25.ntmps (loopAt (bodyOf Tryd.f25) 0) (e25_0 L25_0):=lp_ok (E:=E25 r29 r31 L25_0) rfl hE mixed (AllLoops.of_list (l:=[]) (by kernel_rfl) trivial) (n25_0 r29 r31) (fun _ _ _=>rfl) (fun n x y z=>t25_0 r29 r31 L25_0 _ x y z) rfl
  exact fn_ok (E:=E25 r29 r31 L25_0) rfl hE mixed (by kernel_rfl) (by kernel_rfl) (AllLoops.of_list (l:=[(loopAt (bodyOf Tryd.f25) 0)]) (by kernel_rfl) (.one (by kernel_rfl) h0 trivial)) (s25 r29 r31 L25_0)
abbrev i9:Ts:=[.v (.sl false .b)]
abbrev o9:Ts:=[.v (.sl true .i)]
abbrev F9:=FT i9 o9
abbrev g9:=mkG 9 i9 o9
noncomputable def m9 (c25:F25) (c26:F26) (y:PTup i9):Option (PTup o9×BTup i9):=
  (c26 y).bind fun r0=>
  (c25 (r0.1.1,())).bind fun r1=>
  some (r1.1,())
theorem s9 (c25:F25) (c26:F26) (y):TE [g25 c25,g26 c26] Tryd.f9 i9 o9 y=m9 c25 c26 y:=by kernel_rfl
noncomputable def r9:F9:=m9 r25 r26
theorem k9:KO (g9 r9):=fk (s9 r25 r26) ⟨k25,k26,⟨⟩⟩ (by kernel_rfl)
abbrev i27:Ts:=[.v (.sl false .i)]
abbrev o27:Ts:=[.v (.bool)]
abbrev F27:=FT i27 o27
abbrev g27:=mkG 27 i27 o27
abbrev lc27_0:Ts:=[.v (.sl false .i), .v (.int .i64)]
abbrev lb27_0:Ts:=[]
abbrev lv27_0:Ts:=[.v (.int .i64)]
abbrev lr27_0:Ts:=[.v (.bool)]
abbrev R27_0:=Option (Sum (PTup lv27_0) (PTup lr27_0)×BTup lb27_0)
abbrev B27_0:=PTup lb27_0→PTup lv27_0→R27_0
abbrev A27_0:=PTup lc27_0→B27_0
noncomputable def w27_0 (c34:F34) (again:B27_0) (x:PTup lc27_0) (y:PTup lb27_0) (z:PTup lv27_0):R27_0:=
  bif (ltI z.1 x.2.1)then (bif (leI 0 z.1)then (bif (ltI z.1 (lenI x.1))then ((c34 ((rdE .i x.1 z.1),((0:Int),((63:Int),())))).bind fun r0=>
     bif (!r0.1.1)then (some ((Sum.inr (false,())),()))
     else again () ((wI (z.1+1)),()))
    else none)
   else none)
  else some ((Sum.inl z),())
noncomputable def e27_0 (l:A27_0):LoopE:=⟨[5,6],lc27_0,[],lb27_0,[7],lv27_0,[2],lr27_0,0,[],l⟩
noncomputable def m27 (c34:F34) (l0:A27_0) (y:PTup i27):Option (PTup o27×BTup i27):=
  (l0 (y.1,((lenI y.1),())) () ((0:Int),())).bind fun r0=>
  sumElim r0.1 (fun r1=>some ((true,()),()))
  (fun r1=>some (r1,()))
noncomputable def E27 (c34:F34) (l0:A27_0):CEnv:=⟨⟨Tryd.prog,fnsL [g34 c34]⟩,loopsL [(2,e27_0 l0)]⟩
theorem t27_0 (c34:F34) (l0:A27_0) (again) (x y z):loopRound (E27 c34 l0) (loopAt (bodyOf Tryd.f27) 0) (e27_0 l0) Tryd.f27.ntmps again x y z=w27_0 c34 again x y z:=by kernel_rfl
noncomputable def n27_0 (c34:F34):Nat→A27_0
  |0,_,_,_=>none
  |n+1,x,y,z=>w27_0 c34 (fun y z=>n27_0 c34 n x y z) x y z
theorem s27 (c34:F34) (l0:A27_0) (y):tevF (E27 c34 l0) Tryd.f27 i27 o27 y=m27 c34 l0 y:=by kernel_rfl
noncomputable def L27_0:A27_0:=n27_0 r34 fuel
noncomputable def r27:F27:=m27 r34 L27_0
theorem k27:KO (g27 r27):=by
  have hE: ∀g f,(E27 r34 L27_0).env.fns g=some f→CallOk Tryd.prog g f:=fnsL_ok ⟨k34,⟨⟩⟩
  have h0:LoopOk Tryd.prog Tryd.f27.ntmps (loopAt (bodyOf Tryd.f27) 0) (e27_0 L27_0):=lp_ok (E:=E27 r34 L27_0) rfl hE mixed (AllLoops.of_list (l:=[]) (by kernel_rfl) trivial) (n27_0 r34) (fun _ _ _=>rfl) (fun n x y z=>t27_0 r34 L27_0 _ x y z) rfl
  exact fn_ok (E:=E27 r34 L27_0) rfl hE mixed (by kernel_rfl) (by kernel_rfl) (AllLoops.of_list (l:=[(loopAt (bodyOf Tryd.f27) 0)]) (by kernel_rfl) (.one (by kernel_rfl) h0 trivial)) (s27 r34 L27_0)
abbrev i10:Ts:=[.v (.sl false .i)]
abbrev o10:Ts:=[.v (.str)]
abbrev F10:=FT i10 o10
abbrev g10:=mkG 10 i10 o10
abbrev lc10_0:Ts:=[.v (.sl false .i), .v (.int .i64)]
abbrev lb10_0:Ts:=[]
abbrev lv10_0:Ts:=[.v (.sl true .b), .v (.int .i64)]
abbrev lr10_0:Ts:=[]
abbrev R10_0:=Option (Sum (PTup lv10_0) (PTup lr10_0)×BTup lb10_0)
abbrev B10_0:=PTup lb10_0→PTup lv10_0→R10_0
abbrev A10_0:=PTup lc10_0→B10_0
noncomputable def w10_0 (c27:F27) (again:B10_0) (x:PTup lc10_0) (y:PTup lb10_0) (z:PTup lv10_0):R10_0:=
  bif (ltI z.2.1 x.2.1)then (bif (leI 0 z.2.1)then (bif (ltI z.2.1 (lenI x.1))then (bif (leN ((List.length z.1)+(List.length ((wB (wI ((48:Int)+(rdE .i x.1 z.2.1))))::[]))) (E.most .b))then (bif (eqI (Int.tmod z.2.1 8) (7:Int))then (bif (leN ((List.length (z.1++((wB (wI ((48:Int)+(rdE .i x.1 z.2.1))))::[])))+(List.length ((10:Int)::[]))) (E.most .b))then (again () (((z.1++((wB (wI ((48:Int)+(rdE .i x.1 z.2.1))))::[]))++((10:Int)::[])),((wI (z.2.1+1)),())))
       else none)
      else again () ((z.1++((wB (wI ((48:Int)+(rdE .i x.1 z.2.1))))::[])),((wI (z.2.1+1)),())))
     else none)
    else none)
   else none)
  else some ((Sum.inl z),())
noncomputable def e10_0 (l:A10_0):LoopE:=⟨[15,16],lc10_0,[],lb10_0,[3,17],lv10_0,[],lr10_0,0,[],l⟩
noncomputable def m10 (c27:F27) (l0:A10_0) (y:PTup i10):Option (PTup o10×BTup i10):=
  bif (neI (lenI y.1) 48)then (some (((bz []),()),()))
  else (c27 y).bind fun r0=>
  bif (!r0.1.1)then (some (((bz []),()),()))
  else (l0 (y.1,((lenI y.1),())) () ([],((0:Int),()))).bind fun r1=>
  sumElim r1.1 (fun r2=>some (((strOf r2.1),()),()))
  (fun r2=>some (((bz []),()),()))
noncomputable def E10 (c27:F27) (l0:A10_0):CEnv:=⟨⟨Tryd.prog,fnsL [g27 c27]⟩,loopsL [(5,e10_0 l0)]⟩
theorem t10_0 (c27:F27) (l0:A10_0) (again) (x y z):loopRound (E10 c27 l0) (loopAt (bodyOf Tryd.f10) 0) (e10_0 l0) Tryd.f10.ntmps again x y z=w10_0 c27 again x y z:=by kernel_rfl
noncomputable def n10_0 (c27:F27):Nat→A10_0
  |0,_,_,_=>none
  |n+1,x,y,z=>w10_0 c27 (fun y z=>n10_0 c27 n x y z) x y z
theorem s10 (c27:F27) (l0:A10_0) (y):tevF (E10 c27 l0) Tryd.f10 i10 o10 y=m10 c27 l0 y:=by kernel_rfl
noncomputable def L10_0:A10_0:=n10_0 r27 fuel
noncomputable def r10:F10:=m10 r27 L10_0
theorem k10:KO (g10 r10):=by
  have hE: ∀g f,(E10 r27 L10_0).env.fns g=some f→CallOk Tryd.prog g f:=fnsL_ok ⟨k27,⟨⟩⟩
  have h0:LoopOk Tryd.prog Tryd.f10.ntmps (loopAt (bodyOf Tryd.f10) 0) (e10_0 L10_0):=lp_ok (E:=E10 r27 L10_0) rfl hE mixed (AllLoops.of_list (l:=[]) (by kernel_rfl) trivial) (n10_0 r27) (fun _ _ _=>rfl) (fun n x y z=>t10_0 r27 L10_0 _ x y z) rfl
  exact fn_ok (E:=E10 r27 L10_0) rfl hE mixed (by kernel_rfl) (by kernel_rfl) (AllLoops.of_list (l:=[(loopAt (bodyOf Tryd.f10) 0)]) (by kernel_rfl) (.one (by kernel_rfl) h0 trivial)) (s10 r27 L10_0)
abbrev i11:Ts:=[.v (.sl false .i)]
abbrev o11:Ts:=[.v (.str)]
abbrev F11:=FT i11 o11
abbrev g11:=mkG 11 i11 o11
abbrev lc11_0:Ts:=[.v (.sl false .i)]
abbrev lb11_0:Ts:=[]
abbrev lv11_0:Ts:=[.v (.sl true .b), .v (.int .i64)]
abbrev lr11_0:Ts:=[.v (.str)]
abbrev R11_0:=Option (Sum (PTup lv11_0) (PTup lr11_0)×BTup lb11_0)
abbrev B11_0:=PTup lb11_0→PTup lv11_0→R11_0
abbrev A11_0:=PTup lc11_0→B11_0
noncomputable def w11_0 (c28:F28) (again:B11_0) (x:PTup lc11_0) (y:PTup lb11_0) (z:PTup lv11_0):R11_0:=
  bif (ltI z.2.1 (lenI x.1))then (bif (leI 0 z.2.1)then (bif (ltI z.2.1 (lenI x.1))then ((c28 ((rdE .i x.1 z.2.1),((0:Int),((63:Int),())))).bind fun r0=>
     bif (!r0.1.1)then (some ((Sum.inr ((bz []),())),()))
     else bif (leI 0 z.2.1)then (bif (ltI z.2.1 (lenI x.1))then (bif (leN ((List.length z.1)+(List.length ((wB (wI ((48:Int)+(rdE .i x.1 z.2.1))))::[]))) (E.most .b))then (bif (eqI (Int.tmod z.2.1 8) (7:Int))then (bif (leN ((List.length (z.1++((wB (wI ((48:Int)+(rdE .i x.1 z.2.1))))::[])))+(List.length ((10:Int)::[]))) (E.most .b))then (again () (((z.1++((wB (wI ((48:Int)+(rdE .i x.1 z.2.1))))::[]))++((10:Int)::[])),((wI (z.2.1+1)),())))
         else none)
        else again () ((z.1++((wB (wI ((48:Int)+(rdE .i x.1 z.2.1))))::[])),((wI (z.2.1+1)),())))
       else none)
      else none)
     else none)
    else none)
   else none)
  else some ((Sum.inl z),())
noncomputable def e11_0 (l:A11_0):LoopE:=⟨[0],lc11_0,[],lb11_0,[3,4],lv11_0,[2],lr11_0,0,[],l⟩
noncomputable def m11 (c28:F28) (l0:A11_0) (y:PTup i11):Option (PTup o11×BTup i11):=
  bif (neI (lenI y.1) 48)then (some (((bz []),()),()))
  else (l0 y () ([],((0:Int),()))).bind fun r0=>
  sumElim r0.1 (fun r1=>some (((strOf r1.1),()),()))
  (fun r1=>some (r1,()))
noncomputable def E11 (c28:F28) (l0:A11_0):CEnv:=⟨⟨Tryd.prog,fnsL [g28 c28]⟩,loopsL [(5,e11_0 l0)]⟩
theorem t11_0 (c28:F28) (l0:A11_0) (again) (x y z):loopRound (E11 c28 l0) (loopAt (bodyOf Tryd.f11) 0) (e11_0 l0) Tryd.f11.ntmps again x y z=w11_0 c28 again x y z:=by kernel_rfl
noncomputable def n11_0 (c28:F28):Nat→A11_0
  |0,_,_,_=>none
  |n+1,x,y,z=>w11_0 c28 (fun y z=>n11_0 c28 n x y z) x y z
theorem s11 (c28:F28) (l0:A11_0) (y):tevF (E11 c28 l0) Tryd.f11 i11 o11 y=m11 c28 l0 y:=by kernel_rfl
noncomputable def L11_0:A11_0:=n11_0 r28 fuel
noncomputable def r11:F11:=m11 r28 L11_0
theorem k11:KO (g11 r11):=by
  have hE: ∀g f,(E11 r28 L11_0).env.fns g=some f→CallOk Tryd.prog g f:=fnsL_ok ⟨k28,⟨⟩⟩
  have h0:LoopOk Tryd.prog Tryd.f11.ntmps (loopAt (bodyOf Tryd.f11) 0) (e11_0 L11_0):=lp_ok (E:=E11 r28 L11_0) rfl hE mixed (AllLoops.of_list (l:=[]) (by kernel_rfl) trivial) (n11_0 r28) (fun _ _ _=>rfl) (fun n x y z=>t11_0 r28 L11_0 _ x y z) rfl
  exact fn_ok (E:=E11 r28 L11_0) rfl hE mixed (by kernel_rfl) (by kernel_rfl) (AllLoops.of_list (l:=[(loopAt (bodyOf Tryd.f11) 0)]) (by kernel_rfl) (.one (by kernel_rfl) h0 trivial)) (s11 r28 L11_0)
abbrev i12:Ts:=[.v (.str)]
abbrev o12:Ts:=[.v (.sl true .i), .v (.bool)]
abbrev F12:=FT i12 o12
abbrev g12:=mkG 12 i12 o12
abbrev lc12_0:Ts:=[.v (.str), .v (.int .i64)]
abbrev lb12_0:Ts:=[]
abbrev lv12_0:Ts:=[.v (.sl true .i), .v (.int .i64)]
abbrev lr12_0:Ts:=[]
abbrev R12_0:=Option (Sum (PTup lv12_0) (PTup lr12_0)×BTup lb12_0)
abbrev B12_0:=PTup lb12_0→PTup lv12_0→R12_0
abbrev A12_0:=PTup lc12_0→B12_0
noncomputable def w12_0 (c10:F10) (again:B12_0) (x:PTup lc12_0) (y:PTup lb12_0) (z:PTup lv12_0):R12_0:=
  bif (ltI z.2.1 x.2.1)then (bif (neI (Int.tmod z.2.1 9) (8:Int))then (bif (leI 0 z.2.1)then (bif (ltI z.2.1 ((((ByteArray.size x.1):Nat)):Int))then (bif (leN ((List.length z.1)+(List.length ((wI ((wI (bt x.1 z.2.1))-48))::[]))) (E.most .i))then (again () ((z.1++((wI ((wI (bt x.1 z.2.1))-48))::[])),((wI (z.2.1+1)),())))
      else none)
     else none)
    else none)
   else again () (z.1,((wI (z.2.1+1)),())))
  else some ((Sum.inl z),())
noncomputable def e12_0 (l:A12_0):LoopE:=⟨[0,9],lc12_0,[],lb12_0,[4,10],lv12_0,[],lr12_0,0,[],l⟩
noncomputable def m12 (c10:F10) (l0:A12_0) (y:PTup i12):Option (PTup o12×BTup i12):=
  (l0 (y.1,(((((ByteArray.size y.1):Nat)):Int),())) () ([],((0:Int),()))).bind fun r0=>
  sumElim r0.1 (fun r1=>(c10 (r1.1,())).bind fun r2=>
   bif ((ByteArray.toList r2.1.1)==(ByteArray.toList (bz [])))then (some (([],(false,())),()))
   else bif (!((ByteArray.toList r2.1.1)==(ByteArray.toList y.1)))then (some (([],(false,())),()))
   else some ((r1.1,(true,())),()))
  (fun r1=>some (([],(false,())),()))
noncomputable def E12 (c10:F10) (l0:A12_0):CEnv:=⟨⟨Tryd.prog,fnsL [g10 c10]⟩,loopsL [(3,e12_0 l0)]⟩
theorem t12_0 (c10:F10) (l0:A12_0) (again) (x y z):loopRound (E12 c10 l0) (loopAt (bodyOf Tryd.f12) 0) (e12_0 l0) Tryd.f12.ntmps again x y z=w12_0 c10 again x y z:=by kernel_rfl
noncomputable def n12_0 (c10:F10):Nat→A12_0
  |0,_,_,_=>none
  |n+1,x,y,z=>w12_0 c10 (fun y z=>n12_0 c10 n x y z) x y z
theorem s12 (c10:F10) (l0:A12_0) (y):tevF (E12 c10 l0) Tryd.f12 i12 o12 y=m12 c10 l0 y:=by kernel_rfl
noncomputable def L12_0:A12_0:=n12_0 r10 fuel
noncomputable def r12:F12:=m12 r10 L12_0
theorem k12:KO (g12 r12):=by
  have hE: ∀g f,(E12 r10 L12_0).env.fns g=some f→CallOk Tryd.prog g f:=fnsL_ok ⟨k10,⟨⟩⟩
  have h0:LoopOk Tryd.prog Tryd.f12.ntmps (loopAt (bodyOf Tryd.f12) 0) (e12_0 L12_0):=lp_ok (E:=E12 r10 L12_0) rfl hE mixed (AllLoops.of_list (l:=[]) (by kernel_rfl) trivial) (n12_0 r10) (fun _ _ _=>rfl) (fun n x y z=>t12_0 r10 L12_0 _ x y z) rfl
  exact fn_ok (E:=E12 r10 L12_0) rfl hE mixed (by kernel_rfl) (by kernel_rfl) (AllLoops.of_list (l:=[(loopAt (bodyOf Tryd.f12) 0)]) (by kernel_rfl) (.one (by kernel_rfl) h0 trivial)) (s12 r10 L12_0)
abbrev i13:Ts:=[.v (.sl false .i), .v (.sl false .i)]
abbrev o13:Ts:=[.v (.bool)]
abbrev F13:=FT i13 o13
abbrev g13:=mkG 13 i13 o13
abbrev lc13_0:Ts:=[.v (.sl false .i), .v (.sl false .i)]
abbrev lb13_0:Ts:=[]
abbrev lv13_0:Ts:=[.v (.int .i64)]
abbrev lr13_0:Ts:=[.v (.bool)]
abbrev R13_0:=Option (Sum (PTup lv13_0) (PTup lr13_0)×BTup lb13_0)
abbrev B13_0:=PTup lb13_0→PTup lv13_0→R13_0
abbrev A13_0:=PTup lc13_0→B13_0
noncomputable def w13_0 (again:B13_0) (x:PTup lc13_0) (y:PTup lb13_0) (z:PTup lv13_0):R13_0:=
  bif (ltI z.1 (lenI x.1))then (bif (leI 0 z.1)then (bif (ltI z.1 (lenI x.1))then (bif (leI 0 z.1)then (bif (ltI z.1 (lenI x.2.1))then (bif (neI (rdE .i x.1 z.1) (rdE .i x.2.1 z.1))then (some ((Sum.inr (false,())),()))
       else again () ((wI (z.1+1)),()))
      else none)
     else none)
    else none)
   else none)
  else some ((Sum.inl z),())
noncomputable def e13_0 (l:A13_0):LoopE:=⟨[0,1],lc13_0,[],lb13_0,[5],lv13_0,[4],lr13_0,0,[],l⟩
noncomputable def m13 (l0:A13_0) (y:PTup i13):Option (PTup o13×BTup i13):=
  bif (neI (lenI y.1) (lenI y.2.1))then no
  else (l0 y () ((0:Int),())).bind fun r0=>
  sumElim r0.1 (fun r1=>some ((true,()),()))
  (fun r1=>some (r1,()))
noncomputable def E13 (l0:A13_0):CEnv:=⟨⟨Tryd.prog,fnsL []⟩,loopsL [(4,e13_0 l0)]⟩
theorem t13_0 (l0:A13_0) (again) (x y z):loopRound (E13 l0) (loopAt (bodyOf Tryd.f13) 0) (e13_0 l0) Tryd.f13.ntmps again x y z=w13_0 again x y z:=by kernel_rfl
noncomputable def n13_0:Nat→A13_0
  |0,_,_,_=>none
  |n+1,x,y,z=>w13_0 (fun y z=>n13_0 n x y z) x y z
theorem s13 (l0:A13_0) (y):tevF (E13 l0) Tryd.f13 i13 o13 y=m13 l0 y:=by kernel_rfl
noncomputable def L13_0:A13_0:=n13_0 fuel
noncomputable def r13:F13:=m13 L13_0
theorem k13:KO (g13 r13):=by
  have hE: ∀g f,(E13 L13_0).env.fns g=some f→CallOk Tryd.prog g f:=fnsL_ok trivial
  have h0:LoopOk Tryd.prog Tryd.f13.ntmps (loopAt (bodyOf Tryd.f13) 0) (e13_0 L13_0):=lp_ok (E:=E13 L13_0) rfl hE mixed (AllLoops.of_list (l:=[]) (by kernel_rfl) trivial) (n13_0) (fun _ _ _=>rfl) (fun n x y z=>t13_0 L13_0 _ x y z) rfl
  exact fn_ok (E:=E13 L13_0) rfl hE mixed (by kernel_rfl) (by kernel_rfl) (AllLoops.of_list (l:=[(loopAt (bodyOf Tryd.f13) 0)]) (by kernel_rfl) (.one (by kernel_rfl) h0 trivial)) (s13 L13_0)
abbrev i30:Ts:=[.p q1, .v (.sl false .s)]
abbrev o30:Ts:=[.v (.str)]
abbrev F30:=FT i30 o30
abbrev g30:=mkG 30 i30 o30
noncomputable def m30 (c29:F29) (y:PTup i30):Option (PTup o30×BTup i30):=
  (c29 (y.1,((lenI y.2.1),()))).bind fun r0=>
  bif (leI 0 r0.1.1)then (bif (ltI r0.1.1 (lenI y.2.1))then (some (((rdE .s y.2.1 r0.1.1),()),((y.1.1,r0.2.1.2),())))
   else none)
  else none
theorem s30 (c29:F29) (y):TE [g29 c29] Tryd.f30 i30 o30 y=m30 c29 y:=by kernel_rfl
noncomputable def r30:F30:=m30 r29
theorem k30:KO (g30 r30):=fk (s30 r29) ⟨k29,⟨⟩⟩ (by kernel_rfl)
abbrev i14:Ts:=[.v (.sl false .b)]
abbrev o14:Ts:=[.v (.str)]
abbrev F14:=FT i14 o14
abbrev g14:=mkG 14 i14 o14
noncomputable def m14 (c11:F11) (c25:F25) (c29:F29) (c26:F26) (c30:F30) (y:PTup i14):Option (PTup o14×BTup i14):=
  (c26 y).bind fun r0=>
  (c25 (r0.1.1,())).bind fun r1=>
  (c11 r1.1).bind fun r2=>
  (c29 ((r0.1.1.1,r1.2.1.2),((wI (((((ByteArray.size r2.1.1):Nat)):Int)+1)),()))).bind fun r3=>
  (c29 ((r0.1.1.1,r3.2.1.2),((5:Int),()))).bind fun r4=>
  bif (eqI r4.1.1 0)then (bif (leI 0 r3.1.1)then (bif (leI r3.1.1 ((((ByteArray.size r2.1.1):Nat)):Int))then (some (((ByteArray.extract r2.1.1 (0:Nat) (Int.toNat r3.1.1)),()),()))
    else none)
   else none)
  else bif (eqI r4.1.1 1)then (bif (leI 0 r3.1.1)then (bif (leI r3.1.1 ((((ByteArray.size r2.1.1):Nat)):Int))then ((c30 ((r0.1.1.1,r4.2.1.2),(((bz [10])::((bz [48])::((bz [32])::((bz [122])::[])))),()))).bind fun r5=>
     bif (leN ((ByteArray.size (ByteArray.extract r2.1.1 (0:Nat) (Int.toNat r3.1.1)))+(ByteArray.size r5.1.1)) (4611686018427387904:Nat))then (bif (leI 0 r3.1.1)then (bif (leI r3.1.1 ((((ByteArray.size r2.1.1):Nat)):Int))then (bif (leN ((ByteArray.size ((ByteArray.extract r2.1.1 (0:Nat) (Int.toNat r3.1.1))++r5.1.1))+(ByteArray.size (ByteArray.extract r2.1.1 (Int.toNat r3.1.1) (ByteArray.size r2.1.1)))) (4611686018427387904:Nat))then (some (((((ByteArray.extract r2.1.1 (0:Nat) (Int.toNat r3.1.1))++r5.1.1)++(ByteArray.extract r2.1.1 (Int.toNat r3.1.1) (ByteArray.size r2.1.1))),()),()))
        else none)
       else none)
      else none)
     else none)
    else none)
   else none)
  else some (r2.1,())
theorem s14 (c11:F11) (c25:F25) (c29:F29) (c26:F26) (c30:F30) (y):TE [g11 c11,g25 c25,g29 c29,g26 c26,g30 c30] Tryd.f14 i14 o14 y=m14 c11 c25 c29 c26 c30 y:=by kernel_rfl
noncomputable def r14:F14:=m14 r11 r25 r29 r26 r30
theorem k14:KO (g14 r14):=fk (s14 r11 r25 r29 r26 r30) ⟨k11,k25,k29,k26,k30,⟨⟩⟩ (by kernel_rfl)
abbrev i15:Ts:=[.v (.str)]
abbrev o15:Ts:=[.v (.sl true .i), .v (.bool)]
abbrev F15:=FT i15 o15
abbrev g15:=mkG 15 i15 o15
abbrev lc15_0:Ts:=[.v (.str)]
abbrev lb15_0:Ts:=[]
abbrev lv15_0:Ts:=[.v (.sl true .i), .v (.int .i64)]
abbrev lr15_0:Ts:=[]
abbrev R15_0:=Option (Sum (PTup lv15_0) (PTup lr15_0)×BTup lb15_0)
abbrev B15_0:=PTup lb15_0→PTup lv15_0→R15_0
abbrev A15_0:=PTup lc15_0→B15_0
noncomputable def w15_0 (c11:F11) (again:B15_0) (x:PTup lc15_0) (y:PTup lb15_0) (z:PTup lv15_0):R15_0:=
  bif (ltI z.2.1 ((((ByteArray.size x.1):Nat)):Int))then (bif (leI 0 z.2.1)then (bif (ltI z.2.1 ((((ByteArray.size x.1):Nat)):Int))then (bif (neI (bt x.1 z.2.1) 10)then (bif (leI 0 z.2.1)then (bif (ltI z.2.1 ((((ByteArray.size x.1):Nat)):Int))then (bif (leN ((List.length z.1)+(List.length ((wI ((wI (bt x.1 z.2.1))-48))::[]))) (E.most .i))then (again () ((z.1++((wI ((wI (bt x.1 z.2.1))-48))::[])),((wI (z.2.1+1)),())))
        else none)
       else none)
      else none)
     else again () (z.1,((wI (z.2.1+1)),())))
    else none)
   else none)
  else some ((Sum.inl z),())
noncomputable def e15_0 (l:A15_0):LoopE:=⟨[0],lc15_0,[],lb15_0,[4,5],lv15_0,[],lr15_0,0,[],l⟩
noncomputable def m15 (c11:F11) (l0:A15_0) (y:PTup i15):Option (PTup o15×BTup i15):=
  (l0 y () ([],((0:Int),()))).bind fun r0=>
  sumElim r0.1 (fun r1=>bif ((ByteArray.toList y.1)==(ByteArray.toList (bz [])))then (some (([],(false,())),()))
   else (c11 (r1.1,())).bind fun r2=>
   bif (!((ByteArray.toList r2.1.1)==(ByteArray.toList y.1)))then (some (([],(false,())),()))
   else some ((r1.1,(true,())),()))
  (fun r1=>some (([],(false,())),()))
noncomputable def E15 (c11:F11) (l0:A15_0):CEnv:=⟨⟨Tryd.prog,fnsL [g11 c11]⟩,loopsL [(3,e15_0 l0)]⟩
theorem t15_0 (c11:F11) (l0:A15_0) (again) (x y z):loopRound (E15 c11 l0) (loopAt (bodyOf Tryd.f15) 0) (e15_0 l0) Tryd.f15.ntmps again x y z=w15_0 c11 again x y z:=by kernel_rfl
noncomputable def n15_0 (c11:F11):Nat→A15_0
  |0,_,_,_=>none
  |n+1,x,y,z=>w15_0 c11 (fun y z=>n15_0 c11 n x y z) x y z
theorem s15 (c11:F11) (l0:A15_0) (y):tevF (E15 c11 l0) Tryd.f15 i15 o15 y=m15 c11 l0 y:=by kernel_rfl
noncomputable def L15_0:A15_0:=n15_0 r11 fuel
noncomputable def r15:F15:=m15 r11 L15_0
theorem k15:KO (g15 r15):=by
  have hE: ∀g f,(E15 r11 L15_0).env.fns g=some f→CallOk Tryd.prog g f:=fnsL_ok ⟨k11,⟨⟩⟩
  have h0:LoopOk Tryd.prog Tryd.f15.ntmps (loopAt (bodyOf Tryd.f15) 0) (e15_0 L15_0):=lp_ok (E:=E15 r11 L15_0) rfl hE mixed (AllLoops.of_list (l:=[]) (by kernel_rfl) trivial) (n15_0 r11) (fun _ _ _=>rfl) (fun n x y z=>t15_0 r11 L15_0 _ x y z) rfl
  exact fn_ok (E:=E15 r11 L15_0) rfl hE mixed (by kernel_rfl) (by kernel_rfl) (AllLoops.of_list (l:=[(loopAt (bodyOf Tryd.f15) 0)]) (by kernel_rfl) (.one (by kernel_rfl) h0 trivial)) (s15 r11 L15_0)
abbrev i16:Ts:=[.v (.sl false .b)]
abbrev o16:Ts:=[.v (.sl true .i)]
abbrev F16:=FT i16 o16
abbrev g16:=mkG 16 i16 o16
abbrev lc16_0:Ts:=[]
abbrev lb16_0:Ts:=[.p q1]
abbrev lv16_0:Ts:=[.v (.sl true .i), .v (.int .i64)]
abbrev lr16_0:Ts:=[]
abbrev R16_0:=Option (Sum (PTup lv16_0) (PTup lr16_0)×BTup lb16_0)
abbrev B16_0:=PTup lb16_0→PTup lv16_0→R16_0
abbrev A16_0:=PTup lc16_0→B16_0
noncomputable def w16_0 (c29:F29) (c26:F26) (c31:F31) (again:B16_0) (x:PTup lc16_0) (y:PTup lb16_0) (z:PTup lv16_0):R16_0:=
  (c29 (y.1,((30:Int),()))).bind fun r0=>
  bif (ltI z.2.1 r0.1.1)then ((c31 ((y.1.1,r0.2.1.2),(((0:Int)::((8:Int)::((0:Int)::((8:Int)::((4:Int)::[]))))),()))).bind fun r1=>
   bif (leN ((List.length z.1)+(List.length (r1.1.1::[]))) (E.most .i))then (again ((y.1.1,r1.2.1.2),()) ((z.1++(r1.1.1::[])),((wI (z.2.1+1)),())))
   else none)
  else some ((Sum.inl z),((y.1.1,r0.2.1.2),()))
noncomputable def e16_0 (l:A16_0):LoopE:=⟨[],lc16_0,[3],lb16_0,[4,5],lv16_0,[],lr16_0,0,[],l⟩
noncomputable def m16 (c29:F29) (c26:F26) (c31:F31) (l0:A16_0) (y:PTup i16):Option (PTup o16×BTup i16):=
  (c26 y).bind fun r0=>
  (l0 () (r0.1.1,()) ([],((0:Int),()))).bind fun r1=>
  sumElim r1.1 (fun r2=>some ((r2.1,()),()))
  (fun r2=>some (([],()),()))
noncomputable def E16 (c29:F29) (c26:F26) (c31:F31) (l0:A16_0):CEnv:=⟨⟨Tryd.prog,fnsL [g29 c29,g26 c26,g31 c31]⟩,loopsL [(4,e16_0 l0)]⟩
theorem t16_0 (c29:F29) (c26:F26) (c31:F31) (l0:A16_0) (again) (x y z):loopRound (E16 c29 c26 c31 l0) (loopAt (bodyOf Tryd.f16) 0) (e16_0 l0) Tryd.f16.ntmps again x y z=w16_0 c29 c26 c31 again x y z:=by kernel_rfl
noncomputable def n16_0 (c29:F29) (c26:F26) (c31:F31):Nat→A16_0
  |0,_,_,_=>none
  |n+1,x,y,z=>w16_0 c29 c26 c31 (fun y z=>n16_0 c29 c26 c31 n x y z) x y z
theorem s16 (c29:F29) (c26:F26) (c31:F31) (l0:A16_0) (y):tevF (E16 c29 c26 c31 l0) Tryd.f16 i16 o16 y=m16 c29 c26 c31 l0 y:=by kernel_rfl
noncomputable def L16_0:A16_0:=n16_0 r29 r26 r31 fuel
noncomputable def r16:F16:=m16 r29 r26 r31 L16_0
theorem k16:KO (g16 r16):=by
  have hE: ∀g f,(E16 r29 r26 r31 L16_0).env.fns g=some f→CallOk Tryd.prog g f:=fnsL_ok ⟨k29,k26,k31,⟨⟩⟩
  have h0:LoopOk Tryd.prog Tryd.f16.ntmps (loopAt (bodyOf Tryd.f16) 0) (e16_0 L16_0):=lp_ok (E:=E16 r29 r26 r31 L16_0) rfl hE mixed (AllLoops.of_list (l:=[]) (by kernel_rfl) trivial) (n16_0 r29 r26 r31) (fun _ _ _=>rfl) (fun n x y z=>t16_0 r29 r26 r31 L16_0 _ x y z) rfl
  exact fn_ok (E:=E16 r29 r26 r31 L16_0) rfl hE mixed (by kernel_rfl) (by kernel_rfl) (AllLoops.of_list (l:=[(loopAt (bodyOf Tryd.f16) 0)]) (by kernel_rfl) (.one (by kernel_rfl) h0 trivial)) (s16 r29 r26 r31 L16_0)
abbrev i46:Ts:=[.a q0, .v (.int .i64)]
abbrev o46:Ts:=[.a q0]
abbrev F46:=FT i46 o46
abbrev g46:=mkG 46 i46 o46
noncomputable def m46 (y:PTup i46):Option (PTup o46×BTup i46):=
  some (((y.1.1,(y.1.2.1,(y.1.2.2.1,(y.1.2.2.2.1,((neI (bAnd Go.IntKind.i64 y.2.1 (2:Int)) (0:Int)),((neI (bAnd Go.IntKind.i64 y.2.1 (128:Int)) (0:Int)),((neI (bAnd Go.IntKind.i64 y.2.1 (1:Int)) (0:Int)),((neI (bAnd Go.IntKind.i64 y.2.1 (4:Int)) (0:Int)),())))))))),()),())
theorem s46 (y):TE [] Tryd.f46 i46 o46 y=m46 y:=by kernel_rfl
noncomputable def r46:F46:=m46
theorem k46:KO (g46 r46):=fk (s46) trivial (by kernel_rfl)
abbrev i41:Ts:=[.p q1]
abbrev o41:Ts:=[.a q0]
abbrev F41:=FT i41 o41
abbrev g41:=mkG 41 i41 o41
noncomputable def m41 (c46:F46) (c29:F29) (c31:F31) (y:PTup i41):Option (PTup o41×BTup i41):=
  (c29 (y.1,((256:Int),()))).bind fun r0=>
  (c29 ((y.1.1,r0.2.1.2),((256:Int),()))).bind fun r1=>
  (c31 ((y.1.1,r1.2.1.2),(((0:Int)::((1:Int)::((2:Int)::((255:Int)::((254:Int)::((128:Int)::[])))))),()))).bind fun r2=>
  (c31 ((y.1.1,r2.2.1.2),(((0:Int)::((49152:Int)::((49200:Int)::((65535:Int)::((65534:Int)::((32768:Int)::((8192:Int)::((511:Int)::[])))))))),()))).bind fun r3=>
  (c29 ((y.1.1,r3.2.1.2),((256:Int),()))).bind fun r4=>
  (c46 ((r0.1.1,(r1.1.1,(r2.1.1,(r3.1.1,(false,(false,(false,(false,())))))))),r4.1)).bind fun r5=>
  some ((r5.1.1,()),((y.1.1,r4.2.1.2),()))
theorem s41 (c46:F46) (c29:F29) (c31:F31) (y):TE [g46 c46,g29 c29,g31 c31] Tryd.f41 i41 o41 y=m41 c46 c29 c31 y:=by kernel_rfl
noncomputable def r41:F41:=m41 r46 r29 r31
theorem k41:KO (g41 r41):=fk (s41 r46 r29 r31) ⟨k46,k29,k31,⟨⟩⟩ (by kernel_rfl)
abbrev i47:Ts:=[.p q1, .v (.int .i64)]
abbrev o47:Ts:=[.v (.bool)]
abbrev F47:=FT i47 o47
abbrev g47:=mkG 47 i47 o47
noncomputable def m47 (c29:F29) (y:PTup i47):Option (PTup o47×BTup i47):=
  (c29 y).bind fun r0=>
  some (((eqI r0.1.1 0),()),((y.1.1,r0.2.1.2),()))
theorem s47 (c29:F29) (y):TE [g29 c29] Tryd.f47 i47 o47 y=m47 c29 y:=by kernel_rfl
noncomputable def r47:F47:=m47 r29
theorem k47:KO (g47 r47):=fk (s47 r29) ⟨k29,⟨⟩⟩ (by kernel_rfl)
abbrev i42:Ts:=[.p q1]
abbrev o42:Ts:=[.v (.int .i64)]
abbrev F42:=FT i42 o42
abbrev g42:=mkG 42 i42 o42
noncomputable def m42 (c29:F29) (c47:F47) (c31:F31) (y:PTup i42):Option (PTup o42×BTup i42):=
  (c47 (y.1,((9:Int),()))).bind fun r0=>
  bif r0.1.1 then ((c31 ((y.1.1,r0.2.1.2),(((-(1:Int))::((256:Int)::((65535:Int)::((65536:Int)::((9223372036854775807:Int)::((-(9223372036854775808:Int))::((511:Int)::[]))))))),()))).bind fun r1=>
   some (r1.1,((y.1.1,r1.2.1.2),())))
  else (c29 ((y.1.1,r0.2.1.2),((256:Int),()))).bind fun r1=>
  some (r1.1,((y.1.1,r1.2.1.2),()))
theorem s42 (c29:F29) (c47:F47) (c31:F31) (y):TE [g29 c29,g47 c47,g31 c31] Tryd.f42 i42 o42 y=m42 c29 c47 c31 y:=by kernel_rfl
noncomputable def r42:F42:=m42 r29 r47 r31
theorem k42:KO (g42 r42):=fk (s42 r29 r47 r31) ⟨k29,k47,k31,⟨⟩⟩ (by kernel_rfl)
abbrev i32:Ts:=[.p q1]
abbrev o32:Ts:=[.a q0]
abbrev F32:=FT i32 o32
abbrev g32:=mkG 32 i32 o32
noncomputable def m32 (c29:F29) (c42:F42) (c31:F31) (c41:F41) (y:PTup i32):Option (PTup o32×BTup i32):=
  (c41 (y.1,())).bind fun r0=>
  (c29 ((y.1.1,r0.2.1.2),((25:Int),()))).bind fun r1=>
  bif (eqI r1.1.1 0)then ((c42 ((y.1.1,r1.2.1.2),())).bind fun r2=>
   some (((r2.1.1,r0.1.1.2),()),((y.1.1,r2.2.1.2),())))
  else bif (eqI r1.1.1 1)then ((c42 ((y.1.1,r1.2.1.2),())).bind fun r2=>
   some (((r0.1.1.1,(r2.1.1,r0.1.1.2.2)),()),((y.1.1,r2.2.1.2),())))
  else bif (eqI r1.1.1 2)then ((c42 ((y.1.1,r1.2.1.2),())).bind fun r2=>
   some (((r0.1.1.1,(r0.1.1.2.1,(r2.1.1,r0.1.1.2.2.2))),()),((y.1.1,r2.2.1.2),())))
  else bif (eqI r1.1.1 3)then ((c31 ((y.1.1,r1.2.1.2),(((-(1:Int))::((65536:Int)::[])),()))).bind fun r2=>
   some (((r0.1.1.1,(r0.1.1.2.1,(r0.1.1.2.2.1,(r2.1.1,r0.1.1.2.2.2.2)))),()),((y.1.1,r2.2.1.2),())))
  else some ((r0.1.1,()),((y.1.1,r1.2.1.2),()))
theorem s32 (c29:F29) (c42:F42) (c31:F31) (c41:F41) (y):TE [g29 c29,g42 c42,g31 c31,g41 c41] Tryd.f32 i32 o32 y=m32 c29 c42 c31 c41 y:=by kernel_rfl
noncomputable def r32:F32:=m32 r29 r42 r31 r41
theorem k32:KO (g32 r32):=fk (s32 r29 r42 r31 r41) ⟨k29,k42,k31,k41,⟨⟩⟩ (by kernel_rfl)
abbrev i17:Ts:=[.v (.sl false .b)]
abbrev o17:Ts:=[.a q0]
abbrev F17:=FT i17 o17
abbrev g17:=mkG 17 i17 o17
noncomputable def m17 (c26:F26) (c32:F32) (y:PTup i17):Option (PTup o17×BTup i17):=
  (c26 y).bind fun r0=>
  (c32 (r0.1.1,())).bind fun r1=>
  some ((r1.1.1,()),())
theorem s17 (c26:F26) (c32:F32) (y):TE [g26 c26,g32 c32] Tryd.f17 i17 o17 y=m17 c26 c32 y:=by kernel_rfl
noncomputable def r17:F17:=m17 r26 r32
theorem k17:KO (g17 r17):=fk (s17 r26 r32) ⟨k26,k32,⟨⟩⟩ (by kernel_rfl)
abbrev i18:Ts:=[.v (.sl false .i)]
abbrev o18:Ts:=[.v (.str)]
abbrev F18:=FT i18 o18
abbrev g18:=mkG 18 i18 o18
abbrev lc18_0:Ts:=[.v (.sl false .i), .v (.int .i64)]
abbrev lb18_0:Ts:=[]
abbrev lv18_0:Ts:=[.v (.sl true .b), .v (.int .i64)]
abbrev lr18_0:Ts:=[]
abbrev R18_0:=Option (Sum (PTup lv18_0) (PTup lr18_0)×BTup lb18_0)
abbrev B18_0:=PTup lb18_0→PTup lv18_0→R18_0
abbrev A18_0:=PTup lc18_0→B18_0
noncomputable def w18_0 (again:B18_0) (x:PTup lc18_0) (y:PTup lb18_0) (z:PTup lv18_0):R18_0:=
  bif (ltI z.2.1 x.2.1)then (bif (leI 0 z.2.1)then (bif (ltI z.2.1 (lenI x.1))then (bif (eqI (rdE .i x.1 z.2.1) 0)then (bif (leN ((List.length z.1)+(List.length ((45:Int)::[]))) (E.most .b))then (again () ((z.1++((45:Int)::[])),((wI (z.2.1+1)),())))
      else none)
     else bif (eqI (rdE .i x.1 z.2.1) 8)then (bif (leN ((List.length z.1)+(List.length ((94:Int)::[]))) (E.most .b))then (again () ((z.1++((94:Int)::[])),((wI (z.2.1+1)),())))
      else none)
     else bif (leN ((List.length z.1)+(List.length ((63:Int)::[]))) (E.most .b))then (again () ((z.1++((63:Int)::[])),((wI (z.2.1+1)),())))
     else none)
    else none)
   else none)
  else some ((Sum.inl z),())
noncomputable def e18_0 (l:A18_0):LoopE:=⟨[7,8],lc18_0,[],lb18_0,[3,9],lv18_0,[],lr18_0,0,[],l⟩
noncomputable def m18 (l0:A18_0) (y:PTup i18):Option (PTup o18×BTup i18):=
  (l0 (y.1,((lenI y.1),())) () ([],((0:Int),()))).bind fun r0=>
  sumElim r0.1 (fun r1=>some (((strOf r1.1),()),()))
  (fun r1=>some (((bz []),()),()))
noncomputable def E18 (l0:A18_0):CEnv:=⟨⟨Tryd.prog,fnsL []⟩,loopsL [(3,e18_0 l0)]⟩
theorem t18_0 (l0:A18_0) (again) (x y z):loopRound (E18 l0) (loopAt (bodyOf Tryd.f18) 0) (e18_0 l0) Tryd.f18.ntmps again x y z=w18_0 again x y z:=by kernel_rfl
noncomputable def n18_0:Nat→A18_0
  |0,_,_,_=>none
  |n+1,x,y,z=>w18_0 (fun y z=>n18_0 n x y z) x y z
theorem s18 (l0:A18_0) (y):tevF (E18 l0) Tryd.f18 i18 o18 y=m18 l0 y:=by kernel_rfl
noncomputable def L18_0:A18_0:=n18_0 fuel
noncomputable def r18:F18:=m18 L18_0
theorem k18:KO (g18 r18):=by
  have hE: ∀g f,(E18 L18_0).env.fns g=some f→CallOk Tryd.prog g f:=fnsL_ok trivial
  have h0:LoopOk Tryd.prog Tryd.f18.ntmps (loopAt (bodyOf Tryd.f18) 0) (e18_0 L18_0):=lp_ok (E:=E18 L18_0) rfl hE mixed (AllLoops.of_list (l:=[]) (by kernel_rfl) trivial) (n18_0) (fun _ _ _=>rfl) (fun n x y z=>t18_0 L18_0 _ x y z) rfl
  exact fn_ok (E:=E18 L18_0) rfl hE mixed (by kernel_rfl) (by kernel_rfl) (AllLoops.of_list (l:=[(loopAt (bodyOf Tryd.f18) 0)]) (by kernel_rfl) (.one (by kernel_rfl) h0 trivial)) (s18 L18_0)
abbrev i19:Ts:=[.v (.sl false .i)]
abbrev o19:Ts:=[.v (.str)]
abbrev F19:=FT i19 o19
abbrev g19:=mkG 19 i19 o19
abbrev lc19_0:Ts:=[.v (.sl false .i)]
abbrev lb19_0:Ts:=[]
abbrev lv19_0:Ts:=[.v (.sl true .b), .v (.int .i64)]
abbrev lr19_0:Ts:=[]
abbrev R19_0:=Option (Sum (PTup lv19_0) (PTup lr19_0)×BTup lb19_0)
abbrev B19_0:=PTup lb19_0→PTup lv19_0→R19_0
abbrev A19_0:=PTup lc19_0→B19_0
noncomputable def w19_0 (again:B19_0) (x:PTup lc19_0) (y:PTup lb19_0) (z:PTup lv19_0):R19_0:=
  bif (ltI z.2.1 (lenI x.1))then (bif (leI 0 z.2.1)then (bif (ltI z.2.1 (lenI x.1))then (bif (eqI (rdE .i x.1 z.2.1) 0)then (bif (leN ((List.length z.1)+(List.length ((45:Int)::[]))) (E.most .b))then (again () ((z.1++((45:Int)::[])),((wI (z.2.1+1)),())))
      else none)
     else bif (eqI (rdE .i x.1 z.2.1) 8)then (bif (leN ((List.length z.1)+(List.length ((94:Int)::[]))) (E.most .b))then (again () ((z.1++((94:Int)::[])),((wI (z.2.1+1)),())))
      else none)
     else bif (leN ((List.length z.1)+(List.length ((63:Int)::[]))) (E.most .b))then (again () ((z.1++((63:Int)::[])),((wI (z.2.1+1)),())))
     else none)
    else none)
   else none)
  else some ((Sum.inl z),())
noncomputable def e19_0 (l:A19_0):LoopE:=⟨[0],lc19_0,[],lb19_0,[3,4],lv19_0,[],lr19_0,0,[],l⟩
noncomputable def m19 (l0:A19_0) (y:PTup i19):Option (PTup o19×BTup i19):=
  (l0 y () ([],((0:Int),()))).bind fun r0=>
  sumElim r0.1 (fun r1=>some (((strOf r1.1),()),()))
  (fun r1=>some (((bz []),()),()))
noncomputable def E19 (l0:A19_0):CEnv:=⟨⟨Tryd.prog,fnsL []⟩,loopsL [(3,e19_0 l0)]⟩
theorem t19_0 (l0:A19_0) (again) (x y z):loopRound (E19 l0) (loopAt (bodyOf Tryd.f19) 0) (e19_0 l0) Tryd.f19.ntmps again x y z=w19_0 again x y z:=by kernel_rfl
noncomputable def n19_0:Nat→A19_0
  |0,_,_,_=>none
  |n+1,x,y,z=>w19_0 (fun y z=>n19_0 n x y z) x y z
theorem s19 (l0:A19_0) (y):tevF (E19 l0) Tryd.f19 i19 o19 y=m19 l0 y:=by kernel_rfl
noncomputable def L19_0:A19_0:=n19_0 fuel
noncomputable def r19:F19:=m19 L19_0
theorem k19:KO (g19 r19):=by
  have hE: ∀g f,(E19 L19_0).env.fns g=some f→CallOk Tryd.prog g f:=fnsL_ok trivial
  have h0:LoopOk Tryd.prog Tryd.f19.ntmps (loopAt (bodyOf Tryd.f19) 0) (e19_0 L19_0):=lp_ok (E:=E19 L19_0) rfl hE mixed (AllLoops.of_list (l:=[]) (by kernel_rfl) trivial) (n19_0) (fun _ _ _=>rfl) (fun n x y z=>t19_0 L19_0 _ x y z) rfl
  exact fn_ok (E:=E19 L19_0) rfl hE mixed (by kernel_rfl) (by kernel_rfl) (AllLoops.of_list (l:=[(loopAt (bodyOf Tryd.f19) 0)]) (by kernel_rfl) (.one (by kernel_rfl) h0 trivial)) (s19 L19_0)
abbrev i4:Ts:=[.v (.sl false .b)]
abbrev o4:Ts:=[.v (.bool)]
abbrev R4:=Option (PTup o4×BTup i4)
abbrev F4:=PTup i4→R4
abbrev g4:=mkG 4 i4 o4
noncomputable def m4 (c20:F20) (c7:F7) (c12:F12) (c10:F10) (c18:F18) (c8:F8) (c13:F13) (c5:F5) (c17:F17) (c14:F14) (c9:F9) (c16:F16) (c15:F15) (c11:F11) (c19:F19) (y:PTup i4):R4:=
  (c8 y).bind fun r0=>bif r0.1.1 then (some ((true,()),()))else (c9 y).bind fun r1=>(c10 r1.1).bind fun r2=>(c11 r1.1).bind fun r3=>bif (! ((ByteArray.toList r2.1.1)==(ByteArray.toList r3.1.1)))then no else bif (! ((ByteArray.toList r2.1.1)==(ByteArray.toList (bz []))))then ((c12 r2.1).bind fun r4=>bif (!r4.1.2.1)then no else (c13 (r1.1.1,(r4.1.1,()))).bind fun r5=>bif (!r5.1.1)then no else (c14 y).bind fun r6=>(c12 r6.1).bind fun r7=>let X0:R4:=bif r7.1.2.1 then ((c10 (r7.1.1,())).bind fun r18=>some ((((ByteArray.toList r18.1.1)==(ByteArray.toList r6.1.1)),()),()))else no;(c15 r6.1).bind fun r8=>bif (! (r7.1.2.1==r8.1.2.1))then no else (c16 y).bind fun r9=>(c17 y).bind fun r10=>(c18 r9.1).bind fun r11=>(c19 r9.1).bind fun r12=>bif ((ByteArray.toList r11.1.1)==(ByteArray.toList r12.1.1))then ((c18 r9.1).bind fun r13=>bif (eqI ((((ByteArray.size r13.1.1):Nat)):Int) (lenI r9.1.1))then ((c7 (r10.1.1,())).bind fun r14=>(c5 (r10.1.1,())).bind fun r15=>bif ((ByteArray.toList r14.1.1)==(ByteArray.toList r15.1.1))then ((c7 (r10.1.1,())).bind fun r16=>(c20 (r10.1.1,())).bind fun r17=>bif ((! ((ByteArray.toList r16.1.1)==(ByteArray.toList (bz []))))==r17.1.1)then (bif (!r7.1.2.1)then (bif (eqI (lenI r7.1.1) 0)then (some ((true,()),()))else X0)else X0)else no)else no)else no)else no)else (c14 y).bind fun r4=>(c12 r4.1).bind fun r5=>let X1:R4:=bif r5.1.2.1 then ((c10 (r5.1.1,())).bind fun r16=>some ((((ByteArray.toList r16.1.1)==(ByteArray.toList r4.1.1)),()),()))else no;(c15 r4.1).bind fun r6=>bif (! (r5.1.2.1==r6.1.2.1))then no else (c16 y).bind fun r7=>(c17 y).bind fun r8=>(c18 r7.1).bind fun r9=>(c19 r7.1).bind fun r10=>bif ((ByteArray.toList r9.1.1)==(ByteArray.toList r10.1.1))then ((c18 r7.1).bind fun r11=>bif (eqI ((((ByteArray.size r11.1.1):Nat)):Int) (lenI r7.1.1))then ((c7 (r8.1.1,())).bind fun r12=>(c5 (r8.1.1,())).bind fun r13=>bif ((ByteArray.toList r12.1.1)==(ByteArray.toList r13.1.1))then ((c7 (r8.1.1,())).bind fun r14=>(c20 (r8.1.1,())).bind fun r15=>bif ((! ((ByteArray.toList r14.1.1)==(ByteArray.toList (bz []))))==r15.1.1)then (bif (!r5.1.2.1)then (bif (eqI (lenI r5.1.1) 0)then (some ((true,()),()))else X1)else X1)else no)else no)else no)else no
theorem s4 (c20:F20) (c7:F7) (c12:F12) (c10:F10) (c18:F18) (c8:F8) (c13:F13) (c5:F5) (c17:F17) (c14:F14) (c9:F9) (c16:F16) (c15:F15) (c11:F11) (c19:F19) (y):TE [g20 c20,g7 c7,g12 c12,g10 c10,g18 c18,g8 c8,g13 c13,g5 c5,g17 c17,g14 c14,g9 c9,g16 c16,g15 c15,g11 c11,g19 c19] Tryd.f4 i4 o4 y=m4 c20 c7 c12 c10 c18 c8 c13 c5 c17 c14 c9 c16 c15 c11 c19 y:=by kernel_rfl
noncomputable def r4:F4:=m4 r20 r7 r12 r10 r18 r8 r13 r5 r17 r14 r9 r16 r15 r11 r19
theorem k4:KO (g4 r4):=fk (s4 r20 r7 r12 r10 r18 r8 r13 r5 r17 r14 r9 r16 r15 r11 r19) ⟨k20,k7,k12,k10,k18,k8,k13,k5,k17,k14,k9,k16,k15,k11,k19,⟨⟩⟩ (by kernel_rfl)
end Go.Proofs.YtjagjoolnoodaaaDoor.Plain
