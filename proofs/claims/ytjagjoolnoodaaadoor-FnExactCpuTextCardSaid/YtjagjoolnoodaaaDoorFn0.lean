/- Plain functions that the program's functions answer as; their contracts. Printed by a program of the proofs' writer. No condition. -/
import Derived.Test.YtjagjoolnoodaaaDoorX
import Derived.KernelRfl
import Derived.Test.YtjagjoolnoodaaaDoorProg
set_option linter.unusedVariables false
set_option linter.unusedSimpArgs false
set_option maxRecDepth 100000
namespace Go.Proofs.YtjagjoolnoodaaaDoor.Plain
open Go Go.Tev
theorem mixed : Tryd.prog.follows .mixedOrders = true := by kernel_rfl
noncomputable abbrev mkE (l : List (Nat × Tev.Fn)) : CEnv := ⟨⟨Tryd.prog, fnsL l⟩, loopsL []⟩
abbrev FT (i o : List Ty) := PTup i → Option (PTup o × BTup i)
abbrev Ts := List Ty
abbrev bz (l : List UInt8) : ByteArray := ⟨⟨l⟩⟩
noncomputable abbrev TE (l : List (Nat × Tev.Fn)) (f : Func) (i o : List Ty) := tevF (mkE l) f i o
abbrev no : Option ((Bool × Unit) × Unit) := some ((false, ()), ())
abbrev mkG (k : Nat) (i o : List Ty) (c : FT i o) : Nat × Tev.Fn := (k, ⟨i, o, c, .nor⟩)
abbrev KO (x : Nat × Tev.Fn) : Prop := CK Tryd.prog x
theorem fk {l : List (Nat × Tev.Fn)} {g : FuncId} {f : Func} {i o : List Ty} {run : FT i o} (h : ∀ y, tevF (mkE l) f i o y = run y) (hE : AllCalls Tryd.prog l) (hg : (Tryd.prog.funcs[g]?, staticOk f i o && (loopsOf (bodyOf f)).isEmpty) = (some f, true)) : KO (mkG g i o run) := by
  have hs := congrArg Prod.snd hg
  dsimp only at hs
  rw [Bool.and_eq_true, List.isEmpty_iff] at hs
  exact fn0 h (fnsL_ok hE) rfl mixed (congrArg Prod.fst hg) hs.1 hs.2
abbrev i39 : Ts := [.v (.int .i64)]
abbrev o39 : Ts := [.v .str]
abbrev F39 := FT i39 o39
abbrev g39 (c : F39) : Nat × Tev.Fn := mkG 39 i39 o39 c
noncomputable def r39 : F39 := itoaF.run
theorem k39 : KO (g39 r39) := itoaK
abbrev i23 : Ts := [.v (.sl false .s), .v .str]
abbrev o23 : Ts := [.v .str]
abbrev F23 := FT i23 o23
abbrev g23 (c : F23) : Nat × Tev.Fn := mkG 23 i23 o23 c
noncomputable def r23 : F23 := joinF.run
theorem k23 : KO (g23 r23) := joinK
abbrev q0 : List LT := [.int .i64, .int .i64, .int .i64, .int .i64, .bool, .bool, .bool, .bool]
abbrev i6:Ts:=[.a q0]
abbrev o6:Ts:=[.a q0]
abbrev F6:=FT i6 o6
abbrev g6:=mkG 6 i6 o6
noncomputable def m6 (y:PTup i6):Option (PTup o6×BTup i6):=
  some ((y.1,()),())
theorem s6 (y):TE [] Tryd.f6 i6 o6 y=m6 y:=by kernel_rfl
noncomputable def r6:F6:=m6
theorem k6:KO (g6 r6):=fk (s6) trivial (by kernel_rfl)
abbrev i28:Ts:=[.v (.int .i64), .v (.int .i64), .v (.int .i64)]
abbrev o28:Ts:=[.v (.bool)]
abbrev F28:=FT i28 o28
abbrev g28:=mkG 28 i28 o28
noncomputable def m28 (y:PTup i28):Option (PTup o28×BTup i28):=
  bif (leI y.2.1 y.1)then (some (((leI y.1 y.2.2.1),()),()))
  else no
theorem s28 (y):TE [] Tryd.f28 i28 o28 y=m28 y:=by kernel_rfl
noncomputable def r28:F28:=m28
theorem k28:KO (g28 r28):=fk (s28) trivial (by kernel_rfl)
abbrev i35:Ts:=[.v (.int .i64)]
abbrev o35:Ts:=[.v (.bool)]
abbrev F35:=FT i35 o35
abbrev g35:=mkG 35 i35 o35
noncomputable def m35 (c28:F28) (y:PTup i35):Option (PTup o35×BTup i35):=
  (c28 (y.1,((0:Int),((255:Int),())))).bind fun r0=>
  some (r0.1,())
theorem s35 (c28:F28) (y):TE [g28 c28] Tryd.f35 i35 o35 y=m35 c28 y:=by kernel_rfl
noncomputable def r35:F35:=m35 r28
theorem k35:KO (g35 r35):=fk (s35 r28) ⟨k28,⟨⟩⟩ (by kernel_rfl)
abbrev i21:Ts:=[.a q0]
abbrev o21:Ts:=[.v (.bool)]
abbrev F21:=FT i21 o21
abbrev g21:=mkG 21 i21 o21
noncomputable def m21 (c28:F28) (c35:F35) (y:PTup i21):Option (PTup o21×BTup i21):=
  (c35 (y.1.1,())).bind fun r0=>
  bif r0.1.1 then ((c35 (y.1.2.1,())).bind fun r1=>
   bif r1.1.1 then ((c35 (y.1.2.2.1,())).bind fun r2=>
    bif r2.1.1 then ((c28 (y.1.2.2.2.1,((0:Int),((65535:Int),())))).bind fun r3=>
     some (r3.1,()))
    else no)
   else no)
  else no
theorem s21 (c28:F28) (c35:F35) (y):TE [g28 c28,g35 c35] Tryd.f21 i21 o21 y=m21 c28 c35 y:=by kernel_rfl
noncomputable def r21:F21:=m21 r28 r35
theorem k21:KO (g21 r21):=fk (s21 r28 r35) ⟨k28,k35,⟨⟩⟩ (by kernel_rfl)
abbrev i22:Ts:=[.v (.int .i64)]
abbrev o22:Ts:=[.v (.str)]
abbrev F22:=FT i22 o22
abbrev g22:=mkG 22 i22 o22
abbrev lc22_0:Ts:=[]
abbrev lb22_0:Ts:=[]
abbrev lv22_0:Ts:=[.v (.int .i64), .v (.str)]
abbrev lr22_0:Ts:=[]
abbrev R22_0:=Option (Sum (PTup lv22_0) (PTup lr22_0)×BTup lb22_0)
abbrev B22_0:=PTup lb22_0→PTup lv22_0→R22_0
abbrev A22_0:=PTup lc22_0→B22_0
noncomputable def w22_0 (again:B22_0) (x:PTup lc22_0) (y:PTup lb22_0) (z:PTup lv22_0):R22_0:=
  bif (ltI 0 z.1)then (bif (leN ((ByteArray.size (strOf ((wB (wI ((48:Int)+(Int.tmod z.1 10))))::[])))+(ByteArray.size z.2.1)) (4611686018427387904:Nat))then (again () ((wI (Int.tdiv z.1 10)),(((strOf ((wB (wI ((48:Int)+(Int.tmod z.1 10))))::[]))++z.2.1),())))
   else none)
  else some ((Sum.inl z),())
noncomputable def e22_0 (l:A22_0):LoopE:=⟨[],lc22_0,[],lb22_0,[0,3],lv22_0,[],lr22_0,0,[],l⟩
noncomputable def m22 (l0:A22_0) (y:PTup i22):Option (PTup o22×BTup i22):=
  bif (eqI y.1 0)then (some (((bz [48]),()),()))
  else (l0 () () (y.1,((bz []),()))).bind fun r0=>
  sumElim r0.1 (fun r1=>some (r1.2,()))
  (fun r1=>some (((bz []),()),()))
noncomputable def E22 (l0:A22_0):CEnv:=⟨⟨Tryd.prog,fnsL []⟩,loopsL [(4,e22_0 l0)]⟩
theorem t22_0 (l0:A22_0) (again) (x y z):loopRound (E22 l0) (loopAt (bodyOf Tryd.f22) 0) (e22_0 l0) Tryd.f22.ntmps again x y z=w22_0 again x y z:=by kernel_rfl
noncomputable def n22_0:Nat→A22_0
  |0,_,_,_=>none
  |n+1,x,y,z=>w22_0 (fun y z=>n22_0 n x y z) x y z
theorem s22 (l0:A22_0) (y):tevF (E22 l0) Tryd.f22 i22 o22 y=m22 l0 y:=by kernel_rfl
noncomputable def L22_0:A22_0:=n22_0 fuel
noncomputable def r22:F22:=m22 L22_0
theorem k22:KO (g22 r22):=by
  have hE: ∀g f,(E22 L22_0).env.fns g=some f→CallOk Tryd.prog g f:=fnsL_ok trivial
  have h0:LoopOk Tryd.prog Tryd.f22.ntmps (loopAt (bodyOf Tryd.f22) 0) (e22_0 L22_0):=lp_ok (E:=E22 L22_0) rfl hE mixed (AllLoops.of_list (l:=[]) (by kernel_rfl) trivial) (n22_0) (fun _ _ _=>rfl) (fun n x y z=>t22_0 L22_0 _ x y z) rfl
  exact fn_ok (E:=E22 L22_0) rfl hE mixed (by kernel_rfl) (by kernel_rfl) (AllLoops.of_list (l:=[(loopAt (bodyOf Tryd.f22) 0)]) (by kernel_rfl) (.one (by kernel_rfl) h0 trivial)) (s22 L22_0)
abbrev i5:Ts:=[.a q0]
abbrev o5:Ts:=[.v (.str)]
abbrev F5:=FT i5 o5
abbrev g5:=mkG 5 i5 o5
noncomputable def m5 (c21:F21) (c22:F22) (y:PTup i5):Option (PTup o5×BTup i5):=
  (c21 (y.1,())).bind fun r0=>bif (!r0.1.1)then (some (((bz []),()),()))else (c22 (y.1.1,())).bind fun r1=>bif (leN ((ByteArray.size (bz [65]))+(ByteArray.size r1.1.1)) (4611686018427387904:Nat))then (bif (leN ((ByteArray.size ((bz [65])++r1.1.1))+(ByteArray.size (bz [32,88]))) (4611686018427387904:Nat))then ((c22 (y.1.2.1,())).bind fun r2=>bif (leN ((ByteArray.size (((bz [65])++r1.1.1)++(bz [32,88])))+(ByteArray.size r2.1.1)) (4611686018427387904:Nat))then (bif (leN ((ByteArray.size ((((bz [65])++r1.1.1)++(bz [32,88]))++r2.1.1))+(ByteArray.size (bz [32,83]))) (4611686018427387904:Nat))then ((c22 (y.1.2.2.1,())).bind fun r3=>bif (leN ((ByteArray.size (((((bz [65])++r1.1.1)++(bz [32,88]))++r2.1.1)++(bz [32,83])))+(ByteArray.size r3.1.1)) (4611686018427387904:Nat))then (bif (leN ((ByteArray.size ((((((bz [65])++r1.1.1)++(bz [32,88]))++r2.1.1)++(bz [32,83]))++r3.1.1))+(ByteArray.size (bz [32,80,99]))) (4611686018427387904:Nat))then ((c22 (y.1.2.2.2.1,())).bind fun r4=>bif (leN ((ByteArray.size (((((((bz [65])++r1.1.1)++(bz [32,88]))++r2.1.1)++(bz [32,83]))++r3.1.1)++(bz [32,80,99])))+(ByteArray.size r4.1.1)) (4611686018427387904:Nat))then (bif (leN ((ByteArray.size ((((((((bz [65])++r1.1.1)++(bz [32,88]))++r2.1.1)++(bz [32,83]))++r3.1.1)++(bz [32,80,99]))++r4.1.1))+(ByteArray.size (bz [32]))) (4611686018427387904:Nat))then (bif y.1.2.2.2.2.2.2.1 then (bif y.1.2.2.2.2.1 then (bif y.1.2.2.2.2.2.2.2.1 then (bif y.1.2.2.2.2.2.1 then (bif (leN ((ByteArray.size (((((((((bz [65])++r1.1.1)++(bz [32,88]))++r2.1.1)++(bz [32,83]))++r3.1.1)++(bz [32,80,99]))++r4.1.1)++(bz [32])))+(ByteArray.size (((((bz [])++(bz [67]))++(bz [90]))++(bz [73]))++(bz [78])))) (4611686018427387904:Nat))then (some ((((((((((((bz [65])++r1.1.1)++(bz [32,88]))++r2.1.1)++(bz [32,83]))++r3.1.1)++(bz [32,80,99]))++r4.1.1)++(bz [32]))++(((((bz [])++(bz [67]))++(bz [90]))++(bz [73]))++(bz [78]))),()),()))else none)else bif (leN ((ByteArray.size (((((((((bz [65])++r1.1.1)++(bz [32,88]))++r2.1.1)++(bz [32,83]))++r3.1.1)++(bz [32,80,99]))++r4.1.1)++(bz [32])))+(ByteArray.size ((((bz [])++(bz [67]))++(bz [90]))++(bz [73])))) (4611686018427387904:Nat))then (some ((((((((((((bz [65])++r1.1.1)++(bz [32,88]))++r2.1.1)++(bz [32,83]))++r3.1.1)++(bz [32,80,99]))++r4.1.1)++(bz [32]))++((((bz [])++(bz [67]))++(bz [90]))++(bz [73]))),()),()))else none)else bif y.1.2.2.2.2.2.1 then (bif (leN ((ByteArray.size (((((((((bz [65])++r1.1.1)++(bz [32,88]))++r2.1.1)++(bz [32,83]))++r3.1.1)++(bz [32,80,99]))++r4.1.1)++(bz [32])))+(ByteArray.size ((((bz [])++(bz [67]))++(bz [90]))++(bz [78])))) (4611686018427387904:Nat))then (some ((((((((((((bz [65])++r1.1.1)++(bz [32,88]))++r2.1.1)++(bz [32,83]))++r3.1.1)++(bz [32,80,99]))++r4.1.1)++(bz [32]))++((((bz [])++(bz [67]))++(bz [90]))++(bz [78]))),()),()))else none)else bif (leN ((ByteArray.size (((((((((bz [65])++r1.1.1)++(bz [32,88]))++r2.1.1)++(bz [32,83]))++r3.1.1)++(bz [32,80,99]))++r4.1.1)++(bz [32])))+(ByteArray.size (((bz [])++(bz [67]))++(bz [90])))) (4611686018427387904:Nat))then (some ((((((((((((bz [65])++r1.1.1)++(bz [32,88]))++r2.1.1)++(bz [32,83]))++r3.1.1)++(bz [32,80,99]))++r4.1.1)++(bz [32]))++(((bz [])++(bz [67]))++(bz [90]))),()),()))else none)else bif y.1.2.2.2.2.2.2.2.1 then (bif y.1.2.2.2.2.2.1 then (bif (leN ((ByteArray.size (((((((((bz [65])++r1.1.1)++(bz [32,88]))++r2.1.1)++(bz [32,83]))++r3.1.1)++(bz [32,80,99]))++r4.1.1)++(bz [32])))+(ByteArray.size ((((bz [])++(bz [67]))++(bz [73]))++(bz [78])))) (4611686018427387904:Nat))then (some ((((((((((((bz [65])++r1.1.1)++(bz [32,88]))++r2.1.1)++(bz [32,83]))++r3.1.1)++(bz [32,80,99]))++r4.1.1)++(bz [32]))++((((bz [])++(bz [67]))++(bz [73]))++(bz [78]))),()),()))else none)else bif (leN ((ByteArray.size (((((((((bz [65])++r1.1.1)++(bz [32,88]))++r2.1.1)++(bz [32,83]))++r3.1.1)++(bz [32,80,99]))++r4.1.1)++(bz [32])))+(ByteArray.size (((bz [])++(bz [67]))++(bz [73])))) (4611686018427387904:Nat))then (some ((((((((((((bz [65])++r1.1.1)++(bz [32,88]))++r2.1.1)++(bz [32,83]))++r3.1.1)++(bz [32,80,99]))++r4.1.1)++(bz [32]))++(((bz [])++(bz [67]))++(bz [73]))),()),()))else none)else bif y.1.2.2.2.2.2.1 then (bif (leN ((ByteArray.size (((((((((bz [65])++r1.1.1)++(bz [32,88]))++r2.1.1)++(bz [32,83]))++r3.1.1)++(bz [32,80,99]))++r4.1.1)++(bz [32])))+(ByteArray.size (((bz [])++(bz [67]))++(bz [78])))) (4611686018427387904:Nat))then (some ((((((((((((bz [65])++r1.1.1)++(bz [32,88]))++r2.1.1)++(bz [32,83]))++r3.1.1)++(bz [32,80,99]))++r4.1.1)++(bz [32]))++(((bz [])++(bz [67]))++(bz [78]))),()),()))else none)else bif (leN ((ByteArray.size (((((((((bz [65])++r1.1.1)++(bz [32,88]))++r2.1.1)++(bz [32,83]))++r3.1.1)++(bz [32,80,99]))++r4.1.1)++(bz [32])))+(ByteArray.size ((bz [])++(bz [67])))) (4611686018427387904:Nat))then (some ((((((((((((bz [65])++r1.1.1)++(bz [32,88]))++r2.1.1)++(bz [32,83]))++r3.1.1)++(bz [32,80,99]))++r4.1.1)++(bz [32]))++((bz [])++(bz [67]))),()),()))else none)else bif y.1.2.2.2.2.1 then (bif y.1.2.2.2.2.2.2.2.1 then (bif y.1.2.2.2.2.2.1 then (bif (leN ((ByteArray.size (((((((((bz [65])++r1.1.1)++(bz [32,88]))++r2.1.1)++(bz [32,83]))++r3.1.1)++(bz [32,80,99]))++r4.1.1)++(bz [32])))+(ByteArray.size ((((bz [])++(bz [90]))++(bz [73]))++(bz [78])))) (4611686018427387904:Nat))then (some ((((((((((((bz [65])++r1.1.1)++(bz [32,88]))++r2.1.1)++(bz [32,83]))++r3.1.1)++(bz [32,80,99]))++r4.1.1)++(bz [32]))++((((bz [])++(bz [90]))++(bz [73]))++(bz [78]))),()),()))else none)else bif (leN ((ByteArray.size (((((((((bz [65])++r1.1.1)++(bz [32,88]))++r2.1.1)++(bz [32,83]))++r3.1.1)++(bz [32,80,99]))++r4.1.1)++(bz [32])))+(ByteArray.size (((bz [])++(bz [90]))++(bz [73])))) (4611686018427387904:Nat))then (some ((((((((((((bz [65])++r1.1.1)++(bz [32,88]))++r2.1.1)++(bz [32,83]))++r3.1.1)++(bz [32,80,99]))++r4.1.1)++(bz [32]))++(((bz [])++(bz [90]))++(bz [73]))),()),()))else none)else bif y.1.2.2.2.2.2.1 then (bif (leN ((ByteArray.size (((((((((bz [65])++r1.1.1)++(bz [32,88]))++r2.1.1)++(bz [32,83]))++r3.1.1)++(bz [32,80,99]))++r4.1.1)++(bz [32])))+(ByteArray.size (((bz [])++(bz [90]))++(bz [78])))) (4611686018427387904:Nat))then (some ((((((((((((bz [65])++r1.1.1)++(bz [32,88]))++r2.1.1)++(bz [32,83]))++r3.1.1)++(bz [32,80,99]))++r4.1.1)++(bz [32]))++(((bz [])++(bz [90]))++(bz [78]))),()),()))else none)else bif (leN ((ByteArray.size (((((((((bz [65])++r1.1.1)++(bz [32,88]))++r2.1.1)++(bz [32,83]))++r3.1.1)++(bz [32,80,99]))++r4.1.1)++(bz [32])))+(ByteArray.size ((bz [])++(bz [90])))) (4611686018427387904:Nat))then (some ((((((((((((bz [65])++r1.1.1)++(bz [32,88]))++r2.1.1)++(bz [32,83]))++r3.1.1)++(bz [32,80,99]))++r4.1.1)++(bz [32]))++((bz [])++(bz [90]))),()),()))else none)else bif y.1.2.2.2.2.2.2.2.1 then (bif y.1.2.2.2.2.2.1 then (bif (leN ((ByteArray.size (((((((((bz [65])++r1.1.1)++(bz [32,88]))++r2.1.1)++(bz [32,83]))++r3.1.1)++(bz [32,80,99]))++r4.1.1)++(bz [32])))+(ByteArray.size (((bz [])++(bz [73]))++(bz [78])))) (4611686018427387904:Nat))then (some ((((((((((((bz [65])++r1.1.1)++(bz [32,88]))++r2.1.1)++(bz [32,83]))++r3.1.1)++(bz [32,80,99]))++r4.1.1)++(bz [32]))++(((bz [])++(bz [73]))++(bz [78]))),()),()))else none)else bif (leN ((ByteArray.size (((((((((bz [65])++r1.1.1)++(bz [32,88]))++r2.1.1)++(bz [32,83]))++r3.1.1)++(bz [32,80,99]))++r4.1.1)++(bz [32])))+(ByteArray.size ((bz [])++(bz [73])))) (4611686018427387904:Nat))then (some ((((((((((((bz [65])++r1.1.1)++(bz [32,88]))++r2.1.1)++(bz [32,83]))++r3.1.1)++(bz [32,80,99]))++r4.1.1)++(bz [32]))++((bz [])++(bz [73]))),()),()))else none)else bif y.1.2.2.2.2.2.1 then (bif (leN ((ByteArray.size (((((((((bz [65])++r1.1.1)++(bz [32,88]))++r2.1.1)++(bz [32,83]))++r3.1.1)++(bz [32,80,99]))++r4.1.1)++(bz [32])))+(ByteArray.size ((bz [])++(bz [78])))) (4611686018427387904:Nat))then (some ((((((((((((bz [65])++r1.1.1)++(bz [32,88]))++r2.1.1)++(bz [32,83]))++r3.1.1)++(bz [32,80,99]))++r4.1.1)++(bz [32]))++((bz [])++(bz [78]))),()),()))else none)else bif (leN ((ByteArray.size (((((((((bz [65])++r1.1.1)++(bz [32,88]))++r2.1.1)++(bz [32,83]))++r3.1.1)++(bz [32,80,99]))++r4.1.1)++(bz [32])))+(ByteArray.size (bz [45]))) (4611686018427387904:Nat))then (some ((((((((((((bz [65])++r1.1.1)++(bz [32,88]))++r2.1.1)++(bz [32,83]))++r3.1.1)++(bz [32,80,99]))++r4.1.1)++(bz [32]))++(bz [45])),()),()))else none)else none)else none)else none)else none)else none)else none)else none)else none
theorem s5 (c21:F21) (c22:F22) (y):TE [g21 c21,g22 c22] Tryd.f5 i5 o5 y=m5 c21 c22 y:=by kernel_rfl
noncomputable def r5:F5:=m5 r21 r22
theorem k5:KO (g5 r5):=fk (s5 r21 r22) ⟨k21,k22,⟨⟩⟩ (by kernel_rfl)
abbrev i34:Ts:=[.v (.int .i64), .v (.int .i64), .v (.int .i64)]
abbrev o34:Ts:=[.v (.bool)]
abbrev F34:=FT i34 o34
abbrev g34:=mkG 34 i34 o34
noncomputable def m34 (y:PTup i34):Option (PTup o34×BTup i34):=
  bif (leI y.2.1 y.1)then (some (((leI y.1 y.2.2.1),()),()))
  else no
theorem s34 (y):TE [] Tryd.f34 i34 o34 y=m34 y:=by kernel_rfl
noncomputable def r34:F34:=m34
theorem k34:KO (g34 r34):=fk (s34) trivial (by kernel_rfl)
abbrev i33:Ts:=[.v (.int .i64)]
abbrev o33:Ts:=[.v (.bool)]
abbrev F33:=FT i33 o33
abbrev g33:=mkG 33 i33 o33
noncomputable def m33 (c34:F34) (y:PTup i33):Option (PTup o33×BTup i33):=
  (c34 (y.1,((0:Int),((255:Int),())))).bind fun r0=>
  some (r0.1,())
theorem s33 (c34:F34) (y):TE [g34 c34] Tryd.f33 i33 o33 y=m33 c34 y:=by kernel_rfl
noncomputable def r33:F33:=m33 r34
theorem k33:KO (g33 r33):=fk (s33 r34) ⟨k34,⟨⟩⟩ (by kernel_rfl)
abbrev i20:Ts:=[.a q0]
abbrev o20:Ts:=[.v (.bool)]
abbrev F20:=FT i20 o20
abbrev g20:=mkG 20 i20 o20
noncomputable def m20 (c33:F33) (c34:F34) (y:PTup i20):Option (PTup o20×BTup i20):=
  (c33 (y.1.1,())).bind fun r0=>
  bif r0.1.1 then ((c33 (y.1.2.1,())).bind fun r1=>
   bif r1.1.1 then ((c33 (y.1.2.2.1,())).bind fun r2=>
    bif r2.1.1 then ((c34 (y.1.2.2.2.1,((0:Int),((65535:Int),())))).bind fun r3=>
     some (r3.1,()))
    else no)
   else no)
  else no
theorem s20 (c33:F33) (c34:F34) (y):TE [g33 c33,g34 c34] Tryd.f20 i20 o20 y=m20 c33 c34 y:=by kernel_rfl
noncomputable def r20:F20:=m20 r33 r34
theorem k20:KO (g20 r20):=fk (s20 r33 r34) ⟨k33,k34,⟨⟩⟩ (by kernel_rfl)
abbrev i24:Ts:=[.v (.int .i64)]
abbrev o24:Ts:=[.v (.str)]
abbrev F24:=FT i24 o24
abbrev g24:=mkG 24 i24 o24
noncomputable def m24 (c39:F39) (y:PTup i24):Option (PTup o24×BTup i24):=
  (c39 y).bind fun r0=>
  some (r0.1,())
theorem s24 (c39:F39) (y):TE [g39 c39] Tryd.f24 i24 o24 y=m24 c39 y:=by kernel_rfl
noncomputable def r24:F24:=m24 r39
theorem k24:KO (g24 r24):=fk (s24 r39) ⟨k39,⟨⟩⟩ (by kernel_rfl)
abbrev i7:Ts:=[.a q0]
abbrev o7:Ts:=[.v (.str)]
abbrev F7:=FT i7 o7
abbrev g7:=mkG 7 i7 o7
abbrev lc7_0:Ts:=[.v (.sl false .o), .v (.int .i64)]
abbrev lb7_0:Ts:=[]
abbrev lv7_0:Ts:=[.v (.str), .v (.int .i64)]
abbrev lr7_0:Ts:=[]
abbrev R7_0:=Option (Sum (PTup lv7_0) (PTup lr7_0)×BTup lb7_0)
abbrev B7_0:=PTup lb7_0→PTup lv7_0→R7_0
abbrev A7_0:=PTup lc7_0→B7_0
noncomputable def w7_0 (c20:F20) (c24:F24) (c23:F23) (again:B7_0) (x:PTup lc7_0) (y:PTup lb7_0) (z:PTup lv7_0):R7_0:=
  bif (ltI z.2.1 x.2.1)then (bif (leI 0 z.2.1)then (bif (ltI z.2.1 (lenI x.1))then (bif (rdE .o x.1 z.2.1)then (bif (leI 0 (wI (z.2.1+1)))then (bif (leI (wI (z.2.1+1)) ((((ByteArray.size (bz [67,90,73,78])):Nat)):Int))then (bif (leI 0 z.2.1)then (bif (leI z.2.1 (wI (z.2.1+1)))then (bif (leN ((ByteArray.size z.1)+(ByteArray.size (ByteArray.extract (bz [67,90,73,78]) (Int.toNat z.2.1) (Int.toNat (wI (z.2.1+1)))))) (4611686018427387904:Nat))then (again () ((z.1++(ByteArray.extract (bz [67,90,73,78]) (Int.toNat z.2.1) (Int.toNat (wI (z.2.1+1))))),((wI (z.2.1+1)),())))
          else none)
         else none)
        else none)
       else none)
      else none)
     else again () (z.1,((wI (z.2.1+1)),())))
    else none)
   else none)
  else some ((Sum.inl z),())
noncomputable def e7_0 (l:A7_0):LoopE:=⟨[17,18],lc7_0,[],lb7_0,[3,19],lv7_0,[],lr7_0,0,[],l⟩
noncomputable def m7 (c20:F20) (c24:F24) (c23:F23) (l0:A7_0) (y:PTup i7):Option (PTup o7×BTup i7):=
  (c20 (y.1,())).bind fun r0=>
  bif (!r0.1.1)then (some (((bz []),()),()))
  else (l0 ((y.1.2.2.2.2.2.2.1::(y.1.2.2.2.2.1::(y.1.2.2.2.2.2.2.2.1::(y.1.2.2.2.2.2.1::[])))),((lenI (y.1.2.2.2.2.2.2.1::(y.1.2.2.2.2.1::(y.1.2.2.2.2.2.2.2.1::(y.1.2.2.2.2.2.1::[]))))),())) () ((bz []),((0:Int),()))).bind fun r1=>
  sumElim r1.1 (fun r2=>bif ((ByteArray.toList r2.1)==(ByteArray.toList (bz [])))then ((c24 (y.1.1,())).bind fun r3=>
    bif (leN ((ByteArray.size (bz [65]))+(ByteArray.size r3.1.1)) (4611686018427387904:Nat))then ((c24 (y.1.2.1,())).bind fun r4=>
     bif (leN ((ByteArray.size (bz [88]))+(ByteArray.size r4.1.1)) (4611686018427387904:Nat))then ((c24 (y.1.2.2.1,())).bind fun r5=>
      bif (leN ((ByteArray.size (bz [83]))+(ByteArray.size r5.1.1)) (4611686018427387904:Nat))then ((c24 (y.1.2.2.2.1,())).bind fun r6=>
       bif (leN ((ByteArray.size (bz [80,99]))+(ByteArray.size r6.1.1)) (4611686018427387904:Nat))then ((c23 ((((bz [65])++r3.1.1)::(((bz [88])++r4.1.1)::(((bz [83])++r5.1.1)::(((bz [80,99])++r6.1.1)::((bz [45])::[]))))),((bz [32]),()))).bind fun r7=>
        some (r7.1,()))
       else none)
      else none)
     else none)
    else none)
   else (c24 (y.1.1,())).bind fun r3=>
   bif (leN ((ByteArray.size (bz [65]))+(ByteArray.size r3.1.1)) (4611686018427387904:Nat))then ((c24 (y.1.2.1,())).bind fun r4=>
    bif (leN ((ByteArray.size (bz [88]))+(ByteArray.size r4.1.1)) (4611686018427387904:Nat))then ((c24 (y.1.2.2.1,())).bind fun r5=>
     bif (leN ((ByteArray.size (bz [83]))+(ByteArray.size r5.1.1)) (4611686018427387904:Nat))then ((c24 (y.1.2.2.2.1,())).bind fun r6=>
      bif (leN ((ByteArray.size (bz [80,99]))+(ByteArray.size r6.1.1)) (4611686018427387904:Nat))then ((c23 ((((bz [65])++r3.1.1)::(((bz [88])++r4.1.1)::(((bz [83])++r5.1.1)::(((bz [80,99])++r6.1.1)::(r2.1::[]))))),((bz [32]),()))).bind fun r7=>
       some (r7.1,()))
      else none)
     else none)
    else none)
   else none)
  (fun r2=>some (((bz []),()),()))
noncomputable def E7 (c20:F20) (c24:F24) (c23:F23) (l0:A7_0):CEnv:=⟨⟨Tryd.prog,fnsL [g20 c20,g24 c24,g23 c23]⟩,loopsL [(5,e7_0 l0)]⟩
theorem t7_0 (c20:F20) (c24:F24) (c23:F23) (l0:A7_0) (again) (x y z):loopRound (E7 c20 c24 c23 l0) (loopAt (bodyOf Tryd.f7) 0) (e7_0 l0) Tryd.f7.ntmps again x y z=w7_0 c20 c24 c23 again x y z:=by kernel_rfl
noncomputable def n7_0 (c20:F20) (c24:F24) (c23:F23):Nat→A7_0
  |0,_,_,_=>none
  |n+1,x,y,z=>w7_0 c20 c24 c23 (fun y z=>n7_0 c20 c24 c23 n x y z) x y z
theorem s7 (c20:F20) (c24:F24) (c23:F23) (l0:A7_0) (y):tevF (E7 c20 c24 c23 l0) Tryd.f7 i7 o7 y=m7 c20 c24 c23 l0 y:=by kernel_rfl
noncomputable def L7_0:A7_0:=n7_0 r20 r24 r23 fuel
noncomputable def r7:F7:=m7 r20 r24 r23 L7_0
theorem k7:KO (g7 r7):=by
  have hE: ∀g f,(E7 r20 r24 r23 L7_0).env.fns g=some f→CallOk Tryd.prog g f:=fnsL_ok ⟨k20,k24,k23,⟨⟩⟩
  have h0:LoopOk Tryd.prog Tryd.f7.ntmps (loopAt (bodyOf Tryd.f7) 0) (e7_0 L7_0):=lp_ok (E:=E7 r20 r24 r23 L7_0) rfl hE mixed (AllLoops.of_list (l:=[]) (by kernel_rfl) trivial) (n7_0 r20 r24 r23) (fun _ _ _=>rfl) (fun n x y z=>t7_0 r20 r24 r23 L7_0 _ x y z) rfl
  exact fn_ok (E:=E7 r20 r24 r23 L7_0) rfl hE mixed (by kernel_rfl) (by kernel_rfl) (AllLoops.of_list (l:=[(loopAt (bodyOf Tryd.f7) 0)]) (by kernel_rfl) (.one (by kernel_rfl) h0 trivial)) (s7 r20 r24 r23 L7_0)
abbrev i3:Ts:=[.a q0]
abbrev o3:Ts:=[.v (.bool)]
abbrev F3:=FT i3 o3
abbrev g3:=mkG 3 i3 o3
noncomputable def m3 (c7:F7) (c6:F6) (c5:F5) (y:PTup i3):Option (PTup o3×BTup i3):=
  (c6 (y.1,())).bind fun r0=>
  (c5 (r0.1.1,())).bind fun r1=>
  (c6 (y.1,())).bind fun r2=>
  (c7 (r2.1.1,())).bind fun r3=>
  bif (!((ByteArray.toList r3.1.1)==(ByteArray.toList r1.1.1)))then no
  else some ((true,()),())
theorem s3 (c7:F7) (c6:F6) (c5:F5) (y):TE [g7 c7,g6 c6,g5 c5] Tryd.f3 i3 o3 y=m3 c7 c6 c5 y:=by kernel_rfl
noncomputable def r3:F3:=m3 r7 r6 r5
theorem k3:KO (g3 r3):=fk (s3 r7 r6 r5) ⟨k7,k6,k5,⟨⟩⟩ (by kernel_rfl)
end Go.Proofs.YtjagjoolnoodaaaDoor.Plain
