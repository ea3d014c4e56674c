/- Plain functions that the program's functions answer as; their contracts. Printed by a program of the proofs' writer. No condition. -/
import Derived.Test.YtmlahgmhbdpkjaaGreatDoorX
import Derived.KernelRfl
import Derived.Test.YtmlahgmhbdpkjaaGreatDoorProg
set_option linter.unusedVariables false
set_option linter.unusedSimpArgs false
set_option maxRecDepth 100000
namespace Go.Proofs.YtmlahgmhbdpkjaaGreatDoor.Plain
open Go Go.Tev
theorem mixed : Tryz.prog.follows .mixedOrders = true := by kernel_rfl
noncomputable abbrev mkE (l : List (Nat × Tev.Fn)) : CEnv := ⟨⟨Tryz.prog, fnsL l⟩, Za9 []⟩
abbrev FT (i o : List Ty) := PTup i → Option (PTup o × BTup i)
abbrev Ts := List Ty
abbrev bz (l : List UInt8) : ByteArray := ⟨⟨l⟩⟩
noncomputable abbrev TE (l : List (Nat × Tev.Fn)) (f : Func) (i o : List Ty) := tevF (mkE l) f i o
abbrev no : Option ((Bool × Unit) × Unit) := some ((false, ()), ())
abbrev mkG (k : Nat) (i o : List Ty) (c : FT i o) : Nat × Tev.Fn := (k, ⟨i, o, c, .nor⟩)
abbrev KO (x : Nat × Tev.Fn) : Prop := CK Tryz.prog x
theorem fk {l : List (Nat × Tev.Fn)} {g : FuncId} {f : Func} {i o : List Ty} {run : FT i o} (h : ∀ y, tevF (mkE l) f i o y = run y) (hE : ZlF Tryz.prog l) (hg : (Tryz.prog.funcs[g]?, ZiQ f i o && (Zc6 (Zag f)).isEmpty) = (some f, true)) : KO (mkG g i o run) := by
  have hs := congrArg Prod.snd hg
  dsimp only at hs
  rw [Bool.and_eq_true, List.isEmpty_iff] at hs
  exact fn0 h (ZaE hE) rfl mixed (congrArg Prod.fst hg) hs.1 hs.2
abbrev i134 : Ts := [.v (.int .i64)]
abbrev o134 : Ts := [.v .str]
abbrev F134 := FT i134 o134
abbrev g134 (c : F134) : Nat × Tev.Fn := mkG 134 i134 o134 c
noncomputable def r134 : F134 := ZrC.run
theorem k134 : KO (g134 r134) := ZvS
abbrev i42 : Ts := [.v .str, .v .str]
abbrev o42 : Ts := [.v .str, .v .bool]
abbrev F42 := FT i42 o42
abbrev g42 (c : F42) : Nat × Tev.Fn := mkG 42 i42 o42 c
noncomputable def r42 : F42 := Zel.run
theorem k42 : KO (g42 r42) := Zp6
abbrev i89 : Ts := [.v .str, .v .str]
abbrev o89 : Ts := [.v .str, .v .str, .v .bool]
abbrev F89 := FT i89 o89
abbrev g89 (c : F89) : Nat × Tev.Fn := mkG 89 i89 o89 c
noncomputable def r89 : F89 := cutF.run
theorem k89 : KO (g89 r89) := cutK
abbrev i85 : Ts := [.v .str, .v .str]
abbrev o85 : Ts := [.v (.sl true .s)]
abbrev F85 := FT i85 o85
abbrev g85 (c : F85) : Nat × Tev.Fn := mkG 85 i85 o85 c
noncomputable def r85 : F85 := ZnE.run
theorem k85 : KO (g85 r85) := splitK
abbrev i43 : Ts := [.v .str, .v (.int .i64)]
abbrev o43 : Ts := [.v (.int .i64), .v .bool]
abbrev F43 := FT i43 o43
abbrev g43 (c : F43) : Nat × Tev.Fn := mkG 43 i43 o43 c
noncomputable def r43 : F43 := Ztv.run
theorem k43 : KO (g43 r43) := ZvY
abbrev q0 : List LT := [.sl false .n]
abbrev q1 : List LT := [.sl true .i, .int .i64]
abbrev q2 : List LT := [.sl false .i, .int .i64]
abbrev q3 : List LT := [.int .i64, .int .i64, .int .i64, .int .i64, .bool, .bool, .bool, .bool]
abbrev q4 : List LT := [.int .i64, .int .i64, .int .i64, .int .i64, .int .i64, .bool, .sl true .i, .sl true .i]
abbrev q5 : List LT := [.int .i64, .int .i64, .int .i64, .int .i64, .int .i64, .bool, .sl false .i, .sl false .i]
abbrev q6 : List LT := [.int .i64, .sl false .t]
abbrev q7 : List LT := [.int .i64, .int .i64, .int .i64, .int .i64, .int .i64, .bool, .sl false .i, .sl false .i, .int .i64, .sl false .t, .sl false .n]
abbrev q8 : List LT := [.int .i64, .int .i64, .int .i64, .int .i64, .int .i64, .bool, .bool]
abbrev q9 : List LT := [.int .i64, .int .i64, .int .i64, .int .i64, .int .i64, .bool, .bool, .int .i64, .sl false .t, .sl false .i]
abbrev q10 : List LT := [.sl false .n, .sl false .i, .sl false .i, .int .i64, .int .i64, .int .i64, .int .i64, .int .i64, .bool, .bool, .bool, .bool, .bool, .int .i64, .int .i64, .bool, .int .i64, .bool, .int .i64, .int .i64, .sl false .i, .int .i64, .int .i64, .int .i64, .int .i64, .int .i64, .bool, .sl false .i, .sl false .i, .int .i64, .sl false .t, .sl false .n, .int .i64, .int .i64, .int .i64, .int .i64, .int .i64, .bool, .bool, .int .i64, .sl false .t, .sl false .i]
abbrev q11 : List LT := [.sl true .n, .sl true .i, .sl true .i, .int .i64, .int .i64, .int .i64, .int .i64, .int .i64, .bool, .bool, .bool, .bool, .bool, .int .i64, .int .i64, .bool, .int .i64, .bool, .int .i64, .int .i64, .sl true .i, .int .i64, .int .i64, .int .i64, .int .i64, .int .i64, .bool, .sl true .i, .sl true .i, .int .i64, .sl true .t, .sl true .n, .int .i64, .int .i64, .int .i64, .int .i64, .int .i64, .bool, .bool, .int .i64, .sl true .t, .sl true .i]
abbrev q12 : List LT := [.sl false .b, .int .i64, .int .i64]
abbrev q13 : List LT := [.sl false .n, .sl false .i, .sl false .i, .int .i64, .int .i64, .int .i64, .int .i64, .int .i64, .bool, .bool, .bool, .bool, .int .i64, .int .i64, .int .i64, .int .i64, .int .i64, .bool, .sl false .i, .sl false .i, .int .i64, .int .i64, .int .i64, .int .i64, .int .i64, .bool, .bool, .bool, .int .i64, .bool, .int .i64, .sl false .n, .sl false .i, .sl false .i]
abbrev q14 : List LT := [.sl true .n, .sl true .i, .sl true .i, .int .i64, .int .i64, .int .i64, .int .i64, .int .i64, .bool, .bool, .bool, .bool, .int .i64, .int .i64, .int .i64, .int .i64, .int .i64, .bool, .sl true .i, .sl true .i, .int .i64, .int .i64, .int .i64, .int .i64, .int .i64, .bool, .bool, .bool, .int .i64, .bool, .int .i64, .sl true .n, .sl true .i, .sl true .i]
abbrev q15 : List LT := [.int .i64, .int .i64]
abbrev q16 : List LT := [.sl false .n, .sl false .i, .sl false .i, .int .i64, .int .i64, .int .i64, .int .i64, .int .i64, .bool, .bool, .bool, .bool, .int .i64, .int .i64, .int .i64, .int .i64, .int .i64, .bool, .sl false .i, .sl true .i, .int .i64, .int .i64, .int .i64, .int .i64, .int .i64, .bool, .bool, .bool, .int .i64, .bool, .int .i64, .sl true .n, .sl true .i, .sl false .i]
abbrev q17 : List LT := [.sl false .n, .sl false .i, .sl true .i, .int .i64, .int .i64, .int .i64, .int .i64, .int .i64, .bool, .bool, .bool, .bool, .int .i64, .int .i64, .int .i64, .int .i64, .int .i64, .bool, .sl true .i, .sl true .i, .int .i64, .int .i64, .int .i64, .int .i64, .int .i64, .bool, .bool, .bool, .int .i64, .bool, .int .i64, .sl true .n, .sl true .i, .sl true .i]
abbrev q18 : List LT := [.sl false .n, .sl false .i, .sl false .i]
abbrev q19 : List LT := [.int .i64, .int .i64, .int .i64, .int .i64, .int .i64, .bool, .sl true .i, .sl true .i, .int .i64, .sl true .t, .sl true .n]
abbrev q20 : List LT := [.int .i64, .int .i64, .int .i64, .int .i64, .int .i64, .bool, .bool, .int .i64, .sl true .t, .sl true .i]
abbrev q21 : List LT := [.sl false .n, .sl false .i, .sl true .i, .int .i64, .int .i64, .int .i64, .int .i64, .int .i64, .bool, .bool, .bool, .bool, .bool, .int .i64, .int .i64, .bool, .int .i64, .bool, .int .i64, .int .i64, .sl true .i, .int .i64, .int .i64, .int .i64, .int .i64, .int .i64, .bool, .sl false .i, .sl false .i, .int .i64, .sl true .t, .sl false .n, .int .i64, .int .i64, .int .i64, .int .i64, .int .i64, .bool, .bool, .int .i64, .sl true .t, .sl false .i]
abbrev i190:Ts:=[.v (.int .i64)]
abbrev o190:Ts:=[.v (.str)]
abbrev F190:=FT i190 o190
abbrev g190:=mkG 190 i190 o190
abbrev lc190_0:Ts:=[]
abbrev lb190_0:Ts:=[]
abbrev lv190_0:Ts:=[.v (.int .i64), .v (.str)]
abbrev lr190_0:Ts:=[]
abbrev R190_0:=Option (Sum (PTup lv190_0) (PTup lr190_0)×BTup lb190_0)
abbrev B190_0:=PTup lb190_0→PTup lv190_0→R190_0
abbrev A190_0:=PTup lc190_0→B190_0
noncomputable def w190_0 (again:B190_0) (x:PTup lc190_0) (y:PTup lb190_0) (z:PTup lv190_0):R190_0:=
  bif (ltI 0 z.1)then (bif (leN ((ByteArray.size (Zh3 ((wB (wI ((48:Int)+(Int.tmod z.1 10))))::[])))+(ByteArray.size z.2.1)) (4611686018427387904:Nat))then (again () ((wI (Int.tdiv z.1 10)),(((Zh3 ((wB (wI ((48:Int)+(Int.tmod z.1 10))))::[]))++z.2.1),())))
   else none)
  else some ((Sum.inl z),())
noncomputable def e190_0 (l:A190_0):Zbb:=⟨[],lc190_0,[],lb190_0,[0,3],lv190_0,[],lr190_0,0,[],l⟩
noncomputable def m190 (l0:A190_0) (y:PTup i190):Option (PTup o190×BTup i190):=
  bif (eqI y.1 0)then (some (((bz [48]),()),()))
  else (l0 () () (y.1,((bz []),()))).bind fun r0=>
  Zai r0.1 (fun r1=>some (r1.2,()))
  (fun r1=>some (((bz []),()),()))
noncomputable def E190 (l0:A190_0):CEnv:=⟨⟨Tryz.prog,fnsL []⟩,Za9 [(4,e190_0 l0)]⟩
theorem t190_0 (l0:A190_0) (again) (x y z):Zak (E190 l0) (Zaf (Zag Tryz.f190) 0) (e190_0 l0) Tryz.f190.ntmps again x y z=w190_0 again x y z:=by kernel_rfl
noncomputable def n190_0:Nat→A190_0
  |0,_,_,_=>none
  |n+1,x,y,z=>w190_0 (fun y z=>n190_0 n x y z) x y z
theorem s190 (l0:A190_0) (y):tevF (E190 l0) Tryz.f190 i190 o190 y=m190 l0 y:=by kernel_rfl
noncomputable def L190_0:A190_0:=n190_0 fuel
noncomputable def r190:F190:=m190 L190_0
theorem k190:KO (g190 r190):=by
  have hE: ∀g f,(E190 L190_0).env.fns g=some f→Zal Tryz.prog g f:=ZaE trivial
  have h0:ZaS Tryz.prog Tryz.f190.ntmps (Zaf (Zag Tryz.f190) 0) (e190_0 L190_0):=ZbS (E:=E190 L190_0) rfl hE mixed (Zad.of_list (l:=[]) (by kernel_rfl) trivial) (n190_0) (fun _ _ _=>rfl) (fun n x y z=>t190_0 L190_0 _ x y z) rfl
  exact Zcd (E:=E190 L190_0) rfl hE mixed (by kernel_rfl) (by kernel_rfl) (Zad.of_list (l:=[(Zaf (Zag Tryz.f190) 0)]) (by kernel_rfl) (.one (by kernel_rfl) h0 trivial)) (s190 L190_0)
abbrev i151:Ts:=[.v (.str)]
abbrev o151:Ts:=[.v (.int .i64)]
abbrev F151:=FT i151 o151
abbrev g151:=mkG 151 i151 o151
abbrev lc151_0:Ts:=[.v (.str)]
abbrev lb151_0:Ts:=[]
abbrev lv151_0:Ts:=[.v (.int .i64), .v (.int .i64)]
abbrev lr151_0:Ts:=[.v (.int .i64)]
abbrev R151_0:=Option (Sum (PTup lv151_0) (PTup lr151_0)×BTup lb151_0)
abbrev B151_0:=PTup lb151_0→PTup lv151_0→R151_0
abbrev A151_0:=PTup lc151_0→B151_0
noncomputable def w151_0 (c190:F190) (again:B151_0) (x:PTup lc151_0) (y:PTup lb151_0) (z:PTup lv151_0):R151_0:=
  bif (ltI z.2.1 ((((ByteArray.size x.1):Nat)):Int))then (bif (leI 0 z.2.1)then (bif (ltI z.2.1 ((((ByteArray.size x.1):Nat)):Int))then (bif (ltI (bt x.1 z.2.1) 48)then (some ((Sum.inr ((-(1:Int)),())),()))
     else bif (leI 0 z.2.1)then (bif (ltI z.2.1 ((((ByteArray.size x.1):Nat)):Int))then (bif (ltI 57 (bt x.1 z.2.1))then (some ((Sum.inr ((-(1:Int)),())),()))
       else bif (leI 0 z.2.1)then (bif (ltI z.2.1 ((((ByteArray.size x.1):Nat)):Int))then (again () ((wI ((wI ((wI ((10:Int)*z.1))+(wI (bt x.1 z.2.1))))-48)),((wI (z.2.1+1)),())))
        else none)
       else none)
      else none)
     else none)
    else none)
   else none)
  else some ((Sum.inl z),())
noncomputable def e151_0 (l:A151_0):Zbb:=⟨[0],lc151_0,[],lb151_0,[3,4],lv151_0,[2],lr151_0,0,[],l⟩
noncomputable def m151 (c190:F190) (l0:A151_0) (y:PTup i151):Option (PTup o151×BTup i151):=
  bif ((ByteArray.toList y.1)==(ByteArray.toList (bz [])))then (some (((-(1:Int)),()),()))
  else bif (ltI 5 ((((ByteArray.size y.1):Nat)):Int))then (some (((-(1:Int)),()),()))
  else (l0 y () ((0:Int),((0:Int),()))).bind fun r0=>
  Zai r0.1 (fun r1=>(c190 (r1.1,())).bind fun r2=>
   bif (!((ByteArray.toList r2.1.1)==(ByteArray.toList y.1)))then (some (((-(1:Int)),()),()))
   else some ((r1.1,()),()))
  (fun r1=>some (r1,()))
noncomputable def E151 (c190:F190) (l0:A151_0):CEnv:=⟨⟨Tryz.prog,fnsL [g190 c190]⟩,Za9 [(5,e151_0 l0)]⟩
theorem t151_0 (c190:F190) (l0:A151_0) (again) (x y z):Zak (E151 c190 l0) (Zaf (Zag Tryz.f151) 0) (e151_0 l0) Tryz.f151.ntmps again x y z=w151_0 c190 again x y z:=by kernel_rfl
noncomputable def n151_0 (c190:F190):Nat→A151_0
  |0,_,_,_=>none
  |n+1,x,y,z=>w151_0 c190 (fun y z=>n151_0 c190 n x y z) x y z
theorem s151 (c190:F190) (l0:A151_0) (y):tevF (E151 c190 l0) Tryz.f151 i151 o151 y=m151 c190 l0 y:=by kernel_rfl
noncomputable def L151_0:A151_0:=n151_0 r190 fuel
noncomputable def r151:F151:=m151 r190 L151_0
theorem k151:KO (g151 r151):=by
  have hE: ∀g f,(E151 r190 L151_0).env.fns g=some f→Zal Tryz.prog g f:=ZaE ⟨k190,⟨⟩⟩
  have h0:ZaS Tryz.prog Tryz.f151.ntmps (Zaf (Zag Tryz.f151) 0) (e151_0 L151_0):=ZbS (E:=E151 r190 L151_0) rfl hE mixed (Zad.of_list (l:=[]) (by kernel_rfl) trivial) (n151_0 r190) (fun _ _ _=>rfl) (fun n x y z=>t151_0 r190 L151_0 _ x y z) rfl
  exact Zcd (E:=E151 r190 L151_0) rfl hE mixed (by kernel_rfl) (by kernel_rfl) (Zad.of_list (l:=[(Zaf (Zag Tryz.f151) 0)]) (by kernel_rfl) (.one (by kernel_rfl) h0 trivial)) (s151 r190 L151_0)
abbrev i110:Ts:=[.v (.str)]
abbrev o110:Ts:=[.v (.str), .v (.int .i64), .v (.bool)]
abbrev F110:=FT i110 o110
abbrev g110:=mkG 110 i110 o110
abbrev lc110_0:Ts:=[.v (.str)]
abbrev lb110_0:Ts:=[]
abbrev lv110_0:Ts:=[.v (.int .i64)]
abbrev lr110_0:Ts:=[.v (.str), .v (.int .i64), .v (.bool)]
abbrev R110_0:=Option (Sum (PTup lv110_0) (PTup lr110_0)×BTup lb110_0)
abbrev B110_0:=PTup lb110_0→PTup lv110_0→R110_0
abbrev A110_0:=PTup lc110_0→B110_0
noncomputable def w110_0 (c151:F151) (again:B110_0) (x:PTup lc110_0) (y:PTup lb110_0) (z:PTup lv110_0):R110_0:=
  bif (ltI z.1 ((((ByteArray.size x.1):Nat)):Int))then (bif (leI 0 z.1)then (bif (ltI z.1 ((((ByteArray.size x.1):Nat)):Int))then (bif (eqI (bt x.1 z.1) 32)then (bif (leI 0 (wI (z.1+1)))then (bif (leI (wI (z.1+1)) ((((ByteArray.size x.1):Nat)):Int))then ((c151 ((ByteArray.extract x.1 (Int.toNat (wI (z.1+1))) (ByteArray.size x.1)),())).bind fun r0=>
        bif (leI 0 z.1)then (bif (leI z.1 ((((ByteArray.size x.1):Nat)):Int))then (some ((Sum.inr ((ByteArray.extract x.1 (0:Nat) (Int.toNat z.1)),(r0.1.1,((leI 0 r0.1.1),())))),()))
         else none)
        else none)
       else none)
      else none)
     else again () ((wI (z.1+1)),()))
    else none)
   else none)
  else some ((Sum.inl z),())
noncomputable def e110_0 (l:A110_0):Zbb:=⟨[0],lc110_0,[],lb110_0,[5],lv110_0,[2,3,4],lr110_0,0,[],l⟩
noncomputable def m110 (c151:F151) (l0:A110_0) (y:PTup i110):Option (PTup o110×BTup i110):=
  (l0 y () ((0:Int),())).bind fun r0=>
  Zai r0.1 (fun r1=>some ((y.1,((-(1:Int)),(true,()))),()))
  (fun r1=>some (r1,()))
noncomputable def E110 (c151:F151) (l0:A110_0):CEnv:=⟨⟨Tryz.prog,fnsL [g151 c151]⟩,Za9 [(2,e110_0 l0)]⟩
theorem t110_0 (c151:F151) (l0:A110_0) (again) (x y z):Zak (E110 c151 l0) (Zaf (Zag Tryz.f110) 0) (e110_0 l0) Tryz.f110.ntmps again x y z=w110_0 c151 again x y z:=by kernel_rfl
noncomputable def n110_0 (c151:F151):Nat→A110_0
  |0,_,_,_=>none
  |n+1,x,y,z=>w110_0 c151 (fun y z=>n110_0 c151 n x y z) x y z
theorem s110 (c151:F151) (l0:A110_0) (y):tevF (E110 c151 l0) Tryz.f110 i110 o110 y=m110 c151 l0 y:=by kernel_rfl
noncomputable def L110_0:A110_0:=n110_0 r151 fuel
noncomputable def r110:F110:=m110 r151 L110_0
theorem k110:KO (g110 r110):=by
  have hE: ∀g f,(E110 r151 L110_0).env.fns g=some f→Zal Tryz.prog g f:=ZaE ⟨k151,⟨⟩⟩
  have h0:ZaS Tryz.prog Tryz.f110.ntmps (Zaf (Zag Tryz.f110) 0) (e110_0 L110_0):=ZbS (E:=E110 r151 L110_0) rfl hE mixed (Zad.of_list (l:=[]) (by kernel_rfl) trivial) (n110_0 r151) (fun _ _ _=>rfl) (fun n x y z=>t110_0 r151 L110_0 _ x y z) rfl
  exact Zcd (E:=E110 r151 L110_0) rfl hE mixed (by kernel_rfl) (by kernel_rfl) (Zad.of_list (l:=[(Zaf (Zag Tryz.f110) 0)]) (by kernel_rfl) (.one (by kernel_rfl) h0 trivial)) (s110 r151 L110_0)
abbrev i111:Ts:=[.v (.int .i64), .v (.int .i64), .v (.int .i64)]
abbrev o111:Ts:=[.v (.bool)]
abbrev F111:=FT i111 o111
abbrev g111:=mkG 111 i111 o111
noncomputable def m111 (y:PTup i111):Option (PTup o111×BTup i111):=
  bif (leI y.2.1 y.1)then (some (((leI y.1 y.2.2.1),()),()))
  else no
theorem s111 (y):TE [] Tryz.f111 i111 o111 y=m111 y:=by kernel_rfl
noncomputable def r111:F111:=m111
theorem k111:KO (g111 r111):=fk (s111) trivial (by kernel_rfl)
abbrev i152:Ts:=[]
abbrev o152:Ts:=[.v (.sl true .s)]
abbrev F152:=FT i152 o152
abbrev g152:=mkG 152 i152 o152
noncomputable def m152 (y:PTup i152):Option (PTup o152×BTup i152):=
  some ((((bz [110,111,112])::((bz [108,100,105])::((bz [108,100,97])::((bz [115,116,97])::((bz [97,100,105])::((bz [115,98,105])::((bz [97,110,105])::((bz [111,114,105])::((bz [120,114,105])::((bz [99,112,105])::((bz [116,97,120])::((bz [116,120,97])::((bz [105,110,120])::((bz [100,101,120])::((bz [108,97,120])::((bz [115,97,120])::((bz [98,110,101])::((bz [98,101,113])::((bz [98,99,115])::((bz [106,109,112])::((bz [106,115,114])::((bz [114,116,115])::((bz [112,104,97])::((bz [112,108,97])::((bz [114,116,105])::((bz [115,101,105])::((bz [99,108,105])::((bz [115,101,99])::((bz [99,108,99])::((bz [97,100,97])::[])))))))))))))))))))))))))))))),()),())
theorem s152 (y):TE [] Tryz.f152 i152 o152 y=m152 y:=by kernel_rfl
noncomputable def r152:F152:=m152
theorem k152:KO (g152 r152):=fk (s152) trivial (by kernel_rfl)
abbrev i112:Ts:=[.v (.str)]
abbrev o112:Ts:=[.v (.int .i64)]
abbrev F112:=FT i112 o112
abbrev g112:=mkG 112 i112 o112
abbrev lc112_0:Ts:=[.v (.str), .v (.sl false .s)]
abbrev lb112_0:Ts:=[]
abbrev lv112_0:Ts:=[.v (.int .i64)]
abbrev lr112_0:Ts:=[.v (.int .i64)]
abbrev R112_0:=Option (Sum (PTup lv112_0) (PTup lr112_0)×BTup lb112_0)
abbrev B112_0:=PTup lb112_0→PTup lv112_0→R112_0
abbrev A112_0:=PTup lc112_0→B112_0
noncomputable def w112_0 (c152:F152) (again:B112_0) (x:PTup lc112_0) (y:PTup lb112_0) (z:PTup lv112_0):R112_0:=
  bif (ltI z.1 (lenI x.2.1))then (bif (leI 0 z.1)then (bif (ltI z.1 (lenI x.2.1))then (bif ((ByteArray.toList (rdE .s x.2.1 z.1))==(ByteArray.toList x.1))then (some ((Sum.inr z),()))
     else again () ((wI (z.1+1)),()))
    else none)
   else none)
  else some ((Sum.inl z),())
noncomputable def e112_0 (l:A112_0):Zbb:=⟨[0,3],lc112_0,[],lb112_0,[4],lv112_0,[2],lr112_0,0,[],l⟩
noncomputable def m112 (c152:F152) (l0:A112_0) (y:PTup i112):Option (PTup o112×BTup i112):=
  (c152 ()).bind fun r0=>
  (l0 (y.1,r0.1) () ((0:Int),())).bind fun r1=>
  Zai r1.1 (fun r2=>some (((-(1:Int)),()),()))
  (fun r2=>some (r2,()))
noncomputable def E112 (c152:F152) (l0:A112_0):CEnv:=⟨⟨Tryz.prog,fnsL [g152 c152]⟩,Za9 [(3,e112_0 l0)]⟩
theorem t112_0 (c152:F152) (l0:A112_0) (again) (x y z):Zak (E112 c152 l0) (Zaf (Zag Tryz.f112) 0) (e112_0 l0) Tryz.f112.ntmps again x y z=w112_0 c152 again x y z:=by kernel_rfl
noncomputable def n112_0 (c152:F152):Nat→A112_0
  |0,_,_,_=>none
  |n+1,x,y,z=>w112_0 c152 (fun y z=>n112_0 c152 n x y z) x y z
theorem s112 (c152:F152) (l0:A112_0) (y):tevF (E112 c152 l0) Tryz.f112 i112 o112 y=m112 c152 l0 y:=by kernel_rfl
noncomputable def L112_0:A112_0:=n112_0 r152 fuel
noncomputable def r112:F112:=m112 r152 L112_0
theorem k112:KO (g112 r112):=by
  have hE: ∀g f,(E112 r152 L112_0).env.fns g=some f→Zal Tryz.prog g f:=ZaE ⟨k152,⟨⟩⟩
  have h0:ZaS Tryz.prog Tryz.f112.ntmps (Zaf (Zag Tryz.f112) 0) (e112_0 L112_0):=ZbS (E:=E112 r152 L112_0) rfl hE mixed (Zad.of_list (l:=[]) (by kernel_rfl) trivial) (n112_0 r152) (fun _ _ _=>rfl) (fun n x y z=>t112_0 r152 L112_0 _ x y z) rfl
  exact Zcd (E:=E112 r152 L112_0) rfl hE mixed (by kernel_rfl) (by kernel_rfl) (Zad.of_list (l:=[(Zaf (Zag Tryz.f112) 0)]) (by kernel_rfl) (.one (by kernel_rfl) h0 trivial)) (s112 r152 L112_0)
abbrev i113:Ts:=[.v (.int .i64)]
abbrev o113:Ts:=[.v (.int .i64)]
abbrev F113:=FT i113 o113
abbrev g113:=mkG 113 i113 o113
noncomputable def m113 (c111:F111) (y:PTup i113):Option (PTup o113×BTup i113):=
  (c111 (y.1,((0:Int),((29:Int),())))).bind fun r0=>
  bif (!r0.1.1)then (some (((1:Int),()),()))
  else bif (leI 0 y.1)then (bif (ltI y.1 (lenI ((1:Int)::((2:Int)::((3:Int)::((3:Int)::((2:Int)::((2:Int)::((2:Int)::((2:Int)::((2:Int)::((2:Int)::((1:Int)::((1:Int)::((1:Int)::((1:Int)::((3:Int)::((3:Int)::((3:Int)::((3:Int)::((3:Int)::((3:Int)::((3:Int)::((1:Int)::((1:Int)::((1:Int)::((1:Int)::((1:Int)::((1:Int)::((1:Int)::((1:Int)::((3:Int)::[]))))))))))))))))))))))))))))))))then (some (((rdE .i ((1:Int)::((2:Int)::((3:Int)::((3:Int)::((2:Int)::((2:Int)::((2:Int)::((2:Int)::((2:Int)::((2:Int)::((1:Int)::((1:Int)::((1:Int)::((1:Int)::((3:Int)::((3:Int)::((3:Int)::((3:Int)::((3:Int)::((3:Int)::((3:Int)::((1:Int)::((1:Int)::((1:Int)::((1:Int)::((1:Int)::((1:Int)::((1:Int)::((1:Int)::((3:Int)::[])))))))))))))))))))))))))))))) y.1),()),()))
   else none)
  else none
theorem s113 (c111:F111) (y):TE [g111 c111] Tryz.f113 i113 o113 y=m113 c111 y:=by kernel_rfl
noncomputable def r113:F113:=m113 r111
theorem k113:KO (g113 r113):=fk (s113 r111) ⟨k111,⟨⟩⟩ (by kernel_rfl)
abbrev i59:Ts:=[.v (.int .i64)]
abbrev o59:Ts:=[.v (.int .i64)]
abbrev F59:=FT i59 o59
abbrev g59:=mkG 59 i59 o59
noncomputable def m59 (y:PTup i59):Option (PTup o59×BTup i59):=
  some (((bAnd Go.IntKind.i64 y.1 (255:Int)),()),())
theorem s59 (y):TE [] Tryz.f59 i59 o59 y=m59 y:=by kernel_rfl
noncomputable def r59:F59:=m59
theorem k59:KO (g59 r59):=fk (s59) trivial (by kernel_rfl)
abbrev i58:Ts:=[.v (.str)]
abbrev o58:Ts:=[.v (.sl true .i), .v (.int .i64), .v (.bool)]
abbrev R58:=Option (PTup o58×BTup i58)
abbrev F58:=PTup i58→R58
abbrev g58:=mkG 58 i58 o58
noncomputable def m58 (c59:F59) (c113:F113) (c112:F112) (c111:F111) (c110:F110) (y:PTup i58):R58:=
  (c110 y).bind fun r0=>let X0:R58:=(c111 (r0.1.2.1,((0:Int),((255:Int),())))).bind fun r1=>bif (!r1.1.1)then (some (([],((-1),(false,()))),()))else bif ((ByteArray.toList r0.1.1)==(ByteArray.toList (bz [97,116])))then (some (([],(r0.1.2.1,(true,()))),()))else some (((r0.1.2.1::[]),((-1),(true,()))),());bif (!r0.1.2.2.1)then (some (([],((-1),(false,()))),()))else bif ((ByteArray.toList r0.1.1)==(ByteArray.toList (bz [97,116])))then X0 else bif ((ByteArray.toList r0.1.1)==(ByteArray.toList (bz [98,121,116,101])))then X0 else (c112 (r0.1.1,())).bind fun r1=>bif (ltI r1.1.1 0)then (some (([],((-1),(false,()))),()))else (c113 r1.1).bind fun r2=>bif (eqI r2.1.1 1)then (some (((r1.1.1::[]),((-1),((ltI r0.1.2.1 0),()))),()))else bif (eqI r2.1.1 2)then ((c59 (r0.1.2.1,())).bind fun r3=>(c111 (r0.1.2.1,((0:Int),((255:Int),())))).bind fun r4=>some (((r1.1.1::(r3.1.1::[])),((-1),r4.1)),()))else (c59 (r0.1.2.1,())).bind fun r3=>(c59 ((Int.fdiv r0.1.2.1 ((2:Int)^(Min.min (Int.toNat (8:Int)) (64:Nat)))),())).bind fun r4=>(c111 (r0.1.2.1,((0:Int),((65535:Int),())))).bind fun r5=>some (((r1.1.1::(r3.1.1::(r4.1.1::[]))),((-1),r5.1)),())
theorem s58 (c59:F59) (c113:F113) (c112:F112) (c111:F111) (c110:F110) (y):TE [g59 c59,g113 c113,g112 c112,g111 c111,g110 c110] Tryz.f58 i58 o58 y=m58 c59 c113 c112 c111 c110 y:=by kernel_rfl
noncomputable def r58:F58:=m58 r59 r113 r112 r111 r110
theorem k58:KO (g58 r58):=fk (s58 r59 r113 r112 r111 r110) ⟨k59,k113,k112,k111,k110,⟨⟩⟩ (by kernel_rfl)
abbrev i19:Ts:=[.v (.str)]
abbrev o19:Ts:=[.v (.sl true .i), .v (.int .i64)]
abbrev R19:=Option (PTup o19×BTup i19)
abbrev F19:=PTup i19→R19
abbrev g19:=mkG 19 i19 o19
abbrev lc19_0:Ts:=[.v (.sl false .i)]
abbrev lb19_0:Ts:=[]
abbrev lv19_0:Ts:=[.v (.int .i64), .v (.int .i64), .v (.sl true .i)]
abbrev lr19_0:Ts:=[]
abbrev R19_0:=Option (Sum (PTup lv19_0) (PTup lr19_0)×BTup lb19_0)
abbrev B19_0:=PTup lb19_0→PTup lv19_0→R19_0
abbrev A19_0:=PTup lc19_0→B19_0
noncomputable def w19_0 (c59:F59) (c58:F58) (again:B19_0) (x:PTup lc19_0) (y:PTup lb19_0) (z:PTup lv19_0):R19_0:=
  bif (ltI z.2.1 (lenI x.1))then ((c59 (z.1,())).bind fun r0=>
   bif (leI 0 z.2.1)then (bif (ltI z.2.1 (lenI x.1))then (bif (leI 0 r0.1.1)then (bif (ltI r0.1.1 (lenI z.2.2.1))then (again () ((wI (z.1+1)),((wI (z.2.1+1)),((List.set z.2.2.1 (Int.toNat r0.1.1) (rdE .i x.1 z.2.1)),()))))
      else none)
     else none)
    else none)
   else none)
  else some ((Sum.inl z),())
noncomputable def e19_0 (l:A19_0):Zbb:=⟨[10],lc19_0,[],lb19_0,[5,13,4],lv19_0,[],lr19_0,2,[],l⟩
abbrev lc19_1:Ts:=[.v (.str)]
abbrev lb19_1:Ts:=[]
abbrev lv19_1:Ts:=[.v (.int .i64), .v (.int .i64), .v (.int .i64), .v (.int .i64), .v (.sl true .i)]
abbrev lr19_1:Ts:=[.v (.sl true .i), .v (.int .i64)]
abbrev R19_1:=Option (Sum (PTup lv19_1) (PTup lr19_1)×BTup lb19_1)
abbrev B19_1:=PTup lb19_1→PTup lv19_1→R19_1
abbrev A19_1:=PTup lc19_1→B19_1
noncomputable def w19_1 (c59:F59) (c58:F58) (l0:A19_0) (again:B19_1) (x:PTup lc19_1) (y:PTup lb19_1) (z:PTup lv19_1):R19_1:=
  let X0:R19_1:=bif (leI 0 z.2.2.2.1)then (bif (leI z.2.2.2.1 ((((ByteArray.size x.1):Nat)):Int))then (bif (leI 0 z.2.1)then (bif (leI z.2.1 z.2.2.2.1)then (bif ((ByteArray.toList (ByteArray.extract x.1 (Int.toNat z.2.1) (Int.toNat z.2.2.2.1)))==(ByteArray.toList (bz [])))then (again () (z.1,((wI (z.2.2.2.1+1)),((wI (z.2.2.1+1)),((wI (z.2.2.2.1+1)),z.2.2.2.2)))))else (c58 ((ByteArray.extract x.1 (Int.toNat z.2.1) (Int.toNat z.2.2.2.1)),())).bind fun r0=>bif (!r0.1.2.2.1)then (some ((Sum.inr ([],((wI (z.2.2.1+1)),()))),()))else bif (leI 0 r0.1.2.1)then ((l0 (r0.1.1,()) () (r0.1.2.1,((0:Int),z.2.2.2.2))).bind fun r1=>Zai r1.1 (fun r2=>again () (r2.1,((wI (z.2.2.2.1+1)),((wI (z.2.2.1+1)),((wI (z.2.2.2.1+1)),r2.2.2))))) (fun r2=>none))else (l0 (r0.1.1,()) () (z.1,((0:Int),z.2.2.2.2))).bind fun r1=>Zai r1.1 (fun r2=>again () (r2.1,((wI (z.2.2.2.1+1)),((wI (z.2.2.1+1)),((wI (z.2.2.2.1+1)),r2.2.2))))) (fun r2=>none))else none)else none)else none)else none;let X1:R19_1:=bif (eqI z.2.2.2.1 ((((ByteArray.size x.1):Nat)):Int))then (bif (eqI z.2.1 ((((ByteArray.size x.1):Nat)):Int))then (again () (z.1,(z.2.1,(z.2.2.1,((wI (z.2.2.2.1+1)),z.2.2.2.2)))))else X0)else X0;bif (leI z.2.2.2.1 ((((ByteArray.size x.1):Nat)):Int))then (bif (ltI z.2.2.2.1 ((((ByteArray.size x.1):Nat)):Int))then (bif (leI 0 z.2.2.2.1)then (bif (ltI z.2.2.2.1 ((((ByteArray.size x.1):Nat)):Int))then (bif (neI (bt x.1 z.2.2.2.1) 10)then (again () (z.1,(z.2.1,(z.2.2.1,((wI (z.2.2.2.1+1)),z.2.2.2.2)))))else X1)else none)else none)else X1)else some ((Sum.inl z),())
noncomputable def e19_1 (l:A19_1):Zbb:=⟨[0],lc19_1,[],lb19_1,[5,6,7,8,4],lv19_1,[2,3],lr19_1,0,[],l⟩
noncomputable def m19 (c59:F59) (c58:F58) (l0:A19_0) (l1:A19_1) (y:PTup i19):R19:=
  bif (ltI 3000 ((((ByteArray.size y.1):Nat)):Int))then (some (([],((-(1:Int)),())),()))
  else (l1 y () ((0:Int),((0:Int),((0:Int),((0:Int),((List.replicate (Int.toNat (256:Int)) (0:Int)),())))))).bind fun r0=>
  Zai r0.1 (fun r1=>some ((r1.2.2.2.2.1,((0:Int),())),()))
  (fun r1=>some (r1,()))
noncomputable def E19 (c59:F59) (c58:F58) (l0:A19_0) (l1:A19_1):CEnv:=⟨⟨Tryz.prog,fnsL [g59 c59,g58 c58]⟩,Za9 [(19,e19_0 l0),(6,e19_1 l1)]⟩
theorem t19_0 (c59:F59) (c58:F58) (l0:A19_0) (l1:A19_1) (again) (x y z):Zak (E19 c59 c58 l0 l1) (Zaf (Zaf (Zag Tryz.f19) 0) 0) (e19_0 l0) Tryz.f19.ntmps again x y z=w19_0 c59 c58 again x y z:=by kernel_rfl
noncomputable def n19_0 (c59:F59) (c58:F58):Nat→A19_0
  |0,_,_,_=>none
  |n+1,x,y,z=>w19_0 c59 c58 (fun y z=>n19_0 c59 c58 n x y z) x y z
theorem t19_1 (c59:F59) (c58:F58) (l0:A19_0) (l1:A19_1) (again) (x y z):Zak (E19 c59 c58 l0 l1) (Zaf (Zag Tryz.f19) 0) (e19_1 l1) Tryz.f19.ntmps again x y z=w19_1 c59 c58 l0 again x y z:=by kernel_rfl
noncomputable def n19_1 (c59:F59) (c58:F58) (l0:A19_0):Nat→A19_1
  |0,_,_,_=>none
  |n+1,x,y,z=>w19_1 c59 c58 l0 (fun y z=>n19_1 c59 c58 l0 n x y z) x y z
theorem s19 (c59:F59) (c58:F58) (l0:A19_0) (l1:A19_1) (y):tevF (E19 c59 c58 l0 l1) Tryz.f19 i19 o19 y=m19 c59 c58 l0 l1 y:=by kernel_rfl
noncomputable def L19_0:A19_0:=n19_0 r59 r58 fuel
noncomputable def L19_1:A19_1:=n19_1 r59 r58 L19_0 fuel
noncomputable def r19:F19:=m19 r59 r58 L19_0 L19_1
theorem k19:KO (g19 r19):=by
  have hE: ∀g f,(E19 r59 r58 L19_0 L19_1).env.fns g=some f→Zal Tryz.prog g f:=ZaE ⟨k59,k58,⟨⟩⟩
  have h0:ZaS Tryz.prog Tryz.f19.ntmps (Zaf (Zaf (Zag Tryz.f19) 0) 0) (e19_0 L19_0):=ZbS (E:=E19 r59 r58 L19_0 L19_1) rfl hE mixed (Zad.of_list (l:=[]) (by kernel_rfl) trivial) (n19_0 r59 r58) (fun _ _ _=>rfl) (fun n x y z=>t19_0 r59 r58 L19_0 L19_1 _ x y z) rfl
  have h1:ZaS Tryz.prog Tryz.f19.ntmps (Zaf (Zag Tryz.f19) 0) (e19_1 L19_1):=ZbS (E:=E19 r59 r58 L19_0 L19_1) rfl hE mixed (Zad.of_list (l:=[(Zaf (Zaf (Zag Tryz.f19) 0) 0)]) (by kernel_rfl) (.one (by kernel_rfl) h0 trivial)) (n19_1 r59 r58 L19_0) (fun _ _ _=>rfl) (fun n x y z=>t19_1 r59 r58 L19_0 L19_1 _ x y z) rfl
  exact Zcd (E:=E19 r59 r58 L19_0 L19_1) rfl hE mixed (by kernel_rfl) (by kernel_rfl) (Zad.of_list (l:=[(Zaf (Zag Tryz.f19) 0)]) (by kernel_rfl) (.one (by kernel_rfl) h1 trivial)) (s19 r59 r58 L19_0 L19_1)
abbrev i60:Ts:=[.a q0]
abbrev o60:Ts:=[.a [.sl true .n]]
abbrev F60:=FT i60 o60
abbrev g60:=mkG 60 i60 o60
abbrev lc60_0:Ts:=[]
abbrev lb60_0:Ts:=[.p q0, .p [.sl true .n]]
abbrev lv60_0:Ts:=[.v (.int .i64)]
abbrev lr60_0:Ts:=[]
abbrev R60_0:=Option (Sum (PTup lv60_0) (PTup lr60_0)×BTup lb60_0)
abbrev B60_0:=PTup lb60_0→PTup lv60_0→R60_0
abbrev A60_0:=PTup lc60_0→B60_0
noncomputable def w60_0 (again:B60_0) (x:PTup lc60_0) (y:PTup lb60_0) (z:PTup lv60_0):R60_0:=
  bif (ltI z.1 (lenI y.1.1))then (bif (leI 0 z.1)then (bif (ltI z.1 (lenI y.1.1))then (bif (leN (0+(List.length (rdE .n y.1.1 z.1))) (E.most .i))then (bif (leN ((List.length y.2.1.1)+(List.length (([]++(rdE .n y.1.1 z.1))::[]))) (E.most .n))then (again (y.1,(((y.2.1.1++(([]++(rdE .n y.1.1 z.1))::[])),()),())) ((wI (z.1+1)),()))
      else none)
     else none)
    else none)
   else none)
  else some ((Sum.inl z),(y.1,(y.2.1,())))
noncomputable def e60_0 (l:A60_0):Zbb:=⟨[],lc60_0,[1,3],lb60_0,[4],lv60_0,[],lr60_0,0,[],l⟩
noncomputable def m60 (l0:A60_0) (y:PTup i60):Option (PTup o60×BTup i60):=
  (l0 () (y.1,(([],()),())) ((0:Int),())).bind fun r0=>
  Zai r0.1 (fun r1=>some ((r0.2.2.1,()),()))
  (fun r1=>some ((([],()),()),()))
noncomputable def E60 (l0:A60_0):CEnv:=⟨⟨Tryz.prog,fnsL []⟩,Za9 [(3,e60_0 l0)]⟩
theorem t60_0 (l0:A60_0) (again) (x y z):Zak (E60 l0) (Zaf (Zag Tryz.f60) 0) (e60_0 l0) Tryz.f60.ntmps again x y z=w60_0 again x y z:=by kernel_rfl
noncomputable def n60_0:Nat→A60_0
  |0,_,_,_=>none
  |n+1,x,y,z=>w60_0 (fun y z=>n60_0 n x y z) x y z
theorem s60 (l0:A60_0) (y):tevF (E60 l0) Tryz.f60 i60 o60 y=m60 l0 y:=by kernel_rfl
noncomputable def L60_0:A60_0:=n60_0 fuel
noncomputable def r60:F60:=m60 L60_0
theorem k60:KO (g60 r60):=by
  have hE: ∀g f,(E60 L60_0).env.fns g=some f→Zal Tryz.prog g f:=ZaE trivial
  have h0:ZaS Tryz.prog Tryz.f60.ntmps (Zaf (Zag Tryz.f60) 0) (e60_0 L60_0):=ZbS (E:=E60 L60_0) rfl hE mixed (Zad.of_list (l:=[]) (by kernel_rfl) trivial) (n60_0) (fun _ _ _=>rfl) (fun n x y z=>t60_0 L60_0 _ x y z) rfl
  exact Zcd (E:=E60 L60_0) rfl hE mixed (by kernel_rfl) (by kernel_rfl) (Zad.of_list (l:=[(Zaf (Zag Tryz.f60) 0)]) (by kernel_rfl) (.one (by kernel_rfl) h0 trivial)) (s60 L60_0)
abbrev i61:Ts:=[]
abbrev o61:Ts:=[.a q1]
abbrev F61:=FT i61 o61
abbrev g61:=mkG 61 i61 o61
noncomputable def m61 (y:PTup i61):Option (PTup o61×BTup i61):=
  some ((((List.replicate (Int.toNat (512:Int)) (0:Int)),((0:Int),())),()),())
theorem s61 (y):TE [] Tryz.f61 i61 o61 y=m61 y:=by kernel_rfl
noncomputable def r61:F61:=m61
theorem k61:KO (g61 r61):=fk (s61) trivial (by kernel_rfl)
abbrev i154:Ts:=[.a q0]
abbrev o154:Ts:=[.v (.bool)]
abbrev F154:=FT i154 o154
abbrev g154:=mkG 154 i154 o154
abbrev lc154_0:Ts:=[.v (.int .i64)]
abbrev lb154_0:Ts:=[.p q0]
abbrev lv154_0:Ts:=[.v (.int .i64)]
abbrev lr154_0:Ts:=[.v (.bool)]
abbrev R154_0:=Option (Sum (PTup lv154_0) (PTup lr154_0)×BTup lb154_0)
abbrev B154_0:=PTup lb154_0→PTup lv154_0→R154_0
abbrev A154_0:=PTup lc154_0→B154_0
noncomputable def w154_0 (c111:F111) (again:B154_0) (x:PTup lc154_0) (y:PTup lb154_0) (z:PTup lv154_0):R154_0:=
  bif (ltI z.1 256)then (bif (leI 0 x.1)then (bif (ltI x.1 (lenI y.1.1))then (bif (leI 0 z.1)then (bif (ltI z.1 (lenI (rdE .n y.1.1 x.1)))then ((c111 ((rdI (rdE .n y.1.1 x.1) z.1),((0:Int),((255:Int),())))).bind fun r0=>
       bif (!r0.1.1)then (some ((Sum.inr (false,())),(y.1,())))
       else again (y.1,()) ((wI (z.1+1)),()))
      else none)
     else none)
    else none)
   else none)
  else some ((Sum.inl z),(y.1,()))
noncomputable def e154_0 (l:A154_0):Zbb:=⟨[3],lc154_0,[1],lb154_0,[4],lv154_0,[2],lr154_0,2,[],l⟩
abbrev lc154_1:Ts:=[]
abbrev lb154_1:Ts:=[.p q0]
abbrev lv154_1:Ts:=[.v (.int .i64)]
abbrev lr154_1:Ts:=[.v (.bool)]
abbrev R154_1:=Option (Sum (PTup lv154_1) (PTup lr154_1)×BTup lb154_1)
abbrev B154_1:=PTup lb154_1→PTup lv154_1→R154_1
abbrev A154_1:=PTup lc154_1→B154_1
noncomputable def w154_1 (c111:F111) (l0:A154_0) (again:B154_1) (x:PTup lc154_1) (y:PTup lb154_1) (z:PTup lv154_1):R154_1:=
  bif (ltI z.1 (lenI y.1.1))then (bif (leI 0 z.1)then (bif (ltI z.1 (lenI y.1.1))then (bif (neI (lenI (rdE .n y.1.1 z.1)) (256:Int))then (some ((Sum.inr (false,())),(y.1,())))
     else (l0 z (y.1,()) ((0:Int),())).bind fun r0=>
     Zai r0.1 (fun r1=>again (y.1,()) ((wI (z.1+1)),()))
     (fun r1=>some ((Sum.inr r1),(y.1,()))))
    else none)
   else none)
  else some ((Sum.inl z),(y.1,()))
noncomputable def e154_1 (l:A154_1):Zbb:=⟨[],lc154_1,[1],lb154_1,[3],lv154_1,[2],lr154_1,0,[],l⟩
noncomputable def m154 (c111:F111) (l0:A154_0) (l1:A154_1) (y:PTup i154):Option (PTup o154×BTup i154):=
  (l1 () (y.1,()) ((0:Int),())).bind fun r0=>
  Zai r0.1 (fun r1=>(c111 ((lenI y.1.1),((1:Int),((8:Int),())))).bind fun r2=>
   some (r2.1,()))
  (fun r1=>some (r1,()))
noncomputable def E154 (c111:F111) (l0:A154_0) (l1:A154_1):CEnv:=⟨⟨Tryz.prog,fnsL [g111 c111]⟩,Za9 [(7,e154_0 l0),(2,e154_1 l1)]⟩
theorem t154_0 (c111:F111) (l0:A154_0) (l1:A154_1) (again) (x y z):Zak (E154 c111 l0 l1) (Zaf (Zaf (Zag Tryz.f154) 0) 0) (e154_0 l0) Tryz.f154.ntmps again x y z=w154_0 c111 again x y z:=by kernel_rfl
noncomputable def n154_0 (c111:F111):Nat→A154_0
  |0,_,_,_=>none
  |n+1,x,y,z=>w154_0 c111 (fun y z=>n154_0 c111 n x y z) x y z
theorem t154_1 (c111:F111) (l0:A154_0) (l1:A154_1) (again) (x y z):Zak (E154 c111 l0 l1) (Zaf (Zag Tryz.f154) 0) (e154_1 l1) Tryz.f154.ntmps again x y z=w154_1 c111 l0 again x y z:=by kernel_rfl
noncomputable def n154_1 (c111:F111) (l0:A154_0):Nat→A154_1
  |0,_,_,_=>none
  |n+1,x,y,z=>w154_1 c111 l0 (fun y z=>n154_1 c111 l0 n x y z) x y z
theorem s154 (c111:F111) (l0:A154_0) (l1:A154_1) (y):tevF (E154 c111 l0 l1) Tryz.f154 i154 o154 y=m154 c111 l0 l1 y:=by kernel_rfl
noncomputable def L154_0:A154_0:=n154_0 r111 fuel
noncomputable def L154_1:A154_1:=n154_1 r111 L154_0 fuel
noncomputable def r154:F154:=m154 r111 L154_0 L154_1
theorem k154:KO (g154 r154):=by
  have hE: ∀g f,(E154 r111 L154_0 L154_1).env.fns g=some f→Zal Tryz.prog g f:=ZaE ⟨k111,⟨⟩⟩
  have h0:ZaS Tryz.prog Tryz.f154.ntmps (Zaf (Zaf (Zag Tryz.f154) 0) 0) (e154_0 L154_0):=ZbS (E:=E154 r111 L154_0 L154_1) rfl hE mixed (Zad.of_list (l:=[]) (by kernel_rfl) trivial) (n154_0 r111) (fun _ _ _=>rfl) (fun n x y z=>t154_0 r111 L154_0 L154_1 _ x y z) rfl
  have h1:ZaS Tryz.prog Tryz.f154.ntmps (Zaf (Zag Tryz.f154) 0) (e154_1 L154_1):=ZbS (E:=E154 r111 L154_0 L154_1) rfl hE mixed (Zad.of_list (l:=[(Zaf (Zaf (Zag Tryz.f154) 0) 0)]) (by kernel_rfl) (.one (by kernel_rfl) h0 trivial)) (n154_1 r111 L154_0) (fun _ _ _=>rfl) (fun n x y z=>t154_1 r111 L154_0 L154_1 _ x y z) rfl
  exact Zcd (E:=E154 r111 L154_0 L154_1) rfl hE mixed (by kernel_rfl) (by kernel_rfl) (Zad.of_list (l:=[(Zaf (Zag Tryz.f154) 0)]) (by kernel_rfl) (.one (by kernel_rfl) h1 trivial)) (s154 r111 L154_0 L154_1)
abbrev i121:Ts:=[.v (.int .i64)]
abbrev o121:Ts:=[.v (.bool)]
abbrev F121:=FT i121 o121
abbrev g121:=mkG 121 i121 o121
noncomputable def m121 (c111:F111) (y:PTup i121):Option (PTup o121×BTup i121):=
  (c111 (y.1,((0:Int),((255:Int),())))).bind fun r0=>
  some (r0.1,())
theorem s121 (c111:F111) (y):TE [g111 c111] Tryz.f121 i121 o121 y=m121 c111 y:=by kernel_rfl
noncomputable def r121:F121:=m121 r111
theorem k121:KO (g121 r121):=fk (s121 r111) ⟨k111,⟨⟩⟩ (by kernel_rfl)
abbrev i117:Ts:=[.a q0, .a q2]
abbrev o117:Ts:=[.v (.bool)]
abbrev F117:=FT i117 o117
abbrev g117:=mkG 117 i117 o117
abbrev lc117_0:Ts:=[]
abbrev lb117_0:Ts:=[.p q2]
abbrev lv117_0:Ts:=[.v (.int .i64)]
abbrev lr117_0:Ts:=[.v (.bool)]
abbrev R117_0:=Option (Sum (PTup lv117_0) (PTup lr117_0)×BTup lb117_0)
abbrev B117_0:=PTup lb117_0→PTup lv117_0→R117_0
abbrev A117_0:=PTup lc117_0→B117_0
noncomputable def w117_0 (c154:F154) (c111:F111) (c121:F121) (again:B117_0) (x:PTup lc117_0) (y:PTup lb117_0) (z:PTup lv117_0):R117_0:=
  bif (ltI z.1 512)then (bif (leI 0 z.1)then (bif (ltI z.1 (lenI y.1.1))then ((c121 ((rdE .i y.1.1 z.1),())).bind fun r0=>
     bif (!r0.1.1)then (some ((Sum.inr (false,())),(y.1,())))
     else again (y.1,()) ((wI (z.1+1)),()))
    else none)
   else none)
  else some ((Sum.inl z),(y.1,()))
noncomputable def e117_0 (l:A117_0):Zbb:=⟨[],lc117_0,[3],lb117_0,[5],lv117_0,[4],lr117_0,0,[],l⟩
noncomputable def m117 (c154:F154) (c111:F111) (c121:F121) (l0:A117_0) (y:PTup i117):Option (PTup o117×BTup i117):=
  (c154 (y.1,())).bind fun r0=>
  bif (!r0.1.1)then no
  else bif (neI (lenI y.2.1.1) 512)then no
  else (c111 (y.2.1.2.1,((0:Int),((wI ((lenI y.1.1)-1)),())))).bind fun r1=>
  bif (!r1.1.1)then no
  else (l0 () (y.2.1,()) ((0:Int),())).bind fun r2=>
  Zai r2.1 (fun r3=>some ((true,()),()))
  (fun r3=>some (r3,()))
noncomputable def E117 (c154:F154) (c111:F111) (c121:F121) (l0:A117_0):CEnv:=⟨⟨Tryz.prog,fnsL [g154 c154,g111 c111,g121 c121]⟩,Za9 [(4,e117_0 l0)]⟩
theorem t117_0 (c154:F154) (c111:F111) (c121:F121) (l0:A117_0) (again) (x y z):Zak (E117 c154 c111 c121 l0) (Zaf (Zag Tryz.f117) 0) (e117_0 l0) Tryz.f117.ntmps again x y z=w117_0 c154 c111 c121 again x y z:=by kernel_rfl
noncomputable def n117_0 (c154:F154) (c111:F111) (c121:F121):Nat→A117_0
  |0,_,_,_=>none
  |n+1,x,y,z=>w117_0 c154 c111 c121 (fun y z=>n117_0 c154 c111 c121 n x y z) x y z
theorem s117 (c154:F154) (c111:F111) (c121:F121) (l0:A117_0) (y):tevF (E117 c154 c111 c121 l0) Tryz.f117 i117 o117 y=m117 c154 c111 c121 l0 y:=by kernel_rfl
noncomputable def L117_0:A117_0:=n117_0 r154 r111 r121 fuel
noncomputable def r117:F117:=m117 r154 r111 r121 L117_0
theorem k117:KO (g117 r117):=by
  have hE: ∀g f,(E117 r154 r111 r121 L117_0).env.fns g=some f→Zal Tryz.prog g f:=ZaE ⟨k154,k111,k121,⟨⟩⟩
  have h0:ZaS Tryz.prog Tryz.f117.ntmps (Zaf (Zag Tryz.f117) 0) (e117_0 L117_0):=ZbS (E:=E117 r154 r111 r121 L117_0) rfl hE mixed (Zad.of_list (l:=[]) (by kernel_rfl) trivial) (n117_0 r154 r111 r121) (fun _ _ _=>rfl) (fun n x y z=>t117_0 r154 r111 r121 L117_0 _ x y z) rfl
  exact Zcd (E:=E117 r154 r111 r121 L117_0) rfl hE mixed (by kernel_rfl) (by kernel_rfl) (Zad.of_list (l:=[(Zaf (Zag Tryz.f117) 0)]) (by kernel_rfl) (.one (by kernel_rfl) h0 trivial)) (s117 r154 r111 r121 L117_0)
abbrev i217:Ts:=[.v (.int .i64)]
abbrev o217:Ts:=[.v (.int .i64)]
abbrev F217:=FT i217 o217
abbrev g217:=mkG 217 i217 o217
noncomputable def m217 (y:PTup i217):Option (PTup o217×BTup i217):=
  some (((bAnd Go.IntKind.i64 y.1 (65535:Int)),()),())
theorem s217 (y):TE [] Tryz.f217 i217 o217 y=m217 y:=by kernel_rfl
noncomputable def r217:F217:=m217
theorem k217:KO (g217 r217):=fk (s217) trivial (by kernel_rfl)
abbrev i191:Ts:=[.v (.int .i64)]
abbrev o191:Ts:=[.v (.int .i64), .v (.int .i64)]
abbrev F191:=FT i191 o191
abbrev g191:=mkG 191 i191 o191
noncomputable def m191 (c217:F217) (y:PTup i191):Option (PTup o191×BTup i191):=
  (c217 y).bind fun r0=>
  bif (ltI r0.1.1 8192)then (some (((1:Int),((Int.tmod r0.1.1 512),())),()))
  else bif (ltI r0.1.1 16384)then (some (((2:Int),((Int.tmod r0.1.1 8),())),()))
  else bif (ltI r0.1.1 16388)then (some (((3:Int),((Int.tmod r0.1.1 4),())),()))
  else bif (eqI r0.1.1 16406)then (some (((4:Int),((0:Int),())),()))
  else bif (ltI r0.1.1 32768)then (some (((7:Int),((0:Int),())),()))
  else bif (ltI r0.1.1 49152)then (some (((5:Int),((Int.tmod r0.1.1 256),())),()))
  else some (((6:Int),((Int.tmod r0.1.1 256),())),())
theorem s191 (c217:F217) (y):TE [g217 c217] Tryz.f191 i191 o191 y=m191 c217 y:=by kernel_rfl
noncomputable def r191:F191:=m191 r217
theorem k191:KO (g191 r191):=fk (s191 r217) ⟨k217,⟨⟩⟩ (by kernel_rfl)
abbrev i153:Ts:=[.a q0, .a q2, .v (.int .i64)]
abbrev o153:Ts:=[.v (.int .i64)]
abbrev F153:=FT i153 o153
abbrev g153:=mkG 153 i153 o153
noncomputable def m153 (c191:F191) (y:PTup i153):Option (PTup o153×BTup i153):=
  (c191 y.2.2).bind fun r0=>
  bif (eqI r0.1.1 1)then (bif (leI 0 r0.1.2.1)then (bif (ltI r0.1.2.1 (lenI y.2.1.1))then (some (((rdE .i y.2.1.1 r0.1.2.1),()),()))
    else none)
   else none)
  else bif (eqI r0.1.1 5)then (bif (leI 0 y.2.1.2.1)then (bif (ltI y.2.1.2.1 (lenI y.1.1))then (bif (leI 0 r0.1.2.1)then (bif (ltI r0.1.2.1 (lenI (rdE .n y.1.1 y.2.1.2.1)))then (some (((rdI (rdE .n y.1.1 y.2.1.2.1) r0.1.2.1),()),()))
      else none)
     else none)
    else none)
   else none)
  else bif (eqI r0.1.1 6)then (bif (leI 0 (wI ((lenI y.1.1)-1)))then (bif (ltI (wI ((lenI y.1.1)-1)) (lenI y.1.1))then (bif (leI 0 r0.1.2.1)then (bif (ltI r0.1.2.1 (lenI (rdE .n y.1.1 (wI ((lenI y.1.1)-1)))))then (some (((rdI (rdE .n y.1.1 (wI ((lenI y.1.1)-1))) r0.1.2.1),()),()))
      else none)
     else none)
    else none)
   else none)
  else some (((0:Int),()),())
theorem s153 (c191:F191) (y):TE [g191 c191] Tryz.f153 i153 o153 y=m153 c191 y:=by kernel_rfl
noncomputable def r153:F153:=m153 r191
theorem k153:KO (g153 r153):=fk (s153 r191) ⟨k191,⟨⟩⟩ (by kernel_rfl)
abbrev i115:Ts:=[.a q0, .a q2, .v (.int .i64)]
abbrev o115:Ts:=[.v (.int .i64)]
abbrev F115:=FT i115 o115
abbrev g115:=mkG 115 i115 o115
noncomputable def m115 (c117:F117) (c153:F153) (y:PTup i115):Option (PTup o115×BTup i115):=
  (c117 (y.1,(y.2.1,()))).bind fun r0=>
  bif (!r0.1.1)then (some (((0:Int),()),()))
  else (c153 y).bind fun r1=>
  some (r1.1,())
theorem s115 (c117:F117) (c153:F153) (y):TE [g117 c117,g153 c153] Tryz.f115 i115 o115 y=m115 c117 c153 y:=by kernel_rfl
noncomputable def r115:F115:=m115 r117 r153
theorem k115:KO (g115 r115):=fk (s115 r117 r153) ⟨k117,k153,⟨⟩⟩ (by kernel_rfl)
abbrev i114:Ts:=[.v (.int .i64), .v (.int .i64)]
abbrev o114:Ts:=[.v (.int .i64)]
abbrev F114:=FT i114 o114
abbrev g114:=mkG 114 i114 o114
noncomputable def m114 (c59:F59) (y:PTup i114):Option (PTup o114×BTup i114):=
  (c59 (y.1,())).bind fun r0=>
  (c59 y.2).bind fun r1=>
  some (((wI (r0.1.1+(wI ((256:Int)*r1.1.1)))),()),())
theorem s114 (c59:F59) (y):TE [g59 c59] Tryz.f114 i114 o114 y=m114 c59 y:=by kernel_rfl
noncomputable def r114:F114:=m114 r59
theorem k114:KO (g114 r114):=fk (s114 r59) ⟨k59,⟨⟩⟩ (by kernel_rfl)
abbrev i62:Ts:=[.a q0]
abbrev o62:Ts:=[.a q3]
abbrev F62:=FT i62 o62
abbrev g62:=mkG 62 i62 o62
noncomputable def m62 (c114:F114) (c61:F61) (c115:F115) (y:PTup i62):Option (PTup o62×BTup i62):=
  (c61 ()).bind fun r0=>
  (c115 (y.1,(r0.1.1,((65532:Int),())))).bind fun r1=>
  (c115 (y.1,(r0.1.1,((65533:Int),())))).bind fun r2=>
  (c114 (r1.1.1,r2.1)).bind fun r3=>
  some ((((0:Int),((0:Int),((255:Int),(r3.1.1,(false,(false,(false,(true,())))))))),()),())
theorem s62 (c114:F114) (c61:F61) (c115:F115) (y):TE [g114 c114,g61 c61,g115 c115] Tryz.f62 i62 o62 y=m62 c114 c61 c115 y:=by kernel_rfl
noncomputable def r62:F62:=m62 r114 r61 r115
theorem k62:KO (g62 r62):=fk (s62 r114 r61 r115) ⟨k114,k61,k115,⟨⟩⟩ (by kernel_rfl)
abbrev i63:Ts:=[]
abbrev o63:Ts:=[.a q4]
abbrev F63:=FT i63 o63
abbrev g63:=mkG 63 i63 o63
noncomputable def m63 (y:PTup i63):Option (PTup o63×BTup i63):=
  some ((((0:Int),((0:Int),((0:Int),((0:Int),((0:Int),(false,((List.replicate (Int.toNat (16:Int)) (0:Int)),([],())))))))),()),())
theorem s63 (y):TE [] Tryz.f63 i63 o63 y=m63 y:=by kernel_rfl
noncomputable def r63:F63:=m63
theorem k63:KO (g63 r63):=fk (s63) trivial (by kernel_rfl)
abbrev i116:Ts:=[.v (.sl false .i)]
abbrev o116:Ts:=[.v (.bool)]
abbrev F116:=FT i116 o116
abbrev g116:=mkG 116 i116 o116
abbrev lc116_0:Ts:=[.v (.sl false .i)]
abbrev lb116_0:Ts:=[]
abbrev lv116_0:Ts:=[.v (.int .i64)]
abbrev lr116_0:Ts:=[.v (.bool)]
abbrev R116_0:=Option (Sum (PTup lv116_0) (PTup lr116_0)×BTup lb116_0)
abbrev B116_0:=PTup lb116_0→PTup lv116_0→R116_0
abbrev A116_0:=PTup lc116_0→B116_0
noncomputable def w116_0 (c121:F121) (again:B116_0) (x:PTup lc116_0) (y:PTup lb116_0) (z:PTup lv116_0):R116_0:=
  bif (ltI z.1 (lenI x.1))then (bif (leI 0 z.1)then (bif (ltI z.1 (lenI x.1))then ((c121 ((rdE .i x.1 z.1),())).bind fun r0=>
     bif (!r0.1.1)then (some ((Sum.inr (false,())),()))
     else again () ((wI (z.1+1)),()))
    else none)
   else none)
  else some ((Sum.inl z),())
noncomputable def e116_0 (l:A116_0):Zbb:=⟨[0],lc116_0,[],lb116_0,[3],lv116_0,[2],lr116_0,0,[],l⟩
noncomputable def m116 (c121:F121) (l0:A116_0) (y:PTup i116):Option (PTup o116×BTup i116):=
  (l0 y () ((0:Int),())).bind fun r0=>
  Zai r0.1 (fun r1=>some (((leI (lenI y.1) 20),()),()))
  (fun r1=>some (r1,()))
noncomputable def E116 (c121:F121) (l0:A116_0):CEnv:=⟨⟨Tryz.prog,fnsL [g121 c121]⟩,Za9 [(2,e116_0 l0)]⟩
theorem t116_0 (c121:F121) (l0:A116_0) (again) (x y z):Zak (E116 c121 l0) (Zaf (Zag Tryz.f116) 0) (e116_0 l0) Tryz.f116.ntmps again x y z=w116_0 c121 again x y z:=by kernel_rfl
noncomputable def n116_0 (c121:F121):Nat→A116_0
  |0,_,_,_=>none
  |n+1,x,y,z=>w116_0 c121 (fun y z=>n116_0 c121 n x y z) x y z
theorem s116 (c121:F121) (l0:A116_0) (y):tevF (E116 c121 l0) Tryz.f116 i116 o116 y=m116 c121 l0 y:=by kernel_rfl
noncomputable def L116_0:A116_0:=n116_0 r121 fuel
noncomputable def r116:F116:=m116 r121 L116_0
theorem k116:KO (g116 r116):=by
  have hE: ∀g f,(E116 r121 L116_0).env.fns g=some f→Zal Tryz.prog g f:=ZaE ⟨k121,⟨⟩⟩
  have h0:ZaS Tryz.prog Tryz.f116.ntmps (Zaf (Zag Tryz.f116) 0) (e116_0 L116_0):=ZbS (E:=E116 r121 L116_0) rfl hE mixed (Zad.of_list (l:=[]) (by kernel_rfl) trivial) (n116_0 r121) (fun _ _ _=>rfl) (fun n x y z=>t116_0 r121 L116_0 _ x y z) rfl
  exact Zcd (E:=E116 r121 L116_0) rfl hE mixed (by kernel_rfl) (by kernel_rfl) (Zad.of_list (l:=[(Zaf (Zag Tryz.f116) 0)]) (by kernel_rfl) (.one (by kernel_rfl) h0 trivial)) (s116 r121 L116_0)
abbrev i118:Ts:=[.a q3]
abbrev o118:Ts:=[.v (.bool)]
abbrev F118:=FT i118 o118
abbrev g118:=mkG 118 i118 o118
noncomputable def m118 (c111:F111) (c121:F121) (y:PTup i118):Option (PTup o118×BTup i118):=
  (c121 (y.1.1,())).bind fun r0=>
  bif r0.1.1 then ((c121 (y.1.2.1,())).bind fun r1=>
   bif r1.1.1 then ((c121 (y.1.2.2.1,())).bind fun r2=>
    bif r2.1.1 then ((c111 (y.1.2.2.2.1,((0:Int),((65535:Int),())))).bind fun r3=>
     some (r3.1,()))
    else no)
   else no)
  else no
theorem s118 (c111:F111) (c121:F121) (y):TE [g111 c111,g121 c121] Tryz.f118 i118 o118 y=m118 c111 c121 y:=by kernel_rfl
noncomputable def r118:F118:=m118 r111 r121
theorem k118:KO (g118 r118):=fk (s118 r111 r121) ⟨k111,k121,⟨⟩⟩ (by kernel_rfl)
abbrev i192:Ts:=[.v (.int .i64)]
abbrev o192:Ts:=[.v (.int .i64)]
abbrev F192:=FT i192 o192
abbrev g192:=mkG 192 i192 o192
noncomputable def m192 (y:PTup i192):Option (PTup o192×BTup i192):=
  bif (ltI 48 (Int.tmod y.1 64))then (some (((0:Int),()),()))
  else some (((Int.tmod y.1 64),()),())
theorem s192 (y):TE [] Tryz.f192 i192 o192 y=m192 y:=by kernel_rfl
noncomputable def r192:F192:=m192
theorem k192:KO (g192 r192):=fk (s192) trivial (by kernel_rfl)
abbrev i155:Ts:=[.a q5]
abbrev o155:Ts:=[.v (.bool)]
abbrev F155:=FT i155 o155
abbrev g155:=mkG 155 i155 o155
abbrev lc155_0:Ts:=[]
abbrev lb155_0:Ts:=[.p q5]
abbrev lv155_0:Ts:=[.v (.int .i64)]
abbrev lr155_0:Ts:=[.v (.bool)]
abbrev R155_0:=Option (Sum (PTup lv155_0) (PTup lr155_0)×BTup lb155_0)
abbrev B155_0:=PTup lb155_0→PTup lv155_0→R155_0
abbrev A155_0:=PTup lc155_0→B155_0
noncomputable def w155_0 (c111:F111) (c121:F121) (c192:F192) (again:B155_0) (x:PTup lc155_0) (y:PTup lb155_0) (z:PTup lv155_0):R155_0:=
  bif (ltI z.1 (lenI y.1.2.2.2.2.2.2.2.1))then (bif (leI 0 z.1)then (bif (ltI z.1 (lenI y.1.2.2.2.2.2.2.2.1))then ((c111 ((rdE .i y.1.2.2.2.2.2.2.2.1 z.1),((0:Int),((63:Int),())))).bind fun r0=>
     bif (!r0.1.1)then (some ((Sum.inr (false,())),(y.1,())))
     else again (y.1,()) ((wI (z.1+1)),()))
    else none)
   else none)
  else some ((Sum.inl z),(y.1,()))
noncomputable def e155_0 (l:A155_0):Zbb:=⟨[],lc155_0,[1],lb155_0,[4],lv155_0,[2],lr155_0,2,[],l⟩
abbrev lc155_1:Ts:=[]
abbrev lb155_1:Ts:=[.p q5]
abbrev lv155_1:Ts:=[.v (.int .i64)]
abbrev lr155_1:Ts:=[.v (.bool)]
abbrev R155_1:=Option (Sum (PTup lv155_1) (PTup lr155_1)×BTup lb155_1)
abbrev B155_1:=PTup lb155_1→PTup lv155_1→R155_1
abbrev A155_1:=PTup lc155_1→B155_1
noncomputable def w155_1 (c111:F111) (c121:F121) (c192:F192) (l0:A155_0) (again:B155_1) (x:PTup lc155_1) (y:PTup lb155_1) (z:PTup lv155_1):R155_1:=
  bif (ltI z.1 16)then (bif (leI 0 z.1)then (bif (ltI z.1 (lenI y.1.2.2.2.2.2.2.1))then ((c111 ((rdE .i y.1.2.2.2.2.2.2.1 z.1),((0:Int),((63:Int),())))).bind fun r0=>
     bif (!r0.1.1)then (some ((Sum.inr (false,())),(y.1,())))
     else again (y.1,()) ((wI (z.1+1)),()))
    else none)
   else none)
  else some ((Sum.inl z),(y.1,()))
noncomputable def e155_1 (l:A155_1):Zbb:=⟨[],lc155_1,[1],lb155_1,[3],lv155_1,[2],lr155_1,0,[],l⟩
noncomputable def m155 (c111:F111) (c121:F121) (c192:F192) (l0:A155_0) (l1:A155_1) (y:PTup i155):Option (PTup o155×BTup i155):=
  (c111 (y.1.1,((0:Int),((20000:Int),())))).bind fun r0=>
  bif (!r0.1.1)then no
  else (c121 (y.1.2.1,())).bind fun r1=>
  bif (!r1.1.1)then no
  else (c121 (y.1.2.2.1,())).bind fun r2=>
  bif (!r2.1.1)then no
  else (c111 (y.1.2.2.2.1,((0:Int),((15:Int),())))).bind fun r3=>
  bif (!r3.1.1)then no
  else (c111 (y.1.2.2.2.2.1,((0:Int),((63:Int),())))).bind fun r4=>
  bif (!r4.1.1)then no
  else bif (neI (lenI y.1.2.2.2.2.2.2.1) 16)then no
  else (c192 (y.1.1,())).bind fun r5=>
  bif (neI (lenI y.1.2.2.2.2.2.2.2.1) r5.1.1)then no
  else (l1 () (y.1,()) ((0:Int),())).bind fun r6=>
  Zai r6.1 (fun r7=>(l0 () ((r6.2.1.1,(r6.2.1.2.1,(r6.2.1.2.2.1,(r6.2.1.2.2.2.1,(r6.2.1.2.2.2.2.1,(r6.2.1.2.2.2.2.2.1,y.1.2.2.2.2.2.2)))))),()) ((0:Int),())).bind fun r8=>
   Zai r8.1 (fun r9=>some ((true,()),()))
   (fun r9=>some (r9,())))
  (fun r7=>some (r7,()))
noncomputable def E155 (c111:F111) (c121:F121) (c192:F192) (l0:A155_0) (l1:A155_1):CEnv:=⟨⟨Tryz.prog,fnsL [g111 c111,g121 c121,g192 c192]⟩,Za9 [(9,e155_0 l0),(4,e155_1 l1)]⟩
theorem t155_0 (c111:F111) (c121:F121) (c192:F192) (l0:A155_0) (l1:A155_1) (again) (x y z):Zak (E155 c111 c121 c192 l0 l1) (Zaf (Zag Tryz.f155) 1) (e155_0 l0) Tryz.f155.ntmps again x y z=w155_0 c111 c121 c192 again x y z:=by kernel_rfl
noncomputable def n155_0 (c111:F111) (c121:F121) (c192:F192):Nat→A155_0
  |0,_,_,_=>none
  |n+1,x,y,z=>w155_0 c111 c121 c192 (fun y z=>n155_0 c111 c121 c192 n x y z) x y z
theorem t155_1 (c111:F111) (c121:F121) (c192:F192) (l0:A155_0) (l1:A155_1) (again) (x y z):Zak (E155 c111 c121 c192 l0 l1) (Zaf (Zag Tryz.f155) 0) (e155_1 l1) Tryz.f155.ntmps again x y z=w155_1 c111 c121 c192 l0 again x y z:=by kernel_rfl
noncomputable def n155_1 (c111:F111) (c121:F121) (c192:F192) (l0:A155_0):Nat→A155_1
  |0,_,_,_=>none
  |n+1,x,y,z=>w155_1 c111 c121 c192 l0 (fun y z=>n155_1 c111 c121 c192 l0 n x y z) x y z
theorem s155 (c111:F111) (c121:F121) (c192:F192) (l0:A155_0) (l1:A155_1) (y):tevF (E155 c111 c121 c192 l0 l1) Tryz.f155 i155 o155 y=m155 c111 c121 c192 l0 l1 y:=by kernel_rfl
noncomputable def L155_0:A155_0:=n155_0 r111 r121 r192 fuel
noncomputable def L155_1:A155_1:=n155_1 r111 r121 r192 L155_0 fuel
noncomputable def r155:F155:=m155 r111 r121 r192 L155_0 L155_1
theorem k155:KO (g155 r155):=by
  have hE: ∀g f,(E155 r111 r121 r192 L155_0 L155_1).env.fns g=some f→Zal Tryz.prog g f:=ZaE ⟨k111,k121,k192,⟨⟩⟩
  have h0:ZaS Tryz.prog Tryz.f155.ntmps (Zaf (Zag Tryz.f155) 1) (e155_0 L155_0):=ZbS (E:=E155 r111 r121 r192 L155_0 L155_1) rfl hE mixed (Zad.of_list (l:=[]) (by kernel_rfl) trivial) (n155_0 r111 r121 r192) (fun _ _ _=>rfl) (fun n x y z=>t155_0 r111 r121 r192 L155_0 L155_1 _ x y z) rfl
  have h1:ZaS Tryz.prog Tryz.f155.ntmps (Zaf (Zag Tryz.f155) 0) (e155_1 L155_1):=ZbS (E:=E155 r111 r121 r192 L155_0 L155_1) rfl hE mixed (Zad.of_list (l:=[]) (by kernel_rfl) trivial) (n155_1 r111 r121 r192 L155_0) (fun _ _ _=>rfl) (fun n x y z=>t155_1 r111 r121 r192 L155_0 L155_1 _ x y z) rfl
  exact Zcd (E:=E155 r111 r121 r192 L155_0 L155_1) rfl hE mixed (by kernel_rfl) (by kernel_rfl) (Zad.of_list (l:=[(Zaf (Zag Tryz.f155) 0),(Zaf (Zag Tryz.f155) 1)]) (by kernel_rfl) (.one (by kernel_rfl) h1 (.one (by kernel_rfl) h0 trivial))) (s155 r111 r121 r192 L155_0 L155_1)
abbrev i156:Ts:=[.a q6]
abbrev o156:Ts:=[.v (.bool)]
abbrev F156:=FT i156 o156
abbrev g156:=mkG 156 i156 o156
abbrev lc156_0:Ts:=[]
abbrev lb156_0:Ts:=[.p q6]
abbrev lv156_0:Ts:=[.v (.int .i64)]
abbrev lr156_0:Ts:=[.v (.bool)]
abbrev R156_0:=Option (Sum (PTup lv156_0) (PTup lr156_0)×BTup lb156_0)
abbrev B156_0:=PTup lb156_0→PTup lv156_0→R156_0
abbrev A156_0:=PTup lc156_0→B156_0
noncomputable def w156_0 (c111:F111) (c121:F121) (again:B156_0) (x:PTup lc156_0) (y:PTup lb156_0) (z:PTup lv156_0):R156_0:=
  bif (ltI z.1 (lenI y.1.2.1))then (bif (leI 0 z.1)then (bif (ltI z.1 (lenI y.1.2.1))then ((c111 ((rdE .t y.1.2.1 z.1).1,((0:Int),((20000:Int),())))).bind fun r0=>
     bif (!r0.1.1)then (some ((Sum.inr (false,())),(y.1,())))
     else (c111 ((rdE .t y.1.2.1 z.1).2.1,((0:Int),((7:Int),())))).bind fun r1=>
     bif (!r1.1.1)then (some ((Sum.inr (false,())),(y.1,())))
     else (c121 ((rdE .t y.1.2.1 z.1).2.2,())).bind fun r2=>
     bif (!r2.1.1)then (some ((Sum.inr (false,())),(y.1,())))
     else bif (ltI 0 z.1)then (bif (leI 0 (wI (z.1-1)))then (bif (ltI (wI (z.1-1)) (lenI y.1.2.1))then (bif (ltI (rdE .t y.1.2.1 z.1).1 (rdE .t y.1.2.1 (wI (z.1-1))).1)then (some ((Sum.inr (false,())),(y.1,())))
        else again (y.1,()) ((wI (z.1+1)),()))
       else none)
      else none)
     else again (y.1,()) ((wI (z.1+1)),()))
    else none)
   else none)
  else some ((Sum.inl z),(y.1,()))
noncomputable def e156_0 (l:A156_0):Zbb:=⟨[],lc156_0,[1],lb156_0,[3],lv156_0,[2],lr156_0,0,[],l⟩
noncomputable def m156 (c111:F111) (c121:F121) (l0:A156_0) (y:PTup i156):Option (PTup o156×BTup i156):=
  (l0 () (y.1,()) ((0:Int),())).bind fun r0=>
  Zai r0.1 (fun r1=>(c111 (r0.2.1.1,((1:Int),((16:Int),())))).bind fun r2=>
   bif r2.1.1 then (some (((leI (lenI y.1.2.1) r0.2.1.1),()),()))
   else no)
  (fun r1=>some (r1,()))
noncomputable def E156 (c111:F111) (c121:F121) (l0:A156_0):CEnv:=⟨⟨Tryz.prog,fnsL [g111 c111,g121 c121]⟩,Za9 [(2,e156_0 l0)]⟩
theorem t156_0 (c111:F111) (c121:F121) (l0:A156_0) (again) (x y z):Zak (E156 c111 c121 l0) (Zaf (Zag Tryz.f156) 0) (e156_0 l0) Tryz.f156.ntmps again x y z=w156_0 c111 c121 again x y z:=by kernel_rfl
noncomputable def n156_0 (c111:F111) (c121:F121):Nat→A156_0
  |0,_,_,_=>none
  |n+1,x,y,z=>w156_0 c111 c121 (fun y z=>n156_0 c111 c121 n x y z) x y z
theorem s156 (c111:F111) (c121:F121) (l0:A156_0) (y):tevF (E156 c111 c121 l0) Tryz.f156 i156 o156 y=m156 c111 c121 l0 y:=by kernel_rfl
noncomputable def L156_0:A156_0:=n156_0 r111 r121 fuel
noncomputable def r156:F156:=m156 r111 r121 L156_0
theorem k156:KO (g156 r156):=by
  have hE: ∀g f,(E156 r111 r121 L156_0).env.fns g=some f→Zal Tryz.prog g f:=ZaE ⟨k111,k121,⟨⟩⟩
  have h0:ZaS Tryz.prog Tryz.f156.ntmps (Zaf (Zag Tryz.f156) 0) (e156_0 L156_0):=ZbS (E:=E156 r111 r121 L156_0) rfl hE mixed (Zad.of_list (l:=[]) (by kernel_rfl) trivial) (n156_0 r111 r121) (fun _ _ _=>rfl) (fun n x y z=>t156_0 r111 r121 L156_0 _ x y z) rfl
  exact Zcd (E:=E156 r111 r121 L156_0) rfl hE mixed (by kernel_rfl) (by kernel_rfl) (Zad.of_list (l:=[(Zaf (Zag Tryz.f156) 0)]) (by kernel_rfl) (.one (by kernel_rfl) h0 trivial)) (s156 r111 r121 L156_0)
abbrev i193:Ts:=[.v (.int .i64)]
abbrev o193:Ts:=[.v (.int .i64)]
abbrev F193:=FT i193 o193
abbrev g193:=mkG 193 i193 o193
noncomputable def m193 (y:PTup i193):Option (PTup o193×BTup i193):=
  some (((wI (Int.tdiv (wI ((wI ((wI (y.1+64))-48))-1)) (64:Int))),()),())
theorem s193 (y):TE [] Tryz.f193 i193 o193 y=m193 y:=by kernel_rfl
noncomputable def r193:F193:=m193
theorem k193:KO (g193 r193):=fk (s193) trivial (by kernel_rfl)
abbrev i157:Ts:=[.v (.sl false .n), .v (.int .i64)]
abbrev o157:Ts:=[.v (.bool)]
abbrev F157:=FT i157 o157
abbrev g157:=mkG 157 i157 o157
abbrev lc157_0:Ts:=[.v (.sl false .n)]
abbrev lb157_0:Ts:=[]
abbrev lv157_0:Ts:=[.v (.int .i64)]
abbrev lr157_0:Ts:=[.v (.bool)]
abbrev R157_0:=Option (Sum (PTup lv157_0) (PTup lr157_0)×BTup lb157_0)
abbrev B157_0:=PTup lb157_0→PTup lv157_0→R157_0
abbrev A157_0:=PTup lc157_0→B157_0
noncomputable def w157_0 (c193:F193) (again:B157_0) (x:PTup lc157_0) (y:PTup lb157_0) (z:PTup lv157_0):R157_0:=
  bif (ltI z.1 (lenI x.1))then (bif (leI 0 z.1)then (bif (ltI z.1 (lenI x.1))then (bif (neI (lenI (rdE .n x.1 z.1)) (48:Int))then (some ((Sum.inr (false,())),()))
     else again () ((wI (z.1+1)),()))
    else none)
   else none)
  else some ((Sum.inl z),())
noncomputable def e157_0 (l:A157_0):Zbb:=⟨[0],lc157_0,[],lb157_0,[5],lv157_0,[4],lr157_0,0,[],l⟩
noncomputable def m157 (c193:F193) (l0:A157_0) (y:PTup i157):Option (PTup o157×BTup i157):=
  (l0 (y.1,()) () ((0:Int),())).bind fun r0=>
  Zai r0.1 (fun r1=>(c193 y.2).bind fun r2=>
   some (((eqI (lenI y.1) r2.1.1),()),()))
  (fun r1=>some (r1,()))
noncomputable def E157 (c193:F193) (l0:A157_0):CEnv:=⟨⟨Tryz.prog,fnsL [g193 c193]⟩,Za9 [(2,e157_0 l0)]⟩
theorem t157_0 (c193:F193) (l0:A157_0) (again) (x y z):Zak (E157 c193 l0) (Zaf (Zag Tryz.f157) 0) (e157_0 l0) Tryz.f157.ntmps again x y z=w157_0 c193 again x y z:=by kernel_rfl
noncomputable def n157_0 (c193:F193):Nat→A157_0
  |0,_,_,_=>none
  |n+1,x,y,z=>w157_0 c193 (fun y z=>n157_0 c193 n x y z) x y z
theorem s157 (c193:F193) (l0:A157_0) (y):tevF (E157 c193 l0) Tryz.f157 i157 o157 y=m157 c193 l0 y:=by kernel_rfl
noncomputable def L157_0:A157_0:=n157_0 r193 fuel
noncomputable def r157:F157:=m157 r193 L157_0
theorem k157:KO (g157 r157):=by
  have hE: ∀g f,(E157 r193 L157_0).env.fns g=some f→Zal Tryz.prog g f:=ZaE ⟨k193,⟨⟩⟩
  have h0:ZaS Tryz.prog Tryz.f157.ntmps (Zaf (Zag Tryz.f157) 0) (e157_0 L157_0):=ZbS (E:=E157 r193 L157_0) rfl hE mixed (Zad.of_list (l:=[]) (by kernel_rfl) trivial) (n157_0 r193) (fun _ _ _=>rfl) (fun n x y z=>t157_0 r193 L157_0 _ x y z) rfl
  exact Zcd (E:=E157 r193 L157_0) rfl hE mixed (by kernel_rfl) (by kernel_rfl) (Zad.of_list (l:=[(Zaf (Zag Tryz.f157) 0)]) (by kernel_rfl) (.one (by kernel_rfl) h0 trivial)) (s157 r193 L157_0)
abbrev i119:Ts:=[.a q7]
abbrev o119:Ts:=[.v (.bool)]
abbrev F119:=FT i119 o119
abbrev g119:=mkG 119 i119 o119
noncomputable def m119 (c155:F155) (c156:F156) (c157:F157) (y:PTup i119):Option (PTup o119×BTup i119):=
  (c155 ((y.1.1,(y.1.2.1,(y.1.2.2.1,(y.1.2.2.2.1,(y.1.2.2.2.2.1,(y.1.2.2.2.2.2.1,(y.1.2.2.2.2.2.2.1,(y.1.2.2.2.2.2.2.2.1,())))))))),())).bind fun r0=>
  bif (!r0.1.1)then no
  else (c156 ((y.1.2.2.2.2.2.2.2.2.1,(y.1.2.2.2.2.2.2.2.2.2.1,())),())).bind fun r1=>
  bif (!r1.1.1)then no
  else bif (eqI (lenI y.1.2.2.2.2.2.2.2.2.2.1) 0)then ((c157 (y.1.2.2.2.2.2.2.2.2.2.2.1,(y.1.1,()))).bind fun r2=>
   some (r2.1,()))
  else bif (ltI 0 (lenI y.1.2.2.2.2.2.2.2.2.2.1))then (bif (leI y.1.1 (rdE .t y.1.2.2.2.2.2.2.2.2.2.1 (0:Int)).1)then ((c157 (y.1.2.2.2.2.2.2.2.2.2.2.1,(y.1.1,()))).bind fun r2=>
    some (r2.1,()))
   else no)
  else none
theorem s119 (c155:F155) (c156:F156) (c157:F157) (y):TE [g155 c155,g156 c156,g157 c157] Tryz.f119 i119 o119 y=m119 c155 c156 c157 y:=by kernel_rfl
noncomputable def r119:F119:=m119 r155 r156 r157
theorem k119:KO (g119 r119):=fk (s119 r155 r156 r157) ⟨k155,k156,k157,⟨⟩⟩ (by kernel_rfl)
abbrev i158:Ts:=[.a q8]
abbrev o158:Ts:=[.v (.bool)]
abbrev F158:=FT i158 o158
abbrev g158:=mkG 158 i158 o158
noncomputable def m158 (c111:F111) (c121:F121) (y:PTup i158):Option (PTup o158×BTup i158):=
  (c111 (y.1.1,((0:Int),((20000:Int),())))).bind fun r0=>
  bif r0.1.1 then ((c121 (y.1.2.1,())).bind fun r1=>
   bif r1.1.1 then ((c121 (y.1.2.2.1,())).bind fun r2=>
    bif r2.1.1 then ((c111 (y.1.2.2.2.1,((0:Int),((1:Int),())))).bind fun r3=>
     bif r3.1.1 then ((c111 (y.1.2.2.2.2.1,((0:Int),((31:Int),())))).bind fun r4=>
      some (r4.1,()))
     else no)
    else no)
   else no)
  else no
theorem s158 (c111:F111) (c121:F121) (y):TE [g111 c111,g121 c121] Tryz.f158 i158 o158 y=m158 c111 c121 y:=by kernel_rfl
noncomputable def r158:F158:=m158 r111 r121
theorem k158:KO (g158 r158):=fk (s158 r111 r121) ⟨k111,k121,⟨⟩⟩ (by kernel_rfl)
abbrev i120:Ts:=[.a q9]
abbrev o120:Ts:=[.v (.bool)]
abbrev F120:=FT i120 o120
abbrev g120:=mkG 120 i120 o120
noncomputable def m120 (c158:F158) (c156:F156) (y:PTup i120):Option (PTup o120×BTup i120):=
  (c158 ((y.1.1,(y.1.2.1,(y.1.2.2.1,(y.1.2.2.2.1,(y.1.2.2.2.2.1,(y.1.2.2.2.2.2.1,(y.1.2.2.2.2.2.2.1,()))))))),())).bind fun r0=>
  bif (!r0.1.1)then no
  else (c156 ((y.1.2.2.2.2.2.2.2.1,(y.1.2.2.2.2.2.2.2.2.1,())),())).bind fun r1=>
  bif (!r1.1.1)then no
  else bif (eqI (lenI y.1.2.2.2.2.2.2.2.2.1) 0)then (some (((eqI (lenI y.1.2.2.2.2.2.2.2.2.2.1) (wI (Int.tdiv y.1.1 16))),()),()))
  else bif (ltI 0 (lenI y.1.2.2.2.2.2.2.2.2.1))then (bif (leI y.1.1 (rdE .t y.1.2.2.2.2.2.2.2.2.1 (0:Int)).1)then (some (((eqI (lenI y.1.2.2.2.2.2.2.2.2.2.1) (wI (Int.tdiv y.1.1 16))),()),()))
   else no)
  else none
theorem s120 (c158:F158) (c156:F156) (y):TE [g158 c158,g156 c156] Tryz.f120 i120 o120 y=m120 c158 c156 y:=by kernel_rfl
noncomputable def r120:F120:=m120 r158 r156
theorem k120:KO (g120 r120):=fk (s120 r158 r156) ⟨k158,k156,⟨⟩⟩ (by kernel_rfl)
abbrev i122:Ts:=[.a q6]
abbrev o122:Ts:=[.v (.int .i64)]
abbrev F122:=FT i122 o122
abbrev g122:=mkG 122 i122 o122
noncomputable def m122 (y:PTup i122):Option (PTup o122×BTup i122):=
  bif (eqI (lenI y.1.2.1) 0)then (some (((0:Int),()),()))
  else bif (leI 0 (wI ((lenI y.1.2.1)-1)))then (bif (ltI (wI ((lenI y.1.2.1)-1)) (lenI y.1.2.1))then (some (((rdE .t y.1.2.1 (wI ((lenI y.1.2.1)-1))).1,()),()))
   else none)
  else none
theorem s122 (y):TE [] Tryz.f122 i122 o122 y=m122 y:=by kernel_rfl
noncomputable def r122:F122:=m122
theorem k122:KO (g122 r122):=fk (s122) trivial (by kernel_rfl)
abbrev i64:Ts:=[.a q10]
abbrev o64:Ts:=[.v (.bool)]
abbrev F64:=FT i64 o64
abbrev g64:=mkG 64 i64 o64
noncomputable def m64 (c118:F118) (c117:F117) (c116:F116) (c119:F119) (c120:F120) (c122:F122) (c111:F111) (c121:F121) (y:PTup i64):Option (PTup o64×BTup i64):=
  let a0:=y.1;let a1:=a0.2;let a2:=a1.2;let a3:=a2.2;let a4:=a3.2;let a5:=a4.2;let a6:=a5.2;let a7:=a6.2;let a8:=a7.2;let a9:=a8.2;let a10:=a9.2;let a11:=a10.2;let a12:=a11.2;let a13:=a12.2;let a14:=a13.2;let a15:=a14.2;let a16:=a15.2;let a17:=a16.2;let a18:=a17.2;let a19:=a18.2;let a20:=a19.2;let a21:=a20.2;let a22:=a21.2;let a23:=a22.2;let a24:=a23.2;let a25:=a24.2;let a26:=a25.2;let a27:=a26.2;let a28:=a27.2;let a29:=a28.2.2;let a30:=a29.2.2.2.2.2.2.2.2.2;(c116 (a1.1,())).bind fun r0=>
  bif (!r0.1.1)then no
  else (c117 ((a0.1,()),((a2.1,(a3.1,())),()))).bind fun r1=>
  bif (!r1.1.1)then no
  else (c118 ((a4.1,(a5.1,(a6.1,(a7.1,(a8.1,(a9.1,(a10.1,(a11.1,())))))))),())).bind fun r2=>
  bif (!r2.1.1)then no
  else (c119 ((a21.1,(a22.1,(a23.1,(a24.1,(a25.1,(a26.1,(a27.1,(a28.1,(a28.2.1,(a29.1,(a29.2.1,()))))))))))),())).bind fun r3=>
  bif (!r3.1.1)then no
  else (c120 (a29.2.2,())).bind fun r4=>
  bif (!r4.1.1)then no
  else (c121 (a13.1,())).bind fun r5=>
  bif (!r5.1.1)then no
  else (c121 (a16.1,())).bind fun r6=>
  bif (!r6.1.1)then no
  else (c111 (a14.1,((0:Int),((20000:Int),())))).bind fun r7=>
  bif (!r7.1.1)then no
  else (c111 (a18.1,((0:Int),(a14.1,())))).bind fun r8=>
  bif (!r8.1.1)then no
  else (c111 (a19.1,((0:Int),(a14.1,())))).bind fun r9=>
  bif (!r9.1.1)then no
  else bif (ltI a14.1 a21.1)then no
  else bif (ltI a14.1 a29.2.2.1)then no
  else (c122 ((a28.2.1,(a29.1,())),())).bind fun r10=>
  bif (leI r10.1.1 a14.1)then ((c122 ((a30.1,(a30.2.1,())),())).bind fun r11=>
   some (((leI r11.1.1 a14.1),()),()))
  else no
theorem s64 (c118:F118) (c117:F117) (c116:F116) (c119:F119) (c120:F120) (c122:F122) (c111:F111) (c121:F121) (y):TE [g118 c118,g117 c117,g116 c116,g119 c119,g120 c120,g122 c122,g111 c111,g121 c121] Tryz.f64 i64 o64 y=m64 c118 c117 c116 c119 c120 c122 c111 c121 y:=by kernel_rfl
noncomputable def r64:F64:=m64 r118 r117 r116 r119 r120 r122 r111 r121
theorem k64:KO (g64 r64):=fk (s64 r118 r117 r116 r119 r120 r122 r111 r121) ⟨k118,k117,k116,k119,k120,k122,k111,k121,⟨⟩⟩ (by kernel_rfl)
abbrev i20:Ts:=[.a q0, .v (.sl false .i), .v (.int .i64)]
abbrev o20:Ts:=[.a q11, .v (.bool)]
abbrev F20:=FT i20 o20
abbrev g20:=mkG 20 i20 o20
noncomputable def m20 (c62:F62) (c61:F61) (c63:F63) (c64:F64) (c60:F60) (y:PTup i20):Option (PTup o20×BTup i20):=
  (c60 (y.1,())).bind fun r0=>
  bif (leN (0+(List.length y.2.1)) (E.most .i))then ((c61 ()).bind fun r1=>
   (c62 (y.1,())).bind fun r2=>
   (c63 ()).bind fun r3=>
   (c64 ((r0.1.1.1,(([]++y.2.1),(r1.1.1.1,(r1.1.1.2.1,(r2.1.1.1,(r2.1.1.2.1,(r2.1.1.2.2.1,(r2.1.1.2.2.2.1,(r2.1.1.2.2.2.2.1,(r2.1.1.2.2.2.2.2.1,(r2.1.1.2.2.2.2.2.2.1,(r2.1.1.2.2.2.2.2.2.2.1,(false,((0:Int),((0:Int),(false,((0:Int),(false,((0:Int),((0:Int),([],(r3.1.1.1,(r3.1.1.2.1,(r3.1.1.2.2.1,(r3.1.1.2.2.2.1,(r3.1.1.2.2.2.2.1,(r3.1.1.2.2.2.2.2.1,(r3.1.1.2.2.2.2.2.2.1,(r3.1.1.2.2.2.2.2.2.2.1,(y.2.2.1,([],([],((0:Int),((0:Int),((0:Int),((0:Int),((0:Int),(false,(false,(y.2.2.1,([],([],())))))))))))))))))))))))))))))))))))))))))),())).bind fun r4=>
   bif (!r4.1.1)then (some ((([],([],([],((0:Int),((0:Int),((0:Int),((0:Int),((0:Int),(false,(false,(false,(false,(false,((0:Int),((0:Int),(false,((0:Int),(false,((0:Int),((0:Int),([],((0:Int),((0:Int),((0:Int),((0:Int),((0:Int),(false,([],([],((0:Int),([],([],((0:Int),((0:Int),((0:Int),((0:Int),((0:Int),(false,(false,((0:Int),([],([],())))))))))))))))))))))))))))))))))))))))))),(false,())),()))
   else some (((r0.1.1.1,(([]++y.2.1),(r1.1.1.1,(r1.1.1.2.1,(r2.1.1.1,(r2.1.1.2.1,(r2.1.1.2.2.1,(r2.1.1.2.2.2.1,(r2.1.1.2.2.2.2.1,(r2.1.1.2.2.2.2.2.1,(r2.1.1.2.2.2.2.2.2.1,(r2.1.1.2.2.2.2.2.2.2.1,(false,((0:Int),((0:Int),(false,((0:Int),(false,((0:Int),((0:Int),([],(r3.1.1.1,(r3.1.1.2.1,(r3.1.1.2.2.1,(r3.1.1.2.2.2.1,(r3.1.1.2.2.2.2.1,(r3.1.1.2.2.2.2.2.1,(r3.1.1.2.2.2.2.2.2.1,(r3.1.1.2.2.2.2.2.2.2.1,(y.2.2.1,([],([],((0:Int),((0:Int),((0:Int),((0:Int),((0:Int),(false,(false,(y.2.2.1,([],([],())))))))))))))))))))))))))))))))))))))))))),(true,())),()))
  else none
theorem s20 (c62:F62) (c61:F61) (c63:F63) (c64:F64) (c60:F60) (y):TE [g62 c62,g61 c61,g63 c63,g64 c64,g60 c60] Tryz.f20 i20 o20 y=m20 c62 c61 c63 c64 c60 y:=by kernel_rfl
noncomputable def r20:F20:=m20 r62 r61 r63 r64 r60
theorem k20:KO (g20 r20):=fk (s20 r62 r61 r63 r64 r60) ⟨k62,k61,k63,k64,k60,⟨⟩⟩ (by kernel_rfl)
abbrev i5:Ts:=[.v (.str), .v (.sl false .i), .v (.int .i64)]
abbrev o5:Ts:=[.a q11, .v (.int .i64)]
abbrev F5:=FT i5 o5
abbrev g5:=mkG 5 i5 o5
noncomputable def m5 (c19:F19) (c20:F20) (y:PTup i5):Option (PTup o5×BTup i5):=
  (c19 (y.1,())).bind fun r0=>
  bif (neI r0.1.2.1 0)then (some ((([],([],([],((0:Int),((0:Int),((0:Int),((0:Int),((0:Int),(false,(false,(false,(false,(false,((0:Int),((0:Int),(false,((0:Int),(false,((0:Int),((0:Int),([],((0:Int),((0:Int),((0:Int),((0:Int),((0:Int),(false,([],([],((0:Int),([],([],((0:Int),((0:Int),((0:Int),((0:Int),((0:Int),(false,(false,((0:Int),([],([],())))))))))))))))))))))))))))))))))))))))))),r0.1.2),()))
  else (c20 (((r0.1.1::[]),()),y.2)).bind fun r1=>
  bif (!r1.1.2.1)then (some ((([],([],([],((0:Int),((0:Int),((0:Int),((0:Int),((0:Int),(false,(false,(false,(false,(false,((0:Int),((0:Int),(false,((0:Int),(false,((0:Int),((0:Int),([],((0:Int),((0:Int),((0:Int),((0:Int),((0:Int),(false,([],([],((0:Int),([],([],((0:Int),((0:Int),((0:Int),((0:Int),((0:Int),(false,(false,((0:Int),([],([],())))))))))))))))))))))))))))))))))))))))))),((-(2:Int)),())),()))
  else some ((r1.1.1,((0:Int),())),())
theorem s5 (c19:F19) (c20:F20) (y):TE [g19 c19,g20 c20] Tryz.f5 i5 o5 y=m5 c19 c20 y:=by kernel_rfl
noncomputable def r5:F5:=m5 r19 r20
theorem k5:KO (g5 r5):=fk (s5 r19 r20) ⟨k19,k20,⟨⟩⟩ (by kernel_rfl)
abbrev i41:Ts:=[.v (.str)]
abbrev o41:Ts:=[.v (.sl true .s)]
abbrev F41:=FT i41 o41
abbrev g41:=mkG 41 i41 o41
noncomputable def m41 (c85:F85) (y:PTup i41):Option (PTup o41×BTup i41):=
  (c85 (y.1,((bz [10]),()))).bind fun r0=>
  bif (leI 0 (wI ((lenI r0.1.1)-1)))then (bif (ltI (wI ((lenI r0.1.1)-1)) (lenI r0.1.1))then (bif ((ByteArray.toList (rdE .s r0.1.1 (wI ((lenI r0.1.1)-1))))==(ByteArray.toList (bz [])))then (bif (leI 0 (wI ((lenI r0.1.1)-1)))then (bif (leI (wI ((lenI r0.1.1)-1)) (lenI r0.1.1))then (some (((List.take (Int.toNat (wI ((lenI r0.1.1)-1))) r0.1.1),()),()))
      else none)
     else none)
    else some (r0.1,()))
   else none)
  else none
theorem s41 (c85:F85) (y):TE [g85 c85] Tryz.f41 i41 o41 y=m41 c85 y:=by kernel_rfl
noncomputable def r41:F41:=m41 r85
theorem k41:KO (g41 r41):=fk (s41 r85) ⟨k85,⟨⟩⟩ (by kernel_rfl)
abbrev i52:Ts:=[.v (.int .i64), .v (.int .i64), .v (.int .i64)]
abbrev o52:Ts:=[.v (.bool)]
abbrev F52:=FT i52 o52
abbrev g52:=mkG 52 i52 o52
noncomputable def m52 (y:PTup i52):Option (PTup o52×BTup i52):=
  bif (leI y.2.1 y.1)then (some (((leI y.1 y.2.2.1),()),()))
  else no
theorem s52 (y):TE [] Tryz.f52 i52 o52 y=m52 y:=by kernel_rfl
noncomputable def r52:F52:=m52
theorem k52:KO (g52 r52):=fk (s52) trivial (by kernel_rfl)
abbrev i137:Ts:=[]
abbrev o137:Ts:=[.v (.sl true .s)]
abbrev F137:=FT i137 o137
abbrev g137:=mkG 137 i137 o137
noncomputable def m137 (y:PTup i137):Option (PTup o137×BTup i137):=
  some ((((bz [110,111,112])::((bz [108,100,105])::((bz [108,100,97])::((bz [115,116,97])::((bz [97,100,105])::((bz [115,98,105])::((bz [97,110,105])::((bz [111,114,105])::((bz [120,114,105])::((bz [99,112,105])::((bz [116,97,120])::((bz [116,120,97])::((bz [105,110,120])::((bz [100,101,120])::((bz [108,97,120])::((bz [115,97,120])::((bz [98,110,101])::((bz [98,101,113])::((bz [98,99,115])::((bz [106,109,112])::((bz [106,115,114])::((bz [114,116,115])::((bz [112,104,97])::((bz [112,108,97])::((bz [114,116,105])::((bz [115,101,105])::((bz [99,108,105])::((bz [115,101,99])::((bz [99,108,99])::((bz [97,100,97])::[])))))))))))))))))))))))))))))),()),())
theorem s137 (y):TE [] Tryz.f137 i137 o137 y=m137 y:=by kernel_rfl
noncomputable def r137:F137:=m137
theorem k137:KO (g137 r137):=fk (s137) trivial (by kernel_rfl)
abbrev i136:Ts:=[.v (.sl false .s), .v (.str)]
abbrev o136:Ts:=[.v (.int .i64)]
abbrev F136:=FT i136 o136
abbrev g136:=mkG 136 i136 o136
abbrev lc136_0:Ts:=[.v (.sl false .s), .v (.str), .v (.int .i64)]
abbrev lb136_0:Ts:=[]
abbrev lv136_0:Ts:=[.v (.int .i64)]
abbrev lr136_0:Ts:=[.v (.int .i64)]
abbrev R136_0:=Option (Sum (PTup lv136_0) (PTup lr136_0)×BTup lb136_0)
abbrev B136_0:=PTup lb136_0→PTup lv136_0→R136_0
abbrev A136_0:=PTup lc136_0→B136_0
noncomputable def w136_0 (again:B136_0) (x:PTup lc136_0) (y:PTup lb136_0) (z:PTup lv136_0):R136_0:=
  bif (ltI z.1 x.2.2.1)then (bif (leI 0 z.1)then (bif (ltI z.1 (lenI x.1))then (bif ((ByteArray.toList x.2.1)==(ByteArray.toList (rdE .s x.1 z.1)))then (some ((Sum.inr z),()))
     else again () ((wI (z.1+1)),()))
    else none)
   else none)
  else some ((Sum.inl z),())
noncomputable def e136_0 (l:A136_0):Zbb:=⟨[0,1,7],lc136_0,[],lb136_0,[8],lv136_0,[4],lr136_0,0,[],l⟩
noncomputable def m136 (l0:A136_0) (y:PTup i136):Option (PTup o136×BTup i136):=
  (l0 (y.1,(y.2.1,((lenI y.1),()))) () ((0:Int),())).bind fun r0=>
  Zai r0.1 (fun r1=>some (((-(1:Int)),()),()))
  (fun r1=>some (r1,()))
noncomputable def E136 (l0:A136_0):CEnv:=⟨⟨Tryz.prog,fnsL []⟩,Za9 [(2,e136_0 l0)]⟩
theorem t136_0 (l0:A136_0) (again) (x y z):Zak (E136 l0) (Zaf (Zag Tryz.f136) 0) (e136_0 l0) Tryz.f136.ntmps again x y z=w136_0 again x y z:=by kernel_rfl
noncomputable def n136_0:Nat→A136_0
  |0,_,_,_=>none
  |n+1,x,y,z=>w136_0 (fun y z=>n136_0 n x y z) x y z
theorem s136 (l0:A136_0) (y):tevF (E136 l0) Tryz.f136 i136 o136 y=m136 l0 y:=by kernel_rfl
noncomputable def L136_0:A136_0:=n136_0 fuel
noncomputable def r136:F136:=m136 L136_0
theorem k136:KO (g136 r136):=by
  have hE: ∀g f,(E136 L136_0).env.fns g=some f→Zal Tryz.prog g f:=ZaE trivial
  have h0:ZaS Tryz.prog Tryz.f136.ntmps (Zaf (Zag Tryz.f136) 0) (e136_0 L136_0):=ZbS (E:=E136 L136_0) rfl hE mixed (Zad.of_list (l:=[]) (by kernel_rfl) trivial) (n136_0) (fun _ _ _=>rfl) (fun n x y z=>t136_0 L136_0 _ x y z) rfl
  exact Zcd (E:=E136 L136_0) rfl hE mixed (by kernel_rfl) (by kernel_rfl) (Zad.of_list (l:=[(Zaf (Zag Tryz.f136) 0)]) (by kernel_rfl) (.one (by kernel_rfl) h0 trivial)) (s136 L136_0)
abbrev i90:Ts:=[.v (.str)]
abbrev o90:Ts:=[.v (.int .i64)]
abbrev F90:=FT i90 o90
abbrev g90:=mkG 90 i90 o90
noncomputable def m90 (c137:F137) (c136:F136) (y:PTup i90):Option (PTup o90×BTup i90):=
  (c137 ()).bind fun r0=>
  (c136 (r0.1.1,y)).bind fun r1=>
  some (r1.1,())
theorem s90 (c137:F137) (c136:F136) (y):TE [g137 c137,g136 c136] Tryz.f90 i90 o90 y=m90 c137 c136 y:=by kernel_rfl
noncomputable def r90:F90:=m90 r137 r136
theorem k90:KO (g90 r90):=fk (s90 r137 r136) ⟨k137,k136,⟨⟩⟩ (by kernel_rfl)
abbrev i91:Ts:=[.v (.int .i64)]
abbrev o91:Ts:=[.v (.int .i64)]
abbrev F91:=FT i91 o91
abbrev g91:=mkG 91 i91 o91
noncomputable def m91 (c52:F52) (y:PTup i91):Option (PTup o91×BTup i91):=
  bif (eqI y.1 1)then (some (((2:Int),()),()))
  else (c52 (y.1,((4:Int),((9:Int),())))).bind fun r0=>
  bif r0.1.1 then (some (((2:Int),()),()))
  else bif (eqI y.1 2)then (some (((3:Int),()),()))
  else bif (eqI y.1 3)then (some (((3:Int),()),()))
  else (c52 (y.1,((14:Int),((20:Int),())))).bind fun r1=>
  bif r1.1.1 then (some (((3:Int),()),()))
  else bif (eqI y.1 29)then (some (((3:Int),()),()))
  else some (((1:Int),()),())
theorem s91 (c52:F52) (y):TE [g52 c52] Tryz.f91 i91 o91 y=m91 c52 y:=by kernel_rfl
noncomputable def r91:F91:=m91 r52
theorem k91:KO (g91 r91):=fk (s91 r52) ⟨k52,⟨⟩⟩ (by kernel_rfl)
abbrev i44:Ts:=[.v (.str)]
abbrev o44:Ts:=[.v (.sl true .i), .v (.bool)]
abbrev F44:=FT i44 o44
abbrev g44:=mkG 44 i44 o44
noncomputable def m44 (c91:F91) (c90:F90) (c43:F43) (c89:F89) (y:PTup i44):Option (PTup o44×BTup i44):=
  (c89 (y.1,((bz [32]),()))).bind fun r0=>
  (c90 (r0.1.1,())).bind fun r1=>
  (c43 (r0.1.2.1,((255:Int),()))).bind fun r2=>
  bif ((ByteArray.toList r0.1.1)==(ByteArray.toList (bz [98,121,116,101])))then (some (((r2.1.1::[]),r2.1.2),()))
  else bif (ltI r1.1.1 0)then (some (([],(false,())),()))
  else (c91 r1.1).bind fun r3=>
  bif (eqI r3.1.1 1)then (some (((r1.1.1::[]),((!r0.1.2.2.1),())),()))
  else (c91 r1.1).bind fun r4=>
  bif (eqI r4.1.1 2)then (some (((r1.1.1::(r2.1.1::[])),r2.1.2),()))
  else (c43 (r0.1.2.1,((65535:Int),()))).bind fun r5=>
  some (((r1.1.1::((Int.tmod r5.1.1 256)::((wI (Int.tdiv r5.1.1 256))::[]))),r5.1.2),())
theorem s44 (c91:F91) (c90:F90) (c43:F43) (c89:F89) (y):TE [g91 c91,g90 c90,g43 c43,g89 c89] Tryz.f44 i44 o44 y=m44 c91 c90 c43 c89 y:=by kernel_rfl
noncomputable def r44:F44:=m44 r91 r90 r43 r89
theorem k44:KO (g44 r44):=fk (s44 r91 r90 r43 r89) ⟨k91,k90,k43,k89,⟨⟩⟩ (by kernel_rfl)
abbrev i15:Ts:=[.v (.str)]
abbrev o15:Ts:=[.v (.sl true .i), .v (.int .i64)]
abbrev F15:=FT i15 o15
abbrev g15:=mkG 15 i15 o15
abbrev lc15_0:Ts:=[.v (.sl false .i), .v (.int .i64)]
abbrev lb15_0:Ts:=[]
abbrev lv15_0:Ts:=[.v (.int .i64), .v (.int .i64), .v (.sl true .i)]
abbrev lr15_0:Ts:=[]
abbrev R15_0:=Option (Sum (PTup lv15_0) (PTup lr15_0)×BTup lb15_0)
abbrev B15_0:=PTup lb15_0→PTup lv15_0→R15_0
abbrev A15_0:=PTup lc15_0→B15_0
noncomputable def w15_0 (c44:F44) (c41:F41) (c43:F43) (c42:F42) (again:B15_0) (x:PTup lc15_0) (y:PTup lb15_0) (z:PTup lv15_0):R15_0:=
  bif (ltI z.2.1 x.2.1)then (bif (leI 0 z.2.1)then (bif (ltI z.2.1 (lenI x.1))then (bif (leI 0 z.1)then (bif (ltI z.1 (lenI z.2.2.1))then (again () ((Int.tmod (wI (z.1+1)) (256:Int)),((wI (z.2.1+1)),((List.set z.2.2.1 (Int.toNat z.1) (rdE .i x.1 z.2.1)),()))))
      else none)
     else none)
    else none)
   else none)
  else some ((Sum.inl z),())
noncomputable def e15_0 (l:A15_0):Zbb:=⟨[55,56],lc15_0,[],lb15_0,[5,57,4],lv15_0,[],lr15_0,2,[],l⟩
abbrev lc15_1:Ts:=[.v (.sl false .s), .v (.int .i64)]
abbrev lb15_1:Ts:=[]
abbrev lv15_1:Ts:=[.v (.int .i64), .v (.int .i64), .v (.sl true .i)]
abbrev lr15_1:Ts:=[.v (.sl true .i), .v (.int .i64)]
abbrev R15_1:=Option (Sum (PTup lv15_1) (PTup lr15_1)×BTup lb15_1)
abbrev B15_1:=PTup lb15_1→PTup lv15_1→R15_1
abbrev A15_1:=PTup lc15_1→B15_1
noncomputable def w15_1 (c44:F44) (c41:F41) (c43:F43) (c42:F42) (l0:A15_0) (again:B15_1) (x:PTup lc15_1) (y:PTup lb15_1) (z:PTup lv15_1):R15_1:=
  bif (ltI z.2.1 x.2.1)then (bif (leI 0 z.2.1)then (bif (ltI z.2.1 (lenI x.1))then (bif ((ByteArray.toList (rdE .s x.1 z.2.1))==(ByteArray.toList (bz [])))then (again () (z.1,((wI (z.2.1+1)),z.2.2)))
     else (c42 ((rdE .s x.1 z.2.1),((bz [97,116,32]),()))).bind fun r0=>
     bif r0.1.2.1 then ((c43 (r0.1.1,((255:Int),()))).bind fun r1=>
      bif (!r1.1.2.1)then (some ((Sum.inr ([],((wI (z.2.1+1)),()))),()))
      else again () (r1.1.1,((wI (z.2.1+1)),z.2.2)))
     else (c44 ((rdE .s x.1 z.2.1),())).bind fun r1=>
     bif (!r1.1.2.1)then (some ((Sum.inr ([],((wI (z.2.1+1)),()))),()))
     else (l0 (r1.1.1,((lenI r1.1.1),())) () (z.1,((0:Int),z.2.2))).bind fun r2=>
     Zai r2.1 (fun r3=>again () (r3.1,((wI (z.2.1+1)),r3.2.2)))
     (fun r3=>none))
    else none)
   else none)
  else some ((Sum.inl z),())
noncomputable def e15_1 (l:A15_1):Zbb:=⟨[21,22],lc15_1,[],lb15_1,[5,23,4],lv15_1,[2,3],lr15_1,0,[],l⟩
noncomputable def m15 (c44:F44) (c41:F41) (c43:F43) (c42:F42) (l0:A15_0) (l1:A15_1) (y:PTup i15):Option (PTup o15×BTup i15):=
  bif (ltI 3000 ((((ByteArray.size y.1):Nat)):Int))then (some (([],((-(1:Int)),())),()))
  else (c41 y).bind fun r0=>
  (l1 (r0.1.1,((lenI r0.1.1),())) () ((0:Int),((0:Int),((List.replicate (Int.toNat (256:Int)) (0:Int)),())))).bind fun r1=>
  Zai r1.1 (fun r2=>some ((r2.2.2.1,((0:Int),())),()))
  (fun r2=>some (r2,()))
noncomputable def E15 (c44:F44) (c41:F41) (c43:F43) (c42:F42) (l0:A15_0) (l1:A15_1):CEnv:=⟨⟨Tryz.prog,fnsL [g44 c44,g41 c41,g43 c43,g42 c42]⟩,Za9 [(19,e15_0 l0),(6,e15_1 l1)]⟩
theorem t15_0 (c44:F44) (c41:F41) (c43:F43) (c42:F42) (l0:A15_0) (l1:A15_1) (again) (x y z):Zak (E15 c44 c41 c43 c42 l0 l1) (Zaf (Zaf (Zag Tryz.f15) 0) 0) (e15_0 l0) Tryz.f15.ntmps again x y z=w15_0 c44 c41 c43 c42 again x y z:=by kernel_rfl
noncomputable def n15_0 (c44:F44) (c41:F41) (c43:F43) (c42:F42):Nat→A15_0
  |0,_,_,_=>none
  |n+1,x,y,z=>w15_0 c44 c41 c43 c42 (fun y z=>n15_0 c44 c41 c43 c42 n x y z) x y z
theorem t15_1 (c44:F44) (c41:F41) (c43:F43) (c42:F42) (l0:A15_0) (l1:A15_1) (again) (x y z):Zak (E15 c44 c41 c43 c42 l0 l1) (Zaf (Zag Tryz.f15) 0) (e15_1 l1) Tryz.f15.ntmps again x y z=w15_1 c44 c41 c43 c42 l0 again x y z:=by kernel_rfl
noncomputable def n15_1 (c44:F44) (c41:F41) (c43:F43) (c42:F42) (l0:A15_0):Nat→A15_1
  |0,_,_,_=>none
  |n+1,x,y,z=>w15_1 c44 c41 c43 c42 l0 (fun y z=>n15_1 c44 c41 c43 c42 l0 n x y z) x y z
theorem s15 (c44:F44) (c41:F41) (c43:F43) (c42:F42) (l0:A15_0) (l1:A15_1) (y):tevF (E15 c44 c41 c43 c42 l0 l1) Tryz.f15 i15 o15 y=m15 c44 c41 c43 c42 l0 l1 y:=by kernel_rfl
noncomputable def L15_0:A15_0:=n15_0 r44 r41 r43 r42 fuel
noncomputable def L15_1:A15_1:=n15_1 r44 r41 r43 r42 L15_0 fuel
noncomputable def r15:F15:=m15 r44 r41 r43 r42 L15_0 L15_1
theorem k15:KO (g15 r15):=by
  have hE: ∀g f,(E15 r44 r41 r43 r42 L15_0 L15_1).env.fns g=some f→Zal Tryz.prog g f:=ZaE ⟨k44,k41,k43,k42,⟨⟩⟩
  have h0:ZaS Tryz.prog Tryz.f15.ntmps (Zaf (Zaf (Zag Tryz.f15) 0) 0) (e15_0 L15_0):=ZbS (E:=E15 r44 r41 r43 r42 L15_0 L15_1) rfl hE mixed (Zad.of_list (l:=[]) (by kernel_rfl) trivial) (n15_0 r44 r41 r43 r42) (fun _ _ _=>rfl) (fun n x y z=>t15_0 r44 r41 r43 r42 L15_0 L15_1 _ x y z) rfl
  have h1:ZaS Tryz.prog Tryz.f15.ntmps (Zaf (Zag Tryz.f15) 0) (e15_1 L15_1):=ZbS (E:=E15 r44 r41 r43 r42 L15_0 L15_1) rfl hE mixed (Zad.of_list (l:=[(Zaf (Zaf (Zag Tryz.f15) 0) 0)]) (by kernel_rfl) (.one (by kernel_rfl) h0 trivial)) (n15_1 r44 r41 r43 r42 L15_0) (fun _ _ _=>rfl) (fun n x y z=>t15_1 r44 r41 r43 r42 L15_0 L15_1 _ x y z) rfl
  exact Zcd (E:=E15 r44 r41 r43 r42 L15_0 L15_1) rfl hE mixed (by kernel_rfl) (by kernel_rfl) (Zad.of_list (l:=[(Zaf (Zag Tryz.f15) 0)]) (by kernel_rfl) (.one (by kernel_rfl) h1 trivial)) (s15 r44 r41 r43 r42 L15_0 L15_1)
abbrev i51:Ts:=[.v (.int .i64)]
abbrev o51:Ts:=[.v (.bool)]
abbrev F51:=FT i51 o51
abbrev g51:=mkG 51 i51 o51
noncomputable def m51 (c52:F52) (y:PTup i51):Option (PTup o51×BTup i51):=
  (c52 (y.1,((0:Int),((20000:Int),())))).bind fun r0=>
  some (r0.1,())
theorem s51 (c52:F52) (y):TE [g52 c52] Tryz.f51 i51 o51 y=m51 c52 y:=by kernel_rfl
noncomputable def r51:F51:=m51 r52
theorem k51:KO (g51 r51):=fk (s51 r52) ⟨k52,⟨⟩⟩ (by kernel_rfl)
abbrev i50:Ts:=[.v (.int .i64)]
abbrev o50:Ts:=[.v (.bool)]
abbrev F50:=FT i50 o50
abbrev g50:=mkG 50 i50 o50
noncomputable def m50 (c52:F52) (y:PTup i50):Option (PTup o50×BTup i50):=
  (c52 (y.1,((0:Int),((255:Int),())))).bind fun r0=>
  some (r0.1,())
theorem s50 (c52:F52) (y):TE [g52 c52] Tryz.f50 i50 o50 y=m50 c52 y:=by kernel_rfl
noncomputable def r50:F50:=m50 r52
theorem k50:KO (g50 r50):=fk (s50 r52) ⟨k52,⟨⟩⟩ (by kernel_rfl)
abbrev i123:Ts:=[.a q6]
abbrev o123:Ts:=[.v (.bool)]
abbrev R123:=Option (PTup o123×BTup i123)
abbrev F123:=PTup i123→R123
abbrev g123:=mkG 123 i123 o123
abbrev lc123_0:Ts:=[.v (.sl false .t), .v (.int .i64)]
abbrev lb123_0:Ts:=[.p q6]
abbrev lv123_0:Ts:=[.v (.int .i64)]
abbrev lr123_0:Ts:=[.v (.bool)]
abbrev R123_0:=Option (Sum (PTup lv123_0) (PTup lr123_0)×BTup lb123_0)
abbrev B123_0:=PTup lb123_0→PTup lv123_0→R123_0
abbrev A123_0:=PTup lc123_0→B123_0
noncomputable def w123_0 (c50:F50) (c51:F51) (c52:F52) (again:B123_0) (x:PTup lc123_0) (y:PTup lb123_0) (z:PTup lv123_0):R123_0:=
  let X0:R123_0:=(c52 ((rdE .t x.1 z.1).2.1,((0:Int),((7:Int),())))).bind fun r1=>bif (!r1.1.1)then (some ((Sum.inr (false,())),(y.1,())))else (c50 ((rdE .t x.1 z.1).2.2,())).bind fun r2=>bif (!r2.1.1)then (some ((Sum.inr (false,())),(y.1,())))else again (y.1,()) ((wI (z.1+1)),());bif (ltI z.1 x.2.1)then (bif (leI 0 z.1)then (bif (ltI z.1 (lenI x.1))then ((c51 ((rdE .t x.1 z.1).1,())).bind fun r0=>bif (!r0.1.1)then (some ((Sum.inr (false,())),(y.1,())))else bif (ltI 0 z.1)then (bif (leI 0 (wI (z.1-1)))then (bif (ltI (wI (z.1-1)) (lenI y.1.2.1))then (bif (ltI (rdE .t x.1 z.1).1 (rdE .t y.1.2.1 (wI (z.1-1))).1)then (some ((Sum.inr (false,())),(y.1,())))else X0)else none)else none)else X0)else none)else none)else some ((Sum.inl z),(y.1,()))
noncomputable def e123_0 (l:A123_0):Zbb:=⟨[6,7],lc123_0,[1],lb123_0,[8],lv123_0,[2],lr123_0,0,[],l⟩
noncomputable def m123 (c50:F50) (c51:F51) (c52:F52) (l0:A123_0) (y:PTup i123):R123:=
  (l0 (y.1.2.1,((lenI y.1.2.1),())) (y.1,()) ((0:Int),())).bind fun r0=>
  Zai r0.1 (fun r1=>(c52 (r0.2.1.1,((1:Int),((16:Int),())))).bind fun r2=>
   bif r2.1.1 then (some (((leI (lenI y.1.2.1) r0.2.1.1),()),()))
   else no)
  (fun r1=>some (r1,()))
noncomputable def E123 (c50:F50) (c51:F51) (c52:F52) (l0:A123_0):CEnv:=⟨⟨Tryz.prog,fnsL [g50 c50,g51 c51,g52 c52]⟩,Za9 [(2,e123_0 l0)]⟩
theorem t123_0 (c50:F50) (c51:F51) (c52:F52) (l0:A123_0) (again) (x y z):Zak (E123 c50 c51 c52 l0) (Zaf (Zag Tryz.f123) 0) (e123_0 l0) Tryz.f123.ntmps again x y z=w123_0 c50 c51 c52 again x y z:=by kernel_rfl
noncomputable def n123_0 (c50:F50) (c51:F51) (c52:F52):Nat→A123_0
  |0,_,_,_=>none
  |n+1,x,y,z=>w123_0 c50 c51 c52 (fun y z=>n123_0 c50 c51 c52 n x y z) x y z
theorem s123 (c50:F50) (c51:F51) (c52:F52) (l0:A123_0) (y):tevF (E123 c50 c51 c52 l0) Tryz.f123 i123 o123 y=m123 c50 c51 c52 l0 y:=by kernel_rfl
noncomputable def L123_0:A123_0:=n123_0 r50 r51 r52 fuel
noncomputable def r123:F123:=m123 r50 r51 r52 L123_0
theorem k123:KO (g123 r123):=by
  have hE: ∀g f,(E123 r50 r51 r52 L123_0).env.fns g=some f→Zal Tryz.prog g f:=ZaE ⟨k50,k51,k52,⟨⟩⟩
  have h0:ZaS Tryz.prog Tryz.f123.ntmps (Zaf (Zag Tryz.f123) 0) (e123_0 L123_0):=ZbS (E:=E123 r50 r51 r52 L123_0) rfl hE mixed (Zad.of_list (l:=[]) (by kernel_rfl) trivial) (n123_0 r50 r51 r52) (fun _ _ _=>rfl) (fun n x y z=>t123_0 r50 r51 r52 L123_0 _ x y z) rfl
  exact Zcd (E:=E123 r50 r51 r52 L123_0) rfl hE mixed (by kernel_rfl) (by kernel_rfl) (Zad.of_list (l:=[(Zaf (Zag Tryz.f123) 0)]) (by kernel_rfl) (.one (by kernel_rfl) h0 trivial)) (s123 r50 r51 r52 L123_0)
abbrev i65:Ts:=[.v (.int .i64)]
abbrev o65:Ts:=[.a [.int .i64, .sl true .t], .v (.bool)]
abbrev F65:=FT i65 o65
abbrev g65:=mkG 65 i65 o65
noncomputable def m65 (c123:F123) (y:PTup i65):Option (PTup o65×BTup i65):=
  (c123 ((y.1,([],())),())).bind fun r0=>
  bif (!r0.1.1)then (some ((((0:Int),([],())),(false,())),()))
  else some (((y.1,([],())),(true,())),())
theorem s65 (c123:F123) (y):TE [g123 c123] Tryz.f65 i65 o65 y=m65 c123 y:=by kernel_rfl
noncomputable def r65:F65:=m65 r123
theorem k65:KO (g65 r65):=fk (s65 r123) ⟨k123,⟨⟩⟩ (by kernel_rfl)
abbrev i67:Ts:=[.v (.sl false .i)]
abbrev o67:Ts:=[.v (.sl true .i)]
abbrev F67:=FT i67 o67
abbrev g67:=mkG 67 i67 o67
noncomputable def m67 (y:PTup i67):Option (PTup o67×BTup i67):=
  bif (leN (0+(List.length y.1)) (E.most .i))then (some ((([]++y.1),()),()))
  else none
theorem s67 (y):TE [] Tryz.f67 i67 o67 y=m67 y:=by kernel_rfl
noncomputable def r67:F67:=m67
theorem k67:KO (g67 r67):=fk (s67) trivial (by kernel_rfl)
abbrev i66:Ts:=[.a q0]
abbrev o66:Ts:=[.a [.sl true .n]]
abbrev F66:=FT i66 o66
abbrev g66:=mkG 66 i66 o66
abbrev lc66_0:Ts:=[.v (.sl false .n), .v (.int .i64)]
abbrev lb66_0:Ts:=[.p [.sl true .n]]
abbrev lv66_0:Ts:=[.v (.int .i64)]
abbrev lr66_0:Ts:=[]
abbrev R66_0:=Option (Sum (PTup lv66_0) (PTup lr66_0)×BTup lb66_0)
abbrev B66_0:=PTup lb66_0→PTup lv66_0→R66_0
abbrev A66_0:=PTup lc66_0→B66_0
noncomputable def w66_0 (c67:F67) (again:B66_0) (x:PTup lc66_0) (y:PTup lb66_0) (z:PTup lv66_0):R66_0:=
  bif (ltI z.1 x.2.1)then (bif (leI 0 z.1)then (bif (ltI z.1 (lenI x.1))then ((c67 ((rdE .n x.1 z.1),())).bind fun r0=>
     bif (leN ((List.length y.1.1)+(List.length (r0.1.1::[]))) (E.most .n))then (again (((y.1.1++(r0.1.1::[])),()),()) ((wI (z.1+1)),()))
     else none)
    else none)
   else none)
  else some ((Sum.inl z),(y.1,()))
noncomputable def e66_0 (l:A66_0):Zbb:=⟨[8,9],lc66_0,[3],lb66_0,[10],lv66_0,[],lr66_0,0,[],l⟩
noncomputable def m66 (c67:F67) (l0:A66_0) (y:PTup i66):Option (PTup o66×BTup i66):=
  (l0 (y.1.1,((lenI y.1.1),())) (([],()),()) ((0:Int),())).bind fun r0=>
  Zai r0.1 (fun r1=>some ((r0.2.1,()),()))
  (fun r1=>some ((([],()),()),()))
noncomputable def E66 (c67:F67) (l0:A66_0):CEnv:=⟨⟨Tryz.prog,fnsL [g67 c67]⟩,Za9 [(3,e66_0 l0)]⟩
theorem t66_0 (c67:F67) (l0:A66_0) (again) (x y z):Zak (E66 c67 l0) (Zaf (Zag Tryz.f66) 0) (e66_0 l0) Tryz.f66.ntmps again x y z=w66_0 c67 again x y z:=by kernel_rfl
noncomputable def n66_0 (c67:F67):Nat→A66_0
  |0,_,_,_=>none
  |n+1,x,y,z=>w66_0 c67 (fun y z=>n66_0 c67 n x y z) x y z
theorem s66 (c67:F67) (l0:A66_0) (y):tevF (E66 c67 l0) Tryz.f66 i66 o66 y=m66 c67 l0 y:=by kernel_rfl
noncomputable def L66_0:A66_0:=n66_0 r67 fuel
noncomputable def r66:F66:=m66 r67 L66_0
theorem k66:KO (g66 r66):=by
  have hE: ∀g f,(E66 r67 L66_0).env.fns g=some f→Zal Tryz.prog g f:=ZaE ⟨k67,⟨⟩⟩
  have h0:ZaS Tryz.prog Tryz.f66.ntmps (Zaf (Zag Tryz.f66) 0) (e66_0 L66_0):=ZbS (E:=E66 r67 L66_0) rfl hE mixed (Zad.of_list (l:=[]) (by kernel_rfl) trivial) (n66_0 r67) (fun _ _ _=>rfl) (fun n x y z=>t66_0 r67 L66_0 _ x y z) rfl
  exact Zcd (E:=E66 r67 L66_0) rfl hE mixed (by kernel_rfl) (by kernel_rfl) (Zad.of_list (l:=[(Zaf (Zag Tryz.f66) 0)]) (by kernel_rfl) (.one (by kernel_rfl) h0 trivial)) (s66 r67 L66_0)
abbrev i68:Ts:=[]
abbrev o68:Ts:=[.a q1]
abbrev F68:=FT i68 o68
abbrev g68:=mkG 68 i68 o68
noncomputable def m68 (y:PTup i68):Option (PTup o68×BTup i68):=
  some ((((List.replicate (Int.toNat (512:Int)) (0:Int)),((0:Int),())),()),())
theorem s68 (y):TE [] Tryz.f68 i68 o68 y=m68 y:=by kernel_rfl
noncomputable def r68:F68:=m68
theorem k68:KO (g68 r68):=fk (s68) trivial (by kernel_rfl)
abbrev i93:Ts:=[.v (.sl false .i)]
abbrev o93:Ts:=[.v (.bool)]
abbrev F93:=FT i93 o93
abbrev g93:=mkG 93 i93 o93
abbrev lc93_0:Ts:=[.v (.sl false .i), .v (.int .i64)]
abbrev lb93_0:Ts:=[]
abbrev lv93_0:Ts:=[.v (.int .i64)]
abbrev lr93_0:Ts:=[.v (.bool)]
abbrev R93_0:=Option (Sum (PTup lv93_0) (PTup lr93_0)×BTup lb93_0)
abbrev B93_0:=PTup lb93_0→PTup lv93_0→R93_0
abbrev A93_0:=PTup lc93_0→B93_0
noncomputable def w93_0 (c50:F50) (again:B93_0) (x:PTup lc93_0) (y:PTup lb93_0) (z:PTup lv93_0):R93_0:=
  bif (ltI z.1 x.2.1)then (bif (leI 0 z.1)then (bif (ltI z.1 (lenI x.1))then ((c50 ((rdE .i x.1 z.1),())).bind fun r0=>
     bif (!r0.1.1)then (some ((Sum.inr (false,())),()))
     else again () ((wI (z.1+1)),()))
    else none)
   else none)
  else some ((Sum.inl z),())
noncomputable def e93_0 (l:A93_0):Zbb:=⟨[5,6],lc93_0,[],lb93_0,[7],lv93_0,[2],lr93_0,0,[],l⟩
noncomputable def m93 (c50:F50) (l0:A93_0) (y:PTup i93):Option (PTup o93×BTup i93):=
  (l0 (y.1,((lenI y.1),())) () ((0:Int),())).bind fun r0=>
  Zai r0.1 (fun r1=>some ((true,()),()))
  (fun r1=>some (r1,()))
noncomputable def E93 (c50:F50) (l0:A93_0):CEnv:=⟨⟨Tryz.prog,fnsL [g50 c50]⟩,Za9 [(2,e93_0 l0)]⟩
theorem t93_0 (c50:F50) (l0:A93_0) (again) (x y z):Zak (E93 c50 l0) (Zaf (Zag Tryz.f93) 0) (e93_0 l0) Tryz.f93.ntmps again x y z=w93_0 c50 again x y z:=by kernel_rfl
noncomputable def n93_0 (c50:F50):Nat→A93_0
  |0,_,_,_=>none
  |n+1,x,y,z=>w93_0 c50 (fun y z=>n93_0 c50 n x y z) x y z
theorem s93 (c50:F50) (l0:A93_0) (y):tevF (E93 c50 l0) Tryz.f93 i93 o93 y=m93 c50 l0 y:=by kernel_rfl
noncomputable def L93_0:A93_0:=n93_0 r50 fuel
noncomputable def r93:F93:=m93 r50 L93_0
theorem k93:KO (g93 r93):=by
  have hE: ∀g f,(E93 r50 L93_0).env.fns g=some f→Zal Tryz.prog g f:=ZaE ⟨k50,⟨⟩⟩
  have h0:ZaS Tryz.prog Tryz.f93.ntmps (Zaf (Zag Tryz.f93) 0) (e93_0 L93_0):=ZbS (E:=E93 r50 L93_0) rfl hE mixed (Zad.of_list (l:=[]) (by kernel_rfl) trivial) (n93_0 r50) (fun _ _ _=>rfl) (fun n x y z=>t93_0 r50 L93_0 _ x y z) rfl
  exact Zcd (E:=E93 r50 L93_0) rfl hE mixed (by kernel_rfl) (by kernel_rfl) (Zad.of_list (l:=[(Zaf (Zag Tryz.f93) 0)]) (by kernel_rfl) (.one (by kernel_rfl) h0 trivial)) (s93 r50 L93_0)
abbrev i92:Ts:=[.a q0]
abbrev o92:Ts:=[.v (.bool)]
abbrev F92:=FT i92 o92
abbrev g92:=mkG 92 i92 o92
abbrev lc92_0:Ts:=[.v (.sl false .n), .v (.int .i64)]
abbrev lb92_0:Ts:=[]
abbrev lv92_0:Ts:=[.v (.int .i64)]
abbrev lr92_0:Ts:=[.v (.bool)]
abbrev R92_0:=Option (Sum (PTup lv92_0) (PTup lr92_0)×BTup lb92_0)
abbrev B92_0:=PTup lb92_0→PTup lv92_0→R92_0
abbrev A92_0:=PTup lc92_0→B92_0
noncomputable def w92_0 (c93:F93) (c52:F52) (again:B92_0) (x:PTup lc92_0) (y:PTup lb92_0) (z:PTup lv92_0):R92_0:=
  bif (ltI z.1 x.2.1)then (bif (leI 0 z.1)then (bif (ltI z.1 (lenI x.1))then (bif (neI (lenI (rdE .n x.1 z.1)) (256:Int))then (some ((Sum.inr (false,())),()))
     else (c93 ((rdE .n x.1 z.1),())).bind fun r0=>
     bif (!r0.1.1)then (some ((Sum.inr (false,())),()))
     else again () ((wI (z.1+1)),()))
    else none)
   else none)
  else some ((Sum.inl z),())
noncomputable def e92_0 (l:A92_0):Zbb:=⟨[6,7],lc92_0,[],lb92_0,[8],lv92_0,[2],lr92_0,0,[],l⟩
noncomputable def m92 (c93:F93) (c52:F52) (l0:A92_0) (y:PTup i92):Option (PTup o92×BTup i92):=
  (l0 (y.1.1,((lenI y.1.1),())) () ((0:Int),())).bind fun r0=>
  Zai r0.1 (fun r1=>(c52 ((lenI y.1.1),((1:Int),((8:Int),())))).bind fun r2=>
   some (r2.1,()))
  (fun r1=>some (r1,()))
noncomputable def E92 (c93:F93) (c52:F52) (l0:A92_0):CEnv:=⟨⟨Tryz.prog,fnsL [g93 c93,g52 c52]⟩,Za9 [(2,e92_0 l0)]⟩
theorem t92_0 (c93:F93) (c52:F52) (l0:A92_0) (again) (x y z):Zak (E92 c93 c52 l0) (Zaf (Zag Tryz.f92) 0) (e92_0 l0) Tryz.f92.ntmps again x y z=w92_0 c93 c52 again x y z:=by kernel_rfl
noncomputable def n92_0 (c93:F93) (c52:F52):Nat→A92_0
  |0,_,_,_=>none
  |n+1,x,y,z=>w92_0 c93 c52 (fun y z=>n92_0 c93 c52 n x y z) x y z
theorem s92 (c93:F93) (c52:F52) (l0:A92_0) (y):tevF (E92 c93 c52 l0) Tryz.f92 i92 o92 y=m92 c93 c52 l0 y:=by kernel_rfl
noncomputable def L92_0:A92_0:=n92_0 r93 r52 fuel
noncomputable def r92:F92:=m92 r93 r52 L92_0
theorem k92:KO (g92 r92):=by
  have hE: ∀g f,(E92 r93 r52 L92_0).env.fns g=some f→Zal Tryz.prog g f:=ZaE ⟨k93,k52,⟨⟩⟩
  have h0:ZaS Tryz.prog Tryz.f92.ntmps (Zaf (Zag Tryz.f92) 0) (e92_0 L92_0):=ZbS (E:=E92 r93 r52 L92_0) rfl hE mixed (Zad.of_list (l:=[]) (by kernel_rfl) trivial) (n92_0 r93 r52) (fun _ _ _=>rfl) (fun n x y z=>t92_0 r93 r52 L92_0 _ x y z) rfl
  exact Zcd (E:=E92 r93 r52 L92_0) rfl hE mixed (by kernel_rfl) (by kernel_rfl) (Zad.of_list (l:=[(Zaf (Zag Tryz.f92) 0)]) (by kernel_rfl) (.one (by kernel_rfl) h0 trivial)) (s92 r93 r52 L92_0)
abbrev i45:Ts:=[.a q0, .a q2]
abbrev o45:Ts:=[.v (.bool)]
abbrev F45:=FT i45 o45
abbrev g45:=mkG 45 i45 o45
noncomputable def m45 (c92:F92) (c93:F93) (c52:F52) (y:PTup i45):Option (PTup o45×BTup i45):=
  (c92 (y.1,())).bind fun r0=>
  bif r0.1.1 then (bif (eqI (lenI y.2.1.1) 512)then ((c93 (y.2.1.1,())).bind fun r1=>
    bif r1.1.1 then ((c52 (y.2.1.2.1,((0:Int),((wI ((lenI y.1.1)-1)),())))).bind fun r2=>
     some (r2.1,()))
    else no)
   else no)
  else no
theorem s45 (c92:F92) (c93:F93) (c52:F52) (y):TE [g92 c92,g93 c93,g52 c52] Tryz.f45 i45 o45 y=m45 c92 c93 c52 y:=by kernel_rfl
noncomputable def r45:F45:=m45 r92 r93 r52
theorem k45:KO (g45 r45):=fk (s45 r92 r93 r52) ⟨k92,k93,k52,⟨⟩⟩ (by kernel_rfl)
abbrev i216:Ts:=[.v (.int .i64)]
abbrev o216:Ts:=[.v (.int .i64)]
abbrev F216:=FT i216 o216
abbrev g216:=mkG 216 i216 o216
noncomputable def m216 (y:PTup i216):Option (PTup o216×BTup i216):=
  some (((bAnd Go.IntKind.i64 y.1 (65535:Int)),()),())
theorem s216 (y):TE [] Tryz.f216 i216 o216 y=m216 y:=by kernel_rfl
noncomputable def r216:F216:=m216
theorem k216:KO (g216 r216):=fk (s216) trivial (by kernel_rfl)
abbrev i188:Ts:=[.v (.int .i64)]
abbrev o188:Ts:=[.v (.int .i64), .v (.int .i64)]
abbrev F188:=FT i188 o188
abbrev g188:=mkG 188 i188 o188
noncomputable def m188 (c216:F216) (y:PTup i188):Option (PTup o188×BTup i188):=
  (c216 y).bind fun r0=>
  bif (ltI r0.1.1 8192)then (some (((1:Int),((Int.tmod r0.1.1 512),())),()))
  else bif (ltI r0.1.1 16384)then (some (((2:Int),((Int.tmod r0.1.1 8),())),()))
  else bif (ltI r0.1.1 16388)then (some (((3:Int),((Int.tmod r0.1.1 4),())),()))
  else bif (eqI r0.1.1 16406)then (some (((4:Int),((0:Int),())),()))
  else bif (ltI r0.1.1 32768)then (some (((7:Int),((0:Int),())),()))
  else bif (ltI r0.1.1 49152)then (some (((5:Int),((Int.tmod r0.1.1 256),())),()))
  else some (((6:Int),((Int.tmod r0.1.1 256),())),())
theorem s188 (c216:F216) (y):TE [g216 c216] Tryz.f188 i188 o188 y=m188 c216 y:=by kernel_rfl
noncomputable def r188:F188:=m188 r216
theorem k188:KO (g188 r188):=fk (s188 r216) ⟨k216,⟨⟩⟩ (by kernel_rfl)
abbrev i195:Ts:=[.a q0, .a q2, .v (.int .i64)]
abbrev o195:Ts:=[.v (.int .i64)]
abbrev F195:=FT i195 o195
abbrev g195:=mkG 195 i195 o195
noncomputable def m195 (c188:F188) (y:PTup i195):Option (PTup o195×BTup i195):=
  (c188 y.2.2).bind fun r0=>
  bif (eqI r0.1.1 1)then (bif (leI 0 r0.1.2.1)then (bif (ltI r0.1.2.1 (lenI y.2.1.1))then (some (((rdE .i y.2.1.1 r0.1.2.1),()),()))
    else none)
   else none)
  else bif (eqI r0.1.1 5)then (bif (leI 0 y.2.1.2.1)then (bif (ltI y.2.1.2.1 (lenI y.1.1))then (bif (leI 0 r0.1.2.1)then (bif (ltI r0.1.2.1 (lenI (rdE .n y.1.1 y.2.1.2.1)))then (some (((rdI (rdE .n y.1.1 y.2.1.2.1) r0.1.2.1),()),()))
      else none)
     else none)
    else none)
   else none)
  else bif (eqI r0.1.1 6)then (bif (leI 0 (wI ((lenI y.1.1)-1)))then (bif (ltI (wI ((lenI y.1.1)-1)) (lenI y.1.1))then (bif (leI 0 r0.1.2.1)then (bif (ltI r0.1.2.1 (lenI (rdE .n y.1.1 (wI ((lenI y.1.1)-1)))))then (some (((rdI (rdE .n y.1.1 (wI ((lenI y.1.1)-1))) r0.1.2.1),()),()))
      else none)
     else none)
    else none)
   else none)
  else some (((0:Int),()),())
theorem s195 (c188:F188) (y):TE [g188 c188] Tryz.f195 i195 o195 y=m195 c188 y:=by kernel_rfl
noncomputable def r195:F195:=m195 r188
theorem k195:KO (g195 r195):=fk (s195 r188) ⟨k188,⟨⟩⟩ (by kernel_rfl)
abbrev i160:Ts:=[.a q0, .a q2, .v (.int .i64)]
abbrev o160:Ts:=[.v (.int .i64)]
abbrev F160:=FT i160 o160
abbrev g160:=mkG 160 i160 o160
noncomputable def m160 (c45:F45) (c195:F195) (y:PTup i160):Option (PTup o160×BTup i160):=
  (c45 (y.1,(y.2.1,()))).bind fun r0=>
  bif (!r0.1.1)then (some (((0:Int),()),()))
  else (c195 y).bind fun r1=>
  some (r1.1,())
theorem s160 (c45:F45) (c195:F195) (y):TE [g45 c45,g195 c195] Tryz.f160 i160 o160 y=m160 c45 c195 y:=by kernel_rfl
noncomputable def r160:F160:=m160 r45 r195
theorem k160:KO (g160 r160):=fk (s160 r45 r195) ⟨k45,k195,⟨⟩⟩ (by kernel_rfl)
abbrev i194:Ts:=[.v (.int .i64)]
abbrev o194:Ts:=[.v (.int .i64)]
abbrev F194:=FT i194 o194
abbrev g194:=mkG 194 i194 o194
noncomputable def m194 (y:PTup i194):Option (PTup o194×BTup i194):=
  some (((bAnd Go.IntKind.i64 y.1 (255:Int)),()),())
theorem s194 (y):TE [] Tryz.f194 i194 o194 y=m194 y:=by kernel_rfl
noncomputable def r194:F194:=m194
theorem k194:KO (g194 r194):=fk (s194) trivial (by kernel_rfl)
abbrev i159:Ts:=[.v (.int .i64), .v (.int .i64)]
abbrev o159:Ts:=[.v (.int .i64)]
abbrev F159:=FT i159 o159
abbrev g159:=mkG 159 i159 o159
noncomputable def m159 (c194:F194) (y:PTup i159):Option (PTup o159×BTup i159):=
  (c194 (y.1,())).bind fun r0=>
  (c194 y.2).bind fun r1=>
  some (((wI (r0.1.1+(wI ((256:Int)*r1.1.1)))),()),())
theorem s159 (c194:F194) (y):TE [g194 c194] Tryz.f159 i159 o159 y=m159 c194 y:=by kernel_rfl
noncomputable def r159:F159:=m159 r194
theorem k159:KO (g159 r159):=fk (s159 r194) ⟨k194,⟨⟩⟩ (by kernel_rfl)
abbrev i124:Ts:=[.a q0, .a q2, .v (.int .i64)]
abbrev o124:Ts:=[.v (.int .i64)]
abbrev F124:=FT i124 o124
abbrev g124:=mkG 124 i124 o124
noncomputable def m124 (c159:F159) (c160:F160) (y:PTup i124):Option (PTup o124×BTup i124):=
  (c160 y).bind fun r0=>
  (c160 (y.1,(y.2.1,((wI (y.2.2.1+1)),())))).bind fun r1=>
  (c159 (r0.1.1,r1.1)).bind fun r2=>
  some (r2.1,())
theorem s124 (c159:F159) (c160:F160) (y):TE [g159 c159,g160 c160] Tryz.f124 i124 o124 y=m124 c159 c160 y:=by kernel_rfl
noncomputable def r124:F124:=m124 r159 r160
theorem k124:KO (g124 r124):=fk (s124 r159 r160) ⟨k159,k160,⟨⟩⟩ (by kernel_rfl)
abbrev i69:Ts:=[.a q0]
abbrev o69:Ts:=[.a q3]
abbrev F69:=FT i69 o69
abbrev g69:=mkG 69 i69 o69
noncomputable def m69 (c68:F68) (c124:F124) (y:PTup i69):Option (PTup o69×BTup i69):=
  (c68 ()).bind fun r0=>
  (c124 (y.1,(r0.1.1,((65532:Int),())))).bind fun r1=>
  some ((((0:Int),((0:Int),((255:Int),(r1.1.1,(false,(false,(false,(true,())))))))),()),())
theorem s69 (c68:F68) (c124:F124) (y):TE [g68 c68,g124 c124] Tryz.f69 i69 o69 y=m69 c68 c124 y:=by kernel_rfl
noncomputable def r69:F69:=m69 r68 r124
theorem k69:KO (g69 r69):=fk (s69 r68 r124) ⟨k68,k124,⟨⟩⟩ (by kernel_rfl)
abbrev i70:Ts:=[]
abbrev o70:Ts:=[.a q4]
abbrev F70:=FT i70 o70
abbrev g70:=mkG 70 i70 o70
noncomputable def m70 (y:PTup i70):Option (PTup o70×BTup i70):=
  some ((((0:Int),((0:Int),((0:Int),((0:Int),((0:Int),(false,((List.replicate (Int.toNat (16:Int)) (0:Int)),([],())))))))),()),())
theorem s70 (y):TE [] Tryz.f70 i70 o70 y=m70 y:=by kernel_rfl
noncomputable def r70:F70:=m70
theorem k70:KO (g70 r70):=fk (s70) trivial (by kernel_rfl)
abbrev i71:Ts:=[.a q6]
abbrev o71:Ts:=[.a [.int .i64, .sl true .t]]
abbrev F71:=FT i71 o71
abbrev g71:=mkG 71 i71 o71
noncomputable def m71 (y:PTup i71):Option (PTup o71×BTup i71):=
  bif (leN (0+(List.length y.1.2.1)) (E.most .t))then (some (((y.1.1,(([]++y.1.2.1),())),()),()))
  else none
theorem s71 (y):TE [] Tryz.f71 i71 o71 y=m71 y:=by kernel_rfl
noncomputable def r71:F71:=m71
theorem k71:KO (g71 r71):=fk (s71) trivial (by kernel_rfl)
abbrev i46:Ts:=[.v (.sl false .i)]
abbrev o46:Ts:=[.v (.bool)]
abbrev F46:=FT i46 o46
abbrev g46:=mkG 46 i46 o46
noncomputable def m46 (c93:F93) (y:PTup i46):Option (PTup o46×BTup i46):=
  bif (leI (lenI y.1) 20)then ((c93 y).bind fun r0=>
   some (r0.1,()))
  else no
theorem s46 (c93:F93) (y):TE [g93 c93] Tryz.f46 i46 o46 y=m46 c93 y:=by kernel_rfl
noncomputable def r46:F46:=m46 r93
theorem k46:KO (g46 r46):=fk (s46 r93) ⟨k93,⟨⟩⟩ (by kernel_rfl)
abbrev i47:Ts:=[.a q3]
abbrev o47:Ts:=[.v (.bool)]
abbrev F47:=FT i47 o47
abbrev g47:=mkG 47 i47 o47
noncomputable def m47 (c50:F50) (c52:F52) (y:PTup i47):Option (PTup o47×BTup i47):=
  (c50 (y.1.1,())).bind fun r0=>
  bif r0.1.1 then ((c50 (y.1.2.1,())).bind fun r1=>
   bif r1.1.1 then ((c50 (y.1.2.2.1,())).bind fun r2=>
    bif r2.1.1 then ((c52 (y.1.2.2.2.1,((0:Int),((65535:Int),())))).bind fun r3=>
     some (r3.1,()))
    else no)
   else no)
  else no
theorem s47 (c50:F50) (c52:F52) (y):TE [g50 c50,g52 c52] Tryz.f47 i47 o47 y=m47 c50 c52 y:=by kernel_rfl
noncomputable def r47:F47:=m47 r50 r52
theorem k47:KO (g47 r47):=fk (s47 r50 r52) ⟨k50,k52,⟨⟩⟩ (by kernel_rfl)
abbrev i138:Ts:=[.v (.sl false .i)]
abbrev o138:Ts:=[.v (.bool)]
abbrev F138:=FT i138 o138
abbrev g138:=mkG 138 i138 o138
abbrev lc138_0:Ts:=[.v (.sl false .i), .v (.int .i64)]
abbrev lb138_0:Ts:=[]
abbrev lv138_0:Ts:=[.v (.int .i64)]
abbrev lr138_0:Ts:=[.v (.bool)]
abbrev R138_0:=Option (Sum (PTup lv138_0) (PTup lr138_0)×BTup lb138_0)
abbrev B138_0:=PTup lb138_0→PTup lv138_0→R138_0
abbrev A138_0:=PTup lc138_0→B138_0
noncomputable def w138_0 (c52:F52) (again:B138_0) (x:PTup lc138_0) (y:PTup lb138_0) (z:PTup lv138_0):R138_0:=
  bif (ltI z.1 x.2.1)then (bif (leI 0 z.1)then (bif (ltI z.1 (lenI x.1))then ((c52 ((rdE .i x.1 z.1),((0:Int),((63:Int),())))).bind fun r0=>
     bif (!r0.1.1)then (some ((Sum.inr (false,())),()))
     else again () ((wI (z.1+1)),()))
    else none)
   else none)
  else some ((Sum.inl z),())
noncomputable def e138_0 (l:A138_0):Zbb:=⟨[5,6],lc138_0,[],lb138_0,[7],lv138_0,[2],lr138_0,0,[],l⟩
noncomputable def m138 (c52:F52) (l0:A138_0) (y:PTup i138):Option (PTup o138×BTup i138):=
  (l0 (y.1,((lenI y.1),())) () ((0:Int),())).bind fun r0=>
  Zai r0.1 (fun r1=>some ((true,()),()))
  (fun r1=>some (r1,()))
noncomputable def E138 (c52:F52) (l0:A138_0):CEnv:=⟨⟨Tryz.prog,fnsL [g52 c52]⟩,Za9 [(2,e138_0 l0)]⟩
theorem t138_0 (c52:F52) (l0:A138_0) (again) (x y z):Zak (E138 c52 l0) (Zaf (Zag Tryz.f138) 0) (e138_0 l0) Tryz.f138.ntmps again x y z=w138_0 c52 again x y z:=by kernel_rfl
noncomputable def n138_0 (c52:F52):Nat→A138_0
  |0,_,_,_=>none
  |n+1,x,y,z=>w138_0 c52 (fun y z=>n138_0 c52 n x y z) x y z
theorem s138 (c52:F52) (l0:A138_0) (y):tevF (E138 c52 l0) Tryz.f138 i138 o138 y=m138 c52 l0 y:=by kernel_rfl
noncomputable def L138_0:A138_0:=n138_0 r52 fuel
noncomputable def r138:F138:=m138 r52 L138_0
theorem k138:KO (g138 r138):=by
  have hE: ∀g f,(E138 r52 L138_0).env.fns g=some f→Zal Tryz.prog g f:=ZaE ⟨k52,⟨⟩⟩
  have h0:ZaS Tryz.prog Tryz.f138.ntmps (Zaf (Zag Tryz.f138) 0) (e138_0 L138_0):=ZbS (E:=E138 r52 L138_0) rfl hE mixed (Zad.of_list (l:=[]) (by kernel_rfl) trivial) (n138_0 r52) (fun _ _ _=>rfl) (fun n x y z=>t138_0 r52 L138_0 _ x y z) rfl
  exact Zcd (E:=E138 r52 L138_0) rfl hE mixed (by kernel_rfl) (by kernel_rfl) (Zad.of_list (l:=[(Zaf (Zag Tryz.f138) 0)]) (by kernel_rfl) (.one (by kernel_rfl) h0 trivial)) (s138 r52 L138_0)
abbrev i94:Ts:=[.a q5]
abbrev o94:Ts:=[.v (.bool)]
abbrev F94:=FT i94 o94
abbrev g94:=mkG 94 i94 o94
noncomputable def m94 (c138:F138) (c50:F50) (c51:F51) (c52:F52) (y:PTup i94):Option (PTup o94×BTup i94):=
  (c51 (y.1.1,())).bind fun r0=>
  bif (!r0.1.1)then no
  else (c50 (y.1.2.1,())).bind fun r1=>
  bif (!r1.1.1)then no
  else (c50 (y.1.2.2.1,())).bind fun r2=>
  bif (!r2.1.1)then no
  else (c52 (y.1.2.2.2.1,((0:Int),((15:Int),())))).bind fun r3=>
  bif (!r3.1.1)then no
  else (c52 (y.1.2.2.2.2.1,((0:Int),((63:Int),())))).bind fun r4=>
  bif (!r4.1.1)then no
  else bif (ltI 48 (Int.tmod y.1.1 64))then (bif (eqI (lenI y.1.2.2.2.2.2.2.1) 16)then ((c138 (y.1.2.2.2.2.2.2.1,())).bind fun r5=>
    bif r5.1.1 then (bif (eqI (lenI y.1.2.2.2.2.2.2.2.1) 0)then ((c138 y.1.2.2.2.2.2.2.2).bind fun r6=>
      some (r6.1,()))
     else no)
    else no)
   else no)
  else bif (eqI (lenI y.1.2.2.2.2.2.2.1) 16)then ((c138 (y.1.2.2.2.2.2.2.1,())).bind fun r5=>
   bif r5.1.1 then (bif (eqI (lenI y.1.2.2.2.2.2.2.2.1) (Int.tmod y.1.1 64))then ((c138 y.1.2.2.2.2.2.2.2).bind fun r6=>
     some (r6.1,()))
    else no)
   else no)
  else no
theorem s94 (c138:F138) (c50:F50) (c51:F51) (c52:F52) (y):TE [g138 c138,g50 c50,g51 c51,g52 c52] Tryz.f94 i94 o94 y=m94 c138 c50 c51 c52 y:=by kernel_rfl
noncomputable def r94:F94:=m94 r138 r50 r51 r52
theorem k94:KO (g94 r94):=fk (s94 r138 r50 r51 r52) ⟨k138,k50,k51,k52,⟨⟩⟩ (by kernel_rfl)
abbrev i95:Ts:=[.a q6, .v (.int .i64)]
abbrev o95:Ts:=[.v (.bool)]
abbrev F95:=FT i95 o95
abbrev g95:=mkG 95 i95 o95
noncomputable def m95 (c123:F123) (y:PTup i95):Option (PTup o95×BTup i95):=
  (c123 (y.1,())).bind fun r0=>
  bif r0.1.1 then (bif (eqI (lenI y.1.2.1) 0)then (some ((true,()),()))
   else bif (ltI 0 (lenI y.1.2.1))then (some (((leI y.2.1 (rdE .t y.1.2.1 (0:Int)).1),()),()))
   else none)
  else no
theorem s95 (c123:F123) (y):TE [g123 c123] Tryz.f95 i95 o95 y=m95 c123 y:=by kernel_rfl
noncomputable def r95:F95:=m95 r123
theorem k95:KO (g95 r95):=fk (s95 r123) ⟨k123,⟨⟩⟩ (by kernel_rfl)
abbrev i139:Ts:=[.v (.int .i64), .v (.int .i64), .v (.int .i64)]
abbrev o139:Ts:=[.v (.int .i64)]
abbrev F139:=FT i139 o139
abbrev g139:=mkG 139 i139 o139
noncomputable def m139 (y:PTup i139):Option (PTup o139×BTup i139):=
  bif (neI y.2.2.1 0)then (some (((wI (Int.tdiv (wI ((wI ((wI (y.1+y.2.2.1))-1))-y.2.1)) y.2.2.1)),()),()))
  else none
theorem s139 (y):TE [] Tryz.f139 i139 o139 y=m139 y:=by kernel_rfl
noncomputable def r139:F139:=m139
theorem k139:KO (g139 r139):=fk (s139) trivial (by kernel_rfl)
abbrev i96:Ts:=[.v (.sl false .n), .v (.int .i64)]
abbrev o96:Ts:=[.v (.bool)]
abbrev F96:=FT i96 o96
abbrev g96:=mkG 96 i96 o96
abbrev lc96_0:Ts:=[.v (.sl false .n), .v (.int .i64)]
abbrev lb96_0:Ts:=[]
abbrev lv96_0:Ts:=[.v (.int .i64)]
abbrev lr96_0:Ts:=[.v (.bool)]
abbrev R96_0:=Option (Sum (PTup lv96_0) (PTup lr96_0)×BTup lb96_0)
abbrev B96_0:=PTup lb96_0→PTup lv96_0→R96_0
abbrev A96_0:=PTup lc96_0→B96_0
noncomputable def w96_0 (c139:F139) (again:B96_0) (x:PTup lc96_0) (y:PTup lb96_0) (z:PTup lv96_0):R96_0:=
  bif (ltI z.1 x.2.1)then (bif (leI 0 z.1)then (bif (ltI z.1 (lenI x.1))then (bif (neI (lenI (rdE .n x.1 z.1)) (48:Int))then (some ((Sum.inr (false,())),()))
     else again () ((wI (z.1+1)),()))
    else none)
   else none)
  else some ((Sum.inl z),())
noncomputable def e96_0 (l:A96_0):Zbb:=⟨[7,8],lc96_0,[],lb96_0,[9],lv96_0,[4],lr96_0,0,[],l⟩
noncomputable def m96 (c139:F139) (l0:A96_0) (y:PTup i96):Option (PTup o96×BTup i96):=
  (l0 (y.1,((lenI y.1),())) () ((0:Int),())).bind fun r0=>
  Zai r0.1 (fun r1=>(c139 (y.2.1,((48:Int),((64:Int),())))).bind fun r2=>
   some (((eqI (lenI y.1) r2.1.1),()),()))
  (fun r1=>some (r1,()))
noncomputable def E96 (c139:F139) (l0:A96_0):CEnv:=⟨⟨Tryz.prog,fnsL [g139 c139]⟩,Za9 [(2,e96_0 l0)]⟩
theorem t96_0 (c139:F139) (l0:A96_0) (again) (x y z):Zak (E96 c139 l0) (Zaf (Zag Tryz.f96) 0) (e96_0 l0) Tryz.f96.ntmps again x y z=w96_0 c139 again x y z:=by kernel_rfl
noncomputable def n96_0 (c139:F139):Nat→A96_0
  |0,_,_,_=>none
  |n+1,x,y,z=>w96_0 c139 (fun y z=>n96_0 c139 n x y z) x y z
theorem s96 (c139:F139) (l0:A96_0) (y):tevF (E96 c139 l0) Tryz.f96 i96 o96 y=m96 c139 l0 y:=by kernel_rfl
noncomputable def L96_0:A96_0:=n96_0 r139 fuel
noncomputable def r96:F96:=m96 r139 L96_0
theorem k96:KO (g96 r96):=by
  have hE: ∀g f,(E96 r139 L96_0).env.fns g=some f→Zal Tryz.prog g f:=ZaE ⟨k139,⟨⟩⟩
  have h0:ZaS Tryz.prog Tryz.f96.ntmps (Zaf (Zag Tryz.f96) 0) (e96_0 L96_0):=ZbS (E:=E96 r139 L96_0) rfl hE mixed (Zad.of_list (l:=[]) (by kernel_rfl) trivial) (n96_0 r139) (fun _ _ _=>rfl) (fun n x y z=>t96_0 r139 L96_0 _ x y z) rfl
  exact Zcd (E:=E96 r139 L96_0) rfl hE mixed (by kernel_rfl) (by kernel_rfl) (Zad.of_list (l:=[(Zaf (Zag Tryz.f96) 0)]) (by kernel_rfl) (.one (by kernel_rfl) h0 trivial)) (s96 r139 L96_0)
abbrev i48:Ts:=[.a q7]
abbrev o48:Ts:=[.v (.bool)]
abbrev F48:=FT i48 o48
abbrev g48:=mkG 48 i48 o48
noncomputable def m48 (c94:F94) (c96:F96) (c95:F95) (y:PTup i48):Option (PTup o48×BTup i48):=
  (c94 ((y.1.1,(y.1.2.1,(y.1.2.2.1,(y.1.2.2.2.1,(y.1.2.2.2.2.1,(y.1.2.2.2.2.2.1,(y.1.2.2.2.2.2.2.1,(y.1.2.2.2.2.2.2.2.1,())))))))),())).bind fun r0=>
  bif r0.1.1 then ((c95 ((y.1.2.2.2.2.2.2.2.2.1,(y.1.2.2.2.2.2.2.2.2.2.1,())),(y.1.1,()))).bind fun r1=>
   bif r1.1.1 then ((c96 (y.1.2.2.2.2.2.2.2.2.2.2.1,(y.1.1,()))).bind fun r2=>
    some (r2.1,()))
   else no)
  else no
theorem s48 (c94:F94) (c96:F96) (c95:F95) (y):TE [g94 c94,g96 c96,g95 c95] Tryz.f48 i48 o48 y=m48 c94 c96 c95 y:=by kernel_rfl
noncomputable def r48:F48:=m48 r94 r96 r95
theorem k48:KO (g48 r48):=fk (s48 r94 r96 r95) ⟨k94,k96,k95,⟨⟩⟩ (by kernel_rfl)
abbrev i97:Ts:=[.a q8]
abbrev o97:Ts:=[.v (.bool)]
abbrev F97:=FT i97 o97
abbrev g97:=mkG 97 i97 o97
noncomputable def m97 (c50:F50) (c51:F51) (c52:F52) (y:PTup i97):Option (PTup o97×BTup i97):=
  (c51 (y.1.1,())).bind fun r0=>
  bif r0.1.1 then ((c50 (y.1.2.1,())).bind fun r1=>
   bif r1.1.1 then ((c50 (y.1.2.2.1,())).bind fun r2=>
    bif r2.1.1 then ((c52 (y.1.2.2.2.1,((0:Int),((1:Int),())))).bind fun r3=>
     bif r3.1.1 then ((c52 (y.1.2.2.2.2.1,((0:Int),((31:Int),())))).bind fun r4=>
      some (r4.1,()))
     else no)
    else no)
   else no)
  else no
theorem s97 (c50:F50) (c51:F51) (c52:F52) (y):TE [g50 c50,g51 c51,g52 c52] Tryz.f97 i97 o97 y=m97 c50 c51 c52 y:=by kernel_rfl
noncomputable def r97:F97:=m97 r50 r51 r52
theorem k97:KO (g97 r97):=fk (s97 r50 r51 r52) ⟨k50,k51,k52,⟨⟩⟩ (by kernel_rfl)
abbrev i98:Ts:=[.v (.sl false .i), .v (.int .i64)]
abbrev o98:Ts:=[.v (.bool)]
abbrev F98:=FT i98 o98
abbrev g98:=mkG 98 i98 o98
noncomputable def m98 (c139:F139) (y:PTup i98):Option (PTup o98×BTup i98):=
  (c139 (y.2.1,((15:Int),((16:Int),())))).bind fun r0=>
  some (((eqI (lenI y.1) r0.1.1),()),())
theorem s98 (c139:F139) (y):TE [g139 c139] Tryz.f98 i98 o98 y=m98 c139 y:=by kernel_rfl
noncomputable def r98:F98:=m98 r139
theorem k98:KO (g98 r98):=fk (s98 r139) ⟨k139,⟨⟩⟩ (by kernel_rfl)
abbrev i49:Ts:=[.a q9]
abbrev o49:Ts:=[.v (.bool)]
abbrev F49:=FT i49 o49
abbrev g49:=mkG 49 i49 o49
noncomputable def m49 (c97:F97) (c95:F95) (c98:F98) (y:PTup i49):Option (PTup o49×BTup i49):=
  (c97 ((y.1.1,(y.1.2.1,(y.1.2.2.1,(y.1.2.2.2.1,(y.1.2.2.2.2.1,(y.1.2.2.2.2.2.1,(y.1.2.2.2.2.2.2.1,()))))))),())).bind fun r0=>
  bif r0.1.1 then ((c95 ((y.1.2.2.2.2.2.2.2.1,(y.1.2.2.2.2.2.2.2.2.1,())),(y.1.1,()))).bind fun r1=>
   bif r1.1.1 then ((c98 (y.1.2.2.2.2.2.2.2.2.2.1,(y.1.1,()))).bind fun r2=>
    some (r2.1,()))
   else no)
  else no
theorem s49 (c97:F97) (c95:F95) (c98:F98) (y):TE [g97 c97,g95 c95,g98 c98] Tryz.f49 i49 o49 y=m49 c97 c95 c98 y:=by kernel_rfl
noncomputable def r49:F49:=m49 r97 r95 r98
theorem k49:KO (g49 r49):=fk (s49 r97 r95 r98) ⟨k97,k95,k98,⟨⟩⟩ (by kernel_rfl)
abbrev i53:Ts:=[.a q6, .v (.int .i64)]
abbrev o53:Ts:=[.v (.bool)]
abbrev F53:=FT i53 o53
abbrev g53:=mkG 53 i53 o53
noncomputable def m53 (y:PTup i53):Option (PTup o53×BTup i53):=
  bif (eqI (lenI y.1.2.1) 0)then (some ((true,()),()))
  else bif (leI 0 (wI ((lenI y.1.2.1)-1)))then (bif (ltI (wI ((lenI y.1.2.1)-1)) (lenI y.1.2.1))then (some (((leI (rdE .t y.1.2.1 (wI ((lenI y.1.2.1)-1))).1 y.2.1),()),()))
   else none)
  else none
theorem s53 (y):TE [] Tryz.f53 i53 o53 y=m53 y:=by kernel_rfl
noncomputable def r53:F53:=m53
theorem k53:KO (g53 r53):=fk (s53) trivial (by kernel_rfl)
abbrev i16:Ts:=[.a q10]
abbrev o16:Ts:=[.v (.bool)]
abbrev R16:=Option (PTup o16×BTup i16)
abbrev F16:=PTup i16→R16
abbrev g16:=mkG 16 i16 o16
noncomputable def m16 (c47:F47) (c45:F45) (c46:F46) (c48:F48) (c49:F49) (c50:F50) (c51:F51) (c53:F53) (c52:F52) (y:PTup i16):R16:=
  let a0:=y.1;let a1:=a0.2;let a2:=a1.2;let a3:=a2.2;let a4:=a3.2;let a5:=a4.2;let a6:=a5.2;let a7:=a6.2;let a8:=a7.2;let a9:=a8.2;let a10:=a9.2;let a11:=a10.2;let a12:=a11.2;let a13:=a12.2;let a14:=a13.2;let a15:=a14.1;let a16:=a14.2;let a17:=a16.2;let a18:=a17.2;let a19:=a18.2;let a20:=a19.2;let a21:=a20.2;let a22:=a21.2;let a23:=a22.2;let a24:=a23.2;let a25:=a24.2;let a26:=a25.2;let a27:=a26.2;let a28:=a27.2;let a29:=a28.2;let a30:=a29.2.2;let a31:=a30.2.2.2.2.2.2.2.2.2;(c45 ((a0.1,()),((a2.1,(a3.1,())),()))).bind fun r0=>bif r0.1.1 then ((c46 (a1.1,())).bind fun r1=>bif r1.1.1 then ((c47 ((a4.1,(a5.1,(a6.1,(a7.1,(a8.1,(a9.1,(a10.1,(a11.1,())))))))),())).bind fun r2=>bif r2.1.1 then ((c48 ((a22.1,(a23.1,(a24.1,(a25.1,(a26.1,(a27.1,(a28.1,(a29.1,(a29.2.1,(a30.1,(a30.2.1,()))))))))))),())).bind fun r3=>bif r3.1.1 then ((c49 (a30.2.2,())).bind fun r4=>let X0:R16:=bif r4.1.1 then no else no;(c50 (a13.1,())).bind fun r5=>bif r5.1.1 then ((c50 (a17.1,())).bind fun r6=>bif r6.1.1 then ((c51 (a15,())).bind fun r7=>bif r7.1.1 then ((c52 (a19.1,((0:Int),(a15,())))).bind fun r8=>bif r8.1.1 then ((c52 (a20.1,((0:Int),(a15,())))).bind fun r9=>bif r4.1.1 then (bif r9.1.1 then (bif (leI a22.1 a15)then (bif (leI a30.2.2.1 a15)then ((c53 ((a29.2.1,(a30.1,())),(a15,()))).bind fun r10=>bif r10.1.1 then ((c53 ((a31.1,(a31.2.1,())),(a15,()))).bind fun r11=>some (r11.1,()))else no)else no)else no)else no)else no)else X0)else X0)else X0)else X0)else (c50 (a13.1,())).bind fun r4=>bif r4.1.1 then ((c50 (a17.1,())).bind fun r5=>bif r5.1.1 then ((c51 (a15,())).bind fun r6=>bif r6.1.1 then ((c52 (a19.1,((0:Int),(a15,())))).bind fun r7=>bif r7.1.1 then ((c52 (a20.1,((0:Int),(a15,())))).bind fun r8=>no)else no)else no)else no)else no)else (c50 (a13.1,())).bind fun r3=>bif r3.1.1 then ((c50 (a17.1,())).bind fun r4=>bif r4.1.1 then ((c51 (a15,())).bind fun r5=>bif r5.1.1 then ((c52 (a19.1,((0:Int),(a15,())))).bind fun r6=>bif r6.1.1 then ((c52 (a20.1,((0:Int),(a15,())))).bind fun r7=>no)else no)else no)else no)else no)else (c50 (a13.1,())).bind fun r2=>bif r2.1.1 then ((c50 (a17.1,())).bind fun r3=>bif r3.1.1 then ((c51 (a15,())).bind fun r4=>bif r4.1.1 then ((c52 (a19.1,((0:Int),(a15,())))).bind fun r5=>bif r5.1.1 then ((c52 (a20.1,((0:Int),(a15,())))).bind fun r6=>no)else no)else no)else no)else no)else (c50 (a13.1,())).bind fun r1=>bif r1.1.1 then ((c50 (a17.1,())).bind fun r2=>bif r2.1.1 then ((c51 (a15,())).bind fun r3=>bif r3.1.1 then ((c52 (a19.1,((0:Int),(a15,())))).bind fun r4=>bif r4.1.1 then ((c52 (a20.1,((0:Int),(a15,())))).bind fun r5=>no)else no)else no)else no)else no
theorem s16 (c47:F47) (c45:F45) (c46:F46) (c48:F48) (c49:F49) (c50:F50) (c51:F51) (c53:F53) (c52:F52) (y):TE [g47 c47,g45 c45,g46 c46,g48 c48,g49 c49,g50 c50,g51 c51,g53 c53,g52 c52] Tryz.f16 i16 o16 y=m16 c47 c45 c46 c48 c49 c50 c51 c53 c52 y:=by kernel_rfl
noncomputable def r16:F16:=m16 r47 r45 r46 r48 r49 r50 r51 r53 r52
theorem k16:KO (g16 r16):=fk (s16 r47 r45 r46 r48 r49 r50 r51 r53 r52) ⟨k47,k45,k46,k48,k49,k50,k51,k53,k52,⟨⟩⟩ (by kernel_rfl)
abbrev i21:Ts:=[.a q0, .v (.sl false .i), .v (.int .i64)]
abbrev o21:Ts:=[.a q11, .v (.bool)]
abbrev R21:=Option (PTup o21×BTup i21)
abbrev F21:=PTup i21→R21
abbrev g21:=mkG 21 i21 o21
noncomputable def m21 (c69:F69) (c68:F68) (c70:F70) (c65:F65) (c16:F16) (c66:F66) (c67:F67) (c71:F71) (y:PTup i21):R21:=
  let X0:R21:=some ((([],([],([],((0:Int),((0:Int),((0:Int),((0:Int),((0:Int),(false,(false,(false,(false,(false,((0:Int),((0:Int),(false,((0:Int),(false,((0:Int),((0:Int),([],((0:Int),((0:Int),((0:Int),((0:Int),((0:Int),(false,([],([],((0:Int),([],([],((0:Int),((0:Int),((0:Int),((0:Int),((0:Int),(false,(false,((0:Int),([],([],())))))))))))))))))))))))))))))))))))))))))),(false,())),());(c65 y.2.2).bind fun r0=>(c66 (y.1,())).bind fun r1=>(c67 (y.2.1,())).bind fun r2=>(c68 ()).bind fun r3=>(c69 (y.1,())).bind fun r4=>(c70 ()).bind fun r5=>(c71 (r0.1.1,())).bind fun r6=>(c71 (r0.1.1,())).bind fun r7=>bif (!r0.1.2.1)then X0 else (c16 ((r1.1.1.1,(r2.1.1,(r3.1.1.1,(r3.1.1.2.1,(r4.1.1.1,(r4.1.1.2.1,(r4.1.1.2.2.1,(r4.1.1.2.2.2.1,(r4.1.1.2.2.2.2.1,(r4.1.1.2.2.2.2.2.1,(r4.1.1.2.2.2.2.2.2.1,(r4.1.1.2.2.2.2.2.2.2.1,(false,((0:Int),((0:Int),(false,((0:Int),(false,((0:Int),((0:Int),([],(r5.1.1.1,(r5.1.1.2.1,(r5.1.1.2.2.1,(r5.1.1.2.2.2.1,(r5.1.1.2.2.2.2.1,(r5.1.1.2.2.2.2.2.1,(r5.1.1.2.2.2.2.2.2.1,(r5.1.1.2.2.2.2.2.2.2.1,(r6.1.1.1,(r6.1.1.2.1,([],((0:Int),((0:Int),((0:Int),((0:Int),((0:Int),(false,(false,(r7.1.1.1,(r7.1.1.2.1,([],())))))))))))))))))))))))))))))))))))))))))),())).bind fun r8=>bif (!r8.1.1)then X0 else some (((r1.1.1.1,(r2.1.1,(r3.1.1.1,(r3.1.1.2.1,(r4.1.1.1,(r4.1.1.2.1,(r4.1.1.2.2.1,(r4.1.1.2.2.2.1,(r4.1.1.2.2.2.2.1,(r4.1.1.2.2.2.2.2.1,(r4.1.1.2.2.2.2.2.2.1,(r4.1.1.2.2.2.2.2.2.2.1,(false,((0:Int),((0:Int),(false,((0:Int),(false,((0:Int),((0:Int),([],(r5.1.1.1,(r5.1.1.2.1,(r5.1.1.2.2.1,(r5.1.1.2.2.2.1,(r5.1.1.2.2.2.2.1,(r5.1.1.2.2.2.2.2.1,(r5.1.1.2.2.2.2.2.2.1,(r5.1.1.2.2.2.2.2.2.2.1,(r6.1.1.1,(r6.1.1.2.1,([],((0:Int),((0:Int),((0:Int),((0:Int),((0:Int),(false,(false,(r7.1.1.1,(r7.1.1.2.1,([],())))))))))))))))))))))))))))))))))))))))))),(true,())),())
theorem s21 (c69:F69) (c68:F68) (c70:F70) (c65:F65) (c16:F16) (c66:F66) (c67:F67) (c71:F71) (y):TE [g69 c69,g68 c68,g70 c70,g65 c65,g16 c16,g66 c66,g67 c67,g71 c71] Tryz.f21 i21 o21 y=m21 c69 c68 c70 c65 c16 c66 c67 c71 y:=by kernel_rfl
noncomputable def r21:F21:=m21 r69 r68 r70 r65 r16 r66 r67 r71
theorem k21:KO (g21 r21):=fk (s21 r69 r68 r70 r65 r16 r66 r67 r71) ⟨k69,k68,k70,k65,k16,k66,k67,k71,⟨⟩⟩ (by kernel_rfl)
abbrev i7:Ts:=[.v (.str), .v (.sl false .i), .v (.int .i64)]
abbrev o7:Ts:=[.a q11, .v (.int .i64)]
abbrev F7:=FT i7 o7
abbrev g7:=mkG 7 i7 o7
noncomputable def m7 (c15:F15) (c21:F21) (y:PTup i7):Option (PTup o7×BTup i7):=
  (c15 (y.1,())).bind fun r0=>
  bif (neI r0.1.2.1 0)then (some ((([],([],([],((0:Int),((0:Int),((0:Int),((0:Int),((0:Int),(false,(false,(false,(false,(false,((0:Int),((0:Int),(false,((0:Int),(false,((0:Int),((0:Int),([],((0:Int),((0:Int),((0:Int),((0:Int),((0:Int),(false,([],([],((0:Int),([],([],((0:Int),((0:Int),((0:Int),((0:Int),((0:Int),(false,(false,((0:Int),([],([],())))))))))))))))))))))))))))))))))))))))))),r0.1.2),()))
  else (c21 (((r0.1.1::[]),()),y.2)).bind fun r1=>
  bif (!r1.1.2.1)then (some ((([],([],([],((0:Int),((0:Int),((0:Int),((0:Int),((0:Int),(false,(false,(false,(false,(false,((0:Int),((0:Int),(false,((0:Int),(false,((0:Int),((0:Int),([],((0:Int),((0:Int),((0:Int),((0:Int),((0:Int),(false,([],([],((0:Int),([],([],((0:Int),((0:Int),((0:Int),((0:Int),((0:Int),(false,(false,((0:Int),([],([],())))))))))))))))))))))))))))))))))))))))))),((-(2:Int)),())),()))
  else some ((r1.1.1,((0:Int),())),())
theorem s7 (c15:F15) (c21:F21) (y):TE [g15 c15,g21 c21] Tryz.f7 i7 o7 y=m7 c15 c21 y:=by kernel_rfl
noncomputable def r7:F7:=m7 r15 r21
theorem k7:KO (g7 r7):=fk (s7 r15 r21) ⟨k15,k21,⟨⟩⟩ (by kernel_rfl)
abbrev i13:Ts:=[.v (.sl false .b)]
abbrev o13:Ts:=[.v (.bool)]
abbrev F13:=FT i13 o13
abbrev g13:=mkG 13 i13 o13
noncomputable def m13 (y:PTup i13):Option (PTup o13×BTup i13):=
  some (((ltI 1048576 (lenI y.1)),()),())
theorem s13 (y):TE [] Tryz.f13 i13 o13 y=m13 y:=by kernel_rfl
noncomputable def r13:F13:=m13
theorem k13:KO (g13 r13):=fk (s13) trivial (by kernel_rfl)
abbrev i37:Ts:=[.v (.sl false .b)]
abbrev o37:Ts:=[.p q12]
abbrev F37:=FT i37 o37
abbrev g37 (c:F37):Nat×Tev.Fn:=(37,⟨i37,o37,c, .lnt⟩)
abbrev lc37_0:Ts:=[.v (.sl false .b)]
abbrev lb37_0:Ts:=[]
abbrev lv37_0:Ts:=[.v (.int .i64), .v (.int .i64)]
abbrev lr37_0:Ts:=[]
abbrev R37_0:=Option (Sum (PTup lv37_0) (PTup lr37_0)×BTup lb37_0)
abbrev B37_0:=PTup lb37_0→PTup lv37_0→R37_0
abbrev A37_0:=PTup lc37_0→B37_0
noncomputable def w37_0 (again:B37_0) (x:PTup lc37_0) (y:PTup lb37_0) (z:PTup lv37_0):R37_0:=
  bif (ltI z.2.1 (lenI x.1))then (bif (ltI z.2.1 4000)then (bif (leI 0 z.2.1)then (bif (ltI z.2.1 (lenI x.1))then (again () ((bAnd Go.IntKind.i64 (wI ((wI ((wI (z.1*131))+(wI (rdE .b x.1 z.2.1))))+7)) (1073741823:Int)),((wI (z.2.1+1)),())))
     else none)
    else none)
   else some ((Sum.inl z),()))
  else some ((Sum.inl z),())
noncomputable def e37_0 (l:A37_0):Zbb:=⟨[0],lc37_0,[],lb37_0,[3,4],lv37_0,[],lr37_0,0,[],l⟩
noncomputable def m37 (l0:A37_0) (y:PTup i37):Option (PTup o37×BTup i37):=
  (l0 y () ((wI ((18554:Int)+(lenI y.1))),((0:Int),()))).bind fun r0=>
  Zai r0.1 (fun r1=>some (((y.1,((0:Int),(r1.1,()))),()),()))
  (fun r1=>none)
noncomputable def E37 (l0:A37_0):CEnv:=⟨⟨Tryz.prog,fnsL []⟩,Za9 [(3,e37_0 l0)]⟩
theorem t37_0 (l0:A37_0) (again) (x y z):Zak (E37 l0) (Zaf (Zag Tryz.f37) 0) (e37_0 l0) Tryz.f37.ntmps again x y z=w37_0 again x y z:=by kernel_rfl
noncomputable def n37_0:Nat→A37_0
  |0,_,_,_=>none
  |n+1,x,y,z=>w37_0 (fun y z=>n37_0 n x y z) x y z
theorem s37 (l0:A37_0) (y):tevL (E37 l0) Tryz.f37 i37 o37 y=m37 l0 y:=by kernel_rfl
noncomputable def L37_0:A37_0:=n37_0 fuel
noncomputable def r37:F37:=m37 L37_0
theorem k37:KO (g37 r37):=by
  have hE: ∀g f,(E37 L37_0).env.fns g=some f→Zal Tryz.prog g f:=ZaE trivial
  have h0:ZaS Tryz.prog Tryz.f37.ntmps (Zaf (Zag Tryz.f37) 0) (e37_0 L37_0):=ZbS (E:=E37 L37_0) rfl hE mixed (Zad.of_list (l:=[]) (by kernel_rfl) trivial) (n37_0) (fun _ _ _=>rfl) (fun n x y z=>t37_0 L37_0 _ x y z) rfl
  exact Zvq (E:=E37 L37_0) rfl hE mixed (by kernel_rfl) (by kernel_rfl) (Zad.of_list (l:=[(Zaf (Zag Tryz.f37) 0)]) (by kernel_rfl) (.one (by kernel_rfl) h0 trivial)) (s37 L37_0)
abbrev i129:Ts:=[.p q12]
abbrev o129:Ts:=[.v (.int .i64)]
abbrev F129:=FT i129 o129
abbrev g129:=mkG 129 i129 o129
noncomputable def m129 (y:PTup i129):Option (PTup o129×BTup i129):=
  bif (ltI y.1.2.1 (lenI y.1.1))then (bif (leI 0 y.1.2.1)then (bif (ltI y.1.2.1 (lenI y.1.1))then (some (((bAnd Go.IntKind.i64 (wI ((bAnd Go.IntKind.i64 (bXor Go.IntKind.i64 (Int.fdiv (wI ((wI (y.1.2.2.1*6364136223846793005))+1442695040888963407)) ((2:Int)^(Min.min (Int.toNat (33:Int)) (64:Nat)))) (Int.fdiv (wI ((wI (y.1.2.2.1*6364136223846793005))+1442695040888963407)) ((2:Int)^(Min.min (Int.toNat (45:Int)) (64:Nat))))) (255:Int))+(wI (rdE .b y.1.1 y.1.2.1)))) (255:Int)),()),((y.1.1,((wI (y.1.2.1+1)),((wI ((wI (y.1.2.2.1*6364136223846793005))+1442695040888963407)),()))),())))
    else none)
   else none)
  else some (((bAnd Go.IntKind.i64 (bXor Go.IntKind.i64 (Int.fdiv (wI ((wI (y.1.2.2.1*6364136223846793005))+1442695040888963407)) ((2:Int)^(Min.min (Int.toNat (33:Int)) (64:Nat)))) (Int.fdiv (wI ((wI (y.1.2.2.1*6364136223846793005))+1442695040888963407)) ((2:Int)^(Min.min (Int.toNat (45:Int)) (64:Nat))))) (255:Int)),()),((y.1.1,(y.1.2.1,((wI ((wI (y.1.2.2.1*6364136223846793005))+1442695040888963407)),()))),()))
theorem s129 (y):TE [] Tryz.f129 i129 o129 y=m129 y:=by kernel_rfl
noncomputable def r129:F129:=m129
theorem k129:KO (g129 r129):=fk (s129) trivial (by kernel_rfl)
abbrev i84:Ts:=[.p q12, .v (.int .i64)]
abbrev o84:Ts:=[.v (.int .i64)]
abbrev F84:=FT i84 o84
abbrev g84:=mkG 84 i84 o84
noncomputable def m84 (c129:F129) (y:PTup i84):Option (PTup o84×BTup i84):=
  bif (leI y.2.1 0)then (some (((0:Int),()),(y.1,())))
  else bif (leI y.2.1 256)then ((c129 (y.1,())).bind fun r0=>
   bif (neI y.2.1 0)then (some (((Int.tmod r0.1.1 y.2.1),()),((y.1.1,r0.2.1.2),())))
   else none)
  else (c129 (y.1,())).bind fun r0=>
  (c129 ((y.1.1,r0.2.1.2),())).bind fun r1=>
  (c129 ((y.1.1,r1.2.1.2),())).bind fun r2=>
  (c129 ((y.1.1,r2.2.1.2),())).bind fun r3=>
  bif (neI y.2.1 0)then (some (((Int.tmod (wI ((wI ((wI ((wI (r0.1.1*16777216))+(wI (r1.1.1*65536))))+(wI (r2.1.1*256))))+r3.1.1)) y.2.1),()),((y.1.1,r3.2.1.2),())))
  else none
theorem s84 (c129:F129) (y):TE [g129 c129] Tryz.f84 i84 o84 y=m84 c129 y:=by kernel_rfl
noncomputable def r84:F84:=m84 r129
theorem k84:KO (g84 r84):=fk (s84 r129) ⟨k129,⟨⟩⟩ (by kernel_rfl)
abbrev i128:Ts:=[.p q12, .v (.sl false .s)]
abbrev o128:Ts:=[.v (.str)]
abbrev F128:=FT i128 o128
abbrev g128:=mkG 128 i128 o128
noncomputable def m128 (c84:F84) (y:PTup i128):Option (PTup o128×BTup i128):=
  (c84 (y.1,((lenI y.2.1),()))).bind fun r0=>
  bif (leI 0 r0.1.1)then (bif (ltI r0.1.1 (lenI y.2.1))then (some (((rdE .s y.2.1 r0.1.1),()),((y.1.1,r0.2.1.2),())))
   else none)
  else none
theorem s128 (c84:F84) (y):TE [g84 c84] Tryz.f128 i128 o128 y=m128 c84 y:=by kernel_rfl
noncomputable def r128:F128:=m128 r84
theorem k128:KO (g128 r128):=fk (s128 r84) ⟨k84,⟨⟩⟩ (by kernel_rfl)
abbrev i82:Ts:=[.p q12]
abbrev o82:Ts:=[.v (.str)]
abbrev F82:=FT i82 o82
abbrev g82:=mkG 82 i82 o82
noncomputable def m82 (c128:F128) (y:PTup i82):Option (PTup o82×BTup i82):=
  (c128 (y.1,(((bz [108,100,105,32,53,10,115,116,97,32,56,49,57,51,10,108,100,105,32,49,50,56,10,115,116,97,32,56,49,57,50,10,108,100,97,32,56,49,57,52,10,115,116,97,32,49,54,10,106,109,112,32,52,57,49,54,50,10])::((bz [108,100,105,32,51,10,115,116,97,32,49,54,51,56,52,10,108,100,105,32,50,10,115,116,97,32,49,54,51,56,53,10,108,100,105,32,49,10,115,116,97,32,49,54,51,56,54,10,99,108,105,10,108,100,97,32,49,54,51,56,54,10,106,109,112,32,52,57,49,54,56,10])::((bz [108,100,105,32,50,10,115,116,97,32,56,49,57,53,10,105,110,120,10,116,120,97,10,115,116,97,32,56,49,57,54,10,115,116,97,32,56,49,57,55,10,108,100,97,32,56,49,57,54,10,115,116,97,32,48,10,106,109,112,32,52,57,49,53,55,10])::((bz [108,100,105,32,49,10,115,116,97,32,49,54,52,48,54,10,108,100,105,32,48,10,115,116,97,32,49,54,52,48,54,10,108,100,97,32,49,54,52,48,54,10,112,104,97,10,108,100,97,32,49,54,52,48,54,10,112,108,97,10,106,109,112,32,52,57,49,54,50,10])::((bz [105,110,120,10,116,120,97,10,115,116,97,32,51,50,55,54,56,10,108,100,97,32,51,50,55,55,48,10,115,116,97,32,56,49,57,51,10,106,109,112,32,52,57,49,53,50,10])::((bz [108,100,105,32,49,50,56,10,115,116,97,32,56,49,57,50,10,108,100,105,32,55,10,115,116,97,32,49,54,51,56,53,10,108,100,105,32,49,10,115,116,97,32,49,54,51,56,54,10,99,108,105,10,106,115,114,32,52,57,51,48,48,10,106,109,112,32,52,57,49,54,56,10])::((bz [108,100,105,32,57,10,115,101,99,10,115,98,105,32,49,10,98,110,101,32,52,57,49,53,52,10,115,116,97,32,56,49,57,51,10,106,109,112,32,52,57,49,53,50,10])::[]))))))),()))).bind fun r0=>
  bif (leN ((ByteArray.size r0.1.1)+(ByteArray.size (bz [97,116,32,49,52,56,10,105,110,120,10,116,120,97,10,115,116,97,32,56,49,57,55,10,114,116,115,10,97,116,32,49,50,56,10,112,104,97,10,108,100,97,32,56,49,57,52,10,97,100,105,32,49,10,115,116,97,32,56,49,57,51,10,112,108,97,10,114,116,105,10,97,116,32,49,54,48,10,115,116,97,32,49,54,51,56,55,10,108,100,97,32,49,54,51,56,54,10,115,116,97,32,49,55,10,108,100,105,32,50,10,115,116,97,32,49,54,51,56,53,10,114,116,105,10]))) (4611686018427387904:Nat))then (some (((r0.1.1++(bz [97,116,32,49,52,56,10,105,110,120,10,116,120,97,10,115,116,97,32,56,49,57,55,10,114,116,115,10,97,116,32,49,50,56,10,112,104,97,10,108,100,97,32,56,49,57,52,10,97,100,105,32,49,10,115,116,97,32,56,49,57,51,10,112,108,97,10,114,116,105,10,97,116,32,49,54,48,10,115,116,97,32,49,54,51,56,55,10,108,100,97,32,49,54,51,56,54,10,115,116,97,32,49,55,10,108,100,105,32,50,10,115,116,97,32,49,54,51,56,53,10,114,116,105,10])),()),((y.1.1,r0.2.1.2),())))
  else none
theorem s82 (c128:F128) (y):TE [g128 c128] Tryz.f82 i82 o82 y=m82 c128 y:=by kernel_rfl
noncomputable def r82:F82:=m82 r128
theorem k82:KO (g82 r82):=fk (s82 r128) ⟨k128,⟨⟩⟩ (by kernel_rfl)
abbrev i83:Ts:=[.p q12, .v (.int .i64)]
abbrev o83:Ts:=[.v (.bool)]
abbrev F83:=FT i83 o83
abbrev g83:=mkG 83 i83 o83
noncomputable def m83 (c84:F84) (y:PTup i83):Option (PTup o83×BTup i83):=
  (c84 y).bind fun r0=>
  some (((eqI r0.1.1 0),()),((y.1.1,r0.2.1.2),()))
theorem s83 (c84:F84) (y):TE [g84 c84] Tryz.f83 i83 o83 y=m83 c84 y:=by kernel_rfl
noncomputable def r83:F83:=m83 r84
theorem k83:KO (g83 r83):=fk (s83 r84) ⟨k84,⟨⟩⟩ (by kernel_rfl)
abbrev i38:Ts:=[.p q12]
abbrev o38:Ts:=[.v (.str)]
abbrev F38:=FT i38 o38
abbrev g38:=mkG 38 i38 o38
noncomputable def m38 (c84:F84) (c83:F83) (c82:F82) (y:PTup i38):Option (PTup o38×BTup i38):=
  (c82 (y.1,())).bind fun r0=>
  bif (leN ((ByteArray.size r0.1.1)+(ByteArray.size (bz [97,116,32,50,53,48,10,98,121,116,101,32,49,50,56,10,98,121,116,101,32,49,57,50,10,98,121,116,101,32,48,10,98,121,116,101,32,49,57,50,10,98,121,116,101,32,49,54,48,10,98,121,116,101,32,49,57,50,10]))) (4611686018427387904:Nat))then ((c83 ((y.1.1,r0.2.1.2),((12:Int),()))).bind fun r1=>
   bif r1.1.1 then ((c84 ((y.1.1,r1.2.1.2),((wI (((((ByteArray.size (r0.1.1++(bz [97,116,32,50,53,48,10,98,121,116,101,32,49,50,56,10,98,121,116,101,32,49,57,50,10,98,121,116,101,32,48,10,98,121,116,101,32,49,57,50,10,98,121,116,101,32,49,54,48,10,98,121,116,101,32,49,57,50,10]))):Nat)):Int)+1)),()))).bind fun r2=>
    bif (leI 0 r2.1.1)then (bif (leI r2.1.1 ((((ByteArray.size (r0.1.1++(bz [97,116,32,50,53,48,10,98,121,116,101,32,49,50,56,10,98,121,116,101,32,49,57,50,10,98,121,116,101,32,48,10,98,121,116,101,32,49,57,50,10,98,121,116,101,32,49,54,48,10,98,121,116,101,32,49,57,50,10]))):Nat)):Int))then (bif (leN ((ByteArray.size (ByteArray.extract (r0.1.1++(bz [97,116,32,50,53,48,10,98,121,116,101,32,49,50,56,10,98,121,116,101,32,49,57,50,10,98,121,116,101,32,48,10,98,121,116,101,32,49,57,50,10,98,121,116,101,32,49,54,48,10,98,121,116,101,32,49,57,50,10])) (0:Nat) (Int.toNat r2.1.1)))+(ByteArray.size (bz [120]))) (4611686018427387904:Nat))then (bif (leI 0 r2.1.1)then (bif (leI r2.1.1 ((((ByteArray.size (r0.1.1++(bz [97,116,32,50,53,48,10,98,121,116,101,32,49,50,56,10,98,121,116,101,32,49,57,50,10,98,121,116,101,32,48,10,98,121,116,101,32,49,57,50,10,98,121,116,101,32,49,54,48,10,98,121,116,101,32,49,57,50,10]))):Nat)):Int))then (bif (leN ((ByteArray.size ((ByteArray.extract (r0.1.1++(bz [97,116,32,50,53,48,10,98,121,116,101,32,49,50,56,10,98,121,116,101,32,49,57,50,10,98,121,116,101,32,48,10,98,121,116,101,32,49,57,50,10,98,121,116,101,32,49,54,48,10,98,121,116,101,32,49,57,50,10])) (0:Nat) (Int.toNat r2.1.1))++(bz [120])))+(ByteArray.size (ByteArray.extract (r0.1.1++(bz [97,116,32,50,53,48,10,98,121,116,101,32,49,50,56,10,98,121,116,101,32,49,57,50,10,98,121,116,101,32,48,10,98,121,116,101,32,49,57,50,10,98,121,116,101,32,49,54,48,10,98,121,116,101,32,49,57,50,10])) (Int.toNat r2.1.1) (ByteArray.size (r0.1.1++(bz [97,116,32,50,53,48,10,98,121,116,101,32,49,50,56,10,98,121,116,101,32,49,57,50,10,98,121,116,101,32,48,10,98,121,116,101,32,49,57,50,10,98,121,116,101,32,49,54,48,10,98,121,116,101,32,49,57,50,10])))))) (4611686018427387904:Nat))then (some (((((ByteArray.extract (r0.1.1++(bz [97,116,32,50,53,48,10,98,121,116,101,32,49,50,56,10,98,121,116,101,32,49,57,50,10,98,121,116,101,32,48,10,98,121,116,101,32,49,57,50,10,98,121,116,101,32,49,54,48,10,98,121,116,101,32,49,57,50,10])) (0:Nat) (Int.toNat r2.1.1))++(bz [120]))++(ByteArray.extract (r0.1.1++(bz [97,116,32,50,53,48,10,98,121,116,101,32,49,50,56,10,98,121,116,101,32,49,57,50,10,98,121,116,101,32,48,10,98,121,116,101,32,49,57,50,10,98,121,116,101,32,49,54,48,10,98,121,116,101,32,49,57,50,10])) (Int.toNat r2.1.1) (ByteArray.size (r0.1.1++(bz [97,116,32,50,53,48,10,98,121,116,101,32,49,50,56,10,98,121,116,101,32,49,57,50,10,98,121,116,101,32,48,10,98,121,116,101,32,49,57,50,10,98,121,116,101,32,49,54,48,10,98,121,116,101,32,49,57,50,10]))))),()),((y.1.1,r2.2.1.2),())))
         else none)
        else none)
       else none)
      else none)
     else none)
    else none)
   else some (((r0.1.1++(bz [97,116,32,50,53,48,10,98,121,116,101,32,49,50,56,10,98,121,116,101,32,49,57,50,10,98,121,116,101,32,48,10,98,121,116,101,32,49,57,50,10,98,121,116,101,32,49,54,48,10,98,121,116,101,32,49,57,50,10])),()),((y.1.1,r1.2.1.2),())))
  else none
theorem s38 (c84:F84) (c83:F83) (c82:F82) (y):TE [g84 c84,g83 c83,g82 c82] Tryz.f38 i38 o38 y=m38 c84 c83 c82 y:=by kernel_rfl
noncomputable def r38:F38:=m38 r84 r83 r82
theorem k38:KO (g38 r38):=fk (s38 r84 r83 r82) ⟨k84,k83,k82,⟨⟩⟩ (by kernel_rfl)
abbrev i40:Ts:=[.p q12, .v (.sl false .i)]
abbrev o40:Ts:=[.v (.int .i64)]
abbrev F40:=FT i40 o40
abbrev g40:=mkG 40 i40 o40
noncomputable def m40 (c84:F84) (y:PTup i40):Option (PTup o40×BTup i40):=
  (c84 (y.1,((lenI y.2.1),()))).bind fun r0=>
  bif (leI 0 r0.1.1)then (bif (ltI r0.1.1 (lenI y.2.1))then (some (((rdE .i y.2.1 r0.1.1),()),((y.1.1,r0.2.1.2),())))
   else none)
  else none
theorem s40 (c84:F84) (y):TE [g84 c84] Tryz.f40 i40 o40 y=m40 c84 y:=by kernel_rfl
noncomputable def r40:F40:=m40 r84
theorem k40:KO (g40 r40):=fk (s40 r84) ⟨k84,⟨⟩⟩ (by kernel_rfl)
abbrev i39:Ts:=[.p q12]
abbrev o39:Ts:=[.v (.sl true .i)]
abbrev F39:=FT i39 o39
abbrev g39:=mkG 39 i39 o39
abbrev lc39_0:Ts:=[]
abbrev lb39_0:Ts:=[.p q12]
abbrev lv39_0:Ts:=[.v (.sl true .i), .v (.int .i64)]
abbrev lr39_0:Ts:=[]
abbrev R39_0:=Option (Sum (PTup lv39_0) (PTup lr39_0)×BTup lb39_0)
abbrev B39_0:=PTup lb39_0→PTup lv39_0→R39_0
abbrev A39_0:=PTup lc39_0→B39_0
noncomputable def w39_0 (c84:F84) (c83:F83) (c40:F40) (again:B39_0) (x:PTup lc39_0) (y:PTup lb39_0) (z:PTup lv39_0):R39_0:=
  (c84 (y.1,((5:Int),()))).bind fun r0=>
  bif (ltI z.2.1 r0.1.1)then ((c84 ((y.1.1,r0.2.1.2),((256:Int),()))).bind fun r1=>
   bif (leN ((List.length z.1)+(List.length (r1.1.1::[]))) (E.most .i))then (again ((y.1.1,r1.2.1.2),()) ((z.1++(r1.1.1::[])),((wI (z.2.1+1)),())))
   else none)
  else some ((Sum.inl z),((y.1.1,r0.2.1.2),()))
noncomputable def e39_0 (l:A39_0):Zbb:=⟨[],lc39_0,[0],lb39_0,[3,4],lv39_0,[],lr39_0,0,[],l⟩
noncomputable def m39 (c84:F84) (c83:F83) (c40:F40) (l0:A39_0) (y:PTup i39):Option (PTup o39×BTup i39):=
  (l0 () (y.1,()) ([],((0:Int),()))).bind fun r0=>
  Zai r0.1 (fun r1=>(c83 ((y.1.1,r0.2.1.2),((30:Int),()))).bind fun r2=>
   bif r2.1.1 then ((c40 ((y.1.1,r2.2.1.2),(((-(1:Int))::((256:Int)::[])),()))).bind fun r3=>
    bif (leN ((List.length r1.1)+(List.length (r3.1.1::[]))) (E.most .i))then ((c83 ((y.1.1,r3.2.1.2),((40:Int),()))).bind fun r4=>
     bif r4.1.1 then ((c84 ((y.1.1,r4.2.1.2),((2:Int),()))).bind fun r5=>
      bif (leI 0 (wI ((20:Int)+r5.1.1)))then (bif (leN (Int.toNat (wI ((20:Int)+r5.1.1))) (E.most .i))then (some (((List.replicate (Int.toNat (wI ((20:Int)+r5.1.1))) (0:Int)),()),((y.1.1,r5.2.1.2),())))
       else none)
      else none)
     else some (((r1.1++(r3.1.1::[])),()),((y.1.1,r4.2.1.2),())))
    else none)
   else (c83 ((y.1.1,r2.2.1.2),((40:Int),()))).bind fun r3=>
   bif r3.1.1 then ((c84 ((y.1.1,r3.2.1.2),((2:Int),()))).bind fun r4=>
    bif (leI 0 (wI ((20:Int)+r4.1.1)))then (bif (leN (Int.toNat (wI ((20:Int)+r4.1.1))) (E.most .i))then (some (((List.replicate (Int.toNat (wI ((20:Int)+r4.1.1))) (0:Int)),()),((y.1.1,r4.2.1.2),())))
     else none)
    else none)
   else some ((r1.1,()),((y.1.1,r3.2.1.2),())))
  (fun r1=>some (([],()),((y.1.1,r0.2.1.2),())))
noncomputable def E39 (c84:F84) (c83:F83) (c40:F40) (l0:A39_0):CEnv:=⟨⟨Tryz.prog,fnsL [g84 c84,g83 c83,g40 c40]⟩,Za9 [(3,e39_0 l0)]⟩
theorem t39_0 (c84:F84) (c83:F83) (c40:F40) (l0:A39_0) (again) (x y z):Zak (E39 c84 c83 c40 l0) (Zaf (Zag Tryz.f39) 0) (e39_0 l0) Tryz.f39.ntmps again x y z=w39_0 c84 c83 c40 again x y z:=by kernel_rfl
noncomputable def n39_0 (c84:F84) (c83:F83) (c40:F40):Nat→A39_0
  |0,_,_,_=>none
  |n+1,x,y,z=>w39_0 c84 c83 c40 (fun y z=>n39_0 c84 c83 c40 n x y z) x y z
theorem s39 (c84:F84) (c83:F83) (c40:F40) (l0:A39_0) (y):tevF (E39 c84 c83 c40 l0) Tryz.f39 i39 o39 y=m39 c84 c83 c40 l0 y:=by kernel_rfl
noncomputable def L39_0:A39_0:=n39_0 r84 r83 r40 fuel
noncomputable def r39:F39:=m39 r84 r83 r40 L39_0
theorem k39:KO (g39 r39):=by
  have hE: ∀g f,(E39 r84 r83 r40 L39_0).env.fns g=some f→Zal Tryz.prog g f:=ZaE ⟨k84,k83,k40,⟨⟩⟩
  have h0:ZaS Tryz.prog Tryz.f39.ntmps (Zaf (Zag Tryz.f39) 0) (e39_0 L39_0):=ZbS (E:=E39 r84 r83 r40 L39_0) rfl hE mixed (Zad.of_list (l:=[]) (by kernel_rfl) trivial) (n39_0 r84 r83 r40) (fun _ _ _=>rfl) (fun n x y z=>t39_0 r84 r83 r40 L39_0 _ x y z) rfl
  exact Zcd (E:=E39 r84 r83 r40 L39_0) rfl hE mixed (by kernel_rfl) (by kernel_rfl) (Zad.of_list (l:=[(Zaf (Zag Tryz.f39) 0)]) (by kernel_rfl) (.one (by kernel_rfl) h0 trivial)) (s39 r84 r83 r40 L39_0)
abbrev i14:Ts:=[.v (.sl false .b)]
abbrev o14:Ts:=[.v (.str), .v (.sl true .i), .v (.int .i64)]
abbrev F14:=FT i14 o14
abbrev g14:=mkG 14 i14 o14
noncomputable def m14 (c39:F39) (c37:F37) (c40:F40) (c38:F38) (y:PTup i14):Option (PTup o14×BTup i14):=
  (c37 y).bind fun r0=>
  (c38 (r0.1.1,())).bind fun r1=>
  (c39 ((r0.1.1.1,r1.2.1.2),())).bind fun r2=>
  (c40 ((r0.1.1.1,r2.2.1.2),(((1:Int)::((2:Int)::((4:Int)::((16:Int)::((0:Int)::((17:Int)::[])))))),()))).bind fun r3=>
  some ((r1.1.1,(r2.1.1,r3.1)),())
theorem s14 (c39:F39) (c37:F37) (c40:F40) (c38:F38) (y):TE [g39 c39,g37 c37,g40 c40,g38 c38] Tryz.f14 i14 o14 y=m14 c39 c37 c40 c38 y:=by kernel_rfl
noncomputable def r14:F14:=m14 r39 r37 r40 r38
theorem k14:KO (g14 r14):=fk (s14 r39 r37 r40 r38) ⟨k39,k37,k40,k38,⟨⟩⟩ (by kernel_rfl)
abbrev i17:Ts:=[.v (.sl false .i), .v (.sl false .i)]
abbrev o17:Ts:=[.v (.bool)]
abbrev F17:=FT i17 o17
abbrev g17:=mkG 17 i17 o17
abbrev lc17_0:Ts:=[.v (.sl false .i), .v (.sl false .i)]
abbrev lb17_0:Ts:=[]
abbrev lv17_0:Ts:=[.v (.int .i64)]
abbrev lr17_0:Ts:=[.v (.bool)]
abbrev R17_0:=Option (Sum (PTup lv17_0) (PTup lr17_0)×BTup lb17_0)
abbrev B17_0:=PTup lb17_0→PTup lv17_0→R17_0
abbrev A17_0:=PTup lc17_0→B17_0
noncomputable def w17_0 (again:B17_0) (x:PTup lc17_0) (y:PTup lb17_0) (z:PTup lv17_0):R17_0:=
  bif (ltI z.1 (lenI x.1))then (bif (leI 0 z.1)then (bif (ltI z.1 (lenI x.1))then (bif (leI 0 z.1)then (bif (ltI z.1 (lenI x.2.1))then (bif (neI (rdE .i x.1 z.1) (rdE .i x.2.1 z.1))then (some ((Sum.inr (false,())),()))
       else again () ((wI (z.1+1)),()))
      else none)
     else none)
    else none)
   else none)
  else some ((Sum.inl z),())
noncomputable def e17_0 (l:A17_0):Zbb:=⟨[0,1],lc17_0,[],lb17_0,[5],lv17_0,[4],lr17_0,0,[],l⟩
noncomputable def m17 (l0:A17_0) (y:PTup i17):Option (PTup o17×BTup i17):=
  bif (neI (lenI y.1) (lenI y.2.1))then no
  else (l0 y () ((0:Int),())).bind fun r0=>
  Zai r0.1 (fun r1=>some ((true,()),()))
  (fun r1=>some (r1,()))
noncomputable def E17 (l0:A17_0):CEnv:=⟨⟨Tryz.prog,fnsL []⟩,Za9 [(4,e17_0 l0)]⟩
theorem t17_0 (l0:A17_0) (again) (x y z):Zak (E17 l0) (Zaf (Zag Tryz.f17) 0) (e17_0 l0) Tryz.f17.ntmps again x y z=w17_0 again x y z:=by kernel_rfl
noncomputable def n17_0:Nat→A17_0
  |0,_,_,_=>none
  |n+1,x,y,z=>w17_0 (fun y z=>n17_0 n x y z) x y z
theorem s17 (l0:A17_0) (y):tevF (E17 l0) Tryz.f17 i17 o17 y=m17 l0 y:=by kernel_rfl
noncomputable def L17_0:A17_0:=n17_0 fuel
noncomputable def r17:F17:=m17 L17_0
theorem k17:KO (g17 r17):=by
  have hE: ∀g f,(E17 L17_0).env.fns g=some f→Zal Tryz.prog g f:=ZaE trivial
  have h0:ZaS Tryz.prog Tryz.f17.ntmps (Zaf (Zag Tryz.f17) 0) (e17_0 L17_0):=ZbS (E:=E17 L17_0) rfl hE mixed (Zad.of_list (l:=[]) (by kernel_rfl) trivial) (n17_0) (fun _ _ _=>rfl) (fun n x y z=>t17_0 L17_0 _ x y z) rfl
  exact Zcd (E:=E17 L17_0) rfl hE mixed (by kernel_rfl) (by kernel_rfl) (Zad.of_list (l:=[(Zaf (Zag Tryz.f17) 0)]) (by kernel_rfl) (.one (by kernel_rfl) h0 trivial)) (s17 L17_0)
abbrev i99:Ts:=[.a q10]
abbrev o99:Ts:=[.v (.bool)]
abbrev F99:=FT i99 o99
abbrev g99:=mkG 99 i99 o99
noncomputable def m99 (c16:F16) (y:PTup i99):Option (PTup o99×BTup i99):=
  (c16 (y.1,())).bind fun r0=>
  bif r0.1.1 then (some (((leI y.1.2.2.2.2.2.2.2.2.2.2.2.2.2.2.2.2.2.2.2.1 3000),()),()))
  else no
theorem s99 (c16:F16) (y):TE [g16 c16] Tryz.f99 i99 o99 y=m99 c16 y:=by kernel_rfl
noncomputable def r99:F99:=m99 r16
theorem k99:KO (g99 r99):=fk (s99 r16) ⟨k16,⟨⟩⟩ (by kernel_rfl)
abbrev i172:Ts:=[.a q13]
abbrev o172:Ts:=[.v (.bool)]
abbrev F172:=FT i172 o172
abbrev g172:=mkG 172 i172 o172
noncomputable def m172 (c97:F97) (c47:F47) (c45:F45) (c46:F46) (c94:F94) (c96:F96) (c50:F50) (c98:F98) (c52:F52) (y:PTup i172):Option (PTup o172×BTup i172):=
  let a0:=y.1;let a1:=a0.2;let a2:=a1.2;let a3:=a2.2;let a4:=a3.2;let a5:=a4.2;let a6:=a5.2;let a7:=a6.2;let a8:=a7.2;let a9:=a8.2;let a10:=a9.2;let a11:=a10.2;let a12:=a11.2;let a13:=a12.2;let a14:=a13.2;let a15:=a14.2;let a16:=a15.2;let a17:=a16.2;let a18:=a17.2;let a19:=a18.2;let a20:=a19.2;let a21:=a20.2;let a22:=a21.2.2;let a23:=a22.2.2;let a24:=a23.2.2.2;(c45 ((a0.1,()),((a2.1,(a3.1,())),()))).bind fun r0=>
  bif r0.1.1 then ((c46 (a1.1,())).bind fun r1=>
   bif r1.1.1 then ((c47 ((a4.1,(a5.1,(a6.1,(a7.1,(a8.1,(a9.1,(a10.1,(a11.1,())))))))),())).bind fun r2=>
    bif r2.1.1 then ((c94 ((a12.1,(a13.1,(a14.1,(a15.1,(a16.1,(a17.1,(a18.1,(a19.1,())))))))),())).bind fun r3=>
     bif r3.1.1 then ((c97 ((a20.1,(a21.1,(a21.2.1,(a22.1,(a22.2.1,(a23.1,(a23.2.1,()))))))),())).bind fun r4=>
      bif r4.1.1 then ((c50 (a24.1,())).bind fun r5=>
       bif r5.1.1 then (bif (eqI a20.1 a12.1)then ((c52 (a24.2.2.1,((0:Int),(a12.1,())))).bind fun r6=>
         bif r6.1.1 then ((c96 (a24.2.2.2.1,(a12.1,()))).bind fun r7=>
          bif r7.1.1 then ((c98 (a24.2.2.2.2.1,(a12.1,()))).bind fun r8=>
           some (r8.1,()))
          else no)
         else no)
        else no)
       else no)
      else no)
     else no)
    else no)
   else no)
  else no
theorem s172 (c97:F97) (c47:F47) (c45:F45) (c46:F46) (c94:F94) (c96:F96) (c50:F50) (c98:F98) (c52:F52) (y):TE [g97 c97,g47 c47,g45 c45,g46 c46,g94 c94,g96 c96,g50 c50,g98 c98,g52 c52] Tryz.f172 i172 o172 y=m172 c97 c47 c45 c46 c94 c96 c50 c98 c52 y:=by kernel_rfl
noncomputable def r172:F172:=m172 r97 r47 r45 r46 r94 r96 r50 r98 r52
theorem k172:KO (g172 r172):=fk (s172 r97 r47 r45 r46 r94 r96 r50 r98 r52) ⟨k97,k47,k45,k46,k94,k96,k50,k98,k52,⟨⟩⟩ (by kernel_rfl)
abbrev i140:Ts:=[.a q0, .v (.sl false .i)]
abbrev o140:Ts:=[.a q14, .v (.bool)]
abbrev F140:=FT i140 o140
abbrev g140:=mkG 140 i140 o140
noncomputable def m140 (c69:F69) (c172:F172) (c68:F68) (c70:F70) (c66:F66) (c67:F67) (y:PTup i140):Option (PTup o140×BTup i140):=
  (c66 (y.1,())).bind fun r0=>
  (c67 y.2).bind fun r1=>
  (c68 ()).bind fun r2=>
  (c69 (y.1,())).bind fun r3=>
  (c70 ()).bind fun r4=>
  (c172 ((r0.1.1.1,(r1.1.1,(r2.1.1.1,(r2.1.1.2.1,(r3.1.1.1,(r3.1.1.2.1,(r3.1.1.2.2.1,(r3.1.1.2.2.2.1,(r3.1.1.2.2.2.2.1,(r3.1.1.2.2.2.2.2.1,(r3.1.1.2.2.2.2.2.2.1,(r3.1.1.2.2.2.2.2.2.2.1,(r4.1.1.1,(r4.1.1.2.1,(r4.1.1.2.2.1,(r4.1.1.2.2.2.1,(r4.1.1.2.2.2.2.1,(r4.1.1.2.2.2.2.2.1,(r4.1.1.2.2.2.2.2.2.1,(r4.1.1.2.2.2.2.2.2.2.1,((0:Int),((0:Int),((0:Int),((0:Int),((0:Int),(false,(false,(false,((0:Int),(false,((0:Int),([],([],([],())))))))))))))))))))))))))))))))))),())).bind fun r5=>
  bif (!r5.1.1)then (some ((([],([],([],((0:Int),((0:Int),((0:Int),((0:Int),((0:Int),(false,(false,(false,(false,((0:Int),((0:Int),((0:Int),((0:Int),((0:Int),(false,([],([],((0:Int),((0:Int),((0:Int),((0:Int),((0:Int),(false,(false,(false,((0:Int),(false,((0:Int),([],([],([],())))))))))))))))))))))))))))))))))),(false,())),()))
  else some (((r0.1.1.1,(r1.1.1,(r2.1.1.1,(r2.1.1.2.1,(r3.1.1.1,(r3.1.1.2.1,(r3.1.1.2.2.1,(r3.1.1.2.2.2.1,(r3.1.1.2.2.2.2.1,(r3.1.1.2.2.2.2.2.1,(r3.1.1.2.2.2.2.2.2.1,(r3.1.1.2.2.2.2.2.2.2.1,(r4.1.1.1,(r4.1.1.2.1,(r4.1.1.2.2.1,(r4.1.1.2.2.2.1,(r4.1.1.2.2.2.2.1,(r4.1.1.2.2.2.2.2.1,(r4.1.1.2.2.2.2.2.2.1,(r4.1.1.2.2.2.2.2.2.2.1,((0:Int),((0:Int),((0:Int),((0:Int),((0:Int),(false,(false,(false,((0:Int),(false,((0:Int),([],([],([],())))))))))))))))))))))))))))))))))),(true,())),())
theorem s140 (c69:F69) (c172:F172) (c68:F68) (c70:F70) (c66:F66) (c67:F67) (y):TE [g69 c69,g172 c172,g68 c68,g70 c70,g66 c66,g67 c67] Tryz.f140 i140 o140 y=m140 c69 c172 c68 c70 c66 c67 y:=by kernel_rfl
noncomputable def r140:F140:=m140 r69 r172 r68 r70 r66 r67
theorem k140:KO (g140 r140):=fk (s140 r69 r172 r68 r70 r66 r67) ⟨k69,k172,k68,k70,k66,k67,⟨⟩⟩ (by kernel_rfl)
abbrev i177:Ts:=[.a q2]
abbrev o177:Ts:=[.a q1]
abbrev F177:=FT i177 o177
abbrev g177:=mkG 177 i177 o177
noncomputable def m177 (c67:F67) (y:PTup i177):Option (PTup o177×BTup i177):=
  (c67 (y.1.1,())).bind fun r0=>
  some (((r0.1.1,y.1.2),()),())
theorem s177 (c67:F67) (y):TE [g67 c67] Tryz.f177 i177 o177 y=m177 c67 y:=by kernel_rfl
noncomputable def r177:F177:=m177 r67
theorem k177:KO (g177 r177):=fk (s177 r67) ⟨k67,⟨⟩⟩ (by kernel_rfl)
abbrev i207:Ts:=[.a q5]
abbrev o207:Ts:=[.a q4]
abbrev F207:=FT i207 o207
abbrev g207:=mkG 207 i207 o207
noncomputable def m207 (c67:F67) (y:PTup i207):Option (PTup o207×BTup i207):=
  (c67 (y.1.2.2.2.2.2.2.1,())).bind fun r0=>
  (c67 y.1.2.2.2.2.2.2.2).bind fun r1=>
  some (((y.1.1,(y.1.2.1,(y.1.2.2.1,(y.1.2.2.2.1,(y.1.2.2.2.2.1,(y.1.2.2.2.2.2.1,(r0.1.1,r1.1))))))),()),())
theorem s207 (c67:F67) (y):TE [g67 c67] Tryz.f207 i207 o207 y=m207 c67 y:=by kernel_rfl
noncomputable def r207:F207:=m207 r67
theorem k207:KO (g207 r207):=fk (s207 r67) ⟨k67,⟨⟩⟩ (by kernel_rfl)
abbrev i143:Ts:=[.v (.sl false .n)]
abbrev o143:Ts:=[.v (.sl true .n)]
abbrev F143:=FT i143 o143
abbrev g143:=mkG 143 i143 o143
abbrev lc143_0:Ts:=[.v (.sl false .n), .v (.int .i64)]
abbrev lb143_0:Ts:=[]
abbrev lv143_0:Ts:=[.v (.sl true .n), .v (.int .i64)]
abbrev lr143_0:Ts:=[]
abbrev R143_0:=Option (Sum (PTup lv143_0) (PTup lr143_0)×BTup lb143_0)
abbrev B143_0:=PTup lb143_0→PTup lv143_0→R143_0
abbrev A143_0:=PTup lc143_0→B143_0
noncomputable def w143_0 (c67:F67) (again:B143_0) (x:PTup lc143_0) (y:PTup lb143_0) (z:PTup lv143_0):R143_0:=
  bif (ltI z.2.1 x.2.1)then (bif (leI 0 z.2.1)then (bif (ltI z.2.1 (lenI x.1))then ((c67 ((rdE .n x.1 z.2.1),())).bind fun r0=>
     bif (leN ((List.length z.1)+(List.length (r0.1.1::[]))) (E.most .n))then (again () ((z.1++(r0.1.1::[])),((wI (z.2.1+1)),())))
     else none)
    else none)
   else none)
  else some ((Sum.inl z),())
noncomputable def e143_0 (l:A143_0):Zbb:=⟨[7,8],lc143_0,[],lb143_0,[3,9],lv143_0,[],lr143_0,0,[],l⟩
noncomputable def m143 (c67:F67) (l0:A143_0) (y:PTup i143):Option (PTup o143×BTup i143):=
  (l0 (y.1,((lenI y.1),())) () ([],((0:Int),()))).bind fun r0=>
  Zai r0.1 (fun r1=>some ((r1.1,()),()))
  (fun r1=>some (([],()),()))
noncomputable def E143 (c67:F67) (l0:A143_0):CEnv:=⟨⟨Tryz.prog,fnsL [g67 c67]⟩,Za9 [(3,e143_0 l0)]⟩
theorem t143_0 (c67:F67) (l0:A143_0) (again) (x y z):Zak (E143 c67 l0) (Zaf (Zag Tryz.f143) 0) (e143_0 l0) Tryz.f143.ntmps again x y z=w143_0 c67 again x y z:=by kernel_rfl
noncomputable def n143_0 (c67:F67):Nat→A143_0
  |0,_,_,_=>none
  |n+1,x,y,z=>w143_0 c67 (fun y z=>n143_0 c67 n x y z) x y z
theorem s143 (c67:F67) (l0:A143_0) (y):tevF (E143 c67 l0) Tryz.f143 i143 o143 y=m143 c67 l0 y:=by kernel_rfl
noncomputable def L143_0:A143_0:=n143_0 r67 fuel
noncomputable def r143:F143:=m143 r67 L143_0
theorem k143:KO (g143 r143):=by
  have hE: ∀g f,(E143 r67 L143_0).env.fns g=some f→Zal Tryz.prog g f:=ZaE ⟨k67,⟨⟩⟩
  have h0:ZaS Tryz.prog Tryz.f143.ntmps (Zaf (Zag Tryz.f143) 0) (e143_0 L143_0):=ZbS (E:=E143 r67 L143_0) rfl hE mixed (Zad.of_list (l:=[]) (by kernel_rfl) trivial) (n143_0 r67) (fun _ _ _=>rfl) (fun n x y z=>t143_0 r67 L143_0 _ x y z) rfl
  exact Zcd (E:=E143 r67 L143_0) rfl hE mixed (by kernel_rfl) (by kernel_rfl) (Zad.of_list (l:=[(Zaf (Zag Tryz.f143) 0)]) (by kernel_rfl) (.one (by kernel_rfl) h0 trivial)) (s143 r67 L143_0)
abbrev i173:Ts:=[.a q13]
abbrev o173:Ts:=[.a q14]
abbrev F173:=FT i173 o173
abbrev g173:=mkG 173 i173 o173
noncomputable def m173 (c143:F143) (c66:F66) (c67:F67) (c177:F177) (c207:F207) (y:PTup i173):Option (PTup o173×BTup i173):=
  let a0:=y.1;let a1:=a0.2;let a2:=a1.2;let a3:=a2.2;let a4:=a3.2;let a5:=a4.2;let a6:=a5.2;let a7:=a6.2;let a8:=a7.2;let a9:=a8.2;let a10:=a9.2;let a11:=a10.2;let a12:=a11.2;let a13:=a12.2;let a14:=a13.2;let a15:=a14.2;let a16:=a15.2;let a17:=a16.2;let a18:=a17.2;let a19:=a18.2;let a20:=a19.2;let a21:=a20.2;let a22:=a21.2;let a23:=a22.2;let a24:=a23.2;let a25:=a24.2.2;let a26:=a25.2.2;(c66 ((a0.1,()),())).bind fun r0=>
  (c67 (a1.1,())).bind fun r1=>
  (c177 ((a2.1,(a3.1,())),())).bind fun r2=>
  (c207 ((a12.1,(a13.1,(a14.1,(a15.1,(a16.1,(a17.1,(a18.1,(a19.1,())))))))),())).bind fun r3=>
  (c143 (a26.2.2.2.1,())).bind fun r4=>
  (c67 (a26.2.2.2.2.1,())).bind fun r5=>
  (c67 a26.2.2.2.2.2).bind fun r6=>
  some (((r0.1.1.1,(r1.1.1,(r2.1.1.1,(r2.1.1.2.1,(a4.1,(a5.1,(a6.1,(a7.1,(a8.1,(a9.1,(a10.1,(a11.1,(r3.1.1.1,(r3.1.1.2.1,(r3.1.1.2.2.1,(r3.1.1.2.2.2.1,(r3.1.1.2.2.2.2.1,(r3.1.1.2.2.2.2.2.1,(r3.1.1.2.2.2.2.2.2.1,(r3.1.1.2.2.2.2.2.2.2.1,(a20.1,(a21.1,(a22.1,(a23.1,(a24.1,(a24.2.1,(a25.1,(a25.2.1,(a26.1,(a26.2.1,(a26.2.2.1,(r4.1.1,(r5.1.1,r6.1))))))))))))))))))))))))))))))))),()),())
theorem s173 (c143:F143) (c66:F66) (c67:F67) (c177:F177) (c207:F207) (y):TE [g143 c143,g66 c66,g67 c67,g177 c177,g207 c207] Tryz.f173 i173 o173 y=m173 c143 c66 c67 c177 c207 y:=by kernel_rfl
noncomputable def r173:F173:=m173 r143 r66 r67 r177 r207
theorem k173:KO (g173 r173):=fk (s173 r143 r66 r67 r177 r207) ⟨k143,k66,k67,k177,k207,⟨⟩⟩ (by kernel_rfl)
abbrev i186:Ts:=[.a q0, .a q2, .v (.int .i64)]
abbrev o186:Ts:=[.a q15]
abbrev F186:=FT i186 o186
abbrev g186:=mkG 186 i186 o186
noncomputable def m186 (c159:F159) (c91:F91) (c195:F195) (y:PTup i186):Option (PTup o186×BTup i186):=
  (c195 y).bind fun r0=>
  (c91 r0.1).bind fun r1=>
  bif (eqI r1.1.1 2)then ((c195 (y.1,(y.2.1,((wI (y.2.2.1+1)),())))).bind fun r2=>
   some (((r0.1.1,r2.1),()),()))
  else bif (eqI r1.1.1 3)then ((c195 (y.1,(y.2.1,((wI (y.2.2.1+1)),())))).bind fun r2=>
   (c195 (y.1,(y.2.1,((wI (y.2.2.1+2)),())))).bind fun r3=>
   (c159 (r2.1.1,r3.1)).bind fun r4=>
   some (((r0.1.1,r4.1),()),()))
  else some (((r0.1.1,((0:Int),())),()),())
theorem s186 (c159:F159) (c91:F91) (c195:F195) (y):TE [g159 c159,g91 c91,g195 c195] Tryz.f186 i186 o186 y=m186 c159 c91 c195 y:=by kernel_rfl
noncomputable def r186:F186:=m186 r159 r91 r195
theorem k186:KO (g186 r186):=fk (s186 r159 r91 r195) ⟨k159,k91,k195,⟨⟩⟩ (by kernel_rfl)
abbrev i189:Ts:=[.v (.int .i64)]
abbrev o189:Ts:=[.v (.int .i64)]
abbrev R189:=Option (PTup o189×BTup i189)
abbrev F189:=PTup i189→R189
abbrev g189:=mkG 189 i189 o189
noncomputable def m189 (y:PTup i189):R189:=
  let X0:R189:=bif (eqI y.1 15)then (some (((5:Int),()),()))else bif (eqI y.1 16)then (bif (eqI y.1 16)then (some (((3:Int),()),()))else bif (eqI y.1 20)then (bif (eqI y.1 20)then (some (((6:Int),()),()))else some (((2:Int),()),()))else bif (eqI y.1 21)then (bif (eqI y.1 21)then (some (((6:Int),()),()))else some (((2:Int),()),()))else bif (eqI y.1 24)then (some (((6:Int),()),()))else some (((2:Int),()),()))else bif (eqI y.1 17)then (bif (eqI y.1 17)then (some (((3:Int),()),()))else bif (eqI y.1 20)then (bif (eqI y.1 20)then (some (((6:Int),()),()))else some (((2:Int),()),()))else bif (eqI y.1 21)then (bif (eqI y.1 21)then (some (((6:Int),()),()))else some (((2:Int),()),()))else bif (eqI y.1 24)then (some (((6:Int),()),()))else some (((2:Int),()),()))else bif (eqI y.1 18)then (bif (eqI y.1 18)then (some (((3:Int),()),()))else bif (eqI y.1 20)then (bif (eqI y.1 20)then (some (((6:Int),()),()))else some (((2:Int),()),()))else bif (eqI y.1 21)then (bif (eqI y.1 21)then (some (((6:Int),()),()))else some (((2:Int),()),()))else bif (eqI y.1 24)then (some (((6:Int),()),()))else some (((2:Int),()),()))else bif (eqI y.1 19)then (bif (eqI y.1 19)then (some (((3:Int),()),()))else bif (eqI y.1 20)then (bif (eqI y.1 20)then (some (((6:Int),()),()))else some (((2:Int),()),()))else bif (eqI y.1 21)then (bif (eqI y.1 21)then (some (((6:Int),()),()))else some (((2:Int),()),()))else bif (eqI y.1 24)then (some (((6:Int),()),()))else some (((2:Int),()),()))else bif (eqI y.1 22)then (some (((3:Int),()),()))else bif (eqI y.1 20)then (bif (eqI y.1 20)then (some (((6:Int),()),()))else some (((2:Int),()),()))else bif (eqI y.1 21)then (bif (eqI y.1 21)then (some (((6:Int),()),()))else some (((2:Int),()),()))else bif (eqI y.1 24)then (some (((6:Int),()),()))else some (((2:Int),()),());bif (eqI y.1 2)then (bif (eqI y.1 2)then (some (((4:Int),()),()))else X0)else bif (eqI y.1 3)then (bif (eqI y.1 3)then (some (((4:Int),()),()))else X0)else bif (eqI y.1 14)then (bif (eqI y.1 14)then (some (((4:Int),()),()))else X0)else bif (eqI y.1 23)then (bif (eqI y.1 23)then (some (((4:Int),()),()))else X0)else bif (eqI y.1 29)then (some (((4:Int),()),()))else X0
theorem s189 (y):TE [] Tryz.f189 i189 o189 y=m189 y:=by kernel_rfl
noncomputable def r189:F189:=m189
theorem k189:KO (g189 r189):=fk (s189) trivial (by kernel_rfl)
abbrev i247:Ts:=[.p q1, .p q3, .v (.int .i64)]
abbrev o247:Ts:=[]
abbrev F247:=FT i247 o247
abbrev g247:=mkG 247 i247 o247
noncomputable def m247 (c194:F194) (y:PTup i247):Option (PTup o247×BTup i247):=
  bif (neI (lenI y.1.1) 512)then (some ((),(y.1,(y.2.1,()))))
  else (c194 (y.2.1.2.2.1,())).bind fun r0=>
  (c194 y.2.2).bind fun r1=>
  bif (leI 0 (wI ((256:Int)+r0.1.1)))then (bif (ltI (wI ((256:Int)+r0.1.1)) (lenI y.1.1))then ((c194 ((wI (y.2.1.2.2.1-1)),())).bind fun r2=>
    some ((),(((List.set y.1.1 (Int.toNat (wI ((256:Int)+r0.1.1))) r1.1.1),y.1.2),((y.2.1.1,(y.2.1.2.1,(r2.1.1,y.2.1.2.2.2))),()))))
   else none)
  else none
theorem s247 (c194:F194) (y):TE [g194 c194] Tryz.f247 i247 o247 y=m247 c194 y:=by kernel_rfl
noncomputable def r247:F247:=m247 r194
theorem k247:KO (g247 r247):=fk (s247 r194) ⟨k194,⟨⟩⟩ (by kernel_rfl)
abbrev i246:Ts:=[.p q1, .p q3]
abbrev o246:Ts:=[]
abbrev F246:=FT i246 o246
abbrev g246:=mkG 246 i246 o246
noncomputable def m246 (c247:F247) (y:PTup i246):Option (PTup o246×BTup i246):=
  (c247 (y.1,(y.2.1,((Int.fdiv y.2.1.2.2.2.1 ((2:Int)^(Min.min (Int.toNat (8:Int)) (64:Nat)))),())))).bind fun r0=>
  (c247 (r0.2.1,(r0.2.2.1,(r0.2.2.1.2.2.2.1,())))).bind fun r1=>
  some ((),(r1.2.1,(r1.2.2.1,())))
theorem s246 (c247:F247) (y):TE [g247 c247] Tryz.f246 i246 o246 y=m246 c247 y:=by kernel_rfl
noncomputable def r246:F246:=m246 r247
theorem k246:KO (g246 r246):=fk (s246 r247) ⟨k247,⟨⟩⟩ (by kernel_rfl)
abbrev i264:Ts:=[.v (.bool)]
abbrev o264:Ts:=[.v (.int .i64)]
abbrev F264:=FT i264 o264
abbrev g264:=mkG 264 i264 o264
noncomputable def m264 (y:PTup i264):Option (PTup o264×BTup i264):=
  bif y.1 then (some (((1:Int),()),()))
  else some (((0:Int),()),())
theorem s264 (y):TE [] Tryz.f264 i264 o264 y=m264 y:=by kernel_rfl
noncomputable def r264:F264:=m264
theorem k264:KO (g264 r264):=fk (s264) trivial (by kernel_rfl)
abbrev i248:Ts:=[.a q3]
abbrev o248:Ts:=[.v (.int .i64)]
abbrev F248:=FT i248 o248
abbrev g248:=mkG 248 i248 o248
noncomputable def m248 (c264:F264) (y:PTup i248):Option (PTup o248×BTup i248):=
  (c264 (y.1.2.2.2.2.2.2.1,())).bind fun r0=>
  (c264 (y.1.2.2.2.2.1,())).bind fun r1=>
  (c264 y.1.2.2.2.2.2.2.2).bind fun r2=>
  (c264 (y.1.2.2.2.2.2.1,())).bind fun r3=>
  some (((bOr Go.IntKind.i64 (bOr Go.IntKind.i64 (bOr Go.IntKind.i64 (wI ((1:Int)*r0.1.1)) (wI ((2:Int)*r1.1.1))) (wI ((4:Int)*r2.1.1))) (wI ((128:Int)*r3.1.1))),()),())
theorem s248 (c264:F264) (y):TE [g264 c264] Tryz.f248 i248 o248 y=m248 c264 y:=by kernel_rfl
noncomputable def r248:F248:=m248 r264
theorem k248:KO (g248 r248):=fk (s248 r264) ⟨k264,⟨⟩⟩ (by kernel_rfl)
abbrev i227:Ts:=[.p q1, .p q3, .v (.int .i64)]
abbrev o227:Ts:=[]
abbrev F227:=FT i227 o227
abbrev g227:=mkG 227 i227 o227
noncomputable def m227 (c247:F247) (c246:F246) (c248:F248) (y:PTup i227):Option (PTup o227×BTup i227):=
  (c246 (y.1,(y.2.1,()))).bind fun r0=>
  (c248 (r0.2.2.1,())).bind fun r1=>
  (c247 (r0.2.1,(r0.2.2.1,r1.1))).bind fun r2=>
  some ((),(r2.2.1,((r2.2.2.1.1,(r2.2.2.1.2.1,(r2.2.2.1.2.2.1,(y.2.2.1,(r2.2.2.1.2.2.2.2.1,(r2.2.2.1.2.2.2.2.2.1,(r2.2.2.1.2.2.2.2.2.2.1,(true,())))))))),())))
theorem s227 (c247:F247) (c246:F246) (c248:F248) (y):TE [g247 c247,g246 c246,g248 c248] Tryz.f227 i227 o227 y=m227 c247 c246 c248 y:=by kernel_rfl
noncomputable def r227:F227:=m227 r247 r246 r248
theorem k227:KO (g227 r227):=fk (s227 r247 r246 r248) ⟨k247,k246,k248,⟨⟩⟩ (by kernel_rfl)
abbrev i208:Ts:=[.p [.sl false .n, .sl false .i, .sl true .i, .int .i64, .int .i64, .int .i64, .int .i64, .int .i64, .bool, .bool, .bool, .bool, .int .i64, .int .i64, .int .i64, .int .i64, .int .i64, .bool, .sl false .i, .sl false .i, .int .i64, .int .i64, .int .i64, .int .i64, .int .i64, .bool, .bool, .bool, .int .i64, .bool, .int .i64, .sl false .n, .sl false .i, .sl false .i], .v (.int .i64)]
abbrev o208:Ts:=[]
abbrev F208:=FT i208 o208
abbrev g208:=mkG 208 i208 o208
noncomputable def m208 (c227:F227) (c159:F159) (c195:F195) (y:PTup i208):Option (PTup o208×BTup i208):=
  (c195 ((y.1.1,()),((y.1.2.2.1,(y.1.2.2.2.1,())),y.2))).bind fun r0=>
  (c195 ((y.1.1,()),((y.1.2.2.1,(y.1.2.2.2.1,())),((wI (y.2.1+1)),())))).bind fun r1=>
  (c159 (r0.1.1,r1.1)).bind fun r2=>
  (c227 ((y.1.2.2.1,(y.1.2.2.2.1,())),((y.1.2.2.2.2.1,(y.1.2.2.2.2.2.1,(y.1.2.2.2.2.2.2.1,(y.1.2.2.2.2.2.2.2.1,(y.1.2.2.2.2.2.2.2.2.1,(y.1.2.2.2.2.2.2.2.2.2.1,(y.1.2.2.2.2.2.2.2.2.2.2.1,(y.1.2.2.2.2.2.2.2.2.2.2.2.1,())))))))),r2.1))).bind fun r3=>
  some ((),((y.1.1,(y.1.2.1,(r3.2.1.1,(r3.2.1.2.1,(r3.2.2.1.1,(r3.2.2.1.2.1,(r3.2.2.1.2.2.1,(r3.2.2.1.2.2.2.1,(r3.2.2.1.2.2.2.2.1,(r3.2.2.1.2.2.2.2.2.1,(r3.2.2.1.2.2.2.2.2.2.1,(r3.2.2.1.2.2.2.2.2.2.2.1,y.1.2.2.2.2.2.2.2.2.2.2.2.2)))))))))))),()))
theorem s208 (c227:F227) (c159:F159) (c195:F195) (y):TE [g227 c227,g159 c159,g195 c195] Tryz.f208 i208 o208 y=m208 c227 c159 c195 y:=by kernel_rfl
noncomputable def r208:F208:=m208 r227 r159 r195
theorem k208:KO (g208 r208):=fk (s208 r227 r159 r195) ⟨k227,k159,k195,⟨⟩⟩ (by kernel_rfl)
abbrev i215:Ts:=[.v (.int .i64)]
abbrev o215:Ts:=[.v (.int .i64)]
abbrev R215:=Option (PTup o215×BTup i215)
abbrev F215:=PTup i215→R215
abbrev g215:=mkG 215 i215 o215
noncomputable def m215 (y:PTup i215):R215:=
  let X0:R215:=bif (eqI y.1 3)then (bif (eqI y.1 3)then (some (((2:Int),()),()))else some (((0:Int),()),()))else bif (eqI y.1 15)then (some (((2:Int),()),()))else some (((0:Int),()),());bif (eqI y.1 2)then (bif (eqI y.1 2)then (some (((1:Int),()),()))else X0)else bif (eqI y.1 14)then (bif (eqI y.1 14)then (some (((1:Int),()),()))else X0)else bif (eqI y.1 29)then (some (((1:Int),()),()))else X0
theorem s215 (y):TE [] Tryz.f215 i215 o215 y=m215 y:=by kernel_rfl
noncomputable def r215:F215:=m215
theorem k215:KO (g215 r215):=fk (s215) trivial (by kernel_rfl)
abbrev i187:Ts:=[.a q15, .a q3]
abbrev o187:Ts:=[.v (.int .i64), .v (.int .i64), .v (.int .i64)]
abbrev R187:=Option (PTup o187×BTup i187)
abbrev F187:=PTup i187→R187
abbrev g187:=mkG 187 i187 o187
noncomputable def m187 (c216:F216) (c194:F194) (c215:F215) (y:PTup i187):R187:=
  (c215 (y.1.1,())).bind fun r0=>let X0:R187:=(c216 ((wI (y.1.2.1+y.2.1.2.1)),())).bind fun r2=>bif (eqI r0.1.1 1)then (some ((r0.1.1,(r2.1.1,((0:Int),()))),()))else bif (eqI r0.1.1 2)then ((c194 (y.2.1.1,())).bind fun r3=>some ((r0.1.1,(r2.1.1,r3.1)),()))else some (((0:Int),((0:Int),((0:Int),()))),());(c216 y.1.2).bind fun r1=>bif (eqI y.1.1 14)then X0 else bif (eqI y.1.1 15)then X0 else bif (eqI r0.1.1 1)then (some ((r0.1.1,(r1.1.1,((0:Int),()))),()))else bif (eqI r0.1.1 2)then ((c194 (y.2.1.1,())).bind fun r2=>some ((r0.1.1,(r1.1.1,r2.1)),()))else some (((0:Int),((0:Int),((0:Int),()))),())
theorem s187 (c216:F216) (c194:F194) (c215:F215) (y):TE [g216 c216,g194 c194,g215 c215] Tryz.f187 i187 o187 y=m187 c216 c194 c215 y:=by kernel_rfl
noncomputable def r187:F187:=m187 r216 r194 r215
theorem k187:KO (g187 r187):=fk (s187 r216 r194 r215) ⟨k216,k194,k215,⟨⟩⟩ (by kernel_rfl)
abbrev i258:Ts:=[.p q5]
abbrev o258:Ts:=[]
abbrev F258:=FT i258 o258
abbrev g258:=mkG 258 i258 o258
noncomputable def m258 (y:PTup i258):Option (PTup o258×BTup i258):=
  some ((),((y.1.1,(y.1.2.1,(y.1.2.2.1,((Int.tmod (wI (y.1.2.2.2.1+1)) (16:Int)),y.1.2.2.2.2)))),()))
theorem s258 (y):TE [] Tryz.f258 i258 o258 y=m258 y:=by kernel_rfl
noncomputable def r258:F258:=m258
theorem k258:KO (g258 r258):=fk (s258) trivial (by kernel_rfl)
abbrev i249:Ts:=[.p q5, .v (.int .i64)]
abbrev o249:Ts:=[.v (.int .i64)]
abbrev F249:=FT i249 o249
abbrev g249:=mkG 249 i249 o249
noncomputable def m249 (c258:F258) (c264:F264) (y:PTup i249):Option (PTup o249×BTup i249):=
  bif (eqI y.2.1 2)then ((c264 (y.1.2.2.2.2.2.1,())).bind fun r0=>
   some (((wI ((128:Int)*r0.1.1)),()),((y.1.1,(y.1.2.1,(y.1.2.2.1,(y.1.2.2.2.1,(y.1.2.2.2.2.1,(false,y.1.2.2.2.2.2.2)))))),())))
  else bif (eqI y.2.1 4)then (bif (leI 0 y.1.2.2.2.1)then (bif (ltI y.1.2.2.2.1 (lenI y.1.2.2.2.2.2.2.1))then ((c258 (y.1,())).bind fun r0=>
     some (((rdE .i y.1.2.2.2.2.2.2.1 y.1.2.2.2.1),()),((r0.2.1.1,(r0.2.1.2.1,(r0.2.1.2.2.1,(r0.2.1.2.2.2.1,(r0.2.1.2.2.2.2.1,(r0.2.1.2.2.2.2.2.1,y.1.2.2.2.2.2.2)))))),())))
    else none)
   else none)
  else some (((0:Int),()),(y.1,()))
theorem s249 (c258:F258) (c264:F264) (y):TE [g258 c258,g264 c264] Tryz.f249 i249 o249 y=m249 c258 c264 y:=by kernel_rfl
noncomputable def r249:F249:=m249 r258 r264
theorem k249:KO (g249 r249):=fk (s249 r258 r264) ⟨k258,k264,⟨⟩⟩ (by kernel_rfl)
abbrev i250:Ts:=[.a q8, .v (.int .i64)]
abbrev o250:Ts:=[.a q8, .v (.int .i64)]
abbrev F250:=FT i250 o250
abbrev g250:=mkG 250 i250 o250
noncomputable def m250 (c97:F97) (c264:F264) (y:PTup i250):Option (PTup o250×BTup i250):=
  bif (neI y.2.1 2)then (some ((y.1,((0:Int),())),()))
  else (c97 (y.1,())).bind fun r0=>
  bif (!r0.1.1)then (some ((y.1,((0:Int),())),()))
  else (c264 y.1.2.2.2.2.2.2).bind fun r1=>
  (c264 ((ltI 0 y.1.2.2.2.2.1),())).bind fun r2=>
  some (((y.1.1,(y.1.2.1,(y.1.2.2.1,(y.1.2.2.2.1,(y.1.2.2.2.2.1,(y.1.2.2.2.2.2.1,(false,()))))))),((wI ((wI ((128:Int)*r1.1.1))+r2.1.1)),())),())
theorem s250 (c97:F97) (c264:F264) (y):TE [g97 c97,g264 c264] Tryz.f250 i250 o250 y=m250 c97 c264 y:=by kernel_rfl
noncomputable def r250:F250:=m250 r97 r264
theorem k250:KO (g250 r250):=fk (s250 r97 r264) ⟨k97,k264,⟨⟩⟩ (by kernel_rfl)
abbrev i274:Ts:=[.v (.int .i64)]
abbrev o274:Ts:=[.v (.int .i64)]
abbrev F274:=FT i274 o274
abbrev g274:=mkG 274 i274 o274
noncomputable def m274 (y:PTup i274):Option (PTup o274×BTup i274):=
  some (((wI (Int.tdiv (mxI y.1 (0:Int)) (64:Int))),()),())
theorem s274 (y):TE [] Tryz.f274 i274 o274 y=m274 y:=by kernel_rfl
noncomputable def r274:F274:=m274
theorem k274:KO (g274 r274):=fk (s274) trivial (by kernel_rfl)
abbrev i265:Ts:=[.v (.sl false .i), .v (.int .i64)]
abbrev o265:Ts:=[.v (.int .i64)]
abbrev F265:=FT i265 o265
abbrev g265:=mkG 265 i265 o265
noncomputable def m265 (c274:F274) (c46:F46) (y:PTup i265):Option (PTup o265×BTup i265):=
  (c46 (y.1,())).bind fun r0=>
  bif (!r0.1.1)then (some (((0:Int),()),()))
  else bif (eqI (lenI y.1) 0)then (some (((0:Int),()),()))
  else (c274 y.2).bind fun r1=>
  bif (neI (lenI y.1) 0)then (bif (leI 0 (Int.tmod r1.1.1 (lenI y.1)))then (bif (ltI (Int.tmod r1.1.1 (lenI y.1)) (lenI y.1))then (some (((rdE .i y.1 (Int.tmod r1.1.1 (lenI y.1))),()),()))
    else none)
   else none)
  else none
theorem s265 (c274:F274) (c46:F46) (y):TE [g274 c274,g46 c46] Tryz.f265 i265 o265 y=m265 c274 c46 y:=by kernel_rfl
noncomputable def r265:F265:=m265 r274 r46
theorem k265:KO (g265 r265):=fk (s265 r274 r46) ⟨k274,k46,⟨⟩⟩ (by kernel_rfl)
abbrev i251:Ts:=[.a [.bool, .int .i64], .v (.sl false .i), .v (.int .i64)]
abbrev o251:Ts:=[.a [.bool, .int .i64], .v (.int .i64)]
abbrev F251:=FT i251 o251
abbrev g251:=mkG 251 i251 o251
noncomputable def m251 (c265:F265) (y:PTup i251):Option (PTup o251×BTup i251):=
  bif y.1.1 then ((c265 y.2).bind fun r0=>
   some (((true,r0.1),((bAnd Go.IntKind.i64 r0.1.1 (1:Int)),())),()))
  else some (((false,((Int.fdiv y.1.2.1 ((2:Int)^(Min.min (Int.toNat (1:Int)) (64:Nat)))),())),((bAnd Go.IntKind.i64 y.1.2.1 (1:Int)),())),())
theorem s251 (c265:F265) (y):TE [g265 c265] Tryz.f251 i251 o251 y=m251 c265 y:=by kernel_rfl
noncomputable def r251:F251:=m251 r265
theorem k251:KO (g251 r251):=fk (s251 r265) ⟨k265,⟨⟩⟩ (by kernel_rfl)
abbrev i228:Ts:=[.p [.sl false .n, .sl false .i, .sl false .i, .int .i64, .int .i64, .int .i64, .int .i64, .int .i64, .bool, .bool, .bool, .bool, .int .i64, .int .i64, .int .i64, .int .i64, .int .i64, .bool, .sl false .i, .sl false .i, .int .i64, .int .i64, .int .i64, .int .i64, .int .i64, .bool, .bool, .bool, .int .i64, .bool, .int .i64, .sl false .n, .sl false .i, .sl true .i], .v (.int .i64)]
abbrev o228:Ts:=[.v (.int .i64)]
abbrev F228:=FT i228 o228
abbrev g228:=mkG 228 i228 o228
noncomputable def m228 (c249:F249) (c250:F250) (c251:F251) (c188:F188) (c195:F195) (y:PTup i228):Option (PTup o228×BTup i228):=
  let a0:=y.1;let a1:=a0.2;let a2:=a1.2;let a3:=a2.2;let a4:=a3.2;let a5:=a4.2;let a6:=a5.2;let a7:=a6.2;let a8:=a7.2;let a9:=a8.2;let a10:=a9.2;let a11:=a10.2;let a12:=a11.2;let a13:=a12.2;let a14:=a13.2;let a15:=a14.2;let a16:=a15.2;let a17:=a16.2;let a18:=a17.2;let a19:=a18.2;let a20:=a19.2;let a21:=a20.2;let a22:=a21.2;let a23:=a22.2;let a24:=a23.2;let a25:=a24.2;let a26:=a25.2;let a27:=a26.2;let a28:=a27.2;let a29:=a28.2;let a30:=a29.2;let a31:=a30.2;let a32:=a31.2.2;(c188 y.2).bind fun r0=>
  bif (eqI r0.1.1 2)then ((c249 ((a12.1,(a13.1,(a14.1,(a15.1,(a16.1,(a17.1,(a18.1,(a19.1,())))))))),r0.1.2)).bind fun r1=>
   bif (leN ((List.length a32.1)+(List.length (r1.1.1::[]))) (E.most .i))then (some (r1.1,((a0.1,(a1.1,(a2.1,(a3.1,(a4.1,(a5.1,(a6.1,(a7.1,(a8.1,(a9.1,(a10.1,(a11.1,(r1.2.1.1,(r1.2.1.2.1,(r1.2.1.2.2.1,(r1.2.1.2.2.2.1,(r1.2.1.2.2.2.2.1,(r1.2.1.2.2.2.2.2.1,(a18.1,(a19.1,(a20.1,(a21.1,(a22.1,(a23.1,(a24.1,(a25.1,(a26.1,(a27.1,(a28.1,(a29.1,(a30.1,(a31.1,(a31.2.1,((a32.1++(r1.1.1::[])),())))))))))))))))))))))))))))))))))),())))
   else none)
  else bif (eqI r0.1.1 3)then ((c250 ((a20.1,(a21.1,(a22.1,(a23.1,(a24.1,(a25.1,(a26.1,()))))))),r0.1.2)).bind fun r1=>
   bif (leN ((List.length a32.1)+(List.length (r1.1.2.1::[]))) (E.most .i))then (some (r1.1.2,((a0.1,(a1.1,(a2.1,(a3.1,(a4.1,(a5.1,(a6.1,(a7.1,(a8.1,(a9.1,(a10.1,(a11.1,(a12.1,(a13.1,(a14.1,(a15.1,(a16.1,(a17.1,(a18.1,(a19.1,(r1.1.1.1,(r1.1.1.2.1,(r1.1.1.2.2.1,(r1.1.1.2.2.2.1,(r1.1.1.2.2.2.2.1,(r1.1.1.2.2.2.2.2.1,(r1.1.1.2.2.2.2.2.2.1,(a27.1,(a28.1,(a29.1,(a30.1,(a31.1,(a31.2.1,((a32.1++(r1.1.2.1::[])),())))))))))))))))))))))))))))))))))),())))
   else none)
  else bif (eqI r0.1.1 4)then ((c251 ((a27.1,(a28.1,())),(a1.1,(a12.1,())))).bind fun r1=>
   bif (leN ((List.length a32.1)+(List.length (r1.1.2.1::[]))) (E.most .i))then (some (r1.1.2,((a0.1,(a1.1,(a2.1,(a3.1,(a4.1,(a5.1,(a6.1,(a7.1,(a8.1,(a9.1,(a10.1,(a11.1,(a12.1,(a13.1,(a14.1,(a15.1,(a16.1,(a17.1,(a18.1,(a19.1,(a20.1,(a21.1,(a22.1,(a23.1,(a24.1,(a25.1,(a26.1,(r1.1.1.1,(r1.1.1.2.1,(a29.1,(a30.1,(a31.1,(a31.2.1,((a32.1++(r1.1.2.1::[])),())))))))))))))))))))))))))))))))))),())))
   else none)
  else bif (eqI r0.1.1 7)then (some (((0:Int),()),(a0,())))
  else (c195 ((a0.1,()),((a2.1,(a3.1,())),y.2))).bind fun r1=>
  some (r1.1,(a0,()))
theorem s228 (c249:F249) (c250:F250) (c251:F251) (c188:F188) (c195:F195) (y):TE [g249 c249,g250 c250,g251 c251,g188 c188,g195 c195] Tryz.f228 i228 o228 y=m228 c249 c250 c251 c188 c195 y:=by kernel_rfl
noncomputable def r228:F228:=m228 r249 r250 r251 r188 r195
theorem k228:KO (g228 r228):=fk (s228 r249 r250 r251 r188 r195) ⟨k249,k250,k251,k188,k195,⟨⟩⟩ (by kernel_rfl)
abbrev i234:Ts:=[.p [.int .i64, .int .i64, .int .i64, .int .i64, .int .i64, .bool, .sl true .i, .sl false .i], .v (.int .i64), .v (.int .i64)]
abbrev o234:Ts:=[]
abbrev F234:=FT i234 o234
abbrev g234:=mkG 234 i234 o234
noncomputable def m234 (c258:F258) (c194:F194) (y:PTup i234):Option (PTup o234×BTup i234):=
  (c194 y.2.2).bind fun r0=>
  bif (eqI y.2.1 0)then (some ((),((y.1.1,(r0.1.1,y.1.2.2)),())))
  else bif (eqI y.2.1 1)then (some ((),((y.1.1,(y.1.2.1,(r0.1.1,y.1.2.2.2))),())))
  else bif (eqI y.2.1 3)then (some ((),((y.1.1,(y.1.2.1,(y.1.2.2.1,((Int.tmod r0.1.1 16),y.1.2.2.2.2)))),())))
  else bif (eqI y.2.1 4)then (bif (leI 0 y.1.2.2.2.1)then (bif (ltI y.1.2.2.2.1 (lenI y.1.2.2.2.2.2.2.1))then ((c258 ((y.1.1,(y.1.2.1,(y.1.2.2.1,(y.1.2.2.2.1,(y.1.2.2.2.2.1,(y.1.2.2.2.2.2.1,((List.set y.1.2.2.2.2.2.2.1 (Int.toNat y.1.2.2.2.1) (Int.tmod r0.1.1 64)),y.1.2.2.2.2.2.2.2))))))),())).bind fun r1=>
     some ((),((r1.2.1.1,(r1.2.1.2.1,(r1.2.1.2.2.1,(r1.2.1.2.2.2.1,(r1.2.1.2.2.2.2.1,(r1.2.1.2.2.2.2.2.1,((List.set y.1.2.2.2.2.2.2.1 (Int.toNat y.1.2.2.2.1) (Int.tmod r0.1.1 64)),y.1.2.2.2.2.2.2.2))))))),())))
    else none)
   else none)
  else bif (eqI y.2.1 5)then (some ((),((y.1.1,(y.1.2.1,(y.1.2.2.1,(y.1.2.2.2.1,((Int.tmod r0.1.1 64),y.1.2.2.2.2.2))))),())))
  else some ((),(y.1,()))
theorem s234 (c258:F258) (c194:F194) (y):TE [g258 c258,g194 c194] Tryz.f234 i234 o234 y=m234 c258 c194 y:=by kernel_rfl
noncomputable def r234:F234:=m234 r258 r194
theorem k234:KO (g234 r234):=fk (s234 r258 r194) ⟨k258,k194,⟨⟩⟩ (by kernel_rfl)
abbrev i235:Ts:=[.a q8, .v (.int .i64), .v (.int .i64)]
abbrev o235:Ts:=[.a q8]
abbrev F235:=FT i235 o235
abbrev g235:=mkG 235 i235 o235
noncomputable def m235 (c97:F97) (c194:F194) (y:PTup i235):Option (PTup o235×BTup i235):=
  (c97 (y.1,())).bind fun r0=>
  bif (!r0.1.1)then (some ((y.1,()),()))
  else (c194 y.2.2).bind fun r1=>
  bif (eqI y.2.1 0)then (some (((y.1.1,(r1.1.1,y.1.2.2)),()),()))
  else bif (eqI y.2.1 1)then (some (((y.1.1,(y.1.2.1,(y.1.2.2.1,(y.1.2.2.2.1,((Int.tmod r1.1.1 32),y.1.2.2.2.2.2))))),()),()))
  else bif (eqI y.2.1 2)then (bif y.1.2.2.2.2.2.2.1 then (some (((y.1.1,(y.1.2.1,(y.1.2.2.1,(y.1.2.2.2.1,(y.1.2.2.2.2.1,((eqI (Int.tmod r1.1.1 2) (1:Int)),((eqI (Int.tmod r1.1.1 2) (1:Int)),()))))))),()),()))
   else some (((y.1.1,(y.1.2.1,(y.1.2.2.1,(y.1.2.2.2.1,(y.1.2.2.2.2.1,((eqI (Int.tmod r1.1.1 2) (1:Int)),(false,()))))))),()),()))
  else bif (eqI y.2.1 3)then (some (((y.1.1,(y.1.2.1,(y.1.2.2.1,(y.1.2.2.2.1,(y.1.2.2.2.2.1,(y.1.2.2.2.2.2.1,(false,()))))))),()),()))
  else some ((y.1,()),())
theorem s235 (c97:F97) (c194:F194) (y):TE [g97 c97,g194 c194] Tryz.f235 i235 o235 y=m235 c97 c194 y:=by kernel_rfl
noncomputable def r235:F235:=m235 r97 r194
theorem k235:KO (g235 r235):=fk (s235 r97 r194) ⟨k97,k194,⟨⟩⟩ (by kernel_rfl)
abbrev i252:Ts:=[.a [.bool, .int .i64], .v (.sl false .i), .v (.int .i64), .v (.int .i64)]
abbrev o252:Ts:=[.a [.bool, .int .i64]]
abbrev F252:=FT i252 o252
abbrev g252:=mkG 252 i252 o252
noncomputable def m252 (c265:F265) (y:PTup i252):Option (PTup o252×BTup i252):=
  bif (eqI (bAnd Go.IntKind.i64 y.2.2.2.1 (1:Int)) (1:Int))then ((c265 (y.2.1,(y.2.2.1,()))).bind fun r0=>
   some ((((eqI (bAnd Go.IntKind.i64 y.2.2.2.1 (1:Int)) (1:Int)),r0.1),()),()))
  else bif y.1.1 then ((c265 (y.2.1,(y.2.2.1,()))).bind fun r0=>
   some ((((eqI (bAnd Go.IntKind.i64 y.2.2.2.1 (1:Int)) (1:Int)),r0.1),()),()))
  else some ((((eqI (bAnd Go.IntKind.i64 y.2.2.2.1 (1:Int)) (1:Int)),y.1.2),()),())
theorem s252 (c265:F265) (y):TE [g265 c265] Tryz.f252 i252 o252 y=m252 c265 y:=by kernel_rfl
noncomputable def r252:F252:=m252 r265
theorem k252:KO (g252 r252):=fk (s252 r265) ⟨k265,⟨⟩⟩ (by kernel_rfl)
abbrev i253:Ts:=[.p q1, .a q0, .v (.int .i64), .v (.int .i64)]
abbrev o253:Ts:=[]
abbrev R253:=Option (PTup o253×BTup i253)
abbrev F253:=PTup i253→R253
abbrev g253:=mkG 253 i253 o253
noncomputable def m253 (c194:F194) (c188:F188) (y:PTup i253):R253:=
  let X0:R253:=(c194 y.2.2.2).bind fun r1=>bif (neI (lenI y.2.1.1) 0)then (some ((),((y.1.1,((Int.tmod r1.1.1 (lenI y.2.1.1)),())),())))else none;(c188 (y.2.2.1,())).bind fun r0=>bif (eqI r0.1.1 1)then ((c194 y.2.2.2).bind fun r1=>bif (leI 0 r0.1.2.1)then (bif (ltI r0.1.2.1 (lenI y.1.1))then (some ((),(((List.set y.1.1 (Int.toNat r0.1.2.1) r1.1.1),y.1.2),())))else none)else none)else bif (eqI r0.1.1 5)then (bif (eqI r0.1.1 5)then X0 else some ((),(y.1,())))else bif (eqI r0.1.1 6)then X0 else some ((),(y.1,()))
theorem s253 (c194:F194) (c188:F188) (y):TE [g194 c194,g188 c188] Tryz.f253 i253 o253 y=m253 c194 c188 y:=by kernel_rfl
noncomputable def r253:F253:=m253 r194 r188
theorem k253:KO (g253 r253):=fk (s253 r194 r188) ⟨k194,k188,⟨⟩⟩ (by kernel_rfl)
abbrev i229:Ts:=[.p [.sl false .n, .sl false .i, .sl true .i, .int .i64, .int .i64, .int .i64, .int .i64, .int .i64, .bool, .bool, .bool, .bool, .int .i64, .int .i64, .int .i64, .int .i64, .int .i64, .bool, .sl true .i, .sl false .i, .int .i64, .int .i64, .int .i64, .int .i64, .int .i64, .bool, .bool, .bool, .int .i64, .bool, .int .i64, .sl false .n, .sl false .i, .sl false .i], .v (.int .i64), .v (.int .i64)]
abbrev o229:Ts:=[]
abbrev R229:=Option (PTup o229×BTup i229)
abbrev F229:=PTup i229→R229
abbrev g229:=mkG 229 i229 o229
noncomputable def m229 (c253:F253) (c234:F234) (c235:F235) (c252:F252) (c188:F188) (y:PTup i229):R229:=
  let a0:=y.1;let a1:=a0.2;let a2:=a1.2;let a3:=a2.2;let a4:=a3.2;let a5:=a4.2;let a6:=a5.2;let a7:=a6.2;let a8:=a7.2;let a9:=a8.2;let a10:=a9.2;let a11:=a10.2;let a12:=a11.2;let a13:=a12.2;let a14:=a13.2;let a15:=a14.2;let a16:=a15.2;let a17:=a16.2;let a18:=a17.2;let a19:=a18.2;let a20:=a19.2;let a21:=a20.2;let a22:=a21.2;let a23:=a22.2;let a24:=a23.2;let a25:=a24.2.2;let X0:R229:=(c253 ((a2.1,(a3.1,())),((a0.1,()),y.2))).bind fun r1=>some ((),((a0.1,(a1.1,(r1.2.1.1,(r1.2.1.2.1,a4)))),()));(c188 (y.2.1,())).bind fun r0=>bif (eqI r0.1.1 2)then ((c234 ((a12.1,(a13.1,(a14.1,(a15.1,(a16.1,(a17.1,(a18.1,(a19.1,())))))))),(r0.1.2.1,y.2.2))).bind fun r1=>some ((),((a0.1,(a1.1,(a2.1,(a3.1,(a4.1,(a5.1,(a6.1,(a7.1,(a8.1,(a9.1,(a10.1,(a11.1,(r1.2.1.1,(r1.2.1.2.1,(r1.2.1.2.2.1,(r1.2.1.2.2.2.1,(r1.2.1.2.2.2.2.1,(r1.2.1.2.2.2.2.2.1,(r1.2.1.2.2.2.2.2.2.1,a19))))))))))))))))))),())))else bif (eqI r0.1.1 3)then ((c235 ((a20.1,(a21.1,(a22.1,(a23.1,(a24.1,(a24.2.1,(a25.1,()))))))),(r0.1.2.1,y.2.2))).bind fun r1=>some ((),((a0.1,(a1.1,(a2.1,(a3.1,(a4.1,(a5.1,(a6.1,(a7.1,(a8.1,(a9.1,(a10.1,(a11.1,(a12.1,(a13.1,(a14.1,(a15.1,(a16.1,(a17.1,(a18.1,(a19.1,(r1.1.1.1,(r1.1.1.2.1,(r1.1.1.2.2.1,(r1.1.1.2.2.2.1,(r1.1.1.2.2.2.2.1,(r1.1.1.2.2.2.2.2.1,(r1.1.1.2.2.2.2.2.2.1,a25.2))))))))))))))))))))))))))),())))else bif (eqI r0.1.1 4)then ((c252 ((a25.2.1,(a25.2.2.1,())),(a1.1,(a12.1,y.2.2)))).bind fun r1=>some ((),((a0.1,(a1.1,(a2.1,(a3.1,(a4.1,(a5.1,(a6.1,(a7.1,(a8.1,(a9.1,(a10.1,(a11.1,(a12.1,(a13.1,(a14.1,(a15.1,(a16.1,(a17.1,(a18.1,(a19.1,(a20.1,(a21.1,(a22.1,(a23.1,(a24.1,(a24.2.1,(a25.1,(r1.1.1.1,(r1.1.1.2.1,a25.2.2.2))))))))))))))))))))))))))))),())))else bif (eqI r0.1.1 1)then (bif (eqI r0.1.1 1)then X0 else some ((),(a0,())))else bif (eqI r0.1.1 5)then (bif (eqI r0.1.1 5)then X0 else some ((),(a0,())))else bif (eqI r0.1.1 6)then X0 else some ((),(a0,()))
theorem s229 (c253:F253) (c234:F234) (c235:F235) (c252:F252) (c188:F188) (y):TE [g253 c253,g234 c234,g235 c235,g252 c252,g188 c188] Tryz.f229 i229 o229 y=m229 c253 c234 c235 c252 c188 y:=by kernel_rfl
noncomputable def r229:F229:=m229 r253 r234 r235 r252 r188
theorem k229:KO (g229 r229):=fk (s229 r253 r234 r235 r252 r188) ⟨k253,k234,k235,k252,k188,⟨⟩⟩ (by kernel_rfl)
abbrev i269:Ts:=[.v (.int .i64)]
abbrev o269:Ts:=[.v (.bool), .v (.bool)]
abbrev F269:=FT i269 o269
abbrev g269:=mkG 269 i269 o269
noncomputable def m269 (c194:F194) (y:PTup i269):Option (PTup o269×BTup i269):=
  (c194 y).bind fun r0=>
  (c194 y).bind fun r1=>
  some (((eqI r0.1.1 0),((ltI 127 r1.1.1),())),())
theorem s269 (c194:F194) (y):TE [g194 c194] Tryz.f269 i269 o269 y=m269 c194 y:=by kernel_rfl
noncomputable def r269:F269:=m269 r194
theorem k269:KO (g269 r269):=fk (s269 r194) ⟨k194,⟨⟩⟩ (by kernel_rfl)
abbrev i266:Ts:=[.a q3, .v (.int .i64)]
abbrev o266:Ts:=[.a q3]
abbrev F266:=FT i266 o266
abbrev g266:=mkG 266 i266 o266
noncomputable def m266 (c194:F194) (c269:F269) (y:PTup i266):Option (PTup o266×BTup i266):=
  (c194 y.2).bind fun r0=>
  (c269 y.2).bind fun r1=>
  some (((r0.1.1,(y.1.2.1,(y.1.2.2.1,(y.1.2.2.2.1,(r1.1.1,(r1.1.2.1,y.1.2.2.2.2.2.2)))))),()),())
theorem s266 (c194:F194) (c269:F269) (y):TE [g194 c194,g269 c269] Tryz.f266 i266 o266 y=m266 c194 c269 y:=by kernel_rfl
noncomputable def r266:F266:=m266 r194 r269
theorem k266:KO (g266 r266):=fk (s266 r194 r269) ⟨k194,k269,⟨⟩⟩ (by kernel_rfl)
abbrev i267:Ts:=[.v (.int .i64), .v (.int .i64), .v (.bool)]
abbrev o267:Ts:=[.v (.int .i64), .v (.bool)]
abbrev F267:=FT i267 o267
abbrev g267:=mkG 267 i267 o267
noncomputable def m267 (c194:F194) (c264:F264) (y:PTup i267):Option (PTup o267×BTup i267):=
  (c194 (y.1,())).bind fun r0=>
  (c194 (y.2.1,())).bind fun r1=>
  (c264 y.2.2).bind fun r2=>
  (c194 ((wI ((wI (r0.1.1+r1.1.1))+r2.1.1)),())).bind fun r3=>
  some ((r3.1.1,((ltI 255 (wI ((wI (r0.1.1+r1.1.1))+r2.1.1))),())),())
theorem s267 (c194:F194) (c264:F264) (y):TE [g194 c194,g264 c264] Tryz.f267 i267 o267 y=m267 c194 c264 y:=by kernel_rfl
noncomputable def r267:F267:=m267 r194 r264
theorem k267:KO (g267 r267):=fk (s267 r194 r264) ⟨k194,k264,⟨⟩⟩ (by kernel_rfl)
abbrev i268:Ts:=[.v (.int .i64), .v (.int .i64), .v (.bool)]
abbrev o268:Ts:=[.v (.int .i64), .v (.bool)]
abbrev F268:=FT i268 o268
abbrev g268:=mkG 268 i268 o268
noncomputable def m268 (c194:F194) (c264:F264) (y:PTup i268):Option (PTup o268×BTup i268):=
  (c194 (y.1,())).bind fun r0=>
  (c194 (y.2.1,())).bind fun r1=>
  (c264 ((!y.2.2.1),())).bind fun r2=>
  (c194 ((wI ((wI (r0.1.1-r1.1.1))-r2.1.1)),())).bind fun r3=>
  some ((r3.1.1,((leI 0 (wI ((wI (r0.1.1-r1.1.1))-r2.1.1))),())),())
theorem s268 (c194:F194) (c264:F264) (y):TE [g194 c194,g264 c264] Tryz.f268 i268 o268 y=m268 c194 c264 y:=by kernel_rfl
noncomputable def r268:F268:=m268 r194 r264
theorem k268:KO (g268 r268):=fk (s268 r194 r264) ⟨k194,k264,⟨⟩⟩ (by kernel_rfl)
abbrev i254:Ts:=[.p q3, .a q15, .v (.int .i64)]
abbrev o254:Ts:=[.v (.bool)]
abbrev R254:=Option (PTup o254×BTup i254)
abbrev F254:=PTup i254→R254
abbrev g254:=mkG 254 i254 o254
noncomputable def m254 (c267:F267) (c266:F266) (c269:F269) (c268:F268) (y:PTup i254):R254:=
  let a0:=y.1;let a1:=y.2;let a2:=a0.1;let a3:=a0.2;let a4:=a1.1;let a5:=a3.2;let a6:=a4.1;let a7:=a4.2;let a8:=a5.2;let a9:=a7.1;let a10:=a8.2.2;let a11:=a10.2.1;let X0:R254:=bif (eqI a6 4)then (bif (eqI a6 4)then (bif (eqI a6 29)then ((c267 (a2,(a1.2.1,(a11,())))).bind fun r0=>(c266 (a0,(r0.1.1,()))).bind fun r1=>some ((true,()),((r1.1.1.1,(r1.1.1.2.1,(r1.1.1.2.2.1,(r1.1.1.2.2.2.1,(r1.1.1.2.2.2.2.1,(r1.1.1.2.2.2.2.2.1,(r0.1.2.1,r1.1.1.2.2.2.2.2.2.2))))))),())))else (c267 (a2,(a9,(a11,())))).bind fun r0=>(c266 (a0,(r0.1.1,()))).bind fun r1=>some ((true,()),((r1.1.1.1,(r1.1.1.2.1,(r1.1.1.2.2.1,(r1.1.1.2.2.2.1,(r1.1.1.2.2.2.2.1,(r1.1.1.2.2.2.2.2.1,(r0.1.2.1,r1.1.1.2.2.2.2.2.2.2))))))),())))else bif (eqI a6 5)then ((c268 (a2,(a9,(a11,())))).bind fun r0=>(c266 (a0,(r0.1.1,()))).bind fun r1=>some ((true,()),((r1.1.1.1,(r1.1.1.2.1,(r1.1.1.2.2.1,(r1.1.1.2.2.2.1,(r1.1.1.2.2.2.2.1,(r1.1.1.2.2.2.2.2.1,(r0.1.2.1,r1.1.1.2.2.2.2.2.2.2))))))),())))else bif (eqI a6 6)then ((c266 (a0,((bAnd Go.IntKind.i64 a2 a9),()))).bind fun r0=>some ((true,()),(r0.1.1,())))else bif (eqI a6 7)then ((c266 (a0,((bOr Go.IntKind.i64 a2 a9),()))).bind fun r0=>some ((true,()),(r0.1.1,())))else bif (eqI a6 8)then ((c266 (a0,((bXor Go.IntKind.i64 a2 a9),()))).bind fun r0=>some ((true,()),(r0.1.1,())))else bif (eqI a6 9)then ((c268 (a2,(a9,(true,())))).bind fun r0=>(c269 (r0.1.1,())).bind fun r1=>some ((true,()),((a2,(a3.1,(a5.1,(a8.1,(r1.1.1,(r1.1.2.1,(r0.1.2.1,a10.2.2))))))),())))else some ((false,()),(a0,())))else bif (eqI a6 29)then (bif (eqI a6 29)then ((c267 (a2,(a1.2.1,(a11,())))).bind fun r0=>(c266 (a0,(r0.1.1,()))).bind fun r1=>some ((true,()),((r1.1.1.1,(r1.1.1.2.1,(r1.1.1.2.2.1,(r1.1.1.2.2.2.1,(r1.1.1.2.2.2.2.1,(r1.1.1.2.2.2.2.2.1,(r0.1.2.1,r1.1.1.2.2.2.2.2.2.2))))))),())))else (c267 (a2,(a9,(a11,())))).bind fun r0=>(c266 (a0,(r0.1.1,()))).bind fun r1=>some ((true,()),((r1.1.1.1,(r1.1.1.2.1,(r1.1.1.2.2.1,(r1.1.1.2.2.2.1,(r1.1.1.2.2.2.2.1,(r1.1.1.2.2.2.2.2.1,(r0.1.2.1,r1.1.1.2.2.2.2.2.2.2))))))),())))else bif (eqI a6 5)then ((c268 (a2,(a9,(a11,())))).bind fun r0=>(c266 (a0,(r0.1.1,()))).bind fun r1=>some ((true,()),((r1.1.1.1,(r1.1.1.2.1,(r1.1.1.2.2.1,(r1.1.1.2.2.2.1,(r1.1.1.2.2.2.2.1,(r1.1.1.2.2.2.2.2.1,(r0.1.2.1,r1.1.1.2.2.2.2.2.2.2))))))),())))else bif (eqI a6 6)then ((c266 (a0,((bAnd Go.IntKind.i64 a2 a9),()))).bind fun r0=>some ((true,()),(r0.1.1,())))else bif (eqI a6 7)then ((c266 (a0,((bOr Go.IntKind.i64 a2 a9),()))).bind fun r0=>some ((true,()),(r0.1.1,())))else bif (eqI a6 8)then ((c266 (a0,((bXor Go.IntKind.i64 a2 a9),()))).bind fun r0=>some ((true,()),(r0.1.1,())))else bif (eqI a6 9)then ((c268 (a2,(a9,(true,())))).bind fun r0=>(c269 (r0.1.1,())).bind fun r1=>some ((true,()),((a2,(a3.1,(a5.1,(a8.1,(r1.1.1,(r1.1.2.1,(r0.1.2.1,a10.2.2))))))),())))else some ((false,()),(a0,()));bif (eqI a6 1)then ((c266 (a0,a7)).bind fun r0=>some ((true,()),(r0.1.1,())))else bif (eqI a6 2)then (bif (eqI a6 2)then ((c266 (a0,a1.2)).bind fun r0=>some ((true,()),(r0.1.1,())))else X0)else bif (eqI a6 14)then ((c266 (a0,a1.2)).bind fun r0=>some ((true,()),(r0.1.1,())))else X0
theorem s254 (c267:F267) (c266:F266) (c269:F269) (c268:F268) (y):TE [g267 c267,g266 c266,g269 c269,g268 c268] Tryz.f254 i254 o254 y=m254 c267 c266 c269 c268 y:=by kernel_rfl
noncomputable def r254:F254:=m254 r267 r266 r269 r268
theorem k254:KO (g254 r254):=fk (s254 r267 r266 r269 r268) ⟨k267,k266,k269,k268,⟨⟩⟩ (by kernel_rfl)
abbrev i270:Ts:=[.a q3, .v (.int .i64)]
abbrev o270:Ts:=[.a q3]
abbrev F270:=FT i270 o270
abbrev g270:=mkG 270 i270 o270
noncomputable def m270 (c194:F194) (c269:F269) (y:PTup i270):Option (PTup o270×BTup i270):=
  (c194 y.2).bind fun r0=>
  (c269 y.2).bind fun r1=>
  some (((y.1.1,(r0.1.1,(y.1.2.2.1,(y.1.2.2.2.1,(r1.1.1,(r1.1.2.1,y.1.2.2.2.2.2.2)))))),()),())
theorem s270 (c194:F194) (c269:F269) (y):TE [g194 c194,g269 c269] Tryz.f270 i270 o270 y=m270 c194 c269 y:=by kernel_rfl
noncomputable def r270:F270:=m270 r194 r269
theorem k270:KO (g270 r270):=fk (s270 r194 r269) ⟨k194,k269,⟨⟩⟩ (by kernel_rfl)
abbrev i255:Ts:=[.p q3, .a q15]
abbrev o255:Ts:=[.v (.bool)]
abbrev F255:=FT i255 o255
abbrev g255:=mkG 255 i255 o255
noncomputable def m255 (c266:F266) (c270:F270) (y:PTup i255):Option (PTup o255×BTup i255):=
  bif (eqI y.2.1.1 10)then ((c270 (y.1,(y.1.1,()))).bind fun r0=>
   some ((true,()),(r0.1.1,())))
  else bif (eqI y.2.1.1 11)then ((c266 (y.1,(y.1.2.1,()))).bind fun r0=>
   some ((true,()),(r0.1.1,())))
  else bif (eqI y.2.1.1 12)then ((c270 (y.1,((wI (y.1.2.1+1)),()))).bind fun r0=>
   some ((true,()),(r0.1.1,())))
  else bif (eqI y.2.1.1 13)then ((c270 (y.1,((wI (y.1.2.1-1)),()))).bind fun r0=>
   some ((true,()),(r0.1.1,())))
  else bif (eqI y.2.1.1 25)then (some ((true,()),((y.1.1,(y.1.2.1,(y.1.2.2.1,(y.1.2.2.2.1,(y.1.2.2.2.2.1,(y.1.2.2.2.2.2.1,(y.1.2.2.2.2.2.2.1,(true,())))))))),())))
  else bif (eqI y.2.1.1 26)then (some ((true,()),((y.1.1,(y.1.2.1,(y.1.2.2.1,(y.1.2.2.2.1,(y.1.2.2.2.2.1,(y.1.2.2.2.2.2.1,(y.1.2.2.2.2.2.2.1,(false,())))))))),())))
  else bif (eqI y.2.1.1 27)then (some ((true,()),((y.1.1,(y.1.2.1,(y.1.2.2.1,(y.1.2.2.2.1,(y.1.2.2.2.2.1,(y.1.2.2.2.2.2.1,(true,y.1.2.2.2.2.2.2.2))))))),())))
  else bif (eqI y.2.1.1 28)then (some ((true,()),((y.1.1,(y.1.2.1,(y.1.2.2.1,(y.1.2.2.2.1,(y.1.2.2.2.2.1,(y.1.2.2.2.2.2.1,(false,y.1.2.2.2.2.2.2.2))))))),())))
  else some ((false,()),(y.1,()))
theorem s255 (c266:F266) (c270:F270) (y):TE [g266 c266,g270 c270] Tryz.f255 i255 o255 y=m255 c266 c270 y:=by kernel_rfl
noncomputable def r255:F255:=m255 r266 r270
theorem k255:KO (g255 r255):=fk (s255 r266 r270) ⟨k266,k270,⟨⟩⟩ (by kernel_rfl)
abbrev i272:Ts:=[.p q2, .p q3]
abbrev o272:Ts:=[.v (.int .i64)]
abbrev F272:=FT i272 o272
abbrev g272:=mkG 272 i272 o272
noncomputable def m272 (c194:F194) (y:PTup i272):Option (PTup o272×BTup i272):=
  bif (neI (lenI y.1.1) 512)then (some (((0:Int),()),(y.1,(y.2.1,()))))
  else (c194 ((wI (y.2.1.2.2.1+1)),())).bind fun r0=>
  bif (leI 0 (wI ((256:Int)+r0.1.1)))then (bif (ltI (wI ((256:Int)+r0.1.1)) (lenI y.1.1))then (some (((rdE .i y.1.1 (wI ((256:Int)+r0.1.1))),()),(y.1,((y.2.1.1,(y.2.1.2.1,(r0.1.1,y.2.1.2.2.2))),()))))
   else none)
  else none
theorem s272 (c194:F194) (y):TE [g194 c194] Tryz.f272 i272 o272 y=m272 c194 y:=by kernel_rfl
noncomputable def r272:F272:=m272 r194
theorem k272:KO (g272 r272):=fk (s272 r194) ⟨k194,⟨⟩⟩ (by kernel_rfl)
abbrev i271:Ts:=[.p q2, .p q3]
abbrev o271:Ts:=[]
abbrev F271:=FT i271 o271
abbrev g271:=mkG 271 i271 o271
noncomputable def m271 (c272:F272) (c159:F159) (y:PTup i271):Option (PTup o271×BTup i271):=
  (c272 (y.1,(y.2.1,()))).bind fun r0=>
  (c272 ((y.1.1,r0.2.1.2),(r0.2.2.1,()))).bind fun r1=>
  (c159 (r0.1.1,r1.1)).bind fun r2=>
  some ((),((y.1.1,r1.2.1.2),((r1.2.2.1.1,(r1.2.2.1.2.1,(r1.2.2.1.2.2.1,(r2.1.1,r1.2.2.1.2.2.2.2)))),())))
theorem s271 (c272:F272) (c159:F159) (y):TE [g272 c272,g159 c159] Tryz.f271 i271 o271 y=m271 c272 c159 y:=by kernel_rfl
noncomputable def r271:F271:=m271 r272 r159
theorem k271:KO (g271 r271):=fk (s271 r272 r159) ⟨k272,k159,⟨⟩⟩ (by kernel_rfl)
abbrev i273:Ts:=[.a q3, .v (.int .i64)]
abbrev o273:Ts:=[.a q3]
abbrev F273:=FT i273 o273
abbrev g273:=mkG 273 i273 o273
noncomputable def m273 (y:PTup i273):Option (PTup o273×BTup i273):=
  some (((y.1.1,(y.1.2.1,(y.1.2.2.1,(y.1.2.2.2.1,((neI (bAnd Go.IntKind.i64 y.2.1 (2:Int)) (0:Int)),((neI (bAnd Go.IntKind.i64 y.2.1 (128:Int)) (0:Int)),((neI (bAnd Go.IntKind.i64 y.2.1 (1:Int)) (0:Int)),((neI (bAnd Go.IntKind.i64 y.2.1 (4:Int)) (0:Int)),())))))))),()),())
theorem s273 (y):TE [] Tryz.f273 i273 o273 y=m273 y:=by kernel_rfl
noncomputable def r273:F273:=m273
theorem k273:KO (g273 r273):=fk (s273) trivial (by kernel_rfl)
abbrev i256:Ts:=[.p q1, .p q3, .a q15]
abbrev o256:Ts:=[]
abbrev R256:=Option (PTup o256×BTup i256)
abbrev F256:=PTup i256→R256
abbrev g256:=mkG 256 i256 o256
noncomputable def m256 (c271:F271) (c272:F272) (c247:F247) (c246:F246) (c216:F216) (c266:F266) (c273:F273) (y:PTup i256):R256:=
  (c216 y.2.2.1.2).bind fun r0=>let X0:R256:=some ((),(y.1,((y.2.1.1,(y.2.1.2.1,(y.2.1.2.2.1,(r0.1.1,y.2.1.2.2.2.2)))),())));bif (eqI y.2.2.1.1 16)then (bif (!y.2.1.2.2.2.2.1)then X0 else some ((),(y.1,(y.2.1,()))))else bif (eqI y.2.2.1.1 17)then (bif y.2.1.2.2.2.2.1 then X0 else some ((),(y.1,(y.2.1,()))))else bif (eqI y.2.2.1.1 18)then (bif y.2.1.2.2.2.2.2.2.1 then X0 else some ((),(y.1,(y.2.1,()))))else bif (eqI y.2.2.1.1 19)then X0 else bif (eqI y.2.2.1.1 20)then ((c246 (y.1,(y.2.1,()))).bind fun r1=>some ((),(r1.2.1,((r1.2.2.1.1,(r1.2.2.1.2.1,(r1.2.2.1.2.2.1,(r0.1.1,r1.2.2.1.2.2.2.2)))),()))))else bif (eqI y.2.2.1.1 21)then ((c271 (y.1,(y.2.1,()))).bind fun r1=>some ((),((y.1.1,r1.2.1.2),(r1.2.2.1,()))))else bif (eqI y.2.2.1.1 22)then ((c247 (y.1,(y.2.1,(y.2.1.1,())))).bind fun r1=>some ((),(r1.2.1,(r1.2.2.1,()))))else bif (eqI y.2.2.1.1 23)then ((c272 (y.1,(y.2.1,()))).bind fun r1=>(c266 (r1.2.2.1,r1.1)).bind fun r2=>some ((),((y.1.1,r1.2.1.2),(r2.1.1,()))))else bif (eqI y.2.2.1.1 24)then ((c272 (y.1,(y.2.1,()))).bind fun r1=>(c273 (r1.2.2.1,r1.1)).bind fun r2=>(c271 ((y.1.1,r1.2.1.2),(r2.1.1,()))).bind fun r3=>some ((),((y.1.1,r3.2.1.2),(r3.2.2.1,()))))else some ((),(y.1,(y.2.1,())))
theorem s256 (c271:F271) (c272:F272) (c247:F247) (c246:F246) (c216:F216) (c266:F266) (c273:F273) (y):TE [g271 c271,g272 c272,g247 c247,g246 c246,g216 c216,g266 c266,g273 c273] Tryz.f256 i256 o256 y=m256 c271 c272 c247 c246 c216 c266 c273 y:=by kernel_rfl
noncomputable def r256:F256:=m256 r271 r272 r247 r246 r216 r266 r273
theorem k256:KO (g256 r256):=fk (s256 r271 r272 r247 r246 r216 r266 r273) ⟨k271,k272,k247,k246,k216,k266,k273,⟨⟩⟩ (by kernel_rfl)
abbrev i230:Ts:=[.p q1, .p q3, .a q15, .v (.int .i64)]
abbrev o230:Ts:=[]
abbrev F230:=FT i230 o230
abbrev g230:=mkG 230 i230 o230
noncomputable def m230 (c254:F254) (c255:F255) (c256:F256) (c216:F216) (c194:F194) (c91:F91) (y:PTup i230):Option (PTup o230×BTup i230):=
  (c91 (y.2.2.1.1,())).bind fun r0=>
  (c216 ((wI (y.2.1.2.2.2.1+r0.1.1)),())).bind fun r1=>
  (c194 y.2.2.2).bind fun r2=>
  (c254 ((y.2.1.1,(y.2.1.2.1,(y.2.1.2.2.1,(r1.1.1,y.2.1.2.2.2.2)))),(y.2.2.1,r2.1))).bind fun r3=>
  bif (!r3.1.1)then ((c255 (r3.2.1,(y.2.2.1,()))).bind fun r4=>
   bif (!r4.1.1)then ((c256 (y.1,(r4.2.1,(y.2.2.1,())))).bind fun r5=>
    some ((),(r5.2.1,(r5.2.2.1,()))))
   else some ((),(y.1,(r4.2.1,()))))
  else some ((),(y.1,(r3.2.1,())))
theorem s230 (c254:F254) (c255:F255) (c256:F256) (c216:F216) (c194:F194) (c91:F91) (y):TE [g254 c254,g255 c255,g256 c256,g216 c216,g194 c194,g91 c91] Tryz.f230 i230 o230 y=m230 c254 c255 c256 c216 c194 c91 y:=by kernel_rfl
noncomputable def r230:F230:=m230 r254 r255 r256 r216 r194 r91
theorem k230:KO (g230 r230):=fk (s230 r254 r255 r256 r216 r194 r91) ⟨k254,k255,k256,k216,k194,k91,⟨⟩⟩ (by kernel_rfl)
abbrev i209:Ts:=[.p [.sl false .n, .sl false .i, .sl true .i, .int .i64, .int .i64, .int .i64, .int .i64, .int .i64, .bool, .bool, .bool, .bool, .int .i64, .int .i64, .int .i64, .int .i64, .int .i64, .bool, .sl true .i, .sl false .i, .int .i64, .int .i64, .int .i64, .int .i64, .int .i64, .bool, .bool, .bool, .int .i64, .bool, .int .i64, .sl false .n, .sl false .i, .sl true .i], .a q15]
abbrev o209:Ts:=[]
abbrev F209:=FT i209 o209
abbrev g209:=mkG 209 i209 o209
noncomputable def m209 (c228:F228) (c229:F229) (c230:F230) (c187:F187) (y:PTup i209):Option (PTup o209×BTup i209):=
  let a0:=y.1;let a1:=a0.2;let a2:=a1.2;let a3:=a2.2;let a4:=a3.2;let a5:=a4.2;let a6:=a5.2;let a7:=a6.2;let a8:=a7.2;let a9:=a8.2;let a10:=a9.2.2;let a11:=a10.2.2;let a12:=a11.2.2;let a13:=a12.2.2;let a14:=a13.2.2.2.2.2;let a15:=a14.2.2.2.2.2;(c187 (y.2.1,((a4.1,(a5.1,(a6.1,(a7.1,(a8.1,(a9.1,(a9.2.1,(a10.1,())))))))),()))).bind fun r0=>
  bif (eqI r0.1.1 1)then ((c228 (a0,(r0.1.2.1,()))).bind fun r1=>let d0:=r1.2;let d1:=d0.1;let d2:=d1.2;let d3:=d2.2;let d4:=d3.2;let d5:=d4.2;let d6:=d5.2;let d7:=d6.2;let d8:=d7.2;let d9:=d8.2;let d10:=d9.2;let d11:=d10.2;let d12:=d11.2;let d13:=d12.2;let d14:=d13.2;let d15:=d14.2;let d16:=d15.2;let d17:=d16.2;let d18:=d17.2;let d19:=d18.2;let d20:=d19.2;let d21:=d20.2;let d22:=d21.2;let d23:=d22.2;let d24:=d23.2.2;let d25:=d24.2.2;(c230 ((a2.1,(d4.1,())),((d5.1,(d6.1,(d7.1,(d8.1,(d9.1,(d10.1,(d11.1,(d12.1,())))))))),(y.2.1,r1.1)))).bind fun r2=>
   some ((),((a0.1,(a1.1,(r2.2.1.1,(r2.2.1.2.1,(r2.2.2.1.1,(r2.2.2.1.2.1,(r2.2.2.1.2.2.1,(r2.2.2.1.2.2.2.1,(r2.2.2.1.2.2.2.2.1,(r2.2.2.1.2.2.2.2.2.1,(r2.2.2.1.2.2.2.2.2.2.1,(r2.2.2.1.2.2.2.2.2.2.2.1,(d13.1,(d14.1,(d15.1,(d16.1,(d17.1,(d18.1,(a13.2.1,(a13.2.2.1,(d21.1,(d22.1,(d23.1,(d23.2.1,(d24.1,(d24.2.1,(d25.1,(d25.2.1,(d25.2.2.1,(d25.2.2.2.1,(d25.2.2.2.2.1,(a15.2.2.2.2.1,(a15.2.2.2.2.2.1,d25.2.2.2.2.2.2.2))))))))))))))))))))))))))))))))),())))
  else bif (eqI r0.1.1 2)then ((c229 (a0,r0.1.2)).bind fun r1=>let d0:=r1.2;let d1:=d0.1;let d2:=d1.2;let d3:=d2.2;let d4:=d3.2;let d5:=d4.2;let d6:=d5.2;let d7:=d6.2;let d8:=d7.2;let d9:=d8.2;let d10:=d9.2;let d11:=d10.2;let d12:=d11.2;let d13:=d12.2;let d14:=d13.2;let d15:=d14.2;let d16:=d15.2;let d17:=d16.2;let d18:=d17.2;let d19:=d18.2;let d20:=d19.2;let d21:=d20.2;let d22:=d21.2;let d23:=d22.2.2;let d24:=d23.2.2;(c230 ((d3.1,(d4.1,())),((d5.1,(d6.1,(d7.1,(d8.1,(d9.1,(d10.1,(d11.1,(d12.1,())))))))),(y.2.1,((0:Int),()))))).bind fun r2=>
   some ((),((a0.1,(a1.1,(r2.2.1.1,(r2.2.1.2.1,(r2.2.2.1.1,(r2.2.2.1.2.1,(r2.2.2.1.2.2.1,(r2.2.2.1.2.2.2.1,(r2.2.2.1.2.2.2.2.1,(r2.2.2.1.2.2.2.2.2.1,(r2.2.2.1.2.2.2.2.2.2.1,(r2.2.2.1.2.2.2.2.2.2.2.1,(d13.1,(d14.1,(d15.1,(d16.1,(d17.1,(d18.1,(d19.1,(a13.2.2.1,(d21.1,(d22.1,(d22.2.1,(d23.1,(d23.2.1,(d24.1,(d24.2.1,(d24.2.2.1,(d24.2.2.2.1,(d24.2.2.2.2.1,(d24.2.2.2.2.2.1,a15.2.2.2.2))))))))))))))))))))))))))))))),())))
  else (c230 ((a2.1,(a3.1,())),((a4.1,(a5.1,(a6.1,(a7.1,(a8.1,(a9.1,(a9.2.1,(a10.1,())))))))),(y.2.1,r0.1.2.2)))).bind fun r1=>
  some ((),((a0.1,(a1.1,(r1.2.1.1,(r1.2.1.2.1,(r1.2.2.1.1,(r1.2.2.1.2.1,(r1.2.2.1.2.2.1,(r1.2.2.1.2.2.2.1,(r1.2.2.1.2.2.2.2.1,(r1.2.2.1.2.2.2.2.2.1,(r1.2.2.1.2.2.2.2.2.2.1,(r1.2.2.1.2.2.2.2.2.2.2.1,a10.2)))))))))))),()))
theorem s209 (c228:F228) (c229:F229) (c230:F230) (c187:F187) (y):TE [g228 c228,g229 c229,g230 c230,g187 c187] Tryz.f209 i209 o209 y=m209 c228 c229 c230 c187 y:=by kernel_rfl
noncomputable def r209:F209:=m209 r228 r229 r230 r187
theorem k209:KO (g209 r209):=fk (s209 r228 r229 r230 r187) ⟨k228,k229,k230,k187,⟨⟩⟩ (by kernel_rfl)
abbrev i257:Ts:=[.r q5, .v (.int .i64)]
abbrev o257:Ts:=[.v (.int .i64)]
abbrev F257:=FT i257 o257
abbrev g257:=mkG 257 i257 o257
noncomputable def m257 (y:PTup i257):Option (PTup o257×BTup i257):=
  bif (leI 0 (Int.tmod (wI ((wI ((Int.tmod y.2.1 8)+y.1.2.2.1))+(wI (Int.tdiv y.2.1 8)))) (16:Int)))then (bif (ltI (Int.tmod (wI ((wI ((Int.tmod y.2.1 8)+y.1.2.2.1))+(wI (Int.tdiv y.2.1 8)))) (16:Int)) (lenI y.1.2.2.2.2.2.2.1))then (some (((bXor Go.IntKind.i64 (rdE .i y.1.2.2.2.2.2.2.1 (Int.tmod (wI ((wI ((Int.tmod y.2.1 8)+y.1.2.2.1))+(wI (Int.tdiv y.2.1 8)))) (16:Int))) y.1.2.2.2.2.1),()),()))
   else none)
  else none
theorem s257 (y):TE [] Tryz.f257 i257 o257 y=m257 y:=by kernel_rfl
noncomputable def r257:F257:=m257
theorem k257:KO (g257 r257):=fk (s257) trivial (by kernel_rfl)
abbrev i231:Ts:=[.p [.int .i64, .int .i64, .int .i64, .int .i64, .int .i64, .bool, .sl false .i, .sl true .i]]
abbrev o231:Ts:=[.v (.bool), .v (.sl true .i), .v (.bool)]
abbrev F231:=FT i231 o231
abbrev g231:=mkG 231 i231 o231
noncomputable def m231 (c257:F257) (y:PTup i231):Option (PTup o231×BTup i231):=
  bif (ltI (Int.tmod y.1.1 64) (48:Int))then ((c257 (((wI (y.1.1+1)),y.1.2),((Int.tmod y.1.1 64),()))).bind fun r0=>
   bif (leN ((List.length y.1.2.2.2.2.2.2.2.1)+(List.length (r0.1.1::[]))) (E.most .i))then (some ((false,([],(false,()))),(((wI (y.1.1+1)),(y.1.2.1,(y.1.2.2.1,(y.1.2.2.2.1,(y.1.2.2.2.2.1,(y.1.2.2.2.2.2.1,(y.1.2.2.2.2.2.2.1,((y.1.2.2.2.2.2.2.2.1++(r0.1.1::[])),())))))))),())))
   else none)
  else bif (eqI (Int.tmod y.1.1 64) (48:Int))then (some ((true,(y.1.2.2.2.2.2.2.2.1,((ltI 127 y.1.2.1),()))),(((wI (y.1.1+1)),(y.1.2.1,(y.1.2.2.1,(y.1.2.2.2.1,(y.1.2.2.2.2.1,(true,(y.1.2.2.2.2.2.2.1,([],())))))))),())))
  else bif (eqI (Int.tmod y.1.1 64) (63:Int))then (some ((false,([],(false,()))),(((wI (y.1.1+1)),(y.1.2.1,(y.1.2.2.1,(y.1.2.2.2.1,(y.1.2.2.2.2.1,(false,y.1.2.2.2.2.2.2)))))),())))
  else some ((false,([],(false,()))),(((wI (y.1.1+1)),y.1.2),()))
theorem s231 (c257:F257) (y):TE [g257 c257] Tryz.f231 i231 o231 y=m231 c257 y:=by kernel_rfl
noncomputable def r231:F231:=m231 r257
theorem k231:KO (g231 r231):=fk (s231 r257) ⟨k257,⟨⟩⟩ (by kernel_rfl)
abbrev i232:Ts:=[.p q8]
abbrev o232:Ts:=[.v (.int .i64), .v (.bool)]
abbrev R232:=Option (PTup o232×BTup i232)
abbrev F232:=PTup i232→R232
abbrev g232:=mkG 232 i232 o232
noncomputable def m232 (y:PTup i232):R232:=
  let a0:=y.1;let a1:=a0.1;let a2:=a0.2;let a3:=a2.1;let a4:=a2.2;let a5:=a4.1;let a6:=a4.2;let a7:=a6.1;let a8:=a6.2;let a9:=a8.1;let a10:=a8.2;let a11:=a10.1;let X0:R232:=bif (! (eqI (Int.tmod a1 16) (15:Int)))then (some (((0:Int),((eqI (Int.tmod a1 16) (15:Int)),())),(((wI (a1+1)),(a3,(a3,((wI ((1:Int)-a7)),a8)))),())))else bif (eqI a9 0)then (some (((0:Int),((eqI (Int.tmod a1 16) (15:Int)),())),(((wI (a1+1)),(a3,(a3,((wI ((1:Int)-a7)),a8)))),())))else some (((wI ((8:Int)*(wI ((1:Int)-a7)))),(true,())),(((wI (a1+1)),(a3,(a3,((wI ((1:Int)-a7)),a8)))),()));let X1:R232:=bif (! (eqI (Int.tmod a1 16) (15:Int)))then (some (((0:Int),((eqI (Int.tmod a1 16) (15:Int)),())),(((wI (a1+1)),(a3,((wI (a5-1)),a6))),())))else bif (eqI a9 0)then (some (((0:Int),((eqI (Int.tmod a1 16) (15:Int)),())),(((wI (a1+1)),(a3,((wI (a5-1)),a6))),())))else some (((wI ((8:Int)*a7)),(true,())),(((wI (a1+1)),(a3,((wI (a5-1)),a6))),()));let X2:R232:=bif (! (eqI (Int.tmod a1 16) (15:Int)))then (some (((0:Int),((eqI (Int.tmod a1 16) (15:Int)),())),(((wI (a1+1)),(a3,(a3,a6))),())))else bif (eqI a9 0)then (some (((0:Int),((eqI (Int.tmod a1 16) (15:Int)),())),(((wI (a1+1)),(a3,(a3,a6))),())))else some (((wI ((8:Int)*a7)),(true,())),(((wI (a1+1)),(a3,(a3,a6))),()));let X3:R232:=some (((0:Int),((eqI (Int.tmod a1 16) (15:Int)),())),(((wI (a1+1)),(a3,((wI (a5-1)),(a7,((wI (a9-1)),(a11,(a11,()))))))),()));let X4:R232:=some (((0:Int),((eqI (Int.tmod a1 16) (15:Int)),())),(((wI (a1+1)),(a3,(a3,((wI ((1:Int)-a7)),((wI (a9-1)),(a11,(a11,()))))))),()));let X5:R232:=some (((0:Int),((eqI (Int.tmod a1 16) (15:Int)),())),(((wI (a1+1)),(a3,((wI (a5-1)),(a7,((wI (a9-1)),(a11,(false,()))))))),()));let X6:R232:=some (((0:Int),((eqI (Int.tmod a1 16) (15:Int)),())),(((wI (a1+1)),(a3,((wI (a5-1)),(a7,((wI (a9-1)),(a11,(true,()))))))),()));let X7:R232:=some (((0:Int),((eqI (Int.tmod a1 16) (15:Int)),())),(((wI (a1+1)),(a3,(a3,((wI ((1:Int)-a7)),((wI (a9-1)),(a11,(false,()))))))),()));let X8:R232:=some (((0:Int),((eqI (Int.tmod a1 16) (15:Int)),())),(((wI (a1+1)),(a3,(a3,((wI ((1:Int)-a7)),((wI (a9-1)),(a11,(true,()))))))),()));let X9:R232:=some (((0:Int),((eqI (Int.tmod a1 16) (15:Int)),())),(((wI (a1+1)),(a3,(a3,(a7,((wI (a9-1)),(a11,(a11,()))))))),()));let X10:R232:=some (((0:Int),((eqI (Int.tmod a1 16) (15:Int)),())),(((wI (a1+1)),(a3,(a3,(a7,((wI (a9-1)),(a11,(false,()))))))),()));let X11:R232:=some (((0:Int),((eqI (Int.tmod a1 16) (15:Int)),())),(((wI (a1+1)),(a3,(a3,(a7,((wI (a9-1)),(a11,(true,()))))))),()));bif (eqI a5 0)then (bif (ltI 0 a9)then (bif (eqI (Int.tmod a1 32) (0:Int))then (bif (ltI 0 a9)then (bif a10.2.1 then (bif (! (eqI (Int.tmod a1 16) (15:Int)))then X8 else bif (eqI (wI (a9-1)) (0:Int))then X8 else some (((wI ((8:Int)*(wI ((1:Int)-a7)))),(true,())),(((wI (a1+1)),(a3,(a3,((wI ((1:Int)-a7)),((wI (a9-1)),(a11,(true,()))))))),())))else bif (eqI (wI (a9-1)) (0:Int))then (bif (! (eqI (Int.tmod a1 16) (15:Int)))then X4 else bif (eqI (wI (a9-1)) (0:Int))then X4 else some (((wI ((8:Int)*(wI ((1:Int)-a7)))),(true,())),(((wI (a1+1)),(a3,(a3,((wI ((1:Int)-a7)),((wI (a9-1)),(a11,(a11,()))))))),())))else bif (! (eqI (Int.tmod a1 16) (15:Int)))then X7 else bif (eqI (wI (a9-1)) (0:Int))then X7 else some (((wI ((8:Int)*(wI ((1:Int)-a7)))),(true,())),(((wI (a1+1)),(a3,(a3,((wI ((1:Int)-a7)),((wI (a9-1)),(a11,(false,()))))))),())))else X0)else X0)else bif (eqI (Int.tmod a1 32) (0:Int))then (bif (ltI 0 a9)then (bif a10.2.1 then (bif (! (eqI (Int.tmod a1 16) (15:Int)))then X11 else bif (eqI (wI (a9-1)) (0:Int))then X11 else some (((wI ((8:Int)*a7)),(true,())),(((wI (a1+1)),(a3,(a3,(a7,((wI (a9-1)),(a11,(true,()))))))),())))else bif (eqI (wI (a9-1)) (0:Int))then (bif (! (eqI (Int.tmod a1 16) (15:Int)))then X9 else bif (eqI (wI (a9-1)) (0:Int))then X9 else some (((wI ((8:Int)*a7)),(true,())),(((wI (a1+1)),(a3,(a3,(a7,((wI (a9-1)),(a11,(a11,()))))))),())))else bif (! (eqI (Int.tmod a1 16) (15:Int)))then X10 else bif (eqI (wI (a9-1)) (0:Int))then X10 else some (((wI ((8:Int)*a7)),(true,())),(((wI (a1+1)),(a3,(a3,(a7,((wI (a9-1)),(a11,(false,()))))))),())))else X2)else X2)else bif (eqI (Int.tmod a1 32) (0:Int))then (bif (ltI 0 a9)then (bif a10.2.1 then (bif (! (eqI (Int.tmod a1 16) (15:Int)))then X6 else bif (eqI (wI (a9-1)) (0:Int))then X6 else some (((wI ((8:Int)*a7)),(true,())),(((wI (a1+1)),(a3,((wI (a5-1)),(a7,((wI (a9-1)),(a11,(true,()))))))),())))else bif (eqI (wI (a9-1)) (0:Int))then (bif (! (eqI (Int.tmod a1 16) (15:Int)))then X3 else bif (eqI (wI (a9-1)) (0:Int))then X3 else some (((wI ((8:Int)*a7)),(true,())),(((wI (a1+1)),(a3,((wI (a5-1)),(a7,((wI (a9-1)),(a11,(a11,()))))))),())))else bif (! (eqI (Int.tmod a1 16) (15:Int)))then X5 else bif (eqI (wI (a9-1)) (0:Int))then X5 else some (((wI ((8:Int)*a7)),(true,())),(((wI (a1+1)),(a3,((wI (a5-1)),(a7,((wI (a9-1)),(a11,(false,()))))))),())))else X1)else X1
theorem s232 (y):TE [] Tryz.f232 i232 o232 y=m232 y:=by kernel_rfl
noncomputable def r232:F232:=m232
theorem k232:KO (g232 r232):=fk (s232) trivial (by kernel_rfl)
abbrev i210:Ts:=[.p q16]
abbrev o210:Ts:=[]
abbrev F210:=FT i210 o210
abbrev g210:=mkG 210 i210 o210
noncomputable def m210 (c232:F232) (c231:F231) (y:PTup i210):Option (PTup o210×BTup i210):=
  let a0:=y.1;let a1:=a0.2;let a2:=a1.2;let a3:=a2.2;let a4:=a3.2;let a5:=a4.2;let a6:=a5.2;let a7:=a6.2;let a8:=a7.2;let a9:=a8.2;let a10:=a9.2;let a11:=a10.2;let a12:=a11.2;let a13:=a12.2;let a14:=a13.2;let a15:=a14.2;let a16:=a15.2;let a17:=a16.2;let a18:=a17.2;let a19:=a18.2;let a20:=a19.2;let a21:=a20.2;let a22:=a21.2;let a23:=a22.2;let a24:=a23.2;let a25:=a24.2;let a26:=a25.2;let a27:=a26.2;let a28:=a27.2;let a29:=a28.2;let a30:=a29.2;let a31:=a30.2;let a32:=a31.2;(c231 ((a12.1,(a13.1,(a14.1,(a15.1,(a16.1,(a17.1,(a18.1,(a19.1,())))))))),())).bind fun r0=>let b0:=r0.1;let b1:=r0.2;let b2:=b0.2;let b3:=b1.1;let b4:=b3.2;let b5:=b4.2;let b6:=b5.2;let b7:=b6.2;let b8:=b7.2;let b9:=b8.2.2;bif b0.1 then (bif (leN ((List.length a31.1)+(List.length (b2.1::[]))) (E.most .n))then (bif a29.1 then ((c232 ((a20.1,(a21.1,(a22.1,(a23.1,(a24.1,(a25.1,(a26.1,()))))))),())).bind fun r1=>
     bif r1.1.2.1 then (bif (leN ((List.length a32.1)+(List.length (r1.1.1::[]))) (E.most .i))then (some ((),((a0.1,(a1.1,(a2.1,(a3.1,(a4.1,(a5.1,(a6.1,(a7.1,(a8.1,(a9.1,(a10.1,(a11.1,(b3.1,(b4.1,(b5.1,(b6.1,(b7.1,(b8.1,(a18.1,(b9.1,(r1.2.1.1,(r1.2.1.2.1,(r1.2.1.2.2.1,(r1.2.1.2.2.2.1,(r1.2.1.2.2.2.2.1,(r1.2.1.2.2.2.2.2.1,(r1.2.1.2.2.2.2.2.2.1,(a27.1,(a28.1,(true,(a30.1,((a31.1++(b2.1::[])),((a32.1++(r1.1.1::[])),a32.2))))))))))))))))))))))))))))))))),())))
      else none)
     else some ((),((a0.1,(a1.1,(a2.1,(a3.1,(a4.1,(a5.1,(a6.1,(a7.1,(a8.1,(a9.1,(a10.1,(a11.1,(b3.1,(b4.1,(b5.1,(b6.1,(b7.1,(b8.1,(a18.1,(b9.1,(r1.2.1.1,(r1.2.1.2.1,(r1.2.1.2.2.1,(r1.2.1.2.2.2.1,(r1.2.1.2.2.2.2.1,(r1.2.1.2.2.2.2.2.1,(r1.2.1.2.2.2.2.2.2.1,(a27.1,(a28.1,(true,(a30.1,((a31.1++(b2.1::[])),a32)))))))))))))))))))))))))))))))),())))
    else (c232 ((a20.1,(a21.1,(a22.1,(a23.1,(a24.1,(a25.1,(a26.1,()))))))),())).bind fun r1=>
    bif r1.1.2.1 then (bif (leN ((List.length a32.1)+(List.length (r1.1.1::[]))) (E.most .i))then (some ((),((a0.1,(a1.1,(a2.1,(a3.1,(a4.1,(a5.1,(a6.1,(a7.1,(a8.1,(a9.1,(a10.1,(a11.1,(b3.1,(b4.1,(b5.1,(b6.1,(b7.1,(b8.1,(a18.1,(b9.1,(r1.2.1.1,(r1.2.1.2.1,(r1.2.1.2.2.1,(r1.2.1.2.2.2.1,(r1.2.1.2.2.2.2.1,(r1.2.1.2.2.2.2.2.1,(r1.2.1.2.2.2.2.2.2.1,(a27.1,(a28.1,(b2.2.1,(a30.1,((a31.1++(b2.1::[])),((a32.1++(r1.1.1::[])),a32.2))))))))))))))))))))))))))))))))),())))
     else none)
    else some ((),((a0.1,(a1.1,(a2.1,(a3.1,(a4.1,(a5.1,(a6.1,(a7.1,(a8.1,(a9.1,(a10.1,(a11.1,(b3.1,(b4.1,(b5.1,(b6.1,(b7.1,(b8.1,(a18.1,(b9.1,(r1.2.1.1,(r1.2.1.2.1,(r1.2.1.2.2.1,(r1.2.1.2.2.2.1,(r1.2.1.2.2.2.2.1,(r1.2.1.2.2.2.2.2.1,(r1.2.1.2.2.2.2.2.2.1,(a27.1,(a28.1,(b2.2.1,(a30.1,((a31.1++(b2.1::[])),a32)))))))))))))))))))))))))))))))),())))
   else none)
  else bif a29.1 then ((c232 ((a20.1,(a21.1,(a22.1,(a23.1,(a24.1,(a25.1,(a26.1,()))))))),())).bind fun r1=>
   bif r1.1.2.1 then (bif (leN ((List.length a32.1)+(List.length (r1.1.1::[]))) (E.most .i))then (some ((),((a0.1,(a1.1,(a2.1,(a3.1,(a4.1,(a5.1,(a6.1,(a7.1,(a8.1,(a9.1,(a10.1,(a11.1,(b3.1,(b4.1,(b5.1,(b6.1,(b7.1,(b8.1,(a18.1,(b9.1,(r1.2.1.1,(r1.2.1.2.1,(r1.2.1.2.2.1,(r1.2.1.2.2.2.1,(r1.2.1.2.2.2.2.1,(r1.2.1.2.2.2.2.2.1,(r1.2.1.2.2.2.2.2.2.1,(a27.1,(a28.1,(true,(a30.1,(a31.1,((a32.1++(r1.1.1::[])),a32.2))))))))))))))))))))))))))))))))),())))
    else none)
   else some ((),((a0.1,(a1.1,(a2.1,(a3.1,(a4.1,(a5.1,(a6.1,(a7.1,(a8.1,(a9.1,(a10.1,(a11.1,(b3.1,(b4.1,(b5.1,(b6.1,(b7.1,(b8.1,(a18.1,(b9.1,(r1.2.1.1,(r1.2.1.2.1,(r1.2.1.2.2.1,(r1.2.1.2.2.2.1,(r1.2.1.2.2.2.2.1,(r1.2.1.2.2.2.2.2.1,(r1.2.1.2.2.2.2.2.2.1,(a27.1,(a28.1,(true,a30)))))))))))))))))))))))))))))),())))
  else (c232 ((a20.1,(a21.1,(a22.1,(a23.1,(a24.1,(a25.1,(a26.1,()))))))),())).bind fun r1=>
  bif r1.1.2.1 then (bif (leN ((List.length a32.1)+(List.length (r1.1.1::[]))) (E.most .i))then (some ((),((a0.1,(a1.1,(a2.1,(a3.1,(a4.1,(a5.1,(a6.1,(a7.1,(a8.1,(a9.1,(a10.1,(a11.1,(b3.1,(b4.1,(b5.1,(b6.1,(b7.1,(b8.1,(a18.1,(b9.1,(r1.2.1.1,(r1.2.1.2.1,(r1.2.1.2.2.1,(r1.2.1.2.2.2.1,(r1.2.1.2.2.2.2.1,(r1.2.1.2.2.2.2.2.1,(r1.2.1.2.2.2.2.2.2.1,(a27.1,(a28.1,(b2.2.1,(a30.1,(a31.1,((a32.1++(r1.1.1::[])),a32.2))))))))))))))))))))))))))))))))),())))
   else none)
  else some ((),((a0.1,(a1.1,(a2.1,(a3.1,(a4.1,(a5.1,(a6.1,(a7.1,(a8.1,(a9.1,(a10.1,(a11.1,(b3.1,(b4.1,(b5.1,(b6.1,(b7.1,(b8.1,(a18.1,(b9.1,(r1.2.1.1,(r1.2.1.2.1,(r1.2.1.2.2.1,(r1.2.1.2.2.2.1,(r1.2.1.2.2.2.2.1,(r1.2.1.2.2.2.2.2.1,(r1.2.1.2.2.2.2.2.2.1,(a27.1,(a28.1,(b2.2.1,a30)))))))))))))))))))))))))))))),()))
theorem s210 (c232:F232) (c231:F231) (y):TE [g232 c232,g231 c231] Tryz.f210 i210 o210 y=m210 c232 c231 y:=by kernel_rfl
noncomputable def r210:F210:=m210 r232 r231
theorem k210:KO (g210 r210):=fk (s210 r232 r231) ⟨k232,k231,⟨⟩⟩ (by kernel_rfl)
abbrev i174:Ts:=[.p q17]
abbrev o174:Ts:=[.v (.bool)]
abbrev R174:=Option (PTup o174×BTup i174)
abbrev F174:=PTup i174→R174
abbrev g174:=mkG 174 i174 o174
abbrev lc174_0:Ts:=[.v (.int .i64)]
abbrev lb174_0:Ts:=[.p q16]
abbrev lv174_0:Ts:=[.v (.int .i64)]
abbrev lr174_0:Ts:=[]
abbrev R174_0:=Option (Sum (PTup lv174_0) (PTup lr174_0)×BTup lb174_0)
abbrev B174_0:=PTup lb174_0→PTup lv174_0→R174_0
abbrev A174_0:=PTup lc174_0→B174_0
noncomputable def w174_0 (c208:F208) (c209:F209) (c210:F210) (c189:F189) (c186:F186) (again:B174_0) (x:PTup lc174_0) (y:PTup lb174_0) (z:PTup lv174_0):R174_0:=
  bif (ltI z.1 x.1)then ((c210 (y.1,())).bind fun r0=>let b0:=r0.2;let b1:=b0.1;let b2:=b1.2;let b3:=b2.2;let b4:=b3.2;let b5:=b4.2;let b6:=b5.2;let b7:=b6.2;let b8:=b7.2;let b9:=b8.2;let b10:=b9.2;let b11:=b10.2;let b12:=b11.2;let b13:=b12.2;let b14:=b13.2;let b15:=b14.2;let b16:=b15.2;let b17:=b16.2;let b18:=b17.2;let b19:=b18.2;let b20:=b19.2;let b21:=b20.2;let b22:=b21.2;let b23:=b22.2;let b24:=b23.2;let b25:=b24.2.2;let b26:=b25.2.2;again ((y.1.1,(y.1.2.1,(y.1.2.2.1,(b4.1,(b5.1,(b6.1,(b7.1,(b8.1,(b9.1,(b10.1,(b11.1,(b12.1,(b13.1,(b14.1,(b15.1,(b16.1,(b17.1,(b18.1,(y.1.2.2.2.2.2.2.2.2.2.2.2.2.2.2.2.2.2.2.1,(b20.1,(b21.1,(b22.1,(b23.1,(b24.1,(b24.2.1,(b25.1,(b25.2.1,(b26.1,(b26.2.1,(b26.2.2.1,(b26.2.2.2.1,(b26.2.2.2.2.1,(b26.2.2.2.2.2.1,y.1.2.2.2.2.2.2.2.2.2.2.2.2.2.2.2.2.2.2.2.2.2.2.2.2.2.2.2.2.2.2.2.2.2))))))))))))))))))))))))))))))))),()) ((wI (z.1+1)),()))
  else some ((Sum.inl z),(y.1,()))
noncomputable def e174_0 (l:A174_0):Zbb:=⟨[68],lc174_0,[0],lb174_0,[69],lv174_0,[],lr174_0,1,[],l⟩
noncomputable def m174 (c208:F208) (c209:F209) (c210:F210) (c189:F189) (c186:F186) (l0:A174_0) (y:PTup i174):R174:=
  let a0:=y.1;let a1:=a0.1;let a2:=a0.2;let a3:=a2.1;let a4:=a2.2;let a5:=a4.2;let a6:=a5.2;let a7:=a6.2;let a8:=a7.2;let a9:=a8.2;let a10:=a9.2;let a11:=a10.2;let a12:=a11.2;let a13:=a12.2;let a14:=a13.2;let a15:=a14.2;let a16:=a15.2;let a17:=a16.2;let a18:=a17.2;let a19:=a18.2;let a20:=a19.2;let a21:=a20.1;let a22:=a20.2;let a23:=a22.1;let a24:=a22.2;let a25:=a24.2;let a26:=a25.2;let a27:=a26.2;let a28:=a27.2;let a29:=a28.2;let a30:=a29.2;let a31:=a30.2;let a32:=a31.2;let a33:=a32.2;let a34:=a33.2;let a35:=a34.2;let a36:=a35.2;let a37:=a36.2;let X0:R174:=(c208 ((a1,(a3,(a4.1,(a5.1,(a6.1,(a7.1,(a8.1,(a9.1,(a10.1,(a11.1,(a12.1,(a13.1,(a14.1,(a15.1,(a16.1,(a17.1,(a18.1,(a19.1,(a21,(a23,(a24.1,(a25.1,(a26.1,(a27.1,(a28.1,(a29.1,(a30.1,(a31.1,(a32.1,(false,a34)))))))))))))))))))))))))))))),((65530:Int),()))).bind fun r2=>let f0:=r2.2;let f1:=f0.1;let f2:=f1.2;let f3:=f2.2;let f4:=f3.2;let f5:=f4.2;let f6:=f5.2;let f7:=f6.2;let f8:=f7.2;let f9:=f8.2;let f10:=f9.2;let f11:=f10.2;let f12:=f11.2;let f13:=f12.2;let f14:=f13.2;let f15:=f14.2;let f16:=f15.2;let f17:=f16.2;let f18:=f17.2;let f19:=f18.2;let f20:=f19.2;let f21:=f20.2;let f22:=f21.2;let f23:=f22.2.2;let f24:=f23.2.2;(l0 ((7:Int),()) ((a1,(a3,(f3.1,(f4.1,(f5.1,(f6.1,(f7.1,(f8.1,(f9.1,(f10.1,(f11.1,(f12.1,(f13.1,(f14.1,(f15.1,(f16.1,(f17.1,(f18.1,(a21,(a23,(f21.1,(f22.1,(f22.2.1,(f23.1,(f23.2.1,(f24.1,(f24.2.1,(f24.2.2.1,(f24.2.2.2.1,(f24.2.2.2.2.1,(f24.2.2.2.2.2.1,a35))))))))))))))))))))))))))))))),()) ((0:Int),())).bind fun r3=>let g0:=r3.2;let g1:=g0.1;let g2:=g1.2;let g3:=g2.2;let g4:=g3.2;let g5:=g4.2;let g6:=g5.2;let g7:=g6.2;let g8:=g7.2;let g9:=g8.2;let g10:=g9.2;let g11:=g10.2;let g12:=g11.2;let g13:=g12.2;let g14:=g13.2;let g15:=g14.2;let g16:=g15.2;let g17:=g16.2;let g18:=g17.2;let g19:=g18.2;let g20:=g19.2;let g21:=g20.2;let g22:=g21.2;let g23:=g22.2;let g24:=g23.2;let g25:=g24.2;let g26:=g25.2;let g27:=g26.2;let g28:=g27.2;let g29:=g28.2;let g30:=g29.2.2;Zai r3.1 (fun r4=>some ((true,()),((a1,(a3,(f3.1,(g4.1,(g5.1,(g6.1,(g7.1,(g8.1,(g9.1,(g10.1,(g11.1,(g12.1,(g13.1,(g14.1,(g15.1,(g16.1,(g17.1,(g18.1,(a21,(g20.1,(g21.1,(g22.1,(g23.1,(g24.1,(g25.1,(g26.1,(g27.1,(g28.1,(g29.1,(g29.2.1,((wI (g30.1+1)),(g30.2.1,(g30.2.2.1,a37))))))))))))))))))))))))))))))))),()))) (fun r4=>some ((false,()),((a1,(a3,(f3.1,(g4.1,(g5.1,(g6.1,(g7.1,(g8.1,(g9.1,(g10.1,(g11.1,(g12.1,(g13.1,(g14.1,(g15.1,(g16.1,(g17.1,(g18.1,(a21,(g20.1,(g21.1,(g22.1,(g23.1,(g24.1,(g25.1,(g26.1,(g27.1,(g28.1,(g29.1,(g29.2.1,(g30.1,(g30.2.1,(g30.2.2.1,a37))))))))))))))))))))))))))))))))),())));let X1:R174:=(c208 (a0,((65534:Int),()))).bind fun r2=>let f0:=r2.2;let f1:=f0.1;let f2:=f1.2;let f3:=f2.2;let f4:=f3.2;let f5:=f4.2;let f6:=f5.2;let f7:=f6.2;let f8:=f7.2;let f9:=f8.2;let f10:=f9.2;let f11:=f10.2;let f12:=f11.2;let f13:=f12.2;let f14:=f13.2;let f15:=f14.2;let f16:=f15.2;let f17:=f16.2;let f18:=f17.2;let f19:=f18.2;let f20:=f19.2;let f21:=f20.2;let f22:=f21.2;let f23:=f22.2.2;let f24:=f23.2.2;(l0 ((7:Int),()) ((a1,(a3,(f3.1,(f4.1,(f5.1,(f6.1,(f7.1,(f8.1,(f9.1,(f10.1,(f11.1,(f12.1,(f13.1,(f14.1,(f15.1,(f16.1,(f17.1,(f18.1,(a21,(a23,(f21.1,(f22.1,(f22.2.1,(f23.1,(f23.2.1,(f24.1,(f24.2.1,(f24.2.2.1,(f24.2.2.2.1,(f24.2.2.2.2.1,(f24.2.2.2.2.2.1,a35))))))))))))))))))))))))))))))),()) ((0:Int),())).bind fun r3=>let g0:=r3.2;let g1:=g0.1;let g2:=g1.2;let g3:=g2.2;let g4:=g3.2;let g5:=g4.2;let g6:=g5.2;let g7:=g6.2;let g8:=g7.2;let g9:=g8.2;let g10:=g9.2;let g11:=g10.2;let g12:=g11.2;let g13:=g12.2;let g14:=g13.2;let g15:=g14.2;let g16:=g15.2;let g17:=g16.2;let g18:=g17.2;let g19:=g18.2;let g20:=g19.2;let g21:=g20.2;let g22:=g21.2;let g23:=g22.2;let g24:=g23.2;let g25:=g24.2;let g26:=g25.2;let g27:=g26.2;let g28:=g27.2;let g29:=g28.2;let g30:=g29.2.2;Zai r3.1 (fun r4=>some ((true,()),((a1,(a3,(f3.1,(g4.1,(g5.1,(g6.1,(g7.1,(g8.1,(g9.1,(g10.1,(g11.1,(g12.1,(g13.1,(g14.1,(g15.1,(g16.1,(g17.1,(g18.1,(a21,(g20.1,(g21.1,(g22.1,(g23.1,(g24.1,(g25.1,(g26.1,(g27.1,(g28.1,(g29.1,(g29.2.1,((wI (g30.1+1)),(g30.2.1,(g30.2.2.1,a37))))))))))))))))))))))))))))))))),()))) (fun r4=>some ((false,()),((a1,(a3,(f3.1,(g4.1,(g5.1,(g6.1,(g7.1,(g8.1,(g9.1,(g10.1,(g11.1,(g12.1,(g13.1,(g14.1,(g15.1,(g16.1,(g17.1,(g18.1,(a21,(g20.1,(g21.1,(g22.1,(g23.1,(g24.1,(g25.1,(g26.1,(g27.1,(g28.1,(g29.1,(g29.2.1,(g30.1,(g30.2.1,(g30.2.2.1,a37))))))))))))))))))))))))))))))))),())));bif a33.1 then ((c186 ((a1,()),((a4.1,(a5.1,())),(a9.1,())))).bind fun r0=>(c189 (r0.1.1.1,())).bind fun r1=>bif (ltI 20000 (wI (a14.1+7)))then (some ((false,()),(a0,())))else bif a33.1 then X0 else X1)else bif a30.1 then ((c186 ((a1,()),((a4.1,(a5.1,())),(a9.1,())))).bind fun r0=>(c189 (r0.1.1.1,())).bind fun r1=>bif (!a13.1)then (bif (ltI 20000 (wI (a14.1+7)))then (some ((false,()),(a0,())))else bif a33.1 then X0 else bif (!a13.1)then X1 else (c209 (a0,(r0.1.1,()))).bind fun r2=>let f0:=r2.2;let f1:=f0.1;let f2:=f1.2;let f3:=f2.2;let f4:=f3.2;let f5:=f4.2;let f6:=f5.2;let f7:=f6.2;let f8:=f7.2;let f9:=f8.2;let f10:=f9.2;let f11:=f10.2;let f12:=f11.2;let f13:=f12.2;let f14:=f13.2;let f15:=f14.2;let f16:=f15.2;let f17:=f16.2;let f18:=f17.2;let f19:=f18.2;let f20:=f19.2;let f21:=f20.2;let f22:=f21.2;let f23:=f22.2;let f24:=f23.2;let f25:=f24.2;let f26:=f25.2.2;let f27:=f26.2.2;let f28:=f27.2.2.2.2.2;(l0 ((7:Int),()) ((a1,(a3,(f3.1,(f4.1,(f5.1,(f6.1,(f7.1,(f8.1,(f9.1,(f10.1,(f11.1,(f12.1,(f13.1,(f14.1,(f15.1,(f16.1,(f17.1,(f18.1,(f19.1,(a23,(f21.1,(f22.1,(f23.1,(f24.1,(f25.1,(f25.2.1,(f26.1,(f26.2.1,(f27.1,(f27.2.1,(f27.2.2.1,(a35.1,(a36.1,f28))))))))))))))))))))))))))))))))),()) ((0:Int),())).bind fun r3=>let g0:=r3.2;let g1:=g0.1;let g2:=g1.2;let g3:=g2.2;let g4:=g3.2;let g5:=g4.2;let g6:=g5.2;let g7:=g6.2;let g8:=g7.2;let g9:=g8.2;let g10:=g9.2;let g11:=g10.2;let g12:=g11.2;let g13:=g12.2;let g14:=g13.2;let g15:=g14.2;let g16:=g15.2;let g17:=g16.2;let g18:=g17.2;let g19:=g18.2;let g20:=g19.2;let g21:=g20.2;let g22:=g21.2;let g23:=g22.2;let g24:=g23.2;let g25:=g24.2;let g26:=g25.2;let g27:=g26.2;let g28:=g27.2;let g29:=g28.2;let g30:=g29.2.2;Zai r3.1 (fun r4=>some ((true,()),((a1,(a3,(f3.1,(g4.1,(g5.1,(g6.1,(g7.1,(g8.1,(g9.1,(g10.1,(g11.1,(g12.1,(g13.1,(g14.1,(g15.1,(g16.1,(g17.1,(g18.1,(f19.1,(g20.1,(g21.1,(g22.1,(g23.1,(g24.1,(g25.1,(g26.1,(g27.1,(g28.1,(g29.1,(g29.2.1,((wI (g30.1+1)),(g30.2.1,(g30.2.2.1,f28))))))))))))))))))))))))))))))))),()))) (fun r4=>some ((false,()),((a1,(a3,(f3.1,(g4.1,(g5.1,(g6.1,(g7.1,(g8.1,(g9.1,(g10.1,(g11.1,(g12.1,(g13.1,(g14.1,(g15.1,(g16.1,(g17.1,(g18.1,(f19.1,(g20.1,(g21.1,(g22.1,(g23.1,(g24.1,(g25.1,(g26.1,(g27.1,(g28.1,(g29.1,(g29.2.1,(g30.1,(g30.2.1,(g30.2.2.1,f28))))))))))))))))))))))))))))))))),()))))else bif (ltI 20000 (wI (a14.1+r1.1.1)))then (some ((false,()),(a0,())))else bif a33.1 then ((c208 ((a1,(a3,(a4.1,(a5.1,(a6.1,(a7.1,(a8.1,(a9.1,(a10.1,(a11.1,(a12.1,(a13.1,(a14.1,(a15.1,(a16.1,(a17.1,(a18.1,(a19.1,(a21,(a23,(a24.1,(a25.1,(a26.1,(a27.1,(a28.1,(a29.1,(a30.1,(a31.1,(a32.1,(false,a34)))))))))))))))))))))))))))))),((65530:Int),()))).bind fun r2=>let f0:=r2.2;let f1:=f0.1;let f2:=f1.2;let f3:=f2.2;let f4:=f3.2;let f5:=f4.2;let f6:=f5.2;let f7:=f6.2;let f8:=f7.2;let f9:=f8.2;let f10:=f9.2;let f11:=f10.2;let f12:=f11.2;let f13:=f12.2;let f14:=f13.2;let f15:=f14.2;let f16:=f15.2;let f17:=f16.2;let f18:=f17.2;let f19:=f18.2;let f20:=f19.2;let f21:=f20.2;let f22:=f21.2;let f23:=f22.2.2;let f24:=f23.2.2;(l0 r1.1 ((a1,(a3,(f3.1,(f4.1,(f5.1,(f6.1,(f7.1,(f8.1,(f9.1,(f10.1,(f11.1,(f12.1,(f13.1,(f14.1,(f15.1,(f16.1,(f17.1,(f18.1,(a21,(a23,(f21.1,(f22.1,(f22.2.1,(f23.1,(f23.2.1,(f24.1,(f24.2.1,(f24.2.2.1,(f24.2.2.2.1,(f24.2.2.2.2.1,(f24.2.2.2.2.2.1,a35))))))))))))))))))))))))))))))),()) ((0:Int),())).bind fun r3=>let g0:=r3.2;let g1:=g0.1;let g2:=g1.2;let g3:=g2.2;let g4:=g3.2;let g5:=g4.2;let g6:=g5.2;let g7:=g6.2;let g8:=g7.2;let g9:=g8.2;let g10:=g9.2;let g11:=g10.2;let g12:=g11.2;let g13:=g12.2;let g14:=g13.2;let g15:=g14.2;let g16:=g15.2;let g17:=g16.2;let g18:=g17.2;let g19:=g18.2;let g20:=g19.2;let g21:=g20.2;let g22:=g21.2;let g23:=g22.2;let g24:=g23.2;let g25:=g24.2;let g26:=g25.2;let g27:=g26.2;let g28:=g27.2;let g29:=g28.2;let g30:=g29.2.2;Zai r3.1 (fun r4=>some ((true,()),((a1,(a3,(f3.1,(g4.1,(g5.1,(g6.1,(g7.1,(g8.1,(g9.1,(g10.1,(g11.1,(g12.1,(g13.1,(g14.1,(g15.1,(g16.1,(g17.1,(g18.1,(a21,(g20.1,(g21.1,(g22.1,(g23.1,(g24.1,(g25.1,(g26.1,(g27.1,(g28.1,(g29.1,(g29.2.1,((wI (g30.1+1)),(g30.2.1,(g30.2.2.1,a37))))))))))))))))))))))))))))))))),()))) (fun r4=>some ((false,()),((a1,(a3,(f3.1,(g4.1,(g5.1,(g6.1,(g7.1,(g8.1,(g9.1,(g10.1,(g11.1,(g12.1,(g13.1,(g14.1,(g15.1,(g16.1,(g17.1,(g18.1,(a21,(g20.1,(g21.1,(g22.1,(g23.1,(g24.1,(g25.1,(g26.1,(g27.1,(g28.1,(g29.1,(g29.2.1,(g30.1,(g30.2.1,(g30.2.2.1,a37))))))))))))))))))))))))))))))))),()))))else bif (!a13.1)then ((c208 (a0,((65534:Int),()))).bind fun r2=>let f0:=r2.2;let f1:=f0.1;let f2:=f1.2;let f3:=f2.2;let f4:=f3.2;let f5:=f4.2;let f6:=f5.2;let f7:=f6.2;let f8:=f7.2;let f9:=f8.2;let f10:=f9.2;let f11:=f10.2;let f12:=f11.2;let f13:=f12.2;let f14:=f13.2;let f15:=f14.2;let f16:=f15.2;let f17:=f16.2;let f18:=f17.2;let f19:=f18.2;let f20:=f19.2;let f21:=f20.2;let f22:=f21.2;let f23:=f22.2.2;let f24:=f23.2.2;(l0 r1.1 ((a1,(a3,(f3.1,(f4.1,(f5.1,(f6.1,(f7.1,(f8.1,(f9.1,(f10.1,(f11.1,(f12.1,(f13.1,(f14.1,(f15.1,(f16.1,(f17.1,(f18.1,(a21,(a23,(f21.1,(f22.1,(f22.2.1,(f23.1,(f23.2.1,(f24.1,(f24.2.1,(f24.2.2.1,(f24.2.2.2.1,(f24.2.2.2.2.1,(f24.2.2.2.2.2.1,a35))))))))))))))))))))))))))))))),()) ((0:Int),())).bind fun r3=>let g0:=r3.2;let g1:=g0.1;let g2:=g1.2;let g3:=g2.2;let g4:=g3.2;let g5:=g4.2;let g6:=g5.2;let g7:=g6.2;let g8:=g7.2;let g9:=g8.2;let g10:=g9.2;let g11:=g10.2;let g12:=g11.2;let g13:=g12.2;let g14:=g13.2;let g15:=g14.2;let g16:=g15.2;let g17:=g16.2;let g18:=g17.2;let g19:=g18.2;let g20:=g19.2;let g21:=g20.2;let g22:=g21.2;let g23:=g22.2;let g24:=g23.2;let g25:=g24.2;let g26:=g25.2;let g27:=g26.2;let g28:=g27.2;let g29:=g28.2;let g30:=g29.2.2;Zai r3.1 (fun r4=>some ((true,()),((a1,(a3,(f3.1,(g4.1,(g5.1,(g6.1,(g7.1,(g8.1,(g9.1,(g10.1,(g11.1,(g12.1,(g13.1,(g14.1,(g15.1,(g16.1,(g17.1,(g18.1,(a21,(g20.1,(g21.1,(g22.1,(g23.1,(g24.1,(g25.1,(g26.1,(g27.1,(g28.1,(g29.1,(g29.2.1,((wI (g30.1+1)),(g30.2.1,(g30.2.2.1,a37))))))))))))))))))))))))))))))))),()))) (fun r4=>some ((false,()),((a1,(a3,(f3.1,(g4.1,(g5.1,(g6.1,(g7.1,(g8.1,(g9.1,(g10.1,(g11.1,(g12.1,(g13.1,(g14.1,(g15.1,(g16.1,(g17.1,(g18.1,(a21,(g20.1,(g21.1,(g22.1,(g23.1,(g24.1,(g25.1,(g26.1,(g27.1,(g28.1,(g29.1,(g29.2.1,(g30.1,(g30.2.1,(g30.2.2.1,a37))))))))))))))))))))))))))))))))),()))))else (c209 (a0,(r0.1.1,()))).bind fun r2=>let f0:=r2.2;let f1:=f0.1;let f2:=f1.2;let f3:=f2.2;let f4:=f3.2;let f5:=f4.2;let f6:=f5.2;let f7:=f6.2;let f8:=f7.2;let f9:=f8.2;let f10:=f9.2;let f11:=f10.2;let f12:=f11.2;let f13:=f12.2;let f14:=f13.2;let f15:=f14.2;let f16:=f15.2;let f17:=f16.2;let f18:=f17.2;let f19:=f18.2;let f20:=f19.2;let f21:=f20.2;let f22:=f21.2;let f23:=f22.2;let f24:=f23.2;let f25:=f24.2;let f26:=f25.2.2;let f27:=f26.2.2;let f28:=f27.2.2.2.2.2;(l0 r1.1 ((a1,(a3,(f3.1,(f4.1,(f5.1,(f6.1,(f7.1,(f8.1,(f9.1,(f10.1,(f11.1,(f12.1,(f13.1,(f14.1,(f15.1,(f16.1,(f17.1,(f18.1,(f19.1,(a23,(f21.1,(f22.1,(f23.1,(f24.1,(f25.1,(f25.2.1,(f26.1,(f26.2.1,(f27.1,(f27.2.1,(f27.2.2.1,(a35.1,(a36.1,f28))))))))))))))))))))))))))))))))),()) ((0:Int),())).bind fun r3=>let g0:=r3.2;let g1:=g0.1;let g2:=g1.2;let g3:=g2.2;let g4:=g3.2;let g5:=g4.2;let g6:=g5.2;let g7:=g6.2;let g8:=g7.2;let g9:=g8.2;let g10:=g9.2;let g11:=g10.2;let g12:=g11.2;let g13:=g12.2;let g14:=g13.2;let g15:=g14.2;let g16:=g15.2;let g17:=g16.2;let g18:=g17.2;let g19:=g18.2;let g20:=g19.2;let g21:=g20.2;let g22:=g21.2;let g23:=g22.2;let g24:=g23.2;let g25:=g24.2;let g26:=g25.2;let g27:=g26.2;let g28:=g27.2;let g29:=g28.2;let g30:=g29.2.2;Zai r3.1 (fun r4=>some ((true,()),((a1,(a3,(f3.1,(g4.1,(g5.1,(g6.1,(g7.1,(g8.1,(g9.1,(g10.1,(g11.1,(g12.1,(g13.1,(g14.1,(g15.1,(g16.1,(g17.1,(g18.1,(f19.1,(g20.1,(g21.1,(g22.1,(g23.1,(g24.1,(g25.1,(g26.1,(g27.1,(g28.1,(g29.1,(g29.2.1,((wI (g30.1+1)),(g30.2.1,(g30.2.2.1,f28))))))))))))))))))))))))))))))))),()))) (fun r4=>some ((false,()),((a1,(a3,(f3.1,(g4.1,(g5.1,(g6.1,(g7.1,(g8.1,(g9.1,(g10.1,(g11.1,(g12.1,(g13.1,(g14.1,(g15.1,(g16.1,(g17.1,(g18.1,(f19.1,(g20.1,(g21.1,(g22.1,(g23.1,(g24.1,(g25.1,(g26.1,(g27.1,(g28.1,(g29.1,(g29.2.1,(g30.1,(g30.2.1,(g30.2.2.1,f28))))))))))))))))))))))))))))))))),()))))else (c186 ((a1,()),((a4.1,(a5.1,())),(a9.1,())))).bind fun r0=>(c189 (r0.1.1.1,())).bind fun r1=>bif (ltI 20000 (wI (a14.1+r1.1.1)))then (some ((false,()),(a0,())))else bif a33.1 then ((c208 ((a1,(a3,(a4.1,(a5.1,(a6.1,(a7.1,(a8.1,(a9.1,(a10.1,(a11.1,(a12.1,(a13.1,(a14.1,(a15.1,(a16.1,(a17.1,(a18.1,(a19.1,(a21,(a23,(a24.1,(a25.1,(a26.1,(a27.1,(a28.1,(a29.1,(a30.1,(a31.1,(a32.1,(false,a34)))))))))))))))))))))))))))))),((65530:Int),()))).bind fun r2=>let f0:=r2.2;let f1:=f0.1;let f2:=f1.2;let f3:=f2.2;let f4:=f3.2;let f5:=f4.2;let f6:=f5.2;let f7:=f6.2;let f8:=f7.2;let f9:=f8.2;let f10:=f9.2;let f11:=f10.2;let f12:=f11.2;let f13:=f12.2;let f14:=f13.2;let f15:=f14.2;let f16:=f15.2;let f17:=f16.2;let f18:=f17.2;let f19:=f18.2;let f20:=f19.2;let f21:=f20.2;let f22:=f21.2;let f23:=f22.2.2;let f24:=f23.2.2;(l0 r1.1 ((a1,(a3,(f3.1,(f4.1,(f5.1,(f6.1,(f7.1,(f8.1,(f9.1,(f10.1,(f11.1,(f12.1,(f13.1,(f14.1,(f15.1,(f16.1,(f17.1,(f18.1,(a21,(a23,(f21.1,(f22.1,(f22.2.1,(f23.1,(f23.2.1,(f24.1,(f24.2.1,(f24.2.2.1,(f24.2.2.2.1,(f24.2.2.2.2.1,(f24.2.2.2.2.2.1,a35))))))))))))))))))))))))))))))),()) ((0:Int),())).bind fun r3=>let g0:=r3.2;let g1:=g0.1;let g2:=g1.2;let g3:=g2.2;let g4:=g3.2;let g5:=g4.2;let g6:=g5.2;let g7:=g6.2;let g8:=g7.2;let g9:=g8.2;let g10:=g9.2;let g11:=g10.2;let g12:=g11.2;let g13:=g12.2;let g14:=g13.2;let g15:=g14.2;let g16:=g15.2;let g17:=g16.2;let g18:=g17.2;let g19:=g18.2;let g20:=g19.2;let g21:=g20.2;let g22:=g21.2;let g23:=g22.2;let g24:=g23.2;let g25:=g24.2;let g26:=g25.2;let g27:=g26.2;let g28:=g27.2;let g29:=g28.2;let g30:=g29.2.2;Zai r3.1 (fun r4=>some ((true,()),((a1,(a3,(f3.1,(g4.1,(g5.1,(g6.1,(g7.1,(g8.1,(g9.1,(g10.1,(g11.1,(g12.1,(g13.1,(g14.1,(g15.1,(g16.1,(g17.1,(g18.1,(a21,(g20.1,(g21.1,(g22.1,(g23.1,(g24.1,(g25.1,(g26.1,(g27.1,(g28.1,(g29.1,(g29.2.1,((wI (g30.1+1)),(g30.2.1,(g30.2.2.1,a37))))))))))))))))))))))))))))))))),()))) (fun r4=>some ((false,()),((a1,(a3,(f3.1,(g4.1,(g5.1,(g6.1,(g7.1,(g8.1,(g9.1,(g10.1,(g11.1,(g12.1,(g13.1,(g14.1,(g15.1,(g16.1,(g17.1,(g18.1,(a21,(g20.1,(g21.1,(g22.1,(g23.1,(g24.1,(g25.1,(g26.1,(g27.1,(g28.1,(g29.1,(g29.2.1,(g30.1,(g30.2.1,(g30.2.2.1,a37))))))))))))))))))))))))))))))))),()))))else (c209 (a0,(r0.1.1,()))).bind fun r2=>let f0:=r2.2;let f1:=f0.1;let f2:=f1.2;let f3:=f2.2;let f4:=f3.2;let f5:=f4.2;let f6:=f5.2;let f7:=f6.2;let f8:=f7.2;let f9:=f8.2;let f10:=f9.2;let f11:=f10.2;let f12:=f11.2;let f13:=f12.2;let f14:=f13.2;let f15:=f14.2;let f16:=f15.2;let f17:=f16.2;let f18:=f17.2;let f19:=f18.2;let f20:=f19.2;let f21:=f20.2;let f22:=f21.2;let f23:=f22.2;let f24:=f23.2;let f25:=f24.2;let f26:=f25.2.2;let f27:=f26.2.2;let f28:=f27.2.2.2.2.2;(l0 r1.1 ((a1,(a3,(f3.1,(f4.1,(f5.1,(f6.1,(f7.1,(f8.1,(f9.1,(f10.1,(f11.1,(f12.1,(f13.1,(f14.1,(f15.1,(f16.1,(f17.1,(f18.1,(f19.1,(a23,(f21.1,(f22.1,(f23.1,(f24.1,(f25.1,(f25.2.1,(f26.1,(f26.2.1,(f27.1,(f27.2.1,(f27.2.2.1,(a35.1,(a36.1,f28))))))))))))))))))))))))))))))))),()) ((0:Int),())).bind fun r3=>let g0:=r3.2;let g1:=g0.1;let g2:=g1.2;let g3:=g2.2;let g4:=g3.2;let g5:=g4.2;let g6:=g5.2;let g7:=g6.2;let g8:=g7.2;let g9:=g8.2;let g10:=g9.2;let g11:=g10.2;let g12:=g11.2;let g13:=g12.2;let g14:=g13.2;let g15:=g14.2;let g16:=g15.2;let g17:=g16.2;let g18:=g17.2;let g19:=g18.2;let g20:=g19.2;let g21:=g20.2;let g22:=g21.2;let g23:=g22.2;let g24:=g23.2;let g25:=g24.2;let g26:=g25.2;let g27:=g26.2;let g28:=g27.2;let g29:=g28.2;let g30:=g29.2.2;Zai r3.1 (fun r4=>some ((true,()),((a1,(a3,(f3.1,(g4.1,(g5.1,(g6.1,(g7.1,(g8.1,(g9.1,(g10.1,(g11.1,(g12.1,(g13.1,(g14.1,(g15.1,(g16.1,(g17.1,(g18.1,(f19.1,(g20.1,(g21.1,(g22.1,(g23.1,(g24.1,(g25.1,(g26.1,(g27.1,(g28.1,(g29.1,(g29.2.1,((wI (g30.1+1)),(g30.2.1,(g30.2.2.1,f28))))))))))))))))))))))))))))))))),()))) (fun r4=>some ((false,()),((a1,(a3,(f3.1,(g4.1,(g5.1,(g6.1,(g7.1,(g8.1,(g9.1,(g10.1,(g11.1,(g12.1,(g13.1,(g14.1,(g15.1,(g16.1,(g17.1,(g18.1,(f19.1,(g20.1,(g21.1,(g22.1,(g23.1,(g24.1,(g25.1,(g26.1,(g27.1,(g28.1,(g29.1,(g29.2.1,(g30.1,(g30.2.1,(g30.2.2.1,f28))))))))))))))))))))))))))))))))),())))
noncomputable def E174 (c208:F208) (c209:F209) (c210:F210) (c189:F189) (c186:F186) (l0:A174_0):CEnv:=⟨⟨Tryz.prog,fnsL [g208 c208,g209 c209,g210 c210,g189 c189,g186 c186]⟩,Za9 [(15,e174_0 l0)]⟩
theorem t174_0 (c208:F208) (c209:F209) (c210:F210) (c189:F189) (c186:F186) (l0:A174_0) (again) (x y z):Zak (E174 c208 c209 c210 c189 c186 l0) (Zaf (Zag Tryz.f174) 0) (e174_0 l0) Tryz.f174.ntmps again x y z=w174_0 c208 c209 c210 c189 c186 again x y z:=by kernel_rfl
noncomputable def n174_0 (c208:F208) (c209:F209) (c210:F210) (c189:F189) (c186:F186):Nat→A174_0
  |0,_,_,_=>none
  |n+1,x,y,z=>w174_0 c208 c209 c210 c189 c186 (fun y z=>n174_0 c208 c209 c210 c189 c186 n x y z) x y z
theorem s174 (c208:F208) (c209:F209) (c210:F210) (c189:F189) (c186:F186) (l0:A174_0) (y):tevF (E174 c208 c209 c210 c189 c186 l0) Tryz.f174 i174 o174 y=m174 c208 c209 c210 c189 c186 l0 y:=by kernel_rfl
noncomputable def L174_0:A174_0:=n174_0 r208 r209 r210 r189 r186 fuel
noncomputable def r174:F174:=m174 r208 r209 r210 r189 r186 L174_0
theorem k174:KO (g174 r174):=by
  have hE: ∀g f,(E174 r208 r209 r210 r189 r186 L174_0).env.fns g=some f→Zal Tryz.prog g f:=ZaE ⟨k208,k209,k210,k189,k186,⟨⟩⟩
  have h0:ZaS Tryz.prog Tryz.f174.ntmps (Zaf (Zag Tryz.f174) 0) (e174_0 L174_0):=ZbS (E:=E174 r208 r209 r210 r189 r186 L174_0) rfl hE mixed (Zad.of_list (l:=[]) (by kernel_rfl) trivial) (n174_0 r208 r209 r210 r189 r186) (fun _ _ _=>rfl) (fun n x y z=>t174_0 r208 r209 r210 r189 r186 L174_0 _ x y z) rfl
  exact Zcd (E:=E174 r208 r209 r210 r189 r186 L174_0) rfl hE mixed (by kernel_rfl) (by kernel_rfl) (Zad.of_list (l:=[(Zaf (Zag Tryz.f174) 0)]) (by kernel_rfl) (.one (by kernel_rfl) h0 trivial)) (s174 r208 r209 r210 r189 r186 L174_0)
abbrev i141:Ts:=[.a q13, .v (.int .i64)]
abbrev o141:Ts:=[.a q14, .v (.int .i64)]
abbrev R141:=Option (PTup o141×BTup i141)
abbrev F141:=PTup i141→R141
abbrev g141:=mkG 141 i141 o141
abbrev lc141_0:Ts:=[.v (.int .i64)]
abbrev lb141_0:Ts:=[.p q17]
abbrev lv141_0:Ts:=[.v (.int .i64)]
abbrev lr141_0:Ts:=[]
abbrev R141_0:=Option (Sum (PTup lv141_0) (PTup lr141_0)×BTup lb141_0)
abbrev B141_0:=PTup lb141_0→PTup lv141_0→R141_0
abbrev A141_0:=PTup lc141_0→B141_0
noncomputable def w141_0 (c174:F174) (c172:F172) (c173:F173) (again:B141_0) (x:PTup lc141_0) (y:PTup lb141_0) (z:PTup lv141_0):R141_0:=
  bif (ltI z.1 (mnI x.1 (3000:Int)))then ((c174 (y.1,())).bind fun r0=>
   bif (!r0.1.1)then (some ((Sum.inl z),((y.1.1,(y.1.2.1,r0.2.1.2.2)),())))
   else again ((y.1.1,(y.1.2.1,r0.2.1.2.2)),()) ((wI (z.1+1)),()))
  else some ((Sum.inl z),(y.1,()))
noncomputable def e141_0 (l:A141_0):Zbb:=⟨[1],lc141_0,[6],lb141_0,[7],lv141_0,[],lr141_0,0,[],l⟩
noncomputable def m141 (c174:F174) (c172:F172) (c173:F173) (l0:A141_0) (y:PTup i141):R141:=
  let X0:R141:=some ((([],([],([],((0:Int),((0:Int),((0:Int),((0:Int),((0:Int),(false,(false,(false,(false,((0:Int),((0:Int),((0:Int),((0:Int),((0:Int),(false,([],([],((0:Int),((0:Int),((0:Int),((0:Int),((0:Int),(false,(false,(false,((0:Int),(false,((0:Int),([],([],([],())))))))))))))))))))))))))))))))))),((0:Int),())),());(c172 (y.1,())).bind fun r0=>bif (!r0.1.1)then X0 else (c173 (y.1,())).bind fun r1=>(l0 y.2 (r1.1.1,()) ((0:Int),())).bind fun r2=>Zai r2.1 (fun r3=>some (((r1.1.1.1,(r1.1.1.2.1,r2.2.1.2.2)),r3),())) (fun r3=>X0)
noncomputable def E141 (c174:F174) (c172:F172) (c173:F173) (l0:A141_0):CEnv:=⟨⟨Tryz.prog,fnsL [g174 c174,g172 c172,g173 c173]⟩,Za9 [(5,e141_0 l0)]⟩
theorem t141_0 (c174:F174) (c172:F172) (c173:F173) (l0:A141_0) (again) (x y z):Zak (E141 c174 c172 c173 l0) (Zaf (Zag Tryz.f141) 0) (e141_0 l0) Tryz.f141.ntmps again x y z=w141_0 c174 c172 c173 again x y z:=by kernel_rfl
noncomputable def n141_0 (c174:F174) (c172:F172) (c173:F173):Nat→A141_0
  |0,_,_,_=>none
  |n+1,x,y,z=>w141_0 c174 c172 c173 (fun y z=>n141_0 c174 c172 c173 n x y z) x y z
theorem s141 (c174:F174) (c172:F172) (c173:F173) (l0:A141_0) (y):tevF (E141 c174 c172 c173 l0) Tryz.f141 i141 o141 y=m141 c174 c172 c173 l0 y:=by kernel_rfl
noncomputable def L141_0:A141_0:=n141_0 r174 r172 r173 fuel
noncomputable def r141:F141:=m141 r174 r172 r173 L141_0
theorem k141:KO (g141 r141):=by
  have hE: ∀g f,(E141 r174 r172 r173 L141_0).env.fns g=some f→Zal Tryz.prog g f:=ZaE ⟨k174,k172,k173,⟨⟩⟩
  have h0:ZaS Tryz.prog Tryz.f141.ntmps (Zaf (Zag Tryz.f141) 0) (e141_0 L141_0):=ZbS (E:=E141 r174 r172 r173 L141_0) rfl hE mixed (Zad.of_list (l:=[]) (by kernel_rfl) trivial) (n141_0 r174 r172 r173) (fun _ _ _=>rfl) (fun n x y z=>t141_0 r174 r172 r173 L141_0 _ x y z) rfl
  exact Zcd (E:=E141 r174 r172 r173 L141_0) rfl hE mixed (by kernel_rfl) (by kernel_rfl) (Zad.of_list (l:=[(Zaf (Zag Tryz.f141) 0)]) (by kernel_rfl) (.one (by kernel_rfl) h0 trivial)) (s141 r174 r172 r173 L141_0)
abbrev i100:Ts:=[.a q10]
abbrev o100:Ts:=[.a q14]
abbrev F100:=FT i100 o100
abbrev g100:=mkG 100 i100 o100
noncomputable def m100 (c140:F140) (c141:F141) (c99:F99) (y:PTup i100):Option (PTup o100×BTup i100):=
  (c99 (y.1,())).bind fun r0=>
  bif (!r0.1.1)then (some ((([],([],([],((0:Int),((0:Int),((0:Int),((0:Int),((0:Int),(false,(false,(false,(false,((0:Int),((0:Int),((0:Int),((0:Int),((0:Int),(false,([],([],((0:Int),((0:Int),((0:Int),((0:Int),((0:Int),(false,(false,(false,((0:Int),(false,((0:Int),([],([],([],())))))))))))))))))))))))))))))))))),()),()))
  else (c140 ((y.1.1,()),(y.1.2.1,()))).bind fun r1=>
  (c141 (r1.1.1,(y.1.2.2.2.2.2.2.2.2.2.2.2.2.2.2.2.2.2.2.2.1,()))).bind fun r2=>
  some ((r2.1.1,()),())
theorem s100 (c140:F140) (c141:F141) (c99:F99) (y):TE [g140 c140,g141 c141,g99 c99] Tryz.f100 i100 o100 y=m100 c140 c141 c99 y:=by kernel_rfl
noncomputable def r100:F100:=m100 r140 r141 r99
theorem k100:KO (g100 r100):=fk (s100 r140 r141 r99) ⟨k140,k141,k99,⟨⟩⟩ (by kernel_rfl)
abbrev i102:Ts:=[.v (.sl false .i), .v (.sl false .i)]
abbrev o102:Ts:=[.v (.bool)]
abbrev F102:=FT i102 o102
abbrev g102:=mkG 102 i102 o102
abbrev lc102_0:Ts:=[.v (.sl false .i), .v (.sl false .i), .v (.int .i64)]
abbrev lb102_0:Ts:=[]
abbrev lv102_0:Ts:=[.v (.int .i64)]
abbrev lr102_0:Ts:=[.v (.bool)]
abbrev R102_0:=Option (Sum (PTup lv102_0) (PTup lr102_0)×BTup lb102_0)
abbrev B102_0:=PTup lb102_0→PTup lv102_0→R102_0
abbrev A102_0:=PTup lc102_0→B102_0
noncomputable def w102_0 (again:B102_0) (x:PTup lc102_0) (y:PTup lb102_0) (z:PTup lv102_0):R102_0:=
  bif (ltI z.1 x.2.2.1)then (bif (leI 0 z.1)then (bif (ltI z.1 (lenI x.1))then (bif (leI 0 z.1)then (bif (ltI z.1 (lenI x.2.1))then (bif (neI (rdE .i x.1 z.1) (rdE .i x.2.1 z.1))then (some ((Sum.inr (false,())),()))
       else again () ((wI (z.1+1)),()))
      else none)
     else none)
    else none)
   else none)
  else some ((Sum.inl z),())
noncomputable def e102_0 (l:A102_0):Zbb:=⟨[0,1,12],lc102_0,[],lb102_0,[13],lv102_0,[4],lr102_0,0,[],l⟩
noncomputable def m102 (l0:A102_0) (y:PTup i102):Option (PTup o102×BTup i102):=
  bif (neI (lenI y.1) (lenI y.2.1))then no
  else (l0 (y.1,(y.2.1,((lenI y.1),()))) () ((0:Int),())).bind fun r0=>
  Zai r0.1 (fun r1=>some ((true,()),()))
  (fun r1=>some (r1,()))
noncomputable def E102 (l0:A102_0):CEnv:=⟨⟨Tryz.prog,fnsL []⟩,Za9 [(4,e102_0 l0)]⟩
theorem t102_0 (l0:A102_0) (again) (x y z):Zak (E102 l0) (Zaf (Zag Tryz.f102) 0) (e102_0 l0) Tryz.f102.ntmps again x y z=w102_0 again x y z:=by kernel_rfl
noncomputable def n102_0:Nat→A102_0
  |0,_,_,_=>none
  |n+1,x,y,z=>w102_0 (fun y z=>n102_0 n x y z) x y z
theorem s102 (l0:A102_0) (y):tevF (E102 l0) Tryz.f102 i102 o102 y=m102 l0 y:=by kernel_rfl
noncomputable def L102_0:A102_0:=n102_0 fuel
noncomputable def r102:F102:=m102 L102_0
theorem k102:KO (g102 r102):=by
  have hE: ∀g f,(E102 L102_0).env.fns g=some f→Zal Tryz.prog g f:=ZaE trivial
  have h0:ZaS Tryz.prog Tryz.f102.ntmps (Zaf (Zag Tryz.f102) 0) (e102_0 L102_0):=ZbS (E:=E102 L102_0) rfl hE mixed (Zad.of_list (l:=[]) (by kernel_rfl) trivial) (n102_0) (fun _ _ _=>rfl) (fun n x y z=>t102_0 L102_0 _ x y z) rfl
  exact Zcd (E:=E102 L102_0) rfl hE mixed (by kernel_rfl) (by kernel_rfl) (Zad.of_list (l:=[(Zaf (Zag Tryz.f102) 0)]) (by kernel_rfl) (.one (by kernel_rfl) h0 trivial)) (s102 L102_0)
abbrev i101:Ts:=[.a q2, .a q2]
abbrev o101:Ts:=[.v (.bool)]
abbrev F101:=FT i101 o101
abbrev g101:=mkG 101 i101 o101
noncomputable def m101 (c102:F102) (y:PTup i101):Option (PTup o101×BTup i101):=
  bif (eqI y.1.2.1 y.2.1.2.1)then ((c102 (y.1.1,(y.2.1.1,()))).bind fun r0=>
   some (r0.1,()))
  else no
theorem s101 (c102:F102) (y):TE [g102 c102] Tryz.f101 i101 o101 y=m101 c102 y:=by kernel_rfl
noncomputable def r101:F101:=m101 r102
theorem k101:KO (g101 r101):=fk (s101 r102) ⟨k102,⟨⟩⟩ (by kernel_rfl)
abbrev i54:Ts:=[.a q10]
abbrev o54:Ts:=[.v (.bool)]
abbrev F54:=FT i54 o54
abbrev g54:=mkG 54 i54 o54
noncomputable def m54 (c100:F100) (c99:F99) (c101:F101) (c102:F102) (y:PTup i54):Option (PTup o54×BTup i54):=
  (c99 (y.1,())).bind fun r0=>
  bif (!r0.1.1)then no
  else (c100 (y.1,())).bind fun r1=>
  bif ((eqI y.1.2.2.2.2.1 r1.1.1.2.2.2.2.1)&&((eqI y.1.2.2.2.2.2.1 r1.1.1.2.2.2.2.2.1)&&((eqI y.1.2.2.2.2.2.2.1 r1.1.1.2.2.2.2.2.2.1)&&((eqI y.1.2.2.2.2.2.2.2.1 r1.1.1.2.2.2.2.2.2.2.1)&&((y.1.2.2.2.2.2.2.2.2.1==r1.1.1.2.2.2.2.2.2.2.2.1)&&((y.1.2.2.2.2.2.2.2.2.2.1==r1.1.1.2.2.2.2.2.2.2.2.2.1)&&((y.1.2.2.2.2.2.2.2.2.2.2.1==r1.1.1.2.2.2.2.2.2.2.2.2.2.1)&&((y.1.2.2.2.2.2.2.2.2.2.2.2.1==r1.1.1.2.2.2.2.2.2.2.2.2.2.2.1)&&true))))))))then (bif ((y.1.2.2.2.2.2.2.2.2.2.2.2.2.1==r1.1.1.2.2.2.2.2.2.2.2.2.2.2.2.2.2.2.2.2.2.2.2.2.2.2.2.2.2.2.1)&&((eqI y.1.2.2.2.2.2.2.2.2.2.2.2.2.2.1 r1.1.1.2.2.2.2.2.2.2.2.2.2.2.2.2.2.2.2.2.2.2.2.2.2.2.2.2.2.2.2.1)&&true))then (bif (y.1.2.2.2.2.2.2.2.2.2.2.2.2.2.2.2.1==r1.1.1.2.2.2.2.2.2.2.2.2.2.2.2.2.2.2.2.2.2.2.2.2.2.2.2.2.2.2.2.2.1)then (bif (eqI y.1.2.2.2.2.2.2.2.2.2.2.2.2.2.2.1 r1.1.1.2.2.2.2.2.2.2.2.2.2.2.2.1)then ((c101 ((y.1.2.2.1,(y.1.2.2.2.1,())),((r1.1.1.2.2.1,(r1.1.1.2.2.2.1,())),()))).bind fun r2=>
      bif r2.1.1 then ((c102 (y.1.2.2.2.2.2.2.2.2.2.2.2.2.2.2.2.2.2.2.2.2.1,r1.1.1.2.2.2.2.2.2.2.2.2.2.2.2.2.2.2.2.2.2.2.2.2.2.2.2.2.2.2.2.2.2.2.2.2)).bind fun r3=>
       some (r3.1,()))
      else no)
     else no)
    else no)
   else no)
  else no
theorem s54 (c100:F100) (c99:F99) (c101:F101) (c102:F102) (y):TE [g100 c100,g99 c99,g101 c101,g102 c102] Tryz.f54 i54 o54 y=m54 c100 c99 c101 c102 y:=by kernel_rfl
noncomputable def r54:F54:=m54 r100 r99 r101 r102
theorem k54:KO (g54 r54):=fk (s54 r100 r99 r101 r102) ⟨k100,k99,k101,k102,⟨⟩⟩ (by kernel_rfl)
end Go.Proofs.YtmlahgmhbdpkjaaGreatDoor.Plain
