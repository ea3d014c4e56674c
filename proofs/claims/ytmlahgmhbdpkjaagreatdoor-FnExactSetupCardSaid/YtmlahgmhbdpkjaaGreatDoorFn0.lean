/- Plain functions that the program's functions answer as; their contracts. Printed by a program of the proofs' writer. No condition. -/
import Derived.Test.YtmlahgmhbdpkjaaGreatDoorX
import Derived.KernelRfl
import Derived.Test.YtmlahgmhbdpkjaaGreatDoorProg
set_option linter.unusedVariables false
set_option linter.unusedSimpArgs false
set_option maxRecDepth 100000
namespace Go.Proofs.YtmlahgmhbdpkjaaGreatDoor.Plain
open Go Go.Tev
theorem mixed : Tryz.prog.follows .mixedOrders = true := by kernel_rfl
noncomputable abbrev mkE (l : List (Nat × Tev.Fn)) : CEnv := ⟨⟨Tryz.prog, fnsL l⟩, ZaV []⟩
abbrev FT (i o : List Ty) := PTup i → Option (PTup o × BTup i)
abbrev Ts := List Ty
abbrev bz (l : List UInt8) : ByteArray := ⟨⟨l⟩⟩
noncomputable abbrev TE (l : List (Nat × Tev.Fn)) (f : Func) (i o : List Ty) := tevF (mkE l) f i o
abbrev no : Option ((Bool × Unit) × Unit) := some ((false, ()), ())
abbrev mkG (k : Nat) (i o : List Ty) (c : FT i o) : Nat × Tev.Fn := (k, ⟨i, o, c, .nor⟩)
abbrev KO (x : Nat × Tev.Fn) : Prop := CK Tryz.prog x
theorem fk {l : List (Nat × Tev.Fn)} {g : FuncId} {f : Func} {i o : List Ty} {run : FT i o} (h : ∀ y, tevF (mkE l) f i o y = run y) (hE : Zir Tryz.prog l) (hg : (Tryz.prog.funcs[g]?, Zen f i o && (Zco (Zaf f)).isEmpty) = (some f, true)) : KO (mkG g i o run) := by
  have hs := congrArg Prod.snd hg
  dsimp only at hs
  rw [Bool.and_eq_true, List.isEmpty_iff] at hs
  exact fn0 h (Zaw hE) rfl mixed (congrArg Prod.fst hg) hs.1 hs.2
abbrev i134 : Ts := [.v (.int .i64)]
abbrev o134 : Ts := [.v .str]
abbrev F134 := FT i134 o134
abbrev g134 (c : F134) : Nat × Tev.Fn := mkG 134 i134 o134 c
noncomputable def r134 : F134 := ZmV.run
theorem k134 : KO (g134 r134) := ZpD
abbrev i42 : Ts := [.v .str, .v .str]
abbrev o42 : Ts := [.v .str, .v .bool]
abbrev F42 := FT i42 o42
abbrev g42 (c : F42) : Nat × Tev.Fn := mkG 42 i42 o42 c
noncomputable def r42 : F42 := Zdd.run
theorem k42 : KO (g42 r42) := ZlJ
abbrev i89 : Ts := [.v .str, .v .str]
abbrev o89 : Ts := [.v .str, .v .str, .v .bool]
abbrev F89 := FT i89 o89
abbrev g89 (c : F89) : Nat × Tev.Fn := mkG 89 i89 o89 c
noncomputable def r89 : F89 := cutF.run
theorem k89 : KO (g89 r89) := cutK
abbrev i85 : Ts := [.v .str, .v .str]
abbrev o85 : Ts := [.v (.sl true .s)]
abbrev F85 := FT i85 o85
abbrev g85 (c : F85) : Nat × Tev.Fn := mkG 85 i85 o85 c
noncomputable def r85 : F85 := Zj3.run
theorem k85 : KO (g85 r85) := splitK
abbrev i43 : Ts := [.v .str, .v (.int .i64)]
abbrev o43 : Ts := [.v (.int .i64), .v .bool]
abbrev F43 := FT i43 o43
abbrev g43 (c : F43) : Nat × Tev.Fn := mkG 43 i43 o43 c
noncomputable def r43 : F43 := Zn2.run
theorem k43 : KO (g43 r43) := ZpJ
abbrev q0 : List LT := [.sl false .n]
abbrev q1 : List LT := [.sl true .i, .int .i64]
abbrev q2 : List LT := [.sl false .i, .int .i64]
abbrev q3 : List LT := [.int .i64, .int .i64, .int .i64, .int .i64, .bool, .bool, .bool, .bool]
abbrev q4 : List LT := [.int .i64, .int .i64, .int .i64, .int .i64, .int .i64, .bool, .sl true .i, .sl true .i]
abbrev q5 : List LT := [.int .i64, .int .i64, .int .i64, .int .i64, .int .i64, .bool, .sl false .i, .sl false .i]
abbrev q6 : List LT := [.int .i64, .sl false .t]
abbrev q7 : List LT := [.int .i64, .int .i64, .int .i64, .int .i64, .int .i64, .bool, .sl false .i, .sl false .i, .int .i64, .sl false .t, .sl false .n]
abbrev q8 : List LT := [.int .i64, .int .i64, .int .i64, .int .i64, .int .i64, .bool, .bool]
abbrev q9 : List LT := [.int .i64, .int .i64, .int .i64, .int .i64, .int .i64, .bool, .bool, .int .i64, .sl false .t, .sl false .i]
abbrev q10 : List LT := [.sl false .n, .sl false .i, .sl false .i, .int .i64, .int .i64, .int .i64, .int .i64, .int .i64, .bool, .bool, .bool, .bool, .bool, .int .i64, .int .i64, .bool, .int .i64, .bool, .int .i64, .int .i64, .sl false .i, .int .i64, .int .i64, .int .i64, .int .i64, .int .i64, .bool, .sl false .i, .sl false .i, .int .i64, .sl false .t, .sl false .n, .int .i64, .int .i64, .int .i64, .int .i64, .int .i64, .bool, .bool, .int .i64, .sl false .t, .sl false .i]
abbrev q11 : List LT := [.sl true .n, .sl true .i, .sl true .i, .int .i64, .int .i64, .int .i64, .int .i64, .int .i64, .bool, .bool, .bool, .bool, .bool, .int .i64, .int .i64, .bool, .int .i64, .bool, .int .i64, .int .i64, .sl true .i, .int .i64, .int .i64, .int .i64, .int .i64, .int .i64, .bool, .sl true .i, .sl true .i, .int .i64, .sl true .t, .sl true .n, .int .i64, .int .i64, .int .i64, .int .i64, .int .i64, .bool, .bool, .int .i64, .sl true .t, .sl true .i]
abbrev q12 : List LT := [.int .i64, .sl true .t]
abbrev q13 : List LT := [.int .i64, .int .i64, .int .i64, .int .i64, .int .i64, .bool, .sl true .i, .sl true .i, .int .i64, .sl true .t, .sl true .n]
abbrev q14 : List LT := [.int .i64, .int .i64, .int .i64, .int .i64, .int .i64, .bool, .bool, .int .i64, .sl true .t, .sl true .i]
abbrev i6:Ts:=[.v (.sl false .i)]
abbrev o6:Ts:=[.v (.sl true .i)]
abbrev F6:=FT i6 o6
abbrev g6:=mkG 6 i6 o6
abbrev lc6_0:Ts:=[.v (.sl false .i)]
abbrev lb6_0:Ts:=[]
abbrev lv6_0:Ts:=[.v (.int .i64), .v (.sl true .i)]
abbrev lr6_0:Ts:=[]
abbrev R6_0:=Option (Sum (PTup lv6_0) (PTup lr6_0)×BTup lb6_0)
abbrev B6_0:=PTup lb6_0→PTup lv6_0→R6_0
abbrev A6_0:=PTup lc6_0→B6_0
noncomputable def w6_0 (again:B6_0) (x:PTup lc6_0) (y:PTup lb6_0) (z:PTup lv6_0):R6_0:=
  bif (ltI z.1 (lenI x.1))then (bif (leI 0 z.1)then (bif (ltI z.1 (lenI x.1))then (bif (leI 0 z.1)then (bif (ltI z.1 (lenI z.2.1))then (again () ((wI (z.1+1)),((List.set z.2.1 (Int.toNat z.1) (rdE .i x.1 z.1)),())))
      else none)
     else none)
    else none)
   else none)
  else some ((Sum.inl z),())
noncomputable def e6_0 (l:A6_0):ZaX:=⟨[0],lc6_0,[],lb6_0,[4,3],lv6_0,[],lr6_0,0,[],l⟩
noncomputable def m6 (l0:A6_0) (y:PTup i6):Option (PTup o6×BTup i6):=
  bif (leN (Int.toNat (lenI y.1)) (E.most .i))then ((l0 y () ((0:Int),((List.replicate (Int.toNat (lenI y.1)) (0:Int)),()))).bind fun r0=>
   Zah r0.1 (fun r1=>some (r1.2,()))
   (fun r1=>some (([],()),())))
  else none
noncomputable def E6 (l0:A6_0):CEnv:=⟨⟨Tryz.prog,fnsL []⟩,ZaV [(3,e6_0 l0)]⟩
theorem t6_0 (l0:A6_0) (again) (x y z):Zai (E6 l0) (Zae (Zaf Tryz.f6) 0) (e6_0 l0) Tryz.f6.ntmps again x y z=w6_0 again x y z:=by kernel_rfl
noncomputable def n6_0:Nat→A6_0
  |0,_,_,_=>none
  |n+1,x,y,z=>w6_0 (fun y z=>n6_0 n x y z) x y z
theorem s6 (l0:A6_0) (y):tevF (E6 l0) Tryz.f6 i6 o6 y=m6 l0 y:=by kernel_rfl
noncomputable def L6_0:A6_0:=n6_0 fuel
noncomputable def r6:F6:=m6 L6_0
theorem k6:KO (g6 r6):=by
  have hE: ∀g f,(E6 L6_0).env.fns g=some f→Zak Tryz.prog g f:=Zaw trivial
  have h0:ZaI Tryz.prog Tryz.f6.ntmps (Zae (Zaf Tryz.f6) 0) (e6_0 L6_0):=Zbr (E:=E6 L6_0) rfl hE mixed (Zab.of_list (l:=[]) (by kernel_rfl) trivial) (n6_0) (fun _ _ _=>rfl) (fun n x y z=>t6_0 L6_0 _ x y z) rfl
  exact ZbV (E:=E6 L6_0) rfl hE mixed (by kernel_rfl) (by kernel_rfl) (Zab.of_list (l:=[(Zae (Zaf Tryz.f6) 0)]) (by kernel_rfl) (.one (by kernel_rfl) h0 trivial)) (s6 L6_0)
abbrev i190:Ts:=[.v (.int .i64)]
abbrev o190:Ts:=[.v (.str)]
abbrev F190:=FT i190 o190
abbrev g190:=mkG 190 i190 o190
abbrev lc190_0:Ts:=[]
abbrev lb190_0:Ts:=[]
abbrev lv190_0:Ts:=[.v (.int .i64), .v (.str)]
abbrev lr190_0:Ts:=[]
abbrev R190_0:=Option (Sum (PTup lv190_0) (PTup lr190_0)×BTup lb190_0)
abbrev B190_0:=PTup lb190_0→PTup lv190_0→R190_0
abbrev A190_0:=PTup lc190_0→B190_0
noncomputable def w190_0 (again:B190_0) (x:PTup lc190_0) (y:PTup lb190_0) (z:PTup lv190_0):R190_0:=
  bif (ltI 0 z.1)then (bif (leN ((ByteArray.size (ZfT ((wB (wI ((48:Int)+(Int.tmod z.1 10))))::[])))+(ByteArray.size z.2.1)) (4611686018427387904:Nat))then (again () ((wI (Int.tdiv z.1 10)),(((ZfT ((wB (wI ((48:Int)+(Int.tmod z.1 10))))::[]))++z.2.1),())))
   else none)
  else some ((Sum.inl z),())
noncomputable def e190_0 (l:A190_0):ZaX:=⟨[],lc190_0,[],lb190_0,[0,3],lv190_0,[],lr190_0,0,[],l⟩
noncomputable def m190 (l0:A190_0) (y:PTup i190):Option (PTup o190×BTup i190):=
  bif (eqI y.1 0)then (some (((bz [48]),()),()))
  else (l0 () () (y.1,((bz []),()))).bind fun r0=>
  Zah r0.1 (fun r1=>some (r1.2,()))
  (fun r1=>some (((bz []),()),()))
noncomputable def E190 (l0:A190_0):CEnv:=⟨⟨Tryz.prog,fnsL []⟩,ZaV [(4,e190_0 l0)]⟩
theorem t190_0 (l0:A190_0) (again) (x y z):Zai (E190 l0) (Zae (Zaf Tryz.f190) 0) (e190_0 l0) Tryz.f190.ntmps again x y z=w190_0 again x y z:=by kernel_rfl
noncomputable def n190_0:Nat→A190_0
  |0,_,_,_=>none
  |n+1,x,y,z=>w190_0 (fun y z=>n190_0 n x y z) x y z
theorem s190 (l0:A190_0) (y):tevF (E190 l0) Tryz.f190 i190 o190 y=m190 l0 y:=by kernel_rfl
noncomputable def L190_0:A190_0:=n190_0 fuel
noncomputable def r190:F190:=m190 L190_0
theorem k190:KO (g190 r190):=by
  have hE: ∀g f,(E190 L190_0).env.fns g=some f→Zak Tryz.prog g f:=Zaw trivial
  have h0:ZaI Tryz.prog Tryz.f190.ntmps (Zae (Zaf Tryz.f190) 0) (e190_0 L190_0):=Zbr (E:=E190 L190_0) rfl hE mixed (Zab.of_list (l:=[]) (by kernel_rfl) trivial) (n190_0) (fun _ _ _=>rfl) (fun n x y z=>t190_0 L190_0 _ x y z) rfl
  exact ZbV (E:=E190 L190_0) rfl hE mixed (by kernel_rfl) (by kernel_rfl) (Zab.of_list (l:=[(Zae (Zaf Tryz.f190) 0)]) (by kernel_rfl) (.one (by kernel_rfl) h0 trivial)) (s190 L190_0)
abbrev i151:Ts:=[.v (.str)]
abbrev o151:Ts:=[.v (.int .i64)]
abbrev F151:=FT i151 o151
abbrev g151:=mkG 151 i151 o151
abbrev lc151_0:Ts:=[.v (.str)]
abbrev lb151_0:Ts:=[]
abbrev lv151_0:Ts:=[.v (.int .i64), .v (.int .i64)]
abbrev lr151_0:Ts:=[.v (.int .i64)]
abbrev R151_0:=Option (Sum (PTup lv151_0) (PTup lr151_0)×BTup lb151_0)
abbrev B151_0:=PTup lb151_0→PTup lv151_0→R151_0
abbrev A151_0:=PTup lc151_0→B151_0
noncomputable def w151_0 (c190:F190) (again:B151_0) (x:PTup lc151_0) (y:PTup lb151_0) (z:PTup lv151_0):R151_0:=
  bif (ltI z.2.1 ((((ByteArray.size x.1):Nat)):Int))then (bif (leI 0 z.2.1)then (bif (ltI z.2.1 ((((ByteArray.size x.1):Nat)):Int))then (bif (ltI (bt x.1 z.2.1) 48)then (some ((Sum.inr ((-(1:Int)),())),()))
     else bif (leI 0 z.2.1)then (bif (ltI z.2.1 ((((ByteArray.size x.1):Nat)):Int))then (bif (ltI 57 (bt x.1 z.2.1))then (some ((Sum.inr ((-(1:Int)),())),()))
       else bif (leI 0 z.2.1)then (bif (ltI z.2.1 ((((ByteArray.size x.1):Nat)):Int))then (again () ((wI ((wI ((wI ((10:Int)*z.1))+(wI (bt x.1 z.2.1))))-48)),((wI (z.2.1+1)),())))
        else none)
       else none)
      else none)
     else none)
    else none)
   else none)
  else some ((Sum.inl z),())
noncomputable def e151_0 (l:A151_0):ZaX:=⟨[0],lc151_0,[],lb151_0,[3,4],lv151_0,[2],lr151_0,0,[],l⟩
noncomputable def m151 (c190:F190) (l0:A151_0) (y:PTup i151):Option (PTup o151×BTup i151):=
  bif ((ByteArray.toList y.1)==(ByteArray.toList (bz [])))then (some (((-(1:Int)),()),()))
  else bif (ltI 5 ((((ByteArray.size y.1):Nat)):Int))then (some (((-(1:Int)),()),()))
  else (l0 y () ((0:Int),((0:Int),()))).bind fun r0=>
  Zah r0.1 (fun r1=>(c190 (r1.1,())).bind fun r2=>
   bif (!((ByteArray.toList r2.1.1)==(ByteArray.toList y.1)))then (some (((-(1:Int)),()),()))
   else some ((r1.1,()),()))
  (fun r1=>some (r1,()))
noncomputable def E151 (c190:F190) (l0:A151_0):CEnv:=⟨⟨Tryz.prog,fnsL [g190 c190]⟩,ZaV [(5,e151_0 l0)]⟩
theorem t151_0 (c190:F190) (l0:A151_0) (again) (x y z):Zai (E151 c190 l0) (Zae (Zaf Tryz.f151) 0) (e151_0 l0) Tryz.f151.ntmps again x y z=w151_0 c190 again x y z:=by kernel_rfl
noncomputable def n151_0 (c190:F190):Nat→A151_0
  |0,_,_,_=>none
  |n+1,x,y,z=>w151_0 c190 (fun y z=>n151_0 c190 n x y z) x y z
theorem s151 (c190:F190) (l0:A151_0) (y):tevF (E151 c190 l0) Tryz.f151 i151 o151 y=m151 c190 l0 y:=by kernel_rfl
noncomputable def L151_0:A151_0:=n151_0 r190 fuel
noncomputable def r151:F151:=m151 r190 L151_0
theorem k151:KO (g151 r151):=by
  have hE: ∀g f,(E151 r190 L151_0).env.fns g=some f→Zak Tryz.prog g f:=Zaw ⟨k190,⟨⟩⟩
  have h0:ZaI Tryz.prog Tryz.f151.ntmps (Zae (Zaf Tryz.f151) 0) (e151_0 L151_0):=Zbr (E:=E151 r190 L151_0) rfl hE mixed (Zab.of_list (l:=[]) (by kernel_rfl) trivial) (n151_0 r190) (fun _ _ _=>rfl) (fun n x y z=>t151_0 r190 L151_0 _ x y z) rfl
  exact ZbV (E:=E151 r190 L151_0) rfl hE mixed (by kernel_rfl) (by kernel_rfl) (Zab.of_list (l:=[(Zae (Zaf Tryz.f151) 0)]) (by kernel_rfl) (.one (by kernel_rfl) h0 trivial)) (s151 r190 L151_0)
abbrev i110:Ts:=[.v (.str)]
abbrev o110:Ts:=[.v (.str), .v (.int .i64), .v (.bool)]
abbrev F110:=FT i110 o110
abbrev g110:=mkG 110 i110 o110
abbrev lc110_0:Ts:=[.v (.str)]
abbrev lb110_0:Ts:=[]
abbrev lv110_0:Ts:=[.v (.int .i64)]
abbrev lr110_0:Ts:=[.v (.str), .v (.int .i64), .v (.bool)]
abbrev R110_0:=Option (Sum (PTup lv110_0) (PTup lr110_0)×BTup lb110_0)
abbrev B110_0:=PTup lb110_0→PTup lv110_0→R110_0
abbrev A110_0:=PTup lc110_0→B110_0
noncomputable def w110_0 (c151:F151) (again:B110_0) (x:PTup lc110_0) (y:PTup lb110_0) (z:PTup lv110_0):R110_0:=
  bif (ltI z.1 ((((ByteArray.size x.1):Nat)):Int))then (bif (leI 0 z.1)then (bif (ltI z.1 ((((ByteArray.size x.1):Nat)):Int))then (bif (eqI (bt x.1 z.1) 32)then (bif (leI 0 (wI (z.1+1)))then (bif (leI (wI (z.1+1)) ((((ByteArray.size x.1):Nat)):Int))then ((c151 ((ByteArray.extract x.1 (Int.toNat (wI (z.1+1))) (ByteArray.size x.1)),())).bind fun r0=>
        bif (leI 0 z.1)then (bif (leI z.1 ((((ByteArray.size x.1):Nat)):Int))then (some ((Sum.inr ((ByteArray.extract x.1 (0:Nat) (Int.toNat z.1)),(r0.1.1,((leI 0 r0.1.1),())))),()))
         else none)
        else none)
       else none)
      else none)
     else again () ((wI (z.1+1)),()))
    else none)
   else none)
  else some ((Sum.inl z),())
noncomputable def e110_0 (l:A110_0):ZaX:=⟨[0],lc110_0,[],lb110_0,[5],lv110_0,[2,3,4],lr110_0,0,[],l⟩
noncomputable def m110 (c151:F151) (l0:A110_0) (y:PTup i110):Option (PTup o110×BTup i110):=
  (l0 y () ((0:Int),())).bind fun r0=>
  Zah r0.1 (fun r1=>some ((y.1,((-(1:Int)),(true,()))),()))
  (fun r1=>some (r1,()))
noncomputable def E110 (c151:F151) (l0:A110_0):CEnv:=⟨⟨Tryz.prog,fnsL [g151 c151]⟩,ZaV [(2,e110_0 l0)]⟩
theorem t110_0 (c151:F151) (l0:A110_0) (again) (x y z):Zai (E110 c151 l0) (Zae (Zaf Tryz.f110) 0) (e110_0 l0) Tryz.f110.ntmps again x y z=w110_0 c151 again x y z:=by kernel_rfl
noncomputable def n110_0 (c151:F151):Nat→A110_0
  |0,_,_,_=>none
  |n+1,x,y,z=>w110_0 c151 (fun y z=>n110_0 c151 n x y z) x y z
theorem s110 (c151:F151) (l0:A110_0) (y):tevF (E110 c151 l0) Tryz.f110 i110 o110 y=m110 c151 l0 y:=by kernel_rfl
noncomputable def L110_0:A110_0:=n110_0 r151 fuel
noncomputable def r110:F110:=m110 r151 L110_0
theorem k110:KO (g110 r110):=by
  have hE: ∀g f,(E110 r151 L110_0).env.fns g=some f→Zak Tryz.prog g f:=Zaw ⟨k151,⟨⟩⟩
  have h0:ZaI Tryz.prog Tryz.f110.ntmps (Zae (Zaf Tryz.f110) 0) (e110_0 L110_0):=Zbr (E:=E110 r151 L110_0) rfl hE mixed (Zab.of_list (l:=[]) (by kernel_rfl) trivial) (n110_0 r151) (fun _ _ _=>rfl) (fun n x y z=>t110_0 r151 L110_0 _ x y z) rfl
  exact ZbV (E:=E110 r151 L110_0) rfl hE mixed (by kernel_rfl) (by kernel_rfl) (Zab.of_list (l:=[(Zae (Zaf Tryz.f110) 0)]) (by kernel_rfl) (.one (by kernel_rfl) h0 trivial)) (s110 r151 L110_0)
abbrev i111:Ts:=[.v (.int .i64), .v (.int .i64), .v (.int .i64)]
abbrev o111:Ts:=[.v (.bool)]
abbrev F111:=FT i111 o111
abbrev g111:=mkG 111 i111 o111
noncomputable def m111 (y:PTup i111):Option (PTup o111×BTup i111):=
  bif (leI y.2.1 y.1)then (some (((leI y.1 y.2.2.1),()),()))
  else no
theorem s111 (y):TE [] Tryz.f111 i111 o111 y=m111 y:=by kernel_rfl
noncomputable def r111:F111:=m111
theorem k111:KO (g111 r111):=fk (s111) trivial (by kernel_rfl)
abbrev i152:Ts:=[]
abbrev o152:Ts:=[.v (.sl true .s)]
abbrev F152:=FT i152 o152
abbrev g152:=mkG 152 i152 o152
noncomputable def m152 (y:PTup i152):Option (PTup o152×BTup i152):=
  some ((((bz [110,111,112])::((bz [108,100,105])::((bz [108,100,97])::((bz [115,116,97])::((bz [97,100,105])::((bz [115,98,105])::((bz [97,110,105])::((bz [111,114,105])::((bz [120,114,105])::((bz [99,112,105])::((bz [116,97,120])::((bz [116,120,97])::((bz [105,110,120])::((bz [100,101,120])::((bz [108,97,120])::((bz [115,97,120])::((bz [98,110,101])::((bz [98,101,113])::((bz [98,99,115])::((bz [106,109,112])::((bz [106,115,114])::((bz [114,116,115])::((bz [112,104,97])::((bz [112,108,97])::((bz [114,116,105])::((bz [115,101,105])::((bz [99,108,105])::((bz [115,101,99])::((bz [99,108,99])::((bz [97,100,97])::[])))))))))))))))))))))))))))))),()),())
theorem s152 (y):TE [] Tryz.f152 i152 o152 y=m152 y:=by kernel_rfl
noncomputable def r152:F152:=m152
theorem k152:KO (g152 r152):=fk (s152) trivial (by kernel_rfl)
abbrev i112:Ts:=[.v (.str)]
abbrev o112:Ts:=[.v (.int .i64)]
abbrev F112:=FT i112 o112
abbrev g112:=mkG 112 i112 o112
abbrev lc112_0:Ts:=[.v (.str), .v (.sl false .s)]
abbrev lb112_0:Ts:=[]
abbrev lv112_0:Ts:=[.v (.int .i64)]
abbrev lr112_0:Ts:=[.v (.int .i64)]
abbrev R112_0:=Option (Sum (PTup lv112_0) (PTup lr112_0)×BTup lb112_0)
abbrev B112_0:=PTup lb112_0→PTup lv112_0→R112_0
abbrev A112_0:=PTup lc112_0→B112_0
noncomputable def w112_0 (c152:F152) (again:B112_0) (x:PTup lc112_0) (y:PTup lb112_0) (z:PTup lv112_0):R112_0:=
  bif (ltI z.1 (lenI x.2.1))then (bif (leI 0 z.1)then (bif (ltI z.1 (lenI x.2.1))then (bif ((ByteArray.toList (rdE .s x.2.1 z.1))==(ByteArray.toList x.1))then (some ((Sum.inr z),()))
     else again () ((wI (z.1+1)),()))
    else none)
   else none)
  else some ((Sum.inl z),())
noncomputable def e112_0 (l:A112_0):ZaX:=⟨[0,3],lc112_0,[],lb112_0,[4],lv112_0,[2],lr112_0,0,[],l⟩
noncomputable def m112 (c152:F152) (l0:A112_0) (y:PTup i112):Option (PTup o112×BTup i112):=
  (c152 ()).bind fun r0=>
  (l0 (y.1,r0.1) () ((0:Int),())).bind fun r1=>
  Zah r1.1 (fun r2=>some (((-(1:Int)),()),()))
  (fun r2=>some (r2,()))
noncomputable def E112 (c152:F152) (l0:A112_0):CEnv:=⟨⟨Tryz.prog,fnsL [g152 c152]⟩,ZaV [(3,e112_0 l0)]⟩
theorem t112_0 (c152:F152) (l0:A112_0) (again) (x y z):Zai (E112 c152 l0) (Zae (Zaf Tryz.f112) 0) (e112_0 l0) Tryz.f112.ntmps again x y z=w112_0 c152 again x y z:=by kernel_rfl
noncomputable def n112_0 (c152:F152):Nat→A112_0
  |0,_,_,_=>none
  |n+1,x,y,z=>w112_0 c152 (fun y z=>n112_0 c152 n x y z) x y z
theorem s112 (c152:F152) (l0:A112_0) (y):tevF (E112 c152 l0) Tryz.f112 i112 o112 y=m112 c152 l0 y:=by kernel_rfl
noncomputable def L112_0:A112_0:=n112_0 r152 fuel
noncomputable def r112:F112:=m112 r152 L112_0
theorem k112:KO (g112 r112):=by
  have hE: ∀g f,(E112 r152 L112_0).env.fns g=some f→Zak Tryz.prog g f:=Zaw ⟨k152,⟨⟩⟩
  have h0:ZaI Tryz.prog Tryz.f112.ntmps (Zae (Zaf Tryz.f112) 0) (e112_0 L112_0):=Zbr (E:=E112 r152 L112_0) rfl hE mixed (Zab.of_list (l:=[]) (by kernel_rfl) trivial) (n112_0 r152) (fun _ _ _=>rfl) (fun n x y z=>t112_0 r152 L112_0 _ x y z) rfl
  exact ZbV (E:=E112 r152 L112_0) rfl hE mixed (by kernel_rfl) (by kernel_rfl) (Zab.of_list (l:=[(Zae (Zaf Tryz.f112) 0)]) (by kernel_rfl) (.one (by kernel_rfl) h0 trivial)) (s112 r152 L112_0)
abbrev i113:Ts:=[.v (.int .i64)]
abbrev o113:Ts:=[.v (.int .i64)]
abbrev F113:=FT i113 o113
abbrev g113:=mkG 113 i113 o113
noncomputable def m113 (c111:F111) (y:PTup i113):Option (PTup o113×BTup i113):=
  (c111 (y.1,((0:Int),((29:Int),())))).bind fun r0=>
  bif (!r0.1.1)then (some (((1:Int),()),()))
  else bif (leI 0 y.1)then (bif (ltI y.1 (lenI ((1:Int)::((2:Int)::((3:Int)::((3:Int)::((2:Int)::((2:Int)::((2:Int)::((2:Int)::((2:Int)::((2:Int)::((1:Int)::((1:Int)::((1:Int)::((1:Int)::((3:Int)::((3:Int)::((3:Int)::((3:Int)::((3:Int)::((3:Int)::((3:Int)::((1:Int)::((1:Int)::((1:Int)::((1:Int)::((1:Int)::((1:Int)::((1:Int)::((1:Int)::((3:Int)::[]))))))))))))))))))))))))))))))))then (some (((rdE .i ((1:Int)::((2:Int)::((3:Int)::((3:Int)::((2:Int)::((2:Int)::((2:Int)::((2:Int)::((2:Int)::((2:Int)::((1:Int)::((1:Int)::((1:Int)::((1:Int)::((3:Int)::((3:Int)::((3:Int)::((3:Int)::((3:Int)::((3:Int)::((3:Int)::((1:Int)::((1:Int)::((1:Int)::((1:Int)::((1:Int)::((1:Int)::((1:Int)::((1:Int)::((3:Int)::[])))))))))))))))))))))))))))))) y.1),()),()))
   else none)
  else none
theorem s113 (c111:F111) (y):TE [g111 c111] Tryz.f113 i113 o113 y=m113 c111 y:=by kernel_rfl
noncomputable def r113:F113:=m113 r111
theorem k113:KO (g113 r113):=fk (s113 r111) ⟨k111,⟨⟩⟩ (by kernel_rfl)
abbrev i59:Ts:=[.v (.int .i64)]
abbrev o59:Ts:=[.v (.int .i64)]
abbrev F59:=FT i59 o59
abbrev g59:=mkG 59 i59 o59
noncomputable def m59 (y:PTup i59):Option (PTup o59×BTup i59):=
  some (((bAnd Go.IntKind.i64 y.1 (255:Int)),()),())
theorem s59 (y):TE [] Tryz.f59 i59 o59 y=m59 y:=by kernel_rfl
noncomputable def r59:F59:=m59
theorem k59:KO (g59 r59):=fk (s59) trivial (by kernel_rfl)
abbrev i58:Ts:=[.v (.str)]
abbrev o58:Ts:=[.v (.sl true .i), .v (.int .i64), .v (.bool)]
abbrev R58:=Option (PTup o58×BTup i58)
abbrev F58:=PTup i58→R58
abbrev g58:=mkG 58 i58 o58
noncomputable def m58 (c59:F59) (c113:F113) (c112:F112) (c111:F111) (c110:F110) (y:PTup i58):R58:=
  (c110 y).bind fun r0=>let X0:R58:=(c111 (r0.1.2.1,((0:Int),((255:Int),())))).bind fun r1=>bif (!r1.1.1)then (some (([],((-1),(false,()))),()))else bif ((ByteArray.toList r0.1.1)==(ByteArray.toList (bz [97,116])))then (some (([],(r0.1.2.1,(true,()))),()))else some (((r0.1.2.1::[]),((-1),(true,()))),());bif (!r0.1.2.2.1)then (some (([],((-1),(false,()))),()))else bif ((ByteArray.toList r0.1.1)==(ByteArray.toList (bz [97,116])))then X0 else bif ((ByteArray.toList r0.1.1)==(ByteArray.toList (bz [98,121,116,101])))then X0 else (c112 (r0.1.1,())).bind fun r1=>bif (ltI r1.1.1 0)then (some (([],((-1),(false,()))),()))else (c113 r1.1).bind fun r2=>bif (eqI r2.1.1 1)then (some (((r1.1.1::[]),((-1),((ltI r0.1.2.1 0),()))),()))else bif (eqI r2.1.1 2)then ((c59 (r0.1.2.1,())).bind fun r3=>(c111 (r0.1.2.1,((0:Int),((255:Int),())))).bind fun r4=>some (((r1.1.1::(r3.1.1::[])),((-1),r4.1)),()))else (c59 (r0.1.2.1,())).bind fun r3=>(c59 ((Int.fdiv r0.1.2.1 ((2:Int)^(Min.min (Int.toNat (8:Int)) (64:Nat)))),())).bind fun r4=>(c111 (r0.1.2.1,((0:Int),((65535:Int),())))).bind fun r5=>some (((r1.1.1::(r3.1.1::(r4.1.1::[]))),((-1),r5.1)),())
theorem s58 (c59:F59) (c113:F113) (c112:F112) (c111:F111) (c110:F110) (y):TE [g59 c59,g113 c113,g112 c112,g111 c111,g110 c110] Tryz.f58 i58 o58 y=m58 c59 c113 c112 c111 c110 y:=by kernel_rfl
noncomputable def r58:F58:=m58 r59 r113 r112 r111 r110
theorem k58:KO (g58 r58):=fk (s58 r59 r113 r112 r111 r110) ⟨k59,k113,k112,k111,k110,⟨⟩⟩ (by kernel_rfl)
abbrev i19:Ts:=[.v (.str)]
abbrev o19:Ts:=[.v (.sl true .i), .v (.int .i64)]
abbrev R19:=Option (PTup o19×BTup i19)
abbrev F19:=PTup i19→R19
abbrev g19:=mkG 19 i19 o19
abbrev lc19_0:Ts:=[.v (.sl false .i)]
abbrev lb19_0:Ts:=[]
abbrev lv19_0:Ts:=[.v (.int .i64), .v (.int .i64), .v (.sl true .i)]
abbrev lr19_0:Ts:=[]
abbrev R19_0:=Option (Sum (PTup lv19_0) (PTup lr19_0)×BTup lb19_0)
abbrev B19_0:=PTup lb19_0→PTup lv19_0→R19_0
abbrev A19_0:=PTup lc19_0→B19_0
noncomputable def w19_0 (c59:F59) (c58:F58) (again:B19_0) (x:PTup lc19_0) (y:PTup lb19_0) (z:PTup lv19_0):R19_0:=
  bif (ltI z.2.1 (lenI x.1))then ((c59 (z.1,())).bind fun r0=>
   bif (leI 0 z.2.1)then (bif (ltI z.2.1 (lenI x.1))then (bif (leI 0 r0.1.1)then (bif (ltI r0.1.1 (lenI z.2.2.1))then (again () ((wI (z.1+1)),((wI (z.2.1+1)),((List.set z.2.2.1 (Int.toNat r0.1.1) (rdE .i x.1 z.2.1)),()))))
      else none)
     else none)
    else none)
   else none)
  else some ((Sum.inl z),())
noncomputable def e19_0 (l:A19_0):ZaX:=⟨[10],lc19_0,[],lb19_0,[5,13,4],lv19_0,[],lr19_0,2,[],l⟩
abbrev lc19_1:Ts:=[.v (.str)]
abbrev lb19_1:Ts:=[]
abbrev lv19_1:Ts:=[.v (.int .i64), .v (.int .i64), .v (.int .i64), .v (.int .i64), .v (.sl true .i)]
abbrev lr19_1:Ts:=[.v (.sl true .i), .v (.int .i64)]
abbrev R19_1:=Option (Sum (PTup lv19_1) (PTup lr19_1)×BTup lb19_1)
abbrev B19_1:=PTup lb19_1→PTup lv19_1→R19_1
abbrev A19_1:=PTup lc19_1→B19_1
noncomputable def w19_1 (c59:F59) (c58:F58) (l0:A19_0) (again:B19_1) (x:PTup lc19_1) (y:PTup lb19_1) (z:PTup lv19_1):R19_1:=
  let X0:R19_1:=bif (leI 0 z.2.2.2.1)then (bif (leI z.2.2.2.1 ((((ByteArray.size x.1):Nat)):Int))then (bif (leI 0 z.2.1)then (bif (leI z.2.1 z.2.2.2.1)then (bif ((ByteArray.toList (ByteArray.extract x.1 (Int.toNat z.2.1) (Int.toNat z.2.2.2.1)))==(ByteArray.toList (bz [])))then (again () (z.1,((wI (z.2.2.2.1+1)),((wI (z.2.2.1+1)),((wI (z.2.2.2.1+1)),z.2.2.2.2)))))else (c58 ((ByteArray.extract x.1 (Int.toNat z.2.1) (Int.toNat z.2.2.2.1)),())).bind fun r0=>bif (!r0.1.2.2.1)then (some ((Sum.inr ([],((wI (z.2.2.1+1)),()))),()))else bif (leI 0 r0.1.2.1)then ((l0 (r0.1.1,()) () (r0.1.2.1,((0:Int),z.2.2.2.2))).bind fun r1=>Zah r1.1 (fun r2=>again () (r2.1,((wI (z.2.2.2.1+1)),((wI (z.2.2.1+1)),((wI (z.2.2.2.1+1)),r2.2.2))))) (fun r2=>none))else (l0 (r0.1.1,()) () (z.1,((0:Int),z.2.2.2.2))).bind fun r1=>Zah r1.1 (fun r2=>again () (r2.1,((wI (z.2.2.2.1+1)),((wI (z.2.2.1+1)),((wI (z.2.2.2.1+1)),r2.2.2))))) (fun r2=>none))else none)else none)else none)else none;let X1:R19_1:=bif (eqI z.2.2.2.1 ((((ByteArray.size x.1):Nat)):Int))then (bif (eqI z.2.1 ((((ByteArray.size x.1):Nat)):Int))then (again () (z.1,(z.2.1,(z.2.2.1,((wI (z.2.2.2.1+1)),z.2.2.2.2)))))else X0)else X0;bif (leI z.2.2.2.1 ((((ByteArray.size x.1):Nat)):Int))then (bif (ltI z.2.2.2.1 ((((ByteArray.size x.1):Nat)):Int))then (bif (leI 0 z.2.2.2.1)then (bif (ltI z.2.2.2.1 ((((ByteArray.size x.1):Nat)):Int))then (bif (neI (bt x.1 z.2.2.2.1) 10)then (again () (z.1,(z.2.1,(z.2.2.1,((wI (z.2.2.2.1+1)),z.2.2.2.2)))))else X1)else none)else none)else X1)else some ((Sum.inl z),())
noncomputable def e19_1 (l:A19_1):ZaX:=⟨[0],lc19_1,[],lb19_1,[5,6,7,8,4],lv19_1,[2,3],lr19_1,0,[],l⟩
noncomputable def m19 (c59:F59) (c58:F58) (l0:A19_0) (l1:A19_1) (y:PTup i19):R19:=
  bif (ltI 3000 ((((ByteArray.size y.1):Nat)):Int))then (some (([],((-(1:Int)),())),()))
  else (l1 y () ((0:Int),((0:Int),((0:Int),((0:Int),((List.replicate (Int.toNat (256:Int)) (0:Int)),())))))).bind fun r0=>
  Zah r0.1 (fun r1=>some ((r1.2.2.2.2.1,((0:Int),())),()))
  (fun r1=>some (r1,()))
noncomputable def E19 (c59:F59) (c58:F58) (l0:A19_0) (l1:A19_1):CEnv:=⟨⟨Tryz.prog,fnsL [g59 c59,g58 c58]⟩,ZaV [(19,e19_0 l0),(6,e19_1 l1)]⟩
theorem t19_0 (c59:F59) (c58:F58) (l0:A19_0) (l1:A19_1) (again) (x y z):Zai (E19 c59 c58 l0 l1) (Zae (Zae (Zaf Tryz.f19) 0) 0) (e19_0 l0) Tryz.f19.ntmps again x y z=w19_0 c59 c58 again x y z:=by kernel_rfl
noncomputable def n19_0 (c59:F59) (c58:F58):Nat→A19_0
  |0,_,_,_=>none
  |n+1,x,y,z=>w19_0 c59 c58 (fun y z=>n19_0 c59 c58 n x y z) x y z
theorem t19_1 (c59:F59) (c58:F58) (l0:A19_0) (l1:A19_1) (again) (x y z):Zai (E19 c59 c58 l0 l1) (Zae (Zaf Tryz.f19) 0) (e19_1 l1) Tryz.f19.ntmps again x y z=w19_1 c59 c58 l0 again x y z:=by kernel_rfl
noncomputable def n19_1 (c59:F59) (c58:F58) (l0:A19_0):Nat→A19_1
  |0,_,_,_=>none
  |n+1,x,y,z=>w19_1 c59 c58 l0 (fun y z=>n19_1 c59 c58 l0 n x y z) x y z
theorem s19 (c59:F59) (c58:F58) (l0:A19_0) (l1:A19_1) (y):tevF (E19 c59 c58 l0 l1) Tryz.f19 i19 o19 y=m19 c59 c58 l0 l1 y:=by kernel_rfl
noncomputable def L19_0:A19_0:=n19_0 r59 r58 fuel
noncomputable def L19_1:A19_1:=n19_1 r59 r58 L19_0 fuel
noncomputable def r19:F19:=m19 r59 r58 L19_0 L19_1
theorem k19:KO (g19 r19):=by
  have hE: ∀g f,(E19 r59 r58 L19_0 L19_1).env.fns g=some f→Zak Tryz.prog g f:=Zaw ⟨k59,k58,⟨⟩⟩
  have h0:ZaI Tryz.prog Tryz.f19.ntmps (Zae (Zae (Zaf Tryz.f19) 0) 0) (e19_0 L19_0):=Zbr (E:=E19 r59 r58 L19_0 L19_1) rfl hE mixed (Zab.of_list (l:=[]) (by kernel_rfl) trivial) (n19_0 r59 r58) (fun _ _ _=>rfl) (fun n x y z=>t19_0 r59 r58 L19_0 L19_1 _ x y z) rfl
  have h1:ZaI Tryz.prog Tryz.f19.ntmps (Zae (Zaf Tryz.f19) 0) (e19_1 L19_1):=Zbr (E:=E19 r59 r58 L19_0 L19_1) rfl hE mixed (Zab.of_list (l:=[(Zae (Zae (Zaf Tryz.f19) 0) 0)]) (by kernel_rfl) (.one (by kernel_rfl) h0 trivial)) (n19_1 r59 r58 L19_0) (fun _ _ _=>rfl) (fun n x y z=>t19_1 r59 r58 L19_0 L19_1 _ x y z) rfl
  exact ZbV (E:=E19 r59 r58 L19_0 L19_1) rfl hE mixed (by kernel_rfl) (by kernel_rfl) (Zab.of_list (l:=[(Zae (Zaf Tryz.f19) 0)]) (by kernel_rfl) (.one (by kernel_rfl) h1 trivial)) (s19 r59 r58 L19_0 L19_1)
abbrev i60:Ts:=[.a q0]
abbrev o60:Ts:=[.a [.sl true .n]]
abbrev F60:=FT i60 o60
abbrev g60:=mkG 60 i60 o60
abbrev lc60_0:Ts:=[]
abbrev lb60_0:Ts:=[.p q0, .p [.sl true .n]]
abbrev lv60_0:Ts:=[.v (.int .i64)]
abbrev lr60_0:Ts:=[]
abbrev R60_0:=Option (Sum (PTup lv60_0) (PTup lr60_0)×BTup lb60_0)
abbrev B60_0:=PTup lb60_0→PTup lv60_0→R60_0
abbrev A60_0:=PTup lc60_0→B60_0
noncomputable def w60_0 (again:B60_0) (x:PTup lc60_0) (y:PTup lb60_0) (z:PTup lv60_0):R60_0:=
  bif (ltI z.1 (lenI y.1.1))then (bif (leI 0 z.1)then (bif (ltI z.1 (lenI y.1.1))then (bif (leN (0+(List.length (rdE .n y.1.1 z.1))) (E.most .i))then (bif (leN ((List.length y.2.1.1)+(List.length (([]++(rdE .n y.1.1 z.1))::[]))) (E.most .n))then (again (y.1,(((y.2.1.1++(([]++(rdE .n y.1.1 z.1))::[])),()),())) ((wI (z.1+1)),()))
      else none)
     else none)
    else none)
   else none)
  else some ((Sum.inl z),(y.1,(y.2.1,())))
noncomputable def e60_0 (l:A60_0):ZaX:=⟨[],lc60_0,[1,3],lb60_0,[4],lv60_0,[],lr60_0,0,[],l⟩
noncomputable def m60 (l0:A60_0) (y:PTup i60):Option (PTup o60×BTup i60):=
  (l0 () (y.1,(([],()),())) ((0:Int),())).bind fun r0=>
  Zah r0.1 (fun r1=>some ((r0.2.2.1,()),()))
  (fun r1=>some ((([],()),()),()))
noncomputable def E60 (l0:A60_0):CEnv:=⟨⟨Tryz.prog,fnsL []⟩,ZaV [(3,e60_0 l0)]⟩
theorem t60_0 (l0:A60_0) (again) (x y z):Zai (E60 l0) (Zae (Zaf Tryz.f60) 0) (e60_0 l0) Tryz.f60.ntmps again x y z=w60_0 again x y z:=by kernel_rfl
noncomputable def n60_0:Nat→A60_0
  |0,_,_,_=>none
  |n+1,x,y,z=>w60_0 (fun y z=>n60_0 n x y z) x y z
theorem s60 (l0:A60_0) (y):tevF (E60 l0) Tryz.f60 i60 o60 y=m60 l0 y:=by kernel_rfl
noncomputable def L60_0:A60_0:=n60_0 fuel
noncomputable def r60:F60:=m60 L60_0
theorem k60:KO (g60 r60):=by
  have hE: ∀g f,(E60 L60_0).env.fns g=some f→Zak Tryz.prog g f:=Zaw trivial
  have h0:ZaI Tryz.prog Tryz.f60.ntmps (Zae (Zaf Tryz.f60) 0) (e60_0 L60_0):=Zbr (E:=E60 L60_0) rfl hE mixed (Zab.of_list (l:=[]) (by kernel_rfl) trivial) (n60_0) (fun _ _ _=>rfl) (fun n x y z=>t60_0 L60_0 _ x y z) rfl
  exact ZbV (E:=E60 L60_0) rfl hE mixed (by kernel_rfl) (by kernel_rfl) (Zab.of_list (l:=[(Zae (Zaf Tryz.f60) 0)]) (by kernel_rfl) (.one (by kernel_rfl) h0 trivial)) (s60 L60_0)
abbrev i61:Ts:=[]
abbrev o61:Ts:=[.a q1]
abbrev F61:=FT i61 o61
abbrev g61:=mkG 61 i61 o61
noncomputable def m61 (y:PTup i61):Option (PTup o61×BTup i61):=
  some ((((List.replicate (Int.toNat (512:Int)) (0:Int)),((0:Int),())),()),())
theorem s61 (y):TE [] Tryz.f61 i61 o61 y=m61 y:=by kernel_rfl
noncomputable def r61:F61:=m61
theorem k61:KO (g61 r61):=fk (s61) trivial (by kernel_rfl)
abbrev i154:Ts:=[.a q0]
abbrev o154:Ts:=[.v (.bool)]
abbrev F154:=FT i154 o154
abbrev g154:=mkG 154 i154 o154
abbrev lc154_0:Ts:=[.v (.int .i64)]
abbrev lb154_0:Ts:=[.p q0]
abbrev lv154_0:Ts:=[.v (.int .i64)]
abbrev lr154_0:Ts:=[.v (.bool)]
abbrev R154_0:=Option (Sum (PTup lv154_0) (PTup lr154_0)×BTup lb154_0)
abbrev B154_0:=PTup lb154_0→PTup lv154_0→R154_0
abbrev A154_0:=PTup lc154_0→B154_0
noncomputable def w154_0 (c111:F111) (again:B154_0) (x:PTup lc154_0) (y:PTup lb154_0) (z:PTup lv154_0):R154_0:=
  bif (ltI z.1 256)then (bif (leI 0 x.1)then (bif (ltI x.1 (lenI y.1.1))then (bif (leI 0 z.1)then (bif (ltI z.1 (lenI (rdE .n y.1.1 x.1)))then ((c111 ((rdI (rdE .n y.1.1 x.1) z.1),((0:Int),((255:Int),())))).bind fun r0=>
       bif (!r0.1.1)then (some ((Sum.inr (false,())),(y.1,())))
       else again (y.1,()) ((wI (z.1+1)),()))
      else none)
     else none)
    else none)
   else none)
  else some ((Sum.inl z),(y.1,()))
noncomputable def e154_0 (l:A154_0):ZaX:=⟨[3],lc154_0,[1],lb154_0,[4],lv154_0,[2],lr154_0,2,[],l⟩
abbrev lc154_1:Ts:=[]
abbrev lb154_1:Ts:=[.p q0]
abbrev lv154_1:Ts:=[.v (.int .i64)]
abbrev lr154_1:Ts:=[.v (.bool)]
abbrev R154_1:=Option (Sum (PTup lv154_1) (PTup lr154_1)×BTup lb154_1)
abbrev B154_1:=PTup lb154_1→PTup lv154_1→R154_1
abbrev A154_1:=PTup lc154_1→B154_1
noncomputable def w154_1 (c111:F111) (l0:A154_0) (again:B154_1) (x:PTup lc154_1) (y:PTup lb154_1) (z:PTup lv154_1):R154_1:=
  bif (ltI z.1 (lenI y.1.1))then (bif (leI 0 z.1)then (bif (ltI z.1 (lenI y.1.1))then (bif (neI (lenI (rdE .n y.1.1 z.1)) (256:Int))then (some ((Sum.inr (false,())),(y.1,())))
     else (l0 z (y.1,()) ((0:Int),())).bind fun r0=>
     Zah r0.1 (fun r1=>again (y.1,()) ((wI (z.1+1)),()))
     (fun r1=>some ((Sum.inr r1),(y.1,()))))
    else none)
   else none)
  else some ((Sum.inl z),(y.1,()))
noncomputable def e154_1 (l:A154_1):ZaX:=⟨[],lc154_1,[1],lb154_1,[3],lv154_1,[2],lr154_1,0,[],l⟩
noncomputable def m154 (c111:F111) (l0:A154_0) (l1:A154_1) (y:PTup i154):Option (PTup o154×BTup i154):=
  (l1 () (y.1,()) ((0:Int),())).bind fun r0=>
  Zah r0.1 (fun r1=>(c111 ((lenI y.1.1),((1:Int),((8:Int),())))).bind fun r2=>
   some (r2.1,()))
  (fun r1=>some (r1,()))
noncomputable def E154 (c111:F111) (l0:A154_0) (l1:A154_1):CEnv:=⟨⟨Tryz.prog,fnsL [g111 c111]⟩,ZaV [(7,e154_0 l0),(2,e154_1 l1)]⟩
theorem t154_0 (c111:F111) (l0:A154_0) (l1:A154_1) (again) (x y z):Zai (E154 c111 l0 l1) (Zae (Zae (Zaf Tryz.f154) 0) 0) (e154_0 l0) Tryz.f154.ntmps again x y z=w154_0 c111 again x y z:=by kernel_rfl
noncomputable def n154_0 (c111:F111):Nat→A154_0
  |0,_,_,_=>none
  |n+1,x,y,z=>w154_0 c111 (fun y z=>n154_0 c111 n x y z) x y z
theorem t154_1 (c111:F111) (l0:A154_0) (l1:A154_1) (again) (x y z):Zai (E154 c111 l0 l1) (Zae (Zaf Tryz.f154) 0) (e154_1 l1) Tryz.f154.ntmps again x y z=w154_1 c111 l0 again x y z:=by kernel_rfl
noncomputable def n154_1 (c111:F111) (l0:A154_0):Nat→A154_1
  |0,_,_,_=>none
  |n+1,x,y,z=>w154_1 c111 l0 (fun y z=>n154_1 c111 l0 n x y z) x y z
theorem s154 (c111:F111) (l0:A154_0) (l1:A154_1) (y):tevF (E154 c111 l0 l1) Tryz.f154 i154 o154 y=m154 c111 l0 l1 y:=by kernel_rfl
noncomputable def L154_0:A154_0:=n154_0 r111 fuel
noncomputable def L154_1:A154_1:=n154_1 r111 L154_0 fuel
noncomputable def r154:F154:=m154 r111 L154_0 L154_1
theorem k154:KO (g154 r154):=by
  have hE: ∀g f,(E154 r111 L154_0 L154_1).env.fns g=some f→Zak Tryz.prog g f:=Zaw ⟨k111,⟨⟩⟩
  have h0:ZaI Tryz.prog Tryz.f154.ntmps (Zae (Zae (Zaf Tryz.f154) 0) 0) (e154_0 L154_0):=Zbr (E:=E154 r111 L154_0 L154_1) rfl hE mixed (Zab.of_list (l:=[]) (by kernel_rfl) trivial) (n154_0 r111) (fun _ _ _=>rfl) (fun n x y z=>t154_0 r111 L154_0 L154_1 _ x y z) rfl
  have h1:ZaI Tryz.prog Tryz.f154.ntmps (Zae (Zaf Tryz.f154) 0) (e154_1 L154_1):=Zbr (E:=E154 r111 L154_0 L154_1) rfl hE mixed (Zab.of_list (l:=[(Zae (Zae (Zaf Tryz.f154) 0) 0)]) (by kernel_rfl) (.one (by kernel_rfl) h0 trivial)) (n154_1 r111 L154_0) (fun _ _ _=>rfl) (fun n x y z=>t154_1 r111 L154_0 L154_1 _ x y z) rfl
  exact ZbV (E:=E154 r111 L154_0 L154_1) rfl hE mixed (by kernel_rfl) (by kernel_rfl) (Zab.of_list (l:=[(Zae (Zaf Tryz.f154) 0)]) (by kernel_rfl) (.one (by kernel_rfl) h1 trivial)) (s154 r111 L154_0 L154_1)
abbrev i121:Ts:=[.v (.int .i64)]
abbrev o121:Ts:=[.v (.bool)]
abbrev F121:=FT i121 o121
abbrev g121:=mkG 121 i121 o121
noncomputable def m121 (c111:F111) (y:PTup i121):Option (PTup o121×BTup i121):=
  (c111 (y.1,((0:Int),((255:Int),())))).bind fun r0=>
  some (r0.1,())
theorem s121 (c111:F111) (y):TE [g111 c111] Tryz.f121 i121 o121 y=m121 c111 y:=by kernel_rfl
noncomputable def r121:F121:=m121 r111
theorem k121:KO (g121 r121):=fk (s121 r111) ⟨k111,⟨⟩⟩ (by kernel_rfl)
abbrev i117:Ts:=[.a q0, .a q2]
abbrev o117:Ts:=[.v (.bool)]
abbrev F117:=FT i117 o117
abbrev g117:=mkG 117 i117 o117
abbrev lc117_0:Ts:=[]
abbrev lb117_0:Ts:=[.p q2]
abbrev lv117_0:Ts:=[.v (.int .i64)]
abbrev lr117_0:Ts:=[.v (.bool)]
abbrev R117_0:=Option (Sum (PTup lv117_0) (PTup lr117_0)×BTup lb117_0)
abbrev B117_0:=PTup lb117_0→PTup lv117_0→R117_0
abbrev A117_0:=PTup lc117_0→B117_0
noncomputable def w117_0 (c154:F154) (c111:F111) (c121:F121) (again:B117_0) (x:PTup lc117_0) (y:PTup lb117_0) (z:PTup lv117_0):R117_0:=
  bif (ltI z.1 512)then (bif (leI 0 z.1)then (bif (ltI z.1 (lenI y.1.1))then ((c121 ((rdE .i y.1.1 z.1),())).bind fun r0=>
     bif (!r0.1.1)then (some ((Sum.inr (false,())),(y.1,())))
     else again (y.1,()) ((wI (z.1+1)),()))
    else none)
   else none)
  else some ((Sum.inl z),(y.1,()))
noncomputable def e117_0 (l:A117_0):ZaX:=⟨[],lc117_0,[3],lb117_0,[5],lv117_0,[4],lr117_0,0,[],l⟩
noncomputable def m117 (c154:F154) (c111:F111) (c121:F121) (l0:A117_0) (y:PTup i117):Option (PTup o117×BTup i117):=
  (c154 (y.1,())).bind fun r0=>
  bif (!r0.1.1)then no
  else bif (neI (lenI y.2.1.1) 512)then no
  else (c111 (y.2.1.2.1,((0:Int),((wI ((lenI y.1.1)-1)),())))).bind fun r1=>
  bif (!r1.1.1)then no
  else (l0 () (y.2.1,()) ((0:Int),())).bind fun r2=>
  Zah r2.1 (fun r3=>some ((true,()),()))
  (fun r3=>some (r3,()))
noncomputable def E117 (c154:F154) (c111:F111) (c121:F121) (l0:A117_0):CEnv:=⟨⟨Tryz.prog,fnsL [g154 c154,g111 c111,g121 c121]⟩,ZaV [(4,e117_0 l0)]⟩
theorem t117_0 (c154:F154) (c111:F111) (c121:F121) (l0:A117_0) (again) (x y z):Zai (E117 c154 c111 c121 l0) (Zae (Zaf Tryz.f117) 0) (e117_0 l0) Tryz.f117.ntmps again x y z=w117_0 c154 c111 c121 again x y z:=by kernel_rfl
noncomputable def n117_0 (c154:F154) (c111:F111) (c121:F121):Nat→A117_0
  |0,_,_,_=>none
  |n+1,x,y,z=>w117_0 c154 c111 c121 (fun y z=>n117_0 c154 c111 c121 n x y z) x y z
theorem s117 (c154:F154) (c111:F111) (c121:F121) (l0:A117_0) (y):tevF (E117 c154 c111 c121 l0) Tryz.f117 i117 o117 y=m117 c154 c111 c121 l0 y:=by kernel_rfl
noncomputable def L117_0:A117_0:=n117_0 r154 r111 r121 fuel
noncomputable def r117:F117:=m117 r154 r111 r121 L117_0
theorem k117:KO (g117 r117):=by
  have hE: ∀g f,(E117 r154 r111 r121 L117_0).env.fns g=some f→Zak Tryz.prog g f:=Zaw ⟨k154,k111,k121,⟨⟩⟩
  have h0:ZaI Tryz.prog Tryz.f117.ntmps (Zae (Zaf Tryz.f117) 0) (e117_0 L117_0):=Zbr (E:=E117 r154 r111 r121 L117_0) rfl hE mixed (Zab.of_list (l:=[]) (by kernel_rfl) trivial) (n117_0 r154 r111 r121) (fun _ _ _=>rfl) (fun n x y z=>t117_0 r154 r111 r121 L117_0 _ x y z) rfl
  exact ZbV (E:=E117 r154 r111 r121 L117_0) rfl hE mixed (by kernel_rfl) (by kernel_rfl) (Zab.of_list (l:=[(Zae (Zaf Tryz.f117) 0)]) (by kernel_rfl) (.one (by kernel_rfl) h0 trivial)) (s117 r154 r111 r121 L117_0)
abbrev i217:Ts:=[.v (.int .i64)]
abbrev o217:Ts:=[.v (.int .i64)]
abbrev F217:=FT i217 o217
abbrev g217:=mkG 217 i217 o217
noncomputable def m217 (y:PTup i217):Option (PTup o217×BTup i217):=
  some (((bAnd Go.IntKind.i64 y.1 (65535:Int)),()),())
theorem s217 (y):TE [] Tryz.f217 i217 o217 y=m217 y:=by kernel_rfl
noncomputable def r217:F217:=m217
theorem k217:KO (g217 r217):=fk (s217) trivial (by kernel_rfl)
abbrev i191:Ts:=[.v (.int .i64)]
abbrev o191:Ts:=[.v (.int .i64), .v (.int .i64)]
abbrev F191:=FT i191 o191
abbrev g191:=mkG 191 i191 o191
noncomputable def m191 (c217:F217) (y:PTup i191):Option (PTup o191×BTup i191):=
  (c217 y).bind fun r0=>
  bif (ltI r0.1.1 8192)then (some (((1:Int),((Int.tmod r0.1.1 512),())),()))
  else bif (ltI r0.1.1 16384)then (some (((2:Int),((Int.tmod r0.1.1 8),())),()))
  else bif (ltI r0.1.1 16388)then (some (((3:Int),((Int.tmod r0.1.1 4),())),()))
  else bif (eqI r0.1.1 16406)then (some (((4:Int),((0:Int),())),()))
  else bif (ltI r0.1.1 32768)then (some (((7:Int),((0:Int),())),()))
  else bif (ltI r0.1.1 49152)then (some (((5:Int),((Int.tmod r0.1.1 256),())),()))
  else some (((6:Int),((Int.tmod r0.1.1 256),())),())
theorem s191 (c217:F217) (y):TE [g217 c217] Tryz.f191 i191 o191 y=m191 c217 y:=by kernel_rfl
noncomputable def r191:F191:=m191 r217
theorem k191:KO (g191 r191):=fk (s191 r217) ⟨k217,⟨⟩⟩ (by kernel_rfl)
abbrev i153:Ts:=[.a q0, .a q2, .v (.int .i64)]
abbrev o153:Ts:=[.v (.int .i64)]
abbrev F153:=FT i153 o153
abbrev g153:=mkG 153 i153 o153
noncomputable def m153 (c191:F191) (y:PTup i153):Option (PTup o153×BTup i153):=
  (c191 y.2.2).bind fun r0=>
  bif (eqI r0.1.1 1)then (bif (leI 0 r0.1.2.1)then (bif (ltI r0.1.2.1 (lenI y.2.1.1))then (some (((rdE .i y.2.1.1 r0.1.2.1),()),()))
    else none)
   else none)
  else bif (eqI r0.1.1 5)then (bif (leI 0 y.2.1.2.1)then (bif (ltI y.2.1.2.1 (lenI y.1.1))then (bif (leI 0 r0.1.2.1)then (bif (ltI r0.1.2.1 (lenI (rdE .n y.1.1 y.2.1.2.1)))then (some (((rdI (rdE .n y.1.1 y.2.1.2.1) r0.1.2.1),()),()))
      else none)
     else none)
    else none)
   else none)
  else bif (eqI r0.1.1 6)then (bif (leI 0 (wI ((lenI y.1.1)-1)))then (bif (ltI (wI ((lenI y.1.1)-1)) (lenI y.1.1))then (bif (leI 0 r0.1.2.1)then (bif (ltI r0.1.2.1 (lenI (rdE .n y.1.1 (wI ((lenI y.1.1)-1)))))then (some (((rdI (rdE .n y.1.1 (wI ((lenI y.1.1)-1))) r0.1.2.1),()),()))
      else none)
     else none)
    else none)
   else none)
  else some (((0:Int),()),())
theorem s153 (c191:F191) (y):TE [g191 c191] Tryz.f153 i153 o153 y=m153 c191 y:=by kernel_rfl
noncomputable def r153:F153:=m153 r191
theorem k153:KO (g153 r153):=fk (s153 r191) ⟨k191,⟨⟩⟩ (by kernel_rfl)
abbrev i115:Ts:=[.a q0, .a q2, .v (.int .i64)]
abbrev o115:Ts:=[.v (.int .i64)]
abbrev F115:=FT i115 o115
abbrev g115:=mkG 115 i115 o115
noncomputable def m115 (c117:F117) (c153:F153) (y:PTup i115):Option (PTup o115×BTup i115):=
  (c117 (y.1,(y.2.1,()))).bind fun r0=>
  bif (!r0.1.1)then (some (((0:Int),()),()))
  else (c153 y).bind fun r1=>
  some (r1.1,())
theorem s115 (c117:F117) (c153:F153) (y):TE [g117 c117,g153 c153] Tryz.f115 i115 o115 y=m115 c117 c153 y:=by kernel_rfl
noncomputable def r115:F115:=m115 r117 r153
theorem k115:KO (g115 r115):=fk (s115 r117 r153) ⟨k117,k153,⟨⟩⟩ (by kernel_rfl)
abbrev i114:Ts:=[.v (.int .i64), .v (.int .i64)]
abbrev o114:Ts:=[.v (.int .i64)]
abbrev F114:=FT i114 o114
abbrev g114:=mkG 114 i114 o114
noncomputable def m114 (c59:F59) (y:PTup i114):Option (PTup o114×BTup i114):=
  (c59 (y.1,())).bind fun r0=>
  (c59 y.2).bind fun r1=>
  some (((wI (r0.1.1+(wI ((256:Int)*r1.1.1)))),()),())
theorem s114 (c59:F59) (y):TE [g59 c59] Tryz.f114 i114 o114 y=m114 c59 y:=by kernel_rfl
noncomputable def r114:F114:=m114 r59
theorem k114:KO (g114 r114):=fk (s114 r59) ⟨k59,⟨⟩⟩ (by kernel_rfl)
abbrev i62:Ts:=[.a q0]
abbrev o62:Ts:=[.a q3]
abbrev F62:=FT i62 o62
abbrev g62:=mkG 62 i62 o62
noncomputable def m62 (c114:F114) (c61:F61) (c115:F115) (y:PTup i62):Option (PTup o62×BTup i62):=
  (c61 ()).bind fun r0=>
  (c115 (y.1,(r0.1.1,((65532:Int),())))).bind fun r1=>
  (c115 (y.1,(r0.1.1,((65533:Int),())))).bind fun r2=>
  (c114 (r1.1.1,r2.1)).bind fun r3=>
  some ((((0:Int),((0:Int),((255:Int),(r3.1.1,(false,(false,(false,(true,())))))))),()),())
theorem s62 (c114:F114) (c61:F61) (c115:F115) (y):TE [g114 c114,g61 c61,g115 c115] Tryz.f62 i62 o62 y=m62 c114 c61 c115 y:=by kernel_rfl
noncomputable def r62:F62:=m62 r114 r61 r115
theorem k62:KO (g62 r62):=fk (s62 r114 r61 r115) ⟨k114,k61,k115,⟨⟩⟩ (by kernel_rfl)
abbrev i63:Ts:=[]
abbrev o63:Ts:=[.a q4]
abbrev F63:=FT i63 o63
abbrev g63:=mkG 63 i63 o63
noncomputable def m63 (y:PTup i63):Option (PTup o63×BTup i63):=
  some ((((0:Int),((0:Int),((0:Int),((0:Int),((0:Int),(false,((List.replicate (Int.toNat (16:Int)) (0:Int)),([],())))))))),()),())
theorem s63 (y):TE [] Tryz.f63 i63 o63 y=m63 y:=by kernel_rfl
noncomputable def r63:F63:=m63
theorem k63:KO (g63 r63):=fk (s63) trivial (by kernel_rfl)
abbrev i116:Ts:=[.v (.sl false .i)]
abbrev o116:Ts:=[.v (.bool)]
abbrev F116:=FT i116 o116
abbrev g116:=mkG 116 i116 o116
abbrev lc116_0:Ts:=[.v (.sl false .i)]
abbrev lb116_0:Ts:=[]
abbrev lv116_0:Ts:=[.v (.int .i64)]
abbrev lr116_0:Ts:=[.v (.bool)]
abbrev R116_0:=Option (Sum (PTup lv116_0) (PTup lr116_0)×BTup lb116_0)
abbrev B116_0:=PTup lb116_0→PTup lv116_0→R116_0
abbrev A116_0:=PTup lc116_0→B116_0
noncomputable def w116_0 (c121:F121) (again:B116_0) (x:PTup lc116_0) (y:PTup lb116_0) (z:PTup lv116_0):R116_0:=
  bif (ltI z.1 (lenI x.1))then (bif (leI 0 z.1)then (bif (ltI z.1 (lenI x.1))then ((c121 ((rdE .i x.1 z.1),())).bind fun r0=>
     bif (!r0.1.1)then (some ((Sum.inr (false,())),()))
     else again () ((wI (z.1+1)),()))
    else none)
   else none)
  else some ((Sum.inl z),())
noncomputable def e116_0 (l:A116_0):ZaX:=⟨[0],lc116_0,[],lb116_0,[3],lv116_0,[2],lr116_0,0,[],l⟩
noncomputable def m116 (c121:F121) (l0:A116_0) (y:PTup i116):Option (PTup o116×BTup i116):=
  (l0 y () ((0:Int),())).bind fun r0=>
  Zah r0.1 (fun r1=>some (((leI (lenI y.1) 20),()),()))
  (fun r1=>some (r1,()))
noncomputable def E116 (c121:F121) (l0:A116_0):CEnv:=⟨⟨Tryz.prog,fnsL [g121 c121]⟩,ZaV [(2,e116_0 l0)]⟩
theorem t116_0 (c121:F121) (l0:A116_0) (again) (x y z):Zai (E116 c121 l0) (Zae (Zaf Tryz.f116) 0) (e116_0 l0) Tryz.f116.ntmps again x y z=w116_0 c121 again x y z:=by kernel_rfl
noncomputable def n116_0 (c121:F121):Nat→A116_0
  |0,_,_,_=>none
  |n+1,x,y,z=>w116_0 c121 (fun y z=>n116_0 c121 n x y z) x y z
theorem s116 (c121:F121) (l0:A116_0) (y):tevF (E116 c121 l0) Tryz.f116 i116 o116 y=m116 c121 l0 y:=by kernel_rfl
noncomputable def L116_0:A116_0:=n116_0 r121 fuel
noncomputable def r116:F116:=m116 r121 L116_0
theorem k116:KO (g116 r116):=by
  have hE: ∀g f,(E116 r121 L116_0).env.fns g=some f→Zak Tryz.prog g f:=Zaw ⟨k121,⟨⟩⟩
  have h0:ZaI Tryz.prog Tryz.f116.ntmps (Zae (Zaf Tryz.f116) 0) (e116_0 L116_0):=Zbr (E:=E116 r121 L116_0) rfl hE mixed (Zab.of_list (l:=[]) (by kernel_rfl) trivial) (n116_0 r121) (fun _ _ _=>rfl) (fun n x y z=>t116_0 r121 L116_0 _ x y z) rfl
  exact ZbV (E:=E116 r121 L116_0) rfl hE mixed (by kernel_rfl) (by kernel_rfl) (Zab.of_list (l:=[(Zae (Zaf Tryz.f116) 0)]) (by kernel_rfl) (.one (by kernel_rfl) h0 trivial)) (s116 r121 L116_0)
abbrev i118:Ts:=[.a q3]
abbrev o118:Ts:=[.v (.bool)]
abbrev F118:=FT i118 o118
abbrev g118:=mkG 118 i118 o118
noncomputable def m118 (c111:F111) (c121:F121) (y:PTup i118):Option (PTup o118×BTup i118):=
  (c121 (y.1.1,())).bind fun r0=>
  bif r0.1.1 then ((c121 (y.1.2.1,())).bind fun r1=>
   bif r1.1.1 then ((c121 (y.1.2.2.1,())).bind fun r2=>
    bif r2.1.1 then ((c111 (y.1.2.2.2.1,((0:Int),((65535:Int),())))).bind fun r3=>
     some (r3.1,()))
    else no)
   else no)
  else no
theorem s118 (c111:F111) (c121:F121) (y):TE [g111 c111,g121 c121] Tryz.f118 i118 o118 y=m118 c111 c121 y:=by kernel_rfl
noncomputable def r118:F118:=m118 r111 r121
theorem k118:KO (g118 r118):=fk (s118 r111 r121) ⟨k111,k121,⟨⟩⟩ (by kernel_rfl)
abbrev i192:Ts:=[.v (.int .i64)]
abbrev o192:Ts:=[.v (.int .i64)]
abbrev F192:=FT i192 o192
abbrev g192:=mkG 192 i192 o192
noncomputable def m192 (y:PTup i192):Option (PTup o192×BTup i192):=
  bif (ltI 48 (Int.tmod y.1 64))then (some (((0:Int),()),()))
  else some (((Int.tmod y.1 64),()),())
theorem s192 (y):TE [] Tryz.f192 i192 o192 y=m192 y:=by kernel_rfl
noncomputable def r192:F192:=m192
theorem k192:KO (g192 r192):=fk (s192) trivial (by kernel_rfl)
abbrev i155:Ts:=[.a q5]
abbrev o155:Ts:=[.v (.bool)]
abbrev F155:=FT i155 o155
abbrev g155:=mkG 155 i155 o155
abbrev lc155_0:Ts:=[]
abbrev lb155_0:Ts:=[.p q5]
abbrev lv155_0:Ts:=[.v (.int .i64)]
abbrev lr155_0:Ts:=[.v (.bool)]
abbrev R155_0:=Option (Sum (PTup lv155_0) (PTup lr155_0)×BTup lb155_0)
abbrev B155_0:=PTup lb155_0→PTup lv155_0→R155_0
abbrev A155_0:=PTup lc155_0→B155_0
noncomputable def w155_0 (c111:F111) (c121:F121) (c192:F192) (again:B155_0) (x:PTup lc155_0) (y:PTup lb155_0) (z:PTup lv155_0):R155_0:=
  bif (ltI z.1 (lenI y.1.2.2.2.2.2.2.2.1))then (bif (leI 0 z.1)then (bif (ltI z.1 (lenI y.1.2.2.2.2.2.2.2.1))then ((c111 ((rdE .i y.1.2.2.2.2.2.2.2.1 z.1),((0:Int),((63:Int),())))).bind fun r0=>
     bif (!r0.1.1)then (some ((Sum.inr (false,())),(y.1,())))
     else again (y.1,()) ((wI (z.1+1)),()))
    else none)
   else none)
  else some ((Sum.inl z),(y.1,()))
noncomputable def e155_0 (l:A155_0):ZaX:=⟨[],lc155_0,[1],lb155_0,[4],lv155_0,[2],lr155_0,2,[],l⟩
abbrev lc155_1:Ts:=[]
abbrev lb155_1:Ts:=[.p q5]
abbrev lv155_1:Ts:=[.v (.int .i64)]
abbrev lr155_1:Ts:=[.v (.bool)]
abbrev R155_1:=Option (Sum (PTup lv155_1) (PTup lr155_1)×BTup lb155_1)
abbrev B155_1:=PTup lb155_1→PTup lv155_1→R155_1
abbrev A155_1:=PTup lc155_1→B155_1
noncomputable def w155_1 (c111:F111) (c121:F121) (c192:F192) (l0:A155_0) (again:B155_1) (x:PTup lc155_1) (y:PTup lb155_1) (z:PTup lv155_1):R155_1:=
  bif (ltI z.1 16)then (bif (leI 0 z.1)then (bif (ltI z.1 (lenI y.1.2.2.2.2.2.2.1))then ((c111 ((rdE .i y.1.2.2.2.2.2.2.1 z.1),((0:Int),((63:Int),())))).bind fun r0=>
     bif (!r0.1.1)then (some ((Sum.inr (false,())),(y.1,())))
     else again (y.1,()) ((wI (z.1+1)),()))
    else none)
   else none)
  else some ((Sum.inl z),(y.1,()))
noncomputable def e155_1 (l:A155_1):ZaX:=⟨[],lc155_1,[1],lb155_1,[3],lv155_1,[2],lr155_1,0,[],l⟩
noncomputable def m155 (c111:F111) (c121:F121) (c192:F192) (l0:A155_0) (l1:A155_1) (y:PTup i155):Option (PTup o155×BTup i155):=
  (c111 (y.1.1,((0:Int),((20000:Int),())))).bind fun r0=>
  bif (!r0.1.1)then no
  else (c121 (y.1.2.1,())).bind fun r1=>
  bif (!r1.1.1)then no
  else (c121 (y.1.2.2.1,())).bind fun r2=>
  bif (!r2.1.1)then no
  else (c111 (y.1.2.2.2.1,((0:Int),((15:Int),())))).bind fun r3=>
  bif (!r3.1.1)then no
  else (c111 (y.1.2.2.2.2.1,((0:Int),((63:Int),())))).bind fun r4=>
  bif (!r4.1.1)then no
  else bif (neI (lenI y.1.2.2.2.2.2.2.1) 16)then no
  else (c192 (y.1.1,())).bind fun r5=>
  bif (neI (lenI y.1.2.2.2.2.2.2.2.1) r5.1.1)then no
  else (l1 () (y.1,()) ((0:Int),())).bind fun r6=>
  Zah r6.1 (fun r7=>(l0 () ((r6.2.1.1,(r6.2.1.2.1,(r6.2.1.2.2.1,(r6.2.1.2.2.2.1,(r6.2.1.2.2.2.2.1,(r6.2.1.2.2.2.2.2.1,y.1.2.2.2.2.2.2)))))),()) ((0:Int),())).bind fun r8=>
   Zah r8.1 (fun r9=>some ((true,()),()))
   (fun r9=>some (r9,())))
  (fun r7=>some (r7,()))
noncomputable def E155 (c111:F111) (c121:F121) (c192:F192) (l0:A155_0) (l1:A155_1):CEnv:=⟨⟨Tryz.prog,fnsL [g111 c111,g121 c121,g192 c192]⟩,ZaV [(9,e155_0 l0),(4,e155_1 l1)]⟩
theorem t155_0 (c111:F111) (c121:F121) (c192:F192) (l0:A155_0) (l1:A155_1) (again) (x y z):Zai (E155 c111 c121 c192 l0 l1) (Zae (Zaf Tryz.f155) 1) (e155_0 l0) Tryz.f155.ntmps again x y z=w155_0 c111 c121 c192 again x y z:=by kernel_rfl
noncomputable def n155_0 (c111:F111) (c121:F121) (c192:F192):Nat→A155_0
  |0,_,_,_=>none
  |n+1,x,y,z=>w155_0 c111 c121 c192 (fun y z=>n155_0 c111 c121 c192 n x y z) x y z
theorem t155_1 (c111:F111) (c121:F121) (c192:F192) (l0:A155_0) (l1:A155_1) (again) (x y z):Zai (E155 c111 c121 c192 l0 l1) (Zae (Zaf Tryz.f155) 0) (e155_1 l1) Tryz.f155.ntmps again x y z=w155_1 c111 c121 c192 l0 again x y z:=by kernel_rfl
noncomputable def n155_1 (c111:F111) (c121:F121) (c192:F192) (l0:A155_0):Nat→A155_1
  |0,_,_,_=>none
  |n+1,x,y,z=>w155_1 c111 c121 c192 l0 (fun y z=>n155_1 c111 c121 c192 l0 n x y z) x y z
theorem s155 (c111:F111) (c121:F121) (c192:F192) (l0:A155_0) (l1:A155_1) (y):tevF (E155 c111 c121 c192 l0 l1) Tryz.f155 i155 o155 y=m155 c111 c121 c192 l0 l1 y:=by kernel_rfl
noncomputable def L155_0:A155_0:=n155_0 r111 r121 r192 fuel
noncomputable def L155_1:A155_1:=n155_1 r111 r121 r192 L155_0 fuel
noncomputable def r155:F155:=m155 r111 r121 r192 L155_0 L155_1
theorem k155:KO (g155 r155):=by
  have hE: ∀g f,(E155 r111 r121 r192 L155_0 L155_1).env.fns g=some f→Zak Tryz.prog g f:=Zaw ⟨k111,k121,k192,⟨⟩⟩
  have h0:ZaI Tryz.prog Tryz.f155.ntmps (Zae (Zaf Tryz.f155) 1) (e155_0 L155_0):=Zbr (E:=E155 r111 r121 r192 L155_0 L155_1) rfl hE mixed (Zab.of_list (l:=[]) (by kernel_rfl) trivial) (n155_0 r111 r121 r192) (fun _ _ _=>rfl) (fun n x y z=>t155_0 r111 r121 r192 L155_0 L155_1 _ x y z) rfl
  have h1:ZaI Tryz.prog Tryz.f155.ntmps (Zae (Zaf Tryz.f155) 0) (e155_1 L155_1):=Zbr (E:=E155 r111 r121 r192 L155_0 L155_1) rfl hE mixed (Zab.of_list (l:=[]) (by kernel_rfl) trivial) (n155_1 r111 r121 r192 L155_0) (fun _ _ _=>rfl) (fun n x y z=>t155_1 r111 r121 r192 L155_0 L155_1 _ x y z) rfl
  exact ZbV (E:=E155 r111 r121 r192 L155_0 L155_1) rfl hE mixed (by kernel_rfl) (by kernel_rfl) (Zab.of_list (l:=[(Zae (Zaf Tryz.f155) 0),(Zae (Zaf Tryz.f155) 1)]) (by kernel_rfl) (.one (by kernel_rfl) h1 (.one (by kernel_rfl) h0 trivial))) (s155 r111 r121 r192 L155_0 L155_1)
abbrev i156:Ts:=[.a q6]
abbrev o156:Ts:=[.v (.bool)]
abbrev F156:=FT i156 o156
abbrev g156:=mkG 156 i156 o156
abbrev lc156_0:Ts:=[]
abbrev lb156_0:Ts:=[.p q6]
abbrev lv156_0:Ts:=[.v (.int .i64)]
abbrev lr156_0:Ts:=[.v (.bool)]
abbrev R156_0:=Option (Sum (PTup lv156_0) (PTup lr156_0)×BTup lb156_0)
abbrev B156_0:=PTup lb156_0→PTup lv156_0→R156_0
abbrev A156_0:=PTup lc156_0→B156_0
noncomputable def w156_0 (c111:F111) (c121:F121) (again:B156_0) (x:PTup lc156_0) (y:PTup lb156_0) (z:PTup lv156_0):R156_0:=
  bif (ltI z.1 (lenI y.1.2.1))then (bif (leI 0 z.1)then (bif (ltI z.1 (lenI y.1.2.1))then ((c111 ((rdE .t y.1.2.1 z.1).1,((0:Int),((20000:Int),())))).bind fun r0=>
     bif (!r0.1.1)then (some ((Sum.inr (false,())),(y.1,())))
     else (c111 ((rdE .t y.1.2.1 z.1).2.1,((0:Int),((7:Int),())))).bind fun r1=>
     bif (!r1.1.1)then (some ((Sum.inr (false,())),(y.1,())))
     else (c121 ((rdE .t y.1.2.1 z.1).2.2,())).bind fun r2=>
     bif (!r2.1.1)then (some ((Sum.inr (false,())),(y.1,())))
     else bif (ltI 0 z.1)then (bif (leI 0 (wI (z.1-1)))then (bif (ltI (wI (z.1-1)) (lenI y.1.2.1))then (bif (ltI (rdE .t y.1.2.1 z.1).1 (rdE .t y.1.2.1 (wI (z.1-1))).1)then (some ((Sum.inr (false,())),(y.1,())))
        else again (y.1,()) ((wI (z.1+1)),()))
       else none)
      else none)
     else again (y.1,()) ((wI (z.1+1)),()))
    else none)
   else none)
  else some ((Sum.inl z),(y.1,()))
noncomputable def e156_0 (l:A156_0):ZaX:=⟨[],lc156_0,[1],lb156_0,[3],lv156_0,[2],lr156_0,0,[],l⟩
noncomputable def m156 (c111:F111) (c121:F121) (l0:A156_0) (y:PTup i156):Option (PTup o156×BTup i156):=
  (l0 () (y.1,()) ((0:Int),())).bind fun r0=>
  Zah r0.1 (fun r1=>(c111 (r0.2.1.1,((1:Int),((16:Int),())))).bind fun r2=>
   bif r2.1.1 then (some (((leI (lenI y.1.2.1) r0.2.1.1),()),()))
   else no)
  (fun r1=>some (r1,()))
noncomputable def E156 (c111:F111) (c121:F121) (l0:A156_0):CEnv:=⟨⟨Tryz.prog,fnsL [g111 c111,g121 c121]⟩,ZaV [(2,e156_0 l0)]⟩
theorem t156_0 (c111:F111) (c121:F121) (l0:A156_0) (again) (x y z):Zai (E156 c111 c121 l0) (Zae (Zaf Tryz.f156) 0) (e156_0 l0) Tryz.f156.ntmps again x y z=w156_0 c111 c121 again x y z:=by kernel_rfl
noncomputable def n156_0 (c111:F111) (c121:F121):Nat→A156_0
  |0,_,_,_=>none
  |n+1,x,y,z=>w156_0 c111 c121 (fun y z=>n156_0 c111 c121 n x y z) x y z
theorem s156 (c111:F111) (c121:F121) (l0:A156_0) (y):tevF (E156 c111 c121 l0) Tryz.f156 i156 o156 y=m156 c111 c121 l0 y:=by kernel_rfl
noncomputable def L156_0:A156_0:=n156_0 r111 r121 fuel
noncomputable def r156:F156:=m156 r111 r121 L156_0
theorem k156:KO (g156 r156):=by
  have hE: ∀g f,(E156 r111 r121 L156_0).env.fns g=some f→Zak Tryz.prog g f:=Zaw ⟨k111,k121,⟨⟩⟩
  have h0:ZaI Tryz.prog Tryz.f156.ntmps (Zae (Zaf Tryz.f156) 0) (e156_0 L156_0):=Zbr (E:=E156 r111 r121 L156_0) rfl hE mixed (Zab.of_list (l:=[]) (by kernel_rfl) trivial) (n156_0 r111 r121) (fun _ _ _=>rfl) (fun n x y z=>t156_0 r111 r121 L156_0 _ x y z) rfl
  exact ZbV (E:=E156 r111 r121 L156_0) rfl hE mixed (by kernel_rfl) (by kernel_rfl) (Zab.of_list (l:=[(Zae (Zaf Tryz.f156) 0)]) (by kernel_rfl) (.one (by kernel_rfl) h0 trivial)) (s156 r111 r121 L156_0)
abbrev i193:Ts:=[.v (.int .i64)]
abbrev o193:Ts:=[.v (.int .i64)]
abbrev F193:=FT i193 o193
abbrev g193:=mkG 193 i193 o193
noncomputable def m193 (y:PTup i193):Option (PTup o193×BTup i193):=
  some (((wI (Int.tdiv (wI ((wI ((wI (y.1+64))-48))-1)) (64:Int))),()),())
theorem s193 (y):TE [] Tryz.f193 i193 o193 y=m193 y:=by kernel_rfl
noncomputable def r193:F193:=m193
theorem k193:KO (g193 r193):=fk (s193) trivial (by kernel_rfl)
abbrev i157:Ts:=[.v (.sl false .n), .v (.int .i64)]
abbrev o157:Ts:=[.v (.bool)]
abbrev F157:=FT i157 o157
abbrev g157:=mkG 157 i157 o157
abbrev lc157_0:Ts:=[.v (.sl false .n)]
abbrev lb157_0:Ts:=[]
abbrev lv157_0:Ts:=[.v (.int .i64)]
abbrev lr157_0:Ts:=[.v (.bool)]
abbrev R157_0:=Option (Sum (PTup lv157_0) (PTup lr157_0)×BTup lb157_0)
abbrev B157_0:=PTup lb157_0→PTup lv157_0→R157_0
abbrev A157_0:=PTup lc157_0→B157_0
noncomputable def w157_0 (c193:F193) (again:B157_0) (x:PTup lc157_0) (y:PTup lb157_0) (z:PTup lv157_0):R157_0:=
  bif (ltI z.1 (lenI x.1))then (bif (leI 0 z.1)then (bif (ltI z.1 (lenI x.1))then (bif (neI (lenI (rdE .n x.1 z.1)) (48:Int))then (some ((Sum.inr (false,())),()))
     else again () ((wI (z.1+1)),()))
    else none)
   else none)
  else some ((Sum.inl z),())
noncomputable def e157_0 (l:A157_0):ZaX:=⟨[0],lc157_0,[],lb157_0,[5],lv157_0,[4],lr157_0,0,[],l⟩
noncomputable def m157 (c193:F193) (l0:A157_0) (y:PTup i157):Option (PTup o157×BTup i157):=
  (l0 (y.1,()) () ((0:Int),())).bind fun r0=>
  Zah r0.1 (fun r1=>(c193 y.2).bind fun r2=>
   some (((eqI (lenI y.1) r2.1.1),()),()))
  (fun r1=>some (r1,()))
noncomputable def E157 (c193:F193) (l0:A157_0):CEnv:=⟨⟨Tryz.prog,fnsL [g193 c193]⟩,ZaV [(2,e157_0 l0)]⟩
theorem t157_0 (c193:F193) (l0:A157_0) (again) (x y z):Zai (E157 c193 l0) (Zae (Zaf Tryz.f157) 0) (e157_0 l0) Tryz.f157.ntmps again x y z=w157_0 c193 again x y z:=by kernel_rfl
noncomputable def n157_0 (c193:F193):Nat→A157_0
  |0,_,_,_=>none
  |n+1,x,y,z=>w157_0 c193 (fun y z=>n157_0 c193 n x y z) x y z
theorem s157 (c193:F193) (l0:A157_0) (y):tevF (E157 c193 l0) Tryz.f157 i157 o157 y=m157 c193 l0 y:=by kernel_rfl
noncomputable def L157_0:A157_0:=n157_0 r193 fuel
noncomputable def r157:F157:=m157 r193 L157_0
theorem k157:KO (g157 r157):=by
  have hE: ∀g f,(E157 r193 L157_0).env.fns g=some f→Zak Tryz.prog g f:=Zaw ⟨k193,⟨⟩⟩
  have h0:ZaI Tryz.prog Tryz.f157.ntmps (Zae (Zaf Tryz.f157) 0) (e157_0 L157_0):=Zbr (E:=E157 r193 L157_0) rfl hE mixed (Zab.of_list (l:=[]) (by kernel_rfl) trivial) (n157_0 r193) (fun _ _ _=>rfl) (fun n x y z=>t157_0 r193 L157_0 _ x y z) rfl
  exact ZbV (E:=E157 r193 L157_0) rfl hE mixed (by kernel_rfl) (by kernel_rfl) (Zab.of_list (l:=[(Zae (Zaf Tryz.f157) 0)]) (by kernel_rfl) (.one (by kernel_rfl) h0 trivial)) (s157 r193 L157_0)
abbrev i119:Ts:=[.a q7]
abbrev o119:Ts:=[.v (.bool)]
abbrev F119:=FT i119 o119
abbrev g119:=mkG 119 i119 o119
noncomputable def m119 (c155:F155) (c156:F156) (c157:F157) (y:PTup i119):Option (PTup o119×BTup i119):=
  (c155 ((y.1.1,(y.1.2.1,(y.1.2.2.1,(y.1.2.2.2.1,(y.1.2.2.2.2.1,(y.1.2.2.2.2.2.1,(y.1.2.2.2.2.2.2.1,(y.1.2.2.2.2.2.2.2.1,())))))))),())).bind fun r0=>
  bif (!r0.1.1)then no
  else (c156 ((y.1.2.2.2.2.2.2.2.2.1,(y.1.2.2.2.2.2.2.2.2.2.1,())),())).bind fun r1=>
  bif (!r1.1.1)then no
  else bif (eqI (lenI y.1.2.2.2.2.2.2.2.2.2.1) 0)then ((c157 (y.1.2.2.2.2.2.2.2.2.2.2.1,(y.1.1,()))).bind fun r2=>
   some (r2.1,()))
  else bif (ltI 0 (lenI y.1.2.2.2.2.2.2.2.2.2.1))then (bif (leI y.1.1 (rdE .t y.1.2.2.2.2.2.2.2.2.2.1 (0:Int)).1)then ((c157 (y.1.2.2.2.2.2.2.2.2.2.2.1,(y.1.1,()))).bind fun r2=>
    some (r2.1,()))
   else no)
  else none
theorem s119 (c155:F155) (c156:F156) (c157:F157) (y):TE [g155 c155,g156 c156,g157 c157] Tryz.f119 i119 o119 y=m119 c155 c156 c157 y:=by kernel_rfl
noncomputable def r119:F119:=m119 r155 r156 r157
theorem k119:KO (g119 r119):=fk (s119 r155 r156 r157) ⟨k155,k156,k157,⟨⟩⟩ (by kernel_rfl)
abbrev i158:Ts:=[.a q8]
abbrev o158:Ts:=[.v (.bool)]
abbrev F158:=FT i158 o158
abbrev g158:=mkG 158 i158 o158
noncomputable def m158 (c111:F111) (c121:F121) (y:PTup i158):Option (PTup o158×BTup i158):=
  (c111 (y.1.1,((0:Int),((20000:Int),())))).bind fun r0=>
  bif r0.1.1 then ((c121 (y.1.2.1,())).bind fun r1=>
   bif r1.1.1 then ((c121 (y.1.2.2.1,())).bind fun r2=>
    bif r2.1.1 then ((c111 (y.1.2.2.2.1,((0:Int),((1:Int),())))).bind fun r3=>
     bif r3.1.1 then ((c111 (y.1.2.2.2.2.1,((0:Int),((31:Int),())))).bind fun r4=>
      some (r4.1,()))
     else no)
    else no)
   else no)
  else no
theorem s158 (c111:F111) (c121:F121) (y):TE [g111 c111,g121 c121] Tryz.f158 i158 o158 y=m158 c111 c121 y:=by kernel_rfl
noncomputable def r158:F158:=m158 r111 r121
theorem k158:KO (g158 r158):=fk (s158 r111 r121) ⟨k111,k121,⟨⟩⟩ (by kernel_rfl)
abbrev i120:Ts:=[.a q9]
abbrev o120:Ts:=[.v (.bool)]
abbrev F120:=FT i120 o120
abbrev g120:=mkG 120 i120 o120
noncomputable def m120 (c158:F158) (c156:F156) (y:PTup i120):Option (PTup o120×BTup i120):=
  (c158 ((y.1.1,(y.1.2.1,(y.1.2.2.1,(y.1.2.2.2.1,(y.1.2.2.2.2.1,(y.1.2.2.2.2.2.1,(y.1.2.2.2.2.2.2.1,()))))))),())).bind fun r0=>
  bif (!r0.1.1)then no
  else (c156 ((y.1.2.2.2.2.2.2.2.1,(y.1.2.2.2.2.2.2.2.2.1,())),())).bind fun r1=>
  bif (!r1.1.1)then no
  else bif (eqI (lenI y.1.2.2.2.2.2.2.2.2.1) 0)then (some (((eqI (lenI y.1.2.2.2.2.2.2.2.2.2.1) (wI (Int.tdiv y.1.1 16))),()),()))
  else bif (ltI 0 (lenI y.1.2.2.2.2.2.2.2.2.1))then (bif (leI y.1.1 (rdE .t y.1.2.2.2.2.2.2.2.2.1 (0:Int)).1)then (some (((eqI (lenI y.1.2.2.2.2.2.2.2.2.2.1) (wI (Int.tdiv y.1.1 16))),()),()))
   else no)
  else none
theorem s120 (c158:F158) (c156:F156) (y):TE [g158 c158,g156 c156] Tryz.f120 i120 o120 y=m120 c158 c156 y:=by kernel_rfl
noncomputable def r120:F120:=m120 r158 r156
theorem k120:KO (g120 r120):=fk (s120 r158 r156) ⟨k158,k156,⟨⟩⟩ (by kernel_rfl)
abbrev i122:Ts:=[.a q6]
abbrev o122:Ts:=[.v (.int .i64)]
abbrev F122:=FT i122 o122
abbrev g122:=mkG 122 i122 o122
noncomputable def m122 (y:PTup i122):Option (PTup o122×BTup i122):=
  bif (eqI (lenI y.1.2.1) 0)then (some (((0:Int),()),()))
  else bif (leI 0 (wI ((lenI y.1.2.1)-1)))then (bif (ltI (wI ((lenI y.1.2.1)-1)) (lenI y.1.2.1))then (some (((rdE .t y.1.2.1 (wI ((lenI y.1.2.1)-1))).1,()),()))
   else none)
  else none
theorem s122 (y):TE [] Tryz.f122 i122 o122 y=m122 y:=by kernel_rfl
noncomputable def r122:F122:=m122
theorem k122:KO (g122 r122):=fk (s122) trivial (by kernel_rfl)
abbrev i64:Ts:=[.a q10]
abbrev o64:Ts:=[.v (.bool)]
abbrev F64:=FT i64 o64
abbrev g64:=mkG 64 i64 o64
noncomputable def m64 (c118:F118) (c117:F117) (c116:F116) (c119:F119) (c120:F120) (c122:F122) (c111:F111) (c121:F121) (y:PTup i64):Option (PTup o64×BTup i64):=
  let a0:=y.1;let a1:=a0.2;let a2:=a1.2;let a3:=a2.2;let a4:=a3.2;let a5:=a4.2;let a6:=a5.2;let a7:=a6.2;let a8:=a7.2;let a9:=a8.2;let a10:=a9.2;let a11:=a10.2;let a12:=a11.2;let a13:=a12.2;let a14:=a13.2;let a15:=a14.2;let a16:=a15.2;let a17:=a16.2;let a18:=a17.2;let a19:=a18.2;let a20:=a19.2;let a21:=a20.2;let a22:=a21.2;let a23:=a22.2;let a24:=a23.2;let a25:=a24.2;let a26:=a25.2;let a27:=a26.2;let a28:=a27.2;let a29:=a28.2.2;let a30:=a29.2.2.2.2.2.2.2.2.2;(c116 (a1.1,())).bind fun r0=>
  bif (!r0.1.1)then no
  else (c117 ((a0.1,()),((a2.1,(a3.1,())),()))).bind fun r1=>
  bif (!r1.1.1)then no
  else (c118 ((a4.1,(a5.1,(a6.1,(a7.1,(a8.1,(a9.1,(a10.1,(a11.1,())))))))),())).bind fun r2=>
  bif (!r2.1.1)then no
  else (c119 ((a21.1,(a22.1,(a23.1,(a24.1,(a25.1,(a26.1,(a27.1,(a28.1,(a28.2.1,(a29.1,(a29.2.1,()))))))))))),())).bind fun r3=>
  bif (!r3.1.1)then no
  else (c120 (a29.2.2,())).bind fun r4=>
  bif (!r4.1.1)then no
  else (c121 (a13.1,())).bind fun r5=>
  bif (!r5.1.1)then no
  else (c121 (a16.1,())).bind fun r6=>
  bif (!r6.1.1)then no
  else (c111 (a14.1,((0:Int),((20000:Int),())))).bind fun r7=>
  bif (!r7.1.1)then no
  else (c111 (a18.1,((0:Int),(a14.1,())))).bind fun r8=>
  bif (!r8.1.1)then no
  else (c111 (a19.1,((0:Int),(a14.1,())))).bind fun r9=>
  bif (!r9.1.1)then no
  else bif (ltI a14.1 a21.1)then no
  else bif (ltI a14.1 a29.2.2.1)then no
  else (c122 ((a28.2.1,(a29.1,())),())).bind fun r10=>
  bif (leI r10.1.1 a14.1)then ((c122 ((a30.1,(a30.2.1,())),())).bind fun r11=>
   some (((leI r11.1.1 a14.1),()),()))
  else no
theorem s64 (c118:F118) (c117:F117) (c116:F116) (c119:F119) (c120:F120) (c122:F122) (c111:F111) (c121:F121) (y):TE [g118 c118,g117 c117,g116 c116,g119 c119,g120 c120,g122 c122,g111 c111,g121 c121] Tryz.f64 i64 o64 y=m64 c118 c117 c116 c119 c120 c122 c111 c121 y:=by kernel_rfl
noncomputable def r64:F64:=m64 r118 r117 r116 r119 r120 r122 r111 r121
theorem k64:KO (g64 r64):=fk (s64 r118 r117 r116 r119 r120 r122 r111 r121) ⟨k118,k117,k116,k119,k120,k122,k111,k121,⟨⟩⟩ (by kernel_rfl)
abbrev i20:Ts:=[.a q0, .v (.sl false .i), .v (.int .i64)]
abbrev o20:Ts:=[.a q11, .v (.bool)]
abbrev F20:=FT i20 o20
abbrev g20:=mkG 20 i20 o20
noncomputable def m20 (c62:F62) (c61:F61) (c63:F63) (c64:F64) (c60:F60) (y:PTup i20):Option (PTup o20×BTup i20):=
  (c60 (y.1,())).bind fun r0=>
  bif (leN (0+(List.length y.2.1)) (E.most .i))then ((c61 ()).bind fun r1=>
   (c62 (y.1,())).bind fun r2=>
   (c63 ()).bind fun r3=>
   (c64 ((r0.1.1.1,(([]++y.2.1),(r1.1.1.1,(r1.1.1.2.1,(r2.1.1.1,(r2.1.1.2.1,(r2.1.1.2.2.1,(r2.1.1.2.2.2.1,(r2.1.1.2.2.2.2.1,(r2.1.1.2.2.2.2.2.1,(r2.1.1.2.2.2.2.2.2.1,(r2.1.1.2.2.2.2.2.2.2.1,(false,((0:Int),((0:Int),(false,((0:Int),(false,((0:Int),((0:Int),([],(r3.1.1.1,(r3.1.1.2.1,(r3.1.1.2.2.1,(r3.1.1.2.2.2.1,(r3.1.1.2.2.2.2.1,(r3.1.1.2.2.2.2.2.1,(r3.1.1.2.2.2.2.2.2.1,(r3.1.1.2.2.2.2.2.2.2.1,(y.2.2.1,([],([],((0:Int),((0:Int),((0:Int),((0:Int),((0:Int),(false,(false,(y.2.2.1,([],([],())))))))))))))))))))))))))))))))))))))))))),())).bind fun r4=>
   bif (!r4.1.1)then (some ((([],([],([],((0:Int),((0:Int),((0:Int),((0:Int),((0:Int),(false,(false,(false,(false,(false,((0:Int),((0:Int),(false,((0:Int),(false,((0:Int),((0:Int),([],((0:Int),((0:Int),((0:Int),((0:Int),((0:Int),(false,([],([],((0:Int),([],([],((0:Int),((0:Int),((0:Int),((0:Int),((0:Int),(false,(false,((0:Int),([],([],())))))))))))))))))))))))))))))))))))))))))),(false,())),()))
   else some (((r0.1.1.1,(([]++y.2.1),(r1.1.1.1,(r1.1.1.2.1,(r2.1.1.1,(r2.1.1.2.1,(r2.1.1.2.2.1,(r2.1.1.2.2.2.1,(r2.1.1.2.2.2.2.1,(r2.1.1.2.2.2.2.2.1,(r2.1.1.2.2.2.2.2.2.1,(r2.1.1.2.2.2.2.2.2.2.1,(false,((0:Int),((0:Int),(false,((0:Int),(false,((0:Int),((0:Int),([],(r3.1.1.1,(r3.1.1.2.1,(r3.1.1.2.2.1,(r3.1.1.2.2.2.1,(r3.1.1.2.2.2.2.1,(r3.1.1.2.2.2.2.2.1,(r3.1.1.2.2.2.2.2.2.1,(r3.1.1.2.2.2.2.2.2.2.1,(y.2.2.1,([],([],((0:Int),((0:Int),((0:Int),((0:Int),((0:Int),(false,(false,(y.2.2.1,([],([],())))))))))))))))))))))))))))))))))))))))))),(true,())),()))
  else none
theorem s20 (c62:F62) (c61:F61) (c63:F63) (c64:F64) (c60:F60) (y):TE [g62 c62,g61 c61,g63 c63,g64 c64,g60 c60] Tryz.f20 i20 o20 y=m20 c62 c61 c63 c64 c60 y:=by kernel_rfl
noncomputable def r20:F20:=m20 r62 r61 r63 r64 r60
theorem k20:KO (g20 r20):=fk (s20 r62 r61 r63 r64 r60) ⟨k62,k61,k63,k64,k60,⟨⟩⟩ (by kernel_rfl)
abbrev i5:Ts:=[.v (.str), .v (.sl false .i), .v (.int .i64)]
abbrev o5:Ts:=[.a q11, .v (.int .i64)]
abbrev F5:=FT i5 o5
abbrev g5:=mkG 5 i5 o5
noncomputable def m5 (c19:F19) (c20:F20) (y:PTup i5):Option (PTup o5×BTup i5):=
  (c19 (y.1,())).bind fun r0=>
  bif (neI r0.1.2.1 0)then (some ((([],([],([],((0:Int),((0:Int),((0:Int),((0:Int),((0:Int),(false,(false,(false,(false,(false,((0:Int),((0:Int),(false,((0:Int),(false,((0:Int),((0:Int),([],((0:Int),((0:Int),((0:Int),((0:Int),((0:Int),(false,([],([],((0:Int),([],([],((0:Int),((0:Int),((0:Int),((0:Int),((0:Int),(false,(false,((0:Int),([],([],())))))))))))))))))))))))))))))))))))))))))),r0.1.2),()))
  else (c20 (((r0.1.1::[]),()),y.2)).bind fun r1=>
  bif (!r1.1.2.1)then (some ((([],([],([],((0:Int),((0:Int),((0:Int),((0:Int),((0:Int),(false,(false,(false,(false,(false,((0:Int),((0:Int),(false,((0:Int),(false,((0:Int),((0:Int),([],((0:Int),((0:Int),((0:Int),((0:Int),((0:Int),(false,([],([],((0:Int),([],([],((0:Int),((0:Int),((0:Int),((0:Int),((0:Int),(false,(false,((0:Int),([],([],())))))))))))))))))))))))))))))))))))))))))),((-(2:Int)),())),()))
  else some ((r1.1.1,((0:Int),())),())
theorem s5 (c19:F19) (c20:F20) (y):TE [g19 c19,g20 c20] Tryz.f5 i5 o5 y=m5 c19 c20 y:=by kernel_rfl
noncomputable def r5:F5:=m5 r19 r20
theorem k5:KO (g5 r5):=fk (s5 r19 r20) ⟨k19,k20,⟨⟩⟩ (by kernel_rfl)
abbrev i41:Ts:=[.v (.str)]
abbrev o41:Ts:=[.v (.sl true .s)]
abbrev F41:=FT i41 o41
abbrev g41:=mkG 41 i41 o41
noncomputable def m41 (c85:F85) (y:PTup i41):Option (PTup o41×BTup i41):=
  (c85 (y.1,((bz [10]),()))).bind fun r0=>
  bif (leI 0 (wI ((lenI r0.1.1)-1)))then (bif (ltI (wI ((lenI r0.1.1)-1)) (lenI r0.1.1))then (bif ((ByteArray.toList (rdE .s r0.1.1 (wI ((lenI r0.1.1)-1))))==(ByteArray.toList (bz [])))then (bif (leI 0 (wI ((lenI r0.1.1)-1)))then (bif (leI (wI ((lenI r0.1.1)-1)) (lenI r0.1.1))then (some (((List.take (Int.toNat (wI ((lenI r0.1.1)-1))) r0.1.1),()),()))
      else none)
     else none)
    else some (r0.1,()))
   else none)
  else none
theorem s41 (c85:F85) (y):TE [g85 c85] Tryz.f41 i41 o41 y=m41 c85 y:=by kernel_rfl
noncomputable def r41:F41:=m41 r85
theorem k41:KO (g41 r41):=fk (s41 r85) ⟨k85,⟨⟩⟩ (by kernel_rfl)
abbrev i52:Ts:=[.v (.int .i64), .v (.int .i64), .v (.int .i64)]
abbrev o52:Ts:=[.v (.bool)]
abbrev F52:=FT i52 o52
abbrev g52:=mkG 52 i52 o52
noncomputable def m52 (y:PTup i52):Option (PTup o52×BTup i52):=
  bif (leI y.2.1 y.1)then (some (((leI y.1 y.2.2.1),()),()))
  else no
theorem s52 (y):TE [] Tryz.f52 i52 o52 y=m52 y:=by kernel_rfl
noncomputable def r52:F52:=m52
theorem k52:KO (g52 r52):=fk (s52) trivial (by kernel_rfl)
abbrev i137:Ts:=[]
abbrev o137:Ts:=[.v (.sl true .s)]
abbrev F137:=FT i137 o137
abbrev g137:=mkG 137 i137 o137
noncomputable def m137 (y:PTup i137):Option (PTup o137×BTup i137):=
  some ((((bz [110,111,112])::((bz [108,100,105])::((bz [108,100,97])::((bz [115,116,97])::((bz [97,100,105])::((bz [115,98,105])::((bz [97,110,105])::((bz [111,114,105])::((bz [120,114,105])::((bz [99,112,105])::((bz [116,97,120])::((bz [116,120,97])::((bz [105,110,120])::((bz [100,101,120])::((bz [108,97,120])::((bz [115,97,120])::((bz [98,110,101])::((bz [98,101,113])::((bz [98,99,115])::((bz [106,109,112])::((bz [106,115,114])::((bz [114,116,115])::((bz [112,104,97])::((bz [112,108,97])::((bz [114,116,105])::((bz [115,101,105])::((bz [99,108,105])::((bz [115,101,99])::((bz [99,108,99])::((bz [97,100,97])::[])))))))))))))))))))))))))))))),()),())
theorem s137 (y):TE [] Tryz.f137 i137 o137 y=m137 y:=by kernel_rfl
noncomputable def r137:F137:=m137
theorem k137:KO (g137 r137):=fk (s137) trivial (by kernel_rfl)
abbrev i136:Ts:=[.v (.sl false .s), .v (.str)]
abbrev o136:Ts:=[.v (.int .i64)]
abbrev F136:=FT i136 o136
abbrev g136:=mkG 136 i136 o136
abbrev lc136_0:Ts:=[.v (.sl false .s), .v (.str), .v (.int .i64)]
abbrev lb136_0:Ts:=[]
abbrev lv136_0:Ts:=[.v (.int .i64)]
abbrev lr136_0:Ts:=[.v (.int .i64)]
abbrev R136_0:=Option (Sum (PTup lv136_0) (PTup lr136_0)×BTup lb136_0)
abbrev B136_0:=PTup lb136_0→PTup lv136_0→R136_0
abbrev A136_0:=PTup lc136_0→B136_0
noncomputable def w136_0 (again:B136_0) (x:PTup lc136_0) (y:PTup lb136_0) (z:PTup lv136_0):R136_0:=
  bif (ltI z.1 x.2.2.1)then (bif (leI 0 z.1)then (bif (ltI z.1 (lenI x.1))then (bif ((ByteArray.toList x.2.1)==(ByteArray.toList (rdE .s x.1 z.1)))then (some ((Sum.inr z),()))
     else again () ((wI (z.1+1)),()))
    else none)
   else none)
  else some ((Sum.inl z),())
noncomputable def e136_0 (l:A136_0):ZaX:=⟨[0,1,7],lc136_0,[],lb136_0,[8],lv136_0,[4],lr136_0,0,[],l⟩
noncomputable def m136 (l0:A136_0) (y:PTup i136):Option (PTup o136×BTup i136):=
  (l0 (y.1,(y.2.1,((lenI y.1),()))) () ((0:Int),())).bind fun r0=>
  Zah r0.1 (fun r1=>some (((-(1:Int)),()),()))
  (fun r1=>some (r1,()))
noncomputable def E136 (l0:A136_0):CEnv:=⟨⟨Tryz.prog,fnsL []⟩,ZaV [(2,e136_0 l0)]⟩
theorem t136_0 (l0:A136_0) (again) (x y z):Zai (E136 l0) (Zae (Zaf Tryz.f136) 0) (e136_0 l0) Tryz.f136.ntmps again x y z=w136_0 again x y z:=by kernel_rfl
noncomputable def n136_0:Nat→A136_0
  |0,_,_,_=>none
  |n+1,x,y,z=>w136_0 (fun y z=>n136_0 n x y z) x y z
theorem s136 (l0:A136_0) (y):tevF (E136 l0) Tryz.f136 i136 o136 y=m136 l0 y:=by kernel_rfl
noncomputable def L136_0:A136_0:=n136_0 fuel
noncomputable def r136:F136:=m136 L136_0
theorem k136:KO (g136 r136):=by
  have hE: ∀g f,(E136 L136_0).env.fns g=some f→Zak Tryz.prog g f:=Zaw trivial
  have h0:ZaI Tryz.prog Tryz.f136.ntmps (Zae (Zaf Tryz.f136) 0) (e136_0 L136_0):=Zbr (E:=E136 L136_0) rfl hE mixed (Zab.of_list (l:=[]) (by kernel_rfl) trivial) (n136_0) (fun _ _ _=>rfl) (fun n x y z=>t136_0 L136_0 _ x y z) rfl
  exact ZbV (E:=E136 L136_0) rfl hE mixed (by kernel_rfl) (by kernel_rfl) (Zab.of_list (l:=[(Zae (Zaf Tryz.f136) 0)]) (by kernel_rfl) (.one (by kernel_rfl) h0 trivial)) (s136 L136_0)
abbrev i90:Ts:=[.v (.str)]
abbrev o90:Ts:=[.v (.int .i64)]
abbrev F90:=FT i90 o90
abbrev g90:=mkG 90 i90 o90
noncomputable def m90 (c137:F137) (c136:F136) (y:PTup i90):Option (PTup o90×BTup i90):=
  (c137 ()).bind fun r0=>
  (c136 (r0.1.1,y)).bind fun r1=>
  some (r1.1,())
theorem s90 (c137:F137) (c136:F136) (y):TE [g137 c137,g136 c136] Tryz.f90 i90 o90 y=m90 c137 c136 y:=by kernel_rfl
noncomputable def r90:F90:=m90 r137 r136
theorem k90:KO (g90 r90):=fk (s90 r137 r136) ⟨k137,k136,⟨⟩⟩ (by kernel_rfl)
abbrev i91:Ts:=[.v (.int .i64)]
abbrev o91:Ts:=[.v (.int .i64)]
abbrev F91:=FT i91 o91
abbrev g91:=mkG 91 i91 o91
noncomputable def m91 (c52:F52) (y:PTup i91):Option (PTup o91×BTup i91):=
  bif (eqI y.1 1)then (some (((2:Int),()),()))
  else (c52 (y.1,((4:Int),((9:Int),())))).bind fun r0=>
  bif r0.1.1 then (some (((2:Int),()),()))
  else bif (eqI y.1 2)then (some (((3:Int),()),()))
  else bif (eqI y.1 3)then (some (((3:Int),()),()))
  else (c52 (y.1,((14:Int),((20:Int),())))).bind fun r1=>
  bif r1.1.1 then (some (((3:Int),()),()))
  else bif (eqI y.1 29)then (some (((3:Int),()),()))
  else some (((1:Int),()),())
theorem s91 (c52:F52) (y):TE [g52 c52] Tryz.f91 i91 o91 y=m91 c52 y:=by kernel_rfl
noncomputable def r91:F91:=m91 r52
theorem k91:KO (g91 r91):=fk (s91 r52) ⟨k52,⟨⟩⟩ (by kernel_rfl)
abbrev i44:Ts:=[.v (.str)]
abbrev o44:Ts:=[.v (.sl true .i), .v (.bool)]
abbrev F44:=FT i44 o44
abbrev g44:=mkG 44 i44 o44
noncomputable def m44 (c91:F91) (c90:F90) (c43:F43) (c89:F89) (y:PTup i44):Option (PTup o44×BTup i44):=
  (c89 (y.1,((bz [32]),()))).bind fun r0=>
  (c90 (r0.1.1,())).bind fun r1=>
  (c43 (r0.1.2.1,((255:Int),()))).bind fun r2=>
  bif ((ByteArray.toList r0.1.1)==(ByteArray.toList (bz [98,121,116,101])))then (some (((r2.1.1::[]),r2.1.2),()))
  else bif (ltI r1.1.1 0)then (some (([],(false,())),()))
  else (c91 r1.1).bind fun r3=>
  bif (eqI r3.1.1 1)then (some (((r1.1.1::[]),((!r0.1.2.2.1),())),()))
  else (c91 r1.1).bind fun r4=>
  bif (eqI r4.1.1 2)then (some (((r1.1.1::(r2.1.1::[])),r2.1.2),()))
  else (c43 (r0.1.2.1,((65535:Int),()))).bind fun r5=>
  some (((r1.1.1::((Int.tmod r5.1.1 256)::((wI (Int.tdiv r5.1.1 256))::[]))),r5.1.2),())
theorem s44 (c91:F91) (c90:F90) (c43:F43) (c89:F89) (y):TE [g91 c91,g90 c90,g43 c43,g89 c89] Tryz.f44 i44 o44 y=m44 c91 c90 c43 c89 y:=by kernel_rfl
noncomputable def r44:F44:=m44 r91 r90 r43 r89
theorem k44:KO (g44 r44):=fk (s44 r91 r90 r43 r89) ⟨k91,k90,k43,k89,⟨⟩⟩ (by kernel_rfl)
abbrev i15:Ts:=[.v (.str)]
abbrev o15:Ts:=[.v (.sl true .i), .v (.int .i64)]
abbrev F15:=FT i15 o15
abbrev g15:=mkG 15 i15 o15
abbrev lc15_0:Ts:=[.v (.sl false .i), .v (.int .i64)]
abbrev lb15_0:Ts:=[]
abbrev lv15_0:Ts:=[.v (.int .i64), .v (.int .i64), .v (.sl true .i)]
abbrev lr15_0:Ts:=[]
abbrev R15_0:=Option (Sum (PTup lv15_0) (PTup lr15_0)×BTup lb15_0)
abbrev B15_0:=PTup lb15_0→PTup lv15_0→R15_0
abbrev A15_0:=PTup lc15_0→B15_0
noncomputable def w15_0 (c44:F44) (c41:F41) (c43:F43) (c42:F42) (again:B15_0) (x:PTup lc15_0) (y:PTup lb15_0) (z:PTup lv15_0):R15_0:=
  bif (ltI z.2.1 x.2.1)then (bif (leI 0 z.2.1)then (bif (ltI z.2.1 (lenI x.1))then (bif (leI 0 z.1)then (bif (ltI z.1 (lenI z.2.2.1))then (again () ((Int.tmod (wI (z.1+1)) (256:Int)),((wI (z.2.1+1)),((List.set z.2.2.1 (Int.toNat z.1) (rdE .i x.1 z.2.1)),()))))
      else none)
     else none)
    else none)
   else none)
  else some ((Sum.inl z),())
noncomputable def e15_0 (l:A15_0):ZaX:=⟨[55,56],lc15_0,[],lb15_0,[5,57,4],lv15_0,[],lr15_0,2,[],l⟩
abbrev lc15_1:Ts:=[.v (.sl false .s), .v (.int .i64)]
abbrev lb15_1:Ts:=[]
abbrev lv15_1:Ts:=[.v (.int .i64), .v (.int .i64), .v (.sl true .i)]
abbrev lr15_1:Ts:=[.v (.sl true .i), .v (.int .i64)]
abbrev R15_1:=Option (Sum (PTup lv15_1) (PTup lr15_1)×BTup lb15_1)
abbrev B15_1:=PTup lb15_1→PTup lv15_1→R15_1
abbrev A15_1:=PTup lc15_1→B15_1
noncomputable def w15_1 (c44:F44) (c41:F41) (c43:F43) (c42:F42) (l0:A15_0) (again:B15_1) (x:PTup lc15_1) (y:PTup lb15_1) (z:PTup lv15_1):R15_1:=
  bif (ltI z.2.1 x.2.1)then (bif (leI 0 z.2.1)then (bif (ltI z.2.1 (lenI x.1))then (bif ((ByteArray.toList (rdE .s x.1 z.2.1))==(ByteArray.toList (bz [])))then (again () (z.1,((wI (z.2.1+1)),z.2.2)))
     else (c42 ((rdE .s x.1 z.2.1),((bz [97,116,32]),()))).bind fun r0=>
     bif r0.1.2.1 then ((c43 (r0.1.1,((255:Int),()))).bind fun r1=>
      bif (!r1.1.2.1)then (some ((Sum.inr ([],((wI (z.2.1+1)),()))),()))
      else again () (r1.1.1,((wI (z.2.1+1)),z.2.2)))
     else (c44 ((rdE .s x.1 z.2.1),())).bind fun r1=>
     bif (!r1.1.2.1)then (some ((Sum.inr ([],((wI (z.2.1+1)),()))),()))
     else (l0 (r1.1.1,((lenI r1.1.1),())) () (z.1,((0:Int),z.2.2))).bind fun r2=>
     Zah r2.1 (fun r3=>again () (r3.1,((wI (z.2.1+1)),r3.2.2)))
     (fun r3=>none))
    else none)
   else none)
  else some ((Sum.inl z),())
noncomputable def e15_1 (l:A15_1):ZaX:=⟨[21,22],lc15_1,[],lb15_1,[5,23,4],lv15_1,[2,3],lr15_1,0,[],l⟩
noncomputable def m15 (c44:F44) (c41:F41) (c43:F43) (c42:F42) (l0:A15_0) (l1:A15_1) (y:PTup i15):Option (PTup o15×BTup i15):=
  bif (ltI 3000 ((((ByteArray.size y.1):Nat)):Int))then (some (([],((-(1:Int)),())),()))
  else (c41 y).bind fun r0=>
  (l1 (r0.1.1,((lenI r0.1.1),())) () ((0:Int),((0:Int),((List.replicate (Int.toNat (256:Int)) (0:Int)),())))).bind fun r1=>
  Zah r1.1 (fun r2=>some ((r2.2.2.1,((0:Int),())),()))
  (fun r2=>some (r2,()))
noncomputable def E15 (c44:F44) (c41:F41) (c43:F43) (c42:F42) (l0:A15_0) (l1:A15_1):CEnv:=⟨⟨Tryz.prog,fnsL [g44 c44,g41 c41,g43 c43,g42 c42]⟩,ZaV [(19,e15_0 l0),(6,e15_1 l1)]⟩
theorem t15_0 (c44:F44) (c41:F41) (c43:F43) (c42:F42) (l0:A15_0) (l1:A15_1) (again) (x y z):Zai (E15 c44 c41 c43 c42 l0 l1) (Zae (Zae (Zaf Tryz.f15) 0) 0) (e15_0 l0) Tryz.f15.ntmps again x y z=w15_0 c44 c41 c43 c42 again x y z:=by kernel_rfl
noncomputable def n15_0 (c44:F44) (c41:F41) (c43:F43) (c42:F42):Nat→A15_0
  |0,_,_,_=>none
  |n+1,x,y,z=>w15_0 c44 c41 c43 c42 (fun y z=>n15_0 c44 c41 c43 c42 n x y z) x y z
theorem t15_1 (c44:F44) (c41:F41) (c43:F43) (c42:F42) (l0:A15_0) (l1:A15_1) (again) (x y z):Zai (E15 c44 c41 c43 c42 l0 l1) (Zae (Zaf Tryz.f15) 0) (e15_1 l1) Tryz.f15.ntmps again x y z=w15_1 c44 c41 c43 c42 l0 again x y z:=by kernel_rfl
noncomputable def n15_1 (c44:F44) (c41:F41) (c43:F43) (c42:F42) (l0:A15_0):Nat→A15_1
  |0,_,_,_=>none
  |n+1,x,y,z=>w15_1 c44 c41 c43 c42 l0 (fun y z=>n15_1 c44 c41 c43 c42 l0 n x y z) x y z
theorem s15 (c44:F44) (c41:F41) (c43:F43) (c42:F42) (l0:A15_0) (l1:A15_1) (y):tevF (E15 c44 c41 c43 c42 l0 l1) Tryz.f15 i15 o15 y=m15 c44 c41 c43 c42 l0 l1 y:=by kernel_rfl
noncomputable def L15_0:A15_0:=n15_0 r44 r41 r43 r42 fuel
noncomputable def L15_1:A15_1:=n15_1 r44 r41 r43 r42 L15_0 fuel
noncomputable def r15:F15:=m15 r44 r41 r43 r42 L15_0 L15_1
theorem k15:KO (g15 r15):=by
  have hE: ∀g f,(E15 r44 r41 r43 r42 L15_0 L15_1).env.fns g=some f→Zak Tryz.prog g f:=Zaw ⟨k44,k41,k43,k42,⟨⟩⟩
  have h0:ZaI Tryz.prog Tryz.f15.ntmps (Zae (Zae (Zaf Tryz.f15) 0) 0) (e15_0 L15_0):=Zbr (E:=E15 r44 r41 r43 r42 L15_0 L15_1) rfl hE mixed (Zab.of_list (l:=[]) (by kernel_rfl) trivial) (n15_0 r44 r41 r43 r42) (fun _ _ _=>rfl) (fun n x y z=>t15_0 r44 r41 r43 r42 L15_0 L15_1 _ x y z) rfl
  have h1:ZaI Tryz.prog Tryz.f15.ntmps (Zae (Zaf Tryz.f15) 0) (e15_1 L15_1):=Zbr (E:=E15 r44 r41 r43 r42 L15_0 L15_1) rfl hE mixed (Zab.of_list (l:=[(Zae (Zae (Zaf Tryz.f15) 0) 0)]) (by kernel_rfl) (.one (by kernel_rfl) h0 trivial)) (n15_1 r44 r41 r43 r42 L15_0) (fun _ _ _=>rfl) (fun n x y z=>t15_1 r44 r41 r43 r42 L15_0 L15_1 _ x y z) rfl
  exact ZbV (E:=E15 r44 r41 r43 r42 L15_0 L15_1) rfl hE mixed (by kernel_rfl) (by kernel_rfl) (Zab.of_list (l:=[(Zae (Zaf Tryz.f15) 0)]) (by kernel_rfl) (.one (by kernel_rfl) h1 trivial)) (s15 r44 r41 r43 r42 L15_0 L15_1)
abbrev i51:Ts:=[.v (.int .i64)]
abbrev o51:Ts:=[.v (.bool)]
abbrev F51:=FT i51 o51
abbrev g51:=mkG 51 i51 o51
noncomputable def m51 (c52:F52) (y:PTup i51):Option (PTup o51×BTup i51):=
  (c52 (y.1,((0:Int),((20000:Int),())))).bind fun r0=>
  some (r0.1,())
theorem s51 (c52:F52) (y):TE [g52 c52] Tryz.f51 i51 o51 y=m51 c52 y:=by kernel_rfl
noncomputable def r51:F51:=m51 r52
theorem k51:KO (g51 r51):=fk (s51 r52) ⟨k52,⟨⟩⟩ (by kernel_rfl)
abbrev i50:Ts:=[.v (.int .i64)]
abbrev o50:Ts:=[.v (.bool)]
abbrev F50:=FT i50 o50
abbrev g50:=mkG 50 i50 o50
noncomputable def m50 (c52:F52) (y:PTup i50):Option (PTup o50×BTup i50):=
  (c52 (y.1,((0:Int),((255:Int),())))).bind fun r0=>
  some (r0.1,())
theorem s50 (c52:F52) (y):TE [g52 c52] Tryz.f50 i50 o50 y=m50 c52 y:=by kernel_rfl
noncomputable def r50:F50:=m50 r52
theorem k50:KO (g50 r50):=fk (s50 r52) ⟨k52,⟨⟩⟩ (by kernel_rfl)
abbrev i123:Ts:=[.a q6]
abbrev o123:Ts:=[.v (.bool)]
abbrev R123:=Option (PTup o123×BTup i123)
abbrev F123:=PTup i123→R123
abbrev g123:=mkG 123 i123 o123
abbrev lc123_0:Ts:=[.v (.sl false .t), .v (.int .i64)]
abbrev lb123_0:Ts:=[.p q6]
abbrev lv123_0:Ts:=[.v (.int .i64)]
abbrev lr123_0:Ts:=[.v (.bool)]
abbrev R123_0:=Option (Sum (PTup lv123_0) (PTup lr123_0)×BTup lb123_0)
abbrev B123_0:=PTup lb123_0→PTup lv123_0→R123_0
abbrev A123_0:=PTup lc123_0→B123_0
noncomputable def w123_0 (c50:F50) (c51:F51) (c52:F52) (again:B123_0) (x:PTup lc123_0) (y:PTup lb123_0) (z:PTup lv123_0):R123_0:=
  let X0:R123_0:=(c52 ((rdE .t x.1 z.1).2.1,((0:Int),((7:Int),())))).bind fun r1=>bif (!r1.1.1)then (some ((Sum.inr (false,())),(y.1,())))else (c50 ((rdE .t x.1 z.1).2.2,())).bind fun r2=>bif (!r2.1.1)then (some ((Sum.inr (false,())),(y.1,())))else again (y.1,()) ((wI (z.1+1)),());bif (ltI z.1 x.2.1)then (bif (leI 0 z.1)then (bif (ltI z.1 (lenI x.1))then ((c51 ((rdE .t x.1 z.1).1,())).bind fun r0=>bif (!r0.1.1)then (some ((Sum.inr (false,())),(y.1,())))else bif (ltI 0 z.1)then (bif (leI 0 (wI (z.1-1)))then (bif (ltI (wI (z.1-1)) (lenI y.1.2.1))then (bif (ltI (rdE .t x.1 z.1).1 (rdE .t y.1.2.1 (wI (z.1-1))).1)then (some ((Sum.inr (false,())),(y.1,())))else X0)else none)else none)else X0)else none)else none)else some ((Sum.inl z),(y.1,()))
noncomputable def e123_0 (l:A123_0):ZaX:=⟨[6,7],lc123_0,[1],lb123_0,[8],lv123_0,[2],lr123_0,0,[],l⟩
noncomputable def m123 (c50:F50) (c51:F51) (c52:F52) (l0:A123_0) (y:PTup i123):R123:=
  (l0 (y.1.2.1,((lenI y.1.2.1),())) (y.1,()) ((0:Int),())).bind fun r0=>
  Zah r0.1 (fun r1=>(c52 (r0.2.1.1,((1:Int),((16:Int),())))).bind fun r2=>
   bif r2.1.1 then (some (((leI (lenI y.1.2.1) r0.2.1.1),()),()))
   else no)
  (fun r1=>some (r1,()))
noncomputable def E123 (c50:F50) (c51:F51) (c52:F52) (l0:A123_0):CEnv:=⟨⟨Tryz.prog,fnsL [g50 c50,g51 c51,g52 c52]⟩,ZaV [(2,e123_0 l0)]⟩
theorem t123_0 (c50:F50) (c51:F51) (c52:F52) (l0:A123_0) (again) (x y z):Zai (E123 c50 c51 c52 l0) (Zae (Zaf Tryz.f123) 0) (e123_0 l0) Tryz.f123.ntmps again x y z=w123_0 c50 c51 c52 again x y z:=by kernel_rfl
noncomputable def n123_0 (c50:F50) (c51:F51) (c52:F52):Nat→A123_0
  |0,_,_,_=>none
  |n+1,x,y,z=>w123_0 c50 c51 c52 (fun y z=>n123_0 c50 c51 c52 n x y z) x y z
theorem s123 (c50:F50) (c51:F51) (c52:F52) (l0:A123_0) (y):tevF (E123 c50 c51 c52 l0) Tryz.f123 i123 o123 y=m123 c50 c51 c52 l0 y:=by kernel_rfl
noncomputable def L123_0:A123_0:=n123_0 r50 r51 r52 fuel
noncomputable def r123:F123:=m123 r50 r51 r52 L123_0
theorem k123:KO (g123 r123):=by
  have hE: ∀g f,(E123 r50 r51 r52 L123_0).env.fns g=some f→Zak Tryz.prog g f:=Zaw ⟨k50,k51,k52,⟨⟩⟩
  have h0:ZaI Tryz.prog Tryz.f123.ntmps (Zae (Zaf Tryz.f123) 0) (e123_0 L123_0):=Zbr (E:=E123 r50 r51 r52 L123_0) rfl hE mixed (Zab.of_list (l:=[]) (by kernel_rfl) trivial) (n123_0 r50 r51 r52) (fun _ _ _=>rfl) (fun n x y z=>t123_0 r50 r51 r52 L123_0 _ x y z) rfl
  exact ZbV (E:=E123 r50 r51 r52 L123_0) rfl hE mixed (by kernel_rfl) (by kernel_rfl) (Zab.of_list (l:=[(Zae (Zaf Tryz.f123) 0)]) (by kernel_rfl) (.one (by kernel_rfl) h0 trivial)) (s123 r50 r51 r52 L123_0)
abbrev i65:Ts:=[.v (.int .i64)]
abbrev o65:Ts:=[.a q12, .v (.bool)]
abbrev F65:=FT i65 o65
abbrev g65:=mkG 65 i65 o65
noncomputable def m65 (c123:F123) (y:PTup i65):Option (PTup o65×BTup i65):=
  (c123 ((y.1,([],())),())).bind fun r0=>
  bif (!r0.1.1)then (some ((((0:Int),([],())),(false,())),()))
  else some (((y.1,([],())),(true,())),())
theorem s65 (c123:F123) (y):TE [g123 c123] Tryz.f65 i65 o65 y=m65 c123 y:=by kernel_rfl
noncomputable def r65:F65:=m65 r123
theorem k65:KO (g65 r65):=fk (s65 r123) ⟨k123,⟨⟩⟩ (by kernel_rfl)
abbrev i67:Ts:=[.v (.sl false .i)]
abbrev o67:Ts:=[.v (.sl true .i)]
abbrev F67:=FT i67 o67
abbrev g67:=mkG 67 i67 o67
noncomputable def m67 (y:PTup i67):Option (PTup o67×BTup i67):=
  bif (leN (0+(List.length y.1)) (E.most .i))then (some ((([]++y.1),()),()))
  else none
theorem s67 (y):TE [] Tryz.f67 i67 o67 y=m67 y:=by kernel_rfl
noncomputable def r67:F67:=m67
theorem k67:KO (g67 r67):=fk (s67) trivial (by kernel_rfl)
abbrev i66:Ts:=[.a q0]
abbrev o66:Ts:=[.a [.sl true .n]]
abbrev F66:=FT i66 o66
abbrev g66:=mkG 66 i66 o66
abbrev lc66_0:Ts:=[.v (.sl false .n), .v (.int .i64)]
abbrev lb66_0:Ts:=[.p [.sl true .n]]
abbrev lv66_0:Ts:=[.v (.int .i64)]
abbrev lr66_0:Ts:=[]
abbrev R66_0:=Option (Sum (PTup lv66_0) (PTup lr66_0)×BTup lb66_0)
abbrev B66_0:=PTup lb66_0→PTup lv66_0→R66_0
abbrev A66_0:=PTup lc66_0→B66_0
noncomputable def w66_0 (c67:F67) (again:B66_0) (x:PTup lc66_0) (y:PTup lb66_0) (z:PTup lv66_0):R66_0:=
  bif (ltI z.1 x.2.1)then (bif (leI 0 z.1)then (bif (ltI z.1 (lenI x.1))then ((c67 ((rdE .n x.1 z.1),())).bind fun r0=>
     bif (leN ((List.length y.1.1)+(List.length (r0.1.1::[]))) (E.most .n))then (again (((y.1.1++(r0.1.1::[])),()),()) ((wI (z.1+1)),()))
     else none)
    else none)
   else none)
  else some ((Sum.inl z),(y.1,()))
noncomputable def e66_0 (l:A66_0):ZaX:=⟨[8,9],lc66_0,[3],lb66_0,[10],lv66_0,[],lr66_0,0,[],l⟩
noncomputable def m66 (c67:F67) (l0:A66_0) (y:PTup i66):Option (PTup o66×BTup i66):=
  (l0 (y.1.1,((lenI y.1.1),())) (([],()),()) ((0:Int),())).bind fun r0=>
  Zah r0.1 (fun r1=>some ((r0.2.1,()),()))
  (fun r1=>some ((([],()),()),()))
noncomputable def E66 (c67:F67) (l0:A66_0):CEnv:=⟨⟨Tryz.prog,fnsL [g67 c67]⟩,ZaV [(3,e66_0 l0)]⟩
theorem t66_0 (c67:F67) (l0:A66_0) (again) (x y z):Zai (E66 c67 l0) (Zae (Zaf Tryz.f66) 0) (e66_0 l0) Tryz.f66.ntmps again x y z=w66_0 c67 again x y z:=by kernel_rfl
noncomputable def n66_0 (c67:F67):Nat→A66_0
  |0,_,_,_=>none
  |n+1,x,y,z=>w66_0 c67 (fun y z=>n66_0 c67 n x y z) x y z
theorem s66 (c67:F67) (l0:A66_0) (y):tevF (E66 c67 l0) Tryz.f66 i66 o66 y=m66 c67 l0 y:=by kernel_rfl
noncomputable def L66_0:A66_0:=n66_0 r67 fuel
noncomputable def r66:F66:=m66 r67 L66_0
theorem k66:KO (g66 r66):=by
  have hE: ∀g f,(E66 r67 L66_0).env.fns g=some f→Zak Tryz.prog g f:=Zaw ⟨k67,⟨⟩⟩
  have h0:ZaI Tryz.prog Tryz.f66.ntmps (Zae (Zaf Tryz.f66) 0) (e66_0 L66_0):=Zbr (E:=E66 r67 L66_0) rfl hE mixed (Zab.of_list (l:=[]) (by kernel_rfl) trivial) (n66_0 r67) (fun _ _ _=>rfl) (fun n x y z=>t66_0 r67 L66_0 _ x y z) rfl
  exact ZbV (E:=E66 r67 L66_0) rfl hE mixed (by kernel_rfl) (by kernel_rfl) (Zab.of_list (l:=[(Zae (Zaf Tryz.f66) 0)]) (by kernel_rfl) (.one (by kernel_rfl) h0 trivial)) (s66 r67 L66_0)
abbrev i68:Ts:=[]
abbrev o68:Ts:=[.a q1]
abbrev F68:=FT i68 o68
abbrev g68:=mkG 68 i68 o68
noncomputable def m68 (y:PTup i68):Option (PTup o68×BTup i68):=
  some ((((List.replicate (Int.toNat (512:Int)) (0:Int)),((0:Int),())),()),())
theorem s68 (y):TE [] Tryz.f68 i68 o68 y=m68 y:=by kernel_rfl
noncomputable def r68:F68:=m68
theorem k68:KO (g68 r68):=fk (s68) trivial (by kernel_rfl)
abbrev i93:Ts:=[.v (.sl false .i)]
abbrev o93:Ts:=[.v (.bool)]
abbrev F93:=FT i93 o93
abbrev g93:=mkG 93 i93 o93
abbrev lc93_0:Ts:=[.v (.sl false .i), .v (.int .i64)]
abbrev lb93_0:Ts:=[]
abbrev lv93_0:Ts:=[.v (.int .i64)]
abbrev lr93_0:Ts:=[.v (.bool)]
abbrev R93_0:=Option (Sum (PTup lv93_0) (PTup lr93_0)×BTup lb93_0)
abbrev B93_0:=PTup lb93_0→PTup lv93_0→R93_0
abbrev A93_0:=PTup lc93_0→B93_0
noncomputable def w93_0 (c50:F50) (again:B93_0) (x:PTup lc93_0) (y:PTup lb93_0) (z:PTup lv93_0):R93_0:=
  bif (ltI z.1 x.2.1)then (bif (leI 0 z.1)then (bif (ltI z.1 (lenI x.1))then ((c50 ((rdE .i x.1 z.1),())).bind fun r0=>
     bif (!r0.1.1)then (some ((Sum.inr (false,())),()))
     else again () ((wI (z.1+1)),()))
    else none)
   else none)
  else some ((Sum.inl z),())
noncomputable def e93_0 (l:A93_0):ZaX:=⟨[5,6],lc93_0,[],lb93_0,[7],lv93_0,[2],lr93_0,0,[],l⟩
noncomputable def m93 (c50:F50) (l0:A93_0) (y:PTup i93):Option (PTup o93×BTup i93):=
  (l0 (y.1,((lenI y.1),())) () ((0:Int),())).bind fun r0=>
  Zah r0.1 (fun r1=>some ((true,()),()))
  (fun r1=>some (r1,()))
noncomputable def E93 (c50:F50) (l0:A93_0):CEnv:=⟨⟨Tryz.prog,fnsL [g50 c50]⟩,ZaV [(2,e93_0 l0)]⟩
theorem t93_0 (c50:F50) (l0:A93_0) (again) (x y z):Zai (E93 c50 l0) (Zae (Zaf Tryz.f93) 0) (e93_0 l0) Tryz.f93.ntmps again x y z=w93_0 c50 again x y z:=by kernel_rfl
noncomputable def n93_0 (c50:F50):Nat→A93_0
  |0,_,_,_=>none
  |n+1,x,y,z=>w93_0 c50 (fun y z=>n93_0 c50 n x y z) x y z
theorem s93 (c50:F50) (l0:A93_0) (y):tevF (E93 c50 l0) Tryz.f93 i93 o93 y=m93 c50 l0 y:=by kernel_rfl
noncomputable def L93_0:A93_0:=n93_0 r50 fuel
noncomputable def r93:F93:=m93 r50 L93_0
theorem k93:KO (g93 r93):=by
  have hE: ∀g f,(E93 r50 L93_0).env.fns g=some f→Zak Tryz.prog g f:=Zaw ⟨k50,⟨⟩⟩
  have h0:ZaI Tryz.prog Tryz.f93.ntmps (Zae (Zaf Tryz.f93) 0) (e93_0 L93_0):=Zbr (E:=E93 r50 L93_0) rfl hE mixed (Zab.of_list (l:=[]) (by kernel_rfl) trivial) (n93_0 r50) (fun _ _ _=>rfl) (fun n x y z=>t93_0 r50 L93_0 _ x y z) rfl
  exact ZbV (E:=E93 r50 L93_0) rfl hE mixed (by kernel_rfl) (by kernel_rfl) (Zab.of_list (l:=[(Zae (Zaf Tryz.f93) 0)]) (by kernel_rfl) (.one (by kernel_rfl) h0 trivial)) (s93 r50 L93_0)
abbrev i92:Ts:=[.a q0]
abbrev o92:Ts:=[.v (.bool)]
abbrev F92:=FT i92 o92
abbrev g92:=mkG 92 i92 o92
abbrev lc92_0:Ts:=[.v (.sl false .n), .v (.int .i64)]
abbrev lb92_0:Ts:=[]
abbrev lv92_0:Ts:=[.v (.int .i64)]
abbrev lr92_0:Ts:=[.v (.bool)]
abbrev R92_0:=Option (Sum (PTup lv92_0) (PTup lr92_0)×BTup lb92_0)
abbrev B92_0:=PTup lb92_0→PTup lv92_0→R92_0
abbrev A92_0:=PTup lc92_0→B92_0
noncomputable def w92_0 (c93:F93) (c52:F52) (again:B92_0) (x:PTup lc92_0) (y:PTup lb92_0) (z:PTup lv92_0):R92_0:=
  bif (ltI z.1 x.2.1)then (bif (leI 0 z.1)then (bif (ltI z.1 (lenI x.1))then (bif (neI (lenI (rdE .n x.1 z.1)) (256:Int))then (some ((Sum.inr (false,())),()))
     else (c93 ((rdE .n x.1 z.1),())).bind fun r0=>
     bif (!r0.1.1)then (some ((Sum.inr (false,())),()))
     else again () ((wI (z.1+1)),()))
    else none)
   else none)
  else some ((Sum.inl z),())
noncomputable def e92_0 (l:A92_0):ZaX:=⟨[6,7],lc92_0,[],lb92_0,[8],lv92_0,[2],lr92_0,0,[],l⟩
noncomputable def m92 (c93:F93) (c52:F52) (l0:A92_0) (y:PTup i92):Option (PTup o92×BTup i92):=
  (l0 (y.1.1,((lenI y.1.1),())) () ((0:Int),())).bind fun r0=>
  Zah r0.1 (fun r1=>(c52 ((lenI y.1.1),((1:Int),((8:Int),())))).bind fun r2=>
   some (r2.1,()))
  (fun r1=>some (r1,()))
noncomputable def E92 (c93:F93) (c52:F52) (l0:A92_0):CEnv:=⟨⟨Tryz.prog,fnsL [g93 c93,g52 c52]⟩,ZaV [(2,e92_0 l0)]⟩
theorem t92_0 (c93:F93) (c52:F52) (l0:A92_0) (again) (x y z):Zai (E92 c93 c52 l0) (Zae (Zaf Tryz.f92) 0) (e92_0 l0) Tryz.f92.ntmps again x y z=w92_0 c93 c52 again x y z:=by kernel_rfl
noncomputable def n92_0 (c93:F93) (c52:F52):Nat→A92_0
  |0,_,_,_=>none
  |n+1,x,y,z=>w92_0 c93 c52 (fun y z=>n92_0 c93 c52 n x y z) x y z
theorem s92 (c93:F93) (c52:F52) (l0:A92_0) (y):tevF (E92 c93 c52 l0) Tryz.f92 i92 o92 y=m92 c93 c52 l0 y:=by kernel_rfl
noncomputable def L92_0:A92_0:=n92_0 r93 r52 fuel
noncomputable def r92:F92:=m92 r93 r52 L92_0
theorem k92:KO (g92 r92):=by
  have hE: ∀g f,(E92 r93 r52 L92_0).env.fns g=some f→Zak Tryz.prog g f:=Zaw ⟨k93,k52,⟨⟩⟩
  have h0:ZaI Tryz.prog Tryz.f92.ntmps (Zae (Zaf Tryz.f92) 0) (e92_0 L92_0):=Zbr (E:=E92 r93 r52 L92_0) rfl hE mixed (Zab.of_list (l:=[]) (by kernel_rfl) trivial) (n92_0 r93 r52) (fun _ _ _=>rfl) (fun n x y z=>t92_0 r93 r52 L92_0 _ x y z) rfl
  exact ZbV (E:=E92 r93 r52 L92_0) rfl hE mixed (by kernel_rfl) (by kernel_rfl) (Zab.of_list (l:=[(Zae (Zaf Tryz.f92) 0)]) (by kernel_rfl) (.one (by kernel_rfl) h0 trivial)) (s92 r93 r52 L92_0)
abbrev i45:Ts:=[.a q0, .a q2]
abbrev o45:Ts:=[.v (.bool)]
abbrev F45:=FT i45 o45
abbrev g45:=mkG 45 i45 o45
noncomputable def m45 (c92:F92) (c93:F93) (c52:F52) (y:PTup i45):Option (PTup o45×BTup i45):=
  (c92 (y.1,())).bind fun r0=>
  bif r0.1.1 then (bif (eqI (lenI y.2.1.1) 512)then ((c93 (y.2.1.1,())).bind fun r1=>
    bif r1.1.1 then ((c52 (y.2.1.2.1,((0:Int),((wI ((lenI y.1.1)-1)),())))).bind fun r2=>
     some (r2.1,()))
    else no)
   else no)
  else no
theorem s45 (c92:F92) (c93:F93) (c52:F52) (y):TE [g92 c92,g93 c93,g52 c52] Tryz.f45 i45 o45 y=m45 c92 c93 c52 y:=by kernel_rfl
noncomputable def r45:F45:=m45 r92 r93 r52
theorem k45:KO (g45 r45):=fk (s45 r92 r93 r52) ⟨k92,k93,k52,⟨⟩⟩ (by kernel_rfl)
abbrev i216:Ts:=[.v (.int .i64)]
abbrev o216:Ts:=[.v (.int .i64)]
abbrev F216:=FT i216 o216
abbrev g216:=mkG 216 i216 o216
noncomputable def m216 (y:PTup i216):Option (PTup o216×BTup i216):=
  some (((bAnd Go.IntKind.i64 y.1 (65535:Int)),()),())
theorem s216 (y):TE [] Tryz.f216 i216 o216 y=m216 y:=by kernel_rfl
noncomputable def r216:F216:=m216
theorem k216:KO (g216 r216):=fk (s216) trivial (by kernel_rfl)
abbrev i188:Ts:=[.v (.int .i64)]
abbrev o188:Ts:=[.v (.int .i64), .v (.int .i64)]
abbrev F188:=FT i188 o188
abbrev g188:=mkG 188 i188 o188
noncomputable def m188 (c216:F216) (y:PTup i188):Option (PTup o188×BTup i188):=
  (c216 y).bind fun r0=>
  bif (ltI r0.1.1 8192)then (some (((1:Int),((Int.tmod r0.1.1 512),())),()))
  else bif (ltI r0.1.1 16384)then (some (((2:Int),((Int.tmod r0.1.1 8),())),()))
  else bif (ltI r0.1.1 16388)then (some (((3:Int),((Int.tmod r0.1.1 4),())),()))
  else bif (eqI r0.1.1 16406)then (some (((4:Int),((0:Int),())),()))
  else bif (ltI r0.1.1 32768)then (some (((7:Int),((0:Int),())),()))
  else bif (ltI r0.1.1 49152)then (some (((5:Int),((Int.tmod r0.1.1 256),())),()))
  else some (((6:Int),((Int.tmod r0.1.1 256),())),())
theorem s188 (c216:F216) (y):TE [g216 c216] Tryz.f188 i188 o188 y=m188 c216 y:=by kernel_rfl
noncomputable def r188:F188:=m188 r216
theorem k188:KO (g188 r188):=fk (s188 r216) ⟨k216,⟨⟩⟩ (by kernel_rfl)
abbrev i195:Ts:=[.a q0, .a q2, .v (.int .i64)]
abbrev o195:Ts:=[.v (.int .i64)]
abbrev F195:=FT i195 o195
abbrev g195:=mkG 195 i195 o195
noncomputable def m195 (c188:F188) (y:PTup i195):Option (PTup o195×BTup i195):=
  (c188 y.2.2).bind fun r0=>
  bif (eqI r0.1.1 1)then (bif (leI 0 r0.1.2.1)then (bif (ltI r0.1.2.1 (lenI y.2.1.1))then (some (((rdE .i y.2.1.1 r0.1.2.1),()),()))
    else none)
   else none)
  else bif (eqI r0.1.1 5)then (bif (leI 0 y.2.1.2.1)then (bif (ltI y.2.1.2.1 (lenI y.1.1))then (bif (leI 0 r0.1.2.1)then (bif (ltI r0.1.2.1 (lenI (rdE .n y.1.1 y.2.1.2.1)))then (some (((rdI (rdE .n y.1.1 y.2.1.2.1) r0.1.2.1),()),()))
      else none)
     else none)
    else none)
   else none)
  else bif (eqI r0.1.1 6)then (bif (leI 0 (wI ((lenI y.1.1)-1)))then (bif (ltI (wI ((lenI y.1.1)-1)) (lenI y.1.1))then (bif (leI 0 r0.1.2.1)then (bif (ltI r0.1.2.1 (lenI (rdE .n y.1.1 (wI ((lenI y.1.1)-1)))))then (some (((rdI (rdE .n y.1.1 (wI ((lenI y.1.1)-1))) r0.1.2.1),()),()))
      else none)
     else none)
    else none)
   else none)
  else some (((0:Int),()),())
theorem s195 (c188:F188) (y):TE [g188 c188] Tryz.f195 i195 o195 y=m195 c188 y:=by kernel_rfl
noncomputable def r195:F195:=m195 r188
theorem k195:KO (g195 r195):=fk (s195 r188) ⟨k188,⟨⟩⟩ (by kernel_rfl)
abbrev i160:Ts:=[.a q0, .a q2, .v (.int .i64)]
abbrev o160:Ts:=[.v (.int .i64)]
abbrev F160:=FT i160 o160
abbrev g160:=mkG 160 i160 o160
noncomputable def m160 (c45:F45) (c195:F195) (y:PTup i160):Option (PTup o160×BTup i160):=
  (c45 (y.1,(y.2.1,()))).bind fun r0=>
  bif (!r0.1.1)then (some (((0:Int),()),()))
  else (c195 y).bind fun r1=>
  some (r1.1,())
theorem s160 (c45:F45) (c195:F195) (y):TE [g45 c45,g195 c195] Tryz.f160 i160 o160 y=m160 c45 c195 y:=by kernel_rfl
noncomputable def r160:F160:=m160 r45 r195
theorem k160:KO (g160 r160):=fk (s160 r45 r195) ⟨k45,k195,⟨⟩⟩ (by kernel_rfl)
abbrev i194:Ts:=[.v (.int .i64)]
abbrev o194:Ts:=[.v (.int .i64)]
abbrev F194:=FT i194 o194
abbrev g194:=mkG 194 i194 o194
noncomputable def m194 (y:PTup i194):Option (PTup o194×BTup i194):=
  some (((bAnd Go.IntKind.i64 y.1 (255:Int)),()),())
theorem s194 (y):TE [] Tryz.f194 i194 o194 y=m194 y:=by kernel_rfl
noncomputable def r194:F194:=m194
theorem k194:KO (g194 r194):=fk (s194) trivial (by kernel_rfl)
abbrev i159:Ts:=[.v (.int .i64), .v (.int .i64)]
abbrev o159:Ts:=[.v (.int .i64)]
abbrev F159:=FT i159 o159
abbrev g159:=mkG 159 i159 o159
noncomputable def m159 (c194:F194) (y:PTup i159):Option (PTup o159×BTup i159):=
  (c194 (y.1,())).bind fun r0=>
  (c194 y.2).bind fun r1=>
  some (((wI (r0.1.1+(wI ((256:Int)*r1.1.1)))),()),())
theorem s159 (c194:F194) (y):TE [g194 c194] Tryz.f159 i159 o159 y=m159 c194 y:=by kernel_rfl
noncomputable def r159:F159:=m159 r194
theorem k159:KO (g159 r159):=fk (s159 r194) ⟨k194,⟨⟩⟩ (by kernel_rfl)
abbrev i124:Ts:=[.a q0, .a q2, .v (.int .i64)]
abbrev o124:Ts:=[.v (.int .i64)]
abbrev F124:=FT i124 o124
abbrev g124:=mkG 124 i124 o124
noncomputable def m124 (c159:F159) (c160:F160) (y:PTup i124):Option (PTup o124×BTup i124):=
  (c160 y).bind fun r0=>
  (c160 (y.1,(y.2.1,((wI (y.2.2.1+1)),())))).bind fun r1=>
  (c159 (r0.1.1,r1.1)).bind fun r2=>
  some (r2.1,())
theorem s124 (c159:F159) (c160:F160) (y):TE [g159 c159,g160 c160] Tryz.f124 i124 o124 y=m124 c159 c160 y:=by kernel_rfl
noncomputable def r124:F124:=m124 r159 r160
theorem k124:KO (g124 r124):=fk (s124 r159 r160) ⟨k159,k160,⟨⟩⟩ (by kernel_rfl)
abbrev i69:Ts:=[.a q0]
abbrev o69:Ts:=[.a q3]
abbrev F69:=FT i69 o69
abbrev g69:=mkG 69 i69 o69
noncomputable def m69 (c68:F68) (c124:F124) (y:PTup i69):Option (PTup o69×BTup i69):=
  (c68 ()).bind fun r0=>
  (c124 (y.1,(r0.1.1,((65532:Int),())))).bind fun r1=>
  some ((((0:Int),((0:Int),((255:Int),(r1.1.1,(false,(false,(false,(true,())))))))),()),())
theorem s69 (c68:F68) (c124:F124) (y):TE [g68 c68,g124 c124] Tryz.f69 i69 o69 y=m69 c68 c124 y:=by kernel_rfl
noncomputable def r69:F69:=m69 r68 r124
theorem k69:KO (g69 r69):=fk (s69 r68 r124) ⟨k68,k124,⟨⟩⟩ (by kernel_rfl)
abbrev i70:Ts:=[]
abbrev o70:Ts:=[.a q4]
abbrev F70:=FT i70 o70
abbrev g70:=mkG 70 i70 o70
noncomputable def m70 (y:PTup i70):Option (PTup o70×BTup i70):=
  some ((((0:Int),((0:Int),((0:Int),((0:Int),((0:Int),(false,((List.replicate (Int.toNat (16:Int)) (0:Int)),([],())))))))),()),())
theorem s70 (y):TE [] Tryz.f70 i70 o70 y=m70 y:=by kernel_rfl
noncomputable def r70:F70:=m70
theorem k70:KO (g70 r70):=fk (s70) trivial (by kernel_rfl)
abbrev i71:Ts:=[.a q6]
abbrev o71:Ts:=[.a q12]
abbrev F71:=FT i71 o71
abbrev g71:=mkG 71 i71 o71
noncomputable def m71 (y:PTup i71):Option (PTup o71×BTup i71):=
  bif (leN (0+(List.length y.1.2.1)) (E.most .t))then (some (((y.1.1,(([]++y.1.2.1),())),()),()))
  else none
theorem s71 (y):TE [] Tryz.f71 i71 o71 y=m71 y:=by kernel_rfl
noncomputable def r71:F71:=m71
theorem k71:KO (g71 r71):=fk (s71) trivial (by kernel_rfl)
abbrev i46:Ts:=[.v (.sl false .i)]
abbrev o46:Ts:=[.v (.bool)]
abbrev F46:=FT i46 o46
abbrev g46:=mkG 46 i46 o46
noncomputable def m46 (c93:F93) (y:PTup i46):Option (PTup o46×BTup i46):=
  bif (leI (lenI y.1) 20)then ((c93 y).bind fun r0=>
   some (r0.1,()))
  else no
theorem s46 (c93:F93) (y):TE [g93 c93] Tryz.f46 i46 o46 y=m46 c93 y:=by kernel_rfl
noncomputable def r46:F46:=m46 r93
theorem k46:KO (g46 r46):=fk (s46 r93) ⟨k93,⟨⟩⟩ (by kernel_rfl)
abbrev i47:Ts:=[.a q3]
abbrev o47:Ts:=[.v (.bool)]
abbrev F47:=FT i47 o47
abbrev g47:=mkG 47 i47 o47
noncomputable def m47 (c50:F50) (c52:F52) (y:PTup i47):Option (PTup o47×BTup i47):=
  (c50 (y.1.1,())).bind fun r0=>
  bif r0.1.1 then ((c50 (y.1.2.1,())).bind fun r1=>
   bif r1.1.1 then ((c50 (y.1.2.2.1,())).bind fun r2=>
    bif r2.1.1 then ((c52 (y.1.2.2.2.1,((0:Int),((65535:Int),())))).bind fun r3=>
     some (r3.1,()))
    else no)
   else no)
  else no
theorem s47 (c50:F50) (c52:F52) (y):TE [g50 c50,g52 c52] Tryz.f47 i47 o47 y=m47 c50 c52 y:=by kernel_rfl
noncomputable def r47:F47:=m47 r50 r52
theorem k47:KO (g47 r47):=fk (s47 r50 r52) ⟨k50,k52,⟨⟩⟩ (by kernel_rfl)
abbrev i138:Ts:=[.v (.sl false .i)]
abbrev o138:Ts:=[.v (.bool)]
abbrev F138:=FT i138 o138
abbrev g138:=mkG 138 i138 o138
abbrev lc138_0:Ts:=[.v (.sl false .i), .v (.int .i64)]
abbrev lb138_0:Ts:=[]
abbrev lv138_0:Ts:=[.v (.int .i64)]
abbrev lr138_0:Ts:=[.v (.bool)]
abbrev R138_0:=Option (Sum (PTup lv138_0) (PTup lr138_0)×BTup lb138_0)
abbrev B138_0:=PTup lb138_0→PTup lv138_0→R138_0
abbrev A138_0:=PTup lc138_0→B138_0
noncomputable def w138_0 (c52:F52) (again:B138_0) (x:PTup lc138_0) (y:PTup lb138_0) (z:PTup lv138_0):R138_0:=
  bif (ltI z.1 x.2.1)then (bif (leI 0 z.1)then (bif (ltI z.1 (lenI x.1))then ((c52 ((rdE .i x.1 z.1),((0:Int),((63:Int),())))).bind fun r0=>
     bif (!r0.1.1)then (some ((Sum.inr (false,())),()))
     else again () ((wI (z.1+1)),()))
    else none)
   else none)
  else some ((Sum.inl z),())
noncomputable def e138_0 (l:A138_0):ZaX:=⟨[5,6],lc138_0,[],lb138_0,[7],lv138_0,[2],lr138_0,0,[],l⟩
noncomputable def m138 (c52:F52) (l0:A138_0) (y:PTup i138):Option (PTup o138×BTup i138):=
  (l0 (y.1,((lenI y.1),())) () ((0:Int),())).bind fun r0=>
  Zah r0.1 (fun r1=>some ((true,()),()))
  (fun r1=>some (r1,()))
noncomputable def E138 (c52:F52) (l0:A138_0):CEnv:=⟨⟨Tryz.prog,fnsL [g52 c52]⟩,ZaV [(2,e138_0 l0)]⟩
theorem t138_0 (c52:F52) (l0:A138_0) (again) (x y z):Zai (E138 c52 l0) (Zae (Zaf Tryz.f138) 0) (e138_0 l0) Tryz.f138.ntmps again x y z=w138_0 c52 again x y z:=by kernel_rfl
noncomputable def n138_0 (c52:F52):Nat→A138_0
  |0,_,_,_=>none
  |n+1,x,y,z=>w138_0 c52 (fun y z=>n138_0 c52 n x y z) x y z
theorem s138 (c52:F52) (l0:A138_0) (y):tevF (E138 c52 l0) Tryz.f138 i138 o138 y=m138 c52 l0 y:=by kernel_rfl
noncomputable def L138_0:A138_0:=n138_0 r52 fuel
noncomputable def r138:F138:=m138 r52 L138_0
theorem k138:KO (g138 r138):=by
  have hE: ∀g f,(E138 r52 L138_0).env.fns g=some f→Zak Tryz.prog g f:=Zaw ⟨k52,⟨⟩⟩
  have h0:ZaI Tryz.prog Tryz.f138.ntmps (Zae (Zaf Tryz.f138) 0) (e138_0 L138_0):=Zbr (E:=E138 r52 L138_0) rfl hE mixed (Zab.of_list (l:=[]) (by kernel_rfl) trivial) (n138_0 r52) (fun _ _ _=>rfl) (fun n x y z=>t138_0 r52 L138_0 _ x y z) rfl
  exact ZbV (E:=E138 r52 L138_0) rfl hE mixed (by kernel_rfl) (by kernel_rfl) (Zab.of_list (l:=[(Zae (Zaf Tryz.f138) 0)]) (by kernel_rfl) (.one (by kernel_rfl) h0 trivial)) (s138 r52 L138_0)
abbrev i94:Ts:=[.a q5]
abbrev o94:Ts:=[.v (.bool)]
abbrev F94:=FT i94 o94
abbrev g94:=mkG 94 i94 o94
noncomputable def m94 (c138:F138) (c50:F50) (c51:F51) (c52:F52) (y:PTup i94):Option (PTup o94×BTup i94):=
  (c51 (y.1.1,())).bind fun r0=>
  bif (!r0.1.1)then no
  else (c50 (y.1.2.1,())).bind fun r1=>
  bif (!r1.1.1)then no
  else (c50 (y.1.2.2.1,())).bind fun r2=>
  bif (!r2.1.1)then no
  else (c52 (y.1.2.2.2.1,((0:Int),((15:Int),())))).bind fun r3=>
  bif (!r3.1.1)then no
  else (c52 (y.1.2.2.2.2.1,((0:Int),((63:Int),())))).bind fun r4=>
  bif (!r4.1.1)then no
  else bif (ltI 48 (Int.tmod y.1.1 64))then (bif (eqI (lenI y.1.2.2.2.2.2.2.1) 16)then ((c138 (y.1.2.2.2.2.2.2.1,())).bind fun r5=>
    bif r5.1.1 then (bif (eqI (lenI y.1.2.2.2.2.2.2.2.1) 0)then ((c138 y.1.2.2.2.2.2.2.2).bind fun r6=>
      some (r6.1,()))
     else no)
    else no)
   else no)
  else bif (eqI (lenI y.1.2.2.2.2.2.2.1) 16)then ((c138 (y.1.2.2.2.2.2.2.1,())).bind fun r5=>
   bif r5.1.1 then (bif (eqI (lenI y.1.2.2.2.2.2.2.2.1) (Int.tmod y.1.1 64))then ((c138 y.1.2.2.2.2.2.2.2).bind fun r6=>
     some (r6.1,()))
    else no)
   else no)
  else no
theorem s94 (c138:F138) (c50:F50) (c51:F51) (c52:F52) (y):TE [g138 c138,g50 c50,g51 c51,g52 c52] Tryz.f94 i94 o94 y=m94 c138 c50 c51 c52 y:=by kernel_rfl
noncomputable def r94:F94:=m94 r138 r50 r51 r52
theorem k94:KO (g94 r94):=fk (s94 r138 r50 r51 r52) ⟨k138,k50,k51,k52,⟨⟩⟩ (by kernel_rfl)
abbrev i95:Ts:=[.a q6, .v (.int .i64)]
abbrev o95:Ts:=[.v (.bool)]
abbrev F95:=FT i95 o95
abbrev g95:=mkG 95 i95 o95
noncomputable def m95 (c123:F123) (y:PTup i95):Option (PTup o95×BTup i95):=
  (c123 (y.1,())).bind fun r0=>
  bif r0.1.1 then (bif (eqI (lenI y.1.2.1) 0)then (some ((true,()),()))
   else bif (ltI 0 (lenI y.1.2.1))then (some (((leI y.2.1 (rdE .t y.1.2.1 (0:Int)).1),()),()))
   else none)
  else no
theorem s95 (c123:F123) (y):TE [g123 c123] Tryz.f95 i95 o95 y=m95 c123 y:=by kernel_rfl
noncomputable def r95:F95:=m95 r123
theorem k95:KO (g95 r95):=fk (s95 r123) ⟨k123,⟨⟩⟩ (by kernel_rfl)
abbrev i139:Ts:=[.v (.int .i64), .v (.int .i64), .v (.int .i64)]
abbrev o139:Ts:=[.v (.int .i64)]
abbrev F139:=FT i139 o139
abbrev g139:=mkG 139 i139 o139
noncomputable def m139 (y:PTup i139):Option (PTup o139×BTup i139):=
  bif (neI y.2.2.1 0)then (some (((wI (Int.tdiv (wI ((wI ((wI (y.1+y.2.2.1))-1))-y.2.1)) y.2.2.1)),()),()))
  else none
theorem s139 (y):TE [] Tryz.f139 i139 o139 y=m139 y:=by kernel_rfl
noncomputable def r139:F139:=m139
theorem k139:KO (g139 r139):=fk (s139) trivial (by kernel_rfl)
abbrev i96:Ts:=[.v (.sl false .n), .v (.int .i64)]
abbrev o96:Ts:=[.v (.bool)]
abbrev F96:=FT i96 o96
abbrev g96:=mkG 96 i96 o96
abbrev lc96_0:Ts:=[.v (.sl false .n), .v (.int .i64)]
abbrev lb96_0:Ts:=[]
abbrev lv96_0:Ts:=[.v (.int .i64)]
abbrev lr96_0:Ts:=[.v (.bool)]
abbrev R96_0:=Option (Sum (PTup lv96_0) (PTup lr96_0)×BTup lb96_0)
abbrev B96_0:=PTup lb96_0→PTup lv96_0→R96_0
abbrev A96_0:=PTup lc96_0→B96_0
noncomputable def w96_0 (c139:F139) (again:B96_0) (x:PTup lc96_0) (y:PTup lb96_0) (z:PTup lv96_0):R96_0:=
  bif (ltI z.1 x.2.1)then (bif (leI 0 z.1)then (bif (ltI z.1 (lenI x.1))then (bif (neI (lenI (rdE .n x.1 z.1)) (48:Int))then (some ((Sum.inr (false,())),()))
     else again () ((wI (z.1+1)),()))
    else none)
   else none)
  else some ((Sum.inl z),())
noncomputable def e96_0 (l:A96_0):ZaX:=⟨[7,8],lc96_0,[],lb96_0,[9],lv96_0,[4],lr96_0,0,[],l⟩
noncomputable def m96 (c139:F139) (l0:A96_0) (y:PTup i96):Option (PTup o96×BTup i96):=
  (l0 (y.1,((lenI y.1),())) () ((0:Int),())).bind fun r0=>
  Zah r0.1 (fun r1=>(c139 (y.2.1,((48:Int),((64:Int),())))).bind fun r2=>
   some (((eqI (lenI y.1) r2.1.1),()),()))
  (fun r1=>some (r1,()))
noncomputable def E96 (c139:F139) (l0:A96_0):CEnv:=⟨⟨Tryz.prog,fnsL [g139 c139]⟩,ZaV [(2,e96_0 l0)]⟩
theorem t96_0 (c139:F139) (l0:A96_0) (again) (x y z):Zai (E96 c139 l0) (Zae (Zaf Tryz.f96) 0) (e96_0 l0) Tryz.f96.ntmps again x y z=w96_0 c139 again x y z:=by kernel_rfl
noncomputable def n96_0 (c139:F139):Nat→A96_0
  |0,_,_,_=>none
  |n+1,x,y,z=>w96_0 c139 (fun y z=>n96_0 c139 n x y z) x y z
theorem s96 (c139:F139) (l0:A96_0) (y):tevF (E96 c139 l0) Tryz.f96 i96 o96 y=m96 c139 l0 y:=by kernel_rfl
noncomputable def L96_0:A96_0:=n96_0 r139 fuel
noncomputable def r96:F96:=m96 r139 L96_0
theorem k96:KO (g96 r96):=by
  have hE: ∀g f,(E96 r139 L96_0).env.fns g=some f→Zak Tryz.prog g f:=Zaw ⟨k139,⟨⟩⟩
  have h0:ZaI Tryz.prog Tryz.f96.ntmps (Zae (Zaf Tryz.f96) 0) (e96_0 L96_0):=Zbr (E:=E96 r139 L96_0) rfl hE mixed (Zab.of_list (l:=[]) (by kernel_rfl) trivial) (n96_0 r139) (fun _ _ _=>rfl) (fun n x y z=>t96_0 r139 L96_0 _ x y z) rfl
  exact ZbV (E:=E96 r139 L96_0) rfl hE mixed (by kernel_rfl) (by kernel_rfl) (Zab.of_list (l:=[(Zae (Zaf Tryz.f96) 0)]) (by kernel_rfl) (.one (by kernel_rfl) h0 trivial)) (s96 r139 L96_0)
abbrev i48:Ts:=[.a q7]
abbrev o48:Ts:=[.v (.bool)]
abbrev F48:=FT i48 o48
abbrev g48:=mkG 48 i48 o48
noncomputable def m48 (c94:F94) (c96:F96) (c95:F95) (y:PTup i48):Option (PTup o48×BTup i48):=
  (c94 ((y.1.1,(y.1.2.1,(y.1.2.2.1,(y.1.2.2.2.1,(y.1.2.2.2.2.1,(y.1.2.2.2.2.2.1,(y.1.2.2.2.2.2.2.1,(y.1.2.2.2.2.2.2.2.1,())))))))),())).bind fun r0=>
  bif r0.1.1 then ((c95 ((y.1.2.2.2.2.2.2.2.2.1,(y.1.2.2.2.2.2.2.2.2.2.1,())),(y.1.1,()))).bind fun r1=>
   bif r1.1.1 then ((c96 (y.1.2.2.2.2.2.2.2.2.2.2.1,(y.1.1,()))).bind fun r2=>
    some (r2.1,()))
   else no)
  else no
theorem s48 (c94:F94) (c96:F96) (c95:F95) (y):TE [g94 c94,g96 c96,g95 c95] Tryz.f48 i48 o48 y=m48 c94 c96 c95 y:=by kernel_rfl
noncomputable def r48:F48:=m48 r94 r96 r95
theorem k48:KO (g48 r48):=fk (s48 r94 r96 r95) ⟨k94,k96,k95,⟨⟩⟩ (by kernel_rfl)
abbrev i97:Ts:=[.a q8]
abbrev o97:Ts:=[.v (.bool)]
abbrev F97:=FT i97 o97
abbrev g97:=mkG 97 i97 o97
noncomputable def m97 (c50:F50) (c51:F51) (c52:F52) (y:PTup i97):Option (PTup o97×BTup i97):=
  (c51 (y.1.1,())).bind fun r0=>
  bif r0.1.1 then ((c50 (y.1.2.1,())).bind fun r1=>
   bif r1.1.1 then ((c50 (y.1.2.2.1,())).bind fun r2=>
    bif r2.1.1 then ((c52 (y.1.2.2.2.1,((0:Int),((1:Int),())))).bind fun r3=>
     bif r3.1.1 then ((c52 (y.1.2.2.2.2.1,((0:Int),((31:Int),())))).bind fun r4=>
      some (r4.1,()))
     else no)
    else no)
   else no)
  else no
theorem s97 (c50:F50) (c51:F51) (c52:F52) (y):TE [g50 c50,g51 c51,g52 c52] Tryz.f97 i97 o97 y=m97 c50 c51 c52 y:=by kernel_rfl
noncomputable def r97:F97:=m97 r50 r51 r52
theorem k97:KO (g97 r97):=fk (s97 r50 r51 r52) ⟨k50,k51,k52,⟨⟩⟩ (by kernel_rfl)
abbrev i98:Ts:=[.v (.sl false .i), .v (.int .i64)]
abbrev o98:Ts:=[.v (.bool)]
abbrev F98:=FT i98 o98
abbrev g98:=mkG 98 i98 o98
noncomputable def m98 (c139:F139) (y:PTup i98):Option (PTup o98×BTup i98):=
  (c139 (y.2.1,((15:Int),((16:Int),())))).bind fun r0=>
  some (((eqI (lenI y.1) r0.1.1),()),())
theorem s98 (c139:F139) (y):TE [g139 c139] Tryz.f98 i98 o98 y=m98 c139 y:=by kernel_rfl
noncomputable def r98:F98:=m98 r139
theorem k98:KO (g98 r98):=fk (s98 r139) ⟨k139,⟨⟩⟩ (by kernel_rfl)
abbrev i49:Ts:=[.a q9]
abbrev o49:Ts:=[.v (.bool)]
abbrev F49:=FT i49 o49
abbrev g49:=mkG 49 i49 o49
noncomputable def m49 (c97:F97) (c95:F95) (c98:F98) (y:PTup i49):Option (PTup o49×BTup i49):=
  (c97 ((y.1.1,(y.1.2.1,(y.1.2.2.1,(y.1.2.2.2.1,(y.1.2.2.2.2.1,(y.1.2.2.2.2.2.1,(y.1.2.2.2.2.2.2.1,()))))))),())).bind fun r0=>
  bif r0.1.1 then ((c95 ((y.1.2.2.2.2.2.2.2.1,(y.1.2.2.2.2.2.2.2.2.1,())),(y.1.1,()))).bind fun r1=>
   bif r1.1.1 then ((c98 (y.1.2.2.2.2.2.2.2.2.2.1,(y.1.1,()))).bind fun r2=>
    some (r2.1,()))
   else no)
  else no
theorem s49 (c97:F97) (c95:F95) (c98:F98) (y):TE [g97 c97,g95 c95,g98 c98] Tryz.f49 i49 o49 y=m49 c97 c95 c98 y:=by kernel_rfl
noncomputable def r49:F49:=m49 r97 r95 r98
theorem k49:KO (g49 r49):=fk (s49 r97 r95 r98) ⟨k97,k95,k98,⟨⟩⟩ (by kernel_rfl)
abbrev i53:Ts:=[.a q6, .v (.int .i64)]
abbrev o53:Ts:=[.v (.bool)]
abbrev F53:=FT i53 o53
abbrev g53:=mkG 53 i53 o53
noncomputable def m53 (y:PTup i53):Option (PTup o53×BTup i53):=
  bif (eqI (lenI y.1.2.1) 0)then (some ((true,()),()))
  else bif (leI 0 (wI ((lenI y.1.2.1)-1)))then (bif (ltI (wI ((lenI y.1.2.1)-1)) (lenI y.1.2.1))then (some (((leI (rdE .t y.1.2.1 (wI ((lenI y.1.2.1)-1))).1 y.2.1),()),()))
   else none)
  else none
theorem s53 (y):TE [] Tryz.f53 i53 o53 y=m53 y:=by kernel_rfl
noncomputable def r53:F53:=m53
theorem k53:KO (g53 r53):=fk (s53) trivial (by kernel_rfl)
abbrev i16:Ts:=[.a q10]
abbrev o16:Ts:=[.v (.bool)]
abbrev R16:=Option (PTup o16×BTup i16)
abbrev F16:=PTup i16→R16
abbrev g16:=mkG 16 i16 o16
noncomputable def m16 (c47:F47) (c45:F45) (c46:F46) (c48:F48) (c49:F49) (c50:F50) (c51:F51) (c53:F53) (c52:F52) (y:PTup i16):R16:=
  let a0:=y.1;let a1:=a0.2;let a2:=a1.2;let a3:=a2.2;let a4:=a3.2;let a5:=a4.2;let a6:=a5.2;let a7:=a6.2;let a8:=a7.2;let a9:=a8.2;let a10:=a9.2;let a11:=a10.2;let a12:=a11.2;let a13:=a12.2;let a14:=a13.2;let a15:=a14.1;let a16:=a14.2;let a17:=a16.2;let a18:=a17.2;let a19:=a18.2;let a20:=a19.2;let a21:=a20.2;let a22:=a21.2;let a23:=a22.2;let a24:=a23.2;let a25:=a24.2;let a26:=a25.2;let a27:=a26.2;let a28:=a27.2;let a29:=a28.2;let a30:=a29.2.2;let a31:=a30.2.2.2.2.2.2.2.2.2;(c45 ((a0.1,()),((a2.1,(a3.1,())),()))).bind fun r0=>bif r0.1.1 then ((c46 (a1.1,())).bind fun r1=>bif r1.1.1 then ((c47 ((a4.1,(a5.1,(a6.1,(a7.1,(a8.1,(a9.1,(a10.1,(a11.1,())))))))),())).bind fun r2=>bif r2.1.1 then ((c48 ((a22.1,(a23.1,(a24.1,(a25.1,(a26.1,(a27.1,(a28.1,(a29.1,(a29.2.1,(a30.1,(a30.2.1,()))))))))))),())).bind fun r3=>bif r3.1.1 then ((c49 (a30.2.2,())).bind fun r4=>let X0:R16:=bif r4.1.1 then no else no;(c50 (a13.1,())).bind fun r5=>bif r5.1.1 then ((c50 (a17.1,())).bind fun r6=>bif r6.1.1 then ((c51 (a15,())).bind fun r7=>bif r7.1.1 then ((c52 (a19.1,((0:Int),(a15,())))).bind fun r8=>bif r8.1.1 then ((c52 (a20.1,((0:Int),(a15,())))).bind fun r9=>bif r4.1.1 then (bif r9.1.1 then (bif (leI a22.1 a15)then (bif (leI a30.2.2.1 a15)then ((c53 ((a29.2.1,(a30.1,())),(a15,()))).bind fun r10=>bif r10.1.1 then ((c53 ((a31.1,(a31.2.1,())),(a15,()))).bind fun r11=>some (r11.1,()))else no)else no)else no)else no)else no)else X0)else X0)else X0)else X0)else (c50 (a13.1,())).bind fun r4=>bif r4.1.1 then ((c50 (a17.1,())).bind fun r5=>bif r5.1.1 then ((c51 (a15,())).bind fun r6=>bif r6.1.1 then ((c52 (a19.1,((0:Int),(a15,())))).bind fun r7=>bif r7.1.1 then ((c52 (a20.1,((0:Int),(a15,())))).bind fun r8=>no)else no)else no)else no)else no)else (c50 (a13.1,())).bind fun r3=>bif r3.1.1 then ((c50 (a17.1,())).bind fun r4=>bif r4.1.1 then ((c51 (a15,())).bind fun r5=>bif r5.1.1 then ((c52 (a19.1,((0:Int),(a15,())))).bind fun r6=>bif r6.1.1 then ((c52 (a20.1,((0:Int),(a15,())))).bind fun r7=>no)else no)else no)else no)else no)else (c50 (a13.1,())).bind fun r2=>bif r2.1.1 then ((c50 (a17.1,())).bind fun r3=>bif r3.1.1 then ((c51 (a15,())).bind fun r4=>bif r4.1.1 then ((c52 (a19.1,((0:Int),(a15,())))).bind fun r5=>bif r5.1.1 then ((c52 (a20.1,((0:Int),(a15,())))).bind fun r6=>no)else no)else no)else no)else no)else (c50 (a13.1,())).bind fun r1=>bif r1.1.1 then ((c50 (a17.1,())).bind fun r2=>bif r2.1.1 then ((c51 (a15,())).bind fun r3=>bif r3.1.1 then ((c52 (a19.1,((0:Int),(a15,())))).bind fun r4=>bif r4.1.1 then ((c52 (a20.1,((0:Int),(a15,())))).bind fun r5=>no)else no)else no)else no)else no
theorem s16 (c47:F47) (c45:F45) (c46:F46) (c48:F48) (c49:F49) (c50:F50) (c51:F51) (c53:F53) (c52:F52) (y):TE [g47 c47,g45 c45,g46 c46,g48 c48,g49 c49,g50 c50,g51 c51,g53 c53,g52 c52] Tryz.f16 i16 o16 y=m16 c47 c45 c46 c48 c49 c50 c51 c53 c52 y:=by kernel_rfl
noncomputable def r16:F16:=m16 r47 r45 r46 r48 r49 r50 r51 r53 r52
theorem k16:KO (g16 r16):=fk (s16 r47 r45 r46 r48 r49 r50 r51 r53 r52) ⟨k47,k45,k46,k48,k49,k50,k51,k53,k52,⟨⟩⟩ (by kernel_rfl)
abbrev i21:Ts:=[.a q0, .v (.sl false .i), .v (.int .i64)]
abbrev o21:Ts:=[.a q11, .v (.bool)]
abbrev R21:=Option (PTup o21×BTup i21)
abbrev F21:=PTup i21→R21
abbrev g21:=mkG 21 i21 o21
noncomputable def m21 (c69:F69) (c68:F68) (c70:F70) (c65:F65) (c16:F16) (c66:F66) (c67:F67) (c71:F71) (y:PTup i21):R21:=
  let X0:R21:=some ((([],([],([],((0:Int),((0:Int),((0:Int),((0:Int),((0:Int),(false,(false,(false,(false,(false,((0:Int),((0:Int),(false,((0:Int),(false,((0:Int),((0:Int),([],((0:Int),((0:Int),((0:Int),((0:Int),((0:Int),(false,([],([],((0:Int),([],([],((0:Int),((0:Int),((0:Int),((0:Int),((0:Int),(false,(false,((0:Int),([],([],())))))))))))))))))))))))))))))))))))))))))),(false,())),());(c65 y.2.2).bind fun r0=>(c66 (y.1,())).bind fun r1=>(c67 (y.2.1,())).bind fun r2=>(c68 ()).bind fun r3=>(c69 (y.1,())).bind fun r4=>(c70 ()).bind fun r5=>(c71 (r0.1.1,())).bind fun r6=>(c71 (r0.1.1,())).bind fun r7=>bif (!r0.1.2.1)then X0 else (c16 ((r1.1.1.1,(r2.1.1,(r3.1.1.1,(r3.1.1.2.1,(r4.1.1.1,(r4.1.1.2.1,(r4.1.1.2.2.1,(r4.1.1.2.2.2.1,(r4.1.1.2.2.2.2.1,(r4.1.1.2.2.2.2.2.1,(r4.1.1.2.2.2.2.2.2.1,(r4.1.1.2.2.2.2.2.2.2.1,(false,((0:Int),((0:Int),(false,((0:Int),(false,((0:Int),((0:Int),([],(r5.1.1.1,(r5.1.1.2.1,(r5.1.1.2.2.1,(r5.1.1.2.2.2.1,(r5.1.1.2.2.2.2.1,(r5.1.1.2.2.2.2.2.1,(r5.1.1.2.2.2.2.2.2.1,(r5.1.1.2.2.2.2.2.2.2.1,(r6.1.1.1,(r6.1.1.2.1,([],((0:Int),((0:Int),((0:Int),((0:Int),((0:Int),(false,(false,(r7.1.1.1,(r7.1.1.2.1,([],())))))))))))))))))))))))))))))))))))))))))),())).bind fun r8=>bif (!r8.1.1)then X0 else some (((r1.1.1.1,(r2.1.1,(r3.1.1.1,(r3.1.1.2.1,(r4.1.1.1,(r4.1.1.2.1,(r4.1.1.2.2.1,(r4.1.1.2.2.2.1,(r4.1.1.2.2.2.2.1,(r4.1.1.2.2.2.2.2.1,(r4.1.1.2.2.2.2.2.2.1,(r4.1.1.2.2.2.2.2.2.2.1,(false,((0:Int),((0:Int),(false,((0:Int),(false,((0:Int),((0:Int),([],(r5.1.1.1,(r5.1.1.2.1,(r5.1.1.2.2.1,(r5.1.1.2.2.2.1,(r5.1.1.2.2.2.2.1,(r5.1.1.2.2.2.2.2.1,(r5.1.1.2.2.2.2.2.2.1,(r5.1.1.2.2.2.2.2.2.2.1,(r6.1.1.1,(r6.1.1.2.1,([],((0:Int),((0:Int),((0:Int),((0:Int),((0:Int),(false,(false,(r7.1.1.1,(r7.1.1.2.1,([],())))))))))))))))))))))))))))))))))))))))))),(true,())),())
theorem s21 (c69:F69) (c68:F68) (c70:F70) (c65:F65) (c16:F16) (c66:F66) (c67:F67) (c71:F71) (y):TE [g69 c69,g68 c68,g70 c70,g65 c65,g16 c16,g66 c66,g67 c67,g71 c71] Tryz.f21 i21 o21 y=m21 c69 c68 c70 c65 c16 c66 c67 c71 y:=by kernel_rfl
noncomputable def r21:F21:=m21 r69 r68 r70 r65 r16 r66 r67 r71
theorem k21:KO (g21 r21):=fk (s21 r69 r68 r70 r65 r16 r66 r67 r71) ⟨k69,k68,k70,k65,k16,k66,k67,k71,⟨⟩⟩ (by kernel_rfl)
abbrev i7:Ts:=[.v (.str), .v (.sl false .i), .v (.int .i64)]
abbrev o7:Ts:=[.a q11, .v (.int .i64)]
abbrev F7:=FT i7 o7
abbrev g7:=mkG 7 i7 o7
noncomputable def m7 (c15:F15) (c21:F21) (y:PTup i7):Option (PTup o7×BTup i7):=
  (c15 (y.1,())).bind fun r0=>
  bif (neI r0.1.2.1 0)then (some ((([],([],([],((0:Int),((0:Int),((0:Int),((0:Int),((0:Int),(false,(false,(false,(false,(false,((0:Int),((0:Int),(false,((0:Int),(false,((0:Int),((0:Int),([],((0:Int),((0:Int),((0:Int),((0:Int),((0:Int),(false,([],([],((0:Int),([],([],((0:Int),((0:Int),((0:Int),((0:Int),((0:Int),(false,(false,((0:Int),([],([],())))))))))))))))))))))))))))))))))))))))))),r0.1.2),()))
  else (c21 (((r0.1.1::[]),()),y.2)).bind fun r1=>
  bif (!r1.1.2.1)then (some ((([],([],([],((0:Int),((0:Int),((0:Int),((0:Int),((0:Int),(false,(false,(false,(false,(false,((0:Int),((0:Int),(false,((0:Int),(false,((0:Int),((0:Int),([],((0:Int),((0:Int),((0:Int),((0:Int),((0:Int),(false,([],([],((0:Int),([],([],((0:Int),((0:Int),((0:Int),((0:Int),((0:Int),(false,(false,((0:Int),([],([],())))))))))))))))))))))))))))))))))))))))))),((-(2:Int)),())),()))
  else some ((r1.1.1,((0:Int),())),())
theorem s7 (c15:F15) (c21:F21) (y):TE [g15 c15,g21 c21] Tryz.f7 i7 o7 y=m7 c15 c21 y:=by kernel_rfl
noncomputable def r7:F7:=m7 r15 r21
theorem k7:KO (g7 r7):=fk (s7 r15 r21) ⟨k15,k21,⟨⟩⟩ (by kernel_rfl)
abbrev i9:Ts:=[.v (.sl false .i), .v (.sl false .i)]
abbrev o9:Ts:=[.v (.bool)]
abbrev F9:=FT i9 o9
abbrev g9:=mkG 9 i9 o9
abbrev lc9_0:Ts:=[.v (.sl false .i), .v (.sl false .i)]
abbrev lb9_0:Ts:=[]
abbrev lv9_0:Ts:=[.v (.int .i64)]
abbrev lr9_0:Ts:=[.v (.bool)]
abbrev R9_0:=Option (Sum (PTup lv9_0) (PTup lr9_0)×BTup lb9_0)
abbrev B9_0:=PTup lb9_0→PTup lv9_0→R9_0
abbrev A9_0:=PTup lc9_0→B9_0
noncomputable def w9_0 (again:B9_0) (x:PTup lc9_0) (y:PTup lb9_0) (z:PTup lv9_0):R9_0:=
  bif (ltI z.1 (lenI x.1))then (bif (leI 0 z.1)then (bif (ltI z.1 (lenI x.1))then (bif (leI 0 z.1)then (bif (ltI z.1 (lenI x.2.1))then (bif (neI (rdE .i x.1 z.1) (rdE .i x.2.1 z.1))then (some ((Sum.inr (false,())),()))
       else again () ((wI (z.1+1)),()))
      else none)
     else none)
    else none)
   else none)
  else some ((Sum.inl z),())
noncomputable def e9_0 (l:A9_0):ZaX:=⟨[0,1],lc9_0,[],lb9_0,[5],lv9_0,[4],lr9_0,0,[],l⟩
noncomputable def m9 (l0:A9_0) (y:PTup i9):Option (PTup o9×BTup i9):=
  bif (neI (lenI y.1) (lenI y.2.1))then no
  else (l0 y () ((0:Int),())).bind fun r0=>
  Zah r0.1 (fun r1=>some ((true,()),()))
  (fun r1=>some (r1,()))
noncomputable def E9 (l0:A9_0):CEnv:=⟨⟨Tryz.prog,fnsL []⟩,ZaV [(4,e9_0 l0)]⟩
theorem t9_0 (l0:A9_0) (again) (x y z):Zai (E9 l0) (Zae (Zaf Tryz.f9) 0) (e9_0 l0) Tryz.f9.ntmps again x y z=w9_0 again x y z:=by kernel_rfl
noncomputable def n9_0:Nat→A9_0
  |0,_,_,_=>none
  |n+1,x,y,z=>w9_0 (fun y z=>n9_0 n x y z) x y z
theorem s9 (l0:A9_0) (y):tevF (E9 l0) Tryz.f9 i9 o9 y=m9 l0 y:=by kernel_rfl
noncomputable def L9_0:A9_0:=n9_0 fuel
noncomputable def r9:F9:=m9 L9_0
theorem k9:KO (g9 r9):=by
  have hE: ∀g f,(E9 L9_0).env.fns g=some f→Zak Tryz.prog g f:=Zaw trivial
  have h0:ZaI Tryz.prog Tryz.f9.ntmps (Zae (Zaf Tryz.f9) 0) (e9_0 L9_0):=Zbr (E:=E9 L9_0) rfl hE mixed (Zab.of_list (l:=[]) (by kernel_rfl) trivial) (n9_0) (fun _ _ _=>rfl) (fun n x y z=>t9_0 L9_0 _ x y z) rfl
  exact ZbV (E:=E9 L9_0) rfl hE mixed (by kernel_rfl) (by kernel_rfl) (Zab.of_list (l:=[(Zae (Zaf Tryz.f9) 0)]) (by kernel_rfl) (.one (by kernel_rfl) h0 trivial)) (s9 L9_0)
abbrev i72:Ts:=[.v (.sl false .n), .v (.sl false .n)]
abbrev o72:Ts:=[.v (.bool)]
abbrev F72:=FT i72 o72
abbrev g72:=mkG 72 i72 o72
abbrev lc72_0:Ts:=[.v (.sl false .n), .v (.sl false .n)]
abbrev lb72_0:Ts:=[]
abbrev lv72_0:Ts:=[.v (.int .i64)]
abbrev lr72_0:Ts:=[.v (.bool)]
abbrev R72_0:=Option (Sum (PTup lv72_0) (PTup lr72_0)×BTup lb72_0)
abbrev B72_0:=PTup lb72_0→PTup lv72_0→R72_0
abbrev A72_0:=PTup lc72_0→B72_0
noncomputable def w72_0 (c9:F9) (again:B72_0) (x:PTup lc72_0) (y:PTup lb72_0) (z:PTup lv72_0):R72_0:=
  bif (ltI z.1 (lenI x.1))then (bif (leI 0 z.1)then (bif (ltI z.1 (lenI x.1))then (bif (leI 0 z.1)then (bif (ltI z.1 (lenI x.2.1))then ((c9 ((rdE .n x.1 z.1),((rdE .n x.2.1 z.1),()))).bind fun r0=>
       bif (!r0.1.1)then (some ((Sum.inr (false,())),()))
       else again () ((wI (z.1+1)),()))
      else none)
     else none)
    else none)
   else none)
  else some ((Sum.inl z),())
noncomputable def e72_0 (l:A72_0):ZaX:=⟨[0,1],lc72_0,[],lb72_0,[5],lv72_0,[4],lr72_0,0,[],l⟩
noncomputable def m72 (c9:F9) (l0:A72_0) (y:PTup i72):Option (PTup o72×BTup i72):=
  bif (neI (lenI y.1) (lenI y.2.1))then no
  else (l0 y () ((0:Int),())).bind fun r0=>
  Zah r0.1 (fun r1=>some ((true,()),()))
  (fun r1=>some (r1,()))
noncomputable def E72 (c9:F9) (l0:A72_0):CEnv:=⟨⟨Tryz.prog,fnsL [g9 c9]⟩,ZaV [(4,e72_0 l0)]⟩
theorem t72_0 (c9:F9) (l0:A72_0) (again) (x y z):Zai (E72 c9 l0) (Zae (Zaf Tryz.f72) 0) (e72_0 l0) Tryz.f72.ntmps again x y z=w72_0 c9 again x y z:=by kernel_rfl
noncomputable def n72_0 (c9:F9):Nat→A72_0
  |0,_,_,_=>none
  |n+1,x,y,z=>w72_0 c9 (fun y z=>n72_0 c9 n x y z) x y z
theorem s72 (c9:F9) (l0:A72_0) (y):tevF (E72 c9 l0) Tryz.f72 i72 o72 y=m72 c9 l0 y:=by kernel_rfl
noncomputable def L72_0:A72_0:=n72_0 r9 fuel
noncomputable def r72:F72:=m72 r9 L72_0
theorem k72:KO (g72 r72):=by
  have hE: ∀g f,(E72 r9 L72_0).env.fns g=some f→Zak Tryz.prog g f:=Zaw ⟨k9,⟨⟩⟩
  have h0:ZaI Tryz.prog Tryz.f72.ntmps (Zae (Zaf Tryz.f72) 0) (e72_0 L72_0):=Zbr (E:=E72 r9 L72_0) rfl hE mixed (Zab.of_list (l:=[]) (by kernel_rfl) trivial) (n72_0 r9) (fun _ _ _=>rfl) (fun n x y z=>t72_0 r9 L72_0 _ x y z) rfl
  exact ZbV (E:=E72 r9 L72_0) rfl hE mixed (by kernel_rfl) (by kernel_rfl) (Zab.of_list (l:=[(Zae (Zaf Tryz.f72) 0)]) (by kernel_rfl) (.one (by kernel_rfl) h0 trivial)) (s72 r9 L72_0)
abbrev i22:Ts:=[.a q0, .a q0]
abbrev o22:Ts:=[.v (.bool)]
abbrev F22:=FT i22 o22
abbrev g22:=mkG 22 i22 o22
noncomputable def m22 (c72:F72) (y:PTup i22):Option (PTup o22×BTup i22):=
  (c72 (y.1.1,y.2.1)).bind fun r0=>
  bif (!r0.1.1)then no
  else some ((true,()),())
theorem s22 (c72:F72) (y):TE [g72 c72] Tryz.f22 i22 o22 y=m22 c72 y:=by kernel_rfl
noncomputable def r22:F22:=m22 r72
theorem k22:KO (g22 r22):=fk (s22 r72) ⟨k72,⟨⟩⟩ (by kernel_rfl)
abbrev i23:Ts:=[.a q2, .a q2]
abbrev o23:Ts:=[.v (.bool)]
abbrev F23:=FT i23 o23
abbrev g23:=mkG 23 i23 o23
noncomputable def m23 (c9:F9) (y:PTup i23):Option (PTup o23×BTup i23):=
  (c9 (y.1.1,(y.2.1.1,()))).bind fun r0=>
  bif (!r0.1.1)then no
  else bif (neI y.1.2.1 y.2.1.2.1)then no
  else some ((true,()),())
theorem s23 (c9:F9) (y):TE [g9 c9] Tryz.f23 i23 o23 y=m23 c9 y:=by kernel_rfl
noncomputable def r23:F23:=m23 r9
theorem k23:KO (g23 r23):=fk (s23 r9) ⟨k9,⟨⟩⟩ (by kernel_rfl)
abbrev i24:Ts:=[.a q3, .a q3]
abbrev o24:Ts:=[.v (.bool)]
abbrev F24:=FT i24 o24
abbrev g24:=mkG 24 i24 o24
noncomputable def m24 (y:PTup i24):Option (PTup o24×BTup i24):=
  bif (neI y.1.1 y.2.1.1)then no
  else bif (neI y.1.2.1 y.2.1.2.1)then no
  else bif (neI y.1.2.2.1 y.2.1.2.2.1)then no
  else bif (neI y.1.2.2.2.1 y.2.1.2.2.2.1)then no
  else bif (!(y.1.2.2.2.2.1==y.2.1.2.2.2.2.1))then no
  else bif (!(y.1.2.2.2.2.2.1==y.2.1.2.2.2.2.2.1))then no
  else bif (!(y.1.2.2.2.2.2.2.1==y.2.1.2.2.2.2.2.2.1))then no
  else bif (!(y.1.2.2.2.2.2.2.2.1==y.2.1.2.2.2.2.2.2.2.1))then no
  else some ((true,()),())
theorem s24 (y):TE [] Tryz.f24 i24 o24 y=m24 y:=by kernel_rfl
noncomputable def r24:F24:=m24
theorem k24:KO (g24 r24):=fk (s24) trivial (by kernel_rfl)
abbrev i25:Ts:=[.a [.bool, .int .i64], .a [.bool, .int .i64]]
abbrev o25:Ts:=[.v (.bool)]
abbrev F25:=FT i25 o25
abbrev g25:=mkG 25 i25 o25
noncomputable def m25 (y:PTup i25):Option (PTup o25×BTup i25):=
  bif (!(y.1.1==y.2.1.1))then no
  else bif (neI y.1.2.1 y.2.1.2.1)then no
  else some ((true,()),())
theorem s25 (y):TE [] Tryz.f25 i25 o25 y=m25 y:=by kernel_rfl
noncomputable def r25:F25:=m25
theorem k25:KO (g25 r25):=fk (s25) trivial (by kernel_rfl)
abbrev i73:Ts:=[.a q5, .a q5]
abbrev o73:Ts:=[.v (.bool)]
abbrev F73:=FT i73 o73
abbrev g73:=mkG 73 i73 o73
noncomputable def m73 (c9:F9) (y:PTup i73):Option (PTup o73×BTup i73):=
  bif (neI y.1.1 y.2.1.1)then no
  else bif (neI y.1.2.1 y.2.1.2.1)then no
  else bif (neI y.1.2.2.1 y.2.1.2.2.1)then no
  else bif (neI y.1.2.2.2.1 y.2.1.2.2.2.1)then no
  else bif (neI y.1.2.2.2.2.1 y.2.1.2.2.2.2.1)then no
  else bif (!(y.1.2.2.2.2.2.1==y.2.1.2.2.2.2.2.1))then no
  else (c9 (y.1.2.2.2.2.2.2.1,(y.2.1.2.2.2.2.2.2.1,()))).bind fun r0=>
  bif (!r0.1.1)then no
  else (c9 (y.1.2.2.2.2.2.2.2.1,y.2.1.2.2.2.2.2.2.2)).bind fun r1=>
  bif (!r1.1.1)then no
  else some ((true,()),())
theorem s73 (c9:F9) (y):TE [g9 c9] Tryz.f73 i73 o73 y=m73 c9 y:=by kernel_rfl
noncomputable def r73:F73:=m73 r9
theorem k73:KO (g73 r73):=fk (s73 r9) ⟨k9,⟨⟩⟩ (by kernel_rfl)
abbrev i161:Ts:=[.a [.int .i64, .int .i64, .int .i64], .a [.int .i64, .int .i64, .int .i64]]
abbrev o161:Ts:=[.v (.bool)]
abbrev F161:=FT i161 o161
abbrev g161:=mkG 161 i161 o161
noncomputable def m161 (y:PTup i161):Option (PTup o161×BTup i161):=
  bif (neI y.1.1 y.2.1.1)then no
  else bif (neI y.1.2.1 y.2.1.2.1)then no
  else bif (neI y.1.2.2.1 y.2.1.2.2.1)then no
  else some ((true,()),())
theorem s161 (y):TE [] Tryz.f161 i161 o161 y=m161 y:=by kernel_rfl
noncomputable def r161:F161:=m161
theorem k161:KO (g161 r161):=fk (s161) trivial (by kernel_rfl)
abbrev i125:Ts:=[.v (.sl false .t), .v (.sl false .t)]
abbrev o125:Ts:=[.v (.bool)]
abbrev F125:=FT i125 o125
abbrev g125:=mkG 125 i125 o125
abbrev lc125_0:Ts:=[.v (.sl false .t), .v (.sl false .t)]
abbrev lb125_0:Ts:=[]
abbrev lv125_0:Ts:=[.v (.int .i64)]
abbrev lr125_0:Ts:=[.v (.bool)]
abbrev R125_0:=Option (Sum (PTup lv125_0) (PTup lr125_0)×BTup lb125_0)
abbrev B125_0:=PTup lb125_0→PTup lv125_0→R125_0
abbrev A125_0:=PTup lc125_0→B125_0
noncomputable def w125_0 (c161:F161) (again:B125_0) (x:PTup lc125_0) (y:PTup lb125_0) (z:PTup lv125_0):R125_0:=
  bif (ltI z.1 (lenI x.1))then (bif (leI 0 z.1)then (bif (ltI z.1 (lenI x.1))then (bif (leI 0 z.1)then (bif (ltI z.1 (lenI x.2.1))then ((c161 (((rdE .t x.1 z.1).1,((rdE .t x.1 z.1).2.1,((rdE .t x.1 z.1).2.2,()))),(((rdE .t x.2.1 z.1).1,((rdE .t x.2.1 z.1).2.1,((rdE .t x.2.1 z.1).2.2,()))),()))).bind fun r0=>
       bif (!r0.1.1)then (some ((Sum.inr (false,())),()))
       else again () ((wI (z.1+1)),()))
      else none)
     else none)
    else none)
   else none)
  else some ((Sum.inl z),())
noncomputable def e125_0 (l:A125_0):ZaX:=⟨[0,1],lc125_0,[],lb125_0,[5],lv125_0,[4],lr125_0,0,[],l⟩
noncomputable def m125 (c161:F161) (l0:A125_0) (y:PTup i125):Option (PTup o125×BTup i125):=
  bif (neI (lenI y.1) (lenI y.2.1))then no
  else (l0 y () ((0:Int),())).bind fun r0=>
  Zah r0.1 (fun r1=>some ((true,()),()))
  (fun r1=>some (r1,()))
noncomputable def E125 (c161:F161) (l0:A125_0):CEnv:=⟨⟨Tryz.prog,fnsL [g161 c161]⟩,ZaV [(4,e125_0 l0)]⟩
theorem t125_0 (c161:F161) (l0:A125_0) (again) (x y z):Zai (E125 c161 l0) (Zae (Zaf Tryz.f125) 0) (e125_0 l0) Tryz.f125.ntmps again x y z=w125_0 c161 again x y z:=by kernel_rfl
noncomputable def n125_0 (c161:F161):Nat→A125_0
  |0,_,_,_=>none
  |n+1,x,y,z=>w125_0 c161 (fun y z=>n125_0 c161 n x y z) x y z
theorem s125 (c161:F161) (l0:A125_0) (y):tevF (E125 c161 l0) Tryz.f125 i125 o125 y=m125 c161 l0 y:=by kernel_rfl
noncomputable def L125_0:A125_0:=n125_0 r161 fuel
noncomputable def r125:F125:=m125 r161 L125_0
theorem k125:KO (g125 r125):=by
  have hE: ∀g f,(E125 r161 L125_0).env.fns g=some f→Zak Tryz.prog g f:=Zaw ⟨k161,⟨⟩⟩
  have h0:ZaI Tryz.prog Tryz.f125.ntmps (Zae (Zaf Tryz.f125) 0) (e125_0 L125_0):=Zbr (E:=E125 r161 L125_0) rfl hE mixed (Zab.of_list (l:=[]) (by kernel_rfl) trivial) (n125_0 r161) (fun _ _ _=>rfl) (fun n x y z=>t125_0 r161 L125_0 _ x y z) rfl
  exact ZbV (E:=E125 r161 L125_0) rfl hE mixed (by kernel_rfl) (by kernel_rfl) (Zab.of_list (l:=[(Zae (Zaf Tryz.f125) 0)]) (by kernel_rfl) (.one (by kernel_rfl) h0 trivial)) (s125 r161 L125_0)
abbrev i74:Ts:=[.a q6, .a q6]
abbrev o74:Ts:=[.v (.bool)]
abbrev F74:=FT i74 o74
abbrev g74:=mkG 74 i74 o74
noncomputable def m74 (c125:F125) (y:PTup i74):Option (PTup o74×BTup i74):=
  bif (neI y.1.1 y.2.1.1)then no
  else (c125 (y.1.2.1,y.2.1.2)).bind fun r0=>
  bif (!r0.1.1)then no
  else some ((true,()),())
theorem s74 (c125:F125) (y):TE [g125 c125] Tryz.f74 i74 o74 y=m74 c125 y:=by kernel_rfl
noncomputable def r74:F74:=m74 r125
theorem k74:KO (g74 r74):=fk (s74 r125) ⟨k125,⟨⟩⟩ (by kernel_rfl)
abbrev i26:Ts:=[.a q7, .a q7]
abbrev o26:Ts:=[.v (.bool)]
abbrev F26:=FT i26 o26
abbrev g26:=mkG 26 i26 o26
noncomputable def m26 (c72:F72) (c73:F73) (c74:F74) (y:PTup i26):Option (PTup o26×BTup i26):=
  (c73 ((y.1.1,(y.1.2.1,(y.1.2.2.1,(y.1.2.2.2.1,(y.1.2.2.2.2.1,(y.1.2.2.2.2.2.1,(y.1.2.2.2.2.2.2.1,(y.1.2.2.2.2.2.2.2.1,())))))))),((y.2.1.1,(y.2.1.2.1,(y.2.1.2.2.1,(y.2.1.2.2.2.1,(y.2.1.2.2.2.2.1,(y.2.1.2.2.2.2.2.1,(y.2.1.2.2.2.2.2.2.1,(y.2.1.2.2.2.2.2.2.2.1,())))))))),()))).bind fun r0=>
  bif (!r0.1.1)then no
  else (c74 ((y.1.2.2.2.2.2.2.2.2.1,(y.1.2.2.2.2.2.2.2.2.2.1,())),((y.2.1.2.2.2.2.2.2.2.2.1,(y.2.1.2.2.2.2.2.2.2.2.2.1,())),()))).bind fun r1=>
  bif (!r1.1.1)then no
  else (c72 (y.1.2.2.2.2.2.2.2.2.2.2.1,y.2.1.2.2.2.2.2.2.2.2.2.2)).bind fun r2=>
  bif (!r2.1.1)then no
  else some ((true,()),())
theorem s26 (c72:F72) (c73:F73) (c74:F74) (y):TE [g72 c72,g73 c73,g74 c74] Tryz.f26 i26 o26 y=m26 c72 c73 c74 y:=by kernel_rfl
noncomputable def r26:F26:=m26 r72 r73 r74
theorem k26:KO (g26 r26):=fk (s26 r72 r73 r74) ⟨k72,k73,k74,⟨⟩⟩ (by kernel_rfl)
abbrev i75:Ts:=[.a q8, .a q8]
abbrev o75:Ts:=[.v (.bool)]
abbrev F75:=FT i75 o75
abbrev g75:=mkG 75 i75 o75
noncomputable def m75 (y:PTup i75):Option (PTup o75×BTup i75):=
  bif (neI y.1.1 y.2.1.1)then no
  else bif (neI y.1.2.1 y.2.1.2.1)then no
  else bif (neI y.1.2.2.1 y.2.1.2.2.1)then no
  else bif (neI y.1.2.2.2.1 y.2.1.2.2.2.1)then no
  else bif (neI y.1.2.2.2.2.1 y.2.1.2.2.2.2.1)then no
  else bif (!(y.1.2.2.2.2.2.1==y.2.1.2.2.2.2.2.1))then no
  else bif (!(y.1.2.2.2.2.2.2.1==y.2.1.2.2.2.2.2.2.1))then no
  else some ((true,()),())
theorem s75 (y):TE [] Tryz.f75 i75 o75 y=m75 y:=by kernel_rfl
noncomputable def r75:F75:=m75
theorem k75:KO (g75 r75):=fk (s75) trivial (by kernel_rfl)
abbrev i27:Ts:=[.a q9, .a q9]
abbrev o27:Ts:=[.v (.bool)]
abbrev F27:=FT i27 o27
abbrev g27:=mkG 27 i27 o27
noncomputable def m27 (c75:F75) (c9:F9) (c74:F74) (y:PTup i27):Option (PTup o27×BTup i27):=
  (c75 ((y.1.1,(y.1.2.1,(y.1.2.2.1,(y.1.2.2.2.1,(y.1.2.2.2.2.1,(y.1.2.2.2.2.2.1,(y.1.2.2.2.2.2.2.1,()))))))),((y.2.1.1,(y.2.1.2.1,(y.2.1.2.2.1,(y.2.1.2.2.2.1,(y.2.1.2.2.2.2.1,(y.2.1.2.2.2.2.2.1,(y.2.1.2.2.2.2.2.2.1,()))))))),()))).bind fun r0=>
  bif (!r0.1.1)then no
  else (c74 ((y.1.2.2.2.2.2.2.2.1,(y.1.2.2.2.2.2.2.2.2.1,())),((y.2.1.2.2.2.2.2.2.2.1,(y.2.1.2.2.2.2.2.2.2.2.1,())),()))).bind fun r1=>
  bif (!r1.1.1)then no
  else (c9 (y.1.2.2.2.2.2.2.2.2.2.1,y.2.1.2.2.2.2.2.2.2.2.2)).bind fun r2=>
  bif (!r2.1.1)then no
  else some ((true,()),())
theorem s27 (c75:F75) (c9:F9) (c74:F74) (y):TE [g75 c75,g9 c9,g74 c74] Tryz.f27 i27 o27 y=m27 c75 c9 c74 y:=by kernel_rfl
noncomputable def r27:F27:=m27 r75 r9 r74
theorem k27:KO (g27 r27):=fk (s27 r75 r9 r74) ⟨k75,k9,k74,⟨⟩⟩ (by kernel_rfl)
abbrev i8:Ts:=[.a q10, .a q10]
abbrev o8:Ts:=[.v (.bool)]
abbrev F8:=FT i8 o8
abbrev g8:=mkG 8 i8 o8
noncomputable def m8 (c24:F24) (c22:F22) (c9:F9) (c23:F23) (c25:F25) (c26:F26) (c27:F27) (y:PTup i8):Option (PTup o8×BTup i8):=
  let a0:=y.1;let a1:=y.2;let a2:=a0.2;let a3:=a1.1;let a4:=a2.2;let a5:=a3.2;let a6:=a4.2;let a7:=a5.2;let a8:=a6.2;let a9:=a7.2;let a10:=a8.2;let a11:=a9.2;let a12:=a10.2;let a13:=a11.2;let a14:=a12.2;let a15:=a13.2;let a16:=a14.2;let a17:=a15.2;let a18:=a16.2;let a19:=a17.2;let a20:=a18.2;let a21:=a19.2;let a22:=a20.2;let a23:=a21.2;let a24:=a22.2;let a25:=a23.2;let a26:=a24.2;let a27:=a25.2;let a28:=a26.2;let a29:=a27.2;let a30:=a28.2;let a31:=a29.2;let a32:=a30.2;let a33:=a31.2;let a34:=a32.2;let a35:=a33.2;let a36:=a34.2;let a37:=a35.2;let a38:=a36.2;let a39:=a37.2;let a40:=a38.2;let a41:=a39.2;let a42:=a40.2;let a43:=a41.2;let a44:=a42.2;let a45:=a43.2;let a46:=a44.2;let a47:=a45.2;let a48:=a47.2;let a49:=a46.2.2;let a50:=a48.2.2;let a51:=a49.2.2;let a52:=a50.2.2;(c22 ((a0.1,()),((a3.1,()),()))).bind fun r0=>
  bif (!r0.1.1)then no
  else (c9 (a2.1,(a5.1,()))).bind fun r1=>
  bif (!r1.1.1)then no
  else (c23 ((a4.1,(a6.1,())),((a7.1,(a9.1,())),()))).bind fun r2=>
  bif (!r2.1.1)then no
  else (c24 ((a8.1,(a10.1,(a12.1,(a14.1,(a16.1,(a18.1,(a20.1,(a22.1,())))))))),((a11.1,(a13.1,(a15.1,(a17.1,(a19.1,(a21.1,(a23.1,(a25.1,())))))))),()))).bind fun r3=>
  bif (!r3.1.1)then no
  else (c25 ((a24.1,(a26.1,())),((a27.1,(a29.1,())),()))).bind fun r4=>
  bif (!r4.1.1)then no
  else bif (neI a28.1 a31.1)then no
  else bif (!(a30.1==a33.1))then no
  else bif (neI a32.1 a35.1)then no
  else bif (!(a34.1==a37.1))then no
  else bif (neI a36.1 a39.1)then no
  else bif (neI a38.1 a41.1)then no
  else (c9 (a40.1,(a43.1,()))).bind fun r5=>
  bif (!r5.1.1)then no
  else (c26 ((a42.1,(a44.1,(a46.1,(a46.2.1,(a49.1,(a49.2.1,(a51.1,(a51.2.1,(a51.2.2.1,(a51.2.2.2.1,(a51.2.2.2.2.1,()))))))))))),((a45.1,(a47.1,(a48.1,(a48.2.1,(a50.1,(a50.2.1,(a52.1,(a52.2.1,(a52.2.2.1,(a52.2.2.2.1,(a52.2.2.2.2.1,()))))))))))),()))).bind fun r6=>
  bif (!r6.1.1)then no
  else (c27 (a51.2.2.2.2.2,(a52.2.2.2.2.2,()))).bind fun r7=>
  bif (!r7.1.1)then no
  else some ((true,()),())
theorem s8 (c24:F24) (c22:F22) (c9:F9) (c23:F23) (c25:F25) (c26:F26) (c27:F27) (y):TE [g24 c24,g22 c22,g9 c9,g23 c23,g25 c25,g26 c26,g27 c27] Tryz.f8 i8 o8 y=m8 c24 c22 c9 c23 c25 c26 c27 y:=by kernel_rfl
noncomputable def r8:F8:=m8 r24 r22 r9 r23 r25 r26 r27
theorem k8:KO (g8 r8):=fk (s8 r24 r22 r9 r23 r25 r26 r27) ⟨k24,k22,k9,k23,k25,k26,k27,⟨⟩⟩ (by kernel_rfl)
abbrev i10:Ts:=[.v (.sl true .i), .v (.int .i64)]
abbrev o10:Ts:=[.v (.int .i64), .v (.sl true .i)]
abbrev F10:=FT i10 o10
abbrev g10 (c:F10):Nat×Tev.Fn:=(10,⟨i10,o10,c, .inp⟩)
abbrev lc10_0:Ts:=[]
abbrev lb10_0:Ts:=[]
abbrev lv10_0:Ts:=[.v (.int .i64), .v (.int .i64), .v (.sl true .i)]
abbrev lr10_0:Ts:=[]
abbrev R10_0:=Option (Sum (PTup lv10_0) (PTup lr10_0)×BTup lb10_0)
abbrev B10_0:=PTup lb10_0→PTup lv10_0→R10_0
abbrev A10_0:=PTup lc10_0→B10_0
noncomputable def w10_0 (again:B10_0) (x:PTup lc10_0) (y:PTup lb10_0) (z:PTup lv10_0):R10_0:=
  bif (ltI z.2.1 (lenI z.2.2.1))then (bif (leI 0 z.2.1)then (bif (ltI z.2.1 (lenI z.2.2.1))then (again () ((wI (z.1+1)),((wI (z.2.1+1)),((List.set z.2.2.1 (Int.toNat z.2.1) z.1),()))))
    else none)
   else none)
  else some ((Sum.inl z),())
noncomputable def e10_0 (l:A10_0):ZaX:=⟨[],lc10_0,[],lb10_0,[1,5,0],lv10_0,[],lr10_0,0,[],l⟩
noncomputable def m10 (l0:A10_0) (y:PTup i10):Option (PTup o10×BTup i10):=
  (l0 () () (y.2.1,((0:Int),(y.1,())))).bind fun r0=>
  Zah r0.1 (fun r1=>some ((r1.1,r1.2.2),()))
  (fun r1=>none)
noncomputable def E10 (l0:A10_0):CEnv:=⟨⟨Tryz.prog,fnsL []⟩,ZaV [(2,e10_0 l0)]⟩
theorem t10_0 (l0:A10_0) (again) (x y z):Zai (E10 l0) (Zae (Zaf Tryz.f10) 0) (e10_0 l0) Tryz.f10.ntmps again x y z=w10_0 again x y z:=by kernel_rfl
noncomputable def n10_0:Nat→A10_0
  |0,_,_,_=>none
  |n+1,x,y,z=>w10_0 (fun y z=>n10_0 n x y z) x y z
theorem s10 (l0:A10_0) (y):tevM (E10 l0) Tryz.f10 i10 o10 y=m10 l0 y:=by kernel_rfl
noncomputable def L10_0:A10_0:=n10_0 fuel
noncomputable def r10:F10:=m10 L10_0
theorem k10:KO (g10 r10):=by
  have hE: ∀g f,(E10 L10_0).env.fns g=some f→Zak Tryz.prog g f:=Zaw trivial
  have h0:ZaI Tryz.prog Tryz.f10.ntmps (Zae (Zaf Tryz.f10) 0) (e10_0 L10_0):=Zbr (E:=E10 L10_0) rfl hE mixed (Zab.of_list (l:=[]) (by kernel_rfl) trivial) (n10_0) (fun _ _ _=>rfl) (fun n x y z=>t10_0 L10_0 _ x y z) rfl
  exact Zev (E:=E10 L10_0) rfl hE mixed (by kernel_rfl) (by kernel_rfl) (Zab.of_list (l:=[(Zae (Zaf Tryz.f10) 0)]) (by kernel_rfl) (.one (by kernel_rfl) h0 trivial)) (s10 L10_0)
abbrev i76:Ts:=[.v (.sl true .n), .v (.int .i64)]
abbrev o76:Ts:=[.v (.int .i64), .v (.sl true .n)]
abbrev F76:=FT i76 o76
abbrev g76 (c:F76):Nat×Tev.Fn:=(76,⟨i76,o76,c, .inp⟩)
abbrev lc76_0:Ts:=[]
abbrev lb76_0:Ts:=[]
abbrev lv76_0:Ts:=[.v (.int .i64), .v (.int .i64), .v (.sl true .n)]
abbrev lr76_0:Ts:=[]
abbrev R76_0:=Option (Sum (PTup lv76_0) (PTup lr76_0)×BTup lb76_0)
abbrev B76_0:=PTup lb76_0→PTup lv76_0→R76_0
abbrev A76_0:=PTup lc76_0→B76_0
noncomputable def w76_0 (c10:F10) (again:B76_0) (x:PTup lc76_0) (y:PTup lb76_0) (z:PTup lv76_0):R76_0:=
  bif (ltI z.2.1 (lenI z.2.2.1))then (bif (leI 0 z.2.1)then (bif (ltI z.2.1 (lenI z.2.2.1))then ((c10 ((rdE .n z.2.2.1 z.2.1),(z.1,()))).bind fun r0=>
     again () (r0.1.1,((wI (z.2.1+1)),((List.set z.2.2.1 (Int.toNat z.2.1) r0.1.2.1),()))))
    else none)
   else none)
  else some ((Sum.inl z),())
noncomputable def e76_0 (l:A76_0):ZaX:=⟨[],lc76_0,[],lb76_0,[1,5,0],lv76_0,[],lr76_0,0,[],l⟩
noncomputable def m76 (c10:F10) (l0:A76_0) (y:PTup i76):Option (PTup o76×BTup i76):=
  (l0 () () (y.2.1,((0:Int),(y.1,())))).bind fun r0=>
  Zah r0.1 (fun r1=>some ((r1.1,r1.2.2),()))
  (fun r1=>none)
noncomputable def E76 (c10:F10) (l0:A76_0):CEnv:=⟨⟨Tryz.prog,fnsL [g10 c10]⟩,ZaV [(2,e76_0 l0)]⟩
theorem t76_0 (c10:F10) (l0:A76_0) (again) (x y z):Zai (E76 c10 l0) (Zae (Zaf Tryz.f76) 0) (e76_0 l0) Tryz.f76.ntmps again x y z=w76_0 c10 again x y z:=by kernel_rfl
noncomputable def n76_0 (c10:F10):Nat→A76_0
  |0,_,_,_=>none
  |n+1,x,y,z=>w76_0 c10 (fun y z=>n76_0 c10 n x y z) x y z
theorem s76 (c10:F10) (l0:A76_0) (y):tevM (E76 c10 l0) Tryz.f76 i76 o76 y=m76 c10 l0 y:=by kernel_rfl
noncomputable def L76_0:A76_0:=n76_0 r10 fuel
noncomputable def r76:F76:=m76 r10 L76_0
theorem k76:KO (g76 r76):=by
  have hE: ∀g f,(E76 r10 L76_0).env.fns g=some f→Zak Tryz.prog g f:=Zaw ⟨k10,⟨⟩⟩
  have h0:ZaI Tryz.prog Tryz.f76.ntmps (Zae (Zaf Tryz.f76) 0) (e76_0 L76_0):=Zbr (E:=E76 r10 L76_0) rfl hE mixed (Zab.of_list (l:=[]) (by kernel_rfl) trivial) (n76_0 r10) (fun _ _ _=>rfl) (fun n x y z=>t76_0 r10 L76_0 _ x y z) rfl
  exact Zev (E:=E76 r10 L76_0) rfl hE mixed (by kernel_rfl) (by kernel_rfl) (Zab.of_list (l:=[(Zae (Zaf Tryz.f76) 0)]) (by kernel_rfl) (.one (by kernel_rfl) h0 trivial)) (s76 r10 L76_0)
abbrev i28:Ts:=[.a [.sl true .n], .v (.int .i64)]
abbrev o28:Ts:=[.v (.int .i64), .a [.sl true .n]]
abbrev F28:=FT i28 o28
abbrev g28 (c:F28):Nat×Tev.Fn:=(28,⟨i28,o28,c, .inp⟩)
noncomputable def m28 (c76:F76) (y:PTup i28):Option (PTup o28×BTup i28):=
  (c76 (y.1.1,y.2)).bind fun r0=>
  some ((r0.1.1,(r0.1.2,())),())
noncomputable def E28 (c76:F76):=mkE [g76 c76]
theorem s28 (c76:F76) (y):tevM (E28 c76) Tryz.f28 i28 o28 y=m28 c76 y:=by kernel_rfl
noncomputable def r28:F28:=m28 r76
theorem k28:KO (g28 r28):=by
  exact Zev (E:=E28 r76) rfl (Zaw ⟨k76,⟨⟩⟩) mixed (by kernel_rfl) (by kernel_rfl) (Zab.of_list (l:=[]) (by kernel_rfl) trivial) (s28 r76)
abbrev i29:Ts:=[.a q1, .v (.int .i64)]
abbrev o29:Ts:=[.v (.int .i64), .a q1]
abbrev F29:=FT i29 o29
abbrev g29 (c:F29):Nat×Tev.Fn:=(29,⟨i29,o29,c, .inp⟩)
noncomputable def m29 (c10:F10) (y:PTup i29):Option (PTup o29×BTup i29):=
  (c10 (y.1.1,y.2)).bind fun r0=>
  some ((r0.1.1,((r0.1.2.1,y.1.2),())),())
noncomputable def E29 (c10:F10):=mkE [g10 c10]
theorem s29 (c10:F10) (y):tevM (E29 c10) Tryz.f29 i29 o29 y=m29 c10 y:=by kernel_rfl
noncomputable def r29:F29:=m29 r10
theorem k29:KO (g29 r29):=by
  exact Zev (E:=E29 r10) rfl (Zaw ⟨k10,⟨⟩⟩) mixed (by kernel_rfl) (by kernel_rfl) (Zab.of_list (l:=[]) (by kernel_rfl) trivial) (s29 r10)
abbrev i77:Ts:=[.a q4, .v (.int .i64)]
abbrev o77:Ts:=[.v (.int .i64), .a q4]
abbrev F77:=FT i77 o77
abbrev g77 (c:F77):Nat×Tev.Fn:=(77,⟨i77,o77,c, .inp⟩)
noncomputable def m77 (c10:F10) (y:PTup i77):Option (PTup o77×BTup i77):=
  (c10 (y.1.2.2.2.2.2.2.1,y.2)).bind fun r0=>
  (c10 (y.1.2.2.2.2.2.2.2.1,(r0.1.1,()))).bind fun r1=>
  some ((r1.1.1,((y.1.1,(y.1.2.1,(y.1.2.2.1,(y.1.2.2.2.1,(y.1.2.2.2.2.1,(y.1.2.2.2.2.2.1,(r0.1.2.1,r1.1.2))))))),())),())
noncomputable def E77 (c10:F10):=mkE [g10 c10]
theorem s77 (c10:F10) (y):tevM (E77 c10) Tryz.f77 i77 o77 y=m77 c10 y:=by kernel_rfl
noncomputable def r77:F77:=m77 r10
theorem k77:KO (g77 r77):=by
  exact Zev (E:=E77 r10) rfl (Zaw ⟨k10,⟨⟩⟩) mixed (by kernel_rfl) (by kernel_rfl) (Zab.of_list (l:=[]) (by kernel_rfl) trivial) (s77 r10)
abbrev i126:Ts:=[.v (.sl true .t), .v (.int .i64)]
abbrev o126:Ts:=[.v (.int .i64), .v (.sl true .t)]
abbrev F126:=FT i126 o126
abbrev g126 (c:F126):Nat×Tev.Fn:=(126,⟨i126,o126,c, .inp⟩)
abbrev lc126_0:Ts:=[]
abbrev lb126_0:Ts:=[]
abbrev lv126_0:Ts:=[.v (.int .i64), .v (.int .i64), .v (.sl true .t)]
abbrev lr126_0:Ts:=[]
abbrev R126_0:=Option (Sum (PTup lv126_0) (PTup lr126_0)×BTup lb126_0)
abbrev B126_0:=PTup lb126_0→PTup lv126_0→R126_0
abbrev A126_0:=PTup lc126_0→B126_0
noncomputable def w126_0 (again:B126_0) (x:PTup lc126_0) (y:PTup lb126_0) (z:PTup lv126_0):R126_0:=
  bif (ltI z.2.1 (lenI z.2.2.1))then (bif (leI 0 z.2.1)then (bif (ltI z.2.1 (lenI z.2.2.1))then (bif (leI 0 z.2.1)then (bif (ltI z.2.1 (lenI (List.set z.2.2.1 (Int.toNat z.2.1) (setT (rdE .t z.2.2.1 z.2.1) z.1 ((0:Nat)+(0:Nat))))))then (bif (leI 0 z.2.1)then (bif (ltI z.2.1 (lenI (List.set (List.set z.2.2.1 (Int.toNat z.2.1) (setT (rdE .t z.2.2.1 z.2.1) z.1 ((0:Nat)+(0:Nat)))) (Int.toNat z.2.1) (setT (rdE .t (List.set z.2.2.1 (Int.toNat z.2.1) (setT (rdE .t z.2.2.1 z.2.1) z.1 ((0:Nat)+(0:Nat)))) z.2.1) (wI (z.1+1)) ((0:Nat)+(1:Nat))))))then (again () ((wI ((wI ((wI (z.1+1))+1))+1)),((wI (z.2.1+1)),((List.set (List.set (List.set z.2.2.1 (Int.toNat z.2.1) (setT (rdE .t z.2.2.1 z.2.1) z.1 ((0:Nat)+(0:Nat)))) (Int.toNat z.2.1) (setT (rdE .t (List.set z.2.2.1 (Int.toNat z.2.1) (setT (rdE .t z.2.2.1 z.2.1) z.1 ((0:Nat)+(0:Nat)))) z.2.1) (wI (z.1+1)) ((0:Nat)+(1:Nat)))) (Int.toNat z.2.1) (setT (rdE .t (List.set (List.set z.2.2.1 (Int.toNat z.2.1) (setT (rdE .t z.2.2.1 z.2.1) z.1 ((0:Nat)+(0:Nat)))) (Int.toNat z.2.1) (setT (rdE .t (List.set z.2.2.1 (Int.toNat z.2.1) (setT (rdE .t z.2.2.1 z.2.1) z.1 ((0:Nat)+(0:Nat)))) z.2.1) (wI (z.1+1)) ((0:Nat)+(1:Nat)))) z.2.1) (wI ((wI (z.1+1))+1)) ((0:Nat)+(2:Nat)))),()))))
        else none)
       else none)
      else none)
     else none)
    else none)
   else none)
  else some ((Sum.inl z),())
noncomputable def e126_0 (l:A126_0):ZaX:=⟨[],lc126_0,[],lb126_0,[1,5,0],lv126_0,[],lr126_0,0,[],l⟩
noncomputable def m126 (l0:A126_0) (y:PTup i126):Option (PTup o126×BTup i126):=
  (l0 () () (y.2.1,((0:Int),(y.1,())))).bind fun r0=>
  Zah r0.1 (fun r1=>some ((r1.1,r1.2.2),()))
  (fun r1=>none)
noncomputable def E126 (l0:A126_0):CEnv:=⟨⟨Tryz.prog,fnsL []⟩,ZaV [(2,e126_0 l0)]⟩
theorem t126_0 (l0:A126_0) (again) (x y z):Zai (E126 l0) (Zae (Zaf Tryz.f126) 0) (e126_0 l0) Tryz.f126.ntmps again x y z=w126_0 again x y z:=by kernel_rfl
noncomputable def n126_0:Nat→A126_0
  |0,_,_,_=>none
  |n+1,x,y,z=>w126_0 (fun y z=>n126_0 n x y z) x y z
theorem s126 (l0:A126_0) (y):tevM (E126 l0) Tryz.f126 i126 o126 y=m126 l0 y:=by kernel_rfl
noncomputable def L126_0:A126_0:=n126_0 fuel
noncomputable def r126:F126:=m126 L126_0
theorem k126:KO (g126 r126):=by
  have hE: ∀g f,(E126 L126_0).env.fns g=some f→Zak Tryz.prog g f:=Zaw trivial
  have h0:ZaI Tryz.prog Tryz.f126.ntmps (Zae (Zaf Tryz.f126) 0) (e126_0 L126_0):=Zbr (E:=E126 L126_0) rfl hE mixed (Zab.of_list (l:=[]) (by kernel_rfl) trivial) (n126_0) (fun _ _ _=>rfl) (fun n x y z=>t126_0 L126_0 _ x y z) rfl
  exact Zev (E:=E126 L126_0) rfl hE mixed (by kernel_rfl) (by kernel_rfl) (Zab.of_list (l:=[(Zae (Zaf Tryz.f126) 0)]) (by kernel_rfl) (.one (by kernel_rfl) h0 trivial)) (s126 L126_0)
abbrev i78:Ts:=[.a q12, .v (.int .i64)]
abbrev o78:Ts:=[.v (.int .i64), .a q12]
abbrev F78:=FT i78 o78
abbrev g78 (c:F78):Nat×Tev.Fn:=(78,⟨i78,o78,c, .inp⟩)
noncomputable def m78 (c126:F126) (y:PTup i78):Option (PTup o78×BTup i78):=
  (c126 (y.1.2.1,y.2)).bind fun r0=>
  some ((r0.1.1,((y.1.1,r0.1.2),())),())
noncomputable def E78 (c126:F126):=mkE [g126 c126]
theorem s78 (c126:F126) (y):tevM (E78 c126) Tryz.f78 i78 o78 y=m78 c126 y:=by kernel_rfl
noncomputable def r78:F78:=m78 r126
theorem k78:KO (g78 r78):=by
  exact Zev (E:=E78 r126) rfl (Zaw ⟨k126,⟨⟩⟩) mixed (by kernel_rfl) (by kernel_rfl) (Zab.of_list (l:=[]) (by kernel_rfl) trivial) (s78 r126)
abbrev i30:Ts:=[.a q13, .v (.int .i64)]
abbrev o30:Ts:=[.v (.int .i64), .a q13]
abbrev F30:=FT i30 o30
abbrev g30 (c:F30):Nat×Tev.Fn:=(30,⟨i30,o30,c, .inp⟩)
noncomputable def m30 (c76:F76) (c77:F77) (c78:F78) (y:PTup i30):Option (PTup o30×BTup i30):=
  (c77 ((y.1.1,(y.1.2.1,(y.1.2.2.1,(y.1.2.2.2.1,(y.1.2.2.2.2.1,(y.1.2.2.2.2.2.1,(y.1.2.2.2.2.2.2.1,(y.1.2.2.2.2.2.2.2.1,())))))))),y.2)).bind fun r0=>
  (c78 ((y.1.2.2.2.2.2.2.2.2.1,(y.1.2.2.2.2.2.2.2.2.2.1,())),(r0.1.1,()))).bind fun r1=>
  (c76 (y.1.2.2.2.2.2.2.2.2.2.2.1,(r1.1.1,()))).bind fun r2=>
  some ((r2.1.1,((y.1.1,(y.1.2.1,(y.1.2.2.1,(y.1.2.2.2.1,(y.1.2.2.2.2.1,(y.1.2.2.2.2.2.1,(r0.1.2.1.2.2.2.2.2.2.1,(r0.1.2.1.2.2.2.2.2.2.2.1,(y.1.2.2.2.2.2.2.2.2.1,(r1.1.2.1.2.1,r2.1.2)))))))))),())),())
noncomputable def E30 (c76:F76) (c77:F77) (c78:F78):=mkE [g76 c76,g77 c77,g78 c78]
theorem s30 (c76:F76) (c77:F77) (c78:F78) (y):tevM (E30 c76 c77 c78) Tryz.f30 i30 o30 y=m30 c76 c77 c78 y:=by kernel_rfl
noncomputable def r30:F30:=m30 r76 r77 r78
theorem k30:KO (g30 r30):=by
  exact Zev (E:=E30 r76 r77 r78) rfl (Zaw ⟨k76,k77,k78,⟨⟩⟩) mixed (by kernel_rfl) (by kernel_rfl) (Zab.of_list (l:=[]) (by kernel_rfl) trivial) (s30 r76 r77 r78)
abbrev i31:Ts:=[.a q14, .v (.int .i64)]
abbrev o31:Ts:=[.v (.int .i64), .a q14]
abbrev F31:=FT i31 o31
abbrev g31 (c:F31):Nat×Tev.Fn:=(31,⟨i31,o31,c, .inp⟩)
noncomputable def m31 (c10:F10) (c78:F78) (y:PTup i31):Option (PTup o31×BTup i31):=
  (c78 ((y.1.2.2.2.2.2.2.2.1,(y.1.2.2.2.2.2.2.2.2.1,())),y.2)).bind fun r0=>
  (c10 (y.1.2.2.2.2.2.2.2.2.2.1,(r0.1.1,()))).bind fun r1=>
  some ((r1.1.1,((y.1.1,(y.1.2.1,(y.1.2.2.1,(y.1.2.2.2.1,(y.1.2.2.2.2.1,(y.1.2.2.2.2.2.1,(y.1.2.2.2.2.2.2.1,(y.1.2.2.2.2.2.2.2.1,(r0.1.2.1.2.1,r1.1.2))))))))),())),())
noncomputable def E31 (c10:F10) (c78:F78):=mkE [g10 c10,g78 c78]
theorem s31 (c10:F10) (c78:F78) (y):tevM (E31 c10 c78) Tryz.f31 i31 o31 y=m31 c10 c78 y:=by kernel_rfl
noncomputable def r31:F31:=m31 r10 r78
theorem k31:KO (g31 r31):=by
  exact Zev (E:=E31 r10 r78) rfl (Zaw ⟨k10,k78,⟨⟩⟩) mixed (by kernel_rfl) (by kernel_rfl) (Zab.of_list (l:=[]) (by kernel_rfl) trivial) (s31 r10 r78)
abbrev i11:Ts:=[.a q11, .v (.int .i64)]
abbrev o11:Ts:=[.v (.int .i64), .a q11]
abbrev F11:=FT i11 o11
abbrev g11 (c:F11):Nat×Tev.Fn:=(11,⟨i11,o11,c, .inp⟩)
noncomputable def m11 (c28:F28) (c10:F10) (c29:F29) (c30:F30) (c31:F31) (y:PTup i11):Option (PTup o11×BTup i11):=
  let a0:=y.1;let a1:=a0.2;let a2:=a1.2;let a3:=a2.2;let a4:=a3.2;let a5:=a4.2;let a6:=a5.2;let a7:=a6.2;let a8:=a7.2;let a9:=a8.2;let a10:=a9.2;let a11:=a10.2;let a12:=a11.2;let a13:=a12.2;let a14:=a13.2;let a15:=a14.2;let a16:=a15.2;let a17:=a16.2;let a18:=a17.2;let a19:=a18.2;let a20:=a19.2;let a21:=a20.2;let a22:=a21.2;let a23:=a22.2;let a24:=a23.2;let a25:=a24.2;let a26:=a25.2;let a27:=a26.2;let a28:=a27.2;let a29:=a28.2;let a30:=a29.2;let a31:=a30.2;let a32:=a31.2.2;let a33:=a32.2.2.2;(c28 ((a0.1,()),y.2)).bind fun r0=>
  (c10 (a1.1,(r0.1.1,()))).bind fun r1=>
  (c29 ((a2.1,(a3.1,())),(r1.1.1,()))).bind fun r2=>
  (c10 (a20.1,(r2.1.1,()))).bind fun r3=>
  (c30 ((a21.1,(a22.1,(a23.1,(a24.1,(a25.1,(a26.1,(a27.1,(a28.1,(a29.1,(a30.1,(a31.1,()))))))))))),(r3.1.1,()))).bind fun r4=>
  (c31 (a31.2,(r4.1.1,()))).bind fun r5=>
  some ((r5.1.1,((r0.1.2.1.1,(r1.1.2.1,(r2.1.2.1.1,(a3.1,(a4.1,(a5.1,(a6.1,(a7.1,(a8.1,(a9.1,(a10.1,(a11.1,(a12.1,(a13.1,(a14.1,(a15.1,(a16.1,(a17.1,(a18.1,(a19.1,(r3.1.2.1,(a21.1,(a22.1,(a23.1,(a24.1,(a25.1,(a26.1,(r4.1.2.1.2.2.2.2.2.2.1,(r4.1.2.1.2.2.2.2.2.2.2.1,(a29.1,(r4.1.2.1.2.2.2.2.2.2.2.2.2.1,(r4.1.2.1.2.2.2.2.2.2.2.2.2.2.1,(a31.2.1,(a32.1,(a32.2.1,(a32.2.2.1,(a33.1,(a33.2.1,(a33.2.2.1,(a33.2.2.2.1,r5.1.2.1.2.2.2.2.2.2.2.2)))))))))))))))))))))))))))))))))))))))),())),())
noncomputable def E11 (c28:F28) (c10:F10) (c29:F29) (c30:F30) (c31:F31):=mkE [g28 c28,g10 c10,g29 c29,g30 c30,g31 c31]
theorem s11 (c28:F28) (c10:F10) (c29:F29) (c30:F30) (c31:F31) (y):tevM (E11 c28 c10 c29 c30 c31) Tryz.f11 i11 o11 y=m11 c28 c10 c29 c30 c31 y:=by kernel_rfl
noncomputable def r11:F11:=m11 r28 r10 r29 r30 r31
theorem k11:KO (g11 r11):=by
  exact Zev (E:=E11 r28 r10 r29 r30 r31) rfl (Zaw ⟨k28,k10,k29,k30,k31,⟨⟩⟩) mixed (by kernel_rfl) (by kernel_rfl) (Zab.of_list (l:=[]) (by kernel_rfl) trivial) (s11 r28 r10 r29 r30 r31)
abbrev i33:Ts:=[.v (.sl false .i), .v (.int .i64)]
abbrev o33:Ts:=[.v (.int .i64)]
abbrev F33:=FT i33 o33
abbrev g33:=mkG 33 i33 o33
abbrev lc33_0:Ts:=[.v (.sl false .i)]
abbrev lb33_0:Ts:=[]
abbrev lv33_0:Ts:=[.v (.int .i64), .v (.int .i64)]
abbrev lr33_0:Ts:=[.v (.int .i64)]
abbrev R33_0:=Option (Sum (PTup lv33_0) (PTup lr33_0)×BTup lb33_0)
abbrev B33_0:=PTup lb33_0→PTup lv33_0→R33_0
abbrev A33_0:=PTup lc33_0→B33_0
noncomputable def w33_0 (again:B33_0) (x:PTup lc33_0) (y:PTup lb33_0) (z:PTup lv33_0):R33_0:=
  bif (ltI z.2.1 (lenI x.1))then (bif (leI 0 z.2.1)then (bif (ltI z.2.1 (lenI x.1))then (bif (neI (rdE .i x.1 z.2.1) z.1)then (some ((Sum.inr ((-(1:Int)),())),()))
     else again () ((wI (z.1+1)),((wI (z.2.1+1)),())))
    else none)
   else none)
  else some ((Sum.inl z),())
noncomputable def e33_0 (l:A33_0):ZaX:=⟨[0],lc33_0,[],lb33_0,[1,5],lv33_0,[4],lr33_0,0,[],l⟩
noncomputable def m33 (l0:A33_0) (y:PTup i33):Option (PTup o33×BTup i33):=
  (l0 (y.1,()) () (y.2.1,((0:Int),()))).bind fun r0=>
  Zah r0.1 (fun r1=>some ((r1.1,()),()))
  (fun r1=>some (r1,()))
noncomputable def E33 (l0:A33_0):CEnv:=⟨⟨Tryz.prog,fnsL []⟩,ZaV [(2,e33_0 l0)]⟩
theorem t33_0 (l0:A33_0) (again) (x y z):Zai (E33 l0) (Zae (Zaf Tryz.f33) 0) (e33_0 l0) Tryz.f33.ntmps again x y z=w33_0 again x y z:=by kernel_rfl
noncomputable def n33_0:Nat→A33_0
  |0,_,_,_=>none
  |n+1,x,y,z=>w33_0 (fun y z=>n33_0 n x y z) x y z
theorem s33 (l0:A33_0) (y):tevF (E33 l0) Tryz.f33 i33 o33 y=m33 l0 y:=by kernel_rfl
noncomputable def L33_0:A33_0:=n33_0 fuel
noncomputable def r33:F33:=m33 L33_0
theorem k33:KO (g33 r33):=by
  have hE: ∀g f,(E33 L33_0).env.fns g=some f→Zak Tryz.prog g f:=Zaw trivial
  have h0:ZaI Tryz.prog Tryz.f33.ntmps (Zae (Zaf Tryz.f33) 0) (e33_0 L33_0):=Zbr (E:=E33 L33_0) rfl hE mixed (Zab.of_list (l:=[]) (by kernel_rfl) trivial) (n33_0) (fun _ _ _=>rfl) (fun n x y z=>t33_0 L33_0 _ x y z) rfl
  exact ZbV (E:=E33 L33_0) rfl hE mixed (by kernel_rfl) (by kernel_rfl) (Zab.of_list (l:=[(Zae (Zaf Tryz.f33) 0)]) (by kernel_rfl) (.one (by kernel_rfl) h0 trivial)) (s33 L33_0)
abbrev i79:Ts:=[.v (.sl false .n), .v (.int .i64)]
abbrev o79:Ts:=[.v (.int .i64)]
abbrev F79:=FT i79 o79
abbrev g79:=mkG 79 i79 o79
abbrev lc79_0:Ts:=[.v (.sl false .n)]
abbrev lb79_0:Ts:=[]
abbrev lv79_0:Ts:=[.v (.int .i64), .v (.int .i64)]
abbrev lr79_0:Ts:=[.v (.int .i64)]
abbrev R79_0:=Option (Sum (PTup lv79_0) (PTup lr79_0)×BTup lb79_0)
abbrev B79_0:=PTup lb79_0→PTup lv79_0→R79_0
abbrev A79_0:=PTup lc79_0→B79_0
noncomputable def w79_0 (c33:F33) (again:B79_0) (x:PTup lc79_0) (y:PTup lb79_0) (z:PTup lv79_0):R79_0:=
  bif (ltI z.2.1 (lenI x.1))then (bif (leI 0 z.2.1)then (bif (ltI z.2.1 (lenI x.1))then ((c33 ((rdE .n x.1 z.2.1),(z.1,()))).bind fun r0=>
     bif (ltI r0.1.1 0)then (some ((Sum.inr ((-(1:Int)),())),()))
     else again () (r0.1.1,((wI (z.2.1+1)),())))
    else none)
   else none)
  else some ((Sum.inl z),())
noncomputable def e79_0 (l:A79_0):ZaX:=⟨[0],lc79_0,[],lb79_0,[1,5],lv79_0,[4],lr79_0,0,[],l⟩
noncomputable def m79 (c33:F33) (l0:A79_0) (y:PTup i79):Option (PTup o79×BTup i79):=
  (l0 (y.1,()) () (y.2.1,((0:Int),()))).bind fun r0=>
  Zah r0.1 (fun r1=>some ((r1.1,()),()))
  (fun r1=>some (r1,()))
noncomputable def E79 (c33:F33) (l0:A79_0):CEnv:=⟨⟨Tryz.prog,fnsL [g33 c33]⟩,ZaV [(2,e79_0 l0)]⟩
theorem t79_0 (c33:F33) (l0:A79_0) (again) (x y z):Zai (E79 c33 l0) (Zae (Zaf Tryz.f79) 0) (e79_0 l0) Tryz.f79.ntmps again x y z=w79_0 c33 again x y z:=by kernel_rfl
noncomputable def n79_0 (c33:F33):Nat→A79_0
  |0,_,_,_=>none
  |n+1,x,y,z=>w79_0 c33 (fun y z=>n79_0 c33 n x y z) x y z
theorem s79 (c33:F33) (l0:A79_0) (y):tevF (E79 c33 l0) Tryz.f79 i79 o79 y=m79 c33 l0 y:=by kernel_rfl
noncomputable def L79_0:A79_0:=n79_0 r33 fuel
noncomputable def r79:F79:=m79 r33 L79_0
theorem k79:KO (g79 r79):=by
  have hE: ∀g f,(E79 r33 L79_0).env.fns g=some f→Zak Tryz.prog g f:=Zaw ⟨k33,⟨⟩⟩
  have h0:ZaI Tryz.prog Tryz.f79.ntmps (Zae (Zaf Tryz.f79) 0) (e79_0 L79_0):=Zbr (E:=E79 r33 L79_0) rfl hE mixed (Zab.of_list (l:=[]) (by kernel_rfl) trivial) (n79_0 r33) (fun _ _ _=>rfl) (fun n x y z=>t79_0 r33 L79_0 _ x y z) rfl
  exact ZbV (E:=E79 r33 L79_0) rfl hE mixed (by kernel_rfl) (by kernel_rfl) (Zab.of_list (l:=[(Zae (Zaf Tryz.f79) 0)]) (by kernel_rfl) (.one (by kernel_rfl) h0 trivial)) (s79 r33 L79_0)
abbrev i32:Ts:=[.a q0, .v (.int .i64)]
abbrev o32:Ts:=[.v (.int .i64)]
abbrev F32:=FT i32 o32
abbrev g32:=mkG 32 i32 o32
noncomputable def m32 (c79:F79) (y:PTup i32):Option (PTup o32×BTup i32):=
  (c79 (y.1.1,y.2)).bind fun r0=>
  bif (ltI r0.1.1 0)then (some (((-(1:Int)),()),()))
  else some (r0.1,())
theorem s32 (c79:F79) (y):TE [g79 c79] Tryz.f32 i32 o32 y=m32 c79 y:=by kernel_rfl
noncomputable def r32:F32:=m32 r79
theorem k32:KO (g32 r32):=fk (s32 r79) ⟨k79,⟨⟩⟩ (by kernel_rfl)
abbrev i34:Ts:=[.a q2, .v (.int .i64)]
abbrev o34:Ts:=[.v (.int .i64)]
abbrev F34:=FT i34 o34
abbrev g34:=mkG 34 i34 o34
noncomputable def m34 (c33:F33) (y:PTup i34):Option (PTup o34×BTup i34):=
  (c33 (y.1.1,y.2)).bind fun r0=>
  bif (ltI r0.1.1 0)then (some (((-(1:Int)),()),()))
  else some (r0.1,())
theorem s34 (c33:F33) (y):TE [g33 c33] Tryz.f34 i34 o34 y=m34 c33 y:=by kernel_rfl
noncomputable def r34:F34:=m34 r33
theorem k34:KO (g34 r34):=fk (s34 r33) ⟨k33,⟨⟩⟩ (by kernel_rfl)
abbrev i80:Ts:=[.a q5, .v (.int .i64)]
abbrev o80:Ts:=[.v (.int .i64)]
abbrev F80:=FT i80 o80
abbrev g80:=mkG 80 i80 o80
noncomputable def m80 (c33:F33) (y:PTup i80):Option (PTup o80×BTup i80):=
  (c33 (y.1.2.2.2.2.2.2.1,y.2)).bind fun r0=>
  bif (ltI r0.1.1 0)then (some (((-(1:Int)),()),()))
  else (c33 (y.1.2.2.2.2.2.2.2.1,r0.1)).bind fun r1=>
  bif (ltI r1.1.1 0)then (some (((-(1:Int)),()),()))
  else some (r1.1,())
theorem s80 (c33:F33) (y):TE [g33 c33] Tryz.f80 i80 o80 y=m80 c33 y:=by kernel_rfl
noncomputable def r80:F80:=m80 r33
theorem k80:KO (g80 r80):=fk (s80 r33) ⟨k33,⟨⟩⟩ (by kernel_rfl)
abbrev i127:Ts:=[.v (.sl false .t), .v (.int .i64)]
abbrev o127:Ts:=[.v (.int .i64)]
abbrev F127:=FT i127 o127
abbrev g127:=mkG 127 i127 o127
abbrev lc127_0:Ts:=[.v (.sl false .t)]
abbrev lb127_0:Ts:=[]
abbrev lv127_0:Ts:=[.v (.int .i64), .v (.int .i64)]
abbrev lr127_0:Ts:=[.v (.int .i64)]
abbrev R127_0:=Option (Sum (PTup lv127_0) (PTup lr127_0)×BTup lb127_0)
abbrev B127_0:=PTup lb127_0→PTup lv127_0→R127_0
abbrev A127_0:=PTup lc127_0→B127_0
noncomputable def w127_0 (again:B127_0) (x:PTup lc127_0) (y:PTup lb127_0) (z:PTup lv127_0):R127_0:=
  bif (ltI z.2.1 (lenI x.1))then (bif (leI 0 z.2.1)then (bif (ltI z.2.1 (lenI x.1))then (bif (neI (rdE .t x.1 z.2.1).1 z.1)then (some ((Sum.inr ((-(1:Int)),())),()))
     else bif (leI 0 z.2.1)then (bif (ltI z.2.1 (lenI x.1))then (bif (neI (rdE .t x.1 z.2.1).2.1 (wI (z.1+1)))then (some ((Sum.inr ((-(1:Int)),())),()))
       else bif (leI 0 z.2.1)then (bif (ltI z.2.1 (lenI x.1))then (bif (neI (rdE .t x.1 z.2.1).2.2 (wI ((wI (z.1+1))+1)))then (some ((Sum.inr ((-(1:Int)),())),()))
         else again () ((wI ((wI ((wI (z.1+1))+1))+1)),((wI (z.2.1+1)),())))
        else none)
       else none)
      else none)
     else none)
    else none)
   else none)
  else some ((Sum.inl z),())
noncomputable def e127_0 (l:A127_0):ZaX:=⟨[0],lc127_0,[],lb127_0,[1,5],lv127_0,[4],lr127_0,0,[],l⟩
noncomputable def m127 (l0:A127_0) (y:PTup i127):Option (PTup o127×BTup i127):=
  (l0 (y.1,()) () (y.2.1,((0:Int),()))).bind fun r0=>
  Zah r0.1 (fun r1=>some ((r1.1,()),()))
  (fun r1=>some (r1,()))
noncomputable def E127 (l0:A127_0):CEnv:=⟨⟨Tryz.prog,fnsL []⟩,ZaV [(2,e127_0 l0)]⟩
theorem t127_0 (l0:A127_0) (again) (x y z):Zai (E127 l0) (Zae (Zaf Tryz.f127) 0) (e127_0 l0) Tryz.f127.ntmps again x y z=w127_0 again x y z:=by kernel_rfl
noncomputable def n127_0:Nat→A127_0
  |0,_,_,_=>none
  |n+1,x,y,z=>w127_0 (fun y z=>n127_0 n x y z) x y z
theorem s127 (l0:A127_0) (y):tevF (E127 l0) Tryz.f127 i127 o127 y=m127 l0 y:=by kernel_rfl
noncomputable def L127_0:A127_0:=n127_0 fuel
noncomputable def r127:F127:=m127 L127_0
theorem k127:KO (g127 r127):=by
  have hE: ∀g f,(E127 L127_0).env.fns g=some f→Zak Tryz.prog g f:=Zaw trivial
  have h0:ZaI Tryz.prog Tryz.f127.ntmps (Zae (Zaf Tryz.f127) 0) (e127_0 L127_0):=Zbr (E:=E127 L127_0) rfl hE mixed (Zab.of_list (l:=[]) (by kernel_rfl) trivial) (n127_0) (fun _ _ _=>rfl) (fun n x y z=>t127_0 L127_0 _ x y z) rfl
  exact ZbV (E:=E127 L127_0) rfl hE mixed (by kernel_rfl) (by kernel_rfl) (Zab.of_list (l:=[(Zae (Zaf Tryz.f127) 0)]) (by kernel_rfl) (.one (by kernel_rfl) h0 trivial)) (s127 L127_0)
abbrev i81:Ts:=[.a q6, .v (.int .i64)]
abbrev o81:Ts:=[.v (.int .i64)]
abbrev F81:=FT i81 o81
abbrev g81:=mkG 81 i81 o81
noncomputable def m81 (c127:F127) (y:PTup i81):Option (PTup o81×BTup i81):=
  (c127 (y.1.2.1,y.2)).bind fun r0=>
  bif (ltI r0.1.1 0)then (some (((-(1:Int)),()),()))
  else some (r0.1,())
theorem s81 (c127:F127) (y):TE [g127 c127] Tryz.f81 i81 o81 y=m81 c127 y:=by kernel_rfl
noncomputable def r81:F81:=m81 r127
theorem k81:KO (g81 r81):=fk (s81 r127) ⟨k127,⟨⟩⟩ (by kernel_rfl)
abbrev i35:Ts:=[.a q7, .v (.int .i64)]
abbrev o35:Ts:=[.v (.int .i64)]
abbrev F35:=FT i35 o35
abbrev g35:=mkG 35 i35 o35
noncomputable def m35 (c79:F79) (c80:F80) (c81:F81) (y:PTup i35):Option (PTup o35×BTup i35):=
  (c80 ((y.1.1,(y.1.2.1,(y.1.2.2.1,(y.1.2.2.2.1,(y.1.2.2.2.2.1,(y.1.2.2.2.2.2.1,(y.1.2.2.2.2.2.2.1,(y.1.2.2.2.2.2.2.2.1,())))))))),y.2)).bind fun r0=>
  bif (ltI r0.1.1 0)then (some (((-(1:Int)),()),()))
  else (c81 ((y.1.2.2.2.2.2.2.2.2.1,(y.1.2.2.2.2.2.2.2.2.2.1,())),r0.1)).bind fun r1=>
  bif (ltI r1.1.1 0)then (some (((-(1:Int)),()),()))
  else (c79 (y.1.2.2.2.2.2.2.2.2.2.2.1,r1.1)).bind fun r2=>
  bif (ltI r2.1.1 0)then (some (((-(1:Int)),()),()))
  else some (r2.1,())
theorem s35 (c79:F79) (c80:F80) (c81:F81) (y):TE [g79 c79,g80 c80,g81 c81] Tryz.f35 i35 o35 y=m35 c79 c80 c81 y:=by kernel_rfl
noncomputable def r35:F35:=m35 r79 r80 r81
theorem k35:KO (g35 r35):=fk (s35 r79 r80 r81) ⟨k79,k80,k81,⟨⟩⟩ (by kernel_rfl)
abbrev i36:Ts:=[.a q9, .v (.int .i64)]
abbrev o36:Ts:=[.v (.int .i64)]
abbrev F36:=FT i36 o36
abbrev g36:=mkG 36 i36 o36
noncomputable def m36 (c33:F33) (c81:F81) (y:PTup i36):Option (PTup o36×BTup i36):=
  (c81 ((y.1.2.2.2.2.2.2.2.1,(y.1.2.2.2.2.2.2.2.2.1,())),y.2)).bind fun r0=>
  bif (ltI r0.1.1 0)then (some (((-(1:Int)),()),()))
  else (c33 (y.1.2.2.2.2.2.2.2.2.2.1,r0.1)).bind fun r1=>
  bif (ltI r1.1.1 0)then (some (((-(1:Int)),()),()))
  else some (r1.1,())
theorem s36 (c33:F33) (c81:F81) (y):TE [g33 c33,g81 c81] Tryz.f36 i36 o36 y=m36 c33 c81 y:=by kernel_rfl
noncomputable def r36:F36:=m36 r33 r81
theorem k36:KO (g36 r36):=fk (s36 r33 r81) ⟨k33,k81,⟨⟩⟩ (by kernel_rfl)
abbrev i12:Ts:=[.a q10, .v (.int .i64)]
abbrev o12:Ts:=[.v (.int .i64)]
abbrev F12:=FT i12 o12
abbrev g12:=mkG 12 i12 o12
noncomputable def m12 (c32:F32) (c33:F33) (c34:F34) (c35:F35) (c36:F36) (y:PTup i12):Option (PTup o12×BTup i12):=
  let a0:=y.1;let a1:=a0.2;let a2:=a1.2;let a3:=a2.2;let a4:=a3.2;let a5:=a4.2;let a6:=a5.2;let a7:=a6.2;let a8:=a7.2;let a9:=a8.2;let a10:=a9.2.2;let a11:=a10.2;let a12:=a11.2;let a13:=a12.2;let a14:=a13.2;let a15:=a14.2;let a16:=a15.2;let a17:=a16.2;let a18:=a17.2;let a19:=a18.2;let a20:=a19.2;let a21:=a20.2;let a22:=a21.2;let a23:=a22.2.2;let a24:=a23.2.2;(c32 ((a0.1,()),y.2)).bind fun r0=>
  bif (ltI r0.1.1 0)then (some (((-(1:Int)),()),()))
  else (c33 (a1.1,r0.1)).bind fun r1=>
  bif (ltI r1.1.1 0)then (some (((-(1:Int)),()),()))
  else (c34 ((a2.1,(a3.1,())),r1.1)).bind fun r2=>
  bif (ltI r2.1.1 0)then (some (((-(1:Int)),()),()))
  else (c33 (a19.1,r2.1)).bind fun r3=>
  bif (ltI r3.1.1 0)then (some (((-(1:Int)),()),()))
  else (c35 ((a20.1,(a21.1,(a22.1,(a22.2.1,(a23.1,(a23.2.1,(a24.1,(a24.2.1,(a24.2.2.1,(a24.2.2.2.1,(a24.2.2.2.2.1,()))))))))))),r3.1)).bind fun r4=>
  bif (ltI r4.1.1 0)then (some (((-(1:Int)),()),()))
  else (c36 (a24.2.2.2.2.2,r4.1)).bind fun r5=>
  bif (ltI r5.1.1 0)then (some (((-(1:Int)),()),()))
  else some (r5.1,())
theorem s12 (c32:F32) (c33:F33) (c34:F34) (c35:F35) (c36:F36) (y):TE [g32 c32,g33 c33,g34 c34,g35 c35,g36 c36] Tryz.f12 i12 o12 y=m12 c32 c33 c34 c35 c36 y:=by kernel_rfl
noncomputable def r12:F12:=m12 r32 r33 r34 r35 r36
theorem k12:KO (g12 r12):=fk (s12 r32 r33 r34 r35 r36) ⟨k32,k33,k34,k35,k36,⟨⟩⟩ (by kernel_rfl)
abbrev i3:Ts:=[.v (.str), .v (.sl false .i), .v (.int .i64)]
abbrev o3:Ts:=[.v (.bool)]
abbrev F3:=FT i3 o3
abbrev g3:=mkG 3 i3 o3
noncomputable def m3 (c7:F7) (c9:F9) (c8:F8) (c12:F12) (c10:F10) (c11:F11) (c6:F6) (c5:F5) (y:PTup i3):Option (PTup o3×BTup i3):=
  bif (ltI 1048576 ((((ByteArray.size y.1):Nat)):Int))then (some ((true,()),()))
  else bif (ltI 1048576 (lenI y.2.1))then (some ((true,()),()))
  else (c6 (y.2.1,())).bind fun r0=>
  (c5 (y.1,(r0.1.1,y.2.2))).bind fun r1=>
  (c6 (y.2.1,())).bind fun r2=>
  (c7 (y.1,(r2.1.1,y.2.2))).bind fun r3=>let g0:=r3.1;let g1:=g0.1;let g2:=g1.2;let g3:=g2.2;let g4:=g3.2;let g5:=g4.2;let g6:=g5.2;let g7:=g6.2;let g8:=g7.2;let g9:=g8.2;let g10:=g9.2;let g11:=g10.2;let g12:=g11.2;let g13:=g12.2;let g14:=g13.2;let g15:=g14.2;let g16:=g15.2;let g17:=g16.2;let g18:=g17.2;let g19:=g18.2;let g20:=g19.2;let g21:=g20.2;let g22:=g21.2;let g23:=g22.2;let g24:=g23.2;let g25:=g24.2;let g26:=g25.2;let g27:=g26.2;let g28:=g27.2;let g29:=g28.2;let g30:=g29.2;let g31:=g30.2;let g32:=g31.2;let g33:=g32.2;let g34:=g33.2;let g35:=g34.2;let g36:=g35.2;let g37:=g36.2.2;(c8 (g1,(r1.1.1,()))).bind fun r4=>
  bif (!r4.1.1)then no
  else bif (neI g0.2.1 r1.1.2.1)then no
  else (c6 (y.2.1,())).bind fun r5=>
  (c9 (r2.1.1,r5.1)).bind fun r6=>
  bif (!r6.1.1)then no
  else (c10 (r2.1.1,((1:Int),()))).bind fun r7=>
  bif (ltI r7.1.1 0)then no
  else (c8 (g1,(r1.1.1,()))).bind fun r8=>
  bif (!r8.1.1)then no
  else bif (neI g0.2.1 r1.1.2.1)then no
  else (c11 (g1,((1:Int),()))).bind fun r9=>let t0:=r9.1;let t1:=t0.2;let t2:=t1.1;let t3:=t2.2;let t4:=t3.2;let t5:=t4.2;let t6:=t5.2;let t7:=t6.2;let t8:=t7.2;let t9:=t8.2;let t10:=t9.2.2;let t11:=t10.2;let t12:=t11.2;let t13:=t12.2;let t14:=t13.2;let t15:=t14.2;let t16:=t15.2;let t17:=t16.2;let t18:=t17.2;let t19:=t18.2;let t20:=t19.2;let t21:=t20.2;let t22:=t21.2;let t23:=t22.2;let t24:=t23.2;let t25:=t24.2;let t26:=t25.2;let t27:=t26.2;let t28:=t27.2;let t29:=t28.2.2;let t30:=t29.2.2.2.2.2.2.2.2.2;(c12 ((t2.1,(t3.1,(t4.1,(g4.1,(g5.1,(g6.1,(g7.1,(g8.1,(g9.1,(g10.1,(g11.1,(g12.1,(g13.1,(g14.1,(g15.1,(g16.1,(g17.1,(g18.1,(g19.1,(g20.1,(t21.1,(g22.1,(g23.1,(g24.1,(g25.1,(g26.1,(g27.1,(t28.1,(t28.2.1,(g30.1,(t29.2.1,(t29.2.2.1,(g33.1,(g34.1,(g35.1,(g36.1,(g36.2.1,(g37.1,(g37.2.1,(g37.2.2.1,t30.2.2)))))))))))))))))))))))))))))))))))))))),((1:Int),()))).bind fun r10=>
  bif (ltI r10.1.1 0)then no
  else bif (neI r10.1.1 t0.1)then no
  else (c6 (y.2.1,())).bind fun r11=>
  (c7 (y.1,(r11.1.1,y.2.2))).bind fun r12=>
  (c8 (r12.1.1,(r1.1.1,()))).bind fun r13=>
  bif (!r13.1.1)then no
  else bif (neI r12.1.2.1 r1.1.2.1)then no
  else (c12 ((t2.1,(t3.1,(t4.1,(g4.1,(g5.1,(g6.1,(g7.1,(g8.1,(g9.1,(g10.1,(g11.1,(g12.1,(g13.1,(g14.1,(g15.1,(g16.1,(g17.1,(g18.1,(g19.1,(g20.1,(t21.1,(g22.1,(g23.1,(g24.1,(g25.1,(g26.1,(g27.1,(t28.1,(t28.2.1,(g30.1,(t29.2.1,(t29.2.2.1,(g33.1,(g34.1,(g35.1,(g36.1,(g36.2.1,(g37.1,(g37.2.1,(g37.2.2.1,t30.2.2)))))))))))))))))))))))))))))))))))))))),((1:Int),()))).bind fun r14=>
  bif (ltI r14.1.1 0)then no
  else bif (neI r14.1.1 t0.1)then no
  else some ((true,()),())
theorem s3 (c7:F7) (c9:F9) (c8:F8) (c12:F12) (c10:F10) (c11:F11) (c6:F6) (c5:F5) (y):TE [g7 c7,g9 c9,g8 c8,g12 c12,g10 c10,g11 c11,g6 c6,g5 c5] Tryz.f3 i3 o3 y=m3 c7 c9 c8 c12 c10 c11 c6 c5 y:=by kernel_rfl
noncomputable def r3:F3:=m3 r7 r9 r8 r12 r10 r11 r6 r5
theorem k3:KO (g3 r3):=fk (s3 r7 r9 r8 r12 r10 r11 r6 r5) ⟨k7,k9,k8,k12,k10,k11,k6,k5,⟨⟩⟩ (by kernel_rfl)
end Go.Proofs.YtmlahgmhbdpkjaaGreatDoor.Plain
