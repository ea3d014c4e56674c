/- Plain functions that the program's functions answer as; their contracts. Printed by a program of the proofs' writer. No condition. -/
import Derived.Test.YtcbdldlphpjmbaaGreatDoorX
import Derived.KernelRfl
import Derived.Test.YtcbdldlphpjmbaaGreatDoorProg
set_option linter.unusedVariables false
set_option linter.unusedSimpArgs false
set_option maxRecDepth 100000
namespace Go.Proofs.YtcbdldlphpjmbaaGreatDoor.Plain
open Go Go.Tev
theorem mixed : Tryz.prog.follows .mixedOrders = true := by kernel_rfl
noncomputable abbrev mkE (l : List (Nat × Tev.Fn)) : ZH := ⟨⟨Tryz.prog, Z6 l⟩, Qg []⟩
abbrev FT (i o : List Ty) := PTup i → Option (PTup o × BTup i)
abbrev Ts := List Ty
abbrev bz (l : List UInt8) : ByteArray := ⟨⟨l⟩⟩
noncomputable abbrev TE (l : List (Nat × Tev.Fn)) (f : Func) (i o : List Ty) := Z8 (mkE l) f i o
abbrev no : Option ((Bool × Unit) × Unit) := some ((false, ()), ())
abbrev mkG (k : Nat) (i o : List Ty) (c : FT i o) : Nat × Tev.Fn := (k, ⟨i, o, c, .nor⟩)
abbrev KO (x : Nat × Tev.Fn) : Prop := CK Tryz.prog x
theorem fk {l : List (Nat × Tev.Fn)} {g : FuncId} {f : Func} {i o : List Ty} {run : FT i o} (h : ∀ y, Z8 (mkE l) f i o y = run y) (hE : ZhY Tryz.prog l) (hg : (Tryz.prog.funcs[g]?, Zfc f i o && (Kg (Zm f)).isEmpty) = (some f, true) := by kernel_rfl) : KO (mkG g i o run) := by
  have hs := congrArg Prod.snd hg;dsimp only at hs;rw [Bool.and_eq_true, List.isEmpty_iff] at hs;exact fn0 h (Qf hE) rfl mixed (congrArg Prod.fst hg) hs.1 hs.2
abbrev i75 : Ts := [.v (.int .i64)]
abbrev o75 : Ts := [.v .str]
abbrev F75 := FT i75 o75
abbrev g75 (c : F75) : Nat × Tev.Fn := mkG 75 i75 o75 c
noncomputable def r75 : F75 := ZnD.run
theorem k75 : KO (g75 r75) := Zsj
abbrev i136 : Ts := [.v (.sl false .s), .v .str]
abbrev o136 : Ts := [.v .str]
abbrev F136 := FT i136 o136
abbrev g136 (c : F136) : Nat × Tev.Fn := mkG 136 i136 o136 c
noncomputable def r136 : F136 := ZnE.run
theorem k136 : KO (g136 r136) := Zsl
abbrev i26 : Ts := [.v .str, .v .str]
abbrev o26 : Ts := [.v .str, .v .bool]
abbrev F26 := FT i26 o26
abbrev g26 (c : F26) : Nat × Tev.Fn := mkG 26 i26 o26 c
noncomputable def r26 : F26 := Zbh.run
theorem k26 : KO (g26 r26) := Zl9
abbrev i107 : Ts := [.v .str, .v .str]
abbrev o107 : Ts := [.v .str, .v .str, .v .bool]
abbrev F107 := FT i107 o107
abbrev g107 (c : F107) : Nat × Tev.Fn := mkG 107 i107 o107 c
noncomputable def r107 : F107 := Zrv.run
theorem k107 : KO (g107 r107) := ZsR
abbrev i44 : Ts := [.v .str, .v .str]
abbrev o44 : Ts := [.v (.sl true .s)]
abbrev F44 := FT i44 o44
abbrev g44 (c : F44) : Nat × Tev.Fn := mkG 44 i44 o44 c
noncomputable def r44 : F44 := ZjU.run
theorem k44 : KO (g44 r44) := splitK
abbrev i29 : Ts := [.v .str, .v (.int .i64)]
abbrev o29 : Ts := [.v (.int .i64), .v .bool]
abbrev F29 := FT i29 o29
abbrev g29 (c : F29) : Nat × Tev.Fn := mkG 29 i29 o29 c
noncomputable def r29 : F29 := ZpF.run
theorem k29 : KO (g29 r29) := Zsu
abbrev q0 : List LT := [.sl false .n]
abbrev q1 : List LT := [.sl true .i, .int .i64]
abbrev q2 : List LT := [.sl false .i, .int .i64]
abbrev q3 : List LT := [.int .i64, .int .i64, .int .i64, .int .i64, .bool, .bool, .bool, .bool]
abbrev q4 : List LT := [.int .i64, .int .i64, .int .i64, .int .i64, .int .i64, .bool, .sl true .i, .sl true .i]
abbrev q5 : List LT := [.int .i64, .int .i64, .int .i64, .int .i64, .int .i64, .bool, .sl false .i, .sl false .i]
abbrev q6 : List LT := [.int .i64, .sl false .t]
abbrev q7 : List LT := [.int .i64, .int .i64, .int .i64, .int .i64, .int .i64, .bool, .sl false .i, .sl false .i, .int .i64, .sl false .t, .sl false .n]
abbrev q8 : List LT := [.int .i64, .int .i64, .int .i64, .int .i64, .int .i64, .bool, .bool]
abbrev q9 : List LT := [.int .i64, .int .i64, .int .i64, .int .i64, .int .i64, .bool, .bool, .int .i64, .sl false .t, .sl false .i]
abbrev q10 : List LT := [.sl false .n, .sl false .i, .sl false .i, .int .i64, .int .i64, .int .i64, .int .i64, .int .i64, .bool, .bool, .bool, .bool, .bool, .int .i64, .int .i64, .bool, .int .i64, .bool, .int .i64, .int .i64, .sl false .i, .int .i64, .int .i64, .int .i64, .int .i64, .int .i64, .bool, .sl false .i, .sl false .i, .int .i64, .sl false .t, .sl false .n, .int .i64, .int .i64, .int .i64, .int .i64, .int .i64, .bool, .bool, .int .i64, .sl false .t, .sl false .i]
abbrev q11 : List LT := [.sl true .n, .sl true .i, .sl true .i, .int .i64, .int .i64, .int .i64, .int .i64, .int .i64, .bool, .bool, .bool, .bool, .bool, .int .i64, .int .i64, .bool, .int .i64, .bool, .int .i64, .int .i64, .sl true .i, .int .i64, .int .i64, .int .i64, .int .i64, .int .i64, .bool, .sl true .i, .sl true .i, .int .i64, .sl true .t, .sl true .n, .int .i64, .int .i64, .int .i64, .int .i64, .int .i64, .bool, .bool, .int .i64, .sl true .t, .sl true .i]
abbrev q12 : List LT := [.int .i64, .sl true .t]
abbrev q13 : List LT := [.int .i64, .int .i64, .int .i64, .int .i64, .int .i64, .bool, .sl true .i, .sl true .i, .int .i64, .sl true .t, .sl true .n]
abbrev q14 : List LT := [.int .i64, .int .i64, .int .i64, .int .i64, .int .i64, .bool, .bool, .int .i64, .sl true .t, .sl true .i]
abbrev q15 : List LT := [.int .i64, .int .i64]
abbrev q16 : List LT := [.sl false .n, .sl false .i, .sl false .i, .int .i64, .int .i64, .int .i64, .int .i64, .int .i64, .bool, .bool, .bool, .bool, .int .i64, .int .i64, .int .i64, .int .i64, .int .i64, .bool, .sl false .i, .sl false .i, .int .i64, .int .i64, .int .i64, .int .i64, .int .i64, .bool, .bool, .bool, .int .i64, .bool, .int .i64, .sl false .n, .sl false .i, .sl false .i]
abbrev q17 : List LT := [.sl true .n, .sl true .i, .sl true .i, .int .i64, .int .i64, .int .i64, .int .i64, .int .i64, .bool, .bool, .bool, .bool, .int .i64, .int .i64, .int .i64, .int .i64, .int .i64, .bool, .sl true .i, .sl true .i, .int .i64, .int .i64, .int .i64, .int .i64, .int .i64, .bool, .bool, .bool, .int .i64, .bool, .int .i64, .sl true .n, .sl true .i, .sl true .i]
abbrev q18 : List LT := [.bool, .int .i64]
abbrev q19 : List LT := [.sl false .n, .sl false .i, .sl false .i]
abbrev q20 : List LT := [.sl false .n, .sl false .i, .sl true .i, .int .i64, .int .i64, .int .i64, .int .i64, .int .i64, .bool, .bool, .bool, .bool, .bool, .int .i64, .int .i64, .bool, .int .i64, .bool, .int .i64, .int .i64, .sl true .i, .int .i64, .int .i64, .int .i64, .int .i64, .int .i64, .bool, .sl false .i, .sl false .i, .int .i64, .sl true .t, .sl false .n, .int .i64, .int .i64, .int .i64, .int .i64, .int .i64, .bool, .bool, .int .i64, .sl true .t, .sl false .i]
abbrev q21 : List LT := [.sl false .n, .sl false .i, .sl true .i, .int .i64, .int .i64, .int .i64, .int .i64, .int .i64, .bool, .bool, .bool, .bool, .bool, .int .i64, .int .i64, .bool, .int .i64, .bool, .int .i64, .int .i64, .sl true .i, .int .i64, .int .i64, .int .i64, .int .i64, .int .i64, .bool, .sl true .i, .sl true .i, .int .i64, .sl true .t, .sl true .n, .int .i64, .int .i64, .int .i64, .int .i64, .int .i64, .bool, .bool, .int .i64, .sl true .t, .sl true .i]
abbrev q22 : List LT := [.sl false .n, .sl false .i, .sl false .i, .int .i64, .int .i64, .int .i64, .int .i64, .int .i64, .bool, .bool, .bool, .bool, .int .i64, .int .i64, .int .i64, .int .i64, .int .i64, .bool, .sl false .i, .sl true .i, .int .i64, .int .i64, .int .i64, .int .i64, .int .i64, .bool, .bool, .bool, .int .i64, .bool, .int .i64, .sl true .n, .sl true .i, .sl false .i]
abbrev q23 : List LT := [.sl false .n, .sl false .i, .sl true .i, .int .i64, .int .i64, .int .i64, .int .i64, .int .i64, .bool, .bool, .bool, .bool, .int .i64, .int .i64, .int .i64, .int .i64, .int .i64, .bool, .sl true .i, .sl true .i, .int .i64, .int .i64, .int .i64, .int .i64, .int .i64, .bool, .bool, .bool, .int .i64, .bool, .int .i64, .sl true .n, .sl true .i, .sl true .i]
abbrev q24 : List LT := [.sl false .b, .int .i64, .int .i64]
abbrev i43:Ts:=[.v (.int .i64)]
abbrev o43:Ts:=[.v (.str)]
abbrev F43:=FT i43 o43
abbrev g43:=mkG 43 i43 o43
abbrev lc43_0:Ts:=[]
abbrev lb43_0:Ts:=[]
abbrev lv43_0:Ts:=[.v (.int .i64), .v (.str)]
abbrev lr43_0:Ts:=[]
abbrev R43_0:=Option (Sum (PTup lv43_0) (PTup lr43_0)×BTup lb43_0)
abbrev B43_0:=PTup lb43_0→PTup lv43_0→R43_0
abbrev A43_0:=PTup lc43_0→B43_0
noncomputable def w43_0 (again:B43_0):A43_0:=fun x y z=>bif (ltI 0 z.1)then (bif (leN ((ByteArray.size (Ks ((wB (wI ((48:Int)+(Int.tmod z.1 10))))::[])))+(ByteArray.size z.2.1)) (4611686018427387904:Nat))then (again () ((wI (Int.tdiv z.1 10)),(((Ks ((wB (wI ((48:Int)+(Int.tmod z.1 10))))::[]))++z.2.1),())))else none)else some ((Sum.inl z),())
noncomputable def e43_0 (l:A43_0):ZJ:=⟨[],lc43_0,[],lb43_0,[0,3],lv43_0,[],lr43_0,0,[],l⟩
noncomputable def m43 (l0:A43_0):F43:=fun y=>bif (eqI y.1 0)then (some (((bz [48]),()),()))else (l0 () () (y.1,((bz []),()))).bind fun r0=>ZE r0.1 (fun r1=>some (r1.2,())) (fun r1=>some (((bz []),()),()))
noncomputable def E43 (l0:A43_0):ZH:=⟨⟨Tryz.prog,Z6 []⟩,Qg [(4,e43_0 l0)]⟩
theorem t43_0 (l0:A43_0) (again) (x y z):ZX (E43 l0) (Zk (Zm Tryz.f43) 0) (e43_0 l0) Tryz.f43.ntmps again x y z=w43_0 again x y z:=by kernel_rfl
noncomputable def n43_0:Nat→A43_0
  |0,_,_,_=>none
  |n+1,x,y,z=>w43_0 (fun y z=>n43_0 n x y z) x y z
theorem s43 (l0:A43_0) (y):Z8 (E43 l0) Tryz.f43 i43 o43 y=m43 l0 y:=by kernel_rfl
noncomputable def L43_0:A43_0:=n43_0 fuel
noncomputable def r43:F43:=m43 L43_0
theorem k43:KO (g43 r43):=by
  have hE: ∀g f,(E43 L43_0).env.fns g=some f→Zy Tryz.prog g f:=Qf trivial;have h0:ZP Tryz.prog Tryz.f43.ntmps (Zk (Zm Tryz.f43) 0) (e43_0 L43_0):=Z0 (E:=E43 L43_0) rfl hE mixed (Zt.of_list (l:=[]) (by kernel_rfl) trivial) (n43_0) (fun _ _ _=>rfl) (fun n x y z=>t43_0 L43_0 _ x y z) rfl;exact Qk (E:=E43 L43_0) rfl hE mixed (by kernel_rfl) (by kernel_rfl) (Zt.of_list (l:=[(Zk (Zm Tryz.f43) 0)]) (by kernel_rfl) (.one (by kernel_rfl) h0 trivial)) (s43 L43_0)
abbrev i103:Ts:=[.v (.str)]
abbrev o103:Ts:=[.v (.int .i64)]
abbrev F103:=FT i103 o103
abbrev g103:=mkG 103 i103 o103
abbrev lc103_0:Ts:=[.v (.str)]
abbrev lb103_0:Ts:=[]
abbrev lv103_0:Ts:=[.v (.int .i64), .v (.int .i64)]
abbrev lr103_0:Ts:=[.v (.int .i64)]
abbrev R103_0:=Option (Sum (PTup lv103_0) (PTup lr103_0)×BTup lb103_0)
abbrev B103_0:=PTup lb103_0→PTup lv103_0→R103_0
abbrev A103_0:=PTup lc103_0→B103_0
noncomputable def w103_0 (c43:F43) (again:B103_0):A103_0:=fun x y z=>bif (ltI z.2.1 ((((ByteArray.size x.1):Nat)):Int))then (bif (leI 0 z.2.1)then (bif (ltI z.2.1 ((((ByteArray.size x.1):Nat)):Int))then (bif (ltI (bt x.1 z.2.1) 48)then (some ((Sum.inr ((-(1:Int)),())),()))else bif (leI 0 z.2.1)then (bif (ltI z.2.1 ((((ByteArray.size x.1):Nat)):Int))then (bif (ltI 57 (bt x.1 z.2.1))then (some ((Sum.inr ((-(1:Int)),())),()))else bif (leI 0 z.2.1)then (bif (ltI z.2.1 ((((ByteArray.size x.1):Nat)):Int))then (again () ((wI ((wI ((wI ((10:Int)*z.1))+(wI (bt x.1 z.2.1))))-48)),((wI (z.2.1+1)),())))else none)else none)else none)else none)else none)else none)else some ((Sum.inl z),())
noncomputable def e103_0 (l:A103_0):ZJ:=⟨[0],lc103_0,[],lb103_0,[3,4],lv103_0,[2],lr103_0,0,[],l⟩
noncomputable def m103 (c43:F43) (l0:A103_0):F103:=fun y=>bif ((ByteArray.toList y.1)==(ByteArray.toList (bz [])))then (some (((-(1:Int)),()),()))else bif (ltI 5 ((((ByteArray.size y.1):Nat)):Int))then (some (((-(1:Int)),()),()))else (l0 y () ((0:Int),((0:Int),()))).bind fun r0=>ZE r0.1 (fun r1=>(c43 (r1.1,())).bind fun r2=>bif (!((ByteArray.toList r2.1.1)==(ByteArray.toList y.1)))then (some (((-(1:Int)),()),()))else some ((r1.1,()),())) (fun r1=>some (r1,()))
noncomputable def E103 (c43:F43) (l0:A103_0):ZH:=⟨⟨Tryz.prog,Z6 [g43 c43]⟩,Qg [(5,e103_0 l0)]⟩
theorem t103_0 (c43:F43) (l0:A103_0) (again) (x y z):ZX (E103 c43 l0) (Zk (Zm Tryz.f103) 0) (e103_0 l0) Tryz.f103.ntmps again x y z=w103_0 c43 again x y z:=by kernel_rfl
noncomputable def n103_0 (c43:F43):Nat→A103_0
  |0,_,_,_=>none
  |n+1,x,y,z=>w103_0 c43 (fun y z=>n103_0 c43 n x y z) x y z
theorem s103 (c43:F43) (l0:A103_0) (y):Z8 (E103 c43 l0) Tryz.f103 i103 o103 y=m103 c43 l0 y:=by kernel_rfl
noncomputable def L103_0:A103_0:=n103_0 r43 fuel
noncomputable def r103:F103:=m103 r43 L103_0
theorem k103:KO (g103 r103):=by
  have hE: ∀g f,(E103 r43 L103_0).env.fns g=some f→Zy Tryz.prog g f:=Qf ⟨k43,⟨⟩⟩;have h0:ZP Tryz.prog Tryz.f103.ntmps (Zk (Zm Tryz.f103) 0) (e103_0 L103_0):=Z0 (E:=E103 r43 L103_0) rfl hE mixed (Zt.of_list (l:=[]) (by kernel_rfl) trivial) (n103_0 r43) (fun _ _ _=>rfl) (fun n x y z=>t103_0 r43 L103_0 _ x y z) rfl;exact Qk (E:=E103 r43 L103_0) rfl hE mixed (by kernel_rfl) (by kernel_rfl) (Zt.of_list (l:=[(Zk (Zm Tryz.f103) 0)]) (by kernel_rfl) (.one (by kernel_rfl) h0 trivial)) (s103 r43 L103_0)
abbrev i40:Ts:=[.v (.str)]
abbrev o40:Ts:=[.v (.str), .v (.int .i64), .v (.bool)]
abbrev F40:=FT i40 o40
abbrev g40:=mkG 40 i40 o40
abbrev lc40_0:Ts:=[.v (.str)]
abbrev lb40_0:Ts:=[]
abbrev lv40_0:Ts:=[.v (.int .i64)]
abbrev lr40_0:Ts:=[.v (.str), .v (.int .i64), .v (.bool)]
abbrev R40_0:=Option (Sum (PTup lv40_0) (PTup lr40_0)×BTup lb40_0)
abbrev B40_0:=PTup lb40_0→PTup lv40_0→R40_0
abbrev A40_0:=PTup lc40_0→B40_0
noncomputable def w40_0 (c103:F103) (again:B40_0):A40_0:=fun x y z=>bif (ltI z.1 ((((ByteArray.size x.1):Nat)):Int))then (bif (leI 0 z.1)then (bif (ltI z.1 ((((ByteArray.size x.1):Nat)):Int))then (bif (eqI (bt x.1 z.1) 32)then (bif (leI 0 (wI (z.1+1)))then (bif (leI (wI (z.1+1)) ((((ByteArray.size x.1):Nat)):Int))then ((c103 ((ByteArray.extract x.1 (Int.toNat (wI (z.1+1))) (ByteArray.size x.1)),())).bind fun r0=>bif (leI 0 z.1)then (bif (leI z.1 ((((ByteArray.size x.1):Nat)):Int))then (some ((Sum.inr ((ByteArray.extract x.1 (0:Nat) (Int.toNat z.1)),(r0.1.1,((leI 0 r0.1.1),())))),()))else none)else none)else none)else none)else again () ((wI (z.1+1)),()))else none)else none)else some ((Sum.inl z),())
noncomputable def e40_0 (l:A40_0):ZJ:=⟨[0],lc40_0,[],lb40_0,[5],lv40_0,[2,3,4],lr40_0,0,[],l⟩
noncomputable def m40 (c103:F103) (l0:A40_0):F40:=fun y=>(l0 y () ((0:Int),())).bind fun r0=>ZE r0.1 (fun r1=>some ((y.1,((-(1:Int)),(true,()))),())) (fun r1=>some (r1,()))
noncomputable def E40 (c103:F103) (l0:A40_0):ZH:=⟨⟨Tryz.prog,Z6 [g103 c103]⟩,Qg [(2,e40_0 l0)]⟩
theorem t40_0 (c103:F103) (l0:A40_0) (again) (x y z):ZX (E40 c103 l0) (Zk (Zm Tryz.f40) 0) (e40_0 l0) Tryz.f40.ntmps again x y z=w40_0 c103 again x y z:=by kernel_rfl
noncomputable def n40_0 (c103:F103):Nat→A40_0
  |0,_,_,_=>none
  |n+1,x,y,z=>w40_0 c103 (fun y z=>n40_0 c103 n x y z) x y z
theorem s40 (c103:F103) (l0:A40_0) (y):Z8 (E40 c103 l0) Tryz.f40 i40 o40 y=m40 c103 l0 y:=by kernel_rfl
noncomputable def L40_0:A40_0:=n40_0 r103 fuel
noncomputable def r40:F40:=m40 r103 L40_0
theorem k40:KO (g40 r40):=by
  have hE: ∀g f,(E40 r103 L40_0).env.fns g=some f→Zy Tryz.prog g f:=Qf ⟨k103,⟨⟩⟩;have h0:ZP Tryz.prog Tryz.f40.ntmps (Zk (Zm Tryz.f40) 0) (e40_0 L40_0):=Z0 (E:=E40 r103 L40_0) rfl hE mixed (Zt.of_list (l:=[]) (by kernel_rfl) trivial) (n40_0 r103) (fun _ _ _=>rfl) (fun n x y z=>t40_0 r103 L40_0 _ x y z) rfl;exact Qk (E:=E40 r103 L40_0) rfl hE mixed (by kernel_rfl) (by kernel_rfl) (Zt.of_list (l:=[(Zk (Zm Tryz.f40) 0)]) (by kernel_rfl) (.one (by kernel_rfl) h0 trivial)) (s40 r103 L40_0)
abbrev i41:Ts:=[.v (.int .i64), .v (.int .i64), .v (.int .i64)]
abbrev o41:Ts:=[.v (.bool)]
abbrev F41:=FT i41 o41
abbrev g41:=mkG 41 i41 o41
noncomputable def m41:F41:=fun y=>bif (leI y.2.1 y.1)then (some (((leI y.1 y.2.2.1),()),()))else no
theorem s41 (y):TE [] Tryz.f41 i41 o41 y=m41 y:=by kernel_rfl
noncomputable def r41:F41:=m41
theorem k41:KO (g41 r41):=fk (s41) trivial
abbrev i216:Ts:=[]
abbrev o216:Ts:=[.v (.sl true .s)]
abbrev F216:=FT i216 o216
abbrev g216:=mkG 216 i216 o216
noncomputable def m216:F216:=fun y=>some ((((bz [110,111,112])::((bz [108,100,105])::((bz [108,100,97])::((bz [115,116,97])::((bz [97,100,105])::((bz [115,98,105])::((bz [97,110,105])::((bz [111,114,105])::((bz [120,114,105])::((bz [99,112,105])::((bz [116,97,120])::((bz [116,120,97])::((bz [105,110,120])::((bz [100,101,120])::((bz [108,97,120])::((bz [115,97,120])::((bz [98,110,101])::((bz [98,101,113])::((bz [98,99,115])::((bz [106,109,112])::((bz [106,115,114])::((bz [114,116,115])::((bz [112,104,97])::((bz [112,108,97])::((bz [114,116,105])::((bz [115,101,105])::((bz [99,108,105])::((bz [115,101,99])::((bz [99,108,99])::((bz [97,100,97])::[])))))))))))))))))))))))))))))),()),())
theorem s216 (y):TE [] Tryz.f216 i216 o216 y=m216 y:=by kernel_rfl
noncomputable def r216:F216:=m216
theorem k216:KO (g216 r216):=fk (s216) trivial
abbrev i141:Ts:=[.v (.str)]
abbrev o141:Ts:=[.v (.int .i64)]
abbrev F141:=FT i141 o141
abbrev g141:=mkG 141 i141 o141
abbrev lc141_0:Ts:=[.v (.str), .v (.sl false .s)]
abbrev lb141_0:Ts:=[]
abbrev lv141_0:Ts:=[.v (.int .i64)]
abbrev lr141_0:Ts:=[.v (.int .i64)]
abbrev R141_0:=Option (Sum (PTup lv141_0) (PTup lr141_0)×BTup lb141_0)
abbrev B141_0:=PTup lb141_0→PTup lv141_0→R141_0
abbrev A141_0:=PTup lc141_0→B141_0
noncomputable def w141_0 (c216:F216) (again:B141_0):A141_0:=fun x y z=>bif (ltI z.1 (Zf x.2.1))then (bif (leI 0 z.1)then (bif (ltI z.1 (Zf x.2.1))then (bif ((ByteArray.toList (rdE .s x.2.1 z.1))==(ByteArray.toList x.1))then (some ((Sum.inr z),()))else again () ((wI (z.1+1)),()))else none)else none)else some ((Sum.inl z),())
noncomputable def e141_0 (l:A141_0):ZJ:=⟨[0,3],lc141_0,[],lb141_0,[4],lv141_0,[2],lr141_0,0,[],l⟩
noncomputable def m141 (c216:F216) (l0:A141_0):F141:=fun y=>(c216 ()).bind fun r0=>(l0 (y.1,r0.1) () ((0:Int),())).bind fun r1=>ZE r1.1 (fun r2=>some (((-(1:Int)),()),())) (fun r2=>some (r2,()))
noncomputable def E141 (c216:F216) (l0:A141_0):ZH:=⟨⟨Tryz.prog,Z6 [g216 c216]⟩,Qg [(3,e141_0 l0)]⟩
theorem t141_0 (c216:F216) (l0:A141_0) (again) (x y z):ZX (E141 c216 l0) (Zk (Zm Tryz.f141) 0) (e141_0 l0) Tryz.f141.ntmps again x y z=w141_0 c216 again x y z:=by kernel_rfl
noncomputable def n141_0 (c216:F216):Nat→A141_0
  |0,_,_,_=>none
  |n+1,x,y,z=>w141_0 c216 (fun y z=>n141_0 c216 n x y z) x y z
theorem s141 (c216:F216) (l0:A141_0) (y):Z8 (E141 c216 l0) Tryz.f141 i141 o141 y=m141 c216 l0 y:=by kernel_rfl
noncomputable def L141_0:A141_0:=n141_0 r216 fuel
noncomputable def r141:F141:=m141 r216 L141_0
theorem k141:KO (g141 r141):=by
  have hE: ∀g f,(E141 r216 L141_0).env.fns g=some f→Zy Tryz.prog g f:=Qf ⟨k216,⟨⟩⟩;have h0:ZP Tryz.prog Tryz.f141.ntmps (Zk (Zm Tryz.f141) 0) (e141_0 L141_0):=Z0 (E:=E141 r216 L141_0) rfl hE mixed (Zt.of_list (l:=[]) (by kernel_rfl) trivial) (n141_0 r216) (fun _ _ _=>rfl) (fun n x y z=>t141_0 r216 L141_0 _ x y z) rfl;exact Qk (E:=E141 r216 L141_0) rfl hE mixed (by kernel_rfl) (by kernel_rfl) (Zt.of_list (l:=[(Zk (Zm Tryz.f141) 0)]) (by kernel_rfl) (.one (by kernel_rfl) h0 trivial)) (s141 r216 L141_0)
abbrev i142:Ts:=[.v (.int .i64)]
abbrev o142:Ts:=[.v (.int .i64)]
abbrev F142:=FT i142 o142
abbrev g142:=mkG 142 i142 o142
noncomputable def m142 (c41:F41):F142:=fun y=>(c41 (y.1,((0:Int),((29:Int),())))).bind fun r0=>bif (!r0.1.1)then (some (((1:Int),()),()))else bif (leI 0 y.1)then (bif (ltI y.1 (Zf ((1:Int)::((2:Int)::((3:Int)::((3:Int)::((2:Int)::((2:Int)::((2:Int)::((2:Int)::((2:Int)::((2:Int)::((1:Int)::((1:Int)::((1:Int)::((1:Int)::((3:Int)::((3:Int)::((3:Int)::((3:Int)::((3:Int)::((3:Int)::((3:Int)::((1:Int)::((1:Int)::((1:Int)::((1:Int)::((1:Int)::((1:Int)::((1:Int)::((1:Int)::((3:Int)::[]))))))))))))))))))))))))))))))))then (some (((rdE .i ((1:Int)::((2:Int)::((3:Int)::((3:Int)::((2:Int)::((2:Int)::((2:Int)::((2:Int)::((2:Int)::((2:Int)::((1:Int)::((1:Int)::((1:Int)::((1:Int)::((3:Int)::((3:Int)::((3:Int)::((3:Int)::((3:Int)::((3:Int)::((3:Int)::((1:Int)::((1:Int)::((1:Int)::((1:Int)::((1:Int)::((1:Int)::((1:Int)::((1:Int)::((3:Int)::[])))))))))))))))))))))))))))))) y.1),()),()))else none)else none
theorem s142 (c41:F41) (y):TE [g41 c41] Tryz.f142 i142 o142 y=m142 c41 y:=by kernel_rfl
noncomputable def r142:F142:=m142 r41
theorem k142:KO (g142 r142):=fk (s142 r41) ⟨k41,⟨⟩⟩
abbrev i80:Ts:=[.v (.int .i64)]
abbrev o80:Ts:=[.v (.int .i64)]
abbrev F80:=FT i80 o80
abbrev g80:=mkG 80 i80 o80
noncomputable def m80:F80:=fun y=>some (((ZL Go.IntKind.i64 y.1 (255:Int)),()),())
theorem s80 (y):TE [] Tryz.f80 i80 o80 y=m80 y:=by kernel_rfl
noncomputable def r80:F80:=m80
theorem k80:KO (g80 r80):=fk (s80) trivial
abbrev i79:Ts:=[.v (.str)]
abbrev o79:Ts:=[.v (.sl true .i), .v (.int .i64), .v (.bool)]
abbrev R79:=Option (PTup o79×BTup i79)
abbrev F79:=PTup i79→R79
abbrev g79:=mkG 79 i79 o79
noncomputable def m79 (c80:F80) (c142:F142) (c141:F141) (c41:F41) (c40:F40):F79:=fun y=>(c40 y).bind fun r0=>let X0:R79:=(c41 (r0.1.2.1,((0:Int),((255:Int),())))).bind fun r1=>bif (!r1.1.1)then (some (([],((-1),(false,()))),()))else bif ((ByteArray.toList r0.1.1)==(ByteArray.toList (bz [97,116])))then (some (([],(r0.1.2.1,(true,()))),()))else some (((r0.1.2.1::[]),((-1),(true,()))),());bif (!r0.1.2.2.1)then (some (([],((-1),(false,()))),()))else bif ((ByteArray.toList r0.1.1)==(ByteArray.toList (bz [97,116])))then X0 else bif ((ByteArray.toList r0.1.1)==(ByteArray.toList (bz [98,121,116,101])))then X0 else (c141 (r0.1.1,())).bind fun r1=>bif (ltI r1.1.1 0)then (some (([],((-1),(false,()))),()))else (c142 r1.1).bind fun r2=>bif (eqI r2.1.1 1)then (some (((r1.1.1::[]),((-1),((ltI r0.1.2.1 0),()))),()))else bif (eqI r2.1.1 2)then ((c80 (r0.1.2.1,())).bind fun r3=>(c41 (r0.1.2.1,((0:Int),((255:Int),())))).bind fun r4=>some (((r1.1.1::(r3.1.1::[])),((-1),r4.1)),()))else (c80 (r0.1.2.1,())).bind fun r3=>(c80 ((Int.fdiv r0.1.2.1 ((2:Int)^(Min.min (Int.toNat (8:Int)) (64:Nat)))),())).bind fun r4=>(c41 (r0.1.2.1,((0:Int),((65535:Int),())))).bind fun r5=>some (((r1.1.1::(r3.1.1::(r4.1.1::[]))),((-1),r5.1)),())
theorem s79 (c80:F80) (c142:F142) (c141:F141) (c41:F41) (c40:F40) (y):TE [g80 c80,g142 c142,g141 c141,g41 c41,g40 c40] Tryz.f79 i79 o79 y=m79 c80 c142 c141 c41 c40 y:=by kernel_rfl
noncomputable def r79:F79:=m79 r80 r142 r141 r41 r40
theorem k79:KO (g79 r79):=fk (s79 r80 r142 r141 r41 r40) ⟨k80,k142,k141,k41,k40,⟨⟩⟩
abbrev i33:Ts:=[.v (.str)]
abbrev o33:Ts:=[.v (.sl true .i), .v (.int .i64)]
abbrev R33:=Option (PTup o33×BTup i33)
abbrev F33:=PTup i33→R33
abbrev g33:=mkG 33 i33 o33
abbrev lc33_0:Ts:=[.v (.sl false .i)]
abbrev lb33_0:Ts:=[]
abbrev lv33_0:Ts:=[.v (.int .i64), .v (.int .i64), .v (.sl true .i)]
abbrev lr33_0:Ts:=[]
abbrev R33_0:=Option (Sum (PTup lv33_0) (PTup lr33_0)×BTup lb33_0)
abbrev B33_0:=PTup lb33_0→PTup lv33_0→R33_0
abbrev A33_0:=PTup lc33_0→B33_0
noncomputable def w33_0 (c80:F80) (c79:F79) (again:B33_0):A33_0:=fun x y z=>bif (ltI z.2.1 (Zf x.1))then ((c80 (z.1,())).bind fun r0=>bif (leI 0 z.2.1)then (bif (ltI z.2.1 (Zf x.1))then (bif (leI 0 r0.1.1)then (bif (ltI r0.1.1 (Zf z.2.2.1))then (again () ((wI (z.1+1)),((wI (z.2.1+1)),((List.set z.2.2.1 (Int.toNat r0.1.1) (rdE .i x.1 z.2.1)),()))))else none)else none)else none)else none)else some ((Sum.inl z),())
noncomputable def e33_0 (l:A33_0):ZJ:=⟨[10],lc33_0,[],lb33_0,[5,13,4],lv33_0,[],lr33_0,2,[],l⟩
abbrev lc33_1:Ts:=[.v (.str)]
abbrev lb33_1:Ts:=[]
abbrev lv33_1:Ts:=[.v (.int .i64), .v (.int .i64), .v (.int .i64), .v (.int .i64), .v (.sl true .i)]
abbrev lr33_1:Ts:=[.v (.sl true .i), .v (.int .i64)]
abbrev R33_1:=Option (Sum (PTup lv33_1) (PTup lr33_1)×BTup lb33_1)
abbrev B33_1:=PTup lb33_1→PTup lv33_1→R33_1
abbrev A33_1:=PTup lc33_1→B33_1
noncomputable def w33_1 (c80:F80) (c79:F79) (l0:A33_0) (again:B33_1):A33_1:=fun x y z=>let X0:R33_1:=bif (leI 0 z.2.2.2.1)then (bif (leI z.2.2.2.1 ((((ByteArray.size x.1):Nat)):Int))then (bif (leI 0 z.2.1)then (bif (leI z.2.1 z.2.2.2.1)then (bif ((ByteArray.toList (ByteArray.extract x.1 (Int.toNat z.2.1) (Int.toNat z.2.2.2.1)))==(ByteArray.toList (bz [])))then (again () (z.1,((wI (z.2.2.2.1+1)),((wI (z.2.2.1+1)),((wI (z.2.2.2.1+1)),z.2.2.2.2)))))else (c79 ((ByteArray.extract x.1 (Int.toNat z.2.1) (Int.toNat z.2.2.2.1)),())).bind fun r0=>bif (!r0.1.2.2.1)then (some ((Sum.inr ([],((wI (z.2.2.1+1)),()))),()))else bif (leI 0 r0.1.2.1)then ((l0 (r0.1.1,()) () (r0.1.2.1,((0:Int),z.2.2.2.2))).bind fun r1=>ZE r1.1 (fun r2=>again () (r2.1,((wI (z.2.2.2.1+1)),((wI (z.2.2.1+1)),((wI (z.2.2.2.1+1)),r2.2.2))))) (fun r2=>none))else (l0 (r0.1.1,()) () (z.1,((0:Int),z.2.2.2.2))).bind fun r1=>ZE r1.1 (fun r2=>again () (r2.1,((wI (z.2.2.2.1+1)),((wI (z.2.2.1+1)),((wI (z.2.2.2.1+1)),r2.2.2))))) (fun r2=>none))else none)else none)else none)else none;let X1:R33_1:=bif (eqI z.2.2.2.1 ((((ByteArray.size x.1):Nat)):Int))then (bif (eqI z.2.1 ((((ByteArray.size x.1):Nat)):Int))then (again () (z.1,(z.2.1,(z.2.2.1,((wI (z.2.2.2.1+1)),z.2.2.2.2)))))else X0)else X0;bif (leI z.2.2.2.1 ((((ByteArray.size x.1):Nat)):Int))then (bif (ltI z.2.2.2.1 ((((ByteArray.size x.1):Nat)):Int))then (bif (leI 0 z.2.2.2.1)then (bif (ltI z.2.2.2.1 ((((ByteArray.size x.1):Nat)):Int))then (bif (neI (bt x.1 z.2.2.2.1) 10)then (again () (z.1,(z.2.1,(z.2.2.1,((wI (z.2.2.2.1+1)),z.2.2.2.2)))))else X1)else none)else none)else X1)else some ((Sum.inl z),())
noncomputable def e33_1 (l:A33_1):ZJ:=⟨[0],lc33_1,[],lb33_1,[5,6,7,8,4],lv33_1,[2,3],lr33_1,0,[],l⟩
noncomputable def m33 (c80:F80) (c79:F79) (l0:A33_0) (l1:A33_1):F33:=fun y=>bif (ltI 3000 ((((ByteArray.size y.1):Nat)):Int))then (some (([],((-(1:Int)),())),()))else (l1 y () ((0:Int),((0:Int),((0:Int),((0:Int),((List.replicate (Int.toNat (256:Int)) (0:Int)),())))))).bind fun r0=>ZE r0.1 (fun r1=>some ((r1.2.2.2.2.1,((0:Int),())),())) (fun r1=>some (r1,()))
noncomputable def E33 (c80:F80) (c79:F79) (l0:A33_0) (l1:A33_1):ZH:=⟨⟨Tryz.prog,Z6 [g80 c80,g79 c79]⟩,Qg [(19,e33_0 l0),(6,e33_1 l1)]⟩
theorem t33_0 (c80:F80) (c79:F79) (l0:A33_0) (l1:A33_1) (again) (x y z):ZX (E33 c80 c79 l0 l1) (Zk (Zk (Zm Tryz.f33) 0) 0) (e33_0 l0) Tryz.f33.ntmps again x y z=w33_0 c80 c79 again x y z:=by kernel_rfl
noncomputable def n33_0 (c80:F80) (c79:F79):Nat→A33_0
  |0,_,_,_=>none
  |n+1,x,y,z=>w33_0 c80 c79 (fun y z=>n33_0 c80 c79 n x y z) x y z
theorem t33_1 (c80:F80) (c79:F79) (l0:A33_0) (l1:A33_1) (again) (x y z):ZX (E33 c80 c79 l0 l1) (Zk (Zm Tryz.f33) 0) (e33_1 l1) Tryz.f33.ntmps again x y z=w33_1 c80 c79 l0 again x y z:=by kernel_rfl
noncomputable def n33_1 (c80:F80) (c79:F79) (l0:A33_0):Nat→A33_1
  |0,_,_,_=>none
  |n+1,x,y,z=>w33_1 c80 c79 l0 (fun y z=>n33_1 c80 c79 l0 n x y z) x y z
theorem s33 (c80:F80) (c79:F79) (l0:A33_0) (l1:A33_1) (y):Z8 (E33 c80 c79 l0 l1) Tryz.f33 i33 o33 y=m33 c80 c79 l0 l1 y:=by kernel_rfl
noncomputable def L33_0:A33_0:=n33_0 r80 r79 fuel
noncomputable def L33_1:A33_1:=n33_1 r80 r79 L33_0 fuel
noncomputable def r33:F33:=m33 r80 r79 L33_0 L33_1
theorem k33:KO (g33 r33):=by
  have hE: ∀g f,(E33 r80 r79 L33_0 L33_1).env.fns g=some f→Zy Tryz.prog g f:=Qf ⟨k80,k79,⟨⟩⟩;have h0:ZP Tryz.prog Tryz.f33.ntmps (Zk (Zk (Zm Tryz.f33) 0) 0) (e33_0 L33_0):=Z0 (E:=E33 r80 r79 L33_0 L33_1) rfl hE mixed (Zt.of_list (l:=[]) (by kernel_rfl) trivial) (n33_0 r80 r79) (fun _ _ _=>rfl) (fun n x y z=>t33_0 r80 r79 L33_0 L33_1 _ x y z) rfl;have h1:ZP Tryz.prog Tryz.f33.ntmps (Zk (Zm Tryz.f33) 0) (e33_1 L33_1):=Z0 (E:=E33 r80 r79 L33_0 L33_1) rfl hE mixed (Zt.of_list (l:=[(Zk (Zk (Zm Tryz.f33) 0) 0)]) (by kernel_rfl) (.one (by kernel_rfl) h0 trivial)) (n33_1 r80 r79 L33_0) (fun _ _ _=>rfl) (fun n x y z=>t33_1 r80 r79 L33_0 L33_1 _ x y z) rfl;exact Qk (E:=E33 r80 r79 L33_0 L33_1) rfl hE mixed (by kernel_rfl) (by kernel_rfl) (Zt.of_list (l:=[(Zk (Zm Tryz.f33) 0)]) (by kernel_rfl) (.one (by kernel_rfl) h1 trivial)) (s33 r80 r79 L33_0 L33_1)
abbrev i81:Ts:=[.a q0]
abbrev o81:Ts:=[.a [.sl true .n]]
abbrev F81:=FT i81 o81
abbrev g81:=mkG 81 i81 o81
abbrev lc81_0:Ts:=[]
abbrev lb81_0:Ts:=[.p q0, .p [.sl true .n]]
abbrev lv81_0:Ts:=[.v (.int .i64)]
abbrev lr81_0:Ts:=[]
abbrev R81_0:=Option (Sum (PTup lv81_0) (PTup lr81_0)×BTup lb81_0)
abbrev B81_0:=PTup lb81_0→PTup lv81_0→R81_0
abbrev A81_0:=PTup lc81_0→B81_0
noncomputable def w81_0 (again:B81_0):A81_0:=fun x y z=>bif (ltI z.1 (Zf y.1.1))then (bif (leI 0 z.1)then (bif (ltI z.1 (Zf y.1.1))then (bif (leN (0+(List.length (rdE .n y.1.1 z.1))) (E.most .i))then (bif (leN ((List.length y.2.1.1)+(List.length (([]++(rdE .n y.1.1 z.1))::[]))) (E.most .n))then (again (y.1,(((y.2.1.1++(([]++(rdE .n y.1.1 z.1))::[])),()),())) ((wI (z.1+1)),()))else none)else none)else none)else none)else some ((Sum.inl z),(y.1,(y.2.1,())))
noncomputable def e81_0 (l:A81_0):ZJ:=⟨[],lc81_0,[1,3],lb81_0,[4],lv81_0,[],lr81_0,0,[],l⟩
noncomputable def m81 (l0:A81_0):F81:=fun y=>(l0 () (y.1,(([],()),())) ((0:Int),())).bind fun r0=>ZE r0.1 (fun r1=>some ((r0.2.2.1,()),())) (fun r1=>some ((([],()),()),()))
noncomputable def E81 (l0:A81_0):ZH:=⟨⟨Tryz.prog,Z6 []⟩,Qg [(3,e81_0 l0)]⟩
theorem t81_0 (l0:A81_0) (again) (x y z):ZX (E81 l0) (Zk (Zm Tryz.f81) 0) (e81_0 l0) Tryz.f81.ntmps again x y z=w81_0 again x y z:=by kernel_rfl
noncomputable def n81_0:Nat→A81_0
  |0,_,_,_=>none
  |n+1,x,y,z=>w81_0 (fun y z=>n81_0 n x y z) x y z
theorem s81 (l0:A81_0) (y):Z8 (E81 l0) Tryz.f81 i81 o81 y=m81 l0 y:=by kernel_rfl
noncomputable def L81_0:A81_0:=n81_0 fuel
noncomputable def r81:F81:=m81 L81_0
theorem k81:KO (g81 r81):=by
  have hE: ∀g f,(E81 L81_0).env.fns g=some f→Zy Tryz.prog g f:=Qf trivial;have h0:ZP Tryz.prog Tryz.f81.ntmps (Zk (Zm Tryz.f81) 0) (e81_0 L81_0):=Z0 (E:=E81 L81_0) rfl hE mixed (Zt.of_list (l:=[]) (by kernel_rfl) trivial) (n81_0) (fun _ _ _=>rfl) (fun n x y z=>t81_0 L81_0 _ x y z) rfl;exact Qk (E:=E81 L81_0) rfl hE mixed (by kernel_rfl) (by kernel_rfl) (Zt.of_list (l:=[(Zk (Zm Tryz.f81) 0)]) (by kernel_rfl) (.one (by kernel_rfl) h0 trivial)) (s81 L81_0)
abbrev i82:Ts:=[]
abbrev o82:Ts:=[.a q1]
abbrev F82:=FT i82 o82
abbrev g82:=mkG 82 i82 o82
noncomputable def m82:F82:=fun y=>some ((((List.replicate (Int.toNat (512:Int)) (0:Int)),((0:Int),())),()),())
theorem s82 (y):TE [] Tryz.f82 i82 o82 y=m82 y:=by kernel_rfl
noncomputable def r82:F82:=m82
theorem k82:KO (g82 r82):=fk (s82) trivial
abbrev i148:Ts:=[.a q0]
abbrev o148:Ts:=[.v (.bool)]
abbrev F148:=FT i148 o148
abbrev g148:=mkG 148 i148 o148
abbrev lc148_0:Ts:=[.v (.int .i64)]
abbrev lb148_0:Ts:=[.p q0]
abbrev lv148_0:Ts:=[.v (.int .i64)]
abbrev lr148_0:Ts:=[.v (.bool)]
abbrev R148_0:=Option (Sum (PTup lv148_0) (PTup lr148_0)×BTup lb148_0)
abbrev B148_0:=PTup lb148_0→PTup lv148_0→R148_0
abbrev A148_0:=PTup lc148_0→B148_0
noncomputable def w148_0 (c41:F41) (again:B148_0):A148_0:=fun x y z=>bif (ltI z.1 256)then (bif (leI 0 x.1)then (bif (ltI x.1 (Zf y.1.1))then (bif (leI 0 z.1)then (bif (ltI z.1 (Zf (rdE .n y.1.1 x.1)))then ((c41 ((rdI (rdE .n y.1.1 x.1) z.1),((0:Int),((255:Int),())))).bind fun r0=>bif (!r0.1.1)then (some ((Sum.inr (false,())),(y.1,())))else again (y.1,()) ((wI (z.1+1)),()))else none)else none)else none)else none)else some ((Sum.inl z),(y.1,()))
noncomputable def e148_0 (l:A148_0):ZJ:=⟨[3],lc148_0,[1],lb148_0,[4],lv148_0,[2],lr148_0,2,[],l⟩
abbrev lc148_1:Ts:=[]
abbrev lb148_1:Ts:=[.p q0]
abbrev lv148_1:Ts:=[.v (.int .i64)]
abbrev lr148_1:Ts:=[.v (.bool)]
abbrev R148_1:=Option (Sum (PTup lv148_1) (PTup lr148_1)×BTup lb148_1)
abbrev B148_1:=PTup lb148_1→PTup lv148_1→R148_1
abbrev A148_1:=PTup lc148_1→B148_1
noncomputable def w148_1 (c41:F41) (l0:A148_0) (again:B148_1):A148_1:=fun x y z=>bif (ltI z.1 (Zf y.1.1))then (bif (leI 0 z.1)then (bif (ltI z.1 (Zf y.1.1))then (bif (neI (Zf (rdE .n y.1.1 z.1)) (256:Int))then (some ((Sum.inr (false,())),(y.1,())))else (l0 z (y.1,()) ((0:Int),())).bind fun r0=>ZE r0.1 (fun r1=>again (y.1,()) ((wI (z.1+1)),())) (fun r1=>some ((Sum.inr r1),(y.1,()))))else none)else none)else some ((Sum.inl z),(y.1,()))
noncomputable def e148_1 (l:A148_1):ZJ:=⟨[],lc148_1,[1],lb148_1,[3],lv148_1,[2],lr148_1,0,[],l⟩
noncomputable def m148 (c41:F41) (l0:A148_0) (l1:A148_1):F148:=fun y=>(l1 () (y.1,()) ((0:Int),())).bind fun r0=>ZE r0.1 (fun r1=>(c41 ((Zf y.1.1),((1:Int),((8:Int),())))).bind fun r2=>some (r2.1,())) (fun r1=>some (r1,()))
noncomputable def E148 (c41:F41) (l0:A148_0) (l1:A148_1):ZH:=⟨⟨Tryz.prog,Z6 [g41 c41]⟩,Qg [(7,e148_0 l0),(2,e148_1 l1)]⟩
theorem t148_0 (c41:F41) (l0:A148_0) (l1:A148_1) (again) (x y z):ZX (E148 c41 l0 l1) (Zk (Zk (Zm Tryz.f148) 0) 0) (e148_0 l0) Tryz.f148.ntmps again x y z=w148_0 c41 again x y z:=by kernel_rfl
noncomputable def n148_0 (c41:F41):Nat→A148_0
  |0,_,_,_=>none
  |n+1,x,y,z=>w148_0 c41 (fun y z=>n148_0 c41 n x y z) x y z
theorem t148_1 (c41:F41) (l0:A148_0) (l1:A148_1) (again) (x y z):ZX (E148 c41 l0 l1) (Zk (Zm Tryz.f148) 0) (e148_1 l1) Tryz.f148.ntmps again x y z=w148_1 c41 l0 again x y z:=by kernel_rfl
noncomputable def n148_1 (c41:F41) (l0:A148_0):Nat→A148_1
  |0,_,_,_=>none
  |n+1,x,y,z=>w148_1 c41 l0 (fun y z=>n148_1 c41 l0 n x y z) x y z
theorem s148 (c41:F41) (l0:A148_0) (l1:A148_1) (y):Z8 (E148 c41 l0 l1) Tryz.f148 i148 o148 y=m148 c41 l0 l1 y:=by kernel_rfl
noncomputable def L148_0:A148_0:=n148_0 r41 fuel
noncomputable def L148_1:A148_1:=n148_1 r41 L148_0 fuel
noncomputable def r148:F148:=m148 r41 L148_0 L148_1
theorem k148:KO (g148 r148):=by
  have hE: ∀g f,(E148 r41 L148_0 L148_1).env.fns g=some f→Zy Tryz.prog g f:=Qf ⟨k41,⟨⟩⟩;have h0:ZP Tryz.prog Tryz.f148.ntmps (Zk (Zk (Zm Tryz.f148) 0) 0) (e148_0 L148_0):=Z0 (E:=E148 r41 L148_0 L148_1) rfl hE mixed (Zt.of_list (l:=[]) (by kernel_rfl) trivial) (n148_0 r41) (fun _ _ _=>rfl) (fun n x y z=>t148_0 r41 L148_0 L148_1 _ x y z) rfl;have h1:ZP Tryz.prog Tryz.f148.ntmps (Zk (Zm Tryz.f148) 0) (e148_1 L148_1):=Z0 (E:=E148 r41 L148_0 L148_1) rfl hE mixed (Zt.of_list (l:=[(Zk (Zk (Zm Tryz.f148) 0) 0)]) (by kernel_rfl) (.one (by kernel_rfl) h0 trivial)) (n148_1 r41 L148_0) (fun _ _ _=>rfl) (fun n x y z=>t148_1 r41 L148_0 L148_1 _ x y z) rfl;exact Qk (E:=E148 r41 L148_0 L148_1) rfl hE mixed (by kernel_rfl) (by kernel_rfl) (Zt.of_list (l:=[(Zk (Zm Tryz.f148) 0)]) (by kernel_rfl) (.one (by kernel_rfl) h1 trivial)) (s148 r41 L148_0 L148_1)
abbrev i93:Ts:=[.v (.int .i64)]
abbrev o93:Ts:=[.v (.bool)]
abbrev F93:=FT i93 o93
abbrev g93:=mkG 93 i93 o93
noncomputable def m93 (c41:F41):F93:=fun y=>(c41 (y.1,((0:Int),((255:Int),())))).bind fun r0=>some (r0.1,())
theorem s93 (c41:F41) (y):TE [g41 c41] Tryz.f93 i93 o93 y=m93 c41 y:=by kernel_rfl
noncomputable def r93:F93:=m93 r41
theorem k93:KO (g93 r93):=fk (s93 r41) ⟨k41,⟨⟩⟩
abbrev i89:Ts:=[.a q0, .a q2]
abbrev o89:Ts:=[.v (.bool)]
abbrev F89:=FT i89 o89
abbrev g89:=mkG 89 i89 o89
abbrev lc89_0:Ts:=[]
abbrev lb89_0:Ts:=[.p q2]
abbrev lv89_0:Ts:=[.v (.int .i64)]
abbrev lr89_0:Ts:=[.v (.bool)]
abbrev R89_0:=Option (Sum (PTup lv89_0) (PTup lr89_0)×BTup lb89_0)
abbrev B89_0:=PTup lb89_0→PTup lv89_0→R89_0
abbrev A89_0:=PTup lc89_0→B89_0
noncomputable def w89_0 (c148:F148) (c41:F41) (c93:F93) (again:B89_0):A89_0:=fun x y z=>bif (ltI z.1 512)then (bif (leI 0 z.1)then (bif (ltI z.1 (Zf y.1.1))then ((c93 ((rdE .i y.1.1 z.1),())).bind fun r0=>bif (!r0.1.1)then (some ((Sum.inr (false,())),(y.1,())))else again (y.1,()) ((wI (z.1+1)),()))else none)else none)else some ((Sum.inl z),(y.1,()))
noncomputable def e89_0 (l:A89_0):ZJ:=⟨[],lc89_0,[3],lb89_0,[5],lv89_0,[4],lr89_0,0,[],l⟩
noncomputable def m89 (c148:F148) (c41:F41) (c93:F93) (l0:A89_0):F89:=fun y=>(c148 (y.1,())).bind fun r0=>bif (!r0.1.1)then no else bif (neI (Zf y.2.1.1) 512)then no else (c41 (y.2.1.2.1,((0:Int),((wI ((Zf y.1.1)-1)),())))).bind fun r1=>bif (!r1.1.1)then no else (l0 () (y.2.1,()) ((0:Int),())).bind fun r2=>ZE r2.1 (fun r3=>some ((true,()),())) (fun r3=>some (r3,()))
noncomputable def E89 (c148:F148) (c41:F41) (c93:F93) (l0:A89_0):ZH:=⟨⟨Tryz.prog,Z6 [g148 c148,g41 c41,g93 c93]⟩,Qg [(4,e89_0 l0)]⟩
theorem t89_0 (c148:F148) (c41:F41) (c93:F93) (l0:A89_0) (again) (x y z):ZX (E89 c148 c41 c93 l0) (Zk (Zm Tryz.f89) 0) (e89_0 l0) Tryz.f89.ntmps again x y z=w89_0 c148 c41 c93 again x y z:=by kernel_rfl
noncomputable def n89_0 (c148:F148) (c41:F41) (c93:F93):Nat→A89_0
  |0,_,_,_=>none
  |n+1,x,y,z=>w89_0 c148 c41 c93 (fun y z=>n89_0 c148 c41 c93 n x y z) x y z
theorem s89 (c148:F148) (c41:F41) (c93:F93) (l0:A89_0) (y):Z8 (E89 c148 c41 c93 l0) Tryz.f89 i89 o89 y=m89 c148 c41 c93 l0 y:=by kernel_rfl
noncomputable def L89_0:A89_0:=n89_0 r148 r41 r93 fuel
noncomputable def r89:F89:=m89 r148 r41 r93 L89_0
theorem k89:KO (g89 r89):=by
  have hE: ∀g f,(E89 r148 r41 r93 L89_0).env.fns g=some f→Zy Tryz.prog g f:=Qf ⟨k148,k41,k93,⟨⟩⟩;have h0:ZP Tryz.prog Tryz.f89.ntmps (Zk (Zm Tryz.f89) 0) (e89_0 L89_0):=Z0 (E:=E89 r148 r41 r93 L89_0) rfl hE mixed (Zt.of_list (l:=[]) (by kernel_rfl) trivial) (n89_0 r148 r41 r93) (fun _ _ _=>rfl) (fun n x y z=>t89_0 r148 r41 r93 L89_0 _ x y z) rfl;exact Qk (E:=E89 r148 r41 r93 L89_0) rfl hE mixed (by kernel_rfl) (by kernel_rfl) (Zt.of_list (l:=[(Zk (Zm Tryz.f89) 0)]) (by kernel_rfl) (.one (by kernel_rfl) h0 trivial)) (s89 r148 r41 r93 L89_0)
abbrev i222:Ts:=[.v (.int .i64)]
abbrev o222:Ts:=[.v (.int .i64)]
abbrev F222:=FT i222 o222
abbrev g222:=mkG 222 i222 o222
noncomputable def m222:F222:=fun y=>some (((ZL Go.IntKind.i64 y.1 (65535:Int)),()),())
theorem s222 (y):TE [] Tryz.f222 i222 o222 y=m222 y:=by kernel_rfl
noncomputable def r222:F222:=m222
theorem k222:KO (g222 r222):=fk (s222) trivial
abbrev i159:Ts:=[.v (.int .i64)]
abbrev o159:Ts:=[.v (.int .i64), .v (.int .i64)]
abbrev F159:=FT i159 o159
abbrev g159:=mkG 159 i159 o159
noncomputable def m159 (c222:F222):F159:=fun y=>(c222 y).bind fun r0=>bif (ltI r0.1.1 8192)then (some (((1:Int),((Int.tmod r0.1.1 512),())),()))else bif (ltI r0.1.1 16384)then (some (((2:Int),((Int.tmod r0.1.1 8),())),()))else bif (ltI r0.1.1 16388)then (some (((3:Int),((Int.tmod r0.1.1 4),())),()))else bif (eqI r0.1.1 16406)then (some (((4:Int),((0:Int),())),()))else bif (ltI r0.1.1 32768)then (some (((7:Int),((0:Int),())),()))else bif (ltI r0.1.1 49152)then (some (((5:Int),((Int.tmod r0.1.1 256),())),()))else some (((6:Int),((Int.tmod r0.1.1 256),())),())
theorem s159 (c222:F222) (y):TE [g222 c222] Tryz.f159 i159 o159 y=m159 c222 y:=by kernel_rfl
noncomputable def r159:F159:=m159 r222
theorem k159:KO (g159 r159):=fk (s159 r222) ⟨k222,⟨⟩⟩
abbrev i217:Ts:=[.a q0, .a q2, .v (.int .i64)]
abbrev o217:Ts:=[.v (.int .i64)]
abbrev F217:=FT i217 o217
abbrev g217:=mkG 217 i217 o217
noncomputable def m217 (c159:F159):F217:=fun y=>(c159 y.2.2).bind fun r0=>bif (eqI r0.1.1 1)then (bif (leI 0 r0.1.2.1)then (bif (ltI r0.1.2.1 (Zf y.2.1.1))then (some (((rdE .i y.2.1.1 r0.1.2.1),()),()))else none)else none)else bif (eqI r0.1.1 5)then (bif (leI 0 y.2.1.2.1)then (bif (ltI y.2.1.2.1 (Zf y.1.1))then (bif (leI 0 r0.1.2.1)then (bif (ltI r0.1.2.1 (Zf (rdE .n y.1.1 y.2.1.2.1)))then (some (((rdI (rdE .n y.1.1 y.2.1.2.1) r0.1.2.1),()),()))else none)else none)else none)else none)else bif (eqI r0.1.1 6)then (bif (leI 0 (wI ((Zf y.1.1)-1)))then (bif (ltI (wI ((Zf y.1.1)-1)) (Zf y.1.1))then (bif (leI 0 r0.1.2.1)then (bif (ltI r0.1.2.1 (Zf (rdE .n y.1.1 (wI ((Zf y.1.1)-1)))))then (some (((rdI (rdE .n y.1.1 (wI ((Zf y.1.1)-1))) r0.1.2.1),()),()))else none)else none)else none)else none)else some (((0:Int),()),())
theorem s217 (c159:F159) (y):TE [g159 c159] Tryz.f217 i217 o217 y=m217 c159 y:=by kernel_rfl
noncomputable def r217:F217:=m217 r159
theorem k217:KO (g217 r217):=fk (s217 r159) ⟨k159,⟨⟩⟩
abbrev i144:Ts:=[.a q0, .a q2, .v (.int .i64)]
abbrev o144:Ts:=[.v (.int .i64)]
abbrev F144:=FT i144 o144
abbrev g144:=mkG 144 i144 o144
noncomputable def m144 (c89:F89) (c217:F217):F144:=fun y=>(c89 (y.1,(y.2.1,()))).bind fun r0=>bif (!r0.1.1)then (some (((0:Int),()),()))else (c217 y).bind fun r1=>some (r1.1,())
theorem s144 (c89:F89) (c217:F217) (y):TE [g89 c89,g217 c217] Tryz.f144 i144 o144 y=m144 c89 c217 y:=by kernel_rfl
noncomputable def r144:F144:=m144 r89 r217
theorem k144:KO (g144 r144):=fk (s144 r89 r217) ⟨k89,k217,⟨⟩⟩
abbrev i143:Ts:=[.v (.int .i64), .v (.int .i64)]
abbrev o143:Ts:=[.v (.int .i64)]
abbrev F143:=FT i143 o143
abbrev g143:=mkG 143 i143 o143
noncomputable def m143 (c80:F80):F143:=fun y=>(c80 (y.1,())).bind fun r0=>(c80 y.2).bind fun r1=>some (((wI (r0.1.1+(wI ((256:Int)*r1.1.1)))),()),())
theorem s143 (c80:F80) (y):TE [g80 c80] Tryz.f143 i143 o143 y=m143 c80 y:=by kernel_rfl
noncomputable def r143:F143:=m143 r80
theorem k143:KO (g143 r143):=fk (s143 r80) ⟨k80,⟨⟩⟩
abbrev i83:Ts:=[.a q0]
abbrev o83:Ts:=[.a q3]
abbrev F83:=FT i83 o83
abbrev g83:=mkG 83 i83 o83
noncomputable def m83 (c143:F143) (c82:F82) (c144:F144):F83:=fun y=>(c82 ()).bind fun r0=>(c144 (y.1,(r0.1.1,((65532:Int),())))).bind fun r1=>(c144 (y.1,(r0.1.1,((65533:Int),())))).bind fun r2=>(c143 (r1.1.1,r2.1)).bind fun r3=>some ((((0:Int),((0:Int),((255:Int),(r3.1.1,(false,(false,(false,(true,())))))))),()),())
theorem s83 (c143:F143) (c82:F82) (c144:F144) (y):TE [g143 c143,g82 c82,g144 c144] Tryz.f83 i83 o83 y=m83 c143 c82 c144 y:=by kernel_rfl
noncomputable def r83:F83:=m83 r143 r82 r144
theorem k83:KO (g83 r83):=fk (s83 r143 r82 r144) ⟨k143,k82,k144,⟨⟩⟩
abbrev i84:Ts:=[]
abbrev o84:Ts:=[.a q4]
abbrev F84:=FT i84 o84
abbrev g84:=mkG 84 i84 o84
noncomputable def m84:F84:=fun y=>some ((((0:Int),((0:Int),((0:Int),((0:Int),((0:Int),(false,((List.replicate (Int.toNat (16:Int)) (0:Int)),([],())))))))),()),())
theorem s84 (y):TE [] Tryz.f84 i84 o84 y=m84 y:=by kernel_rfl
noncomputable def r84:F84:=m84
theorem k84:KO (g84 r84):=fk (s84) trivial
abbrev i88:Ts:=[.v (.sl false .i)]
abbrev o88:Ts:=[.v (.bool)]
abbrev F88:=FT i88 o88
abbrev g88:=mkG 88 i88 o88
abbrev lc88_0:Ts:=[.v (.sl false .i)]
abbrev lb88_0:Ts:=[]
abbrev lv88_0:Ts:=[.v (.int .i64)]
abbrev lr88_0:Ts:=[.v (.bool)]
abbrev R88_0:=Option (Sum (PTup lv88_0) (PTup lr88_0)×BTup lb88_0)
abbrev B88_0:=PTup lb88_0→PTup lv88_0→R88_0
abbrev A88_0:=PTup lc88_0→B88_0
noncomputable def w88_0 (c93:F93) (again:B88_0):A88_0:=fun x y z=>bif (ltI z.1 (Zf x.1))then (bif (leI 0 z.1)then (bif (ltI z.1 (Zf x.1))then ((c93 ((rdE .i x.1 z.1),())).bind fun r0=>bif (!r0.1.1)then (some ((Sum.inr (false,())),()))else again () ((wI (z.1+1)),()))else none)else none)else some ((Sum.inl z),())
noncomputable def e88_0 (l:A88_0):ZJ:=⟨[0],lc88_0,[],lb88_0,[3],lv88_0,[2],lr88_0,0,[],l⟩
noncomputable def m88 (c93:F93) (l0:A88_0):F88:=fun y=>(l0 y () ((0:Int),())).bind fun r0=>ZE r0.1 (fun r1=>some (((leI (Zf y.1) 20),()),())) (fun r1=>some (r1,()))
noncomputable def E88 (c93:F93) (l0:A88_0):ZH:=⟨⟨Tryz.prog,Z6 [g93 c93]⟩,Qg [(2,e88_0 l0)]⟩
theorem t88_0 (c93:F93) (l0:A88_0) (again) (x y z):ZX (E88 c93 l0) (Zk (Zm Tryz.f88) 0) (e88_0 l0) Tryz.f88.ntmps again x y z=w88_0 c93 again x y z:=by kernel_rfl
noncomputable def n88_0 (c93:F93):Nat→A88_0
  |0,_,_,_=>none
  |n+1,x,y,z=>w88_0 c93 (fun y z=>n88_0 c93 n x y z) x y z
theorem s88 (c93:F93) (l0:A88_0) (y):Z8 (E88 c93 l0) Tryz.f88 i88 o88 y=m88 c93 l0 y:=by kernel_rfl
noncomputable def L88_0:A88_0:=n88_0 r93 fuel
noncomputable def r88:F88:=m88 r93 L88_0
theorem k88:KO (g88 r88):=by
  have hE: ∀g f,(E88 r93 L88_0).env.fns g=some f→Zy Tryz.prog g f:=Qf ⟨k93,⟨⟩⟩;have h0:ZP Tryz.prog Tryz.f88.ntmps (Zk (Zm Tryz.f88) 0) (e88_0 L88_0):=Z0 (E:=E88 r93 L88_0) rfl hE mixed (Zt.of_list (l:=[]) (by kernel_rfl) trivial) (n88_0 r93) (fun _ _ _=>rfl) (fun n x y z=>t88_0 r93 L88_0 _ x y z) rfl;exact Qk (E:=E88 r93 L88_0) rfl hE mixed (by kernel_rfl) (by kernel_rfl) (Zt.of_list (l:=[(Zk (Zm Tryz.f88) 0)]) (by kernel_rfl) (.one (by kernel_rfl) h0 trivial)) (s88 r93 L88_0)
abbrev i90:Ts:=[.a q3]
abbrev o90:Ts:=[.v (.bool)]
abbrev F90:=FT i90 o90
abbrev g90:=mkG 90 i90 o90
noncomputable def m90 (c41:F41) (c93:F93):F90:=fun y=>(c93 (y.1.1,())).bind fun r0=>bif r0.1.1 then ((c93 (y.1.2.1,())).bind fun r1=>bif r1.1.1 then ((c93 (y.1.2.2.1,())).bind fun r2=>bif r2.1.1 then ((c41 (y.1.2.2.2.1,((0:Int),((65535:Int),())))).bind fun r3=>some (r3.1,()))else no)else no)else no
theorem s90 (c41:F41) (c93:F93) (y):TE [g41 c41,g93 c93] Tryz.f90 i90 o90 y=m90 c41 c93 y:=by kernel_rfl
noncomputable def r90:F90:=m90 r41 r93
theorem k90:KO (g90 r90):=fk (s90 r41 r93) ⟨k41,k93,⟨⟩⟩
abbrev i218:Ts:=[.v (.int .i64)]
abbrev o218:Ts:=[.v (.int .i64)]
abbrev F218:=FT i218 o218
abbrev g218:=mkG 218 i218 o218
noncomputable def m218:F218:=fun y=>bif (ltI 48 (Int.tmod y.1 64))then (some (((0:Int),()),()))else some (((Int.tmod y.1 64),()),())
theorem s218 (y):TE [] Tryz.f218 i218 o218 y=m218 y:=by kernel_rfl
noncomputable def r218:F218:=m218
theorem k218:KO (g218 r218):=fk (s218) trivial
abbrev i149:Ts:=[.a q5]
abbrev o149:Ts:=[.v (.bool)]
abbrev F149:=FT i149 o149
abbrev g149:=mkG 149 i149 o149
abbrev lc149_0:Ts:=[]
abbrev lb149_0:Ts:=[.p q5]
abbrev lv149_0:Ts:=[.v (.int .i64)]
abbrev lr149_0:Ts:=[.v (.bool)]
abbrev R149_0:=Option (Sum (PTup lv149_0) (PTup lr149_0)×BTup lb149_0)
abbrev B149_0:=PTup lb149_0→PTup lv149_0→R149_0
abbrev A149_0:=PTup lc149_0→B149_0
noncomputable def w149_0 (c41:F41) (c93:F93) (c218:F218) (again:B149_0):A149_0:=fun x y z=>bif (ltI z.1 (Zf y.1.2.2.2.2.2.2.2.1))then (bif (leI 0 z.1)then (bif (ltI z.1 (Zf y.1.2.2.2.2.2.2.2.1))then ((c41 ((rdE .i y.1.2.2.2.2.2.2.2.1 z.1),((0:Int),((63:Int),())))).bind fun r0=>bif (!r0.1.1)then (some ((Sum.inr (false,())),(y.1,())))else again (y.1,()) ((wI (z.1+1)),()))else none)else none)else some ((Sum.inl z),(y.1,()))
noncomputable def e149_0 (l:A149_0):ZJ:=⟨[],lc149_0,[1],lb149_0,[4],lv149_0,[2],lr149_0,2,[],l⟩
abbrev lc149_1:Ts:=[]
abbrev lb149_1:Ts:=[.p q5]
abbrev lv149_1:Ts:=[.v (.int .i64)]
abbrev lr149_1:Ts:=[.v (.bool)]
abbrev R149_1:=Option (Sum (PTup lv149_1) (PTup lr149_1)×BTup lb149_1)
abbrev B149_1:=PTup lb149_1→PTup lv149_1→R149_1
abbrev A149_1:=PTup lc149_1→B149_1
noncomputable def w149_1 (c41:F41) (c93:F93) (c218:F218) (l0:A149_0) (again:B149_1):A149_1:=fun x y z=>bif (ltI z.1 16)then (bif (leI 0 z.1)then (bif (ltI z.1 (Zf y.1.2.2.2.2.2.2.1))then ((c41 ((rdE .i y.1.2.2.2.2.2.2.1 z.1),((0:Int),((63:Int),())))).bind fun r0=>bif (!r0.1.1)then (some ((Sum.inr (false,())),(y.1,())))else again (y.1,()) ((wI (z.1+1)),()))else none)else none)else some ((Sum.inl z),(y.1,()))
noncomputable def e149_1 (l:A149_1):ZJ:=⟨[],lc149_1,[1],lb149_1,[3],lv149_1,[2],lr149_1,0,[],l⟩
noncomputable def m149 (c41:F41) (c93:F93) (c218:F218) (l0:A149_0) (l1:A149_1):F149:=fun y=>(c41 (y.1.1,((0:Int),((20000:Int),())))).bind fun r0=>bif (!r0.1.1)then no else (c93 (y.1.2.1,())).bind fun r1=>bif (!r1.1.1)then no else (c93 (y.1.2.2.1,())).bind fun r2=>bif (!r2.1.1)then no else (c41 (y.1.2.2.2.1,((0:Int),((15:Int),())))).bind fun r3=>bif (!r3.1.1)then no else (c41 (y.1.2.2.2.2.1,((0:Int),((63:Int),())))).bind fun r4=>bif (!r4.1.1)then no else bif (neI (Zf y.1.2.2.2.2.2.2.1) 16)then no else (c218 (y.1.1,())).bind fun r5=>bif (neI (Zf y.1.2.2.2.2.2.2.2.1) r5.1.1)then no else (l1 () (y.1,()) ((0:Int),())).bind fun r6=>ZE r6.1 (fun r7=>(l0 () ((r6.2.1.1,(r6.2.1.2.1,(r6.2.1.2.2.1,(r6.2.1.2.2.2.1,(r6.2.1.2.2.2.2.1,(r6.2.1.2.2.2.2.2.1,y.1.2.2.2.2.2.2)))))),()) ((0:Int),())).bind fun r8=>ZE r8.1 (fun r9=>some ((true,()),())) (fun r9=>some (r9,()))) (fun r7=>some (r7,()))
noncomputable def E149 (c41:F41) (c93:F93) (c218:F218) (l0:A149_0) (l1:A149_1):ZH:=⟨⟨Tryz.prog,Z6 [g41 c41,g93 c93,g218 c218]⟩,Qg [(9,e149_0 l0),(4,e149_1 l1)]⟩
theorem t149_0 (c41:F41) (c93:F93) (c218:F218) (l0:A149_0) (l1:A149_1) (again) (x y z):ZX (E149 c41 c93 c218 l0 l1) (Zk (Zm Tryz.f149) 1) (e149_0 l0) Tryz.f149.ntmps again x y z=w149_0 c41 c93 c218 again x y z:=by kernel_rfl
noncomputable def n149_0 (c41:F41) (c93:F93) (c218:F218):Nat→A149_0
  |0,_,_,_=>none
  |n+1,x,y,z=>w149_0 c41 c93 c218 (fun y z=>n149_0 c41 c93 c218 n x y z) x y z
theorem t149_1 (c41:F41) (c93:F93) (c218:F218) (l0:A149_0) (l1:A149_1) (again) (x y z):ZX (E149 c41 c93 c218 l0 l1) (Zk (Zm Tryz.f149) 0) (e149_1 l1) Tryz.f149.ntmps again x y z=w149_1 c41 c93 c218 l0 again x y z:=by kernel_rfl
noncomputable def n149_1 (c41:F41) (c93:F93) (c218:F218) (l0:A149_0):Nat→A149_1
  |0,_,_,_=>none
  |n+1,x,y,z=>w149_1 c41 c93 c218 l0 (fun y z=>n149_1 c41 c93 c218 l0 n x y z) x y z
theorem s149 (c41:F41) (c93:F93) (c218:F218) (l0:A149_0) (l1:A149_1) (y):Z8 (E149 c41 c93 c218 l0 l1) Tryz.f149 i149 o149 y=m149 c41 c93 c218 l0 l1 y:=by kernel_rfl
noncomputable def L149_0:A149_0:=n149_0 r41 r93 r218 fuel
noncomputable def L149_1:A149_1:=n149_1 r41 r93 r218 L149_0 fuel
noncomputable def r149:F149:=m149 r41 r93 r218 L149_0 L149_1
theorem k149:KO (g149 r149):=by
  have hE: ∀g f,(E149 r41 r93 r218 L149_0 L149_1).env.fns g=some f→Zy Tryz.prog g f:=Qf ⟨k41,k93,k218,⟨⟩⟩;have h0:ZP Tryz.prog Tryz.f149.ntmps (Zk (Zm Tryz.f149) 1) (e149_0 L149_0):=Z0 (E:=E149 r41 r93 r218 L149_0 L149_1) rfl hE mixed (Zt.of_list (l:=[]) (by kernel_rfl) trivial) (n149_0 r41 r93 r218) (fun _ _ _=>rfl) (fun n x y z=>t149_0 r41 r93 r218 L149_0 L149_1 _ x y z) rfl;have h1:ZP Tryz.prog Tryz.f149.ntmps (Zk (Zm Tryz.f149) 0) (e149_1 L149_1):=Z0 (E:=E149 r41 r93 r218 L149_0 L149_1) rfl hE mixed (Zt.of_list (l:=[]) (by kernel_rfl) trivial) (n149_1 r41 r93 r218 L149_0) (fun _ _ _=>rfl) (fun n x y z=>t149_1 r41 r93 r218 L149_0 L149_1 _ x y z) rfl;exact Qk (E:=E149 r41 r93 r218 L149_0 L149_1) rfl hE mixed (by kernel_rfl) (by kernel_rfl) (Zt.of_list (l:=[(Zk (Zm Tryz.f149) 0),(Zk (Zm Tryz.f149) 1)]) (by kernel_rfl) (.one (by kernel_rfl) h1 (.one (by kernel_rfl) h0 trivial))) (s149 r41 r93 r218 L149_0 L149_1)
abbrev i150:Ts:=[.a q6]
abbrev o150:Ts:=[.v (.bool)]
abbrev F150:=FT i150 o150
abbrev g150:=mkG 150 i150 o150
abbrev lc150_0:Ts:=[]
abbrev lb150_0:Ts:=[.p q6]
abbrev lv150_0:Ts:=[.v (.int .i64)]
abbrev lr150_0:Ts:=[.v (.bool)]
abbrev R150_0:=Option (Sum (PTup lv150_0) (PTup lr150_0)×BTup lb150_0)
abbrev B150_0:=PTup lb150_0→PTup lv150_0→R150_0
abbrev A150_0:=PTup lc150_0→B150_0
noncomputable def w150_0 (c41:F41) (c93:F93) (again:B150_0):A150_0:=fun x y z=>bif (ltI z.1 (Zf y.1.2.1))then (bif (leI 0 z.1)then (bif (ltI z.1 (Zf y.1.2.1))then ((c41 ((rdE .t y.1.2.1 z.1).1,((0:Int),((20000:Int),())))).bind fun r0=>bif (!r0.1.1)then (some ((Sum.inr (false,())),(y.1,())))else (c41 ((rdE .t y.1.2.1 z.1).2.1,((0:Int),((7:Int),())))).bind fun r1=>bif (!r1.1.1)then (some ((Sum.inr (false,())),(y.1,())))else (c93 ((rdE .t y.1.2.1 z.1).2.2,())).bind fun r2=>bif (!r2.1.1)then (some ((Sum.inr (false,())),(y.1,())))else bif (ltI 0 z.1)then (bif (leI 0 (wI (z.1-1)))then (bif (ltI (wI (z.1-1)) (Zf y.1.2.1))then (bif (ltI (rdE .t y.1.2.1 z.1).1 (rdE .t y.1.2.1 (wI (z.1-1))).1)then (some ((Sum.inr (false,())),(y.1,())))else again (y.1,()) ((wI (z.1+1)),()))else none)else none)else again (y.1,()) ((wI (z.1+1)),()))else none)else none)else some ((Sum.inl z),(y.1,()))
noncomputable def e150_0 (l:A150_0):ZJ:=⟨[],lc150_0,[1],lb150_0,[3],lv150_0,[2],lr150_0,0,[],l⟩
noncomputable def m150 (c41:F41) (c93:F93) (l0:A150_0):F150:=fun y=>(l0 () (y.1,()) ((0:Int),())).bind fun r0=>ZE r0.1 (fun r1=>(c41 (r0.2.1.1,((1:Int),((16:Int),())))).bind fun r2=>bif r2.1.1 then (some (((leI (Zf y.1.2.1) r0.2.1.1),()),()))else no) (fun r1=>some (r1,()))
noncomputable def E150 (c41:F41) (c93:F93) (l0:A150_0):ZH:=⟨⟨Tryz.prog,Z6 [g41 c41,g93 c93]⟩,Qg [(2,e150_0 l0)]⟩
theorem t150_0 (c41:F41) (c93:F93) (l0:A150_0) (again) (x y z):ZX (E150 c41 c93 l0) (Zk (Zm Tryz.f150) 0) (e150_0 l0) Tryz.f150.ntmps again x y z=w150_0 c41 c93 again x y z:=by kernel_rfl
noncomputable def n150_0 (c41:F41) (c93:F93):Nat→A150_0
  |0,_,_,_=>none
  |n+1,x,y,z=>w150_0 c41 c93 (fun y z=>n150_0 c41 c93 n x y z) x y z
theorem s150 (c41:F41) (c93:F93) (l0:A150_0) (y):Z8 (E150 c41 c93 l0) Tryz.f150 i150 o150 y=m150 c41 c93 l0 y:=by kernel_rfl
noncomputable def L150_0:A150_0:=n150_0 r41 r93 fuel
noncomputable def r150:F150:=m150 r41 r93 L150_0
theorem k150:KO (g150 r150):=by
  have hE: ∀g f,(E150 r41 r93 L150_0).env.fns g=some f→Zy Tryz.prog g f:=Qf ⟨k41,k93,⟨⟩⟩;have h0:ZP Tryz.prog Tryz.f150.ntmps (Zk (Zm Tryz.f150) 0) (e150_0 L150_0):=Z0 (E:=E150 r41 r93 L150_0) rfl hE mixed (Zt.of_list (l:=[]) (by kernel_rfl) trivial) (n150_0 r41 r93) (fun _ _ _=>rfl) (fun n x y z=>t150_0 r41 r93 L150_0 _ x y z) rfl;exact Qk (E:=E150 r41 r93 L150_0) rfl hE mixed (by kernel_rfl) (by kernel_rfl) (Zt.of_list (l:=[(Zk (Zm Tryz.f150) 0)]) (by kernel_rfl) (.one (by kernel_rfl) h0 trivial)) (s150 r41 r93 L150_0)
abbrev i219:Ts:=[.v (.int .i64)]
abbrev o219:Ts:=[.v (.int .i64)]
abbrev F219:=FT i219 o219
abbrev g219:=mkG 219 i219 o219
noncomputable def m219:F219:=fun y=>some (((wI (Int.tdiv (wI ((wI ((wI (y.1+64))-48))-1)) (64:Int))),()),())
theorem s219 (y):TE [] Tryz.f219 i219 o219 y=m219 y:=by kernel_rfl
noncomputable def r219:F219:=m219
theorem k219:KO (g219 r219):=fk (s219) trivial
abbrev i151:Ts:=[.v (.sl false .n), .v (.int .i64)]
abbrev o151:Ts:=[.v (.bool)]
abbrev F151:=FT i151 o151
abbrev g151:=mkG 151 i151 o151
abbrev lc151_0:Ts:=[.v (.sl false .n)]
abbrev lb151_0:Ts:=[]
abbrev lv151_0:Ts:=[.v (.int .i64)]
abbrev lr151_0:Ts:=[.v (.bool)]
abbrev R151_0:=Option (Sum (PTup lv151_0) (PTup lr151_0)×BTup lb151_0)
abbrev B151_0:=PTup lb151_0→PTup lv151_0→R151_0
abbrev A151_0:=PTup lc151_0→B151_0
noncomputable def w151_0 (c219:F219) (again:B151_0):A151_0:=fun x y z=>bif (ltI z.1 (Zf x.1))then (bif (leI 0 z.1)then (bif (ltI z.1 (Zf x.1))then (bif (neI (Zf (rdE .n x.1 z.1)) (48:Int))then (some ((Sum.inr (false,())),()))else again () ((wI (z.1+1)),()))else none)else none)else some ((Sum.inl z),())
noncomputable def e151_0 (l:A151_0):ZJ:=⟨[0],lc151_0,[],lb151_0,[5],lv151_0,[4],lr151_0,0,[],l⟩
noncomputable def m151 (c219:F219) (l0:A151_0):F151:=fun y=>(l0 (y.1,()) () ((0:Int),())).bind fun r0=>ZE r0.1 (fun r1=>(c219 y.2).bind fun r2=>some (((eqI (Zf y.1) r2.1.1),()),())) (fun r1=>some (r1,()))
noncomputable def E151 (c219:F219) (l0:A151_0):ZH:=⟨⟨Tryz.prog,Z6 [g219 c219]⟩,Qg [(2,e151_0 l0)]⟩
theorem t151_0 (c219:F219) (l0:A151_0) (again) (x y z):ZX (E151 c219 l0) (Zk (Zm Tryz.f151) 0) (e151_0 l0) Tryz.f151.ntmps again x y z=w151_0 c219 again x y z:=by kernel_rfl
noncomputable def n151_0 (c219:F219):Nat→A151_0
  |0,_,_,_=>none
  |n+1,x,y,z=>w151_0 c219 (fun y z=>n151_0 c219 n x y z) x y z
theorem s151 (c219:F219) (l0:A151_0) (y):Z8 (E151 c219 l0) Tryz.f151 i151 o151 y=m151 c219 l0 y:=by kernel_rfl
noncomputable def L151_0:A151_0:=n151_0 r219 fuel
noncomputable def r151:F151:=m151 r219 L151_0
theorem k151:KO (g151 r151):=by
  have hE: ∀g f,(E151 r219 L151_0).env.fns g=some f→Zy Tryz.prog g f:=Qf ⟨k219,⟨⟩⟩;have h0:ZP Tryz.prog Tryz.f151.ntmps (Zk (Zm Tryz.f151) 0) (e151_0 L151_0):=Z0 (E:=E151 r219 L151_0) rfl hE mixed (Zt.of_list (l:=[]) (by kernel_rfl) trivial) (n151_0 r219) (fun _ _ _=>rfl) (fun n x y z=>t151_0 r219 L151_0 _ x y z) rfl;exact Qk (E:=E151 r219 L151_0) rfl hE mixed (by kernel_rfl) (by kernel_rfl) (Zt.of_list (l:=[(Zk (Zm Tryz.f151) 0)]) (by kernel_rfl) (.one (by kernel_rfl) h0 trivial)) (s151 r219 L151_0)
abbrev i91:Ts:=[.a q7]
abbrev o91:Ts:=[.v (.bool)]
abbrev F91:=FT i91 o91
abbrev g91:=mkG 91 i91 o91
noncomputable def m91 (c149:F149) (c150:F150) (c151:F151):F91:=fun y=>(c149 ((y.1.1,(y.1.2.1,(y.1.2.2.1,(y.1.2.2.2.1,(y.1.2.2.2.2.1,(y.1.2.2.2.2.2.1,(y.1.2.2.2.2.2.2.1,(y.1.2.2.2.2.2.2.2.1,())))))))),())).bind fun r0=>bif (!r0.1.1)then no else (c150 ((y.1.2.2.2.2.2.2.2.2.1,(y.1.2.2.2.2.2.2.2.2.2.1,())),())).bind fun r1=>bif (!r1.1.1)then no else bif (eqI (Zf y.1.2.2.2.2.2.2.2.2.2.1) 0)then ((c151 (y.1.2.2.2.2.2.2.2.2.2.2.1,(y.1.1,()))).bind fun r2=>some (r2.1,()))else bif (ltI 0 (Zf y.1.2.2.2.2.2.2.2.2.2.1))then (bif (leI y.1.1 (rdE .t y.1.2.2.2.2.2.2.2.2.2.1 (0:Int)).1)then ((c151 (y.1.2.2.2.2.2.2.2.2.2.2.1,(y.1.1,()))).bind fun r2=>some (r2.1,()))else no)else none
theorem s91 (c149:F149) (c150:F150) (c151:F151) (y):TE [g149 c149,g150 c150,g151 c151] Tryz.f91 i91 o91 y=m91 c149 c150 c151 y:=by kernel_rfl
noncomputable def r91:F91:=m91 r149 r150 r151
theorem k91:KO (g91 r91):=fk (s91 r149 r150 r151) ⟨k149,k150,k151,⟨⟩⟩
abbrev i152:Ts:=[.a q8]
abbrev o152:Ts:=[.v (.bool)]
abbrev F152:=FT i152 o152
abbrev g152:=mkG 152 i152 o152
noncomputable def m152 (c41:F41) (c93:F93):F152:=fun y=>(c41 (y.1.1,((0:Int),((20000:Int),())))).bind fun r0=>bif r0.1.1 then ((c93 (y.1.2.1,())).bind fun r1=>bif r1.1.1 then ((c93 (y.1.2.2.1,())).bind fun r2=>bif r2.1.1 then ((c41 (y.1.2.2.2.1,((0:Int),((1:Int),())))).bind fun r3=>bif r3.1.1 then ((c41 (y.1.2.2.2.2.1,((0:Int),((31:Int),())))).bind fun r4=>some (r4.1,()))else no)else no)else no)else no
theorem s152 (c41:F41) (c93:F93) (y):TE [g41 c41,g93 c93] Tryz.f152 i152 o152 y=m152 c41 c93 y:=by kernel_rfl
noncomputable def r152:F152:=m152 r41 r93
theorem k152:KO (g152 r152):=fk (s152 r41 r93) ⟨k41,k93,⟨⟩⟩
abbrev i92:Ts:=[.a q9]
abbrev o92:Ts:=[.v (.bool)]
abbrev F92:=FT i92 o92
abbrev g92:=mkG 92 i92 o92
noncomputable def m92 (c152:F152) (c150:F150):F92:=fun y=>(c152 ((y.1.1,(y.1.2.1,(y.1.2.2.1,(y.1.2.2.2.1,(y.1.2.2.2.2.1,(y.1.2.2.2.2.2.1,(y.1.2.2.2.2.2.2.1,()))))))),())).bind fun r0=>bif (!r0.1.1)then no else (c150 ((y.1.2.2.2.2.2.2.2.1,(y.1.2.2.2.2.2.2.2.2.1,())),())).bind fun r1=>bif (!r1.1.1)then no else bif (eqI (Zf y.1.2.2.2.2.2.2.2.2.1) 0)then (some (((eqI (Zf y.1.2.2.2.2.2.2.2.2.2.1) (wI (Int.tdiv y.1.1 16))),()),()))else bif (ltI 0 (Zf y.1.2.2.2.2.2.2.2.2.1))then (bif (leI y.1.1 (rdE .t y.1.2.2.2.2.2.2.2.2.1 (0:Int)).1)then (some (((eqI (Zf y.1.2.2.2.2.2.2.2.2.2.1) (wI (Int.tdiv y.1.1 16))),()),()))else no)else none
theorem s92 (c152:F152) (c150:F150) (y):TE [g152 c152,g150 c150] Tryz.f92 i92 o92 y=m92 c152 c150 y:=by kernel_rfl
noncomputable def r92:F92:=m92 r152 r150
theorem k92:KO (g92 r92):=fk (s92 r152 r150) ⟨k152,k150,⟨⟩⟩
abbrev i94:Ts:=[.a q6]
abbrev o94:Ts:=[.v (.int .i64)]
abbrev F94:=FT i94 o94
abbrev g94:=mkG 94 i94 o94
noncomputable def m94:F94:=fun y=>bif (eqI (Zf y.1.2.1) 0)then (some (((0:Int),()),()))else bif (leI 0 (wI ((Zf y.1.2.1)-1)))then (bif (ltI (wI ((Zf y.1.2.1)-1)) (Zf y.1.2.1))then (some (((rdE .t y.1.2.1 (wI ((Zf y.1.2.1)-1))).1,()),()))else none)else none
theorem s94 (y):TE [] Tryz.f94 i94 o94 y=m94 y:=by kernel_rfl
noncomputable def r94:F94:=m94
theorem k94:KO (g94 r94):=fk (s94) trivial
abbrev i36:Ts:=[.a q10]
abbrev o36:Ts:=[.v (.bool)]
abbrev F36:=FT i36 o36
abbrev g36:=mkG 36 i36 o36
noncomputable def m36 (c90:F90) (c89:F89) (c88:F88) (c91:F91) (c92:F92) (c94:F94) (c41:F41) (c93:F93):F36:=fun y=>let a0:=y.1;let a1:=a0.2;let a2:=a1.2;let a3:=a2.2;let a4:=a3.2;let a5:=a4.2;let a6:=a5.2;let a7:=a6.2;let a8:=a7.2;let a9:=a8.2;let a10:=a9.2;let a11:=a10.2;let a12:=a11.2;let a13:=a12.2;let a14:=a13.2;let a15:=a14.2;let a16:=a15.2;let a17:=a16.2;let a18:=a17.2;let a19:=a18.2;let a20:=a19.2;let a21:=a20.2;let a22:=a21.2;let a23:=a22.2;let a24:=a23.2;let a25:=a24.2;let a26:=a25.2;let a27:=a26.2;let a28:=a27.2;let a29:=a28.2.2;let a30:=a29.2.2.2.2.2.2.2.2.2;(c88 (a1.1,())).bind fun r0=>bif (!r0.1.1)then no else (c89 ((a0.1,()),((a2.1,(a3.1,())),()))).bind fun r1=>bif (!r1.1.1)then no else (c90 ((a4.1,(a5.1,(a6.1,(a7.1,(a8.1,(a9.1,(a10.1,(a11.1,())))))))),())).bind fun r2=>bif (!r2.1.1)then no else (c91 ((a21.1,(a22.1,(a23.1,(a24.1,(a25.1,(a26.1,(a27.1,(a28.1,(a28.2.1,(a29.1,(a29.2.1,()))))))))))),())).bind fun r3=>bif (!r3.1.1)then no else (c92 (a29.2.2,())).bind fun r4=>bif (!r4.1.1)then no else (c93 (a13.1,())).bind fun r5=>bif (!r5.1.1)then no else (c93 (a16.1,())).bind fun r6=>bif (!r6.1.1)then no else (c41 (a14.1,((0:Int),((20000:Int),())))).bind fun r7=>bif (!r7.1.1)then no else (c41 (a18.1,((0:Int),(a14.1,())))).bind fun r8=>bif (!r8.1.1)then no else (c41 (a19.1,((0:Int),(a14.1,())))).bind fun r9=>bif (!r9.1.1)then no else bif (ltI a14.1 a21.1)then no else bif (ltI a14.1 a29.2.2.1)then no else (c94 ((a28.2.1,(a29.1,())),())).bind fun r10=>bif (leI r10.1.1 a14.1)then ((c94 ((a30.1,(a30.2.1,())),())).bind fun r11=>some (((leI r11.1.1 a14.1),()),()))else no
theorem s36 (c90:F90) (c89:F89) (c88:F88) (c91:F91) (c92:F92) (c94:F94) (c41:F41) (c93:F93) (y):TE [g90 c90,g89 c89,g88 c88,g91 c91,g92 c92,g94 c94,g41 c41,g93 c93] Tryz.f36 i36 o36 y=m36 c90 c89 c88 c91 c92 c94 c41 c93 y:=by kernel_rfl
noncomputable def r36:F36:=m36 r90 r89 r88 r91 r92 r94 r41 r93
theorem k36:KO (g36 r36):=fk (s36 r90 r89 r88 r91 r92 r94 r41 r93) ⟨k90,k89,k88,k91,k92,k94,k41,k93,⟨⟩⟩
abbrev i34:Ts:=[.a q0, .v (.sl false .i), .v (.int .i64)]
abbrev o34:Ts:=[.a q11, .v (.bool)]
abbrev F34:=FT i34 o34
abbrev g34:=mkG 34 i34 o34
noncomputable def m34 (c83:F83) (c82:F82) (c84:F84) (c36:F36) (c81:F81):F34:=fun y=>(c81 (y.1,())).bind fun r0=>bif (leN (0+(List.length y.2.1)) (E.most .i))then ((c82 ()).bind fun r1=>(c83 (y.1,())).bind fun r2=>(c84 ()).bind fun r3=>(c36 ((r0.1.1.1,(([]++y.2.1),(r1.1.1.1,(r1.1.1.2.1,(r2.1.1.1,(r2.1.1.2.1,(r2.1.1.2.2.1,(r2.1.1.2.2.2.1,(r2.1.1.2.2.2.2.1,(r2.1.1.2.2.2.2.2.1,(r2.1.1.2.2.2.2.2.2.1,(r2.1.1.2.2.2.2.2.2.2.1,(false,((0:Int),((0:Int),(false,((0:Int),(false,((0:Int),((0:Int),([],(r3.1.1.1,(r3.1.1.2.1,(r3.1.1.2.2.1,(r3.1.1.2.2.2.1,(r3.1.1.2.2.2.2.1,(r3.1.1.2.2.2.2.2.1,(r3.1.1.2.2.2.2.2.2.1,(r3.1.1.2.2.2.2.2.2.2.1,(y.2.2.1,([],([],((0:Int),((0:Int),((0:Int),((0:Int),((0:Int),(false,(false,(y.2.2.1,([],([],())))))))))))))))))))))))))))))))))))))))))),())).bind fun r4=>bif (!r4.1.1)then (some ((([],([],([],((0:Int),((0:Int),((0:Int),((0:Int),((0:Int),(false,(false,(false,(false,(false,((0:Int),((0:Int),(false,((0:Int),(false,((0:Int),((0:Int),([],((0:Int),((0:Int),((0:Int),((0:Int),((0:Int),(false,([],([],((0:Int),([],([],((0:Int),((0:Int),((0:Int),((0:Int),((0:Int),(false,(false,((0:Int),([],([],())))))))))))))))))))))))))))))))))))))))))),(false,())),()))else some (((r0.1.1.1,(([]++y.2.1),(r1.1.1.1,(r1.1.1.2.1,(r2.1.1.1,(r2.1.1.2.1,(r2.1.1.2.2.1,(r2.1.1.2.2.2.1,(r2.1.1.2.2.2.2.1,(r2.1.1.2.2.2.2.2.1,(r2.1.1.2.2.2.2.2.2.1,(r2.1.1.2.2.2.2.2.2.2.1,(false,((0:Int),((0:Int),(false,((0:Int),(false,((0:Int),((0:Int),([],(r3.1.1.1,(r3.1.1.2.1,(r3.1.1.2.2.1,(r3.1.1.2.2.2.1,(r3.1.1.2.2.2.2.1,(r3.1.1.2.2.2.2.2.1,(r3.1.1.2.2.2.2.2.2.1,(r3.1.1.2.2.2.2.2.2.2.1,(y.2.2.1,([],([],((0:Int),((0:Int),((0:Int),((0:Int),((0:Int),(false,(false,(y.2.2.1,([],([],())))))))))))))))))))))))))))))))))))))))))),(true,())),()))else none
theorem s34 (c83:F83) (c82:F82) (c84:F84) (c36:F36) (c81:F81) (y):TE [g83 c83,g82 c82,g84 c84,g36 c36,g81 c81] Tryz.f34 i34 o34 y=m34 c83 c82 c84 c36 c81 y:=by kernel_rfl
noncomputable def r34:F34:=m34 r83 r82 r84 r36 r81
theorem k34:KO (g34 r34):=fk (s34 r83 r82 r84 r36 r81) ⟨k83,k82,k84,k36,k81,⟨⟩⟩
abbrev i13:Ts:=[.v (.str), .v (.sl false .i), .v (.int .i64)]
abbrev o13:Ts:=[.a q11, .v (.int .i64)]
abbrev F13:=FT i13 o13
abbrev g13:=mkG 13 i13 o13
noncomputable def m13 (c33:F33) (c34:F34):F13:=fun y=>(c33 (y.1,())).bind fun r0=>bif (neI r0.1.2.1 0)then (some ((([],([],([],((0:Int),((0:Int),((0:Int),((0:Int),((0:Int),(false,(false,(false,(false,(false,((0:Int),((0:Int),(false,((0:Int),(false,((0:Int),((0:Int),([],((0:Int),((0:Int),((0:Int),((0:Int),((0:Int),(false,([],([],((0:Int),([],([],((0:Int),((0:Int),((0:Int),((0:Int),((0:Int),(false,(false,((0:Int),([],([],())))))))))))))))))))))))))))))))))))))))))),r0.1.2),()))else (c34 (((r0.1.1::[]),()),y.2)).bind fun r1=>bif (!r1.1.2.1)then (some ((([],([],([],((0:Int),((0:Int),((0:Int),((0:Int),((0:Int),(false,(false,(false,(false,(false,((0:Int),((0:Int),(false,((0:Int),(false,((0:Int),((0:Int),([],((0:Int),((0:Int),((0:Int),((0:Int),((0:Int),(false,([],([],((0:Int),([],([],((0:Int),((0:Int),((0:Int),((0:Int),((0:Int),(false,(false,((0:Int),([],([],())))))))))))))))))))))))))))))))))))))))))),((-(2:Int)),())),()))else some ((r1.1.1,((0:Int),())),())
theorem s13 (c33:F33) (c34:F34) (y):TE [g33 c33,g34 c34] Tryz.f13 i13 o13 y=m13 c33 c34 y:=by kernel_rfl
noncomputable def r13:F13:=m13 r33 r34
theorem k13:KO (g13 r13):=fk (s13 r33 r34) ⟨k33,k34,⟨⟩⟩
abbrev i85:Ts:=[.a q2]
abbrev o85:Ts:=[.a q1]
abbrev F85:=FT i85 o85
abbrev g85:=mkG 85 i85 o85
noncomputable def m85:F85:=fun y=>bif (leN (0+(List.length y.1.1)) (E.most .i))then (some (((([]++y.1.1),y.1.2),()),()))else none
theorem s85 (y):TE [] Tryz.f85 i85 o85 y=m85 y:=by kernel_rfl
noncomputable def r85:F85:=m85
theorem k85:KO (g85 r85):=fk (s85) trivial
abbrev i145:Ts:=[.a q5]
abbrev o145:Ts:=[.a q4]
abbrev F145:=FT i145 o145
abbrev g145:=mkG 145 i145 o145
noncomputable def m145:F145:=fun y=>bif (leN (0+(List.length y.1.2.2.2.2.2.2.1)) (E.most .i))then (bif (leN (0+(List.length y.1.2.2.2.2.2.2.2.1)) (E.most .i))then (some (((y.1.1,(y.1.2.1,(y.1.2.2.1,(y.1.2.2.2.1,(y.1.2.2.2.2.1,(y.1.2.2.2.2.2.1,(([]++y.1.2.2.2.2.2.2.1),(([]++y.1.2.2.2.2.2.2.2.1),())))))))),()),()))else none)else none
theorem s145 (y):TE [] Tryz.f145 i145 o145 y=m145 y:=by kernel_rfl
noncomputable def r145:F145:=m145
theorem k145:KO (g145 r145):=fk (s145) trivial
abbrev i146:Ts:=[.a q6]
abbrev o146:Ts:=[.a q12]
abbrev F146:=FT i146 o146
abbrev g146:=mkG 146 i146 o146
noncomputable def m146:F146:=fun y=>bif (leN (0+(List.length y.1.2.1)) (E.most .t))then (some (((y.1.1,(([]++y.1.2.1),())),()),()))else none
theorem s146 (y):TE [] Tryz.f146 i146 o146 y=m146 y:=by kernel_rfl
noncomputable def r146:F146:=m146
theorem k146:KO (g146 r146):=fk (s146) trivial
abbrev i147:Ts:=[.v (.sl false .n)]
abbrev o147:Ts:=[.v (.sl true .n)]
abbrev F147:=FT i147 o147
abbrev g147:=mkG 147 i147 o147
abbrev lc147_0:Ts:=[.v (.sl false .n)]
abbrev lb147_0:Ts:=[]
abbrev lv147_0:Ts:=[.v (.sl true .n), .v (.int .i64)]
abbrev lr147_0:Ts:=[]
abbrev R147_0:=Option (Sum (PTup lv147_0) (PTup lr147_0)×BTup lb147_0)
abbrev B147_0:=PTup lb147_0→PTup lv147_0→R147_0
abbrev A147_0:=PTup lc147_0→B147_0
noncomputable def w147_0 (again:B147_0):A147_0:=fun x y z=>bif (ltI z.2.1 (Zf x.1))then (bif (leI 0 z.2.1)then (bif (ltI z.2.1 (Zf x.1))then (bif (leN (0+(List.length (rdE .n x.1 z.2.1))) (E.most .i))then (bif (leN ((List.length z.1)+(List.length (([]++(rdE .n x.1 z.2.1))::[]))) (E.most .n))then (again () ((z.1++(([]++(rdE .n x.1 z.2.1))::[])),((wI (z.2.1+1)),())))else none)else none)else none)else none)else some ((Sum.inl z),())
noncomputable def e147_0 (l:A147_0):ZJ:=⟨[0],lc147_0,[],lb147_0,[3,4],lv147_0,[],lr147_0,0,[],l⟩
noncomputable def m147 (l0:A147_0):F147:=fun y=>(l0 y () ([],((0:Int),()))).bind fun r0=>ZE r0.1 (fun r1=>some ((r1.1,()),())) (fun r1=>some (([],()),()))
noncomputable def E147 (l0:A147_0):ZH:=⟨⟨Tryz.prog,Z6 []⟩,Qg [(3,e147_0 l0)]⟩
theorem t147_0 (l0:A147_0) (again) (x y z):ZX (E147 l0) (Zk (Zm Tryz.f147) 0) (e147_0 l0) Tryz.f147.ntmps again x y z=w147_0 again x y z:=by kernel_rfl
noncomputable def n147_0:Nat→A147_0
  |0,_,_,_=>none
  |n+1,x,y,z=>w147_0 (fun y z=>n147_0 n x y z) x y z
theorem s147 (l0:A147_0) (y):Z8 (E147 l0) Tryz.f147 i147 o147 y=m147 l0 y:=by kernel_rfl
noncomputable def L147_0:A147_0:=n147_0 fuel
noncomputable def r147:F147:=m147 L147_0
theorem k147:KO (g147 r147):=by
  have hE: ∀g f,(E147 L147_0).env.fns g=some f→Zy Tryz.prog g f:=Qf trivial;have h0:ZP Tryz.prog Tryz.f147.ntmps (Zk (Zm Tryz.f147) 0) (e147_0 L147_0):=Z0 (E:=E147 L147_0) rfl hE mixed (Zt.of_list (l:=[]) (by kernel_rfl) trivial) (n147_0) (fun _ _ _=>rfl) (fun n x y z=>t147_0 L147_0 _ x y z) rfl;exact Qk (E:=E147 L147_0) rfl hE mixed (by kernel_rfl) (by kernel_rfl) (Zt.of_list (l:=[(Zk (Zm Tryz.f147) 0)]) (by kernel_rfl) (.one (by kernel_rfl) h0 trivial)) (s147 L147_0)
abbrev i86:Ts:=[.a q7]
abbrev o86:Ts:=[.a q13]
abbrev F86:=FT i86 o86
abbrev g86:=mkG 86 i86 o86
noncomputable def m86 (c147:F147) (c146:F146) (c145:F145):F86:=fun y=>(c145 ((y.1.1,(y.1.2.1,(y.1.2.2.1,(y.1.2.2.2.1,(y.1.2.2.2.2.1,(y.1.2.2.2.2.2.1,(y.1.2.2.2.2.2.2.1,(y.1.2.2.2.2.2.2.2.1,())))))))),())).bind fun r0=>(c146 ((y.1.2.2.2.2.2.2.2.2.1,(y.1.2.2.2.2.2.2.2.2.2.1,())),())).bind fun r1=>(c147 y.1.2.2.2.2.2.2.2.2.2.2).bind fun r2=>some (((r0.1.1.1,(r0.1.1.2.1,(r0.1.1.2.2.1,(r0.1.1.2.2.2.1,(r0.1.1.2.2.2.2.1,(r0.1.1.2.2.2.2.2.1,(r0.1.1.2.2.2.2.2.2.1,(r0.1.1.2.2.2.2.2.2.2.1,(r1.1.1.1,(r1.1.1.2.1,r2.1)))))))))),()),())
theorem s86 (c147:F147) (c146:F146) (c145:F145) (y):TE [g147 c147,g146 c146,g145 c145] Tryz.f86 i86 o86 y=m86 c147 c146 c145 y:=by kernel_rfl
noncomputable def r86:F86:=m86 r147 r146 r145
theorem k86:KO (g86 r86):=fk (s86 r147 r146 r145) ⟨k147,k146,k145,⟨⟩⟩
abbrev i87:Ts:=[.a q9]
abbrev o87:Ts:=[.a q14]
abbrev F87:=FT i87 o87
abbrev g87:=mkG 87 i87 o87
noncomputable def m87 (c146:F146):F87:=fun y=>(c146 ((y.1.2.2.2.2.2.2.2.1,(y.1.2.2.2.2.2.2.2.2.1,())),())).bind fun r0=>bif (leN (0+(List.length y.1.2.2.2.2.2.2.2.2.2.1)) (E.most .i))then (some (((y.1.1,(y.1.2.1,(y.1.2.2.1,(y.1.2.2.2.1,(y.1.2.2.2.2.1,(y.1.2.2.2.2.2.1,(y.1.2.2.2.2.2.2.1,(r0.1.1.1,(r0.1.1.2.1,(([]++y.1.2.2.2.2.2.2.2.2.2.1),())))))))))),()),()))else none
theorem s87 (c146:F146) (y):TE [g146 c146] Tryz.f87 i87 o87 y=m87 c146 y:=by kernel_rfl
noncomputable def r87:F87:=m87 r146
theorem k87:KO (g87 r87):=fk (s87 r146) ⟨k146,⟨⟩⟩
abbrev i35:Ts:=[.a q10]
abbrev o35:Ts:=[.a q11]
abbrev F35:=FT i35 o35
abbrev g35:=mkG 35 i35 o35
noncomputable def m35 (c81:F81) (c86:F86) (c87:F87) (c85:F85):F35:=fun y=>let a0:=y.1;let a1:=a0.2;let a2:=a1.2;let a3:=a2.2;let a4:=a3.2;let a5:=a4.2;let a6:=a5.2;let a7:=a6.2;let a8:=a7.2;let a9:=a8.2;let a10:=a9.2;let a11:=a10.2;let a12:=a11.2;let a13:=a12.2;let a14:=a13.2;let a15:=a14.2;let a16:=a15.2;let a17:=a16.2;let a18:=a17.2;let a19:=a18.2;let a20:=a19.2;let a21:=a20.2;let a22:=a21.2;let a23:=a22.2;let a24:=a23.2.2;let a25:=a24.2.2;(c81 ((a0.1,()),())).bind fun r0=>bif (leN (0+(List.length a1.1)) (E.most .i))then ((c85 ((a2.1,(a3.1,())),())).bind fun r1=>bif (leN (0+(List.length a20.1)) (E.most .i))then ((c86 ((a21.1,(a22.1,(a23.1,(a23.2.1,(a24.1,(a24.2.1,(a25.1,(a25.2.1,(a25.2.2.1,(a25.2.2.2.1,(a25.2.2.2.2.1,()))))))))))),())).bind fun r2=>(c87 (a25.2.2.2.2.2,())).bind fun r3=>some (((r0.1.1.1,(([]++a1.1),(r1.1.1.1,(r1.1.1.2.1,(a4.1,(a5.1,(a6.1,(a7.1,(a8.1,(a9.1,(a10.1,(a11.1,(a12.1,(a13.1,(a14.1,(a15.1,(a16.1,(a17.1,(a18.1,(a19.1,(([]++a20.1),(r2.1.1.1,(r2.1.1.2.1,(r2.1.1.2.2.1,(r2.1.1.2.2.2.1,(r2.1.1.2.2.2.2.1,(r2.1.1.2.2.2.2.2.1,(r2.1.1.2.2.2.2.2.2.1,(r2.1.1.2.2.2.2.2.2.2.1,(r2.1.1.2.2.2.2.2.2.2.2.1,(r2.1.1.2.2.2.2.2.2.2.2.2.1,(r2.1.1.2.2.2.2.2.2.2.2.2.2.1,r3.1.1)))))))))))))))))))))))))))))))),()),()))else none)else none
theorem s35 (c81:F81) (c86:F86) (c87:F87) (c85:F85) (y):TE [g81 c81,g86 c86,g87 c87,g85 c85] Tryz.f35 i35 o35 y=m35 c81 c86 c87 c85 y:=by kernel_rfl
noncomputable def r35:F35:=m35 r81 r86 r87 r85
theorem k35:KO (g35 r35):=fk (s35 r81 r86 r87 r85) ⟨k81,k86,k87,k85,⟨⟩⟩
abbrev i153:Ts:=[.a q10, .v (.int .i64)]
abbrev o153:Ts:=[.v (.int .i64)]
abbrev F153:=FT i153 o153
abbrev g153:=mkG 153 i153 o153
noncomputable def m153:F153:=fun y=>bif (ltI 20000 (wI (y.1.2.2.2.2.2.2.2.2.2.2.2.2.2.2.1+y.2.1)))then (some (((5:Int),()),()))else some (((0:Int),()),())
theorem s153 (y):TE [] Tryz.f153 i153 o153 y=m153 y:=by kernel_rfl
noncomputable def r153:F153:=m153
theorem k153:KO (g153 r153):=fk (s153) trivial
abbrev i105:Ts:=[.v (.int .i64), .v (.int .i64)]
abbrev o105:Ts:=[.v (.int .i64)]
abbrev F105:=FT i105 o105
abbrev g105:=mkG 105 i105 o105
noncomputable def m105:F105:=fun y=>bif (ltI y.2.1 y.1)then (some ((y.1,()),()))else some (y.2,())
theorem s105 (y):TE [] Tryz.f105 i105 o105 y=m105 y:=by kernel_rfl
noncomputable def r105:F105:=m105
theorem k105:KO (g105 r105):=fk (s105) trivial
abbrev i104:Ts:=[.v (.int .i64), .v (.int .i64)]
abbrev o104:Ts:=[.v (.int .i64)]
abbrev F104:=FT i104 o104
abbrev g104:=mkG 104 i104 o104
noncomputable def m104:F104:=fun y=>bif (ltI y.1 y.2.1)then (some ((y.1,()),()))else some (y.2,())
theorem s104 (y):TE [] Tryz.f104 i104 o104 y=m104 y:=by kernel_rfl
noncomputable def r104:F104:=m104
theorem k104:KO (g104 r104):=fk (s104) trivial
abbrev i220:Ts:=[.v (.int .i64), .v (.int .i64), .v (.int .i64), .v (.int .i64)]
abbrev o220:Ts:=[.v (.bool)]
abbrev F220:=FT i220 o220
abbrev g220:=mkG 220 i220 o220
noncomputable def m220 (c105:F105) (c104:F104):F220:=fun y=>(c105 (y.1,((0:Int),()))).bind fun r0=>(c104 (y.2.1,((20000:Int),()))).bind fun r1=>bif (leI r1.1.1 r0.1.1)then no else bif (neI y.2.2.2.1 0)then (bif (neI y.2.2.2.1 0)then (some (((ltI (wI (r0.1.1+(Int.tmod (wI ((wI (y.2.2.1-(Int.tmod r0.1.1 y.2.2.2.1)))+y.2.2.2.1)) y.2.2.2.1))) r1.1.1),()),()))else none)else none
theorem s220 (c105:F105) (c104:F104) (y):TE [g105 c105,g104 c104] Tryz.f220 i220 o220 y=m220 c105 c104 y:=by kernel_rfl
noncomputable def r220:F220:=m220 r105 r104
theorem k220:KO (g220 r220):=fk (s220 r105 r104) ⟨k105,k104,⟨⟩⟩
abbrev i154:Ts:=[.v (.int .i64), .v (.int .i64)]
abbrev o154:Ts:=[.v (.bool)]
abbrev F154:=FT i154 o154
abbrev g154:=mkG 154 i154 o154
noncomputable def m154 (c220:F220):F154:=fun y=>(c220 (y.1,(y.2.1,((0:Int),((32:Int),()))))).bind fun r0=>some (r0.1,())
theorem s154 (c220:F220) (y):TE [g220 c220] Tryz.f154 i154 o154 y=m154 c220 y:=by kernel_rfl
noncomputable def r154:F154:=m154 r220
theorem k154:KO (g154 r154):=fk (s154 r220) ⟨k220,⟨⟩⟩
abbrev i155:Ts:=[.a q10]
abbrev o155:Ts:=[.v (.bool)]
abbrev F155:=FT i155 o155
abbrev g155:=mkG 155 i155 o155
noncomputable def m155:F155:=fun y=>bif (eqI y.1.2.2.2.2.2.2.2.2.2.2.2.2.2.2.2.2.2.2.2.2.2.2.2.2.2.2.2.2.2.2.2.2.1 y.1.2.2.2.2.2.2.2.2.2.2.2.2.2.2.1)then (some (((eqI (Zf y.1.2.2.2.2.2.2.2.2.2.2.2.2.2.2.2.2.2.2.2.2.2.2.2.2.2.2.2.2.2.2.2.2.2.2.2.2.2.2.2.2.1) 0),()),()))else no
theorem s155 (y):TE [] Tryz.f155 i155 o155 y=m155 y:=by kernel_rfl
noncomputable def r155:F155:=m155
theorem k155:KO (g155 r155):=fk (s155) trivial
abbrev i156:Ts:=[.a q10]
abbrev o156:Ts:=[.v (.bool)]
abbrev F156:=FT i156 o156
abbrev g156:=mkG 156 i156 o156
noncomputable def m156 (c154:F154):F156:=fun y=>(c154 (y.1.2.2.2.2.2.2.2.2.2.2.2.2.2.2.2.2.2.2.1,(y.1.2.2.2.2.2.2.2.2.2.2.2.2.2.2.1,()))).bind fun r0=>bif r0.1.1 then (some ((y.1.2.2.2.2.2.2.2.2.2.2.2.2.2.2.2.2.2.2.2.2.2.2.2.2.2.2.2.2.2.2.2.2.2.2.2.2.2.2.1,()),()))else some ((y.1.2.2.2.2.2.2.2.2.2.2.2.2.2.2.2.2.2.1,()),())
theorem s156 (c154:F154) (y):TE [g154 c154] Tryz.f156 i156 o156 y=m156 c154 y:=by kernel_rfl
noncomputable def r156:F156:=m156 r154
theorem k156:KO (g156 r156):=fk (s156 r154) ⟨k154,⟨⟩⟩
abbrev i157:Ts:=[.a q0, .a q2, .v (.int .i64)]
abbrev o157:Ts:=[.a q15]
abbrev F157:=FT i157 o157
abbrev g157:=mkG 157 i157 o157
noncomputable def m157 (c143:F143) (c142:F142) (c144:F144):F157:=fun y=>(c144 y).bind fun r0=>(c142 r0.1).bind fun r1=>bif (eqI r1.1.1 2)then ((c144 (y.1,(y.2.1,((wI (y.2.2.1+1)),())))).bind fun r2=>some (((r0.1.1,r2.1),()),()))else bif (eqI r1.1.1 3)then ((c144 (y.1,(y.2.1,((wI (y.2.2.1+1)),())))).bind fun r2=>(c144 (y.1,(y.2.1,((wI (y.2.2.1+2)),())))).bind fun r3=>(c143 (r2.1.1,r3.1)).bind fun r4=>some (((r0.1.1,r4.1),()),()))else some (((r0.1.1,((0:Int),())),()),())
theorem s157 (c143:F143) (c142:F142) (c144:F144) (y):TE [g143 c143,g142 c142,g144 c144] Tryz.f157 i157 o157 y=m157 c143 c142 c144 y:=by kernel_rfl
noncomputable def r157:F157:=m157 r143 r142 r144
theorem k157:KO (g157 r157):=fk (s157 r143 r142 r144) ⟨k143,k142,k144,⟨⟩⟩
abbrev i221:Ts:=[.v (.int .i64)]
abbrev o221:Ts:=[.v (.int .i64)]
abbrev R221:=Option (PTup o221×BTup i221)
abbrev F221:=PTup i221→R221
abbrev g221:=mkG 221 i221 o221
noncomputable def m221:F221:=fun y=>let X0:R221:=bif (eqI y.1 3)then (bif (eqI y.1 3)then (some (((2:Int),()),()))else some (((0:Int),()),()))else bif (eqI y.1 15)then (some (((2:Int),()),()))else some (((0:Int),()),());bif (eqI y.1 2)then (bif (eqI y.1 2)then (some (((1:Int),()),()))else X0)else bif (eqI y.1 14)then (bif (eqI y.1 14)then (some (((1:Int),()),()))else X0)else bif (eqI y.1 29)then (some (((1:Int),()),()))else X0
theorem s221 (y):TE [] Tryz.f221 i221 o221 y=m221 y:=by kernel_rfl
noncomputable def r221:F221:=m221
theorem k221:KO (g221 r221):=fk (s221) trivial
abbrev i158:Ts:=[.a q15, .a q3]
abbrev o158:Ts:=[.v (.int .i64), .v (.int .i64), .v (.int .i64)]
abbrev R158:=Option (PTup o158×BTup i158)
abbrev F158:=PTup i158→R158
abbrev g158:=mkG 158 i158 o158
noncomputable def m158 (c222:F222) (c80:F80) (c221:F221):F158:=fun y=>(c221 (y.1.1,())).bind fun r0=>let X0:R158:=bif (eqI r0.1.1 1)then ((c222 ((wI (y.1.2.1+y.2.1.2.1)),())).bind fun r1=>some ((r0.1.1,(r1.1.1,((0:Int),()))),()))else (c222 ((wI (y.1.2.1+y.2.1.2.1)),())).bind fun r1=>(c80 (y.2.1.1,())).bind fun r2=>some ((r0.1.1,(r1.1.1,r2.1)),());bif (eqI r0.1.1 0)then (some (((0:Int),((0:Int),((0:Int),()))),()))else bif (eqI y.1.1 14)then X0 else bif (eqI y.1.1 15)then X0 else bif (eqI r0.1.1 1)then ((c222 y.1.2).bind fun r1=>some ((r0.1.1,(r1.1.1,((0:Int),()))),()))else (c222 y.1.2).bind fun r1=>(c80 (y.2.1.1,())).bind fun r2=>some ((r0.1.1,(r1.1.1,r2.1)),())
theorem s158 (c222:F222) (c80:F80) (c221:F221) (y):TE [g222 c222,g80 c80,g221 c221] Tryz.f158 i158 o158 y=m158 c222 c80 c221 y:=by kernel_rfl
noncomputable def r158:F158:=m158 r222 r80 r221
theorem k158:KO (g158 r158):=fk (s158 r222 r80 r221) ⟨k222,k80,k221,⟨⟩⟩
abbrev i160:Ts:=[.a q10]
abbrev o160:Ts:=[.v (.bool)]
abbrev F160:=FT i160 o160
abbrev g160:=mkG 160 i160 o160
noncomputable def m160:F160:=fun y=>bif (eqI y.1.2.2.2.2.2.2.2.2.2.2.2.2.2.2.2.2.2.2.2.2.2.1 y.1.2.2.2.2.2.2.2.2.2.2.2.2.2.2.1)then (some (((eqI (Zf y.1.2.2.2.2.2.2.2.2.2.2.2.2.2.2.2.2.2.2.2.2.2.2.2.2.2.2.2.2.2.2.1) 0),()),()))else no
theorem s160 (y):TE [] Tryz.f160 i160 o160 y=m160 y:=by kernel_rfl
noncomputable def r160:F160:=m160
theorem k160:KO (g160 r160):=fk (s160) trivial
abbrev i161:Ts:=[.v (.int .i64)]
abbrev o161:Ts:=[.v (.int .i64)]
abbrev F161:=FT i161 o161
abbrev g161:=mkG 161 i161 o161
noncomputable def m161 (c41:F41):F161:=fun y=>(c41 (y.1,((0:Int),((29:Int),())))).bind fun r0=>bif (!r0.1.1)then (some (((2:Int),()),()))else bif (leI 0 y.1)then (bif (ltI y.1 (Zf ((2:Int)::((2:Int)::((4:Int)::((4:Int)::((2:Int)::((2:Int)::((2:Int)::((2:Int)::((2:Int)::((2:Int)::((2:Int)::((2:Int)::((2:Int)::((2:Int)::((4:Int)::((5:Int)::((3:Int)::((3:Int)::((3:Int)::((3:Int)::((6:Int)::((6:Int)::((3:Int)::((4:Int)::((6:Int)::((2:Int)::((2:Int)::((2:Int)::((2:Int)::((4:Int)::[]))))))))))))))))))))))))))))))))then (some (((rdE .i ((2:Int)::((2:Int)::((4:Int)::((4:Int)::((2:Int)::((2:Int)::((2:Int)::((2:Int)::((2:Int)::((2:Int)::((2:Int)::((2:Int)::((2:Int)::((2:Int)::((4:Int)::((5:Int)::((3:Int)::((3:Int)::((3:Int)::((3:Int)::((6:Int)::((6:Int)::((3:Int)::((4:Int)::((6:Int)::((2:Int)::((2:Int)::((2:Int)::((2:Int)::((4:Int)::[])))))))))))))))))))))))))))))) y.1),()),()))else none)else none
theorem s161 (c41:F41) (y):TE [g41 c41] Tryz.f161 i161 o161 y=m161 c41 y:=by kernel_rfl
noncomputable def r161:F161:=m161 r41
theorem k161:KO (g161 r161):=fk (s161 r41) ⟨k41,⟨⟩⟩
abbrev i95:Ts:=[.a q10]
abbrev o95:Ts:=[.v (.int .i64)]
abbrev R95:=Option (PTup o95×BTup i95)
abbrev F95:=PTup i95→R95
abbrev g95:=mkG 95 i95 o95
noncomputable def m95 (c158:F158) (c154:F154) (c157:F157) (c161:F161) (c159:F159) (c156:F156) (c153:F153) (c160:F160) (c155:F155):F95:=fun y=>let a0:=y.1;let a1:=a0.2;let a2:=a1.2;let a3:=a2.2;let a4:=a3.2;let a5:=a4.2;let a6:=a5.2;let a7:=a6.2;let a8:=a7.2;let a9:=a8.2;let a10:=a9.2;let a11:=a10.2;let a12:=a11.2;let a13:=a12.2;let a14:=a13.2;let a15:=a14.2;let a16:=a15.2;let a17:=a16.2;let a18:=a17.2;let a19:=a18.2;let a20:=a19.2;let a21:=a20.2;let a22:=a21.2;let a23:=a22.2;let a24:=a23.2;let a25:=a24.2;let a26:=a25.2;let a27:=a26.2;let a28:=a27.2;let a29:=a28.2;let a30:=a29.1;let a31:=a29.2;let a32:=a31.1;let a33:=a31.2;let a34:=a33.2;let a35:=a34.2;let a36:=a35.2;let a37:=a36.2;let a38:=a37.2;let a39:=a38.2;let a40:=a39.2;let a41:=a40.2;let a42:=a41.2.1;bif a15.1 then ((c153 (a0,((7:Int),()))).bind fun r0=>some (r0.1,()))else bif (!a11.1)then ((c154 (a18.1,(a14.1,()))).bind fun r0=>bif r0.1.1 then ((c155 (a0,())).bind fun r1=>bif (!r1.1.1)then (some (((2:Int),()),()))else (c156 (a0,())).bind fun r2=>bif r2.1.1 then ((c153 (a0,((7:Int),()))).bind fun r3=>some (r3.1,()))else (c157 ((a0.1,()),((a2.1,(a3.1,())),(a7.1,())))).bind fun r3=>let X0:R95:=bif (eqI (Zf a42) a41.1)then (some (((4:Int),()),()))else (c161 (r3.1.1.1,())).bind fun r7=>(c153 (a0,r7.1)).bind fun r8=>some (r8.1,());let X1:R95:=bif (eqI (Zf a42) a41.1)then (some (((4:Int),()),()))else (c161 (r3.1.1.1,())).bind fun r6=>(c153 (a0,r6.1)).bind fun r7=>some (r7.1,());let X2:R95:=(c161 (r3.1.1.1,())).bind fun r7=>(c153 (a0,r7.1)).bind fun r8=>some (r8.1,());let X3:R95:=(c161 (r3.1.1.1,())).bind fun r6=>(c153 (a0,r6.1)).bind fun r7=>some (r7.1,());let X4:R95:=(c161 (r3.1.1.1,())).bind fun r8=>(c153 (a0,r8.1)).bind fun r9=>some (r9.1,());let X5:R95:=bif (eqI (Zf a42) a41.1)then (some (((4:Int),()),()))else X4;(c158 (r3.1.1,((a4.1,(a5.1,(a6.1,(a7.1,(a8.1,(a9.1,(a10.1,(a11.1,())))))))),()))).bind fun r4=>(c159 (r4.1.2.1,())).bind fun r5=>let X6:R95:=bif (eqI r4.1.1 1)then (bif (eqI r5.1.1 3)then ((c155 (a0,())).bind fun r6=>let X9:R95:=bif (eqI r4.1.1 2)then (bif (eqI r5.1.1 3)then X0 else X2)else X2;bif (!r6.1.1)then (some (((2:Int),()),()))else bif (eqI r4.1.1 2)then (bif (eqI r5.1.1 2)then (bif (eqI (Zf a32) a30)then (some (((3:Int),()),()))else X9)else X9)else X9)else bif (eqI r4.1.1 2)then (bif (eqI r5.1.1 2)then (bif (eqI (Zf a32) a30)then (some (((3:Int),()),()))else bif (eqI r4.1.1 2)then (bif (eqI r5.1.1 3)then X1 else X3)else X3)else bif (eqI r4.1.1 2)then (bif (eqI r5.1.1 3)then X1 else X3)else X3)else bif (eqI r4.1.1 2)then (bif (eqI r5.1.1 3)then X1 else X3)else X3)else bif (eqI r4.1.1 2)then (bif (eqI r5.1.1 2)then (bif (eqI (Zf a32) a30)then (some (((3:Int),()),()))else bif (eqI r4.1.1 2)then (bif (eqI r5.1.1 3)then X1 else X3)else X3)else bif (eqI r4.1.1 2)then (bif (eqI r5.1.1 3)then X1 else X3)else X3)else bif (eqI r4.1.1 2)then (bif (eqI r5.1.1 3)then X1 else X3)else X3;let X7:R95:=bif (eqI r4.1.1 2)then (bif (eqI r5.1.1 2)then (bif (eqI (Zf a32) a30)then (some (((3:Int),()),()))else bif (eqI r4.1.1 2)then (bif (eqI r5.1.1 3)then X0 else X2)else X2)else bif (eqI r4.1.1 2)then (bif (eqI r5.1.1 3)then X0 else X2)else X2)else bif (eqI r4.1.1 2)then (bif (eqI r5.1.1 3)then X0 else X2)else X2;let X8:R95:=bif (eqI r4.1.1 2)then (bif (eqI r5.1.1 3)then X5 else X4)else X4;bif (eqI r4.1.1 1)then (bif (eqI r5.1.1 2)then ((c160 (a0,())).bind fun r6=>bif (!r6.1.1)then (some (((1:Int),()),()))else bif (eqI r4.1.1 1)then (bif (eqI r5.1.1 3)then ((c155 (a0,())).bind fun r7=>bif (!r7.1.1)then (some (((2:Int),()),()))else bif (eqI r4.1.1 2)then (bif (eqI r5.1.1 2)then (bif (eqI (Zf a32) a30)then (some (((3:Int),()),()))else X8)else X8)else X8)else X7)else X7)else X6)else X6)else (c156 (a0,())).bind fun r1=>bif r1.1.1 then ((c153 (a0,((7:Int),()))).bind fun r2=>some (r2.1,()))else (c157 ((a0.1,()),((a2.1,(a3.1,())),(a7.1,())))).bind fun r2=>let X10:R95:=bif (eqI (Zf a42) a41.1)then (some (((4:Int),()),()))else (c161 (r2.1.1.1,())).bind fun r6=>(c153 (a0,r6.1)).bind fun r7=>some (r7.1,());let X11:R95:=bif (eqI (Zf a42) a41.1)then (some (((4:Int),()),()))else (c161 (r2.1.1.1,())).bind fun r5=>(c153 (a0,r5.1)).bind fun r6=>some (r6.1,());let X12:R95:=(c161 (r2.1.1.1,())).bind fun r6=>(c153 (a0,r6.1)).bind fun r7=>some (r7.1,());let X13:R95:=(c161 (r2.1.1.1,())).bind fun r5=>(c153 (a0,r5.1)).bind fun r6=>some (r6.1,());let X14:R95:=(c161 (r2.1.1.1,())).bind fun r7=>(c153 (a0,r7.1)).bind fun r8=>some (r8.1,());let X15:R95:=bif (eqI (Zf a42) a41.1)then (some (((4:Int),()),()))else X14;(c158 (r2.1.1,((a4.1,(a5.1,(a6.1,(a7.1,(a8.1,(a9.1,(a10.1,(a11.1,())))))))),()))).bind fun r3=>(c159 (r3.1.2.1,())).bind fun r4=>let X16:R95:=bif (eqI r3.1.1 1)then (bif (eqI r4.1.1 3)then ((c155 (a0,())).bind fun r5=>let X19:R95:=bif (eqI r3.1.1 2)then (bif (eqI r4.1.1 3)then X10 else X12)else X12;bif (!r5.1.1)then (some (((2:Int),()),()))else bif (eqI r3.1.1 2)then (bif (eqI r4.1.1 2)then (bif (eqI (Zf a32) a30)then (some (((3:Int),()),()))else X19)else X19)else X19)else bif (eqI r3.1.1 2)then (bif (eqI r4.1.1 2)then (bif (eqI (Zf a32) a30)then (some (((3:Int),()),()))else bif (eqI r3.1.1 2)then (bif (eqI r4.1.1 3)then X11 else X13)else X13)else bif (eqI r3.1.1 2)then (bif (eqI r4.1.1 3)then X11 else X13)else X13)else bif (eqI r3.1.1 2)then (bif (eqI r4.1.1 3)then X11 else X13)else X13)else bif (eqI r3.1.1 2)then (bif (eqI r4.1.1 2)then (bif (eqI (Zf a32) a30)then (some (((3:Int),()),()))else bif (eqI r3.1.1 2)then (bif (eqI r4.1.1 3)then X11 else X13)else X13)else bif (eqI r3.1.1 2)then (bif (eqI r4.1.1 3)then X11 else X13)else X13)else bif (eqI r3.1.1 2)then (bif (eqI r4.1.1 3)then X11 else X13)else X13;let X17:R95:=bif (eqI r3.1.1 2)then (bif (eqI r4.1.1 2)then (bif (eqI (Zf a32) a30)then (some (((3:Int),()),()))else bif (eqI r3.1.1 2)then (bif (eqI r4.1.1 3)then X10 else X12)else X12)else bif (eqI r3.1.1 2)then (bif (eqI r4.1.1 3)then X10 else X12)else X12)else bif (eqI r3.1.1 2)then (bif (eqI r4.1.1 3)then X10 else X12)else X12;let X18:R95:=bif (eqI r3.1.1 2)then (bif (eqI r4.1.1 3)then X15 else X14)else X14;bif (eqI r3.1.1 1)then (bif (eqI r4.1.1 2)then ((c160 (a0,())).bind fun r5=>bif (!r5.1.1)then (some (((1:Int),()),()))else bif (eqI r3.1.1 1)then (bif (eqI r4.1.1 3)then ((c155 (a0,())).bind fun r6=>bif (!r6.1.1)then (some (((2:Int),()),()))else bif (eqI r3.1.1 2)then (bif (eqI r4.1.1 2)then (bif (eqI (Zf a32) a30)then (some (((3:Int),()),()))else X18)else X18)else X18)else X17)else X17)else X16)else X16)else (c157 ((a0.1,()),((a2.1,(a3.1,())),(a7.1,())))).bind fun r0=>let X20:R95:=bif (eqI (Zf a42) a41.1)then (some (((4:Int),()),()))else (c161 (r0.1.1.1,())).bind fun r4=>(c153 (a0,r4.1)).bind fun r5=>some (r5.1,());let X21:R95:=bif (eqI (Zf a42) a41.1)then (some (((4:Int),()),()))else (c161 (r0.1.1.1,())).bind fun r3=>(c153 (a0,r3.1)).bind fun r4=>some (r4.1,());let X22:R95:=(c161 (r0.1.1.1,())).bind fun r4=>(c153 (a0,r4.1)).bind fun r5=>some (r5.1,());let X23:R95:=(c161 (r0.1.1.1,())).bind fun r3=>(c153 (a0,r3.1)).bind fun r4=>some (r4.1,());let X24:R95:=(c161 (r0.1.1.1,())).bind fun r5=>(c153 (a0,r5.1)).bind fun r6=>some (r6.1,());let X25:R95:=bif (eqI (Zf a42) a41.1)then (some (((4:Int),()),()))else X24;(c158 (r0.1.1,((a4.1,(a5.1,(a6.1,(a7.1,(a8.1,(a9.1,(a10.1,(a11.1,())))))))),()))).bind fun r1=>(c159 (r1.1.2.1,())).bind fun r2=>let X26:R95:=bif (eqI r1.1.1 1)then (bif (eqI r2.1.1 3)then ((c155 (a0,())).bind fun r3=>let X29:R95:=bif (eqI r1.1.1 2)then (bif (eqI r2.1.1 3)then X20 else X22)else X22;bif (!r3.1.1)then (some (((2:Int),()),()))else bif (eqI r1.1.1 2)then (bif (eqI r2.1.1 2)then (bif (eqI (Zf a32) a30)then (some (((3:Int),()),()))else X29)else X29)else X29)else bif (eqI r1.1.1 2)then (bif (eqI r2.1.1 2)then (bif (eqI (Zf a32) a30)then (some (((3:Int),()),()))else bif (eqI r1.1.1 2)then (bif (eqI r2.1.1 3)then X21 else X23)else X23)else bif (eqI r1.1.1 2)then (bif (eqI r2.1.1 3)then X21 else X23)else X23)else bif (eqI r1.1.1 2)then (bif (eqI r2.1.1 3)then X21 else X23)else X23)else bif (eqI r1.1.1 2)then (bif (eqI r2.1.1 2)then (bif (eqI (Zf a32) a30)then (some (((3:Int),()),()))else bif (eqI r1.1.1 2)then (bif (eqI r2.1.1 3)then X21 else X23)else X23)else bif (eqI r1.1.1 2)then (bif (eqI r2.1.1 3)then X21 else X23)else X23)else bif (eqI r1.1.1 2)then (bif (eqI r2.1.1 3)then X21 else X23)else X23;let X27:R95:=bif (eqI r1.1.1 2)then (bif (eqI r2.1.1 2)then (bif (eqI (Zf a32) a30)then (some (((3:Int),()),()))else bif (eqI r1.1.1 2)then (bif (eqI r2.1.1 3)then X20 else X22)else X22)else bif (eqI r1.1.1 2)then (bif (eqI r2.1.1 3)then X20 else X22)else X22)else bif (eqI r1.1.1 2)then (bif (eqI r2.1.1 3)then X20 else X22)else X22;let X28:R95:=bif (eqI r1.1.1 2)then (bif (eqI r2.1.1 3)then X25 else X24)else X24;bif (eqI r1.1.1 1)then (bif (eqI r2.1.1 2)then ((c160 (a0,())).bind fun r3=>bif (!r3.1.1)then (some (((1:Int),()),()))else bif (eqI r1.1.1 1)then (bif (eqI r2.1.1 3)then ((c155 (a0,())).bind fun r4=>bif (!r4.1.1)then (some (((2:Int),()),()))else bif (eqI r1.1.1 2)then (bif (eqI r2.1.1 2)then (bif (eqI (Zf a32) a30)then (some (((3:Int),()),()))else X28)else X28)else X28)else X27)else X27)else X26)else X26
theorem s95 (c158:F158) (c154:F154) (c157:F157) (c161:F161) (c159:F159) (c156:F156) (c153:F153) (c160:F160) (c155:F155) (y):TE [g158 c158,g154 c154,g157 c157,g161 c161,g159 c159,g156 c156,g153 c153,g160 c160,g155 c155] Tryz.f95 i95 o95 y=m95 c158 c154 c157 c161 c159 c156 c153 c160 c155 y:=by kernel_rfl
noncomputable def r95:F95:=m95 r158 r154 r157 r161 r159 r156 r153 r160 r155
theorem k95:KO (g95 r95):=fk (s95 r158 r154 r157 r161 r159 r156 r153 r160 r155) ⟨k158,k154,k157,k161,k159,k156,k153,k160,k155,⟨⟩⟩
abbrev i96:Ts:=[.a q3]
abbrev o96:Ts:=[.v (.str)]
abbrev F96:=FT i96 o96
abbrev g96:=mkG 96 i96 o96
noncomputable def m96 (c90:F90) (c43:F43):F96:=fun y=>(c90 (y.1,())).bind fun r0=>bif (!r0.1.1)then (some ((bz [],()),()))else (c43 (y.1.1,())).bind fun r1=>bif (leN ((ByteArray.size (bz [65]))+(ByteArray.size r1.1.1)) 4611686018427387904)then (let p:=bz [65]++r1.1.1;bif (leN ((ByteArray.size p)+(ByteArray.size (bz [32,88]))) 4611686018427387904)then ((c43 (y.1.2.1,())).bind fun r2=>let p:=p++bz [32,88];bif (leN ((ByteArray.size p)+(ByteArray.size r2.1.1)) 4611686018427387904)then (let p:=p++r2.1.1;bif (leN ((ByteArray.size p)+(ByteArray.size (bz [32,83]))) 4611686018427387904)then ((c43 (y.1.2.2.1,())).bind fun r3=>let p:=p++bz [32,83];bif (leN ((ByteArray.size p)+(ByteArray.size r3.1.1)) 4611686018427387904)then (let p:=p++r3.1.1;bif (leN ((ByteArray.size p)+(ByteArray.size (bz [32,80,99]))) 4611686018427387904)then ((c43 (y.1.2.2.2.1,())).bind fun r4=>let p:=p++bz [32,80,99];bif (leN ((ByteArray.size p)+(ByteArray.size r4.1.1)) 4611686018427387904)then (let p:=p++r4.1.1;bif (leN ((ByteArray.size p)+(ByteArray.size (bz [32]))) 4611686018427387904)then (let p:=p++bz [32];let g:=fun f:ByteArray=>bif (leN ((ByteArray.size p)+(ByteArray.size f)) 4611686018427387904)then some (((p++f,()),()):(ByteArray×Unit)×Unit)else none;(bif y.1.2.2.2.2.2.2.1 then (bif y.1.2.2.2.2.1 then (bif y.1.2.2.2.2.2.2.2.1 then (bif y.1.2.2.2.2.2.1 then (g ((((bz []++bz [67])++bz [90])++bz [73])++bz [78]))else (g (((bz []++bz [67])++bz [90])++bz [73])))else (bif y.1.2.2.2.2.2.1 then (g (((bz []++bz [67])++bz [90])++bz [78]))else (g ((bz []++bz [67])++bz [90]))))else (bif y.1.2.2.2.2.2.2.2.1 then (bif y.1.2.2.2.2.2.1 then (g (((bz []++bz [67])++bz [73])++bz [78]))else (g ((bz []++bz [67])++bz [73])))else (bif y.1.2.2.2.2.2.1 then (g ((bz []++bz [67])++bz [78]))else (g (bz []++bz [67])))))else (bif y.1.2.2.2.2.1 then (bif y.1.2.2.2.2.2.2.2.1 then (bif y.1.2.2.2.2.2.1 then (g (((bz []++bz [90])++bz [73])++bz [78]))else (g ((bz []++bz [90])++bz [73])))else (bif y.1.2.2.2.2.2.1 then (g ((bz []++bz [90])++bz [78]))else (g (bz []++bz [90]))))else (bif y.1.2.2.2.2.2.2.2.1 then (bif y.1.2.2.2.2.2.1 then (g ((bz []++bz [73])++bz [78]))else (g (bz []++bz [73])))else (bif y.1.2.2.2.2.2.1 then (g (bz []++bz [78]))else (g (bz [45])))))))else none)else none)else none)else none)else none)else none)else none)else none
theorem s96 (c90:F90) (c43:F43) (y):TE [g90 c90,g43 c43] Tryz.f96 i96 o96 y=m96 c90 c43 y:=by kernel_rfl
noncomputable def r96:F96:=m96 r90 r43
theorem k96:KO (g96 r96):=fk (s96 r90 r43) ⟨k90,k43,⟨⟩⟩
abbrev i223:Ts:=[.a q10]
abbrev o223:Ts:=[.v (.bool)]
abbrev F223:=FT i223 o223
abbrev g223:=mkG 223 i223 o223
noncomputable def m223 (c36:F36):F223:=fun y=>(c36 (y.1,())).bind fun r0=>bif r0.1.1 then (some (((leI y.1.2.2.2.2.2.2.2.2.2.2.2.2.2.2.2.2.2.2.2.1 3000),()),()))else no
theorem s223 (c36:F36) (y):TE [g36 c36] Tryz.f223 i223 o223 y=m223 c36 y:=by kernel_rfl
noncomputable def r223:F223:=m223 r36
theorem k223:KO (g223 r223):=fk (s223 r36) ⟨k36,⟨⟩⟩
abbrev i323:Ts:=[.a q16]
abbrev o323:Ts:=[.v (.bool)]
abbrev F323:=FT i323 o323
abbrev g323:=mkG 323 i323 o323
noncomputable def m323 (c152:F152) (c90:F90) (c89:F89) (c88:F88) (c149:F149) (c151:F151) (c41:F41) (c93:F93):F323:=fun y=>let a0:=y.1;let a1:=a0.2;let a2:=a1.2;let a3:=a2.2;let a4:=a3.2;let a5:=a4.2;let a6:=a5.2;let a7:=a6.2;let a8:=a7.2;let a9:=a8.2;let a10:=a9.2;let a11:=a10.2;let a12:=a11.2;let a13:=a12.2;let a14:=a13.2;let a15:=a14.2;let a16:=a15.2;let a17:=a16.2;let a18:=a17.2;let a19:=a18.2;let a20:=a19.2;let a21:=a20.2;let a22:=a21.2.2;let a23:=a22.2.2;let a24:=a23.2.2.2;(c88 (a1.1,())).bind fun r0=>bif r0.1.1 then ((c89 ((a0.1,()),((a2.1,(a3.1,())),()))).bind fun r1=>bif r1.1.1 then ((c90 ((a4.1,(a5.1,(a6.1,(a7.1,(a8.1,(a9.1,(a10.1,(a11.1,())))))))),())).bind fun r2=>bif r2.1.1 then ((c149 ((a12.1,(a13.1,(a14.1,(a15.1,(a16.1,(a17.1,(a18.1,(a19.1,())))))))),())).bind fun r3=>bif r3.1.1 then ((c152 ((a20.1,(a21.1,(a21.2.1,(a22.1,(a22.2.1,(a23.1,(a23.2.1,()))))))),())).bind fun r4=>bif r4.1.1 then ((c93 (a24.1,())).bind fun r5=>bif r5.1.1 then (bif (eqI a12.1 a20.1)then ((c41 (a24.2.2.1,((0:Int),(a12.1,())))).bind fun r6=>bif r6.1.1 then ((c151 (a24.2.2.2.1,(a12.1,()))).bind fun r7=>bif r7.1.1 then (some (((eqI (Zf a24.2.2.2.2.1) (wI (Int.tdiv a12.1 16))),()),()))else no)else no)else no)else no)else no)else no)else no)else no)else no
theorem s323 (c152:F152) (c90:F90) (c89:F89) (c88:F88) (c149:F149) (c151:F151) (c41:F41) (c93:F93) (y):TE [g152 c152,g90 c90,g89 c89,g88 c88,g149 c149,g151 c151,g41 c41,g93 c93] Tryz.f323 i323 o323 y=m323 c152 c90 c89 c88 c149 c151 c41 c93 y:=by kernel_rfl
noncomputable def r323:F323:=m323 r152 r90 r89 r88 r149 r151 r41 r93
theorem k323:KO (g323 r323):=fk (s323 r152 r90 r89 r88 r149 r151 r41 r93) ⟨k152,k90,k89,k88,k149,k151,k41,k93,⟨⟩⟩
abbrev i275:Ts:=[.a q0, .v (.sl false .i)]
abbrev o275:Ts:=[.a q17, .v (.bool)]
abbrev F275:=FT i275 o275
abbrev g275:=mkG 275 i275 o275
noncomputable def m275 (c83:F83) (c323:F323) (c82:F82) (c84:F84) (c81:F81):F275:=fun y=>(c81 (y.1,())).bind fun r0=>bif (leN (0+(List.length y.2.1)) (E.most .i))then ((c82 ()).bind fun r1=>(c83 (y.1,())).bind fun r2=>(c84 ()).bind fun r3=>(c323 ((r0.1.1.1,(([]++y.2.1),(r1.1.1.1,(r1.1.1.2.1,(r2.1.1.1,(r2.1.1.2.1,(r2.1.1.2.2.1,(r2.1.1.2.2.2.1,(r2.1.1.2.2.2.2.1,(r2.1.1.2.2.2.2.2.1,(r2.1.1.2.2.2.2.2.2.1,(r2.1.1.2.2.2.2.2.2.2.1,(r3.1.1.1,(r3.1.1.2.1,(r3.1.1.2.2.1,(r3.1.1.2.2.2.1,(r3.1.1.2.2.2.2.1,(r3.1.1.2.2.2.2.2.1,(r3.1.1.2.2.2.2.2.2.1,(r3.1.1.2.2.2.2.2.2.2.1,((0:Int),((0:Int),((0:Int),((0:Int),((0:Int),(false,(false,(false,((0:Int),(false,((0:Int),([],([],([],())))))))))))))))))))))))))))))))))),())).bind fun r4=>bif (!r4.1.1)then (some ((([],([],([],((0:Int),((0:Int),((0:Int),((0:Int),((0:Int),(false,(false,(false,(false,((0:Int),((0:Int),((0:Int),((0:Int),((0:Int),(false,([],([],((0:Int),((0:Int),((0:Int),((0:Int),((0:Int),(false,(false,(false,((0:Int),(false,((0:Int),([],([],([],())))))))))))))))))))))))))))))))))),(false,())),()))else some (((r0.1.1.1,(([]++y.2.1),(r1.1.1.1,(r1.1.1.2.1,(r2.1.1.1,(r2.1.1.2.1,(r2.1.1.2.2.1,(r2.1.1.2.2.2.1,(r2.1.1.2.2.2.2.1,(r2.1.1.2.2.2.2.2.1,(r2.1.1.2.2.2.2.2.2.1,(r2.1.1.2.2.2.2.2.2.2.1,(r3.1.1.1,(r3.1.1.2.1,(r3.1.1.2.2.1,(r3.1.1.2.2.2.1,(r3.1.1.2.2.2.2.1,(r3.1.1.2.2.2.2.2.1,(r3.1.1.2.2.2.2.2.2.1,(r3.1.1.2.2.2.2.2.2.2.1,((0:Int),((0:Int),((0:Int),((0:Int),((0:Int),(false,(false,(false,((0:Int),(false,((0:Int),([],([],([],())))))))))))))))))))))))))))))))))),(true,())),()))else none
theorem s275 (c83:F83) (c323:F323) (c82:F82) (c84:F84) (c81:F81) (y):TE [g83 c83,g323 c323,g82 c82,g84 c84,g81 c81] Tryz.f275 i275 o275 y=m275 c83 c323 c82 c84 c81 y:=by kernel_rfl
noncomputable def r275:F275:=m275 r83 r323 r82 r84 r81
theorem k275:KO (g275 r275):=fk (s275 r83 r323 r82 r84 r81) ⟨k83,k323,k82,k84,k81,⟨⟩⟩
abbrev i324:Ts:=[.a q16]
abbrev o324:Ts:=[.a q17]
abbrev F324:=FT i324 o324
abbrev g324:=mkG 324 i324 o324
noncomputable def m324 (c81:F81) (c147:F147) (c85:F85) (c145:F145):F324:=fun y=>let a0:=y.1;let a1:=a0.2;let a2:=a1.2;let a3:=a2.2;let a4:=a3.2;let a5:=a4.2;let a6:=a5.2;let a7:=a6.2;let a8:=a7.2;let a9:=a8.2;let a10:=a9.2;let a11:=a10.2;let a12:=a11.2;let a13:=a12.2;let a14:=a13.2;let a15:=a14.2;let a16:=a15.2;let a17:=a16.2;let a18:=a17.2;let a19:=a18.2;let a20:=a19.2;let a21:=a20.2;let a22:=a21.2;let a23:=a22.2;let a24:=a23.2;let a25:=a24.2;let a26:=a25.2;let a27:=a26.2.2;let a28:=a27.2.2;(c81 ((a0.1,()),())).bind fun r0=>bif (leN (0+(List.length a1.1)) (E.most .i))then ((c85 ((a2.1,(a3.1,())),())).bind fun r1=>(c145 ((a12.1,(a13.1,(a14.1,(a15.1,(a16.1,(a17.1,(a18.1,(a19.1,())))))))),())).bind fun r2=>(c147 (a28.2.1,())).bind fun r3=>bif (leN (0+(List.length a28.2.2.1)) (E.most .i))then (bif (leN (0+(List.length a28.2.2.2.1)) (E.most .i))then (some (((r0.1.1.1,(([]++a1.1),(r1.1.1.1,(r1.1.1.2.1,(a4.1,(a5.1,(a6.1,(a7.1,(a8.1,(a9.1,(a10.1,(a11.1,(r2.1.1.1,(r2.1.1.2.1,(r2.1.1.2.2.1,(r2.1.1.2.2.2.1,(r2.1.1.2.2.2.2.1,(r2.1.1.2.2.2.2.2.1,(r2.1.1.2.2.2.2.2.2.1,(r2.1.1.2.2.2.2.2.2.2.1,(a20.1,(a21.1,(a22.1,(a23.1,(a24.1,(a25.1,(a26.1,(a26.2.1,(a27.1,(a27.2.1,(a28.1,(r3.1.1,(([]++a28.2.2.1),(([]++a28.2.2.2.1),())))))))))))))))))))))))))))))))))),()),()))else none)else none)else none
theorem s324 (c81:F81) (c147:F147) (c85:F85) (c145:F145) (y):TE [g81 c81,g147 c147,g85 c85,g145 c145] Tryz.f324 i324 o324 y=m324 c81 c147 c85 c145 y:=by kernel_rfl
noncomputable def r324:F324:=m324 r81 r147 r85 r145
theorem k324:KO (g324 r324):=fk (s324 r81 r147 r85 r145) ⟨k81,k147,k85,k145,⟨⟩⟩
abbrev i326:Ts:=[.v (.bool)]
abbrev o326:Ts:=[.v (.int .i64)]
abbrev F326:=FT i326 o326
abbrev g326:=mkG 326 i326 o326
noncomputable def m326:F326:=fun y=>bif y.1 then (some (((1:Int),()),()))else some (((0:Int),()),())
theorem s326 (y):TE [] Tryz.f326 i326 o326 y=m326 y:=by kernel_rfl
noncomputable def r326:F326:=m326
theorem k326:KO (g326 r326):=fk (s326) trivial
abbrev i280:Ts:=[.a q3]
abbrev o280:Ts:=[.v (.int .i64)]
abbrev F280:=FT i280 o280
abbrev g280:=mkG 280 i280 o280
noncomputable def m280 (c326:F326):F280:=fun y=>(c326 (y.1.2.2.2.2.2.2.1,())).bind fun r0=>(c326 (y.1.2.2.2.2.1,())).bind fun r1=>(c326 y.1.2.2.2.2.2.2.2).bind fun r2=>(c326 (y.1.2.2.2.2.2.1,())).bind fun r3=>some (((wI ((wI ((wI (r0.1.1+(wI ((2:Int)*r1.1.1))))+(wI ((4:Int)*r2.1.1))))+(wI ((128:Int)*r3.1.1)))),()),())
theorem s280 (c326:F326) (y):TE [g326 c326] Tryz.f280 i280 o280 y=m280 c326 y:=by kernel_rfl
noncomputable def r280:F280:=m280 r326
theorem k280:KO (g280 r280):=fk (s280 r326) ⟨k326,⟨⟩⟩
abbrev i281:Ts:=[.a q2, .a q3, .v (.int .i64)]
abbrev o281:Ts:=[.a q1, .a q3]
abbrev F281:=FT i281 o281
abbrev g281:=mkG 281 i281 o281
noncomputable def m281 (c80:F80) (c85:F85):F281:=fun y=>(c85 (y.1,())).bind fun r0=>bif (neI (Zf y.1.1) 512)then (some ((r0.1.1,(y.2.1,())),()))else (c80 (y.2.1.2.2.1,())).bind fun r1=>(c80 y.2.2).bind fun r2=>bif (leI 0 (wI ((256:Int)+r1.1.1)))then (bif (ltI (wI ((256:Int)+r1.1.1)) (Zf r0.1.1.1))then ((c80 ((wI (y.2.1.2.2.1-1)),())).bind fun r3=>some ((((List.set r0.1.1.1 (Int.toNat (wI ((256:Int)+r1.1.1))) r2.1.1),r0.1.1.2),((y.2.1.1,(y.2.1.2.1,(r3.1.1,y.2.1.2.2.2))),())),()))else none)else none
theorem s281 (c80:F80) (c85:F85) (y):TE [g80 c80,g85 c85] Tryz.f281 i281 o281 y=m281 c80 c85 y:=by kernel_rfl
noncomputable def r281:F281:=m281 r80 r85
theorem k281:KO (g281 r281):=fk (s281 r80 r85) ⟨k80,k85,⟨⟩⟩
abbrev i232:Ts:=[.a q0, .a q2, .a q3, .v (.int .i64)]
abbrev o232:Ts:=[.a q1, .a q3]
abbrev F232:=FT i232 o232
abbrev g232:=mkG 232 i232 o232
noncomputable def m232 (c280:F280) (c143:F143) (c144:F144) (c281:F281) (c85:F85):F232:=fun y=>(c85 (y.2.1,())).bind fun r0=>(c280 (y.2.2.1,())).bind fun r1=>(c281 (r0.1.1,(y.2.2.1,((Int.fdiv y.2.2.1.2.2.2.1 ((2:Int)^(Min.min (Int.toNat (8:Int)) (64:Nat)))),())))).bind fun r2=>(c281 (r2.1.1,(r2.1.2.1,(r2.1.2.1.2.2.2.1,())))).bind fun r3=>(c281 (r3.1.1,(r3.1.2.1,r1.1))).bind fun r4=>(c144 (y.1,(r4.1.1,y.2.2.2))).bind fun r5=>(c144 (y.1,(r4.1.1,((wI (y.2.2.2.1+1)),())))).bind fun r6=>(c143 (r5.1.1,r6.1)).bind fun r7=>some ((r4.1.1,((r4.1.2.1.1,(r4.1.2.1.2.1,(r4.1.2.1.2.2.1,(r7.1.1,(r4.1.2.1.2.2.2.2.1,(r4.1.2.1.2.2.2.2.2.1,(r4.1.2.1.2.2.2.2.2.2.1,(true,())))))))),())),())
theorem s232 (c280:F280) (c143:F143) (c144:F144) (c281:F281) (c85:F85) (y):TE [g280 c280,g143 c143,g144 c144,g281 c281,g85 c85] Tryz.f232 i232 o232 y=m232 c280 c143 c144 c281 c85 y:=by kernel_rfl
noncomputable def r232:F232:=m232 r280 r143 r144 r281 r85
theorem k232:KO (g232 r232):=fk (s232 r280 r143 r144 r281 r85) ⟨k280,k143,k144,k281,k85,⟨⟩⟩
abbrev i282:Ts:=[.a q5, .v (.int .i64)]
abbrev o282:Ts:=[.a q4, .v (.int .i64)]
abbrev F282:=FT i282 o282
abbrev g282:=mkG 282 i282 o282
noncomputable def m282 (c149:F149) (c326:F326) (c145:F145):F282:=fun y=>(c145 (y.1,())).bind fun r0=>(c149 (y.1,())).bind fun r1=>bif (!r1.1.1)then (some ((r0.1.1,((0:Int),())),()))else bif (eqI y.2.1 2)then ((c326 (y.1.2.2.2.2.2.1,())).bind fun r2=>some (((r0.1.1.1,(r0.1.1.2.1,(r0.1.1.2.2.1,(r0.1.1.2.2.2.1,(r0.1.1.2.2.2.2.1,(false,r0.1.1.2.2.2.2.2.2)))))),((wI ((128:Int)*r2.1.1)),())),()))else bif (eqI y.2.1 4)then (bif (leI 0 y.1.2.2.2.1)then (bif (ltI y.1.2.2.2.1 (Zf y.1.2.2.2.2.2.2.1))then (some (((r0.1.1.1,(r0.1.1.2.1,(r0.1.1.2.2.1,((Int.tmod (wI (y.1.2.2.2.1+1)) (16:Int)),r0.1.1.2.2.2.2)))),((rdE .i y.1.2.2.2.2.2.2.1 y.1.2.2.2.1),())),()))else none)else none)else some ((r0.1.1,((0:Int),())),())
theorem s282 (c149:F149) (c326:F326) (c145:F145) (y):TE [g149 c149,g326 c326,g145 c145] Tryz.f282 i282 o282 y=m282 c149 c326 c145 y:=by kernel_rfl
noncomputable def r282:F282:=m282 r149 r326 r145
theorem k282:KO (g282 r282):=fk (s282 r149 r326 r145) ⟨k149,k326,k145,⟨⟩⟩
abbrev i283:Ts:=[.a q8, .v (.int .i64)]
abbrev o283:Ts:=[.a q8, .v (.int .i64)]
abbrev F283:=FT i283 o283
abbrev g283:=mkG 283 i283 o283
noncomputable def m283 (c152:F152) (c326:F326):F283:=fun y=>(c152 (y.1,())).bind fun r0=>bif (!r0.1.1)then (some ((y.1,((0:Int),())),()))else bif (neI y.2.1 2)then (some ((y.1,((0:Int),())),()))else (c326 y.1.2.2.2.2.2.2).bind fun r1=>(c326 ((ltI 0 y.1.2.2.2.2.1),())).bind fun r2=>some (((y.1.1,(y.1.2.1,(y.1.2.2.1,(y.1.2.2.2.1,(y.1.2.2.2.2.1,(y.1.2.2.2.2.2.1,(false,()))))))),((wI ((wI ((128:Int)*r1.1.1))+r2.1.1)),())),())
theorem s283 (c152:F152) (c326:F326) (y):TE [g152 c152,g326 c326] Tryz.f283 i283 o283 y=m283 c152 c326 y:=by kernel_rfl
noncomputable def r283:F283:=m283 r152 r326
theorem k283:KO (g283 r283):=fk (s283 r152 r326) ⟨k152,k326,⟨⟩⟩
abbrev i341:Ts:=[.v (.int .i64)]
abbrev o341:Ts:=[.v (.int .i64)]
abbrev F341:=FT i341 o341
abbrev g341:=mkG 341 i341 o341
noncomputable def m341 (c105:F105):F341:=fun y=>(c105 (y.1,((0:Int),()))).bind fun r0=>some (((wI (Int.tdiv r0.1.1 64)),()),())
theorem s341 (c105:F105) (y):TE [g105 c105] Tryz.f341 i341 o341 y=m341 c105 y:=by kernel_rfl
noncomputable def r341:F341:=m341 r105
theorem k341:KO (g341 r341):=fk (s341 r105) ⟨k105,⟨⟩⟩
abbrev i327:Ts:=[.v (.sl false .i), .v (.int .i64)]
abbrev o327:Ts:=[.v (.int .i64)]
abbrev F327:=FT i327 o327
abbrev g327:=mkG 327 i327 o327
noncomputable def m327 (c341:F341) (c88:F88):F327:=fun y=>(c88 (y.1,())).bind fun r0=>bif (!r0.1.1)then (some (((0:Int),()),()))else bif (eqI (Zf y.1) 0)then (some (((0:Int),()),()))else (c341 y.2).bind fun r1=>bif (neI (Zf y.1) 0)then (bif (leI 0 (Int.tmod r1.1.1 (Zf y.1)))then (bif (ltI (Int.tmod r1.1.1 (Zf y.1)) (Zf y.1))then (some (((rdE .i y.1 (Int.tmod r1.1.1 (Zf y.1))),()),()))else none)else none)else none
theorem s327 (c341:F341) (c88:F88) (y):TE [g341 c341,g88 c88] Tryz.f327 i327 o327 y=m327 c341 c88 y:=by kernel_rfl
noncomputable def r327:F327:=m327 r341 r88
theorem k327:KO (g327 r327):=fk (s327 r341 r88) ⟨k341,k88,⟨⟩⟩
abbrev i284:Ts:=[.a q18, .v (.sl false .i), .v (.int .i64)]
abbrev o284:Ts:=[.a q18, .v (.int .i64)]
abbrev F284:=FT i284 o284
abbrev g284:=mkG 284 i284 o284
noncomputable def m284 (c327:F327):F284:=fun y=>bif y.1.1 then ((c327 y.2).bind fun r0=>some (((y.1.1,r0.1),((ZL Go.IntKind.i64 r0.1.1 (1:Int)),())),()))else some (((y.1.1,((Int.fdiv y.1.2.1 ((2:Int)^(Min.min (Int.toNat (1:Int)) (64:Nat)))),())),((ZL Go.IntKind.i64 y.1.2.1 (1:Int)),())),())
theorem s284 (c327:F327) (y):TE [g327 c327] Tryz.f284 i284 o284 y=m284 c327 y:=by kernel_rfl
noncomputable def r284:F284:=m284 r327
theorem k284:KO (g284 r284):=fk (s284 r327) ⟨k327,⟨⟩⟩
abbrev i347:Ts:=[.a q17, .v (.int .i64)]
abbrev o347:Ts:=[.a q17, .v (.int .i64)]
abbrev F347:=FT i347 o347
abbrev g347:=mkG 347 i347 o347
noncomputable def m347 (c283:F283) (c284:F284) (c282:F282) (c159:F159) (c217:F217):F347:=fun y=>let a0:=y.1;let a1:=a0.2;let a2:=a1.2;let a3:=a2.2;let a4:=a3.2;let a5:=a4.2;let a6:=a5.2;let a7:=a6.2;let a8:=a7.2;let a9:=a8.2;let a10:=a9.2;let a11:=a10.2;let a12:=a11.2;let a13:=a12.2;let a14:=a13.2;let a15:=a14.2;let a16:=a15.2;let a17:=a16.2;let a18:=a17.2;let a19:=a18.2;let a20:=a19.2;let a21:=a20.2;let a22:=a21.2;let a23:=a22.2;let a24:=a23.2;let a25:=a24.2;let a26:=a25.2;let a27:=a26.2;let a28:=a27.2;let a29:=a28.2;let a30:=a29.2;let a31:=a30.2;let a32:=a31.2.2;(c159 y.2).bind fun r0=>bif (eqI r0.1.1 2)then ((c282 ((a12.1,(a13.1,(a14.1,(a15.1,(a16.1,(a17.1,(a18.1,(a19.1,())))))))),r0.1.2)).bind fun r1=>bif (leN ((List.length a32.1)+(List.length (r1.1.2.1::[]))) (E.most .i))then (some (((a0.1,(a1.1,(a2.1,(a3.1,(a4.1,(a5.1,(a6.1,(a7.1,(a8.1,(a9.1,(a10.1,(a11.1,(r1.1.1.1,(r1.1.1.2.1,(r1.1.1.2.2.1,(r1.1.1.2.2.2.1,(r1.1.1.2.2.2.2.1,(r1.1.1.2.2.2.2.2.1,(r1.1.1.2.2.2.2.2.2.1,(r1.1.1.2.2.2.2.2.2.2.1,(a20.1,(a21.1,(a22.1,(a23.1,(a24.1,(a25.1,(a26.1,(a27.1,(a28.1,(a29.1,(a30.1,(a31.1,(a31.2.1,((a32.1++(r1.1.2.1::[])),())))))))))))))))))))))))))))))))))),r1.1.2),()))else none)else bif (eqI r0.1.1 3)then ((c283 ((a20.1,(a21.1,(a22.1,(a23.1,(a24.1,(a25.1,(a26.1,()))))))),r0.1.2)).bind fun r1=>bif (leN ((List.length a32.1)+(List.length (r1.1.2.1::[]))) (E.most .i))then (some (((a0.1,(a1.1,(a2.1,(a3.1,(a4.1,(a5.1,(a6.1,(a7.1,(a8.1,(a9.1,(a10.1,(a11.1,(a12.1,(a13.1,(a14.1,(a15.1,(a16.1,(a17.1,(a18.1,(a19.1,(r1.1.1.1,(r1.1.1.2.1,(r1.1.1.2.2.1,(r1.1.1.2.2.2.1,(r1.1.1.2.2.2.2.1,(r1.1.1.2.2.2.2.2.1,(r1.1.1.2.2.2.2.2.2.1,(a27.1,(a28.1,(a29.1,(a30.1,(a31.1,(a31.2.1,((a32.1++(r1.1.2.1::[])),())))))))))))))))))))))))))))))))))),r1.1.2),()))else none)else bif (eqI r0.1.1 4)then ((c284 ((a27.1,(a28.1,())),(a1.1,(a12.1,())))).bind fun r1=>bif (leN ((List.length a32.1)+(List.length (r1.1.2.1::[]))) (E.most .i))then (some (((a0.1,(a1.1,(a2.1,(a3.1,(a4.1,(a5.1,(a6.1,(a7.1,(a8.1,(a9.1,(a10.1,(a11.1,(a12.1,(a13.1,(a14.1,(a15.1,(a16.1,(a17.1,(a18.1,(a19.1,(a20.1,(a21.1,(a22.1,(a23.1,(a24.1,(a25.1,(a26.1,(r1.1.1.1,(r1.1.1.2.1,(a29.1,(a30.1,(a31.1,(a31.2.1,((a32.1++(r1.1.2.1::[])),())))))))))))))))))))))))))))))))))),r1.1.2),()))else none)else (c217 ((a0.1,()),((a2.1,(a3.1,())),y.2))).bind fun r1=>some ((a0,r1.1),())
theorem s347 (c283:F283) (c284:F284) (c282:F282) (c159:F159) (c217:F217) (y):TE [g283 c283,g284 c284,g282 c282,g159 c159,g217 c217] Tryz.f347 i347 o347 y=m347 c283 c284 c282 c159 c217 y:=by kernel_rfl
noncomputable def r347:F347:=m347 r283 r284 r282 r159 r217
theorem k347:KO (g347 r347):=fk (s347 r283 r284 r282 r159 r217) ⟨k283,k284,k282,k159,k217,⟨⟩⟩
abbrev i168:Ts:=[.a q5, .v (.int .i64), .v (.int .i64)]
abbrev o168:Ts:=[.a q4]
abbrev F168:=FT i168 o168
abbrev g168:=mkG 168 i168 o168
noncomputable def m168 (c80:F80) (c149:F149) (c145:F145):F168:=fun y=>(c145 (y.1,())).bind fun r0=>(c149 (y.1,())).bind fun r1=>bif (!r1.1.1)then (some ((r0.1.1,()),()))else (c80 y.2.2).bind fun r2=>bif (eqI y.2.1 0)then (some (((r0.1.1.1,(r2.1.1,r0.1.1.2.2)),()),()))else bif (eqI y.2.1 1)then (some (((r0.1.1.1,(r0.1.1.2.1,(r2.1.1,r0.1.1.2.2.2))),()),()))else bif (eqI y.2.1 3)then (some (((r0.1.1.1,(r0.1.1.2.1,(r0.1.1.2.2.1,((Int.tmod r2.1.1 16),r0.1.1.2.2.2.2)))),()),()))else bif (eqI y.2.1 4)then (bif (leI 0 y.1.2.2.2.1)then (bif (ltI y.1.2.2.2.1 (Zf r0.1.1.2.2.2.2.2.2.1))then (some (((r0.1.1.1,(r0.1.1.2.1,(r0.1.1.2.2.1,((Int.tmod (wI (y.1.2.2.2.1+1)) (16:Int)),(r0.1.1.2.2.2.2.1,(r0.1.1.2.2.2.2.2.1,((List.set r0.1.1.2.2.2.2.2.2.1 (Int.toNat y.1.2.2.2.1) (Int.tmod r2.1.1 64)),r0.1.1.2.2.2.2.2.2.2))))))),()),()))else none)else none)else bif (eqI y.2.1 5)then (some (((r0.1.1.1,(r0.1.1.2.1,(r0.1.1.2.2.1,(r0.1.1.2.2.2.1,((Int.tmod r2.1.1 64),r0.1.1.2.2.2.2.2))))),()),()))else some ((r0.1.1,()),())
theorem s168 (c80:F80) (c149:F149) (c145:F145) (y):TE [g80 c80,g149 c149,g145 c145] Tryz.f168 i168 o168 y=m168 c80 c149 c145 y:=by kernel_rfl
noncomputable def r168:F168:=m168 r80 r149 r145
theorem k168:KO (g168 r168):=fk (s168 r80 r149 r145) ⟨k80,k149,k145,⟨⟩⟩
abbrev i170:Ts:=[.a q8, .v (.int .i64), .v (.int .i64)]
abbrev o170:Ts:=[.a q8]
abbrev F170:=FT i170 o170
abbrev g170:=mkG 170 i170 o170
noncomputable def m170 (c152:F152) (c80:F80):F170:=fun y=>(c152 (y.1,())).bind fun r0=>bif (!r0.1.1)then (some ((y.1,()),()))else (c80 y.2.2).bind fun r1=>bif (eqI y.2.1 0)then (some (((y.1.1,(r1.1.1,y.1.2.2)),()),()))else bif (eqI y.2.1 1)then (some (((y.1.1,(y.1.2.1,(y.1.2.2.1,(y.1.2.2.2.1,((Int.tmod r1.1.1 32),y.1.2.2.2.2.2))))),()),()))else bif (eqI y.2.1 2)then (bif y.1.2.2.2.2.2.2.1 then (some (((y.1.1,(y.1.2.1,(y.1.2.2.1,(y.1.2.2.2.1,(y.1.2.2.2.2.1,((eqI (Int.tmod r1.1.1 2) (1:Int)),((eqI (Int.tmod r1.1.1 2) (1:Int)),()))))))),()),()))else some (((y.1.1,(y.1.2.1,(y.1.2.2.1,(y.1.2.2.2.1,(y.1.2.2.2.2.1,((eqI (Int.tmod r1.1.1 2) (1:Int)),(false,()))))))),()),()))else bif (eqI y.2.1 3)then (some (((y.1.1,(y.1.2.1,(y.1.2.2.1,(y.1.2.2.2.1,(y.1.2.2.2.2.1,(y.1.2.2.2.2.2.1,(false,()))))))),()),()))else some ((y.1,()),())
theorem s170 (c152:F152) (c80:F80) (y):TE [g152 c152,g80 c80] Tryz.f170 i170 o170 y=m170 c152 c80 y:=by kernel_rfl
noncomputable def r170:F170:=m170 r152 r80
theorem k170:KO (g170 r170):=fk (s170 r152 r80) ⟨k152,k80,⟨⟩⟩
abbrev i285:Ts:=[.a q18, .v (.sl false .i), .v (.int .i64), .v (.int .i64)]
abbrev o285:Ts:=[.a q18]
abbrev F285:=FT i285 o285
abbrev g285:=mkG 285 i285 o285
noncomputable def m285 (c327:F327):F285:=fun y=>bif y.1.1 then ((c327 (y.2.1,(y.2.2.1,()))).bind fun r0=>some ((((eqI (ZL Go.IntKind.i64 y.2.2.2.1 (1:Int)) (1:Int)),r0.1),()),()))else bif (eqI (ZL Go.IntKind.i64 y.2.2.2.1 (1:Int)) (1:Int))then ((c327 (y.2.1,(y.2.2.1,()))).bind fun r0=>some ((((eqI (ZL Go.IntKind.i64 y.2.2.2.1 (1:Int)) (1:Int)),r0.1),()),()))else some ((((eqI (ZL Go.IntKind.i64 y.2.2.2.1 (1:Int)) (1:Int)),y.1.2),()),())
theorem s285 (c327:F327) (y):TE [g327 c327] Tryz.f285 i285 o285 y=m285 c327 y:=by kernel_rfl
noncomputable def r285:F285:=m285 r327
theorem k285:KO (g285 r285):=fk (s285 r327) ⟨k327,⟨⟩⟩
abbrev i286:Ts:=[.a q0, .a q2, .v (.int .i64), .v (.int .i64)]
abbrev o286:Ts:=[.a q1]
abbrev R286:=Option (PTup o286×BTup i286)
abbrev F286:=PTup i286→R286
abbrev g286:=mkG 286 i286 o286
noncomputable def m286 (c80:F80) (c89:F89) (c159:F159) (c85:F85):F286:=fun y=>(c85 (y.2.1,())).bind fun r0=>let X0:R286:=(c80 y.2.2.2).bind fun r3=>bif (neI (Zf y.1.1) 0)then (some (((r0.1.1.1,((Int.tmod r3.1.1 (Zf y.1.1)),())),()),()))else none;(c89 (y.1,(y.2.1,()))).bind fun r1=>bif (!r1.1.1)then (some ((r0.1.1,()),()))else (c159 (y.2.2.1,())).bind fun r2=>bif (eqI r2.1.1 1)then ((c80 y.2.2.2).bind fun r3=>bif (leI 0 r2.1.2.1)then (bif (ltI r2.1.2.1 (Zf r0.1.1.1))then (some ((((List.set r0.1.1.1 (Int.toNat r2.1.2.1) r3.1.1),r0.1.1.2),()),()))else none)else none)else bif (eqI r2.1.1 5)then (bif (eqI r2.1.1 5)then X0 else some ((r0.1.1,()),()))else bif (eqI r2.1.1 6)then X0 else some ((r0.1.1,()),())
theorem s286 (c80:F80) (c89:F89) (c159:F159) (c85:F85) (y):TE [g80 c80,g89 c89,g159 c159,g85 c85] Tryz.f286 i286 o286 y=m286 c80 c89 c159 c85 y:=by kernel_rfl
noncomputable def r286:F286:=m286 r80 r89 r159 r85
theorem k286:KO (g286 r286):=fk (s286 r80 r89 r159 r85) ⟨k80,k89,k159,k85,⟨⟩⟩
abbrev i348:Ts:=[.a q17, .v (.int .i64), .v (.int .i64)]
abbrev o348:Ts:=[.a q17]
abbrev F348:=FT i348 o348
abbrev g348:=mkG 348 i348 o348
noncomputable def m348 (c170:F170) (c285:F285) (c286:F286) (c168:F168) (c159:F159):F348:=fun y=>let a0:=y.1;let a1:=a0.2;let a2:=a1.2;let a3:=a2.2;let a4:=a3.2;let a5:=a4.2;let a6:=a5.2;let a7:=a6.2;let a8:=a7.2;let a9:=a8.2;let a10:=a9.2;let a11:=a10.2;let a12:=a11.2;let a13:=a12.2;let a14:=a13.2;let a15:=a14.2;let a16:=a15.2;let a17:=a16.2;let a18:=a17.2;let a19:=a18.2;let a20:=a19.2;let a21:=a20.2;let a22:=a21.2;let a23:=a22.2;let a24:=a23.2;let a25:=a24.2.2;(c159 (y.2.1,())).bind fun r0=>bif (eqI r0.1.1 2)then ((c168 ((a12.1,(a13.1,(a14.1,(a15.1,(a16.1,(a17.1,(a18.1,(a19.1,())))))))),(r0.1.2.1,y.2.2))).bind fun r1=>some (((a0.1,(a1.1,(a2.1,(a3.1,(a4.1,(a5.1,(a6.1,(a7.1,(a8.1,(a9.1,(a10.1,(a11.1,(r1.1.1.1,(r1.1.1.2.1,(r1.1.1.2.2.1,(r1.1.1.2.2.2.1,(r1.1.1.2.2.2.2.1,(r1.1.1.2.2.2.2.2.1,(r1.1.1.2.2.2.2.2.2.1,(r1.1.1.2.2.2.2.2.2.2.1,a20)))))))))))))))))))),()),()))else bif (eqI r0.1.1 3)then ((c170 ((a20.1,(a21.1,(a22.1,(a23.1,(a24.1,(a24.2.1,(a25.1,()))))))),(r0.1.2.1,y.2.2))).bind fun r1=>some (((a0.1,(a1.1,(a2.1,(a3.1,(a4.1,(a5.1,(a6.1,(a7.1,(a8.1,(a9.1,(a10.1,(a11.1,(a12.1,(a13.1,(a14.1,(a15.1,(a16.1,(a17.1,(a18.1,(a19.1,(r1.1.1.1,(r1.1.1.2.1,(r1.1.1.2.2.1,(r1.1.1.2.2.2.1,(r1.1.1.2.2.2.2.1,(r1.1.1.2.2.2.2.2.1,(r1.1.1.2.2.2.2.2.2.1,a25.2))))))))))))))))))))))))))),()),()))else bif (eqI r0.1.1 4)then ((c285 ((a25.2.1,(a25.2.2.1,())),(a1.1,(a12.1,y.2.2)))).bind fun r1=>some (((a0.1,(a1.1,(a2.1,(a3.1,(a4.1,(a5.1,(a6.1,(a7.1,(a8.1,(a9.1,(a10.1,(a11.1,(a12.1,(a13.1,(a14.1,(a15.1,(a16.1,(a17.1,(a18.1,(a19.1,(a20.1,(a21.1,(a22.1,(a23.1,(a24.1,(a24.2.1,(a25.1,(r1.1.1.1,(r1.1.1.2.1,a25.2.2.2))))))))))))))))))))))))))))),()),()))else (c286 ((a0.1,()),((a2.1,(a3.1,())),y.2))).bind fun r1=>some (((a0.1,(a1.1,(r1.1.1.1,(r1.1.1.2.1,a4)))),()),())
theorem s348 (c170:F170) (c285:F285) (c286:F286) (c168:F168) (c159:F159) (y):TE [g170 c170,g285 c285,g286 c286,g168 c168,g159 c159] Tryz.f348 i348 o348 y=m348 c170 c285 c286 c168 c159 y:=by kernel_rfl
noncomputable def r348:F348:=m348 r170 r285 r286 r168 r159
theorem k348:KO (g348 r348):=fk (s348 r170 r285 r286 r168 r159) ⟨k170,k285,k286,k168,k159,⟨⟩⟩
abbrev i330:Ts:=[.v (.int .i64)]
abbrev o330:Ts:=[.v (.bool), .v (.bool)]
abbrev F330:=FT i330 o330
abbrev g330:=mkG 330 i330 o330
noncomputable def m330 (c80:F80):F330:=fun y=>(c80 y).bind fun r0=>(c80 y).bind fun r1=>some (((eqI r0.1.1 0),((ltI 127 r1.1.1),())),())
theorem s330 (c80:F80) (y):TE [g80 c80] Tryz.f330 i330 o330 y=m330 c80 y:=by kernel_rfl
noncomputable def r330:F330:=m330 r80
theorem k330:KO (g330 r330):=fk (s330 r80) ⟨k80,⟨⟩⟩
abbrev i290:Ts:=[.a q3, .v (.int .i64)]
abbrev o290:Ts:=[.a q3]
abbrev F290:=FT i290 o290
abbrev g290:=mkG 290 i290 o290
noncomputable def m290 (c80:F80) (c330:F330):F290:=fun y=>(c80 y.2).bind fun r0=>(c330 y.2).bind fun r1=>some (((r0.1.1,(y.1.2.1,(y.1.2.2.1,(y.1.2.2.2.1,(r1.1.1,(r1.1.2.1,y.1.2.2.2.2.2.2)))))),()),())
theorem s290 (c80:F80) (c330:F330) (y):TE [g80 c80,g330 c330] Tryz.f290 i290 o290 y=m290 c80 c330 y:=by kernel_rfl
noncomputable def r290:F290:=m290 r80 r330
theorem k290:KO (g290 r290):=fk (s290 r80 r330) ⟨k80,k330,⟨⟩⟩
abbrev i342:Ts:=[.v (.int .i64), .v (.int .i64), .v (.bool)]
abbrev o342:Ts:=[.v (.int .i64), .v (.bool)]
abbrev F342:=FT i342 o342
abbrev g342:=mkG 342 i342 o342
noncomputable def m342 (c80:F80) (c326:F326):F342:=fun y=>(c80 (y.1,())).bind fun r0=>(c80 (y.2.1,())).bind fun r1=>(c326 y.2.2).bind fun r2=>(c80 ((wI ((wI (r0.1.1+r1.1.1))+r2.1.1)),())).bind fun r3=>some ((r3.1.1,((ltI 255 (wI ((wI (r0.1.1+r1.1.1))+r2.1.1))),())),())
theorem s342 (c80:F80) (c326:F326) (y):TE [g80 c80,g326 c326] Tryz.f342 i342 o342 y=m342 c80 c326 y:=by kernel_rfl
noncomputable def r342:F342:=m342 r80 r326
theorem k342:KO (g342 r342):=fk (s342 r80 r326) ⟨k80,k326,⟨⟩⟩
abbrev i328:Ts:=[.a q3, .v (.int .i64)]
abbrev o328:Ts:=[.a q3]
abbrev F328:=FT i328 o328
abbrev g328:=mkG 328 i328 o328
noncomputable def m328 (c342:F342) (c290:F290):F328:=fun y=>(c342 (y.1.1,(y.2.1,(y.1.2.2.2.2.2.2.1,())))).bind fun r0=>(c290 (y.1,(r0.1.1,()))).bind fun r1=>some (((r1.1.1.1,(r1.1.1.2.1,(r1.1.1.2.2.1,(r1.1.1.2.2.2.1,(r1.1.1.2.2.2.2.1,(r1.1.1.2.2.2.2.2.1,(r0.1.2.1,r1.1.1.2.2.2.2.2.2.2))))))),()),())
theorem s328 (c342:F342) (c290:F290) (y):TE [g342 c342,g290 c290] Tryz.f328 i328 o328 y=m328 c342 c290 y:=by kernel_rfl
noncomputable def r328:F328:=m328 r342 r290
theorem k328:KO (g328 r328):=fk (s328 r342 r290) ⟨k342,k290,⟨⟩⟩
abbrev i329:Ts:=[.v (.int .i64), .v (.int .i64), .v (.bool)]
abbrev o329:Ts:=[.v (.int .i64), .v (.bool)]
abbrev F329:=FT i329 o329
abbrev g329:=mkG 329 i329 o329
noncomputable def m329 (c80:F80) (c326:F326):F329:=fun y=>(c80 (y.1,())).bind fun r0=>(c80 (y.2.1,())).bind fun r1=>(c326 y.2.2).bind fun r2=>(c80 ((wI ((wI ((wI (r0.1.1-r1.1.1))-1))+r2.1.1)),())).bind fun r3=>some ((r3.1.1,((leI 0 (wI ((wI ((wI (r0.1.1-r1.1.1))-1))+r2.1.1))),())),())
theorem s329 (c80:F80) (c326:F326) (y):TE [g80 c80,g326 c326] Tryz.f329 i329 o329 y=m329 c80 c326 y:=by kernel_rfl
noncomputable def r329:F329:=m329 r80 r326
theorem k329:KO (g329 r329):=fk (s329 r80 r326) ⟨k80,k326,⟨⟩⟩
abbrev i331:Ts:=[.a q3, .v (.int .i64)]
abbrev o331:Ts:=[.a q3]
abbrev F331:=FT i331 o331
abbrev g331:=mkG 331 i331 o331
noncomputable def m331 (c80:F80) (c330:F330):F331:=fun y=>(c80 y.2).bind fun r0=>(c330 y.2).bind fun r1=>some (((y.1.1,(r0.1.1,(y.1.2.2.1,(y.1.2.2.2.1,(r1.1.1,(r1.1.2.1,y.1.2.2.2.2.2.2)))))),()),())
theorem s331 (c80:F80) (c330:F330) (y):TE [g80 c80,g330 c330] Tryz.f331 i331 o331 y=m331 c80 c330 y:=by kernel_rfl
noncomputable def r331:F331:=m331 r80 r330
theorem k331:KO (g331 r331):=fk (s331 r80 r330) ⟨k80,k330,⟨⟩⟩
abbrev i287:Ts:=[.a q3, .a q15, .v (.int .i64)]
abbrev o287:Ts:=[.a q3, .v (.bool)]
abbrev R287:=Option (PTup o287×BTup i287)
abbrev F287:=PTup i287→R287
abbrev g287:=mkG 287 i287 o287
noncomputable def m287 (c80:F80) (c290:F290) (c331:F331) (c330:F330) (c329:F329) (c328:F328):F287:=fun y=>let X0:R287:=bif (eqI y.2.1.1 4)then ((c328 (y.1,y.2.1.2)).bind fun r0=>some ((r0.1.1,(true,())),()))else bif (eqI y.2.1.1 29)then ((c328 (y.1,y.2.2)).bind fun r0=>some ((r0.1.1,(true,())),()))else bif (eqI y.2.1.1 5)then ((c329 (y.1.1,(y.2.1.2.1,(y.1.2.2.2.2.2.2.1,())))).bind fun r0=>(c290 (y.1,(r0.1.1,()))).bind fun r1=>some (((r1.1.1.1,(r1.1.1.2.1,(r1.1.1.2.2.1,(r1.1.1.2.2.2.1,(r1.1.1.2.2.2.2.1,(r1.1.1.2.2.2.2.2.1,(r0.1.2.1,r1.1.1.2.2.2.2.2.2.2))))))),(true,())),()))else bif (eqI y.2.1.1 6)then ((c80 (y.1.1,())).bind fun r0=>(c80 y.2.1.2).bind fun r1=>(c290 (y.1,((ZL Go.IntKind.i64 r0.1.1 r1.1.1),()))).bind fun r2=>some ((r2.1.1,(true,())),()))else bif (eqI y.2.1.1 7)then ((c80 (y.1.1,())).bind fun r0=>(c80 y.2.1.2).bind fun r1=>(c290 (y.1,((bOr Go.IntKind.i64 r0.1.1 r1.1.1),()))).bind fun r2=>some ((r2.1.1,(true,())),()))else bif (eqI y.2.1.1 8)then ((c80 (y.1.1,())).bind fun r0=>(c80 y.2.1.2).bind fun r1=>(c290 (y.1,((Yo Go.IntKind.i64 r0.1.1 r1.1.1),()))).bind fun r2=>some ((r2.1.1,(true,())),()))else bif (eqI y.2.1.1 9)then ((c80 (y.1.1,())).bind fun r0=>(c80 y.2.1.2).bind fun r1=>(c330 ((wI (r0.1.1-r1.1.1)),())).bind fun r2=>(c80 (y.1.1,())).bind fun r3=>(c80 y.2.1.2).bind fun r4=>some (((y.1.1,(y.1.2.1,(y.1.2.2.1,(y.1.2.2.2.1,(r2.1.1,(r2.1.2.1,((leI r4.1.1 r3.1.1),y.1.2.2.2.2.2.2.2))))))),(true,())),()))else bif (eqI y.2.1.1 10)then ((c331 (y.1,(y.1.1,()))).bind fun r0=>some ((r0.1.1,(true,())),()))else bif (eqI y.2.1.1 11)then ((c290 (y.1,(y.1.2.1,()))).bind fun r0=>some ((r0.1.1,(true,())),()))else bif (eqI y.2.1.1 12)then ((c80 (y.1.2.1,())).bind fun r0=>(c331 (y.1,((wI (r0.1.1+1)),()))).bind fun r1=>some ((r1.1.1,(true,())),()))else bif (eqI y.2.1.1 13)then ((c80 (y.1.2.1,())).bind fun r0=>(c331 (y.1,((wI (r0.1.1-1)),()))).bind fun r1=>some ((r1.1.1,(true,())),()))else some ((y.1,(false,())),());bif (eqI y.2.1.1 1)then ((c290 (y.1,y.2.1.2)).bind fun r0=>some ((r0.1.1,(true,())),()))else bif (eqI y.2.1.1 2)then (bif (eqI y.2.1.1 2)then ((c290 (y.1,y.2.2)).bind fun r0=>some ((r0.1.1,(true,())),()))else X0)else bif (eqI y.2.1.1 14)then ((c290 (y.1,y.2.2)).bind fun r0=>some ((r0.1.1,(true,())),()))else X0
theorem s287 (c80:F80) (c290:F290) (c331:F331) (c330:F330) (c329:F329) (c328:F328) (y):TE [g80 c80,g290 c290,g331 c331,g330 c330,g329 c329,g328 c328] Tryz.f287 i287 o287 y=m287 c80 c290 c331 c330 c329 c328 y:=by kernel_rfl
noncomputable def r287:F287:=m287 r80 r290 r331 r330 r329 r328
theorem k287:KO (g287 r287):=fk (s287 r80 r290 r331 r330 r329 r328) ⟨k80,k290,k331,k330,k329,k328,⟨⟩⟩
abbrev i289:Ts:=[.a q2, .a q3]
abbrev o289:Ts:=[.a q3, .v (.int .i64)]
abbrev F289:=FT i289 o289
abbrev g289:=mkG 289 i289 o289
noncomputable def m289 (c80:F80):F289:=fun y=>bif (neI (Zf y.1.1) 512)then (some ((y.2.1,((0:Int),())),()))else (c80 ((wI (y.2.1.2.2.1+1)),())).bind fun r0=>bif (leI 0 (wI ((256:Int)+r0.1.1)))then (bif (ltI (wI ((256:Int)+r0.1.1)) (Zf y.1.1))then ((c80 ((rdE .i y.1.1 (wI ((256:Int)+r0.1.1))),())).bind fun r1=>some (((y.2.1.1,(y.2.1.2.1,(r0.1.1,y.2.1.2.2.2))),r1.1),()))else none)else none
theorem s289 (c80:F80) (y):TE [g80 c80] Tryz.f289 i289 o289 y=m289 c80 y:=by kernel_rfl
noncomputable def r289:F289:=m289 r80
theorem k289:KO (g289 r289):=fk (s289 r80) ⟨k80,⟨⟩⟩
abbrev i288:Ts:=[.a q2, .a q3]
abbrev o288:Ts:=[.a q3]
abbrev F288:=FT i288 o288
abbrev g288:=mkG 288 i288 o288
noncomputable def m288 (c143:F143) (c289:F289):F288:=fun y=>(c289 (y.1,(y.2.1,()))).bind fun r0=>(c289 (y.1,(r0.1.1,()))).bind fun r1=>(c143 (r0.1.2.1,r1.1.2)).bind fun r2=>some (((r1.1.1.1,(r1.1.1.2.1,(r1.1.1.2.2.1,(r2.1.1,r1.1.1.2.2.2.2)))),()),())
theorem s288 (c143:F143) (c289:F289) (y):TE [g143 c143,g289 c289] Tryz.f288 i288 o288 y=m288 c143 c289 y:=by kernel_rfl
noncomputable def r288:F288:=m288 r143 r289
theorem k288:KO (g288 r288):=fk (s288 r143 r289) ⟨k143,k289,⟨⟩⟩
abbrev i291:Ts:=[.a q3, .v (.int .i64)]
abbrev o291:Ts:=[.a q3]
abbrev F291:=FT i291 o291
abbrev g291:=mkG 291 i291 o291
noncomputable def m291:F291:=fun y=>some (((y.1.1,(y.1.2.1,(y.1.2.2.1,(y.1.2.2.2.1,((neI (ZL Go.IntKind.i64 y.2.1 (2:Int)) (0:Int)),((neI (ZL Go.IntKind.i64 y.2.1 (128:Int)) (0:Int)),((neI (ZL Go.IntKind.i64 y.2.1 (1:Int)) (0:Int)),((neI (ZL Go.IntKind.i64 y.2.1 (4:Int)) (0:Int)),())))))))),()),())
theorem s291 (y):TE [] Tryz.f291 i291 o291 y=m291 y:=by kernel_rfl
noncomputable def r291:F291:=m291
theorem k291:KO (g291 r291):=fk (s291) trivial
abbrev i236:Ts:=[.a q2, .a q3, .a q15, .v (.int .i64)]
abbrev o236:Ts:=[.a q1, .a q3]
abbrev R236:=Option (PTup o236×BTup i236)
abbrev F236:=PTup i236→R236
abbrev g236:=mkG 236 i236 o236
noncomputable def m236 (c222:F222) (c142:F142) (c289:F289) (c281:F281) (c290:F290) (c291:F291) (c85:F85) (c287:F287) (c288:F288):F236:=fun y=>let a0:=y.2;let a1:=a0.1;let a2:=a0.2;let a3:=a1.1;let a4:=a1.2;let a5:=a2.1;let a6:=a4.1;let a7:=a4.2;let a8:=a5.1;let a9:=a7.1;let a10:=a7.2;let a11:=a10.2;let a12:=a11.2;(c85 (y.1,())).bind fun r0=>let X0:R236:=(c222 a5.2).bind fun r4=>some ((r0.1.1,((a3,(a6,(a9,(r4.1.1,a11)))),())),());(c142 (a8,())).bind fun r1=>(c222 ((wI (a10.1+r1.1.1)),())).bind fun r2=>let X1:R236:=bif (eqI a8 20)then ((c281 (r0.1.1,((a3,(a6,(a9,(r2.1.1,a11)))),((Int.fdiv r2.1.1 ((2:Int)^(Min.min (Int.toNat (8:Int)) (64:Nat)))),())))).bind fun r4=>(c281 (r4.1.1,(r4.1.2.1,(r4.1.2.1.2.2.2.1,())))).bind fun r5=>(c222 a5.2).bind fun r6=>some ((r5.1.1,((r5.1.2.1.1,(r5.1.2.1.2.1,(r5.1.2.1.2.2.1,(r6.1.1,r5.1.2.1.2.2.2.2)))),())),()))else bif (eqI a8 21)then ((c288 (y.1,((a3,(a6,(a9,(r2.1.1,a11)))),()))).bind fun r4=>some ((r0.1.1,(r4.1.1,())),()))else bif (eqI a8 22)then ((c281 (r0.1.1,((a3,(a6,(a9,(r2.1.1,a11)))),(a3,())))).bind fun r4=>some ((r4.1.1,(r4.1.2.1,())),()))else bif (eqI a8 23)then ((c289 (y.1,((a3,(a6,(a9,(r2.1.1,a11)))),()))).bind fun r4=>(c290 r4.1).bind fun r5=>some ((r0.1.1,(r5.1.1,())),()))else bif (eqI a8 24)then ((c289 (y.1,((a3,(a6,(a9,(r2.1.1,a11)))),()))).bind fun r4=>(c291 r4.1).bind fun r5=>(c288 (y.1,(r5.1.1,()))).bind fun r6=>some ((r0.1.1,(r6.1.1,())),()))else bif (eqI a8 25)then (bif (eqI a8 25)then (some ((r0.1.1,((a3,(a6,(a9,(r2.1.1,(a11.1,(a12.1,(a12.2.1,((eqI a8 25),())))))))),())),()))else bif (eqI a8 27)then (bif (eqI a8 27)then (some ((r0.1.1,((a3,(a6,(a9,(r2.1.1,(a11.1,(a12.1,((eqI a8 27),a12.2.2))))))),())),()))else some ((r0.1.1,((a3,(a6,(a9,(r2.1.1,a11)))),())),()))else bif (eqI a8 28)then (some ((r0.1.1,((a3,(a6,(a9,(r2.1.1,(a11.1,(a12.1,((eqI a8 27),a12.2.2))))))),())),()))else some ((r0.1.1,((a3,(a6,(a9,(r2.1.1,a11)))),())),()))else bif (eqI a8 26)then (some ((r0.1.1,((a3,(a6,(a9,(r2.1.1,(a11.1,(a12.1,(a12.2.1,((eqI a8 25),())))))))),())),()))else bif (eqI a8 27)then (bif (eqI a8 27)then (some ((r0.1.1,((a3,(a6,(a9,(r2.1.1,(a11.1,(a12.1,((eqI a8 27),a12.2.2))))))),())),()))else some ((r0.1.1,((a3,(a6,(a9,(r2.1.1,a11)))),())),()))else bif (eqI a8 28)then (some ((r0.1.1,((a3,(a6,(a9,(r2.1.1,(a11.1,(a12.1,((eqI a8 27),a12.2.2))))))),())),()))else some ((r0.1.1,((a3,(a6,(a9,(r2.1.1,a11)))),())),());let X2:R236:=bif (eqI a8 17)then (bif a11.1 then X0 else bif (eqI a8 18)then (bif a12.2.1 then X0 else bif (eqI a8 19)then X0 else some ((r0.1.1,((a3,(a6,(a9,(r2.1.1,a11)))),())),()))else bif (eqI a8 19)then X0 else some ((r0.1.1,((a3,(a6,(a9,(r2.1.1,a11)))),())),()))else bif (eqI a8 18)then (bif a12.2.1 then X0 else bif (eqI a8 19)then X0 else some ((r0.1.1,((a3,(a6,(a9,(r2.1.1,a11)))),())),()))else bif (eqI a8 19)then X0 else some ((r0.1.1,((a3,(a6,(a9,(r2.1.1,a11)))),())),());let X3:R236:=bif (eqI a8 16)then (bif (!a11.1)then X0 else X2)else X2;(c287 ((a3,(a6,(a9,(r2.1.1,a11)))),a2)).bind fun r3=>bif r3.1.2.1 then (some ((r0.1.1,(r3.1.1,())),()))else bif (eqI a8 16)then (bif (eqI a8 16)then X3 else X1)else bif (eqI a8 17)then (bif (eqI a8 17)then X3 else X1)else bif (eqI a8 18)then (bif (eqI a8 18)then X3 else X1)else bif (eqI a8 19)then X3 else X1
theorem s236 (c222:F222) (c142:F142) (c289:F289) (c281:F281) (c290:F290) (c291:F291) (c85:F85) (c287:F287) (c288:F288) (y):TE [g222 c222,g142 c142,g289 c289,g281 c281,g290 c290,g291 c291,g85 c85,g287 c287,g288 c288] Tryz.f236 i236 o236 y=m236 c222 c142 c289 c281 c290 c291 c85 c287 c288 y:=by kernel_rfl
noncomputable def r236:F236:=m236 r222 r142 r289 r281 r290 r291 r85 r287 r288
theorem k236:KO (g236 r236):=fk (s236 r222 r142 r289 r281 r290 r291 r85 r287 r288) ⟨k222,k142,k289,k281,k290,k291,k85,k287,k288,⟨⟩⟩
abbrev i345:Ts:=[.a q17]
abbrev o345:Ts:=[.a q17, .v (.int .i64)]
abbrev R345:=Option (PTup o345×BTup i345)
abbrev F345:=PTup i345→R345
abbrev g345:=mkG 345 i345 o345
noncomputable def m345 (c158:F158) (c232:F232) (c236:F236) (c157:F157) (c161:F161) (c347:F347) (c348:F348):F345:=fun y=>let a0:=y.1;let a1:=a0.2;let a2:=a1.2;let a3:=a2.2;let a4:=a3.2;let a5:=a4.2;let a6:=a5.2;let a7:=a6.2;let a8:=a7.2;let a9:=a8.2;let a10:=a9.2;let a11:=a10.2;let a12:=a11.2;let a13:=a12.2;let a14:=a13.2;let a15:=a14.2;let a16:=a15.2;let a17:=a16.2;let a18:=a17.2;let a19:=a18.2;let a20:=a19.2;let a21:=a20.2;let a22:=a21.2;let a23:=a22.2.2;let a24:=a23.2.2;let X0:R345:=(c157 ((a0.1,()),((a2.1,(a3.1,())),(a7.1,())))).bind fun r0=>(c158 (r0.1.1,((a4.1,(a5.1,(a6.1,(a7.1,(a8.1,(a9.1,(a10.1,(a11.1,())))))))),()))).bind fun r1=>bif (eqI r1.1.1 1)then ((c347 (a0,(r1.1.2.1,()))).bind fun r2=>(c236 ((r2.1.1.2.2.1,(r2.1.1.2.2.2.1,())),((r2.1.1.2.2.2.2.1,(r2.1.1.2.2.2.2.2.1,(r2.1.1.2.2.2.2.2.2.1,(r2.1.1.2.2.2.2.2.2.2.1,(r2.1.1.2.2.2.2.2.2.2.2.1,(r2.1.1.2.2.2.2.2.2.2.2.2.1,(r2.1.1.2.2.2.2.2.2.2.2.2.2.1,(r2.1.1.2.2.2.2.2.2.2.2.2.2.2.1,())))))))),(r0.1.1,r2.1.2)))).bind fun r3=>(c161 (r0.1.1.1,())).bind fun r4=>some (((r2.1.1.1,(r2.1.1.2.1,(r3.1.1.1,(r3.1.1.2.1,(r3.1.2.1.1,(r3.1.2.1.2.1,(r3.1.2.1.2.2.1,(r3.1.2.1.2.2.2.1,(r3.1.2.1.2.2.2.2.1,(r3.1.2.1.2.2.2.2.2.1,(r3.1.2.1.2.2.2.2.2.2.1,(r3.1.2.1.2.2.2.2.2.2.2.1,r2.1.1.2.2.2.2.2.2.2.2.2.2.2.2)))))))))))),r4.1),()))else bif (eqI r1.1.1 2)then ((c348 (a0,r1.1.2)).bind fun r2=>(c236 ((r2.1.1.2.2.1,(r2.1.1.2.2.2.1,())),((r2.1.1.2.2.2.2.1,(r2.1.1.2.2.2.2.2.1,(r2.1.1.2.2.2.2.2.2.1,(r2.1.1.2.2.2.2.2.2.2.1,(r2.1.1.2.2.2.2.2.2.2.2.1,(r2.1.1.2.2.2.2.2.2.2.2.2.1,(r2.1.1.2.2.2.2.2.2.2.2.2.2.1,(r2.1.1.2.2.2.2.2.2.2.2.2.2.2.1,())))))))),(r0.1.1,((0:Int),()))))).bind fun r3=>(c161 (r0.1.1.1,())).bind fun r4=>some (((r2.1.1.1,(r2.1.1.2.1,(r3.1.1.1,(r3.1.1.2.1,(r3.1.2.1.1,(r3.1.2.1.2.1,(r3.1.2.1.2.2.1,(r3.1.2.1.2.2.2.1,(r3.1.2.1.2.2.2.2.1,(r3.1.2.1.2.2.2.2.2.1,(r3.1.2.1.2.2.2.2.2.2.1,(r3.1.2.1.2.2.2.2.2.2.2.1,r2.1.1.2.2.2.2.2.2.2.2.2.2.2.2)))))))))))),r4.1),()))else (c236 ((a2.1,(a3.1,())),((a4.1,(a5.1,(a6.1,(a7.1,(a8.1,(a9.1,(a10.1,(a11.1,())))))))),(r0.1.1,((0:Int),()))))).bind fun r2=>(c161 (r0.1.1.1,())).bind fun r3=>some (((a0.1,(a1.1,(r2.1.1.1,(r2.1.1.2.1,(r2.1.2.1.1,(r2.1.2.1.2.1,(r2.1.2.1.2.2.1,(r2.1.2.1.2.2.2.1,(r2.1.2.1.2.2.2.2.1,(r2.1.2.1.2.2.2.2.2.1,(r2.1.2.1.2.2.2.2.2.2.1,(r2.1.2.1.2.2.2.2.2.2.2.1,a12)))))))))))),r3.1),());bif a24.2.2.2.1 then ((c232 ((a0.1,()),((a2.1,(a3.1,())),((a4.1,(a5.1,(a6.1,(a7.1,(a8.1,(a9.1,(a10.1,(a11.1,())))))))),((65530:Int),()))))).bind fun r0=>some (((a0.1,(a1.1,(r0.1.1.1,(r0.1.1.2.1,(r0.1.2.1.1,(r0.1.2.1.2.1,(r0.1.2.1.2.2.1,(r0.1.2.1.2.2.2.1,(r0.1.2.1.2.2.2.2.1,(r0.1.2.1.2.2.2.2.2.1,(r0.1.2.1.2.2.2.2.2.2.1,(r0.1.2.1.2.2.2.2.2.2.2.1,(a12.1,(a13.1,(a14.1,(a15.1,(a16.1,(a17.1,(a18.1,(a19.1,(a20.1,(a21.1,(a22.1,(a22.2.1,(a23.1,(a23.2.1,(a24.1,(a24.2.1,(a24.2.2.1,(false,a24.2.2.2.2)))))))))))))))))))))))))))))),((7:Int),())),()))else bif a24.1 then (bif (!a11.1)then ((c232 ((a0.1,()),((a2.1,(a3.1,())),((a4.1,(a5.1,(a6.1,(a7.1,(a8.1,(a9.1,(a10.1,(a11.1,())))))))),((65534:Int),()))))).bind fun r0=>some (((a0.1,(a1.1,(r0.1.1.1,(r0.1.1.2.1,(r0.1.2.1.1,(r0.1.2.1.2.1,(r0.1.2.1.2.2.1,(r0.1.2.1.2.2.2.1,(r0.1.2.1.2.2.2.2.1,(r0.1.2.1.2.2.2.2.2.1,(r0.1.2.1.2.2.2.2.2.2.1,(r0.1.2.1.2.2.2.2.2.2.2.1,a12)))))))))))),((7:Int),())),()))else X0)else X0
theorem s345 (c158:F158) (c232:F232) (c236:F236) (c157:F157) (c161:F161) (c347:F347) (c348:F348) (y):TE [g158 c158,g232 c232,g236 c236,g157 c157,g161 c161,g347 c347,g348 c348] Tryz.f345 i345 o345 y=m345 c158 c232 c236 c157 c161 c347 c348 y:=by kernel_rfl
noncomputable def r345:F345:=m345 r158 r232 r236 r157 r161 r347 r348
theorem k345:KO (g345 r345):=fk (s345 r158 r232 r236 r157 r161 r347 r348) ⟨k158,k232,k236,k157,k161,k347,k348,⟨⟩⟩
abbrev i237:Ts:=[.a q5, .v (.int .i64)]
abbrev o237:Ts:=[.v (.int .i64)]
abbrev F237:=FT i237 o237
abbrev g237:=mkG 237 i237 o237
noncomputable def m237:F237:=fun y=>bif (leI 0 (Int.tmod (wI ((wI ((Int.tmod y.2.1 8)+y.1.2.2.1))+(wI (Int.tdiv y.2.1 8)))) (16:Int)))then (bif (ltI (Int.tmod (wI ((wI ((Int.tmod y.2.1 8)+y.1.2.2.1))+(wI (Int.tdiv y.2.1 8)))) (16:Int)) (Zf y.1.2.2.2.2.2.2.1))then (some (((Yo Go.IntKind.i64 (rdE .i y.1.2.2.2.2.2.2.1 (Int.tmod (wI ((wI ((Int.tmod y.2.1 8)+y.1.2.2.1))+(wI (Int.tdiv y.2.1 8)))) (16:Int))) y.1.2.2.2.2.1),()),()))else none)else none
theorem s237 (y):TE [] Tryz.f237 i237 o237 y=m237 y:=by kernel_rfl
noncomputable def r237:F237:=m237
theorem k237:KO (g237 r237):=fk (s237) trivial
abbrev i169:Ts:=[.a q5]
abbrev o169:Ts:=[.a q4, .v (.sl true .i), .v (.bool)]
abbrev F169:=FT i169 o169
abbrev g169:=mkG 169 i169 o169
noncomputable def m169 (c145:F145) (c237:F237):F169:=fun y=>(c145 (y.1,())).bind fun r0=>bif (eqI y.1.1 20000)then (some ((r0.1.1,([],(false,()))),()))else bif (ltI (Int.tmod y.1.1 64) (48:Int))then ((c237 (y.1,((Int.tmod y.1.1 64),()))).bind fun r1=>bif (leN ((List.length r0.1.1.2.2.2.2.2.2.2.1)+(List.length (r1.1.1::[]))) (E.most .i))then (some ((((wI (y.1.1+1)),(r0.1.1.2.1,(r0.1.1.2.2.1,(r0.1.1.2.2.2.1,(r0.1.1.2.2.2.2.1,(r0.1.1.2.2.2.2.2.1,(r0.1.1.2.2.2.2.2.2.1,((r0.1.1.2.2.2.2.2.2.2.1++(r1.1.1::[])),())))))))),([],(false,()))),()))else none)else bif (eqI (Int.tmod y.1.1 64) (48:Int))then (bif (leN (0+(List.length y.1.2.2.2.2.2.2.2.1)) (E.most .i))then (some ((((wI (y.1.1+1)),(r0.1.1.2.1,(r0.1.1.2.2.1,(r0.1.1.2.2.2.1,(r0.1.1.2.2.2.2.1,(true,(r0.1.1.2.2.2.2.2.2.1,([],())))))))),(([]++y.1.2.2.2.2.2.2.2.1),((ltI 127 y.1.2.1),()))),()))else none)else bif (eqI (Int.tmod y.1.1 64) (63:Int))then (some ((((wI (y.1.1+1)),(r0.1.1.2.1,(r0.1.1.2.2.1,(r0.1.1.2.2.2.1,(r0.1.1.2.2.2.2.1,(false,r0.1.1.2.2.2.2.2.2)))))),([],(false,()))),()))else some ((((wI (y.1.1+1)),r0.1.1.2),([],(false,()))),())
theorem s169 (c145:F145) (c237:F237) (y):TE [g145 c145,g237 c237] Tryz.f169 i169 o169 y=m169 c145 c237 y:=by kernel_rfl
noncomputable def r169:F169:=m169 r145 r237
theorem k169:KO (g169 r169):=fk (s169 r145 r237) ⟨k145,k237,⟨⟩⟩
abbrev i171:Ts:=[.a q8]
abbrev o171:Ts:=[.a q8, .v (.int .i64), .v (.bool)]
abbrev R171:=Option (PTup o171×BTup i171)
abbrev F171:=PTup i171→R171
abbrev g171:=mkG 171 i171 o171
noncomputable def m171:F171:=fun y=>let a0:=y.1;let a1:=a0.1;let a2:=a0.2;let a3:=a2.1;let a4:=a2.2;let a5:=a4.1;let a6:=a4.2;let a7:=a6.1;let a8:=a6.2;let a9:=a8.1;let a10:=a8.2;let a11:=a10.1;let X0:R171:=bif (eqI (Int.tmod a1 16) (15:Int))then (bif (ltI 0 a9)then (some ((((wI (a1+1)),(a3,(a3,((wI ((1:Int)-a7)),a8)))),((wI ((8:Int)*(wI ((1:Int)-a7)))),((eqI (Int.tmod a1 16) (15:Int)),()))),()))else some ((((wI (a1+1)),(a3,(a3,((wI ((1:Int)-a7)),a8)))),((0:Int),((eqI (Int.tmod a1 16) (15:Int)),()))),()))else some ((((wI (a1+1)),(a3,(a3,((wI ((1:Int)-a7)),a8)))),((0:Int),((eqI (Int.tmod a1 16) (15:Int)),()))),());let X1:R171:=bif (eqI (Int.tmod a1 16) (15:Int))then (bif (ltI 0 a9)then (some ((((wI (a1+1)),(a3,((wI (a5-1)),a6))),((wI ((8:Int)*a7)),((eqI (Int.tmod a1 16) (15:Int)),()))),()))else some ((((wI (a1+1)),(a3,((wI (a5-1)),a6))),((0:Int),((eqI (Int.tmod a1 16) (15:Int)),()))),()))else some ((((wI (a1+1)),(a3,((wI (a5-1)),a6))),((0:Int),((eqI (Int.tmod a1 16) (15:Int)),()))),());let X2:R171:=bif (eqI (Int.tmod a1 16) (15:Int))then (bif (ltI 0 a9)then (some ((((wI (a1+1)),(a3,(a3,a6))),((wI ((8:Int)*a7)),((eqI (Int.tmod a1 16) (15:Int)),()))),()))else some ((((wI (a1+1)),(a3,(a3,a6))),((0:Int),((eqI (Int.tmod a1 16) (15:Int)),()))),()))else some ((((wI (a1+1)),(a3,(a3,a6))),((0:Int),((eqI (Int.tmod a1 16) (15:Int)),()))),());let X3:R171:=some ((((wI (a1+1)),(a3,((wI (a5-1)),(a7,((wI (a9-1)),(a11,(a11,()))))))),((0:Int),((eqI (Int.tmod a1 16) (15:Int)),()))),());let X4:R171:=some ((((wI (a1+1)),(a3,(a3,((wI ((1:Int)-a7)),((wI (a9-1)),(a11,(a11,()))))))),((0:Int),((eqI (Int.tmod a1 16) (15:Int)),()))),());let X5:R171:=some ((((wI (a1+1)),(a3,((wI (a5-1)),(a7,((wI (a9-1)),(a11,(false,()))))))),((0:Int),((eqI (Int.tmod a1 16) (15:Int)),()))),());let X6:R171:=some ((((wI (a1+1)),(a3,((wI (a5-1)),(a7,((wI (a9-1)),(a11,(true,()))))))),((0:Int),((eqI (Int.tmod a1 16) (15:Int)),()))),());let X7:R171:=some ((((wI (a1+1)),(a3,(a3,((wI ((1:Int)-a7)),((wI (a9-1)),(a11,(false,()))))))),((0:Int),((eqI (Int.tmod a1 16) (15:Int)),()))),());let X8:R171:=some ((((wI (a1+1)),(a3,(a3,((wI ((1:Int)-a7)),((wI (a9-1)),(a11,(true,()))))))),((0:Int),((eqI (Int.tmod a1 16) (15:Int)),()))),());let X9:R171:=some ((((wI (a1+1)),(a3,(a3,(a7,((wI (a9-1)),(a11,(a11,()))))))),((0:Int),((eqI (Int.tmod a1 16) (15:Int)),()))),());let X10:R171:=some ((((wI (a1+1)),(a3,(a3,(a7,((wI (a9-1)),(a11,(false,()))))))),((0:Int),((eqI (Int.tmod a1 16) (15:Int)),()))),());let X11:R171:=some ((((wI (a1+1)),(a3,(a3,(a7,((wI (a9-1)),(a11,(true,()))))))),((0:Int),((eqI (Int.tmod a1 16) (15:Int)),()))),());bif (eqI a1 20000)then (some ((a0,((0:Int),(false,()))),()))else bif (eqI a5 0)then (bif (ltI 0 a9)then (bif (eqI (Int.tmod a1 32) (0:Int))then (bif (ltI 0 a9)then (bif a10.2.1 then (bif (eqI (Int.tmod a1 16) (15:Int))then (bif (ltI 0 (wI (a9-1)))then (some ((((wI (a1+1)),(a3,(a3,((wI ((1:Int)-a7)),((wI (a9-1)),(a11,(true,()))))))),((wI ((8:Int)*(wI ((1:Int)-a7)))),((eqI (Int.tmod a1 16) (15:Int)),()))),()))else X8)else X8)else bif (eqI (wI (a9-1)) (0:Int))then (bif (eqI (Int.tmod a1 16) (15:Int))then (bif (ltI 0 (wI (a9-1)))then (some ((((wI (a1+1)),(a3,(a3,((wI ((1:Int)-a7)),((wI (a9-1)),(a11,(a11,()))))))),((wI ((8:Int)*(wI ((1:Int)-a7)))),((eqI (Int.tmod a1 16) (15:Int)),()))),()))else X4)else X4)else bif (eqI (Int.tmod a1 16) (15:Int))then (bif (ltI 0 (wI (a9-1)))then (some ((((wI (a1+1)),(a3,(a3,((wI ((1:Int)-a7)),((wI (a9-1)),(a11,(false,()))))))),((wI ((8:Int)*(wI ((1:Int)-a7)))),((eqI (Int.tmod a1 16) (15:Int)),()))),()))else X7)else X7)else X0)else X0)else bif (eqI (Int.tmod a1 32) (0:Int))then (bif (ltI 0 a9)then (bif a10.2.1 then (bif (eqI (Int.tmod a1 16) (15:Int))then (bif (ltI 0 (wI (a9-1)))then (some ((((wI (a1+1)),(a3,(a3,(a7,((wI (a9-1)),(a11,(true,()))))))),((wI ((8:Int)*a7)),((eqI (Int.tmod a1 16) (15:Int)),()))),()))else X11)else X11)else bif (eqI (wI (a9-1)) (0:Int))then (bif (eqI (Int.tmod a1 16) (15:Int))then (bif (ltI 0 (wI (a9-1)))then (some ((((wI (a1+1)),(a3,(a3,(a7,((wI (a9-1)),(a11,(a11,()))))))),((wI ((8:Int)*a7)),((eqI (Int.tmod a1 16) (15:Int)),()))),()))else X9)else X9)else bif (eqI (Int.tmod a1 16) (15:Int))then (bif (ltI 0 (wI (a9-1)))then (some ((((wI (a1+1)),(a3,(a3,(a7,((wI (a9-1)),(a11,(false,()))))))),((wI ((8:Int)*a7)),((eqI (Int.tmod a1 16) (15:Int)),()))),()))else X10)else X10)else X2)else X2)else bif (eqI (Int.tmod a1 32) (0:Int))then (bif (ltI 0 a9)then (bif a10.2.1 then (bif (eqI (Int.tmod a1 16) (15:Int))then (bif (ltI 0 (wI (a9-1)))then (some ((((wI (a1+1)),(a3,((wI (a5-1)),(a7,((wI (a9-1)),(a11,(true,()))))))),((wI ((8:Int)*a7)),((eqI (Int.tmod a1 16) (15:Int)),()))),()))else X6)else X6)else bif (eqI (wI (a9-1)) (0:Int))then (bif (eqI (Int.tmod a1 16) (15:Int))then (bif (ltI 0 (wI (a9-1)))then (some ((((wI (a1+1)),(a3,((wI (a5-1)),(a7,((wI (a9-1)),(a11,(a11,()))))))),((wI ((8:Int)*a7)),((eqI (Int.tmod a1 16) (15:Int)),()))),()))else X3)else X3)else bif (eqI (Int.tmod a1 16) (15:Int))then (bif (ltI 0 (wI (a9-1)))then (some ((((wI (a1+1)),(a3,((wI (a5-1)),(a7,((wI (a9-1)),(a11,(false,()))))))),((wI ((8:Int)*a7)),((eqI (Int.tmod a1 16) (15:Int)),()))),()))else X5)else X5)else X1)else X1
theorem s171 (y):TE [] Tryz.f171 i171 o171 y=m171 y:=by kernel_rfl
noncomputable def r171:F171:=m171
theorem k171:KO (g171 r171):=fk (s171) trivial
abbrev i346:Ts:=[.a [.sl true .n, .sl true .i, .sl true .i, .int .i64, .int .i64, .int .i64, .int .i64, .int .i64, .bool, .bool, .bool, .bool, .int .i64, .int .i64, .int .i64, .int .i64, .int .i64, .bool, .sl false .i, .sl false .i, .int .i64, .int .i64, .int .i64, .int .i64, .int .i64, .bool, .bool, .bool, .int .i64, .bool, .int .i64, .sl true .n, .sl true .i, .sl true .i]]
abbrev o346:Ts:=[.a q17]
abbrev F346:=FT i346 o346
abbrev g346:=mkG 346 i346 o346
noncomputable def m346 (c171:F171) (c169:F169):F346:=fun y=>let a0:=y.1;let a1:=a0.2;let a2:=a1.2;let a3:=a2.2;let a4:=a3.2;let a5:=a4.2;let a6:=a5.2;let a7:=a6.2;let a8:=a7.2;let a9:=a8.2;let a10:=a9.2;let a11:=a10.2;let a12:=a11.2;let a13:=a12.2;let a14:=a13.2;let a15:=a14.2;let a16:=a15.2;let a17:=a16.2;let a18:=a17.2;let a19:=a18.2;let a20:=a19.2;let a21:=a20.2;let a22:=a21.2;let a23:=a22.2;let a24:=a23.2;let a25:=a24.2;let a26:=a25.2;let a27:=a26.2;let a28:=a27.2;let a29:=a28.2;let a30:=a29.2;let a31:=a30.2;let a32:=a31.2;(c169 ((a12.1,(a13.1,(a14.1,(a15.1,(a16.1,(a17.1,(a18.1,(a19.1,())))))))),())).bind fun r0=>let b0:=r0.1;let b1:=b0.1;let b2:=b0.2;let b3:=b1.2;let b4:=b3.2;let b5:=b4.2;let b6:=b5.2;let b7:=b6.2;let b8:=b7.2;let b9:=b8.2.1;(c171 ((a20.1,(a21.1,(a22.1,(a23.1,(a24.1,(a25.1,(a26.1,()))))))),())).bind fun r1=>let d0:=r1.1;let d1:=d0.1;let d2:=d1.2;let d3:=d0.2.1;let d4:=d2.2;let d5:=d4.2;let d6:=d5.2;let d7:=d6.2;let d8:=d7.2.1;bif (eqI (Int.tmod a12.1 64) (48:Int))then (bif (leN ((List.length a31.1)+(List.length (b2.1::[]))) (E.most .n))then (bif d0.2.2.1 then (bif (leN ((List.length a32.1)+(List.length (d3::[]))) (E.most .i))then (bif a29.1 then (some (((a0.1,(a1.1,(a2.1,(a3.1,(a4.1,(a5.1,(a6.1,(a7.1,(a8.1,(a9.1,(a10.1,(a11.1,(b1.1,(b3.1,(b4.1,(b5.1,(b6.1,(b7.1,(b8.1,(b9,(d1.1,(d2.1,(d4.1,(d5.1,(d6.1,(d7.1,(d8,(a27.1,(a28.1,(true,(a30.1,((a31.1++(b2.1::[])),((a32.1++(d3::[])),a32.2))))))))))))))))))))))))))))))))),()),()))else some (((a0.1,(a1.1,(a2.1,(a3.1,(a4.1,(a5.1,(a6.1,(a7.1,(a8.1,(a9.1,(a10.1,(a11.1,(b1.1,(b3.1,(b4.1,(b5.1,(b6.1,(b7.1,(b8.1,(b9,(d1.1,(d2.1,(d4.1,(d5.1,(d6.1,(d7.1,(d8,(a27.1,(a28.1,(b2.2.1,(a30.1,((a31.1++(b2.1::[])),((a32.1++(d3::[])),a32.2))))))))))))))))))))))))))))))))),()),()))else none)else bif a29.1 then (some (((a0.1,(a1.1,(a2.1,(a3.1,(a4.1,(a5.1,(a6.1,(a7.1,(a8.1,(a9.1,(a10.1,(a11.1,(b1.1,(b3.1,(b4.1,(b5.1,(b6.1,(b7.1,(b8.1,(b9,(d1.1,(d2.1,(d4.1,(d5.1,(d6.1,(d7.1,(d8,(a27.1,(a28.1,(true,(a30.1,((a31.1++(b2.1::[])),a32)))))))))))))))))))))))))))))))),()),()))else some (((a0.1,(a1.1,(a2.1,(a3.1,(a4.1,(a5.1,(a6.1,(a7.1,(a8.1,(a9.1,(a10.1,(a11.1,(b1.1,(b3.1,(b4.1,(b5.1,(b6.1,(b7.1,(b8.1,(b9,(d1.1,(d2.1,(d4.1,(d5.1,(d6.1,(d7.1,(d8,(a27.1,(a28.1,(b2.2.1,(a30.1,((a31.1++(b2.1::[])),a32)))))))))))))))))))))))))))))))),()),()))else none)else bif d0.2.2.1 then (bif (leN ((List.length a32.1)+(List.length (d3::[]))) (E.most .i))then (bif a29.1 then (some (((a0.1,(a1.1,(a2.1,(a3.1,(a4.1,(a5.1,(a6.1,(a7.1,(a8.1,(a9.1,(a10.1,(a11.1,(b1.1,(b3.1,(b4.1,(b5.1,(b6.1,(b7.1,(b8.1,(b9,(d1.1,(d2.1,(d4.1,(d5.1,(d6.1,(d7.1,(d8,(a27.1,(a28.1,(true,(a30.1,(a31.1,((a32.1++(d3::[])),a32.2))))))))))))))))))))))))))))))))),()),()))else some (((a0.1,(a1.1,(a2.1,(a3.1,(a4.1,(a5.1,(a6.1,(a7.1,(a8.1,(a9.1,(a10.1,(a11.1,(b1.1,(b3.1,(b4.1,(b5.1,(b6.1,(b7.1,(b8.1,(b9,(d1.1,(d2.1,(d4.1,(d5.1,(d6.1,(d7.1,(d8,(a27.1,(a28.1,(b2.2.1,(a30.1,(a31.1,((a32.1++(d3::[])),a32.2))))))))))))))))))))))))))))))))),()),()))else none)else bif a29.1 then (some (((a0.1,(a1.1,(a2.1,(a3.1,(a4.1,(a5.1,(a6.1,(a7.1,(a8.1,(a9.1,(a10.1,(a11.1,(b1.1,(b3.1,(b4.1,(b5.1,(b6.1,(b7.1,(b8.1,(b9,(d1.1,(d2.1,(d4.1,(d5.1,(d6.1,(d7.1,(d8,(a27.1,(a28.1,(true,a30)))))))))))))))))))))))))))))),()),()))else some (((a0.1,(a1.1,(a2.1,(a3.1,(a4.1,(a5.1,(a6.1,(a7.1,(a8.1,(a9.1,(a10.1,(a11.1,(b1.1,(b3.1,(b4.1,(b5.1,(b6.1,(b7.1,(b8.1,(b9,(d1.1,(d2.1,(d4.1,(d5.1,(d6.1,(d7.1,(d8,(a27.1,(a28.1,(b2.2.1,a30)))))))))))))))))))))))))))))),()),())
theorem s346 (c171:F171) (c169:F169) (y):TE [g171 c171,g169 c169] Tryz.f346 i346 o346 y=m346 c171 c169 y:=by kernel_rfl
noncomputable def r346:F346:=m346 r171 r169
theorem k346:KO (g346 r346):=fk (s346 r171 r169) ⟨k171,k169,⟨⟩⟩
abbrev i340:Ts:=[.a q17]
abbrev o340:Ts:=[.a q17, .v (.bool)]
abbrev R340:=Option (PTup o340×BTup i340)
abbrev F340:=PTup i340→R340
abbrev g340 (c:F340):Nat×Tev.Fn:=(340,⟨i340,o340,c, .may⟩)
abbrev lc340_0:Ts:=[.v (.int .i64)]
abbrev lb340_0:Ts:=[.p q17]
abbrev lv340_0:Ts:=[.v (.int .i64)]
abbrev lr340_0:Ts:=[]
abbrev R340_0:=Option (Sum (PTup lv340_0) (PTup lr340_0)×BTup lb340_0)
abbrev B340_0:=PTup lb340_0→PTup lv340_0→R340_0
abbrev A340_0:=PTup lc340_0→B340_0
noncomputable def w340_0 (c345:F345) (c346:F346) (again:B340_0):A340_0:=fun x y z=>bif (ltI z.1 x.1)then ((c346 (y.1,())).bind fun r0=>again (r0.1.1,()) ((wI (z.1+1)),()))else some ((Sum.inl z),(y.1,()))
noncomputable def e340_0 (l:A340_0):ZJ:=⟨[5],lc340_0,[4],lb340_0,[6],lv340_0,[],lr340_0,0,[],l⟩
noncomputable def m340 (c345:F345) (c346:F346) (l0:A340_0):F340:=fun y=>let X0:R340:=some ((([],([],([],((0:Int),((0:Int),((0:Int),((0:Int),((0:Int),(false,(false,(false,(false,((0:Int),((0:Int),((0:Int),((0:Int),((0:Int),(false,([],([],((0:Int),((0:Int),((0:Int),((0:Int),((0:Int),(false,(false,(false,((0:Int),(false,((0:Int),([],([],([],())))))))))))))))))))))))))))))))))),(false,())),());(c345 (y.1,())).bind fun r0=>bif (ltI 20000 (wI (r0.1.1.2.2.2.2.2.2.2.2.2.2.2.2.1+r0.1.2.1)))then X0 else (l0 r0.1.2 (r0.1.1,()) ((0:Int),())).bind fun r1=>let d0:=r1.2;let d1:=d0.1;let d2:=d1.2;let d3:=d2.2;let d4:=d3.2;let d5:=d4.2;let d6:=d5.2;let d7:=d6.2;let d8:=d7.2;let d9:=d8.2;let d10:=d9.2;let d11:=d10.2;let d12:=d11.2;let d13:=d12.2;let d14:=d13.2;let d15:=d14.2;let d16:=d15.2;let d17:=d16.2;let d18:=d17.2;let d19:=d18.2;let d20:=d19.2;let d21:=d20.2;let d22:=d21.2;let d23:=d22.2;let d24:=d23.2.2;let d25:=d24.2.2;ZE r1.1 (fun r2=>some (((d1.1,(d2.1,(d3.1,(d4.1,(d5.1,(d6.1,(d7.1,(d8.1,(d9.1,(d10.1,(d11.1,(d12.1,(d13.1,(d14.1,(d15.1,(d16.1,(d17.1,(d18.1,(d19.1,(d20.1,(d21.1,(d22.1,(d23.1,(d23.2.1,(d24.1,(d24.2.1,(d25.1,(d25.2.1,(d25.2.2.1,(d25.2.2.2.1,((wI (d25.2.2.2.2.1+1)),d25.2.2.2.2.2))))))))))))))))))))))))))))))),(true,())),())) (fun r2=>X0)
noncomputable def E340 (c345:F345) (c346:F346) (l0:A340_0):ZH:=⟨⟨Tryz.prog,Z6 [g345 c345,g346 c346]⟩,Qg [(5,e340_0 l0)]⟩
theorem t340_0 (c345:F345) (c346:F346) (l0:A340_0) (again) (x y z):ZX (E340 c345 c346 l0) (Zk (Zm Tryz.f340) 0) (e340_0 l0) Tryz.f340.ntmps again x y z=w340_0 c345 c346 again x y z:=by kernel_rfl
noncomputable def n340_0 (c345:F345) (c346:F346):Nat→A340_0
  |0,_,_,_=>none
  |n+1,x,y,z=>w340_0 c345 c346 (fun y z=>n340_0 c345 c346 n x y z) x y z
theorem s340 (c345:F345) (c346:F346) (l0:A340_0) (y):Zr7 (E340 c345 c346 l0) Tryz.f340 i340 [.sl true .n, .sl true .i, .sl true .i, .int .i64, .int .i64, .int .i64, .int .i64, .int .i64, .bool, .bool, .bool, .bool, .int .i64, .int .i64, .int .i64, .int .i64, .int .i64, .bool, .sl true .i, .sl true .i, .int .i64, .int .i64, .int .i64, .int .i64, .int .i64, .bool, .bool, .bool, .int .i64, .bool, .int .i64, .sl true .n, .sl true .i, .sl true .i] y=m340 c345 c346 l0 y:=by kernel_rfl
noncomputable def L340_0:A340_0:=n340_0 r345 r346 fuel
noncomputable def r340:F340:=m340 r345 r346 L340_0
theorem k340:KO (g340 r340):=by
  have hE: ∀g f,(E340 r345 r346 L340_0).env.fns g=some f→Zy Tryz.prog g f:=Qf ⟨k345,k346,⟨⟩⟩;have h0:ZP Tryz.prog Tryz.f340.ntmps (Zk (Zm Tryz.f340) 0) (e340_0 L340_0):=Z0 (E:=E340 r345 r346 L340_0) rfl hE mixed (Zt.of_list (l:=[]) (by kernel_rfl) trivial) (n340_0 r345 r346) (fun _ _ _=>rfl) (fun n x y z=>t340_0 r345 r346 L340_0 _ x y z) rfl;exact ZrF (E:=E340 r345 r346 L340_0) rfl hE mixed (by kernel_rfl) (by kernel_rfl) (Zt.of_list (l:=[(Zk (Zm Tryz.f340) 0)]) (by kernel_rfl) (.one (by kernel_rfl) h0 trivial)) (s340 r345 r346 L340_0)
abbrev i325:Ts:=[.a q16]
abbrev o325:Ts:=[.a q17, .v (.bool)]
abbrev F325:=FT i325 o325
abbrev g325:=mkG 325 i325 o325
noncomputable def m325 (c323:F323) (c324:F324) (c340:F340):F325:=fun y=>(c323 (y.1,())).bind fun r0=>bif (!r0.1.1)then (some ((([],([],([],((0:Int),((0:Int),((0:Int),((0:Int),((0:Int),(false,(false,(false,(false,((0:Int),((0:Int),((0:Int),((0:Int),((0:Int),(false,([],([],((0:Int),((0:Int),((0:Int),((0:Int),((0:Int),(false,(false,(false,((0:Int),(false,((0:Int),([],([],([],())))))))))))))))))))))))))))))))))),(false,())),()))else (c324 (y.1,())).bind fun r1=>(c340 (r1.1.1,())).bind fun r2=>bif r2.1.2.1 then (some ((r2.1.1,(true,())),()))else (c324 (y.1,())).bind fun r3=>some ((r3.1.1,(false,())),())
theorem s325 (c323:F323) (c324:F324) (c340:F340) (y):TE [g323 c323,g324 c324,g340 c340] Tryz.f325 i325 o325 y=m325 c323 c324 c340 y:=by kernel_rfl
noncomputable def r325:F325:=m325 r323 r324 r340
theorem k325:KO (g325 r325):=fk (s325 r323 r324 r340) ⟨k323,k324,k340,⟨⟩⟩
abbrev i276:Ts:=[.a q16, .v (.int .i64)]
abbrev o276:Ts:=[.a q17, .v (.int .i64)]
abbrev F276:=FT i276 o276
abbrev g276:=mkG 276 i276 o276
abbrev lc276_0:Ts:=[.v (.int .i64)]
abbrev lb276_0:Ts:=[.p q17, .p q17]
abbrev lv276_0:Ts:=[.v (.int .i64)]
abbrev lr276_0:Ts:=[.v (.int .i64)]
abbrev R276_0:=Option (Sum (PTup lv276_0) (PTup lr276_0)×BTup lb276_0)
abbrev B276_0:=PTup lb276_0→PTup lv276_0→R276_0
abbrev A276_0:=PTup lc276_0→B276_0
noncomputable def w276_0 (c323:F323) (c325:F325) (c324:F324) (c104:F104) (again:B276_0):A276_0:=fun x y z=>let a0:=y.2;let a1:=a0.1;let a2:=a1.2;let a3:=a2.2;let a4:=a3.2;let a5:=a4.2;let a6:=a5.2;let a7:=a6.2;let a8:=a7.2;let a9:=a8.2;let a10:=a9.2;let a11:=a10.2;let a12:=a11.2;let a13:=a12.2;let a14:=a13.2;let a15:=a14.2;let a16:=a15.2;let a17:=a16.2;let a18:=a17.2;let a19:=a18.2;let a20:=a19.2;let a21:=a20.2;let a22:=a21.2;let a23:=a22.2.2;let a24:=a23.2.2;(c104 (x.1,((3000:Int),()))).bind fun r0=>bif (ltI z.1 r0.1.1)then ((c325 (a1,())).bind fun r1=>bif (!r1.1.2.1)then (some ((Sum.inr z),(a1,(([],([],([],(a4.1,(a5.1,(a6.1,(a7.1,(a8.1,(a9.1,(a10.1,(a11.1,(a12.1,(a13.1,(a14.1,(a15.1,(a16.1,(a17.1,(a18.1,([],([],(a21.1,(a22.1,(a22.2.1,(a23.1,(a23.2.1,(a24.1,(a24.2.1,(a24.2.2.1,(a24.2.2.2.1,(a24.2.2.2.2.1,(a24.2.2.2.2.2.1,([],([],([],())))))))))))))))))))))))))))))))))),()))))else again (y.1,(r1.1.1,())) ((wI (z.1+1)),()))else some ((Sum.inl z),(y.1,(a1,())))
noncomputable def e276_0 (l:A276_0):ZJ:=⟨[1],lc276_0,[4,6],lb276_0,[7],lv276_0,[5],lr276_0,0,[false,true],l⟩
noncomputable def m276 (c323:F323) (c325:F325) (c324:F324) (c104:F104) (l0:A276_0):F276:=fun y=>(c323 (y.1,())).bind fun r0=>bif (!r0.1.1)then (some ((([],([],([],((0:Int),((0:Int),((0:Int),((0:Int),((0:Int),(false,(false,(false,(false,((0:Int),((0:Int),((0:Int),((0:Int),((0:Int),(false,([],([],((0:Int),((0:Int),((0:Int),((0:Int),((0:Int),(false,(false,(false,((0:Int),(false,((0:Int),([],([],([],())))))))))))))))))))))))))))))))))),((0:Int),())),()))else (c324 (y.1,())).bind fun r1=>(l0 y.2 (([],([],([],((0:Int),((0:Int),((0:Int),((0:Int),((0:Int),(false,(false,(false,(false,((0:Int),((0:Int),((0:Int),((0:Int),((0:Int),(false,([],([],((0:Int),((0:Int),((0:Int),((0:Int),((0:Int),(false,(false,(false,((0:Int),(false,((0:Int),([],([],([],())))))))))))))))))))))))))))))))))),(r1.1.1,())) ((0:Int),())).bind fun r2=>ZE r2.1 (fun r3=>some ((r2.2.2.1,r3),())) (fun r3=>some ((r2.2.1,r3),()))
noncomputable def E276 (c323:F323) (c325:F325) (c324:F324) (c104:F104) (l0:A276_0):ZH:=⟨⟨Tryz.prog,Z6 [g323 c323,g325 c325,g324 c324,g104 c104]⟩,Qg [(5,e276_0 l0)]⟩
theorem t276_0 (c323:F323) (c325:F325) (c324:F324) (c104:F104) (l0:A276_0) (again) (x y z):ZX (E276 c323 c325 c324 c104 l0) (Zk (Zm Tryz.f276) 0) (e276_0 l0) Tryz.f276.ntmps again x y z=w276_0 c323 c325 c324 c104 again x y z:=by kernel_rfl
noncomputable def n276_0 (c323:F323) (c325:F325) (c324:F324) (c104:F104):Nat→A276_0
  |0,_,_,_=>none
  |n+1,x,y,z=>w276_0 c323 c325 c324 c104 (fun y z=>n276_0 c323 c325 c324 c104 n x y z) x y z
theorem s276 (c323:F323) (c325:F325) (c324:F324) (c104:F104) (l0:A276_0) (y):Z8 (E276 c323 c325 c324 c104 l0) Tryz.f276 i276 o276 y=m276 c323 c325 c324 c104 l0 y:=by kernel_rfl
noncomputable def L276_0:A276_0:=n276_0 r323 r325 r324 r104 fuel
noncomputable def r276:F276:=m276 r323 r325 r324 r104 L276_0
theorem k276:KO (g276 r276):=by
  have hE: ∀g f,(E276 r323 r325 r324 r104 L276_0).env.fns g=some f→Zy Tryz.prog g f:=Qf ⟨k323,k325,k324,k104,⟨⟩⟩;have h0:ZP Tryz.prog Tryz.f276.ntmps (Zk (Zm Tryz.f276) 0) (e276_0 L276_0):=Z0 (E:=E276 r323 r325 r324 r104 L276_0) rfl hE mixed (Zt.of_list (l:=[]) (by kernel_rfl) trivial) (n276_0 r323 r325 r324 r104) (fun _ _ _=>rfl) (fun n x y z=>t276_0 r323 r325 r324 r104 L276_0 _ x y z) rfl;exact Qk (E:=E276 r323 r325 r324 r104 L276_0) rfl hE mixed (by kernel_rfl) (by kernel_rfl) (Zt.of_list (l:=[(Zk (Zm Tryz.f276) 0)]) (by kernel_rfl) (.one (by kernel_rfl) h0 trivial)) (s276 r323 r325 r324 r104 L276_0)
abbrev i224:Ts:=[.a q10]
abbrev o224:Ts:=[.a q17]
abbrev R224:=Option (PTup o224×BTup i224)
abbrev F224:=PTup i224→R224
abbrev g224:=mkG 224 i224 o224
noncomputable def m224 (c275:F275) (c276:F276) (c36:F36):F224:=fun y=>let X0:R224:=some ((([],([],([],((0:Int),((0:Int),((0:Int),((0:Int),((0:Int),(false,(false,(false,(false,((0:Int),((0:Int),((0:Int),((0:Int),((0:Int),(false,([],([],((0:Int),((0:Int),((0:Int),((0:Int),((0:Int),(false,(false,(false,((0:Int),(false,((0:Int),([],([],([],())))))))))))))))))))))))))))))))))),()),());(c36 (y.1,())).bind fun r0=>bif (!r0.1.1)then X0 else bif (ltI 3000 y.1.2.2.2.2.2.2.2.2.2.2.2.2.2.2.2.2.2.2.2.1)then X0 else (c275 ((y.1.1,()),(y.1.2.1,()))).bind fun r1=>(c276 (r1.1.1,(y.1.2.2.2.2.2.2.2.2.2.2.2.2.2.2.2.2.2.2.2.1,()))).bind fun r2=>some ((r2.1.1,()),())
theorem s224 (c275:F275) (c276:F276) (c36:F36) (y):TE [g275 c275,g276 c276,g36 c36] Tryz.f224 i224 o224 y=m224 c275 c276 c36 y:=by kernel_rfl
noncomputable def r224:F224:=m224 r275 r276 r36
theorem k224:KO (g224 r224):=fk (s224 r275 r276 r36) ⟨k275,k276,k36,⟨⟩⟩
abbrev i277:Ts:=[.v (.sl false .i), .v (.sl false .i)]
abbrev o277:Ts:=[.v (.bool)]
abbrev F277:=FT i277 o277
abbrev g277:=mkG 277 i277 o277
abbrev lc277_0:Ts:=[.v (.sl false .i), .v (.sl false .i)]
abbrev lb277_0:Ts:=[]
abbrev lv277_0:Ts:=[.v (.int .i64)]
abbrev lr277_0:Ts:=[.v (.bool)]
abbrev R277_0:=Option (Sum (PTup lv277_0) (PTup lr277_0)×BTup lb277_0)
abbrev B277_0:=PTup lb277_0→PTup lv277_0→R277_0
abbrev A277_0:=PTup lc277_0→B277_0
noncomputable def w277_0 (again:B277_0):A277_0:=fun x y z=>bif (ltI z.1 (Zf x.1))then (bif (ltI z.1 (Zf x.2.1))then (bif (leI 0 z.1)then (bif (ltI z.1 (Zf x.1))then (bif (leI 0 z.1)then (bif (ltI z.1 (Zf x.2.1))then (bif (neI (rdE .i x.1 z.1) (rdE .i x.2.1 z.1))then (some ((Sum.inr (false,())),()))else again () ((wI (z.1+1)),()))else none)else none)else none)else none)else some ((Sum.inl z),()))else some ((Sum.inl z),())
noncomputable def e277_0 (l:A277_0):ZJ:=⟨[0,1],lc277_0,[],lb277_0,[5],lv277_0,[4],lr277_0,0,[],l⟩
noncomputable def m277 (l0:A277_0):F277:=fun y=>(l0 y () ((0:Int),())).bind fun r0=>ZE r0.1 (fun r1=>some (((leI (Zf y.1) (Zf y.2.1)),()),())) (fun r1=>some (r1,()))
noncomputable def E277 (l0:A277_0):ZH:=⟨⟨Tryz.prog,Z6 []⟩,Qg [(2,e277_0 l0)]⟩
theorem t277_0 (l0:A277_0) (again) (x y z):ZX (E277 l0) (Zk (Zm Tryz.f277) 0) (e277_0 l0) Tryz.f277.ntmps again x y z=w277_0 again x y z:=by kernel_rfl
noncomputable def n277_0:Nat→A277_0
  |0,_,_,_=>none
  |n+1,x,y,z=>w277_0 (fun y z=>n277_0 n x y z) x y z
theorem s277 (l0:A277_0) (y):Z8 (E277 l0) Tryz.f277 i277 o277 y=m277 l0 y:=by kernel_rfl
noncomputable def L277_0:A277_0:=n277_0 fuel
noncomputable def r277:F277:=m277 L277_0
theorem k277:KO (g277 r277):=by
  have hE: ∀g f,(E277 L277_0).env.fns g=some f→Zy Tryz.prog g f:=Qf trivial;have h0:ZP Tryz.prog Tryz.f277.ntmps (Zk (Zm Tryz.f277) 0) (e277_0 L277_0):=Z0 (E:=E277 L277_0) rfl hE mixed (Zt.of_list (l:=[]) (by kernel_rfl) trivial) (n277_0) (fun _ _ _=>rfl) (fun n x y z=>t277_0 L277_0 _ x y z) rfl;exact Qk (E:=E277 L277_0) rfl hE mixed (by kernel_rfl) (by kernel_rfl) (Zt.of_list (l:=[(Zk (Zm Tryz.f277) 0)]) (by kernel_rfl) (.one (by kernel_rfl) h0 trivial)) (s277 L277_0)
abbrev i225:Ts:=[.v (.sl false .i), .v (.sl false .i)]
abbrev o225:Ts:=[.v (.bool)]
abbrev F225:=FT i225 o225
abbrev g225:=mkG 225 i225 o225
noncomputable def m225 (c277:F277):F225:=fun y=>bif (eqI (Zf y.1) (Zf y.2.1))then ((c277 y).bind fun r0=>some (r0.1,()))else no
theorem s225 (c277:F277) (y):TE [g277 c277] Tryz.f225 i225 o225 y=m225 c277 y:=by kernel_rfl
noncomputable def r225:F225:=m225 r277
theorem k225:KO (g225 r225):=fk (s225 r277) ⟨k277,⟨⟩⟩
abbrev i162:Ts:=[.a q10]
abbrev o162:Ts:=[.v (.bool)]
abbrev F162:=FT i162 o162
abbrev g162:=mkG 162 i162 o162
noncomputable def m162 (c224:F224) (c225:F225) (c223:F223):F162:=fun y=>(c223 (y.1,())).bind fun r0=>bif (!r0.1.1)then no else (c224 (y.1,())).bind fun r1=>bif ((eqI y.1.2.2.2.2.1 r1.1.1.2.2.2.2.1)&&((eqI y.1.2.2.2.2.2.1 r1.1.1.2.2.2.2.2.1)&&((eqI y.1.2.2.2.2.2.2.1 r1.1.1.2.2.2.2.2.2.1)&&((eqI y.1.2.2.2.2.2.2.2.1 r1.1.1.2.2.2.2.2.2.2.1)&&((y.1.2.2.2.2.2.2.2.2.1==r1.1.1.2.2.2.2.2.2.2.2.1)&&((y.1.2.2.2.2.2.2.2.2.2.1==r1.1.1.2.2.2.2.2.2.2.2.2.1)&&((y.1.2.2.2.2.2.2.2.2.2.2.1==r1.1.1.2.2.2.2.2.2.2.2.2.2.1)&&((y.1.2.2.2.2.2.2.2.2.2.2.2.1==r1.1.1.2.2.2.2.2.2.2.2.2.2.2.1)&&true))))))))then (bif (eqI y.1.2.2.2.1 r1.1.1.2.2.2.1)then ((c225 (y.1.2.2.1,(r1.1.1.2.2.1,()))).bind fun r2=>bif r2.1.1 then (bif ((y.1.2.2.2.2.2.2.2.2.2.2.2.2.1==r1.1.1.2.2.2.2.2.2.2.2.2.2.2.2.2.2.2.2.2.2.2.2.2.2.2.2.2.2.2.1)&&((eqI y.1.2.2.2.2.2.2.2.2.2.2.2.2.2.1 r1.1.1.2.2.2.2.2.2.2.2.2.2.2.2.2.2.2.2.2.2.2.2.2.2.2.2.2.2.2.2.1)&&true))then (bif (y.1.2.2.2.2.2.2.2.2.2.2.2.2.2.2.2.1==r1.1.1.2.2.2.2.2.2.2.2.2.2.2.2.2.2.2.2.2.2.2.2.2.2.2.2.2.2.2.2.2.1)then ((c225 (y.1.2.2.2.2.2.2.2.2.2.2.2.2.2.2.2.2.2.2.2.2.1,r1.1.1.2.2.2.2.2.2.2.2.2.2.2.2.2.2.2.2.2.2.2.2.2.2.2.2.2.2.2.2.2.2.2.2.2)).bind fun r3=>bif r3.1.1 then (some (((eqI y.1.2.2.2.2.2.2.2.2.2.2.2.2.2.2.1 r1.1.1.2.2.2.2.2.2.2.2.2.2.2.2.1),()),()))else no)else no)else no)else no)else no)else no
theorem s162 (c224:F224) (c225:F225) (c223:F223) (y):TE [g224 c224,g225 c225,g223 c223] Tryz.f162 i162 o162 y=m162 c224 c225 c223 y:=by kernel_rfl
noncomputable def r162:F162:=m162 r224 r225 r223
theorem k162:KO (g162 r162):=fk (s162 r224 r225 r223) ⟨k224,k225,k223,⟨⟩⟩
abbrev i227:Ts:=[.a q10]
abbrev o227:Ts:=[.a [.sl true .n, .sl true .i, .sl true .i]]
abbrev F227:=FT i227 o227
abbrev g227:=mkG 227 i227 o227
noncomputable def m227 (c147:F147):F227:=fun y=>(c147 (y.1.2.2.2.2.2.2.2.2.2.2.2.2.2.2.2.2.2.2.2.2.2.2.2.2.2.2.2.2.2.2.2.1,())).bind fun r0=>bif (leN (0+(List.length y.1.2.2.2.2.2.2.2.2.2.2.2.2.2.2.2.2.2.2.2.2.2.2.2.2.2.2.2.2.2.2.2.2.2.2.2.2.2.2.2.2.2.1)) (E.most .i))then (bif (leN (0+(List.length y.1.2.2.2.2.2.2.2.2.2.2.2.2.2.2.2.2.2.2.2.2.1)) (E.most .i))then (some (((r0.1.1,(([]++y.1.2.2.2.2.2.2.2.2.2.2.2.2.2.2.2.2.2.2.2.2.2.2.2.2.2.2.2.2.2.2.2.2.2.2.2.2.2.2.2.2.2.1),(([]++y.1.2.2.2.2.2.2.2.2.2.2.2.2.2.2.2.2.2.2.2.2.1),()))),()),()))else none)else none
theorem s227 (c147:F147) (y):TE [g147 c147] Tryz.f227 i227 o227 y=m227 c147 y:=by kernel_rfl
noncomputable def r227:F227:=m227 r147
theorem k227:KO (g227 r227):=fk (s227 r147) ⟨k147,⟨⟩⟩
abbrev i226:Ts:=[.a q19, .a q19]
abbrev o226:Ts:=[.v (.bool)]
abbrev F226:=FT i226 o226
abbrev g226:=mkG 226 i226 o226
abbrev lc226_0:Ts:=[]
abbrev lb226_0:Ts:=[.p q19, .p q19]
abbrev lv226_0:Ts:=[.v (.int .i64)]
abbrev lr226_0:Ts:=[.v (.bool)]
abbrev R226_0:=Option (Sum (PTup lv226_0) (PTup lr226_0)×BTup lb226_0)
abbrev B226_0:=PTup lb226_0→PTup lv226_0→R226_0
abbrev A226_0:=PTup lc226_0→B226_0
noncomputable def w226_0 (c277:F277) (c225:F225) (again:B226_0):A226_0:=fun x y z=>bif (ltI z.1 (Zf y.1.1))then (bif (leI 0 z.1)then (bif (ltI z.1 (Zf y.1.1))then (bif (leI 0 z.1)then (bif (ltI z.1 (Zf y.2.1.1))then ((c225 ((rdE .n y.1.1 z.1),((rdE .n y.2.1.1 z.1),()))).bind fun r0=>bif (!r0.1.1)then (some ((Sum.inr (false,())),(y.1,(y.2.1,()))))else again (y.1,(y.2.1,())) ((wI (z.1+1)),()))else none)else none)else none)else none)else some ((Sum.inl z),(y.1,(y.2.1,())))
noncomputable def e226_0 (l:A226_0):ZJ:=⟨[],lc226_0,[2,3],lb226_0,[5],lv226_0,[4],lr226_0,0,[],l⟩
noncomputable def m226 (c277:F277) (c225:F225) (l0:A226_0):F226:=fun y=>bif (ltI (Zf y.2.1.1) (Zf y.1.1))then no else (c277 (y.1.2.1,(y.2.1.2.1,()))).bind fun r0=>bif (!r0.1.1)then no else (c277 (y.1.2.2.1,y.2.1.2.2)).bind fun r1=>bif (!r1.1.1)then no else (l0 () (y.1,(y.2.1,())) ((0:Int),())).bind fun r2=>ZE r2.1 (fun r3=>some ((true,()),())) (fun r3=>some (r3,()))
noncomputable def E226 (c277:F277) (c225:F225) (l0:A226_0):ZH:=⟨⟨Tryz.prog,Z6 [g277 c277,g225 c225]⟩,Qg [(4,e226_0 l0)]⟩
theorem t226_0 (c277:F277) (c225:F225) (l0:A226_0) (again) (x y z):ZX (E226 c277 c225 l0) (Zk (Zm Tryz.f226) 0) (e226_0 l0) Tryz.f226.ntmps again x y z=w226_0 c277 c225 again x y z:=by kernel_rfl
noncomputable def n226_0 (c277:F277) (c225:F225):Nat→A226_0
  |0,_,_,_=>none
  |n+1,x,y,z=>w226_0 c277 c225 (fun y z=>n226_0 c277 c225 n x y z) x y z
theorem s226 (c277:F277) (c225:F225) (l0:A226_0) (y):Z8 (E226 c277 c225 l0) Tryz.f226 i226 o226 y=m226 c277 c225 l0 y:=by kernel_rfl
noncomputable def L226_0:A226_0:=n226_0 r277 r225 fuel
noncomputable def r226:F226:=m226 r277 r225 L226_0
theorem k226:KO (g226 r226):=by
  have hE: ∀g f,(E226 r277 r225 L226_0).env.fns g=some f→Zy Tryz.prog g f:=Qf ⟨k277,k225,⟨⟩⟩;have h0:ZP Tryz.prog Tryz.f226.ntmps (Zk (Zm Tryz.f226) 0) (e226_0 L226_0):=Z0 (E:=E226 r277 r225 L226_0) rfl hE mixed (Zt.of_list (l:=[]) (by kernel_rfl) trivial) (n226_0 r277 r225) (fun _ _ _=>rfl) (fun n x y z=>t226_0 r277 r225 L226_0 _ x y z) rfl;exact Qk (E:=E226 r277 r225 L226_0) rfl hE mixed (by kernel_rfl) (by kernel_rfl) (Zt.of_list (l:=[(Zk (Zm Tryz.f226) 0)]) (by kernel_rfl) (.one (by kernel_rfl) h0 trivial)) (s226 r277 r225 L226_0)
abbrev i163:Ts:=[.a q10]
abbrev o163:Ts:=[.v (.bool)]
abbrev F163:=FT i163 o163
abbrev g163:=mkG 163 i163 o163
noncomputable def m163 (c226:F226) (c227:F227) (c224:F224) (c223:F223):F163:=fun y=>(c223 (y.1,())).bind fun r0=>bif r0.1.1 then ((c227 (y.1,())).bind fun r1=>(c224 (y.1,())).bind fun r2=>(c226 (r1.1.1,(r2.1.1.2.2.2.2.2.2.2.2.2.2.2.2.2.2.2.2.2.2.2.2.2.2.2.2.2.2.2.2.2.2.2,()))).bind fun r3=>some (r3.1,()))else no
theorem s163 (c226:F226) (c227:F227) (c224:F224) (c223:F223) (y):TE [g226 c226,g227 c227,g224 c224,g223 c223] Tryz.f163 i163 o163 y=m163 c226 c227 c224 c223 y:=by kernel_rfl
noncomputable def r163:F163:=m163 r226 r227 r224 r223
theorem k163:KO (g163 r163):=fk (s163 r226 r227 r224 r223) ⟨k226,k227,k224,k223,⟨⟩⟩
abbrev i99:Ts:=[.a q13, .v (.int .i64)]
abbrev o99:Ts:=[.a q13, .v (.bool)]
abbrev R99:=Option (PTup o99×BTup i99)
abbrev F99:=PTup i99→R99
abbrev g99:=mkG 99 i99 o99
noncomputable def m99 (c168:F168) (c169:F169):F99:=fun y=>let a0:=y.1;let a1:=a0.2;let a2:=a1.2;let a3:=a2.2;let a4:=a3.2;let a5:=a4.2;let a6:=a5.2;let a7:=a6.2;let a8:=a7.2;let a9:=a8.2;let X0:R99:=bif (leI y.2.1 a0.1)then (some ((a0,(false,())),()))else bif (eqI a0.1 20000)then (some ((a0,(false,())),()))else (c169 ((a0.1,(a1.1,(a2.1,(a3.1,(a4.1,(a5.1,(a6.1,(a7.1,())))))))),())).bind fun r0=>bif (eqI (Int.tmod a0.1 64) (48:Int))then (bif (leN ((List.length a9.2.1)+(List.length (r0.1.2.1::[]))) (E.most .n))then (some (((r0.1.1.1,(r0.1.1.2.1,(r0.1.1.2.2.1,(r0.1.1.2.2.2.1,(r0.1.1.2.2.2.2.1,(r0.1.1.2.2.2.2.2.1,(r0.1.1.2.2.2.2.2.2.1,(r0.1.1.2.2.2.2.2.2.2.1,(a8.1,(a9.1,((a9.2.1++(r0.1.2.1::[])),()))))))))))),(true,())),()))else none)else some (((r0.1.1.1,(r0.1.1.2.1,(r0.1.1.2.2.1,(r0.1.1.2.2.2.1,(r0.1.1.2.2.2.2.1,(r0.1.1.2.2.2.2.2.1,(r0.1.1.2.2.2.2.2.2.1,(r0.1.1.2.2.2.2.2.2.2.1,a8)))))))),(true,())),());bif (ltI 0 (Zf a9.1))then (bif (ltI 0 (Zf a9.1))then (bif (eqI (rdE .t a9.1 (0:Int)).1 a0.1)then (bif (ltI 0 (Zf a9.1))then (bif (leI 1 (Zf a9.1))then (bif (leN (0+(List.length (List.drop (Int.toNat (1:Int)) a9.1))) (E.most .t))then ((c168 ((a0.1,(a1.1,(a2.1,(a3.1,(a4.1,(a5.1,(a6.1,(a7.1,())))))))),((rdE .t a9.1 (0:Int)).2.1,((rdE .t a9.1 (0:Int)).2.2,())))).bind fun r0=>some (((r0.1.1.1,(r0.1.1.2.1,(r0.1.1.2.2.1,(r0.1.1.2.2.2.1,(r0.1.1.2.2.2.2.1,(r0.1.1.2.2.2.2.2.1,(r0.1.1.2.2.2.2.2.2.1,(r0.1.1.2.2.2.2.2.2.2.1,(a8.1,(([]++(List.drop (Int.toNat (1:Int)) a9.1)),a9.2)))))))))),(true,())),()))else none)else none)else none)else X0)else none)else X0
theorem s99 (c168:F168) (c169:F169) (y):TE [g168 c168,g169 c169] Tryz.f99 i99 o99 y=m99 c168 c169 y:=by kernel_rfl
noncomputable def r99:F99:=m99 r168 r169
theorem k99:KO (g99 r99):=fk (s99 r168 r169) ⟨k168,k169,⟨⟩⟩
abbrev i101:Ts:=[.a q7, .v (.int .i64)]
abbrev o101:Ts:=[.a q13]
abbrev F101:=FT i101 o101
abbrev g101:=mkG 101 i101 o101
abbrev lc101_0:Ts:=[.v (.int .i64)]
abbrev lb101_0:Ts:=[.p q13]
abbrev lv101_0:Ts:=[.v (.bool)]
abbrev lr101_0:Ts:=[]
abbrev R101_0:=Option (Sum (PTup lv101_0) (PTup lr101_0)×BTup lb101_0)
abbrev B101_0:=PTup lb101_0→PTup lv101_0→R101_0
abbrev A101_0:=PTup lc101_0→B101_0
noncomputable def w101_0 (c91:F91) (c99:F99) (c86:F86) (again:B101_0):A101_0:=fun x y z=>bif z.1 then ((c99 (y.1,x)).bind fun r0=>again (r0.1.1,()) r0.1.2)else some ((Sum.inl z),(y.1,()))
noncomputable def e101_0 (l:A101_0):ZJ:=⟨[1],lc101_0,[5],lb101_0,[6],lv101_0,[],lr101_0,0,[],l⟩
noncomputable def m101 (c91:F91) (c99:F99) (c86:F86) (l0:A101_0):F101:=fun y=>(c91 (y.1,())).bind fun r0=>bif (!r0.1.1)then (some ((((0:Int),((0:Int),((0:Int),((0:Int),((0:Int),(false,([],([],((0:Int),([],([],()))))))))))),()),()))else (c86 (y.1,())).bind fun r1=>(l0 y.2 (r1.1.1,()) (true,())).bind fun r2=>ZE r2.1 (fun r3=>some ((r2.2.1,()),())) (fun r3=>some ((((0:Int),((0:Int),((0:Int),((0:Int),((0:Int),(false,([],([],((0:Int),([],([],()))))))))))),()),()))
noncomputable def E101 (c91:F91) (c99:F99) (c86:F86) (l0:A101_0):ZH:=⟨⟨Tryz.prog,Z6 [g91 c91,g99 c99,g86 c86]⟩,Qg [(5,e101_0 l0)]⟩
theorem t101_0 (c91:F91) (c99:F99) (c86:F86) (l0:A101_0) (again) (x y z):ZX (E101 c91 c99 c86 l0) (Zk (Zm Tryz.f101) 0) (e101_0 l0) Tryz.f101.ntmps again x y z=w101_0 c91 c99 c86 again x y z:=by kernel_rfl
noncomputable def n101_0 (c91:F91) (c99:F99) (c86:F86):Nat→A101_0
  |0,_,_,_=>none
  |n+1,x,y,z=>w101_0 c91 c99 c86 (fun y z=>n101_0 c91 c99 c86 n x y z) x y z
theorem s101 (c91:F91) (c99:F99) (c86:F86) (l0:A101_0) (y):Z8 (E101 c91 c99 c86 l0) Tryz.f101 i101 o101 y=m101 c91 c99 c86 l0 y:=by kernel_rfl
noncomputable def L101_0:A101_0:=n101_0 r91 r99 r86 fuel
noncomputable def r101:F101:=m101 r91 r99 r86 L101_0
theorem k101:KO (g101 r101):=by
  have hE: ∀g f,(E101 r91 r99 r86 L101_0).env.fns g=some f→Zy Tryz.prog g f:=Qf ⟨k91,k99,k86,⟨⟩⟩;have h0:ZP Tryz.prog Tryz.f101.ntmps (Zk (Zm Tryz.f101) 0) (e101_0 L101_0):=Z0 (E:=E101 r91 r99 r86 L101_0) rfl hE mixed (Zt.of_list (l:=[]) (by kernel_rfl) trivial) (n101_0 r91 r99 r86) (fun _ _ _=>rfl) (fun n x y z=>t101_0 r91 r99 r86 L101_0 _ x y z) rfl;exact Qk (E:=E101 r91 r99 r86 L101_0) rfl hE mixed (by kernel_rfl) (by kernel_rfl) (Zt.of_list (l:=[(Zk (Zm Tryz.f101) 0)]) (by kernel_rfl) (.one (by kernel_rfl) h0 trivial)) (s101 r91 r99 r86 L101_0)
abbrev i100:Ts:=[.a q14, .v (.int .i64)]
abbrev o100:Ts:=[.a q14, .v (.bool)]
abbrev R100:=Option (PTup o100×BTup i100)
abbrev F100:=PTup i100→R100
abbrev g100:=mkG 100 i100 o100
noncomputable def m100 (c170:F170) (c171:F171):F100:=fun y=>let a0:=y.1;let a1:=a0.2;let a2:=a1.2;let a3:=a2.2;let a4:=a3.2;let a5:=a4.2;let a6:=a5.2;let a7:=a6.2;let a8:=a7.2;let a9:=a8.1;let X0:R100:=bif (leI y.2.1 a0.1)then (some ((a0,(false,())),()))else bif (eqI a0.1 20000)then (some ((a0,(false,())),()))else (c171 ((a0.1,(a1.1,(a2.1,(a3.1,(a4.1,(a5.1,(a6.1,()))))))),())).bind fun r0=>bif r0.1.2.2.1 then (bif (leN ((List.length a8.2.1)+(List.length (r0.1.2.1::[]))) (E.most .i))then (some (((r0.1.1.1,(r0.1.1.2.1,(r0.1.1.2.2.1,(r0.1.1.2.2.2.1,(r0.1.1.2.2.2.2.1,(r0.1.1.2.2.2.2.2.1,(r0.1.1.2.2.2.2.2.2.1,(a7.1,(a9,((a8.2.1++(r0.1.2.1::[])),())))))))))),(true,())),()))else none)else some (((r0.1.1.1,(r0.1.1.2.1,(r0.1.1.2.2.1,(r0.1.1.2.2.2.1,(r0.1.1.2.2.2.2.1,(r0.1.1.2.2.2.2.2.1,(r0.1.1.2.2.2.2.2.2.1,a7))))))),(true,())),());bif (ltI 0 (Zf a9))then (bif (ltI 0 (Zf a9))then (bif (eqI (rdE .t a9 (0:Int)).1 a0.1)then (bif (ltI 0 (Zf a9))then (bif (leI 1 (Zf a9))then (bif (leN (0+(List.length (List.drop (Int.toNat (1:Int)) a9))) (E.most .t))then ((c170 ((a0.1,(a1.1,(a2.1,(a3.1,(a4.1,(a5.1,(a6.1,()))))))),((rdE .t a9 (0:Int)).2.1,((rdE .t a9 (0:Int)).2.2,())))).bind fun r0=>some (((r0.1.1.1,(r0.1.1.2.1,(r0.1.1.2.2.1,(r0.1.1.2.2.2.1,(r0.1.1.2.2.2.2.1,(r0.1.1.2.2.2.2.2.1,(r0.1.1.2.2.2.2.2.2.1,(a7.1,(([]++(List.drop (Int.toNat (1:Int)) a9)),a8.2))))))))),(true,())),()))else none)else none)else none)else X0)else none)else X0
theorem s100 (c170:F170) (c171:F171) (y):TE [g170 c170,g171 c171] Tryz.f100 i100 o100 y=m100 c170 c171 y:=by kernel_rfl
noncomputable def r100:F100:=m100 r170 r171
theorem k100:KO (g100 r100):=fk (s100 r170 r171) ⟨k170,k171,⟨⟩⟩
abbrev i102:Ts:=[.a q9, .v (.int .i64)]
abbrev o102:Ts:=[.a q14]
abbrev F102:=FT i102 o102
abbrev g102:=mkG 102 i102 o102
abbrev lc102_0:Ts:=[.v (.int .i64)]
abbrev lb102_0:Ts:=[.p q14]
abbrev lv102_0:Ts:=[.v (.bool)]
abbrev lr102_0:Ts:=[]
abbrev R102_0:=Option (Sum (PTup lv102_0) (PTup lr102_0)×BTup lb102_0)
abbrev B102_0:=PTup lb102_0→PTup lv102_0→R102_0
abbrev A102_0:=PTup lc102_0→B102_0
noncomputable def w102_0 (c92:F92) (c100:F100) (c87:F87) (again:B102_0):A102_0:=fun x y z=>bif z.1 then ((c100 (y.1,x)).bind fun r0=>again (r0.1.1,()) r0.1.2)else some ((Sum.inl z),(y.1,()))
noncomputable def e102_0 (l:A102_0):ZJ:=⟨[1],lc102_0,[5],lb102_0,[6],lv102_0,[],lr102_0,0,[],l⟩
noncomputable def m102 (c92:F92) (c100:F100) (c87:F87) (l0:A102_0):F102:=fun y=>(c92 (y.1,())).bind fun r0=>bif (!r0.1.1)then (some ((((0:Int),((0:Int),((0:Int),((0:Int),((0:Int),(false,(false,((0:Int),([],([],())))))))))),()),()))else (c87 (y.1,())).bind fun r1=>(l0 y.2 (r1.1.1,()) (true,())).bind fun r2=>ZE r2.1 (fun r3=>some ((r2.2.1,()),())) (fun r3=>some ((((0:Int),((0:Int),((0:Int),((0:Int),((0:Int),(false,(false,((0:Int),([],([],())))))))))),()),()))
noncomputable def E102 (c92:F92) (c100:F100) (c87:F87) (l0:A102_0):ZH:=⟨⟨Tryz.prog,Z6 [g92 c92,g100 c100,g87 c87]⟩,Qg [(5,e102_0 l0)]⟩
theorem t102_0 (c92:F92) (c100:F100) (c87:F87) (l0:A102_0) (again) (x y z):ZX (E102 c92 c100 c87 l0) (Zk (Zm Tryz.f102) 0) (e102_0 l0) Tryz.f102.ntmps again x y z=w102_0 c92 c100 c87 again x y z:=by kernel_rfl
noncomputable def n102_0 (c92:F92) (c100:F100) (c87:F87):Nat→A102_0
  |0,_,_,_=>none
  |n+1,x,y,z=>w102_0 c92 c100 c87 (fun y z=>n102_0 c92 c100 c87 n x y z) x y z
theorem s102 (c92:F92) (c100:F100) (c87:F87) (l0:A102_0) (y):Z8 (E102 c92 c100 c87 l0) Tryz.f102 i102 o102 y=m102 c92 c100 c87 l0 y:=by kernel_rfl
noncomputable def L102_0:A102_0:=n102_0 r92 r100 r87 fuel
noncomputable def r102:F102:=m102 r92 r100 r87 L102_0
theorem k102:KO (g102 r102):=by
  have hE: ∀g f,(E102 r92 r100 r87 L102_0).env.fns g=some f→Zy Tryz.prog g f:=Qf ⟨k92,k100,k87,⟨⟩⟩;have h0:ZP Tryz.prog Tryz.f102.ntmps (Zk (Zm Tryz.f102) 0) (e102_0 L102_0):=Z0 (E:=E102 r92 r100 r87 L102_0) rfl hE mixed (Zt.of_list (l:=[]) (by kernel_rfl) trivial) (n102_0 r92 r100 r87) (fun _ _ _=>rfl) (fun n x y z=>t102_0 r92 r100 r87 L102_0 _ x y z) rfl;exact Qk (E:=E102 r92 r100 r87 L102_0) rfl hE mixed (by kernel_rfl) (by kernel_rfl) (Zt.of_list (l:=[(Zk (Zm Tryz.f102) 0)]) (by kernel_rfl) (.one (by kernel_rfl) h0 trivial)) (s102 r92 r100 r87 L102_0)
abbrev i39:Ts:=[.a q10]
abbrev o39:Ts:=[.a q11]
abbrev F39:=FT i39 o39
abbrev g39:=mkG 39 i39 o39
noncomputable def m39 (c101:F101) (c102:F102) (c36:F36) (c35:F35):F39:=fun y=>let a0:=y.1;let a1:=a0.2;let a2:=a1.2;let a3:=a2.2;let a4:=a3.2;let a5:=a4.2;let a6:=a5.2;let a7:=a6.2;let a8:=a7.2;let a9:=a8.2;let a10:=a9.2.2;let a11:=a10.2;let a12:=a11.2;let a13:=a12.2;let a14:=a13.2;let a15:=a14.2;let a16:=a15.2;let a17:=a16.2;let a18:=a17.2;let a19:=a18.2;let a20:=a19.2;let a21:=a20.2;let a22:=a21.2;let a23:=a22.2.2;let a24:=a23.2.2;(c35 (a0,())).bind fun r0=>let b0:=r0.1;let b1:=b0.1;let b2:=b1.2;let b3:=b2.2;let b4:=b3.2;let b5:=b4.2;let b6:=b5.2;let b7:=b6.2;let b8:=b7.2;let b9:=b8.2;let b10:=b9.2.2;let b11:=b10.2;let b12:=b11.2.2;let b13:=b12.2.2;(c36 (a0,())).bind fun r1=>bif (!r1.1.1)then (some ((b1,()),()))else (c101 ((a20.1,(a21.1,(a22.1,(a22.2.1,(a23.1,(a23.2.1,(a24.1,(a24.2.1,(a24.2.2.1,(a24.2.2.2.1,(a24.2.2.2.2.1,()))))))))))),(a13.1,()))).bind fun r2=>(c102 (a24.2.2.2.2.2,(a13.1,()))).bind fun r3=>some (((b1.1,(b2.1,(b3.1,(b4.1,(b5.1,(b6.1,(b7.1,(b8.1,(b9.1,(b9.2.1,(b10.1,(b11.1,(b11.2.1,(b12.1,(b12.2.1,(b13.1,(b13.2.1,(b13.2.2.1,(b13.2.2.2.1,(b13.2.2.2.2.1,(b13.2.2.2.2.2.1,(r2.1.1.1,(r2.1.1.2.1,(r2.1.1.2.2.1,(r2.1.1.2.2.2.1,(r2.1.1.2.2.2.2.1,(r2.1.1.2.2.2.2.2.1,(r2.1.1.2.2.2.2.2.2.1,(r2.1.1.2.2.2.2.2.2.2.1,(r2.1.1.2.2.2.2.2.2.2.2.1,(r2.1.1.2.2.2.2.2.2.2.2.2.1,(r2.1.1.2.2.2.2.2.2.2.2.2.2.1,r3.1.1)))))))))))))))))))))))))))))))),()),())
theorem s39 (c101:F101) (c102:F102) (c36:F36) (c35:F35) (y):TE [g101 c101,g102 c102,g36 c36,g35 c35] Tryz.f39 i39 o39 y=m39 c101 c102 c36 c35 y:=by kernel_rfl
noncomputable def r39:F39:=m39 r101 r102 r36 r35
theorem k39:KO (g39 r39):=fk (s39 r101 r102 r36 r35) ⟨k101,k102,k36,k35,⟨⟩⟩
abbrev i229:Ts:=[.a q10]
abbrev o229:Ts:=[.a q17]
abbrev R229:=Option (PTup o229×BTup i229)
abbrev F229:=PTup i229→R229
abbrev g229:=mkG 229 i229 o229
noncomputable def m229 (c227:F227) (c36:F36) (c81:F81) (c160:F160) (c155:F155) (c85:F85) (c145:F145):F229:=fun y=>let a0:=y.1;let a1:=a0.2;let a2:=a1.2;let a3:=a2.2;let a4:=a3.2;let a5:=a4.2;let a6:=a5.2;let a7:=a6.2;let a8:=a7.2;let a9:=a8.2;let a10:=a9.2;let a11:=a10.2;let a12:=a11.2;let a13:=a12.2;let a14:=a13.2;let a15:=a14.2;let a16:=a15.2;let a17:=a16.2;let a18:=a17.2;let a19:=a18.2;let a20:=a19.2;let a21:=a20.2;let a22:=a21.2;let a23:=a22.2;let a24:=a23.2;let a25:=a24.2;let a26:=a25.2;let a27:=a26.2.2;let a28:=a27.2.2;let a29:=a28.2.2;let a30:=a29.2.2.2;let X0:R229:=some ((([],([],([],((0:Int),((0:Int),((0:Int),((0:Int),((0:Int),(false,(false,(false,(false,((0:Int),((0:Int),((0:Int),((0:Int),((0:Int),(false,([],([],((0:Int),((0:Int),((0:Int),((0:Int),((0:Int),(false,(false,(false,((0:Int),(false,((0:Int),([],([],([],())))))))))))))))))))))))))))))))))),()),());(c36 (a0,())).bind fun r0=>bif (!r0.1.1)then X0 else (c160 (a0,())).bind fun r1=>bif (!r1.1.1)then X0 else (c155 (a0,())).bind fun r2=>bif (!r2.1.1)then X0 else (c81 ((a0.1,()),())).bind fun r3=>bif (leN (0+(List.length a1.1)) (E.most .i))then ((c85 ((a2.1,(a3.1,())),())).bind fun r4=>(c145 ((a21.1,(a22.1,(a23.1,(a24.1,(a25.1,(a26.1,(a26.2.1,(a27.1,())))))))),())).bind fun r5=>(c227 (a0,())).bind fun r6=>some (((r3.1.1.1,(([]++a1.1),(r4.1.1.1,(r4.1.1.2.1,(a4.1,(a5.1,(a6.1,(a7.1,(a8.1,(a9.1,(a10.1,(a11.1,(r5.1.1.1,(r5.1.1.2.1,(r5.1.1.2.2.1,(r5.1.1.2.2.2.1,(r5.1.1.2.2.2.2.1,(r5.1.1.2.2.2.2.2.1,(r5.1.1.2.2.2.2.2.2.1,(r5.1.1.2.2.2.2.2.2.2.1,(a29.1,(a29.2.1,(a29.2.2.1,(a30.1,(a30.2.1,(a30.2.2.1,(a30.2.2.2.1,(a12.1,(a13.1,(a15.1,(a19.1,r6.1.1))))))))))))))))))))))))))))))),()),()))else none
theorem s229 (c227:F227) (c36:F36) (c81:F81) (c160:F160) (c155:F155) (c85:F85) (c145:F145) (y):TE [g227 c227,g36 c36,g81 c81,g160 c160,g155 c155,g85 c85,g145 c145] Tryz.f229 i229 o229 y=m229 c227 c36 c81 c160 c155 c85 c145 y:=by kernel_rfl
noncomputable def r229:F229:=m229 r227 r36 r81 r160 r155 r85 r145
theorem k229:KO (g229 r229):=fk (s229 r227 r36 r81 r160 r155 r85 r145) ⟨k227,k36,k81,k160,k155,k85,k145,⟨⟩⟩
abbrev i278:Ts:=[.a q5, .a q5]
abbrev o278:Ts:=[.v (.bool)]
abbrev F278:=FT i278 o278
abbrev g278:=mkG 278 i278 o278
noncomputable def m278 (c225:F225):F278:=fun y=>bif (eqI y.1.1 y.2.1.1)then (bif (eqI y.1.2.1 y.2.1.2.1)then (bif (eqI y.1.2.2.1 y.2.1.2.2.1)then (bif (eqI y.1.2.2.2.1 y.2.1.2.2.2.1)then (bif (eqI y.1.2.2.2.2.1 y.2.1.2.2.2.2.1)then (bif (y.1.2.2.2.2.2.1==y.2.1.2.2.2.2.2.1)then ((c225 (y.1.2.2.2.2.2.2.1,(y.2.1.2.2.2.2.2.2.1,()))).bind fun r0=>bif r0.1.1 then ((c225 (y.1.2.2.2.2.2.2.2.1,y.2.1.2.2.2.2.2.2.2)).bind fun r1=>some (r1.1,()))else no)else no)else no)else no)else no)else no)else no
theorem s278 (c225:F225) (y):TE [g225 c225] Tryz.f278 i278 o278 y=m278 c225 y:=by kernel_rfl
noncomputable def r278:F278:=m278 r225
theorem k278:KO (g278 r278):=fk (s278 r225) ⟨k225,⟨⟩⟩
abbrev i279:Ts:=[.a q19, .a q19]
abbrev o279:Ts:=[.v (.bool)]
abbrev F279:=FT i279 o279
abbrev g279:=mkG 279 i279 o279
noncomputable def m279 (c226:F226):F279:=fun y=>(c226 (y.1,(y.2.1,()))).bind fun r0=>bif r0.1.1 then ((c226 (y.2.1,(y.1,()))).bind fun r1=>some (r1.1,()))else no
theorem s279 (c226:F226) (y):TE [g226 c226] Tryz.f279 i279 o279 y=m279 c226 y:=by kernel_rfl
noncomputable def r279:F279:=m279 r226
theorem k279:KO (g279 r279):=fk (s279 r226) ⟨k226,⟨⟩⟩
abbrev i228:Ts:=[.a q16, .a q16]
abbrev o228:Ts:=[.v (.bool)]
abbrev F228:=FT i228 o228
abbrev g228:=mkG 228 i228 o228
noncomputable def m228 (c279:F279) (c278:F278) (c225:F225):F228:=fun y=>let a0:=y.1;let a1:=y.2;let a2:=a0.2;let a3:=a1.1;let a4:=a2.2;let a5:=a3.2;let a6:=a4.2;let a7:=a5.2;let a8:=a6.2;let a9:=a7.2;let a10:=a8.2;let a11:=a9.2;let a12:=a10.2;let a13:=a11.2;let a14:=a12.2;let a15:=a13.2;let a16:=a14.2;let a17:=a15.2;let a18:=a16.2;let a19:=a17.2;let a20:=a18.2;let a21:=a19.2;let a22:=a20.2;let a23:=a21.2;let a24:=a22.2;let a25:=a23.2;let a26:=a24.2;let a27:=a25.2;let a28:=a26.2;let a29:=a27.2;let a30:=a28.2;let a31:=a29.2;let a32:=a30.2;let a33:=a31.2;let a34:=a32.2;let a35:=a33.2;let a36:=a34.2;let a37:=a35.2;let a38:=a36.2;let a39:=a37.2;let a40:=a38.2;let a41:=a39.2;let a42:=a40.2;let a43:=a41.2;let a44:=a42.2;let a45:=a43.2;let a46:=a45.2;let a47:=a44.2.2;let a48:=a46.2.2;let a49:=a47.2.2;let a50:=a48.2.2;(c225 (a4.1,(a7.1,()))).bind fun r0=>bif r0.1.1 then (bif (eqI a6.1 a9.1)then (bif ((eqI a8.1 a11.1)&&((eqI a10.1 a13.1)&&((eqI a12.1 a15.1)&&((eqI a14.1 a17.1)&&((a16.1==a19.1)&&((a18.1==a21.1)&&((a20.1==a23.1)&&((a22.1==a25.1)&&true))))))))then ((c278 ((a24.1,(a26.1,(a28.1,(a30.1,(a32.1,(a34.1,(a36.1,(a38.1,())))))))),((a27.1,(a29.1,(a31.1,(a33.1,(a35.1,(a37.1,(a39.1,(a41.1,())))))))),()))).bind fun r1=>bif r1.1.1 then (bif ((eqI a40.1 a43.1)&&((eqI a42.1 a45.1)&&((eqI a44.1 a46.1)&&((eqI a44.2.1 a46.2.1)&&((eqI a47.1 a48.1)&&((a47.2.1==a48.2.1)&&((a49.1==a50.1)&&true)))))))then (bif ((a49.2.1==a50.2.1)&&((eqI a49.2.2.1 a50.2.2.1)&&true))then (bif (a49.2.2.2.1==a50.2.2.2.1)then (bif (eqI a49.2.2.2.2.1 a50.2.2.2.2.1)then ((c279 (a49.2.2.2.2.2,(a50.2.2.2.2.2,()))).bind fun r2=>some (r2.1,()))else no)else no)else no)else no)else no)else no)else no)else no
theorem s228 (c279:F279) (c278:F278) (c225:F225) (y):TE [g279 c279,g278 c278,g225 c225] Tryz.f228 i228 o228 y=m228 c279 c278 c225 y:=by kernel_rfl
noncomputable def r228:F228:=m228 r279 r278 r225
theorem k228:KO (g228 r228):=fk (s228 r279 r278 r225) ⟨k279,k278,k225,⟨⟩⟩
abbrev i164:Ts:=[.a q10]
abbrev o164:Ts:=[.v (.bool)]
abbrev F164:=FT i164 o164
abbrev g164:=mkG 164 i164 o164
noncomputable def m164 (c229:F229) (c39:F39) (c228:F228) (c224:F224) (c223:F223):F164:=fun y=>(c223 (y.1,())).bind fun r0=>bif r0.1.1 then ((c39 (y.1,())).bind fun r1=>(c229 (r1.1.1,())).bind fun r2=>(c224 (y.1,())).bind fun r3=>(c228 (r2.1.1,(r3.1.1,()))).bind fun r4=>some (r4.1,()))else no
theorem s164 (c229:F229) (c39:F39) (c228:F228) (c224:F224) (c223:F223) (y):TE [g229 c229,g39 c39,g228 c228,g224 c224,g223 c223] Tryz.f164 i164 o164 y=m164 c229 c39 c228 c224 c223 y:=by kernel_rfl
noncomputable def r164:F164:=m164 r229 r39 r228 r224 r223
theorem k164:KO (g164 r164):=fk (s164 r229 r39 r228 r224 r223) ⟨k229,k39,k228,k224,k223,⟨⟩⟩
abbrev i233:Ts:=[.a q11, .v (.bool)]
abbrev o233:Ts:=[.a q11]
abbrev F233:=FT i233 o233
abbrev g233:=mkG 233 i233 o233
noncomputable def m233:F233:=fun y=>some (((y.1.1,(y.1.2.1,(y.1.2.2.1,(y.1.2.2.2.1,(y.1.2.2.2.2.1,(y.1.2.2.2.2.2.1,(y.1.2.2.2.2.2.2.1,(y.1.2.2.2.2.2.2.2.1,(y.1.2.2.2.2.2.2.2.2.1,(y.1.2.2.2.2.2.2.2.2.2.1,(y.1.2.2.2.2.2.2.2.2.2.2.1,(y.1.2.2.2.2.2.2.2.2.2.2.2.1,(y.1.2.2.2.2.2.2.2.2.2.2.2.2.1,(y.1.2.2.2.2.2.2.2.2.2.2.2.2.2.1,(y.1.2.2.2.2.2.2.2.2.2.2.2.2.2.2.1,(y.1.2.2.2.2.2.2.2.2.2.2.2.2.2.2.2.1,(y.1.2.2.2.2.2.2.2.2.2.2.2.2.2.2.2.2.1,(y.2.1,(y.1.2.2.2.2.2.2.2.2.2.2.2.2.2.2.1,y.1.2.2.2.2.2.2.2.2.2.2.2.2.2.2.2.2.2.2.2))))))))))))))))))),()),())
theorem s233 (y):TE [] Tryz.f233 i233 o233 y=m233 y:=by kernel_rfl
noncomputable def r233:F233:=m233
theorem k233:KO (g233 r233):=fk (s233) trivial
abbrev i234:Ts:=[.a q11, .v (.int .i64)]
abbrev o234:Ts:=[.a q11, .v (.int .i64)]
abbrev F234:=FT i234 o234
abbrev g234:=mkG 234 i234 o234
noncomputable def m234 (c283:F283) (c284:F284) (c282:F282) (c159:F159) (c233:F233) (c217:F217):F234:=fun y=>let a0:=y.1;let a1:=a0.2;let a2:=a1.2;let a3:=a2.2;let a4:=a3.2;let a5:=a4.2;let a6:=a5.2;let a7:=a6.2;let a8:=a7.2;let a9:=a8.2;let a10:=a9.2;let a11:=a10.2;let a12:=a11.2;let a13:=a12.2;let a14:=a13.2;let a15:=a14.2;let a16:=a15.2;let a17:=a16.2;let a18:=a17.2;let a19:=a18.2;let a20:=a19.2;let a21:=a20.2;let a22:=a21.2;let a23:=a22.2;let a24:=a23.2;let a25:=a24.2;let a26:=a25.2;let a27:=a26.2;let a28:=a27.2;let a29:=a28.2;let a30:=a29.2;let a31:=a30.2;let a32:=a31.2.2;let a33:=a32.2.2;(c159 y.2).bind fun r0=>bif (eqI r0.1.1 2)then ((c282 ((a21.1,(a22.1,(a23.1,(a24.1,(a25.1,(a26.1,(a27.1,(a28.1,())))))))),r0.1.2)).bind fun r1=>bif (leN ((List.length a20.1)+(List.length (r1.1.2.1::[]))) (E.most .i))then (some (((a0.1,(a1.1,(a2.1,(a3.1,(a4.1,(a5.1,(a6.1,(a7.1,(a8.1,(a9.1,(a10.1,(a11.1,(a12.1,(a13.1,(a14.1,(a15.1,(a16.1,(a17.1,(a18.1,(a19.1,((a20.1++(r1.1.2.1::[])),(r1.1.1.1,(r1.1.1.2.1,(r1.1.1.2.2.1,(r1.1.1.2.2.2.1,(r1.1.1.2.2.2.2.1,(r1.1.1.2.2.2.2.2.1,(r1.1.1.2.2.2.2.2.2.1,(r1.1.1.2.2.2.2.2.2.2.1,a29))))))))))))))))))))))))))))),r1.1.2),()))else none)else bif (eqI r0.1.1 3)then ((c283 ((a31.2.1,(a32.1,(a32.2.1,(a33.1,(a33.2.1,(a33.2.2.1,(a33.2.2.2.1,()))))))),r0.1.2)).bind fun r1=>bif (eqI r0.1.2.1 2)then ((c233 ((a0.1,(a1.1,(a2.1,(a3.1,(a4.1,(a5.1,(a6.1,(a7.1,(a8.1,(a9.1,(a10.1,(a11.1,(a12.1,(a13.1,(a14.1,(a15.1,(a16.1,(a17.1,(a18.1,(a19.1,(a20.1,(a21.1,(a22.1,(a23.1,(a24.1,(a25.1,(a26.1,(a27.1,(a28.1,(a29.1,(a30.1,(a31.1,(r1.1.1.1,(r1.1.1.2.1,(r1.1.1.2.2.1,(r1.1.1.2.2.2.1,(r1.1.1.2.2.2.2.1,(r1.1.1.2.2.2.2.2.1,(r1.1.1.2.2.2.2.2.2.1,a33.2.2.2.2))))))))))))))))))))))))))))))))))))))),(false,()))).bind fun r2=>let f0:=r2.1;let f1:=f0.1;let f2:=f1.2;let f3:=f2.2;let f4:=f3.2;let f5:=f4.2;let f6:=f5.2;let f7:=f6.2;let f8:=f7.2;let f9:=f8.2;let f10:=f9.2.2;let f11:=f10.2;let f12:=f11.2;let f13:=f12.2;let f14:=f13.2.2;let f15:=f14.2.2;bif (leN ((List.length f15.2.2.2.1)+(List.length (r1.1.2.1::[]))) (E.most .i))then (some (((f1.1,(f2.1,(f3.1,(f4.1,(f5.1,(f6.1,(f7.1,(f8.1,(f9.1,(f9.2.1,(f10.1,(f11.1,(f12.1,(f13.1,(f13.2.1,(f14.1,(f14.2.1,(f15.1,(f15.2.1,(f15.2.2.1,((f15.2.2.2.1++(r1.1.2.1::[])),f15.2.2.2.2))))))))))))))))))))),r1.1.2),()))else none)else bif (leN ((List.length a20.1)+(List.length (r1.1.2.1::[]))) (E.most .i))then (some (((a0.1,(a1.1,(a2.1,(a3.1,(a4.1,(a5.1,(a6.1,(a7.1,(a8.1,(a9.1,(a10.1,(a11.1,(a12.1,(a13.1,(a14.1,(a15.1,(a16.1,(a17.1,(a18.1,(a19.1,((a20.1++(r1.1.2.1::[])),(a21.1,(a22.1,(a23.1,(a24.1,(a25.1,(a26.1,(a27.1,(a28.1,(a29.1,(a30.1,(a31.1,(r1.1.1.1,(r1.1.1.2.1,(r1.1.1.2.2.1,(r1.1.1.2.2.2.1,(r1.1.1.2.2.2.2.1,(r1.1.1.2.2.2.2.2.1,(r1.1.1.2.2.2.2.2.2.1,a33.2.2.2.2))))))))))))))))))))))))))))))))))))))),r1.1.2),()))else none)else bif (eqI r0.1.1 4)then ((c284 ((a12.1,(a13.1,())),(a1.1,(a14.1,())))).bind fun r1=>bif (leN ((List.length a20.1)+(List.length (r1.1.2.1::[]))) (E.most .i))then (some (((a0.1,(a1.1,(a2.1,(a3.1,(a4.1,(a5.1,(a6.1,(a7.1,(a8.1,(a9.1,(a10.1,(a11.1,(r1.1.1.1,(r1.1.1.2.1,(a14.1,(a15.1,(a16.1,(a17.1,(a18.1,(a19.1,((a20.1++(r1.1.2.1::[])),a21))))))))))))))))))))),r1.1.2),()))else none)else (c217 ((a0.1,()),((a2.1,(a3.1,())),y.2))).bind fun r1=>some ((a0,r1.1),())
theorem s234 (c283:F283) (c284:F284) (c282:F282) (c159:F159) (c233:F233) (c217:F217) (y):TE [g283 c283,g284 c284,g282 c282,g159 c159,g233 c233,g217 c217] Tryz.f234 i234 o234 y=m234 c283 c284 c282 c159 c233 c217 y:=by kernel_rfl
noncomputable def r234:F234:=m234 r283 r284 r282 r159 r233 r217
theorem k234:KO (g234 r234):=fk (s234 r283 r284 r282 r159 r233 r217) ⟨k283,k284,k282,k159,k233,k217,⟨⟩⟩
abbrev i235:Ts:=[.a q11, .v (.int .i64), .v (.int .i64)]
abbrev o235:Ts:=[.a q11]
abbrev R235:=Option (PTup o235×BTup i235)
abbrev F235:=PTup i235→R235
abbrev g235:=mkG 235 i235 o235
noncomputable def m235 (c285:F285) (c286:F286) (c159:F159) (c233:F233):F235:=fun y=>let a0:=y.1;let a1:=a0.2;let a2:=y.2.2;let a3:=a1.2;let a4:=a3.2;let a5:=a4.2;let a6:=a5.2;let a7:=a6.2;let a8:=a7.2;let a9:=a8.2;let a10:=a9.2;let a11:=a10.2;let a12:=a11.2;let a13:=a12.2;let a14:=a13.2;let a15:=a14.2;let a16:=a15.1;let a17:=a15.2;let a18:=a17.2;let a19:=a18.2;let a20:=a19.2;let a21:=a20.2;let a22:=a21.2;let a23:=a22.2;let a24:=a23.2;let a25:=a24.2;let a26:=a25.2;let a27:=a26.2;let a28:=a27.2;let a29:=a28.2;let a30:=a29.2;let a31:=a30.2;let a32:=a31.2;let a33:=a32.2;let a34:=a33.2;let a35:=a34.2;let a36:=a35.2;let a37:=a36.2;let a38:=a37.2;let a39:=a38.2;let a40:=a39.2.2;(c159 (y.2.1,())).bind fun r0=>let X0:R235:=(c233 ((a0.1,(a1.1,(a3.1,(a4.1,(a5.1,(a6.1,(a7.1,(a8.1,(a9.1,(a10.1,(a11.1,(a12.1,(a13.1,(a14.1,(a16,(a17.1,(a18.1,(a19.1,(a20.1,(a21.1,(a22.1,(a23.1,(a24.1,(a25.1,(a26.1,(a27.1,(a28.1,(a29.1,(a30.1,(a31.1,(a32.1,(a33.1,(a34.1,(a35.1,(a36.1,(a37.1,(a38.1,(a39.1,(a39.2.1,(a40.1,((a40.2.1++((a16,(r0.1.2.1,a2.1))::[])),a40.2.2))))))))))))))))))))))))))))))))))))))))),(false,()))).bind fun r1=>some ((r1.1.1,()),());let X1:R235:=some (((a0.1,(a1.1,(a3.1,(a4.1,(a5.1,(a6.1,(a7.1,(a8.1,(a9.1,(a10.1,(a11.1,(a12.1,(a13.1,(a14.1,(a16,(a17.1,(a18.1,(a19.1,(a20.1,(a21.1,(a22.1,(a23.1,(a24.1,(a25.1,(a26.1,(a27.1,(a28.1,(a29.1,(a30.1,(a31.1,(a32.1,(a33.1,(a34.1,(a35.1,(a36.1,(a37.1,(a38.1,(a39.1,(a39.2.1,(a40.1,((a40.2.1++((a16,(r0.1.2.1,a2.1))::[])),a40.2.2))))))))))))))))))))))))))))))))))))))))),()),());bif (eqI r0.1.1 2)then (bif (leN ((List.length a32.1)+(List.length ((a16,(r0.1.2.1,a2.1))::[]))) (E.most .t))then (bif (eqI r0.1.2.1 0)then (some (((a0.1,(a1.1,(a3.1,(a4.1,(a5.1,(a6.1,(a7.1,(a8.1,(a9.1,(a10.1,(a11.1,(a12.1,(a13.1,(a14.1,(a16,(a17.1,(a2.1,(a19.1,(a20.1,(a21.1,(a22.1,(a23.1,(a24.1,(a25.1,(a26.1,(a27.1,(a28.1,(a29.1,(a30.1,(a31.1,((a32.1++((a16,(r0.1.2.1,a2.1))::[])),a33))))))))))))))))))))))))))))))),()),()))else some (((a0.1,(a1.1,(a3.1,(a4.1,(a5.1,(a6.1,(a7.1,(a8.1,(a9.1,(a10.1,(a11.1,(a12.1,(a13.1,(a14.1,(a16,(a17.1,(a18.1,(a19.1,(a20.1,(a21.1,(a22.1,(a23.1,(a24.1,(a25.1,(a26.1,(a27.1,(a28.1,(a29.1,(a30.1,(a31.1,((a32.1++((a16,(r0.1.2.1,a2.1))::[])),a33))))))))))))))))))))))))))))))),()),()))else none)else bif (eqI r0.1.1 3)then (bif (leN ((List.length a40.2.1)+(List.length ((a16,(r0.1.2.1,a2.1))::[]))) (E.most .t))then (bif (eqI r0.1.2.1 3)then X0 else bif (eqI r0.1.2.1 2)then (bif (eqI (Int.tmod a2.1 2) (0:Int))then X0 else X1)else X1)else none)else bif (eqI r0.1.1 4)then ((c285 ((a13.1,(a14.1,())),(a1.1,(a16,a2)))).bind fun r1=>some (((a0.1,(a1.1,(a3.1,(a4.1,(a5.1,(a6.1,(a7.1,(a8.1,(a9.1,(a10.1,(a11.1,(a12.1,(r1.1.1.1,(r1.1.1.2.1,a15)))))))))))))),()),()))else (c286 ((a0.1,()),((a3.1,(a4.1,())),y.2))).bind fun r1=>some (((a0.1,(a1.1,(r1.1.1.1,(r1.1.1.2.1,a5)))),()),())
theorem s235 (c285:F285) (c286:F286) (c159:F159) (c233:F233) (y):TE [g285 c285,g286 c286,g159 c159,g233 c233] Tryz.f235 i235 o235 y=m235 c285 c286 c159 c233 y:=by kernel_rfl
noncomputable def r235:F235:=m235 r285 r286 r159 r233
theorem k235:KO (g235 r235):=fk (s235 r285 r286 r159 r233) ⟨k285,k286,k159,k233,⟨⟩⟩
abbrev i166:Ts:=[.a q11]
abbrev o166:Ts:=[.a q11, .v (.int .i64)]
abbrev F166:=FT i166 o166
abbrev g166:=mkG 166 i166 o166
noncomputable def m166 (c158:F158) (c154:F154) (c232:F232) (c236:F236) (c157:F157) (c161:F161) (c233:F233) (c234:F234) (c235:F235):F166:=fun y=>let a0:=y.1;let a1:=a0.2;let a2:=a1.2;let a3:=a2.2;let a4:=a3.2;let a5:=a4.2;let a6:=a5.2;let a7:=a6.2;let a8:=a7.2;let a9:=a8.2;let a10:=a9.2;let a11:=a10.2;let a12:=a11.2;let a13:=a12.2.2;bif a13.2.1 then ((c232 ((a0.1,()),((a2.1,(a3.1,())),((a4.1,(a5.1,(a6.1,(a7.1,(a8.1,(a9.1,(a10.1,(a11.1,())))))))),((65530:Int),()))))).bind fun r0=>some (((a0.1,(a1.1,(r0.1.1.1,(r0.1.1.2.1,(r0.1.2.1.1,(r0.1.2.1.2.1,(r0.1.2.1.2.2.1,(r0.1.2.1.2.2.2.1,(r0.1.2.1.2.2.2.2.1,(r0.1.2.1.2.2.2.2.2.1,(r0.1.2.1.2.2.2.2.2.2.1,(r0.1.2.1.2.2.2.2.2.2.2.1,(a12.1,(a12.2.1,(a13.1,(false,a13.2.2)))))))))))))))),((7:Int),())),()))else bif (!a11.1)then ((c154 (a13.2.2.2.2.1,(a13.1,()))).bind fun r0=>bif r0.1.1 then ((c233 (a0,(a13.2.2.2.2.2.2.2.2.2.2.2.2.2.2.2.2.2.2.2.2.2.2.2.2.1,()))).bind fun r1=>let d0:=r1.1;let d1:=d0.1;let d2:=d1.2;let d3:=d2.2;let d4:=d3.2;let d5:=d4.2;let d6:=d5.2;let d7:=d6.2;let d8:=d7.2;let d9:=d8.2;let d10:=d9.2.2;bif d10.2.2.2.2.2.2.2.1 then ((c232 ((d1.1,()),((d3.1,(d4.1,())),((d5.1,(d6.1,(d7.1,(d8.1,(d9.1,(d9.2.1,(d10.1,(d10.2.1,())))))))),((65534:Int),()))))).bind fun r2=>some (((d1.1,(d2.1,(r2.1.1.1,(r2.1.1.2.1,(r2.1.2.1.1,(r2.1.2.1.2.1,(r2.1.2.1.2.2.1,(r2.1.2.1.2.2.2.1,(r2.1.2.1.2.2.2.2.1,(r2.1.2.1.2.2.2.2.2.1,(r2.1.2.1.2.2.2.2.2.2.1,(r2.1.2.1.2.2.2.2.2.2.2.1,d10.2.2)))))))))))),((7:Int),())),()))else (c157 ((d1.1,()),((d3.1,(d4.1,())),(d8.1,())))).bind fun r2=>(c158 (r2.1.1,((d5.1,(d6.1,(d7.1,(d8.1,(d9.1,(d9.2.1,(d10.1,(d10.2.1,())))))))),()))).bind fun r3=>bif (eqI r3.1.1 1)then ((c234 (d1,(r3.1.2.1,()))).bind fun r4=>(c236 ((r4.1.1.2.2.1,(r4.1.1.2.2.2.1,())),((r4.1.1.2.2.2.2.1,(r4.1.1.2.2.2.2.2.1,(r4.1.1.2.2.2.2.2.2.1,(r4.1.1.2.2.2.2.2.2.2.1,(r4.1.1.2.2.2.2.2.2.2.2.1,(r4.1.1.2.2.2.2.2.2.2.2.2.1,(r4.1.1.2.2.2.2.2.2.2.2.2.2.1,(r4.1.1.2.2.2.2.2.2.2.2.2.2.2.1,())))))))),(r2.1.1,r4.1.2)))).bind fun r5=>(c161 (r2.1.1.1,())).bind fun r6=>some (((r4.1.1.1,(r4.1.1.2.1,(r5.1.1.1,(r5.1.1.2.1,(r5.1.2.1.1,(r5.1.2.1.2.1,(r5.1.2.1.2.2.1,(r5.1.2.1.2.2.2.1,(r5.1.2.1.2.2.2.2.1,(r5.1.2.1.2.2.2.2.2.1,(r5.1.2.1.2.2.2.2.2.2.1,(r5.1.2.1.2.2.2.2.2.2.2.1,r4.1.1.2.2.2.2.2.2.2.2.2.2.2.2)))))))))))),r6.1),()))else bif (eqI r3.1.1 2)then ((c235 (d1,r3.1.2)).bind fun r4=>(c236 ((r4.1.1.2.2.1,(r4.1.1.2.2.2.1,())),((r4.1.1.2.2.2.2.1,(r4.1.1.2.2.2.2.2.1,(r4.1.1.2.2.2.2.2.2.1,(r4.1.1.2.2.2.2.2.2.2.1,(r4.1.1.2.2.2.2.2.2.2.2.1,(r4.1.1.2.2.2.2.2.2.2.2.2.1,(r4.1.1.2.2.2.2.2.2.2.2.2.2.1,(r4.1.1.2.2.2.2.2.2.2.2.2.2.2.1,())))))))),(r2.1.1,((0:Int),()))))).bind fun r5=>(c161 (r2.1.1.1,())).bind fun r6=>some (((r4.1.1.1,(r4.1.1.2.1,(r5.1.1.1,(r5.1.1.2.1,(r5.1.2.1.1,(r5.1.2.1.2.1,(r5.1.2.1.2.2.1,(r5.1.2.1.2.2.2.1,(r5.1.2.1.2.2.2.2.1,(r5.1.2.1.2.2.2.2.2.1,(r5.1.2.1.2.2.2.2.2.2.1,(r5.1.2.1.2.2.2.2.2.2.2.1,r4.1.1.2.2.2.2.2.2.2.2.2.2.2.2)))))))))))),r6.1),()))else (c236 ((d3.1,(d4.1,())),((d5.1,(d6.1,(d7.1,(d8.1,(d9.1,(d9.2.1,(d10.1,(d10.2.1,())))))))),(r2.1.1,((0:Int),()))))).bind fun r4=>(c161 (r2.1.1.1,())).bind fun r5=>some (((d1.1,(d2.1,(r4.1.1.1,(r4.1.1.2.1,(r4.1.2.1.1,(r4.1.2.1.2.1,(r4.1.2.1.2.2.1,(r4.1.2.1.2.2.2.1,(r4.1.2.1.2.2.2.2.1,(r4.1.2.1.2.2.2.2.2.1,(r4.1.2.1.2.2.2.2.2.2.1,(r4.1.2.1.2.2.2.2.2.2.2.1,d10.2.2)))))))))))),r5.1),()))else bif a13.2.2.2.1 then ((c232 ((a0.1,()),((a2.1,(a3.1,())),((a4.1,(a5.1,(a6.1,(a7.1,(a8.1,(a9.1,(a10.1,(a11.1,())))))))),((65534:Int),()))))).bind fun r1=>some (((a0.1,(a1.1,(r1.1.1.1,(r1.1.1.2.1,(r1.1.2.1.1,(r1.1.2.1.2.1,(r1.1.2.1.2.2.1,(r1.1.2.1.2.2.2.1,(r1.1.2.1.2.2.2.2.1,(r1.1.2.1.2.2.2.2.2.1,(r1.1.2.1.2.2.2.2.2.2.1,(r1.1.2.1.2.2.2.2.2.2.2.1,a12)))))))))))),((7:Int),())),()))else (c157 ((a0.1,()),((a2.1,(a3.1,())),(a7.1,())))).bind fun r1=>(c158 (r1.1.1,((a4.1,(a5.1,(a6.1,(a7.1,(a8.1,(a9.1,(a10.1,(a11.1,())))))))),()))).bind fun r2=>bif (eqI r2.1.1 1)then ((c234 (a0,(r2.1.2.1,()))).bind fun r3=>(c236 ((r3.1.1.2.2.1,(r3.1.1.2.2.2.1,())),((r3.1.1.2.2.2.2.1,(r3.1.1.2.2.2.2.2.1,(r3.1.1.2.2.2.2.2.2.1,(r3.1.1.2.2.2.2.2.2.2.1,(r3.1.1.2.2.2.2.2.2.2.2.1,(r3.1.1.2.2.2.2.2.2.2.2.2.1,(r3.1.1.2.2.2.2.2.2.2.2.2.2.1,(r3.1.1.2.2.2.2.2.2.2.2.2.2.2.1,())))))))),(r1.1.1,r3.1.2)))).bind fun r4=>(c161 (r1.1.1.1,())).bind fun r5=>some (((r3.1.1.1,(r3.1.1.2.1,(r4.1.1.1,(r4.1.1.2.1,(r4.1.2.1.1,(r4.1.2.1.2.1,(r4.1.2.1.2.2.1,(r4.1.2.1.2.2.2.1,(r4.1.2.1.2.2.2.2.1,(r4.1.2.1.2.2.2.2.2.1,(r4.1.2.1.2.2.2.2.2.2.1,(r4.1.2.1.2.2.2.2.2.2.2.1,r3.1.1.2.2.2.2.2.2.2.2.2.2.2.2)))))))))))),r5.1),()))else bif (eqI r2.1.1 2)then ((c235 (a0,r2.1.2)).bind fun r3=>(c236 ((r3.1.1.2.2.1,(r3.1.1.2.2.2.1,())),((r3.1.1.2.2.2.2.1,(r3.1.1.2.2.2.2.2.1,(r3.1.1.2.2.2.2.2.2.1,(r3.1.1.2.2.2.2.2.2.2.1,(r3.1.1.2.2.2.2.2.2.2.2.1,(r3.1.1.2.2.2.2.2.2.2.2.2.1,(r3.1.1.2.2.2.2.2.2.2.2.2.2.1,(r3.1.1.2.2.2.2.2.2.2.2.2.2.2.1,())))))))),(r1.1.1,((0:Int),()))))).bind fun r4=>(c161 (r1.1.1.1,())).bind fun r5=>some (((r3.1.1.1,(r3.1.1.2.1,(r4.1.1.1,(r4.1.1.2.1,(r4.1.2.1.1,(r4.1.2.1.2.1,(r4.1.2.1.2.2.1,(r4.1.2.1.2.2.2.1,(r4.1.2.1.2.2.2.2.1,(r4.1.2.1.2.2.2.2.2.1,(r4.1.2.1.2.2.2.2.2.2.1,(r4.1.2.1.2.2.2.2.2.2.2.1,r3.1.1.2.2.2.2.2.2.2.2.2.2.2.2)))))))))))),r5.1),()))else (c236 ((a2.1,(a3.1,())),((a4.1,(a5.1,(a6.1,(a7.1,(a8.1,(a9.1,(a10.1,(a11.1,())))))))),(r1.1.1,((0:Int),()))))).bind fun r3=>(c161 (r1.1.1.1,())).bind fun r4=>some (((a0.1,(a1.1,(r3.1.1.1,(r3.1.1.2.1,(r3.1.2.1.1,(r3.1.2.1.2.1,(r3.1.2.1.2.2.1,(r3.1.2.1.2.2.2.1,(r3.1.2.1.2.2.2.2.1,(r3.1.2.1.2.2.2.2.2.1,(r3.1.2.1.2.2.2.2.2.2.1,(r3.1.2.1.2.2.2.2.2.2.2.1,a12)))))))))))),r4.1),()))else (c157 ((a0.1,()),((a2.1,(a3.1,())),(a7.1,())))).bind fun r0=>(c158 (r0.1.1,((a4.1,(a5.1,(a6.1,(a7.1,(a8.1,(a9.1,(a10.1,(a11.1,())))))))),()))).bind fun r1=>bif (eqI r1.1.1 1)then ((c234 (a0,(r1.1.2.1,()))).bind fun r2=>(c236 ((r2.1.1.2.2.1,(r2.1.1.2.2.2.1,())),((r2.1.1.2.2.2.2.1,(r2.1.1.2.2.2.2.2.1,(r2.1.1.2.2.2.2.2.2.1,(r2.1.1.2.2.2.2.2.2.2.1,(r2.1.1.2.2.2.2.2.2.2.2.1,(r2.1.1.2.2.2.2.2.2.2.2.2.1,(r2.1.1.2.2.2.2.2.2.2.2.2.2.1,(r2.1.1.2.2.2.2.2.2.2.2.2.2.2.1,())))))))),(r0.1.1,r2.1.2)))).bind fun r3=>(c161 (r0.1.1.1,())).bind fun r4=>some (((r2.1.1.1,(r2.1.1.2.1,(r3.1.1.1,(r3.1.1.2.1,(r3.1.2.1.1,(r3.1.2.1.2.1,(r3.1.2.1.2.2.1,(r3.1.2.1.2.2.2.1,(r3.1.2.1.2.2.2.2.1,(r3.1.2.1.2.2.2.2.2.1,(r3.1.2.1.2.2.2.2.2.2.1,(r3.1.2.1.2.2.2.2.2.2.2.1,r2.1.1.2.2.2.2.2.2.2.2.2.2.2.2)))))))))))),r4.1),()))else bif (eqI r1.1.1 2)then ((c235 (a0,r1.1.2)).bind fun r2=>(c236 ((r2.1.1.2.2.1,(r2.1.1.2.2.2.1,())),((r2.1.1.2.2.2.2.1,(r2.1.1.2.2.2.2.2.1,(r2.1.1.2.2.2.2.2.2.1,(r2.1.1.2.2.2.2.2.2.2.1,(r2.1.1.2.2.2.2.2.2.2.2.1,(r2.1.1.2.2.2.2.2.2.2.2.2.1,(r2.1.1.2.2.2.2.2.2.2.2.2.2.1,(r2.1.1.2.2.2.2.2.2.2.2.2.2.2.1,())))))))),(r0.1.1,((0:Int),()))))).bind fun r3=>(c161 (r0.1.1.1,())).bind fun r4=>some (((r2.1.1.1,(r2.1.1.2.1,(r3.1.1.1,(r3.1.1.2.1,(r3.1.2.1.1,(r3.1.2.1.2.1,(r3.1.2.1.2.2.1,(r3.1.2.1.2.2.2.1,(r3.1.2.1.2.2.2.2.1,(r3.1.2.1.2.2.2.2.2.1,(r3.1.2.1.2.2.2.2.2.2.1,(r3.1.2.1.2.2.2.2.2.2.2.1,r2.1.1.2.2.2.2.2.2.2.2.2.2.2.2)))))))))))),r4.1),()))else (c236 ((a2.1,(a3.1,())),((a4.1,(a5.1,(a6.1,(a7.1,(a8.1,(a9.1,(a10.1,(a11.1,())))))))),(r0.1.1,((0:Int),()))))).bind fun r2=>(c161 (r0.1.1.1,())).bind fun r3=>some (((a0.1,(a1.1,(r2.1.1.1,(r2.1.1.2.1,(r2.1.2.1.1,(r2.1.2.1.2.1,(r2.1.2.1.2.2.1,(r2.1.2.1.2.2.2.1,(r2.1.2.1.2.2.2.2.1,(r2.1.2.1.2.2.2.2.2.1,(r2.1.2.1.2.2.2.2.2.2.1,(r2.1.2.1.2.2.2.2.2.2.2.1,a12)))))))))))),r3.1),())
theorem s166 (c158:F158) (c154:F154) (c232:F232) (c236:F236) (c157:F157) (c161:F161) (c233:F233) (c234:F234) (c235:F235) (y):TE [g158 c158,g154 c154,g232 c232,g236 c236,g157 c157,g161 c161,g233 c233,g234 c234,g235 c235] Tryz.f166 i166 o166 y=m166 c158 c154 c232 c236 c157 c161 c233 c234 c235 y:=by kernel_rfl
noncomputable def r166:F166:=m166 r158 r154 r232 r236 r157 r161 r233 r234 r235
theorem k166:KO (g166 r166):=fk (s166 r158 r154 r232 r236 r157 r161 r233 r234 r235) ⟨k158,k154,k232,k236,k157,k161,k233,k234,k235,⟨⟩⟩
abbrev i167:Ts:=[.v (.int .i64), .v (.int .i64)]
abbrev o167:Ts:=[.v (.bool)]
abbrev F167:=FT i167 o167
abbrev g167:=mkG 167 i167 o167
noncomputable def m167 (c220:F220):F167:=fun y=>(c220 (y.1,(y.2.1,((48:Int),((64:Int),()))))).bind fun r0=>some (r0.1,())
theorem s167 (c220:F220) (y):TE [g220 c220] Tryz.f167 i167 o167 y=m167 c220 y:=by kernel_rfl
noncomputable def r167:F167:=m167 r220
theorem k167:KO (g167 r167):=fk (s167 r220) ⟨k220,⟨⟩⟩
abbrev i98:Ts:=[.a q10]
abbrev o98:Ts:=[.a q11, .v (.bool)]
abbrev F98:=FT i98 o98
abbrev g98:=mkG 98 i98 o98
noncomputable def m98 (c167:F167) (c36:F36) (c35:F35) (c166:F166) (c95:F95):F98:=fun y=>(c36 (y.1,())).bind fun r0=>bif (!r0.1.1)then (some ((([],([],([],((0:Int),((0:Int),((0:Int),((0:Int),((0:Int),(false,(false,(false,(false,(false,((0:Int),((0:Int),(false,((0:Int),(false,((0:Int),((0:Int),([],((0:Int),((0:Int),((0:Int),((0:Int),((0:Int),(false,([],([],((0:Int),([],([],((0:Int),((0:Int),((0:Int),((0:Int),((0:Int),(false,(false,((0:Int),([],([],())))))))))))))))))))))))))))))))))))))))))),(false,())),()))else (c95 (y.1,())).bind fun r1=>bif (neI r1.1.1 0)then ((c35 (y.1,())).bind fun r2=>some ((r2.1.1,(false,())),()))else (c35 (y.1,())).bind fun r2=>(c166 (r2.1.1,())).bind fun r3=>let g0:=r3.1;let g1:=g0.1;let g2:=g1.2;let g3:=g2.2;let g4:=g3.2;let g5:=g4.2;let g6:=g5.2;let g7:=g6.2;let g8:=g7.2;let g9:=g8.2;let g10:=g9.2;let g11:=g10.2;let g12:=g11.2;let g13:=g12.2;let g14:=g13.2;let g15:=g14.2.2;let g16:=g15.2.2;bif (ltI 127 g15.2.1)then ((c167 (y.1.2.2.2.2.2.2.2.2.2.2.2.2.2.2.1,((wI (y.1.2.2.2.2.2.2.2.2.2.2.2.2.2.2.1+g0.2.1)),()))).bind fun r4=>some (((g1.1,(g2.1,(g3.1,(g4.1,(g5.1,(g6.1,(g7.1,(g8.1,(g9.1,(g10.1,(g11.1,(g12.1,(g13.1,(g14.1,((wI (y.1.2.2.2.2.2.2.2.2.2.2.2.2.2.2.1+g0.2.1)),(r4.1.1,(g15.2.1,(g16.1,(g16.2.1,((wI (y.1.2.2.2.2.2.2.2.2.2.2.2.2.2.2.2.2.2.2.2.1+1)),g16.2.2.2)))))))))))))))))))),(true,())),()))else some (((g1.1,(g2.1,(g3.1,(g4.1,(g5.1,(g6.1,(g7.1,(g8.1,(g9.1,(g10.1,(g11.1,(g12.1,(g13.1,(g14.1,((wI (y.1.2.2.2.2.2.2.2.2.2.2.2.2.2.2.1+g0.2.1)),(false,(g15.2.1,(g16.1,(g16.2.1,((wI (y.1.2.2.2.2.2.2.2.2.2.2.2.2.2.2.2.2.2.2.2.1+1)),g16.2.2.2)))))))))))))))))))),(true,())),())
theorem s98 (c167:F167) (c36:F36) (c35:F35) (c166:F166) (c95:F95) (y):TE [g167 c167,g36 c36,g35 c35,g166 c166,g95 c95] Tryz.f98 i98 o98 y=m98 c167 c36 c35 c166 c95 y:=by kernel_rfl
noncomputable def r98:F98:=m98 r167 r36 r35 r166 r95
theorem k98:KO (g98 r98):=fk (s98 r167 r36 r35 r166 r95) ⟨k167,k36,k35,k166,k95,⟨⟩⟩
abbrev i38:Ts:=[.a q10, .v (.int .i64)]
abbrev o38:Ts:=[.a q11, .v (.bool)]
abbrev F38:=FT i38 o38
abbrev g38:=mkG 38 i38 o38
noncomputable def m38 (c98:F98) (c36:F36) (c99:F99) (c100:F100) (c35:F35):F38:=fun y=>(c36 (y.1,())).bind fun r0=>bif (!r0.1.1)then (some ((([],([],([],((0:Int),((0:Int),((0:Int),((0:Int),((0:Int),(false,(false,(false,(false,(false,((0:Int),((0:Int),(false,((0:Int),(false,((0:Int),((0:Int),([],((0:Int),((0:Int),((0:Int),((0:Int),((0:Int),(false,([],([],((0:Int),([],([],((0:Int),((0:Int),((0:Int),((0:Int),((0:Int),(false,(false,((0:Int),([],([],())))))))))))))))))))))))))))))))))))))))))),(false,())),()))else (c35 (y.1,())).bind fun r1=>let d0:=r1.1;let d1:=d0.1;let d2:=d1.2;let d3:=d2.2;let d4:=d3.2;let d5:=d4.2;let d6:=d5.2;let d7:=d6.2;let d8:=d7.2;let d9:=d8.2;let d10:=d9.2;let d11:=d10.2;let d12:=d11.2;let d13:=d12.2;let d14:=d13.2;let d15:=d14.2;let d16:=d15.2;let d17:=d16.2;let d18:=d17.2;let d19:=d18.2;let d20:=d19.2;let d21:=d20.2;let d22:=d21.2;let d23:=d22.2;let d24:=d23.2;let d25:=d24.2;let d26:=d25.2;let d27:=d26.2;let d28:=d27.2;let d29:=d28.2;let d30:=d29.2.2;bif (eqI y.2.1 0)then ((c98 (y.1,())).bind fun r2=>some (r2.1,()))else bif (eqI y.2.1 1)then ((c99 ((d22.1,(d23.1,(d24.1,(d25.1,(d26.1,(d27.1,(d28.1,(d29.1,(d29.2.1,(d30.1,(d30.2.1,()))))))))))),(y.1.2.2.2.2.2.2.2.2.2.2.2.2.2.2.1,()))).bind fun r2=>some (((d1.1,(d2.1,(d3.1,(d4.1,(d5.1,(d6.1,(d7.1,(d8.1,(d9.1,(d10.1,(d11.1,(d12.1,(d13.1,(d14.1,(d15.1,(d16.1,(d17.1,(d18.1,(d19.1,(d20.1,(d21.1,(r2.1.1.1,(r2.1.1.2.1,(r2.1.1.2.2.1,(r2.1.1.2.2.2.1,(r2.1.1.2.2.2.2.1,(r2.1.1.2.2.2.2.2.1,(r2.1.1.2.2.2.2.2.2.1,(r2.1.1.2.2.2.2.2.2.2.1,(r2.1.1.2.2.2.2.2.2.2.2.1,(r2.1.1.2.2.2.2.2.2.2.2.2.1,(r2.1.1.2.2.2.2.2.2.2.2.2.2.1,d30.2.2)))))))))))))))))))))))))))))))),r2.1.2),()))else bif (eqI y.2.1 2)then ((c100 (d30.2.2,(y.1.2.2.2.2.2.2.2.2.2.2.2.2.2.2.1,()))).bind fun r2=>some (((d1.1,(d2.1,(d3.1,(d4.1,(d5.1,(d6.1,(d7.1,(d8.1,(d9.1,(d10.1,(d11.1,(d12.1,(d13.1,(d14.1,(d15.1,(d16.1,(d17.1,(d18.1,(d19.1,(d20.1,(d21.1,(d22.1,(d23.1,(d24.1,(d25.1,(d26.1,(d27.1,(d28.1,(d29.1,(d29.2.1,(d30.1,(d30.2.1,r2.1.1)))))))))))))))))))))))))))))))),r2.1.2),()))else some ((d1,(false,())),())
theorem s38 (c98:F98) (c36:F36) (c99:F99) (c100:F100) (c35:F35) (y):TE [g98 c98,g36 c36,g99 c99,g100 c100,g35 c35] Tryz.f38 i38 o38 y=m38 c98 c36 c99 c100 c35 y:=by kernel_rfl
noncomputable def r38:F38:=m38 r98 r36 r99 r100 r35
theorem k38:KO (g38 r38):=fk (s38 r98 r36 r99 r100 r35) ⟨k98,k36,k99,k100,k35,⟨⟩⟩
abbrev i230:Ts:=[.a q10]
abbrev o230:Ts:=[.v (.sl true .i)]
abbrev F230:=FT i230 o230
abbrev g230:=mkG 230 i230 o230
abbrev lc230_0:Ts:=[]
abbrev lb230_0:Ts:=[.p q10]
abbrev lv230_0:Ts:=[.v (.sl true .i), .v (.int .i64)]
abbrev lr230_0:Ts:=[]
abbrev R230_0:=Option (Sum (PTup lv230_0) (PTup lr230_0)×BTup lb230_0)
abbrev B230_0:=PTup lb230_0→PTup lv230_0→R230_0
abbrev A230_0:=PTup lc230_0→B230_0
noncomputable def w230_0 (c38:F38) (again:B230_0):A230_0:=fun x y z=>bif (ltI z.2.1 3)then ((c38 (y.1,z.2)).bind fun r0=>bif r0.1.2.1 then (bif (leN ((List.length z.1)+(List.length (z.2.1::[]))) (E.most .i))then (again (y.1,()) ((z.1++(z.2.1::[])),((wI (z.2.1+1)),())))else none)else again (y.1,()) (z.1,((wI (z.2.1+1)),())))else some ((Sum.inl z),(y.1,()))
noncomputable def e230_0 (l:A230_0):ZJ:=⟨[],lc230_0,[1],lb230_0,[3,4],lv230_0,[],lr230_0,0,[],l⟩
noncomputable def m230 (c38:F38) (l0:A230_0):F230:=fun y=>(l0 () (y.1,()) ([],((0:Int),()))).bind fun r0=>ZE r0.1 (fun r1=>some ((r1.1,()),())) (fun r1=>some (([],()),()))
noncomputable def E230 (c38:F38) (l0:A230_0):ZH:=⟨⟨Tryz.prog,Z6 [g38 c38]⟩,Qg [(3,e230_0 l0)]⟩
theorem t230_0 (c38:F38) (l0:A230_0) (again) (x y z):ZX (E230 c38 l0) (Zk (Zm Tryz.f230) 0) (e230_0 l0) Tryz.f230.ntmps again x y z=w230_0 c38 again x y z:=by kernel_rfl
noncomputable def n230_0 (c38:F38):Nat→A230_0
  |0,_,_,_=>none
  |n+1,x,y,z=>w230_0 c38 (fun y z=>n230_0 c38 n x y z) x y z
theorem s230 (c38:F38) (l0:A230_0) (y):Z8 (E230 c38 l0) Tryz.f230 i230 o230 y=m230 c38 l0 y:=by kernel_rfl
noncomputable def L230_0:A230_0:=n230_0 r38 fuel
noncomputable def r230:F230:=m230 r38 L230_0
theorem k230:KO (g230 r230):=by
  have hE: ∀g f,(E230 r38 L230_0).env.fns g=some f→Zy Tryz.prog g f:=Qf ⟨k38,⟨⟩⟩;have h0:ZP Tryz.prog Tryz.f230.ntmps (Zk (Zm Tryz.f230) 0) (e230_0 L230_0):=Z0 (E:=E230 r38 L230_0) rfl hE mixed (Zt.of_list (l:=[]) (by kernel_rfl) trivial) (n230_0 r38) (fun _ _ _=>rfl) (fun n x y z=>t230_0 r38 L230_0 _ x y z) rfl;exact Qk (E:=E230 r38 L230_0) rfl hE mixed (by kernel_rfl) (by kernel_rfl) (Zt.of_list (l:=[(Zk (Zm Tryz.f230) 0)]) (by kernel_rfl) (.one (by kernel_rfl) h0 trivial)) (s230 r38 L230_0)
abbrev i231:Ts:=[.a q10]
abbrev o231:Ts:=[.v (.int .i64)]
abbrev F231:=FT i231 o231
abbrev g231:=mkG 231 i231 o231
noncomputable def m231 (c36:F36) (c95:F95):F231:=fun y=>(c36 (y.1,())).bind fun r0=>bif (!r0.1.1)then (some (((6:Int),()),()))else (c95 (y.1,())).bind fun r1=>some (r1.1,())
theorem s231 (c36:F36) (c95:F95) (y):TE [g36 c36,g95 c95] Tryz.f231 i231 o231 y=m231 c36 c95 y:=by kernel_rfl
noncomputable def r231:F231:=m231 r36 r95
theorem k231:KO (g231 r231):=fk (s231 r36 r95) ⟨k36,k95,⟨⟩⟩
abbrev i165:Ts:=[.a q10]
abbrev o165:Ts:=[.v (.bool)]
abbrev F165:=FT i165 o165
abbrev g165:=mkG 165 i165 o165
noncomputable def m165 (c230:F230) (c39:F39) (c36:F36) (c231:F231):F165:=fun y=>(c36 (y.1,())).bind fun r0=>bif r0.1.1 then ((c230 (y.1,())).bind fun r1=>bif (ltI 0 (Zf r1.1.1))then (some ((true,()),()))else (c39 (y.1,())).bind fun r2=>(c231 (r2.1.1,())).bind fun r3=>some (((eqI r3.1.1 5),()),()))else no
theorem s165 (c230:F230) (c39:F39) (c36:F36) (c231:F231) (y):TE [g230 c230,g39 c39,g36 c36,g231 c231] Tryz.f165 i165 o165 y=m165 c230 c39 c36 c231 y:=by kernel_rfl
noncomputable def r165:F165:=m165 r230 r39 r36 r231
theorem k165:KO (g165 r165):=fk (s165 r230 r39 r36 r231) ⟨k230,k39,k36,k231,⟨⟩⟩
abbrev i97:Ts:=[.a q10]
abbrev o97:Ts:=[.v (.bool)]
abbrev F97:=FT i97 o97
abbrev g97:=mkG 97 i97 o97
noncomputable def m97 (c165:F165) (c162:F162) (c164:F164) (c163:F163):F97:=fun y=>(c162 (y.1,())).bind fun r0=>bif r0.1.1 then ((c163 (y.1,())).bind fun r1=>bif r1.1.1 then ((c164 (y.1,())).bind fun r2=>bif r2.1.1 then ((c165 (y.1,())).bind fun r3=>some (r3.1,()))else no)else no)else no
theorem s97 (c165:F165) (c162:F162) (c164:F164) (c163:F163) (y):TE [g165 c165,g162 c162,g164 c164,g163 c163] Tryz.f97 i97 o97 y=m97 c165 c162 c164 c163 y:=by kernel_rfl
noncomputable def r97:F97:=m97 r165 r162 r164 r163
theorem k97:KO (g97 r97):=fk (s97 r165 r162 r164 r163) ⟨k165,k162,k164,k163,⟨⟩⟩
abbrev i37:Ts:=[.a q10, .v (.str)]
abbrev o37:Ts:=[.v (.str)]
abbrev F37:=FT i37 o37
abbrev g37:=mkG 37 i37 o37
noncomputable def m37 (c96:F96) (c97:F97) (c95:F95) (c43:F43):F37:=fun y=>bif ((ByteArray.toList y.2.1)==(ByteArray.toList (bz [119,97,105,116])))then ((c95 (y.1,())).bind fun r0=>bif (leI 0 r0.1.1)then (bif (ltI r0.1.1 (Zf ((bz [110,111,110,101])::((bz [112,105,99,116,117,114,101])::((bz [115,111,117,110,100])::((bz [114,111,111,109])::((bz [114,111,111,109])::((bz [111,118,101,114])::[]))))))))then (some (((rdE .s ((bz [110,111,110,101])::((bz [112,105,99,116,117,114,101])::((bz [115,111,117,110,100])::((bz [114,111,111,109])::((bz [114,111,111,109])::((bz [111,118,101,114])::[])))))) r0.1.1),()),()))else none)else none)else bif ((ByteArray.toList y.2.1)==(ByteArray.toList (bz [115,104,111,119])))then ((c96 ((y.1.2.2.2.2.1,(y.1.2.2.2.2.2.1,(y.1.2.2.2.2.2.2.1,(y.1.2.2.2.2.2.2.2.1,(y.1.2.2.2.2.2.2.2.2.1,(y.1.2.2.2.2.2.2.2.2.2.1,(y.1.2.2.2.2.2.2.2.2.2.2.1,(y.1.2.2.2.2.2.2.2.2.2.2.2.1,())))))))),())).bind fun r0=>some (r0.1,()))else bif ((ByteArray.toList y.2.1)==(ByteArray.toList (bz [102,114,97,109,101,115])))then ((c43 ((Zf y.1.2.2.2.2.2.2.2.2.2.2.2.2.2.2.2.2.2.2.2.2.2.2.2.2.2.2.2.2.2.2.2.1),())).bind fun r0=>some (r0.1,()))else bif ((ByteArray.toList y.2.1)==(ByteArray.toList (bz [115,97,109,112,108,101,115])))then ((c43 ((Zf y.1.2.2.2.2.2.2.2.2.2.2.2.2.2.2.2.2.2.2.2.2.2.2.2.2.2.2.2.2.2.2.2.2.2.2.2.2.2.2.2.2.2.1),())).bind fun r0=>some (r0.1,()))else bif ((ByteArray.toList y.2.1)==(ByteArray.toList (bz [106,117,100,103,101])))then ((c97 (y.1,())).bind fun r0=>bif r0.1.1 then (some (((bz [121,101,115]),()),()))else some (((bz [110,111]),()),()))else some (((bz []),()),())
theorem s37 (c96:F96) (c97:F97) (c95:F95) (c43:F43) (y):TE [g96 c96,g97 c97,g95 c95,g43 c43] Tryz.f37 i37 o37 y=m37 c96 c97 c95 c43 y:=by kernel_rfl
noncomputable def r37:F37:=m37 r96 r97 r95 r43
theorem k37:KO (g37 r37):=fk (s37 r96 r97 r95 r43) ⟨k96,k97,k95,k43,⟨⟩⟩
abbrev i42:Ts:=[.a q10, .v (.int .i64)]
abbrev o42:Ts:=[.a q11, .v (.int .i64)]
abbrev F42:=FT i42 o42
abbrev g42:=mkG 42 i42 o42
abbrev lc42_0:Ts:=[.v (.int .i64)]
abbrev lb42_0:Ts:=[.p q11, .p q11]
abbrev lv42_0:Ts:=[.v (.int .i64)]
abbrev lr42_0:Ts:=[.v (.int .i64)]
abbrev R42_0:=Option (Sum (PTup lv42_0) (PTup lr42_0)×BTup lb42_0)
abbrev B42_0:=PTup lb42_0→PTup lv42_0→R42_0
abbrev A42_0:=PTup lc42_0→B42_0
noncomputable def w42_0 (c98:F98) (c39:F39) (c36:F36) (c35:F35) (c105:F105) (c104:F104) (again:B42_0):A42_0:=fun x y z=>(c104 (x.1,((3000:Int),()))).bind fun r0=>bif (ltI z.1 r0.1.1)then ((c39 (y.2.1,())).bind fun r1=>(c98 (r1.1.1,())).bind fun r2=>bif (!r2.1.2.1)then (some ((Sum.inr z),(r2.1.1,(y.2.1,()))))else again (y.1,(r2.1.1,())) ((wI (z.1+1)),()))else some ((Sum.inl z),(y.1,(y.2.1,())))
noncomputable def e42_0 (l:A42_0):ZJ:=⟨[1],lc42_0,[4,6],lb42_0,[7],lv42_0,[5],lr42_0,0,[],l⟩
noncomputable def m42 (c98:F98) (c39:F39) (c36:F36) (c35:F35) (c105:F105) (c104:F104) (l0:A42_0):F42:=fun y=>(c36 (y.1,())).bind fun r0=>bif (!r0.1.1)then (some ((([],([],([],((0:Int),((0:Int),((0:Int),((0:Int),((0:Int),(false,(false,(false,(false,(false,((0:Int),((0:Int),(false,((0:Int),(false,((0:Int),((0:Int),([],((0:Int),((0:Int),((0:Int),((0:Int),((0:Int),(false,([],([],((0:Int),([],([],((0:Int),((0:Int),((0:Int),((0:Int),((0:Int),(false,(false,((0:Int),([],([],())))))))))))))))))))))))))))))))))))))))))),((0:Int),())),()))else (c35 (y.1,())).bind fun r1=>(l0 y.2 (([],([],([],((0:Int),((0:Int),((0:Int),((0:Int),((0:Int),(false,(false,(false,(false,(false,((0:Int),((0:Int),(false,((0:Int),(false,((0:Int),((0:Int),([],((0:Int),((0:Int),((0:Int),((0:Int),((0:Int),(false,([],([],((0:Int),([],([],((0:Int),((0:Int),((0:Int),((0:Int),((0:Int),(false,(false,((0:Int),([],([],())))))))))))))))))))))))))))))))))))))))))),(r1.1.1,())) ((0:Int),())).bind fun r2=>ZE r2.1 (fun r3=>(c104 (y.2.1,((3000:Int),()))).bind fun r4=>(c105 (r4.1.1,((0:Int),()))).bind fun r5=>some ((r2.2.2.1,r5.1),())) (fun r3=>some ((r2.2.1,r3),()))
noncomputable def E42 (c98:F98) (c39:F39) (c36:F36) (c35:F35) (c105:F105) (c104:F104) (l0:A42_0):ZH:=⟨⟨Tryz.prog,Z6 [g98 c98,g39 c39,g36 c36,g35 c35,g105 c105,g104 c104]⟩,Qg [(5,e42_0 l0)]⟩
theorem t42_0 (c98:F98) (c39:F39) (c36:F36) (c35:F35) (c105:F105) (c104:F104) (l0:A42_0) (again) (x y z):ZX (E42 c98 c39 c36 c35 c105 c104 l0) (Zk (Zm Tryz.f42) 0) (e42_0 l0) Tryz.f42.ntmps again x y z=w42_0 c98 c39 c36 c35 c105 c104 again x y z:=by kernel_rfl
noncomputable def n42_0 (c98:F98) (c39:F39) (c36:F36) (c35:F35) (c105:F105) (c104:F104):Nat→A42_0
  |0,_,_,_=>none
  |n+1,x,y,z=>w42_0 c98 c39 c36 c35 c105 c104 (fun y z=>n42_0 c98 c39 c36 c35 c105 c104 n x y z) x y z
theorem s42 (c98:F98) (c39:F39) (c36:F36) (c35:F35) (c105:F105) (c104:F104) (l0:A42_0) (y):Z8 (E42 c98 c39 c36 c35 c105 c104 l0) Tryz.f42 i42 o42 y=m42 c98 c39 c36 c35 c105 c104 l0 y:=by kernel_rfl
noncomputable def L42_0:A42_0:=n42_0 r98 r39 r36 r35 r105 r104 fuel
noncomputable def r42:F42:=m42 r98 r39 r36 r35 r105 r104 L42_0
theorem k42:KO (g42 r42):=by
  have hE: ∀g f,(E42 r98 r39 r36 r35 r105 r104 L42_0).env.fns g=some f→Zy Tryz.prog g f:=Qf ⟨k98,k39,k36,k35,k105,k104,⟨⟩⟩;have h0:ZP Tryz.prog Tryz.f42.ntmps (Zk (Zm Tryz.f42) 0) (e42_0 L42_0):=Z0 (E:=E42 r98 r39 r36 r35 r105 r104 L42_0) rfl hE mixed (Zt.of_list (l:=[]) (by kernel_rfl) trivial) (n42_0 r98 r39 r36 r35 r105 r104) (fun _ _ _=>rfl) (fun n x y z=>t42_0 r98 r39 r36 r35 r105 r104 L42_0 _ x y z) rfl;exact Qk (E:=E42 r98 r39 r36 r35 r105 r104 L42_0) rfl hE mixed (by kernel_rfl) (by kernel_rfl) (Zt.of_list (l:=[(Zk (Zm Tryz.f42) 0)]) (by kernel_rfl) (.one (by kernel_rfl) h0 trivial)) (s42 r98 r39 r36 r35 r105 r104 L42_0)
abbrev i14:Ts:=[.a q10, .v (.str)]
abbrev o14:Ts:=[.a q11, .v (.str)]
abbrev F14:=FT i14 o14
abbrev g14:=mkG 14 i14 o14
abbrev lc14_0:Ts:=[.v (.str), .v (.sl false .s)]
abbrev lb14_0:Ts:=[.p q10, .p q11]
abbrev lv14_0:Ts:=[.v (.int .i64)]
abbrev lr14_0:Ts:=[.v (.str)]
abbrev R14_0:=Option (Sum (PTup lv14_0) (PTup lr14_0)×BTup lb14_0)
abbrev B14_0:=PTup lb14_0→PTup lv14_0→R14_0
abbrev A14_0:=PTup lc14_0→B14_0
noncomputable def w14_0 (c42:F42) (c39:F39) (c38:F38) (c36:F36) (c35:F35) (c41:F41) (c37:F37) (c43:F43) (c40:F40) (again:B14_0):A14_0:=fun x y z=>bif (ltI z.1 3)then (bif (leI 0 z.1)then (bif (ltI z.1 (Zf x.2.1))then (bif ((ByteArray.toList x.1)==(ByteArray.toList (rdE .s x.2.1 z.1)))then ((c38 (y.1,z)).bind fun r0=>bif r0.1.2.1 then (some ((Sum.inr ((bz [111,107]),())),(y.1,(r0.1.1,()))))else some ((Sum.inr ((bz [110,111]),())),(y.1,(r0.1.1,()))))else again (y.1,(y.2.1,())) ((wI (z.1+1)),()))else none)else none)else some ((Sum.inl z),(y.1,(y.2.1,())))
noncomputable def e14_0 (l:A14_0):ZJ:=⟨[1,8],lc14_0,[2,4],lb14_0,[9],lv14_0,[5],lr14_0,0,[],l⟩
noncomputable def m14 (c42:F42) (c39:F39) (c38:F38) (c36:F36) (c35:F35) (c41:F41) (c37:F37) (c43:F43) (c40:F40) (l0:A14_0):F14:=fun y=>let a0:=y.1;let a1:=a0.2;let a2:=a1.2;let a3:=a2.2;let a4:=a3.2;let a5:=a4.2;let a6:=a5.2;let a7:=a6.2;let a8:=a7.2;let a9:=a8.2;let a10:=a9.2.2;let a11:=a10.2;let a12:=a11.2;let a13:=a12.2;let a14:=a13.2;let a15:=a14.2;let a16:=a15.2;let a17:=a16.2;let a18:=a17.2;let a19:=a18.2;let a20:=a19.2;let a21:=a20.2;let a22:=a21.2;let a23:=a22.2;let a24:=a23.2;let a25:=a24.2;let a26:=a25.2;let a27:=a26.2.2;let a28:=a27.2.2.2.2.2.2.2.2.2;(c35 (a0,())).bind fun r0=>(c36 (a0,())).bind fun r1=>bif (!r1.1.1)then (some ((r0.1.1,((bz [98,97,100]),())),()))else bif ((ByteArray.toList y.2.1)==(ByteArray.toList (bz [])))then (some ((r0.1.1,((bz []),())),()))else bif (ltI 0 ((((ByteArray.size y.2.1):Nat)):Int))then (bif (eqI (bt y.2.1 (0:Int)) (59:Int))then (some ((r0.1.1,((bz []),())),()))else (c37 y).bind fun r2=>bif (!((ByteArray.toList r2.1.1)==(ByteArray.toList (bz []))))then (some ((r0.1.1,r2.1),()))else (l0 (y.2.1,(((bz [99,112,117])::((bz [112,105,99,116,117,114,101])::((bz [115,111,117,110,100])::[]))),())) (a0,(([],([],([],((0:Int),((0:Int),((0:Int),((0:Int),((0:Int),(false,(false,(false,(false,(false,((0:Int),((0:Int),(false,((0:Int),(false,((0:Int),((0:Int),([],((0:Int),((0:Int),((0:Int),((0:Int),((0:Int),(false,([],([],((0:Int),([],([],((0:Int),((0:Int),((0:Int),((0:Int),((0:Int),(false,(false,((0:Int),([],([],())))))))))))))))))))))))))))))))))))))))))),())) ((0:Int),())).bind fun r3=>let g0:=r3.2;let g1:=g0.1;let g2:=g1.2;let g3:=g2.2;let g4:=g3.2;let g5:=g4.2;let g6:=g5.2;let g7:=g6.2;let g8:=g7.2;let g9:=g8.2;let g10:=g9.2;let g11:=g10.2;let g12:=g11.2;let g13:=g12.2;let g14:=g13.2;let g15:=g14.2;let g16:=g15.2;let g17:=g16.2;let g18:=g17.2;let g19:=g18.2;let g20:=g19.2;let g21:=g20.2;let g22:=g21.2;let g23:=g22.2;let g24:=g23.2;let g25:=g24.2;let g26:=g25.2;let g27:=g26.2;let g28:=g27.2;let g29:=g28.2;let g30:=g29.2;let g31:=g30.2;let g32:=g31.2;let g33:=g32.2;let g34:=g33.2;let g35:=g34.2;let g36:=g35.2;let g37:=g36.2.2;ZE r3.1 (fun r4=>bif ((ByteArray.toList y.2.1)==(ByteArray.toList (bz [108,101,118,101,108])))then ((c39 ((a0.1,(a1.1,(a2.1,(g4.1,(g5.1,(g6.1,(g7.1,(g8.1,(g9.1,(g10.1,(g11.1,(g12.1,(g13.1,(g14.1,(g15.1,(g16.1,(g17.1,(g18.1,(g19.1,(g20.1,(a19.1,(g22.1,(g23.1,(g24.1,(g25.1,(g26.1,(g27.1,(a26.1,(a26.2.1,(g30.1,(a27.2.1,(a27.2.2.1,(g33.1,(g34.1,(g35.1,(g36.1,(g36.2.1,(g37.1,(g37.2.1,(g37.2.2.1,a28.2.2)))))))))))))))))))))))))))))))))))))))),())).bind fun r5=>some ((r5.1.1,((bz [111,107]),())),()))else (c40 y.2).bind fun r5=>bif r5.1.2.2.1 then (bif ((ByteArray.toList r5.1.1)==(ByteArray.toList (bz [102,97,105,114])))then ((c41 (r5.1.2.1,((0:Int),((999:Int),())))).bind fun r6=>bif r6.1.1 then ((c42 ((a0.1,(a1.1,(a2.1,(g4.1,(g5.1,(g6.1,(g7.1,(g8.1,(g9.1,(g10.1,(g11.1,(g12.1,(g13.1,(g14.1,(g15.1,(g16.1,(g17.1,(g18.1,(g19.1,(g20.1,(a19.1,(g22.1,(g23.1,(g24.1,(g25.1,(g26.1,(g27.1,(a26.1,(a26.2.1,(g30.1,(a27.2.1,(a27.2.2.1,(g33.1,(g34.1,(g35.1,(g36.1,(g36.2.1,(g37.1,(g37.2.1,(g37.2.2.1,a28.2.2)))))))))))))))))))))))))))))))))))))))),(r5.1.2.1,()))).bind fun r7=>(c43 r7.1.2).bind fun r8=>some ((r7.1.1,r8.1),()))else some ((r0.1.1,((bz [119,104,97,116]),())),()))else some ((r0.1.1,((bz [119,104,97,116]),())),()))else some ((r0.1.1,((bz [119,104,97,116]),())),())) (fun r4=>some ((g0.2.1,r4),())))else none
noncomputable def E14 (c42:F42) (c39:F39) (c38:F38) (c36:F36) (c35:F35) (c41:F41) (c37:F37) (c43:F43) (c40:F40) (l0:A14_0):ZH:=⟨⟨Tryz.prog,Z6 [g42 c42,g39 c39,g38 c38,g36 c36,g35 c35,g41 c41,g37 c37,g43 c43,g40 c40]⟩,Qg [(11,e14_0 l0)]⟩
theorem t14_0 (c42:F42) (c39:F39) (c38:F38) (c36:F36) (c35:F35) (c41:F41) (c37:F37) (c43:F43) (c40:F40) (l0:A14_0) (again) (x y z):ZX (E14 c42 c39 c38 c36 c35 c41 c37 c43 c40 l0) (Zk (Zm Tryz.f14) 0) (e14_0 l0) Tryz.f14.ntmps again x y z=w14_0 c42 c39 c38 c36 c35 c41 c37 c43 c40 again x y z:=by kernel_rfl
noncomputable def n14_0 (c42:F42) (c39:F39) (c38:F38) (c36:F36) (c35:F35) (c41:F41) (c37:F37) (c43:F43) (c40:F40):Nat→A14_0
  |0,_,_,_=>none
  |n+1,x,y,z=>w14_0 c42 c39 c38 c36 c35 c41 c37 c43 c40 (fun y z=>n14_0 c42 c39 c38 c36 c35 c41 c37 c43 c40 n x y z) x y z
theorem s14 (c42:F42) (c39:F39) (c38:F38) (c36:F36) (c35:F35) (c41:F41) (c37:F37) (c43:F43) (c40:F40) (l0:A14_0) (y):Z8 (E14 c42 c39 c38 c36 c35 c41 c37 c43 c40 l0) Tryz.f14 i14 o14 y=m14 c42 c39 c38 c36 c35 c41 c37 c43 c40 l0 y:=by kernel_rfl
noncomputable def L14_0:A14_0:=n14_0 r42 r39 r38 r36 r35 r41 r37 r43 r40 fuel
noncomputable def r14:F14:=m14 r42 r39 r38 r36 r35 r41 r37 r43 r40 L14_0
theorem k14:KO (g14 r14):=by
  have hE: ∀g f,(E14 r42 r39 r38 r36 r35 r41 r37 r43 r40 L14_0).env.fns g=some f→Zy Tryz.prog g f:=Qf ⟨k42,k39,k38,k36,k35,k41,k37,k43,k40,⟨⟩⟩;have h0:ZP Tryz.prog Tryz.f14.ntmps (Zk (Zm Tryz.f14) 0) (e14_0 L14_0):=Z0 (E:=E14 r42 r39 r38 r36 r35 r41 r37 r43 r40 L14_0) rfl hE mixed (Zt.of_list (l:=[]) (by kernel_rfl) trivial) (n14_0 r42 r39 r38 r36 r35 r41 r37 r43 r40) (fun _ _ _=>rfl) (fun n x y z=>t14_0 r42 r39 r38 r36 r35 r41 r37 r43 r40 L14_0 _ x y z) rfl;exact Qk (E:=E14 r42 r39 r38 r36 r35 r41 r37 r43 r40 L14_0) rfl hE mixed (by kernel_rfl) (by kernel_rfl) (Zt.of_list (l:=[(Zk (Zm Tryz.f14) 0)]) (by kernel_rfl) (.one (by kernel_rfl) h0 trivial)) (s14 r42 r39 r38 r36 r35 r41 r37 r43 r40 L14_0)
abbrev i5:Ts:=[.v (.str), .v (.sl false .i), .v (.int .i64), .v (.str)]
abbrev o5:Ts:=[.v (.str), .v (.int .i64)]
abbrev R5:=Option (PTup o5×BTup i5)
abbrev F5:=PTup i5→R5
abbrev g5:=mkG 5 i5 o5
abbrev lc5_0:Ts:=[.v (.sl false .s)]
abbrev lb5_0:Ts:=[.p q11]
abbrev lv5_0:Ts:=[.v (.str), .v (.int .i64)]
abbrev lr5_0:Ts:=[]
abbrev R5_0:=Option (Sum (PTup lv5_0) (PTup lr5_0)×BTup lb5_0)
abbrev B5_0:=PTup lb5_0→PTup lv5_0→R5_0
abbrev A5_0:=PTup lc5_0→B5_0
noncomputable def w5_0 (c14:F14) (c13:F13) (again:B5_0):A5_0:=fun x y z=>bif (ltI z.2.1 (Zf x.1))then (bif (leI 0 z.2.1)then (bif (ltI z.2.1 (Zf x.1))then ((c14 (y.1,((rdE .s x.1 z.2.1),()))).bind fun r0=>bif (!((ByteArray.toList r0.1.2.1)==(ByteArray.toList (bz []))))then (bif (leN ((ByteArray.size z.1)+(ByteArray.size r0.1.2.1)) (4611686018427387904:Nat))then (bif (leN ((ByteArray.size (z.1++r0.1.2.1))+(ByteArray.size (bz [10]))) (4611686018427387904:Nat))then (again (r0.1.1,()) (((z.1++r0.1.2.1)++(bz [10])),((wI (z.2.1+1)),())))else none)else none)else again (r0.1.1,()) (z.1,((wI (z.2.1+1)),())))else none)else none)else some ((Sum.inl z),(y.1,()))
noncomputable def e5_0 (l:A5_0):ZJ:=⟨[12],lc5_0,[10],lb5_0,[15,16],lv5_0,[],lr5_0,2,[],l⟩
abbrev lc5_1:Ts:=[.v (.str)]
abbrev lb5_1:Ts:=[]
abbrev lv5_1:Ts:=[.v (.sl true .s), .v (.int .i64), .v (.int .i64)]
abbrev lr5_1:Ts:=[]
abbrev R5_1:=Option (Sum (PTup lv5_1) (PTup lr5_1)×BTup lb5_1)
abbrev B5_1:=PTup lb5_1→PTup lv5_1→R5_1
abbrev A5_1:=PTup lc5_1→B5_1
noncomputable def w5_1 (c14:F14) (c13:F13) (l0:A5_0) (again:B5_1):A5_1:=fun x y z=>let X0:R5_1:=bif (leI 0 z.2.2.1)then (bif (leI z.2.2.1 ((((ByteArray.size x.1):Nat)):Int))then (bif (leI 0 z.2.1)then (bif (leI z.2.1 z.2.2.1)then (bif (leN ((List.length z.1)+(List.length ((ByteArray.extract x.1 (Int.toNat z.2.1) (Int.toNat z.2.2.1))::[]))) (E.most .s))then (again () ((z.1++((ByteArray.extract x.1 (Int.toNat z.2.1) (Int.toNat z.2.2.1))::[])),((wI (z.2.2.1+1)),((wI (z.2.2.1+1)),()))))else none)else none)else none)else none)else none;let X1:R5_1:=bif (eqI z.2.2.1 ((((ByteArray.size x.1):Nat)):Int))then (bif (eqI z.2.1 ((((ByteArray.size x.1):Nat)):Int))then (again () (z.1,(z.2.1,((wI (z.2.2.1+1)),()))))else X0)else X0;bif (leI z.2.2.1 ((((ByteArray.size x.1):Nat)):Int))then (bif (ltI z.2.2.1 ((((ByteArray.size x.1):Nat)):Int))then (bif (leI 0 z.2.2.1)then (bif (ltI z.2.2.1 ((((ByteArray.size x.1):Nat)):Int))then (bif (neI (bt x.1 z.2.2.1) 10)then (again () (z.1,(z.2.1,((wI (z.2.2.1+1)),()))))else X1)else none)else none)else X1)else some ((Sum.inl z),())
noncomputable def e5_1 (l:A5_1):ZJ:=⟨[3],lc5_1,[],lb5_1,[12,13,14],lv5_1,[],lr5_1,0,[],l⟩
noncomputable def m5 (c14:F14) (c13:F13) (l0:A5_0) (l1:A5_1):F5:=fun y=>(c13 (y.1,(y.2.1,(y.2.2.1,())))).bind fun r0=>bif (neI r0.1.2.1 0)then (some (((bz []),((-(1:Int)),())),()))else (l1 y.2.2.2 () ([],((0:Int),((0:Int),())))).bind fun r1=>ZE r1.1 (fun r2=>bif (ltI 80 (Zf r2.1))then (some (((bz []),((-(2:Int)),())),()))else (l0 (r2.1,()) (r0.1.1,()) ((bz []),((0:Int),()))).bind fun r3=>ZE r3.1 (fun r4=>some ((r4.1,((Zf r2.1),())),())) (fun r4=>some (((bz []),((0:Int),())),()))) (fun r2=>some (((bz []),((0:Int),())),()))
noncomputable def E5 (c14:F14) (c13:F13) (l0:A5_0) (l1:A5_1):ZH:=⟨⟨Tryz.prog,Z6 [g14 c14,g13 c13]⟩,Qg [(16,e5_0 l0),(7,e5_1 l1)]⟩
theorem t5_0 (c14:F14) (c13:F13) (l0:A5_0) (l1:A5_1) (again) (x y z):ZX (E5 c14 c13 l0 l1) (Zk (Zm Tryz.f5) 1) (e5_0 l0) Tryz.f5.ntmps again x y z=w5_0 c14 c13 again x y z:=by kernel_rfl
noncomputable def n5_0 (c14:F14) (c13:F13):Nat→A5_0
  |0,_,_,_=>none
  |n+1,x,y,z=>w5_0 c14 c13 (fun y z=>n5_0 c14 c13 n x y z) x y z
theorem t5_1 (c14:F14) (c13:F13) (l0:A5_0) (l1:A5_1) (again) (x y z):ZX (E5 c14 c13 l0 l1) (Zk (Zm Tryz.f5) 0) (e5_1 l1) Tryz.f5.ntmps again x y z=w5_1 c14 c13 l0 again x y z:=by kernel_rfl
noncomputable def n5_1 (c14:F14) (c13:F13) (l0:A5_0):Nat→A5_1
  |0,_,_,_=>none
  |n+1,x,y,z=>w5_1 c14 c13 l0 (fun y z=>n5_1 c14 c13 l0 n x y z) x y z
theorem s5 (c14:F14) (c13:F13) (l0:A5_0) (l1:A5_1) (y):Z8 (E5 c14 c13 l0 l1) Tryz.f5 i5 o5 y=m5 c14 c13 l0 l1 y:=by kernel_rfl
noncomputable def L5_0:A5_0:=n5_0 r14 r13 fuel
noncomputable def L5_1:A5_1:=n5_1 r14 r13 L5_0 fuel
noncomputable def r5:F5:=m5 r14 r13 L5_0 L5_1
theorem k5:KO (g5 r5):=by
  have hE: ∀g f,(E5 r14 r13 L5_0 L5_1).env.fns g=some f→Zy Tryz.prog g f:=Qf ⟨k14,k13,⟨⟩⟩;have h0:ZP Tryz.prog Tryz.f5.ntmps (Zk (Zm Tryz.f5) 1) (e5_0 L5_0):=Z0 (E:=E5 r14 r13 L5_0 L5_1) rfl hE mixed (Zt.of_list (l:=[]) (by kernel_rfl) trivial) (n5_0 r14 r13) (fun _ _ _=>rfl) (fun n x y z=>t5_0 r14 r13 L5_0 L5_1 _ x y z) rfl;have h1:ZP Tryz.prog Tryz.f5.ntmps (Zk (Zm Tryz.f5) 0) (e5_1 L5_1):=Z0 (E:=E5 r14 r13 L5_0 L5_1) rfl hE mixed (Zt.of_list (l:=[]) (by kernel_rfl) trivial) (n5_1 r14 r13 L5_0) (fun _ _ _=>rfl) (fun n x y z=>t5_1 r14 r13 L5_0 L5_1 _ x y z) rfl;exact Qk (E:=E5 r14 r13 L5_0 L5_1) rfl hE mixed (by kernel_rfl) (by kernel_rfl) (Zt.of_list (l:=[(Zk (Zm Tryz.f5) 0),(Zk (Zm Tryz.f5) 1)]) (by kernel_rfl) (.one (by kernel_rfl) h1 (.one (by kernel_rfl) h0 trivial))) (s5 r14 r13 L5_0 L5_1)
abbrev i15:Ts:=[.v (.str)]
abbrev o15:Ts:=[.v (.sl true .s)]
abbrev F15:=FT i15 o15
abbrev g15:=mkG 15 i15 o15
noncomputable def m15 (c44:F44):F15:=fun y=>(c44 (y.1,((bz [10]),()))).bind fun r0=>bif (leI 0 (wI ((Zf r0.1.1)-1)))then (bif (ltI (wI ((Zf r0.1.1)-1)) (Zf r0.1.1))then (bif ((ByteArray.toList (rdE .s r0.1.1 (wI ((Zf r0.1.1)-1))))==(ByteArray.toList (bz [])))then (bif (leI 0 (wI ((Zf r0.1.1)-1)))then (bif (leI (wI ((Zf r0.1.1)-1)) (Zf r0.1.1))then (some (((List.take (Int.toNat (wI ((Zf r0.1.1)-1))) r0.1.1),()),()))else none)else none)else some (r0.1,()))else none)else none
theorem s15 (c44:F44) (y):TE [g44 c44] Tryz.f15 i15 o15 y=m15 c44 y:=by kernel_rfl
noncomputable def r15:F15:=m15 r44
theorem k15:KO (g15 r15):=fk (s15 r44) ⟨k44,⟨⟩⟩
abbrev i64:Ts:=[.v (.int .i64), .v (.int .i64), .v (.int .i64)]
abbrev o64:Ts:=[.v (.bool)]
abbrev F64:=FT i64 o64
abbrev g64:=mkG 64 i64 o64
noncomputable def m64:F64:=fun y=>bif (leI y.2.1 y.1)then (some (((leI y.1 y.2.2.1),()),()))else no
theorem s64 (y):TE [] Tryz.f64 i64 o64 y=m64 y:=by kernel_rfl
noncomputable def r64:F64:=m64
theorem k64:KO (g64 r64):=fk (s64) trivial
abbrev i31:Ts:=[.v (.int .i64)]
abbrev o31:Ts:=[.v (.str)]
abbrev F31:=FT i31 o31
abbrev g31:=mkG 31 i31 o31
noncomputable def m31 (c75:F75):F31:=fun y=>(c75 y).bind fun r0=>some (r0.1,())
theorem s31 (c75:F75) (y):TE [g75 c75] Tryz.f31 i31 o31 y=m31 c75 y:=by kernel_rfl
noncomputable def r31:F31:=m31 r75
theorem k31:KO (g31 r31):=fk (s31 r75) ⟨k75,⟨⟩⟩
abbrev i177:Ts:=[]
abbrev o177:Ts:=[.v (.sl true .s)]
abbrev F177:=FT i177 o177
abbrev g177:=mkG 177 i177 o177
noncomputable def m177:F177:=fun y=>some ((((bz [110,111,112])::((bz [108,100,105])::((bz [108,100,97])::((bz [115,116,97])::((bz [97,100,105])::((bz [115,98,105])::((bz [97,110,105])::((bz [111,114,105])::((bz [120,114,105])::((bz [99,112,105])::((bz [116,97,120])::((bz [116,120,97])::((bz [105,110,120])::((bz [100,101,120])::((bz [108,97,120])::((bz [115,97,120])::((bz [98,110,101])::((bz [98,101,113])::((bz [98,99,115])::((bz [106,109,112])::((bz [106,115,114])::((bz [114,116,115])::((bz [112,104,97])::((bz [112,108,97])::((bz [114,116,105])::((bz [115,101,105])::((bz [99,108,105])::((bz [115,101,99])::((bz [99,108,99])::((bz [97,100,97])::[])))))))))))))))))))))))))))))),()),())
theorem s177 (y):TE [] Tryz.f177 i177 o177 y=m177 y:=by kernel_rfl
noncomputable def r177:F177:=m177
theorem k177:KO (g177 r177):=fk (s177) trivial
abbrev i176:Ts:=[.v (.sl false .s), .v (.str)]
abbrev o176:Ts:=[.v (.int .i64)]
abbrev F176:=FT i176 o176
abbrev g176:=mkG 176 i176 o176
abbrev lc176_0:Ts:=[.v (.sl false .s), .v (.str), .v (.int .i64)]
abbrev lb176_0:Ts:=[]
abbrev lv176_0:Ts:=[.v (.int .i64)]
abbrev lr176_0:Ts:=[.v (.int .i64)]
abbrev R176_0:=Option (Sum (PTup lv176_0) (PTup lr176_0)×BTup lb176_0)
abbrev B176_0:=PTup lb176_0→PTup lv176_0→R176_0
abbrev A176_0:=PTup lc176_0→B176_0
noncomputable def w176_0 (again:B176_0):A176_0:=fun x y z=>bif (ltI z.1 x.2.2.1)then (bif (leI 0 z.1)then (bif (ltI z.1 (Zf x.1))then (bif ((ByteArray.toList x.2.1)==(ByteArray.toList (rdE .s x.1 z.1)))then (some ((Sum.inr z),()))else again () ((wI (z.1+1)),()))else none)else none)else some ((Sum.inl z),())
noncomputable def e176_0 (l:A176_0):ZJ:=⟨[0,1,7],lc176_0,[],lb176_0,[8],lv176_0,[4],lr176_0,0,[],l⟩
noncomputable def m176 (l0:A176_0):F176:=fun y=>(l0 (y.1,(y.2.1,((Zf y.1),()))) () ((0:Int),())).bind fun r0=>ZE r0.1 (fun r1=>some (((-(1:Int)),()),())) (fun r1=>some (r1,()))
noncomputable def E176 (l0:A176_0):ZH:=⟨⟨Tryz.prog,Z6 []⟩,Qg [(2,e176_0 l0)]⟩
theorem t176_0 (l0:A176_0) (again) (x y z):ZX (E176 l0) (Zk (Zm Tryz.f176) 0) (e176_0 l0) Tryz.f176.ntmps again x y z=w176_0 again x y z:=by kernel_rfl
noncomputable def n176_0:Nat→A176_0
  |0,_,_,_=>none
  |n+1,x,y,z=>w176_0 (fun y z=>n176_0 n x y z) x y z
theorem s176 (l0:A176_0) (y):Z8 (E176 l0) Tryz.f176 i176 o176 y=m176 l0 y:=by kernel_rfl
noncomputable def L176_0:A176_0:=n176_0 fuel
noncomputable def r176:F176:=m176 L176_0
theorem k176:KO (g176 r176):=by
  have hE: ∀g f,(E176 L176_0).env.fns g=some f→Zy Tryz.prog g f:=Qf trivial;have h0:ZP Tryz.prog Tryz.f176.ntmps (Zk (Zm Tryz.f176) 0) (e176_0 L176_0):=Z0 (E:=E176 L176_0) rfl hE mixed (Zt.of_list (l:=[]) (by kernel_rfl) trivial) (n176_0) (fun _ _ _=>rfl) (fun n x y z=>t176_0 L176_0 _ x y z) rfl;exact Qk (E:=E176 L176_0) rfl hE mixed (by kernel_rfl) (by kernel_rfl) (Zt.of_list (l:=[(Zk (Zm Tryz.f176) 0)]) (by kernel_rfl) (.one (by kernel_rfl) h0 trivial)) (s176 L176_0)
abbrev i108:Ts:=[.v (.str)]
abbrev o108:Ts:=[.v (.int .i64)]
abbrev F108:=FT i108 o108
abbrev g108:=mkG 108 i108 o108
noncomputable def m108 (c177:F177) (c176:F176):F108:=fun y=>(c177 ()).bind fun r0=>(c176 (r0.1.1,y)).bind fun r1=>some (r1.1,())
theorem s108 (c177:F177) (c176:F176) (y):TE [g177 c177,g176 c176] Tryz.f108 i108 o108 y=m108 c177 c176 y:=by kernel_rfl
noncomputable def r108:F108:=m108 r177 r176
theorem k108:KO (g108 r108):=fk (s108 r177 r176) ⟨k177,k176,⟨⟩⟩
abbrev i109:Ts:=[.v (.int .i64)]
abbrev o109:Ts:=[.v (.int .i64)]
abbrev F109:=FT i109 o109
abbrev g109:=mkG 109 i109 o109
noncomputable def m109 (c64:F64):F109:=fun y=>bif (eqI y.1 1)then (some (((2:Int),()),()))else (c64 (y.1,((4:Int),((9:Int),())))).bind fun r0=>bif r0.1.1 then (some (((2:Int),()),()))else bif (eqI y.1 2)then (some (((3:Int),()),()))else bif (eqI y.1 3)then (some (((3:Int),()),()))else (c64 (y.1,((14:Int),((20:Int),())))).bind fun r1=>bif r1.1.1 then (some (((3:Int),()),()))else bif (eqI y.1 29)then (some (((3:Int),()),()))else some (((1:Int),()),())
theorem s109 (c64:F64) (y):TE [g64 c64] Tryz.f109 i109 o109 y=m109 c64 y:=by kernel_rfl
noncomputable def r109:F109:=m109 r64
theorem k109:KO (g109 r109):=fk (s109 r64) ⟨k64,⟨⟩⟩
abbrev i49:Ts:=[.v (.str)]
abbrev o49:Ts:=[.v (.sl true .i), .v (.bool)]
abbrev F49:=FT i49 o49
abbrev g49:=mkG 49 i49 o49
noncomputable def m49 (c109:F109) (c108:F108) (c29:F29) (c107:F107):F49:=fun y=>(c107 (y.1,((bz [32]),()))).bind fun r0=>(c108 (r0.1.1,())).bind fun r1=>(c29 (r0.1.2.1,((255:Int),()))).bind fun r2=>bif ((ByteArray.toList r0.1.1)==(ByteArray.toList (bz [98,121,116,101])))then (some (((r2.1.1::[]),r2.1.2),()))else bif (ltI r1.1.1 0)then (some (([],(false,())),()))else (c109 r1.1).bind fun r3=>bif (eqI r3.1.1 1)then (some (((r1.1.1::[]),((!r0.1.2.2.1),())),()))else (c109 r1.1).bind fun r4=>bif (eqI r4.1.1 2)then (some (((r1.1.1::(r2.1.1::[])),r2.1.2),()))else (c29 (r0.1.2.1,((65535:Int),()))).bind fun r5=>some (((r1.1.1::((Int.tmod r5.1.1 256)::((wI (Int.tdiv r5.1.1 256))::[]))),r5.1.2),())
theorem s49 (c109:F109) (c108:F108) (c29:F29) (c107:F107) (y):TE [g109 c109,g108 c108,g29 c29,g107 c107] Tryz.f49 i49 o49 y=m49 c109 c108 c29 c107 y:=by kernel_rfl
noncomputable def r49:F49:=m49 r109 r108 r29 r107
theorem k49:KO (g49 r49):=fk (s49 r109 r108 r29 r107) ⟨k109,k108,k29,k107,⟨⟩⟩
abbrev i22:Ts:=[.v (.str)]
abbrev o22:Ts:=[.v (.sl true .i), .v (.int .i64)]
abbrev F22:=FT i22 o22
abbrev g22:=mkG 22 i22 o22
abbrev lc22_0:Ts:=[.v (.sl false .i), .v (.int .i64)]
abbrev lb22_0:Ts:=[]
abbrev lv22_0:Ts:=[.v (.int .i64), .v (.int .i64), .v (.sl true .i)]
abbrev lr22_0:Ts:=[]
abbrev R22_0:=Option (Sum (PTup lv22_0) (PTup lr22_0)×BTup lb22_0)
abbrev B22_0:=PTup lb22_0→PTup lv22_0→R22_0
abbrev A22_0:=PTup lc22_0→B22_0
noncomputable def w22_0 (c49:F49) (c15:F15) (c29:F29) (c26:F26) (again:B22_0):A22_0:=fun x y z=>bif (ltI z.2.1 x.2.1)then (bif (leI 0 z.2.1)then (bif (ltI z.2.1 (Zf x.1))then (bif (leI 0 z.1)then (bif (ltI z.1 (Zf z.2.2.1))then (again () ((Int.tmod (wI (z.1+1)) (256:Int)),((wI (z.2.1+1)),((List.set z.2.2.1 (Int.toNat z.1) (rdE .i x.1 z.2.1)),()))))else none)else none)else none)else none)else some ((Sum.inl z),())
noncomputable def e22_0 (l:A22_0):ZJ:=⟨[55,56],lc22_0,[],lb22_0,[5,57,4],lv22_0,[],lr22_0,2,[],l⟩
abbrev lc22_1:Ts:=[.v (.sl false .s), .v (.int .i64)]
abbrev lb22_1:Ts:=[]
abbrev lv22_1:Ts:=[.v (.int .i64), .v (.int .i64), .v (.sl true .i)]
abbrev lr22_1:Ts:=[.v (.sl true .i), .v (.int .i64)]
abbrev R22_1:=Option (Sum (PTup lv22_1) (PTup lr22_1)×BTup lb22_1)
abbrev B22_1:=PTup lb22_1→PTup lv22_1→R22_1
abbrev A22_1:=PTup lc22_1→B22_1
noncomputable def w22_1 (c49:F49) (c15:F15) (c29:F29) (c26:F26) (l0:A22_0) (again:B22_1):A22_1:=fun x y z=>bif (ltI z.2.1 x.2.1)then (bif (leI 0 z.2.1)then (bif (ltI z.2.1 (Zf x.1))then (bif ((ByteArray.toList (rdE .s x.1 z.2.1))==(ByteArray.toList (bz [])))then (again () (z.1,((wI (z.2.1+1)),z.2.2)))else (c26 ((rdE .s x.1 z.2.1),((bz [97,116,32]),()))).bind fun r0=>bif r0.1.2.1 then ((c29 (r0.1.1,((255:Int),()))).bind fun r1=>bif (!r1.1.2.1)then (some ((Sum.inr ([],((wI (z.2.1+1)),()))),()))else again () (r1.1.1,((wI (z.2.1+1)),z.2.2)))else (c49 ((rdE .s x.1 z.2.1),())).bind fun r1=>bif (!r1.1.2.1)then (some ((Sum.inr ([],((wI (z.2.1+1)),()))),()))else (l0 (r1.1.1,((Zf r1.1.1),())) () (z.1,((0:Int),z.2.2))).bind fun r2=>ZE r2.1 (fun r3=>again () (r3.1,((wI (z.2.1+1)),r3.2.2))) (fun r3=>none))else none)else none)else some ((Sum.inl z),())
noncomputable def e22_1 (l:A22_1):ZJ:=⟨[21,22],lc22_1,[],lb22_1,[5,23,4],lv22_1,[2,3],lr22_1,0,[],l⟩
noncomputable def m22 (c49:F49) (c15:F15) (c29:F29) (c26:F26) (l0:A22_0) (l1:A22_1):F22:=fun y=>bif (ltI 3000 ((((ByteArray.size y.1):Nat)):Int))then (some (([],((-(1:Int)),())),()))else (c15 y).bind fun r0=>(l1 (r0.1.1,((Zf r0.1.1),())) () ((0:Int),((0:Int),((List.replicate (Int.toNat (256:Int)) (0:Int)),())))).bind fun r1=>ZE r1.1 (fun r2=>some ((r2.2.2.1,((0:Int),())),())) (fun r2=>some (r2,()))
noncomputable def E22 (c49:F49) (c15:F15) (c29:F29) (c26:F26) (l0:A22_0) (l1:A22_1):ZH:=⟨⟨Tryz.prog,Z6 [g49 c49,g15 c15,g29 c29,g26 c26]⟩,Qg [(19,e22_0 l0),(6,e22_1 l1)]⟩
theorem t22_0 (c49:F49) (c15:F15) (c29:F29) (c26:F26) (l0:A22_0) (l1:A22_1) (again) (x y z):ZX (E22 c49 c15 c29 c26 l0 l1) (Zk (Zk (Zm Tryz.f22) 0) 0) (e22_0 l0) Tryz.f22.ntmps again x y z=w22_0 c49 c15 c29 c26 again x y z:=by kernel_rfl
noncomputable def n22_0 (c49:F49) (c15:F15) (c29:F29) (c26:F26):Nat→A22_0
  |0,_,_,_=>none
  |n+1,x,y,z=>w22_0 c49 c15 c29 c26 (fun y z=>n22_0 c49 c15 c29 c26 n x y z) x y z
theorem t22_1 (c49:F49) (c15:F15) (c29:F29) (c26:F26) (l0:A22_0) (l1:A22_1) (again) (x y z):ZX (E22 c49 c15 c29 c26 l0 l1) (Zk (Zm Tryz.f22) 0) (e22_1 l1) Tryz.f22.ntmps again x y z=w22_1 c49 c15 c29 c26 l0 again x y z:=by kernel_rfl
noncomputable def n22_1 (c49:F49) (c15:F15) (c29:F29) (c26:F26) (l0:A22_0):Nat→A22_1
  |0,_,_,_=>none
  |n+1,x,y,z=>w22_1 c49 c15 c29 c26 l0 (fun y z=>n22_1 c49 c15 c29 c26 l0 n x y z) x y z
theorem s22 (c49:F49) (c15:F15) (c29:F29) (c26:F26) (l0:A22_0) (l1:A22_1) (y):Z8 (E22 c49 c15 c29 c26 l0 l1) Tryz.f22 i22 o22 y=m22 c49 c15 c29 c26 l0 l1 y:=by kernel_rfl
noncomputable def L22_0:A22_0:=n22_0 r49 r15 r29 r26 fuel
noncomputable def L22_1:A22_1:=n22_1 r49 r15 r29 r26 L22_0 fuel
noncomputable def r22:F22:=m22 r49 r15 r29 r26 L22_0 L22_1
theorem k22:KO (g22 r22):=by
  have hE: ∀g f,(E22 r49 r15 r29 r26 L22_0 L22_1).env.fns g=some f→Zy Tryz.prog g f:=Qf ⟨k49,k15,k29,k26,⟨⟩⟩;have h0:ZP Tryz.prog Tryz.f22.ntmps (Zk (Zk (Zm Tryz.f22) 0) 0) (e22_0 L22_0):=Z0 (E:=E22 r49 r15 r29 r26 L22_0 L22_1) rfl hE mixed (Zt.of_list (l:=[]) (by kernel_rfl) trivial) (n22_0 r49 r15 r29 r26) (fun _ _ _=>rfl) (fun n x y z=>t22_0 r49 r15 r29 r26 L22_0 L22_1 _ x y z) rfl;have h1:ZP Tryz.prog Tryz.f22.ntmps (Zk (Zm Tryz.f22) 0) (e22_1 L22_1):=Z0 (E:=E22 r49 r15 r29 r26 L22_0 L22_1) rfl hE mixed (Zt.of_list (l:=[(Zk (Zk (Zm Tryz.f22) 0) 0)]) (by kernel_rfl) (.one (by kernel_rfl) h0 trivial)) (n22_1 r49 r15 r29 r26 L22_0) (fun _ _ _=>rfl) (fun n x y z=>t22_1 r49 r15 r29 r26 L22_0 L22_1 _ x y z) rfl;exact Qk (E:=E22 r49 r15 r29 r26 L22_0 L22_1) rfl hE mixed (by kernel_rfl) (by kernel_rfl) (Zt.of_list (l:=[(Zk (Zm Tryz.f22) 0)]) (by kernel_rfl) (.one (by kernel_rfl) h1 trivial)) (s22 r49 r15 r29 r26 L22_0 L22_1)
end Go.Proofs.YtcbdldlphpjmbaaGreatDoor.Plain
