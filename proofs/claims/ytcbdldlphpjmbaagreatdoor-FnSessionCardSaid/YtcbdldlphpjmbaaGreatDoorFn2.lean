/- Plain functions that the program's functions answer as; their contracts. Printed by a program of the proofs' writer. No condition. -/
import Derived.Test.YtcbdldlphpjmbaaGreatDoorX
import Derived.KernelRfl
import Derived.Test.YtcbdldlphpjmbaaGreatDoorFn1
set_option linter.unusedVariables false
set_option linter.unusedSimpArgs false
set_option maxRecDepth 100000
namespace Go.Proofs.YtcbdldlphpjmbaaGreatDoor.Plain
open Go Go.Tev
abbrev i21:Ts:=[.p q24, .v (.int .i64)]
abbrev o21:Ts:=[.v (.bool)]
abbrev F21:=FT i21 o21
abbrev g21:=mkG 21 i21 o21
noncomputable def m21 (c19:F19):F21:=fun y=>(c19 y).bind fun r0=>some (((eqI r0.1.1 0),()),((y.1.1,r0.2.1.2),()))
theorem s21 (c19:F19) (y):TE [g19 c19] Tryz.f21 i21 o21 y=m21 c19 y:=by kernel_rfl
noncomputable def r21:F21:=m21 r19
theorem k21:KO (g21 r21):=fk (s21 r19) ⟨k19,⟨⟩⟩
abbrev i17:Ts:=[.p q24]
abbrev o17:Ts:=[.v (.str)]
abbrev F17:=FT i17 o17
abbrev g17:=mkG 17 i17 o17
noncomputable def m17 (c19:F19) (c21:F21) (c45:F45):F17:=fun y=>(c45 (y.1,())).bind fun r0=>bif (leN ((ByteArray.size r0.1.1)+(ByteArray.size (bz [97,116,32,50,53,48,10,98,121,116,101,32,49,50,56,10,98,121,116,101,32,49,57,50,10,98,121,116,101,32,48,10,98,121,116,101,32,49,57,50,10,98,121,116,101,32,49,54,48,10,98,121,116,101,32,49,57,50,10]))) (4611686018427387904:Nat))then ((c21 ((y.1.1,r0.2.1.2),((12:Int),()))).bind fun r1=>bif r1.1.1 then ((c19 ((y.1.1,r1.2.1.2),((wI (((((ByteArray.size (r0.1.1++(bz [97,116,32,50,53,48,10,98,121,116,101,32,49,50,56,10,98,121,116,101,32,49,57,50,10,98,121,116,101,32,48,10,98,121,116,101,32,49,57,50,10,98,121,116,101,32,49,54,48,10,98,121,116,101,32,49,57,50,10]))):Nat)):Int)+1)),()))).bind fun r2=>bif (leI 0 r2.1.1)then (bif (leI r2.1.1 ((((ByteArray.size (r0.1.1++(bz [97,116,32,50,53,48,10,98,121,116,101,32,49,50,56,10,98,121,116,101,32,49,57,50,10,98,121,116,101,32,48,10,98,121,116,101,32,49,57,50,10,98,121,116,101,32,49,54,48,10,98,121,116,101,32,49,57,50,10]))):Nat)):Int))then (bif (leN ((ByteArray.size (ByteArray.extract (r0.1.1++(bz [97,116,32,50,53,48,10,98,121,116,101,32,49,50,56,10,98,121,116,101,32,49,57,50,10,98,121,116,101,32,48,10,98,121,116,101,32,49,57,50,10,98,121,116,101,32,49,54,48,10,98,121,116,101,32,49,57,50,10])) (0:Nat) (Int.toNat r2.1.1)))+(ByteArray.size (bz [120]))) (4611686018427387904:Nat))then (bif (leI 0 r2.1.1)then (bif (leI r2.1.1 ((((ByteArray.size (r0.1.1++(bz [97,116,32,50,53,48,10,98,121,116,101,32,49,50,56,10,98,121,116,101,32,49,57,50,10,98,121,116,101,32,48,10,98,121,116,101,32,49,57,50,10,98,121,116,101,32,49,54,48,10,98,121,116,101,32,49,57,50,10]))):Nat)):Int))then (bif (leN ((ByteArray.size ((ByteArray.extract (r0.1.1++(bz [97,116,32,50,53,48,10,98,121,116,101,32,49,50,56,10,98,121,116,101,32,49,57,50,10,98,121,116,101,32,48,10,98,121,116,101,32,49,57,50,10,98,121,116,101,32,49,54,48,10,98,121,116,101,32,49,57,50,10])) (0:Nat) (Int.toNat r2.1.1))++(bz [120])))+(ByteArray.size (ByteArray.extract (r0.1.1++(bz [97,116,32,50,53,48,10,98,121,116,101,32,49,50,56,10,98,121,116,101,32,49,57,50,10,98,121,116,101,32,48,10,98,121,116,101,32,49,57,50,10,98,121,116,101,32,49,54,48,10,98,121,116,101,32,49,57,50,10])) (Int.toNat r2.1.1) (ByteArray.size (r0.1.1++(bz [97,116,32,50,53,48,10,98,121,116,101,32,49,50,56,10,98,121,116,101,32,49,57,50,10,98,121,116,101,32,48,10,98,121,116,101,32,49,57,50,10,98,121,116,101,32,49,54,48,10,98,121,116,101,32,49,57,50,10])))))) (4611686018427387904:Nat))then (some (((((ByteArray.extract (r0.1.1++(bz [97,116,32,50,53,48,10,98,121,116,101,32,49,50,56,10,98,121,116,101,32,49,57,50,10,98,121,116,101,32,48,10,98,121,116,101,32,49,57,50,10,98,121,116,101,32,49,54,48,10,98,121,116,101,32,49,57,50,10])) (0:Nat) (Int.toNat r2.1.1))++(bz [120]))++(ByteArray.extract (r0.1.1++(bz [97,116,32,50,53,48,10,98,121,116,101,32,49,50,56,10,98,121,116,101,32,49,57,50,10,98,121,116,101,32,48,10,98,121,116,101,32,49,57,50,10,98,121,116,101,32,49,54,48,10,98,121,116,101,32,49,57,50,10])) (Int.toNat r2.1.1) (ByteArray.size (r0.1.1++(bz [97,116,32,50,53,48,10,98,121,116,101,32,49,50,56,10,98,121,116,101,32,49,57,50,10,98,121,116,101,32,48,10,98,121,116,101,32,49,57,50,10,98,121,116,101,32,49,54,48,10,98,121,116,101,32,49,57,50,10]))))),()),((y.1.1,r2.2.1.2),())))else none)else none)else none)else none)else none)else none)else some (((r0.1.1++(bz [97,116,32,50,53,48,10,98,121,116,101,32,49,50,56,10,98,121,116,101,32,49,57,50,10,98,121,116,101,32,48,10,98,121,116,101,32,49,57,50,10,98,121,116,101,32,49,54,48,10,98,121,116,101,32,49,57,50,10])),()),((y.1.1,r1.2.1.2),())))else none
theorem s17 (c19:F19) (c21:F21) (c45:F45) (y):TE [g19 c19,g21 c21,g45 c45] Tryz.f17 i17 o17 y=m17 c19 c21 c45 y:=by kernel_rfl
noncomputable def r17:F17:=m17 r19 r21 r45
theorem k17:KO (g17 r17):=fk (s17 r19 r21 r45) ⟨k19,k21,k45,⟨⟩⟩
abbrev i46:Ts:=[.p q24, .v (.sl false .i)]
abbrev o46:Ts:=[.v (.int .i64)]
abbrev F46:=FT i46 o46
abbrev g46:=mkG 46 i46 o46
noncomputable def m46 (c19:F19):F46:=fun y=>(c19 (y.1,((Zf y.2.1),()))).bind fun r0=>bif (leI 0 r0.1.1)then (bif (ltI r0.1.1 (Zf y.2.1))then (some (((rdE .i y.2.1 r0.1.1),()),((y.1.1,r0.2.1.2),())))else none)else none
theorem s46 (c19:F19) (y):TE [g19 c19] Tryz.f46 i46 o46 y=m46 c19 y:=by kernel_rfl
noncomputable def r46:F46:=m46 r19
theorem k46:KO (g46 r46):=fk (s46 r19) ⟨k19,⟨⟩⟩
abbrev i18:Ts:=[.p q24]
abbrev o18:Ts:=[.v (.sl true .i)]
abbrev F18:=FT i18 o18
abbrev g18:=mkG 18 i18 o18
abbrev lc18_0:Ts:=[]
abbrev lb18_0:Ts:=[.p q24]
abbrev lv18_0:Ts:=[.v (.sl true .i), .v (.int .i64)]
abbrev lr18_0:Ts:=[]
abbrev R18_0:=Option (Sum (PTup lv18_0) (PTup lr18_0)×BTup lb18_0)
abbrev B18_0:=PTup lb18_0→PTup lv18_0→R18_0
abbrev A18_0:=PTup lc18_0→B18_0
noncomputable def w18_0 (c19:F19) (c21:F21) (c46:F46) (again:B18_0):A18_0:=fun x y z=>(c19 (y.1,((5:Int),()))).bind fun r0=>bif (ltI z.2.1 r0.1.1)then ((c19 ((y.1.1,r0.2.1.2),((256:Int),()))).bind fun r1=>bif (leN ((List.length z.1)+(List.length (r1.1.1::[]))) (E.most .i))then (again ((y.1.1,r1.2.1.2),()) ((z.1++(r1.1.1::[])),((wI (z.2.1+1)),())))else none)else some ((Sum.inl z),((y.1.1,r0.2.1.2),()))
noncomputable def e18_0 (l:A18_0):ZJ:=⟨[],lc18_0,[0],lb18_0,[3,4],lv18_0,[],lr18_0,0,[],l⟩
noncomputable def m18 (c19:F19) (c21:F21) (c46:F46) (l0:A18_0):F18:=fun y=>(l0 () (y.1,()) ([],((0:Int),()))).bind fun r0=>ZE r0.1 (fun r1=>(c21 ((y.1.1,r0.2.1.2),((30:Int),()))).bind fun r2=>bif r2.1.1 then ((c46 ((y.1.1,r2.2.1.2),(((-(1:Int))::((256:Int)::[])),()))).bind fun r3=>bif (leN ((List.length r1.1)+(List.length (r3.1.1::[]))) (E.most .i))then ((c21 ((y.1.1,r3.2.1.2),((40:Int),()))).bind fun r4=>bif r4.1.1 then ((c19 ((y.1.1,r4.2.1.2),((2:Int),()))).bind fun r5=>bif (leI 0 (wI ((20:Int)+r5.1.1)))then (bif (leN (Int.toNat (wI ((20:Int)+r5.1.1))) (E.most .i))then (some (((List.replicate (Int.toNat (wI ((20:Int)+r5.1.1))) (0:Int)),()),((y.1.1,r5.2.1.2),())))else none)else none)else some (((r1.1++(r3.1.1::[])),()),((y.1.1,r4.2.1.2),())))else none)else (c21 ((y.1.1,r2.2.1.2),((40:Int),()))).bind fun r3=>bif r3.1.1 then ((c19 ((y.1.1,r3.2.1.2),((2:Int),()))).bind fun r4=>bif (leI 0 (wI ((20:Int)+r4.1.1)))then (bif (leN (Int.toNat (wI ((20:Int)+r4.1.1))) (E.most .i))then (some (((List.replicate (Int.toNat (wI ((20:Int)+r4.1.1))) (0:Int)),()),((y.1.1,r4.2.1.2),())))else none)else none)else some ((r1.1,()),((y.1.1,r3.2.1.2),()))) (fun r1=>some (([],()),((y.1.1,r0.2.1.2),())))
noncomputable def E18 (c19:F19) (c21:F21) (c46:F46) (l0:A18_0):ZH:=⟨⟨Tryz.prog,Z6 [g19 c19,g21 c21,g46 c46]⟩,Qg [(3,e18_0 l0)]⟩
theorem t18_0 (c19:F19) (c21:F21) (c46:F46) (l0:A18_0) (again) (x y z):ZX (E18 c19 c21 c46 l0) (Zk (Zm Tryz.f18) 0) (e18_0 l0) Tryz.f18.ntmps again x y z=w18_0 c19 c21 c46 again x y z:=by kernel_rfl
noncomputable def n18_0 (c19:F19) (c21:F21) (c46:F46):Nat→A18_0
  |0,_,_,_=>none
  |n+1,x,y,z=>w18_0 c19 c21 c46 (fun y z=>n18_0 c19 c21 c46 n x y z) x y z
theorem s18 (c19:F19) (c21:F21) (c46:F46) (l0:A18_0) (y):Z8 (E18 c19 c21 c46 l0) Tryz.f18 i18 o18 y=m18 c19 c21 c46 l0 y:=by kernel_rfl
noncomputable def L18_0:A18_0:=n18_0 r19 r21 r46 fuel
noncomputable def r18:F18:=m18 r19 r21 r46 L18_0
theorem k18:KO (g18 r18):=by
  have hE: ∀g f,(E18 r19 r21 r46 L18_0).env.fns g=some f→Zy Tryz.prog g f:=Qf ⟨k19,k21,k46,⟨⟩⟩;have h0:ZP Tryz.prog Tryz.f18.ntmps (Zk (Zm Tryz.f18) 0) (e18_0 L18_0):=Z0 (E:=E18 r19 r21 r46 L18_0) rfl hE mixed (Zt.of_list (l:=[]) (by kernel_rfl) trivial) (n18_0 r19 r21 r46) (fun _ _ _=>rfl) (fun n x y z=>t18_0 r19 r21 r46 L18_0 _ x y z) rfl;exact Qk (E:=E18 r19 r21 r46 L18_0) rfl hE mixed (by kernel_rfl) (by kernel_rfl) (Zt.of_list (l:=[(Zk (Zm Tryz.f18) 0)]) (by kernel_rfl) (.one (by kernel_rfl) h0 trivial)) (s18 r19 r21 r46 L18_0)
abbrev i20:Ts:=[.p q24]
abbrev o20:Ts:=[.v (.str)]
abbrev F20:=FT i20 o20
abbrev g20:=mkG 20 i20 o20
noncomputable def m20 (c48:F48):F20:=fun y=>(c48 (y.1,(((bz [99,112,117])::((bz [99,112,117])::((bz [112,105,99,116,117,114,101])::((bz [115,111,117,110,100])::((bz [108,101,118,101,108])::((bz [102,97,105,114,32,51])::((bz [102,97,105,114,32,49,50])::((bz [119,97,105,116])::((bz [115,104,111,119])::((bz [102,114,97,109,101,115])::((bz [115,97,109,112,108,101,115])::((bz [106,117,100,103,101])::((bz [])::((bz [59])::((bz [102,97,105,114])::((bz [102,97,105,114,32,48,51])::((bz [104,101,108,112])::((bz [102,97,105,114,32,49,48,48,48])::[])))))))))))))))))),()))).bind fun r0=>some (r0.1,((y.1.1,r0.2.1.2),()))
theorem s20 (c48:F48) (y):TE [g48 c48] Tryz.f20 i20 o20 y=m20 c48 y:=by kernel_rfl
noncomputable def r20:F20:=m20 r48
theorem k20:KO (g20 r20):=fk (s20 r48) ⟨k48,⟨⟩⟩
abbrev i10:Ts:=[.v (.sl false .b)]
abbrev o10:Ts:=[.v (.str), .v (.sl true .i), .v (.int .i64), .v (.str)]
abbrev F10:=FT i10 o10
abbrev g10:=mkG 10 i10 o10
abbrev lc10_0:Ts:=[]
abbrev lb10_0:Ts:=[]
abbrev lv10_0:Ts:=[.v (.str), .v (.int .i64)]
abbrev lr10_0:Ts:=[]
abbrev R10_0:=Option (Sum (PTup lv10_0) (PTup lr10_0)×BTup lb10_0)
abbrev B10_0:=PTup lb10_0→PTup lv10_0→R10_0
abbrev A10_0:=PTup lc10_0→B10_0
noncomputable def w10_0 (c18:F18) (c19:F19) (c16:F16) (c21:F21) (c20:F20) (c17:F17) (again:B10_0):A10_0:=fun x y z=>bif (ltI z.2.1 80)then (bif (leN ((ByteArray.size z.1)+(ByteArray.size (bz [10]))) (4611686018427387904:Nat))then (again () ((z.1++(bz [10])),((wI (z.2.1+1)),())))else none)else some ((Sum.inl z),())
noncomputable def e10_0 (l:A10_0):ZJ:=⟨[],lc10_0,[],lb10_0,[9,12],lv10_0,[],lr10_0,2,[],l⟩
abbrev lc10_1:Ts:=[.v (.int .i64)]
abbrev lb10_1:Ts:=[.p q24]
abbrev lv10_1:Ts:=[.v (.str), .v (.int .i64)]
abbrev lr10_1:Ts:=[]
abbrev R10_1:=Option (Sum (PTup lv10_1) (PTup lr10_1)×BTup lb10_1)
abbrev B10_1:=PTup lb10_1→PTup lv10_1→R10_1
abbrev A10_1:=PTup lc10_1→B10_1
noncomputable def w10_1 (c18:F18) (c19:F19) (c16:F16) (c21:F21) (c20:F20) (c17:F17) (l0:A10_0) (again:B10_1):A10_1:=fun x y z=>bif (ltI z.2.1 x.1)then ((c20 (y.1,())).bind fun r0=>bif (leN ((ByteArray.size z.1)+(ByteArray.size r0.1.1)) (4611686018427387904:Nat))then (bif (leN ((ByteArray.size (z.1++r0.1.1))+(ByteArray.size (bz [10]))) (4611686018427387904:Nat))then (again ((y.1.1,r0.2.1.2),()) (((z.1++r0.1.1)++(bz [10])),((wI (z.2.1+1)),())))else none)else none)else some ((Sum.inl z),(y.1,()))
noncomputable def e10_1 (l:A10_1):ZJ:=⟨[10],lc10_1,[6],lb10_1,[9,11],lv10_1,[],lr10_1,0,[],l⟩
noncomputable def m10 (c18:F18) (c19:F19) (c16:F16) (c21:F21) (c20:F20) (c17:F17) (l0:A10_0) (l1:A10_1):F10:=fun y=>(c16 y).bind fun r0=>(c17 (r0.1.1,())).bind fun r1=>(c18 ((r0.1.1.1,r1.2.1.2),())).bind fun r2=>(c19 ((r0.1.1.1,r2.2.1.2),((30:Int),()))).bind fun r3=>(l1 r3.1 ((r0.1.1.1,r3.2.1.2),()) ((bz []),((0:Int),()))).bind fun r4=>ZE r4.1 (fun r5=>(c21 ((r0.1.1.1,r4.2.1.2),((40:Int),()))).bind fun r6=>bif r6.1.1 then ((l0 () () (r5.1,((0:Int),()))).bind fun r7=>ZE r7.1 (fun r8=>(c19 ((r0.1.1.1,r6.2.1.2),((4:Int),()))).bind fun r9=>some ((r1.1.1,(r2.1.1,((wI ((1:Int)+r9.1.1)),(r8.1,())))),())) (fun r8=>some (((bz []),([],((0:Int),((bz []),())))),())))else (c19 ((r0.1.1.1,r6.2.1.2),((4:Int),()))).bind fun r7=>some ((r1.1.1,(r2.1.1,((wI ((1:Int)+r7.1.1)),(r5.1,())))),())) (fun r5=>some (((bz []),([],((0:Int),((bz []),())))),()))
noncomputable def E10 (c18:F18) (c19:F19) (c16:F16) (c21:F21) (c20:F20) (c17:F17) (l0:A10_0) (l1:A10_1):ZH:=⟨⟨Tryz.prog,Z6 [g18 c18,g19 c19,g16 c16,g21 c21,g20 c20,g17 c17]⟩,Qg [(12,e10_0 l0),(7,e10_1 l1)]⟩
theorem t10_0 (c18:F18) (c19:F19) (c16:F16) (c21:F21) (c20:F20) (c17:F17) (l0:A10_0) (l1:A10_1) (again) (x y z):ZX (E10 c18 c19 c16 c21 c20 c17 l0 l1) (Zk (Zm Tryz.f10) 1) (e10_0 l0) Tryz.f10.ntmps again x y z=w10_0 c18 c19 c16 c21 c20 c17 again x y z:=by kernel_rfl
noncomputable def n10_0 (c18:F18) (c19:F19) (c16:F16) (c21:F21) (c20:F20) (c17:F17):Nat→A10_0
  |0,_,_,_=>none
  |n+1,x,y,z=>w10_0 c18 c19 c16 c21 c20 c17 (fun y z=>n10_0 c18 c19 c16 c21 c20 c17 n x y z) x y z
theorem t10_1 (c18:F18) (c19:F19) (c16:F16) (c21:F21) (c20:F20) (c17:F17) (l0:A10_0) (l1:A10_1) (again) (x y z):ZX (E10 c18 c19 c16 c21 c20 c17 l0 l1) (Zk (Zm Tryz.f10) 0) (e10_1 l1) Tryz.f10.ntmps again x y z=w10_1 c18 c19 c16 c21 c20 c17 l0 again x y z:=by kernel_rfl
noncomputable def n10_1 (c18:F18) (c19:F19) (c16:F16) (c21:F21) (c20:F20) (c17:F17) (l0:A10_0):Nat→A10_1
  |0,_,_,_=>none
  |n+1,x,y,z=>w10_1 c18 c19 c16 c21 c20 c17 l0 (fun y z=>n10_1 c18 c19 c16 c21 c20 c17 l0 n x y z) x y z
theorem s10 (c18:F18) (c19:F19) (c16:F16) (c21:F21) (c20:F20) (c17:F17) (l0:A10_0) (l1:A10_1) (y):Z8 (E10 c18 c19 c16 c21 c20 c17 l0 l1) Tryz.f10 i10 o10 y=m10 c18 c19 c16 c21 c20 c17 l0 l1 y:=by kernel_rfl
noncomputable def L10_0:A10_0:=n10_0 r18 r19 r16 r21 r20 r17 fuel
noncomputable def L10_1:A10_1:=n10_1 r18 r19 r16 r21 r20 r17 L10_0 fuel
noncomputable def r10:F10:=m10 r18 r19 r16 r21 r20 r17 L10_0 L10_1
theorem k10:KO (g10 r10):=by
  have hE: ∀g f,(E10 r18 r19 r16 r21 r20 r17 L10_0 L10_1).env.fns g=some f→Zy Tryz.prog g f:=Qf ⟨k18,k19,k16,k21,k20,k17,⟨⟩⟩;have h0:ZP Tryz.prog Tryz.f10.ntmps (Zk (Zm Tryz.f10) 1) (e10_0 L10_0):=Z0 (E:=E10 r18 r19 r16 r21 r20 r17 L10_0 L10_1) rfl hE mixed (Zt.of_list (l:=[]) (by kernel_rfl) trivial) (n10_0 r18 r19 r16 r21 r20 r17) (fun _ _ _=>rfl) (fun n x y z=>t10_0 r18 r19 r16 r21 r20 r17 L10_0 L10_1 _ x y z) rfl;have h1:ZP Tryz.prog Tryz.f10.ntmps (Zk (Zm Tryz.f10) 0) (e10_1 L10_1):=Z0 (E:=E10 r18 r19 r16 r21 r20 r17 L10_0 L10_1) rfl hE mixed (Zt.of_list (l:=[]) (by kernel_rfl) trivial) (n10_1 r18 r19 r16 r21 r20 r17 L10_0) (fun _ _ _=>rfl) (fun n x y z=>t10_1 r18 r19 r16 r21 r20 r17 L10_0 L10_1 _ x y z) rfl;exact Qk (E:=E10 r18 r19 r16 r21 r20 r17 L10_0 L10_1) rfl hE mixed (by kernel_rfl) (by kernel_rfl) (Zt.of_list (l:=[(Zk (Zm Tryz.f10) 0),(Zk (Zm Tryz.f10) 1)]) (by kernel_rfl) (.one (by kernel_rfl) h1 (.one (by kernel_rfl) h0 trivial))) (s10 r18 r19 r16 r21 r20 r17 L10_0 L10_1)
abbrev i4:Ts:=[.v (.sl false .b)]
abbrev o4:Ts:=[.v (.bool)]
abbrev R4:=Option (PTup o4×BTup i4)
abbrev F4:=PTup i4→R4
abbrev g4:=mkG 4 i4 o4
abbrev lc4_0:Ts:=[.v (.str)]
abbrev lb4_0:Ts:=[.p q11]
abbrev lv4_0:Ts:=[.v (.str), .v (.int .i64), .v (.int .i64), .v (.int .i64)]
abbrev lr4_0:Ts:=[]
abbrev R4_0:=Option (Sum (PTup lv4_0) (PTup lr4_0)×BTup lb4_0)
abbrev B4_0:=PTup lb4_0→PTup lv4_0→R4_0
abbrev A4_0:=PTup lc4_0→B4_0
noncomputable def w4_0 (c12:F12) (c7:F7) (c11:F11) (c9:F9) (c10:F10) (c5:F5) (again:B4_0):A4_0:=fun x y z=>let X0:R4_0:=bif (leI 0 z.2.2.2.1)then (bif (leI z.2.2.2.1 ((((ByteArray.size x.1):Nat)):Int))then (bif (leI 0 z.2.1)then (bif (leI z.2.1 z.2.2.2.1)then ((c12 (y.1,((ByteArray.extract x.1 (Int.toNat z.2.1) (Int.toNat z.2.2.2.1)),()))).bind fun r0=>bif (! ((ByteArray.toList r0.1.2.1)==(ByteArray.toList (bz []))))then (bif (leN ((ByteArray.size z.1)+(ByteArray.size r0.1.2.1)) (4611686018427387904:Nat))then (bif (leN ((ByteArray.size (z.1++r0.1.2.1))+(ByteArray.size (bz [10]))) (4611686018427387904:Nat))then (again (r0.1.1,()) (((z.1++r0.1.2.1)++(bz [10])),((wI (z.2.2.2.1+1)),((wI (z.2.2.1+1)),((wI (z.2.2.2.1+1)),())))))else none)else none)else again (r0.1.1,()) (z.1,((wI (z.2.2.2.1+1)),((wI (z.2.2.1+1)),((wI (z.2.2.2.1+1)),())))))else none)else none)else none)else none;let X1:R4_0:=bif (eqI z.2.2.2.1 ((((ByteArray.size x.1):Nat)):Int))then (bif (eqI z.2.1 ((((ByteArray.size x.1):Nat)):Int))then (again (y.1,()) (z.1,(z.2.1,(z.2.2.1,((wI (z.2.2.2.1+1)),())))))else X0)else X0;bif (leI z.2.2.2.1 ((((ByteArray.size x.1):Nat)):Int))then (bif (ltI z.2.2.2.1 ((((ByteArray.size x.1):Nat)):Int))then (bif (leI 0 z.2.2.2.1)then (bif (ltI z.2.2.2.1 ((((ByteArray.size x.1):Nat)):Int))then (bif (neI (bt x.1 z.2.2.2.1) 10)then (again (y.1,()) (z.1,(z.2.1,(z.2.2.1,((wI (z.2.2.2.1+1)),())))))else X1)else none)else none)else X1)else some ((Sum.inl z),(y.1,()))
noncomputable def e4_0 (l:A4_0):ZJ:=⟨[6],lc4_0,[11],lb4_0,[13,14,15,16],lv4_0,[],lr4_0,0,[],l⟩
noncomputable def m4 (c12:F12) (c7:F7) (c11:F11) (c9:F9) (c10:F10) (c5:F5) (l0:A4_0):F4:=fun y=>(c9 y).bind fun r0=>bif r0.1.1 then (some ((true,()),()))else (c10 y).bind fun r1=>(c7 r1.1).bind fun r2=>(c5 r1.1).bind fun r3=>bif (neI r2.1.2.1 r3.1.2.1)then no else bif (!((ByteArray.toList r2.1.1)==(ByteArray.toList r3.1.1)))then no else bif (ltI r2.1.2.1 0)then (some ((((ByteArray.toList r2.1.1)==(ByteArray.toList (bz []))),()),()))else (c11 (r1.1.1,(r1.1.2.1,(r1.1.2.2.1,())))).bind fun r4=>(l0 r1.1.2.2.2 (r4.1.1,()) ((bz []),((0:Int),((0:Int),((0:Int),()))))).bind fun r5=>ZE r5.1 (fun r6=>bif (eqI r4.1.2.1 0)then (bif ((ByteArray.toList r6.1)==(ByteArray.toList r2.1.1))then (some (((eqI r6.2.2.1 r2.1.2.1),()),()))else no)else no) (fun r6=>no)
noncomputable def E4 (c12:F12) (c7:F7) (c11:F11) (c9:F9) (c10:F10) (c5:F5) (l0:A4_0):ZH:=⟨⟨Tryz.prog,Z6 [g12 c12,g7 c7,g11 c11,g9 c9,g10 c10,g5 c5]⟩,Qg [(15,e4_0 l0)]⟩
theorem t4_0 (c12:F12) (c7:F7) (c11:F11) (c9:F9) (c10:F10) (c5:F5) (l0:A4_0) (again) (x y z):ZX (E4 c12 c7 c11 c9 c10 c5 l0) (Zk (Zm Tryz.f4) 0) (e4_0 l0) Tryz.f4.ntmps again x y z=w4_0 c12 c7 c11 c9 c10 c5 again x y z:=by kernel_rfl
noncomputable def n4_0 (c12:F12) (c7:F7) (c11:F11) (c9:F9) (c10:F10) (c5:F5):Nat→A4_0
  |0,_,_,_=>none
  |n+1,x,y,z=>w4_0 c12 c7 c11 c9 c10 c5 (fun y z=>n4_0 c12 c7 c11 c9 c10 c5 n x y z) x y z
theorem s4 (c12:F12) (c7:F7) (c11:F11) (c9:F9) (c10:F10) (c5:F5) (l0:A4_0) (y):Z8 (E4 c12 c7 c11 c9 c10 c5 l0) Tryz.f4 i4 o4 y=m4 c12 c7 c11 c9 c10 c5 l0 y:=by kernel_rfl
noncomputable def L4_0:A4_0:=n4_0 r12 r7 r11 r9 r10 r5 fuel
noncomputable def r4:F4:=m4 r12 r7 r11 r9 r10 r5 L4_0
theorem k4:KO (g4 r4):=by
  have hE: ∀g f,(E4 r12 r7 r11 r9 r10 r5 L4_0).env.fns g=some f→Zy Tryz.prog g f:=Qf ⟨k12,k7,k11,k9,k10,k5,⟨⟩⟩;have h0:ZP Tryz.prog Tryz.f4.ntmps (Zk (Zm Tryz.f4) 0) (e4_0 L4_0):=Z0 (E:=E4 r12 r7 r11 r9 r10 r5 L4_0) rfl hE mixed (Zt.of_list (l:=[]) (by kernel_rfl) trivial) (n4_0 r12 r7 r11 r9 r10 r5) (fun _ _ _=>rfl) (fun n x y z=>t4_0 r12 r7 r11 r9 r10 r5 L4_0 _ x y z) rfl;exact Qk (E:=E4 r12 r7 r11 r9 r10 r5 L4_0) rfl hE mixed (by kernel_rfl) (by kernel_rfl) (Zt.of_list (l:=[(Zk (Zm Tryz.f4) 0)]) (by kernel_rfl) (.one (by kernel_rfl) h0 trivial)) (s4 r12 r7 r11 r9 r10 r5 L4_0)
end Go.Proofs.YtcbdldlphpjmbaaGreatDoor.Plain
