/- Plain functions that the program's functions answer as; their contracts. Printed by a program of the proofs' writer. No condition. -/
import Derived.Test.YtleidaafbhojfaaGreatDoorX
import Derived.KernelRfl
import Derived.Test.YtleidaafbhojfaaGreatDoorFn1
set_option linter.unusedVariables false
set_option linter.unusedSimpArgs false
set_option maxRecDepth 100000
namespace Go.Proofs.YtleidaafbhojfaaGreatDoor.Plain
open Go Go.Tev
abbrev i136:Ts:=[.p q23]
abbrev o136:Ts:=[.a q11]
abbrev F136:=FT i136 o136
abbrev g136:=mkG 136 i136 o136
abbrev lc136_0:Ts:=[]
abbrev lb136_0:Ts:=[.p q23]
abbrev lv136_0:Ts:=[.v (.sl true .i), .v (.int .i64)]
abbrev lr136_0:Ts:=[]
abbrev R136_0:=Option (Sum (PTup lv136_0) (PTup lr136_0)×BTup lb136_0)
abbrev B136_0:=PTup lb136_0→PTup lv136_0→R136_0
abbrev A136_0:=PTup lc136_0→B136_0
noncomputable def w136_0 (c208:F208) (c137:F137) (c209:F209) (again:B136_0) (x:PTup lc136_0) (y:PTup lb136_0) (z:PTup lv136_0):R136_0:=
  (c137 (y.1,((4:Int),()))).bind fun r0=>
  bif (ltI z.2.1 r0.1.1)then ((c137 ((y.1.1,r0.2.1.2),((256:Int),()))).bind fun r1=>
   bif (leN ((List.length z.1)+(List.length (r1.1.1::[]))) (E.most .i))then (again ((y.1.1,r1.2.1.2),()) ((z.1++(r1.1.1::[])),((wI (z.2.1+1)),())))
   else none)
  else some ((Sum.inl z),((y.1.1,r0.2.1.2),()))
noncomputable def e136_0 (l:A136_0):ZC:=⟨[],lc136_0,[0],lb136_0,[3,4],lv136_0,[],lr136_0,0,[],l⟩
noncomputable def m136 (c208:F208) (c137:F137) (c209:F209) (l0:A136_0) (y:PTup i136):Option (PTup o136×BTup i136):=
  (l0 () (y.1,()) ([],((0:Int),()))).bind fun r0=>
  Zu r0.1 (fun r1=>(c209 ((y.1.1,r0.2.1.2),())).bind fun r2=>
   (c137 ((y.1.1,r2.2.1.2),((5:Int),()))).bind fun r3=>
   (c208 (r2.1.1,(r1.1,((wI ((1:Int)+r3.1.1)),())))).bind fun r4=>
   some ((r4.1.1,()),((y.1.1,r3.2.1.2),())))
  (fun r1=>some ((([],([],([],((0:Int),((0:Int),((0:Int),((0:Int),((0:Int),(false,(false,(false,(false,(false,((0:Int),((0:Int),(false,((0:Int),(false,((0:Int),((0:Int),([],((0:Int),((0:Int),((0:Int),((0:Int),((0:Int),(false,([],([],((0:Int),([],([],((0:Int),((0:Int),((0:Int),((0:Int),((0:Int),(false,(false,((0:Int),([],([],())))))))))))))))))))))))))))))))))))))))))),()),((y.1.1,r0.2.1.2),())))
noncomputable def E136 (c208:F208) (c137:F137) (c209:F209) (l0:A136_0):Zy:=⟨⟨Tryz.prog,Z0 [g208 c208,g137 c137,g209 c209]⟩,Qc [(3,e136_0 l0)]⟩
theorem t136_0 (c208:F208) (c137:F137) (c209:F209) (l0:A136_0) (again) (x y z):ZT (E136 c208 c137 c209 l0) (Zg (Zh Tryz.f136) 0) (e136_0 l0) Tryz.f136.ntmps again x y z=w136_0 c208 c137 c209 again x y z:=by kernel_rfl
noncomputable def n136_0 (c208:F208) (c137:F137) (c209:F209):Nat→A136_0
  |0,_,_,_=>none
  |n+1,x,y,z=>w136_0 c208 c137 c209 (fun y z=>n136_0 c208 c137 c209 n x y z) x y z
theorem s136 (c208:F208) (c137:F137) (c209:F209) (l0:A136_0) (y):Z4 (E136 c208 c137 c209 l0) Tryz.f136 i136 o136 y=m136 c208 c137 c209 l0 y:=by kernel_rfl
noncomputable def L136_0:A136_0:=n136_0 r208 r137 r209 fuel
noncomputable def r136:F136:=m136 r208 r137 r209 L136_0
theorem k136:KO (g136 r136):=by
  have hE: ∀g f,(E136 r208 r137 r209 L136_0).env.fns g=some f→Zr Tryz.prog g f:=Qb ⟨k208,k137,k209,⟨⟩⟩
  have h0:ZN Tryz.prog Tryz.f136.ntmps (Zg (Zh Tryz.f136) 0) (e136_0 L136_0):=Z1 (E:=E136 r208 r137 r209 L136_0) rfl hE mixed (Zn.of_list (l:=[]) (by kernel_rfl) trivial) (n136_0 r208 r137 r209) (fun _ _ _=>rfl) (fun n x y z=>t136_0 r208 r137 r209 L136_0 _ x y z) rfl
  exact Qh (E:=E136 r208 r137 r209 L136_0) rfl hE mixed (by kernel_rfl) (by kernel_rfl) (Zn.of_list (l:=[(Zg (Zh Tryz.f136) 0)]) (by kernel_rfl) (.one (by kernel_rfl) h0 trivial)) (s136 r208 r137 r209 L136_0)
abbrev i135:Ts:=[.p q23, .a q11, .v (.int .i64)]
abbrev o135:Ts:=[.a q11]
abbrev F135:=FT i135 o135
abbrev g135:=mkG 135 i135 o135
abbrev lc135_0:Ts:=[.v (.int .i64), .v (.int .i64)]
abbrev lb135_0:Ts:=[.p q11]
abbrev lv135_0:Ts:=[.v (.int .i64)]
abbrev lr135_0:Ts:=[]
abbrev R135_0:=Option (Sum (PTup lv135_0) (PTup lr135_0)×BTup lb135_0)
abbrev B135_0:=PTup lb135_0→PTup lv135_0→R135_0
abbrev A135_0:=PTup lc135_0→B135_0
noncomputable def w135_0 (c25:F25) (c137:F137) (again:B135_0) (x:PTup lc135_0) (y:PTup lb135_0) (z:PTup lv135_0):R135_0:=
  bif (ltI z.1 x.1)then ((c25 (y.1,x.2)).bind fun r0=>
   again (r0.1.1,()) ((wI (z.1+1)),()))
  else some ((Sum.inl z),(y.1,()))
noncomputable def e135_0 (l:A135_0):ZC:=⟨[9,10],lc135_0,[4],lb135_0,[11],lv135_0,[],lr135_0,2,[],l⟩
abbrev lc135_1:Ts:=[.v (.int .i64)]
abbrev lb135_1:Ts:=[.p q23, .p q11]
abbrev lv135_1:Ts:=[.v (.int .i64)]
abbrev lr135_1:Ts:=[]
abbrev R135_1:=Option (Sum (PTup lv135_1) (PTup lr135_1)×BTup lb135_1)
abbrev B135_1:=PTup lb135_1→PTup lv135_1→R135_1
abbrev A135_1:=PTup lc135_1→B135_1
noncomputable def w135_1 (c25:F25) (c137:F137) (l0:A135_0) (again:B135_1) (x:PTup lc135_1) (y:PTup lb135_1) (z:PTup lv135_1):R135_1:=
  bif (ltI z.1 x.1)then ((c137 (y.1,((12:Int),()))).bind fun r0=>
   (c137 ((y.1.1,r0.2.1.2),((3:Int),()))).bind fun r1=>
   (l0 ((wI ((1:Int)+r0.1.1)),r1.1) (y.2.1,()) ((0:Int),())).bind fun r2=>
   Zu r2.1 (fun r3=>again ((y.1.1,r1.2.1.2),(r2.2.1,())) ((wI (z.1+1)),()))
   (fun r3=>some ((Sum.inr ()),((y.1.1,r1.2.1.2),(r2.2.1,())))))
  else some ((Sum.inl z),(y.1,(y.2.1,())))
noncomputable def e135_1 (l:A135_1):ZC:=⟨[7],lc135_1,[0,4],lb135_1,[8],lv135_1,[],lr135_1,0,[],l⟩
noncomputable def m135 (c25:F25) (c137:F137) (l0:A135_0) (l1:A135_1) (y:PTup i135):Option (PTup o135×BTup i135):=
  (c137 (y.1,((wI (y.2.2.1+1)),()))).bind fun r0=>
  (l1 r0.1 ((y.1.1,r0.2.1.2),(y.2.1,())) ((0:Int),())).bind fun r1=>
  Zu r1.1 (fun r2=>some ((r1.2.2.1,()),((y.1.1,r1.2.1.2),())))
  (fun r2=>some ((([],([],([],((0:Int),((0:Int),((0:Int),((0:Int),((0:Int),(false,(false,(false,(false,(false,((0:Int),((0:Int),(false,((0:Int),(false,((0:Int),((0:Int),([],((0:Int),((0:Int),((0:Int),((0:Int),((0:Int),(false,([],([],((0:Int),([],([],((0:Int),((0:Int),((0:Int),((0:Int),((0:Int),(false,(false,((0:Int),([],([],())))))))))))))))))))))))))))))))))))))))))),()),((y.1.1,r1.2.1.2),())))
noncomputable def E135 (c25:F25) (c137:F137) (l0:A135_0) (l1:A135_1):Zy:=⟨⟨Tryz.prog,Z0 [g25 c25,g137 c137]⟩,Qc [(8,e135_0 l0),(3,e135_1 l1)]⟩
theorem t135_0 (c25:F25) (c137:F137) (l0:A135_0) (l1:A135_1) (again) (x y z):ZT (E135 c25 c137 l0 l1) (Zg (Zg (Zh Tryz.f135) 0) 0) (e135_0 l0) Tryz.f135.ntmps again x y z=w135_0 c25 c137 again x y z:=by kernel_rfl
noncomputable def n135_0 (c25:F25) (c137:F137):Nat→A135_0
  |0,_,_,_=>none
  |n+1,x,y,z=>w135_0 c25 c137 (fun y z=>n135_0 c25 c137 n x y z) x y z
theorem t135_1 (c25:F25) (c137:F137) (l0:A135_0) (l1:A135_1) (again) (x y z):ZT (E135 c25 c137 l0 l1) (Zg (Zh Tryz.f135) 0) (e135_1 l1) Tryz.f135.ntmps again x y z=w135_1 c25 c137 l0 again x y z:=by kernel_rfl
noncomputable def n135_1 (c25:F25) (c137:F137) (l0:A135_0):Nat→A135_1
  |0,_,_,_=>none
  |n+1,x,y,z=>w135_1 c25 c137 l0 (fun y z=>n135_1 c25 c137 l0 n x y z) x y z
theorem s135 (c25:F25) (c137:F137) (l0:A135_0) (l1:A135_1) (y):Z4 (E135 c25 c137 l0 l1) Tryz.f135 i135 o135 y=m135 c25 c137 l0 l1 y:=by kernel_rfl
noncomputable def L135_0:A135_0:=n135_0 r25 r137 fuel
noncomputable def L135_1:A135_1:=n135_1 r25 r137 L135_0 fuel
noncomputable def r135:F135:=m135 r25 r137 L135_0 L135_1
theorem k135:KO (g135 r135):=by
  have hE: ∀g f,(E135 r25 r137 L135_0 L135_1).env.fns g=some f→Zr Tryz.prog g f:=Qb ⟨k25,k137,⟨⟩⟩
  have h0:ZN Tryz.prog Tryz.f135.ntmps (Zg (Zg (Zh Tryz.f135) 0) 0) (e135_0 L135_0):=Z1 (E:=E135 r25 r137 L135_0 L135_1) rfl hE mixed (Zn.of_list (l:=[]) (by kernel_rfl) trivial) (n135_0 r25 r137) (fun _ _ _=>rfl) (fun n x y z=>t135_0 r25 r137 L135_0 L135_1 _ x y z) rfl
  have h1:ZN Tryz.prog Tryz.f135.ntmps (Zg (Zh Tryz.f135) 0) (e135_1 L135_1):=Z1 (E:=E135 r25 r137 L135_0 L135_1) rfl hE mixed (Zn.of_list (l:=[(Zg (Zg (Zh Tryz.f135) 0) 0)]) (by kernel_rfl) (.one (by kernel_rfl) h0 trivial)) (n135_1 r25 r137 L135_0) (fun _ _ _=>rfl) (fun n x y z=>t135_1 r25 r137 L135_0 L135_1 _ x y z) rfl
  exact Qh (E:=E135 r25 r137 L135_0 L135_1) rfl hE mixed (by kernel_rfl) (by kernel_rfl) (Zn.of_list (l:=[(Zg (Zh Tryz.f135) 0)]) (by kernel_rfl) (.one (by kernel_rfl) h1 trivial)) (s135 r25 r137 L135_0 L135_1)
abbrev i211:Ts:=[.p q23]
abbrev o211:Ts:=[.a q12]
abbrev F211:=FT i211 o211
abbrev g211:=mkG 211 i211 o211
noncomputable def m211 (c279:F279) (c137:F137) (c138:F138) (y:PTup i211):Option (PTup o211×BTup i211):=
  (c137 (y.1,((256:Int),()))).bind fun r0=>
  (c137 ((y.1.1,r0.2.1.2),((256:Int),()))).bind fun r1=>
  (c138 ((y.1.1,r1.2.1.2),(((0:Int)::((1:Int)::((2:Int)::((255:Int)::((254:Int)::((128:Int)::[])))))),()))).bind fun r2=>
  (c138 ((y.1.1,r2.2.1.2),(((0:Int)::((49152:Int)::((49200:Int)::((65535:Int)::((65534:Int)::((32768:Int)::((8192:Int)::((511:Int)::[])))))))),()))).bind fun r3=>
  (c137 ((y.1.1,r3.2.1.2),((256:Int),()))).bind fun r4=>
  (c279 ((r0.1.1,(r1.1.1,(r2.1.1,(r3.1.1,(false,(false,(false,(false,())))))))),r4.1)).bind fun r5=>
  some ((r5.1.1,()),((y.1.1,r4.2.1.2),()))
theorem s211 (c279:F279) (c137:F137) (c138:F138) (y):TE [g279 c279,g137 c137,g138 c138] Tryz.f211 i211 o211 y=m211 c279 c137 c138 y:=by kernel_rfl
noncomputable def r211:F211:=m211 r279 r137 r138
theorem k211:KO (g211 r211):=fk (s211 r279 r137 r138) ⟨k279,k137,k138,⟨⟩⟩ (by kernel_rfl)
abbrev i212:Ts:=[.p q23]
abbrev o212:Ts:=[.v (.int .i64)]
abbrev F212:=FT i212 o212
abbrev g212:=mkG 212 i212 o212
noncomputable def m212 (c137:F137) (c276:F276) (c138:F138) (y:PTup i212):Option (PTup o212×BTup i212):=
  (c276 (y.1,((9:Int),()))).bind fun r0=>
  bif r0.1.1 then ((c138 ((y.1.1,r0.2.1.2),(((-(1:Int))::((256:Int)::((65535:Int)::((65536:Int)::((9223372036854775807:Int)::((-(9223372036854775808:Int))::((511:Int)::[]))))))),()))).bind fun r1=>
   some (r1.1,((y.1.1,r1.2.1.2),())))
  else (c137 ((y.1.1,r0.2.1.2),((256:Int),()))).bind fun r1=>
  some (r1.1,((y.1.1,r1.2.1.2),()))
theorem s212 (c137:F137) (c276:F276) (c138:F138) (y):TE [g137 c137,g276 c276,g138 c138] Tryz.f212 i212 o212 y=m212 c137 c276 c138 y:=by kernel_rfl
noncomputable def r212:F212:=m212 r137 r276 r138
theorem k212:KO (g212 r212):=fk (s212 r137 r276 r138) ⟨k137,k276,k138,⟨⟩⟩ (by kernel_rfl)
abbrev i139:Ts:=[.p q23]
abbrev o139:Ts:=[.a q12]
abbrev F139:=FT i139 o139
abbrev g139:=mkG 139 i139 o139
noncomputable def m139 (c137:F137) (c212:F212) (c138:F138) (c211:F211) (y:PTup i139):Option (PTup o139×BTup i139):=
  (c211 (y.1,())).bind fun r0=>
  (c137 ((y.1.1,r0.2.1.2),((25:Int),()))).bind fun r1=>
  bif (eqI r1.1.1 0)then ((c212 ((y.1.1,r1.2.1.2),())).bind fun r2=>
   some (((r2.1.1,r0.1.1.2),()),((y.1.1,r2.2.1.2),())))
  else bif (eqI r1.1.1 1)then ((c212 ((y.1.1,r1.2.1.2),())).bind fun r2=>
   some (((r0.1.1.1,(r2.1.1,r0.1.1.2.2)),()),((y.1.1,r2.2.1.2),())))
  else bif (eqI r1.1.1 2)then ((c212 ((y.1.1,r1.2.1.2),())).bind fun r2=>
   some (((r0.1.1.1,(r0.1.1.2.1,(r2.1.1,r0.1.1.2.2.2))),()),((y.1.1,r2.2.1.2),())))
  else bif (eqI r1.1.1 3)then ((c138 ((y.1.1,r1.2.1.2),(((-(1:Int))::((65536:Int)::[])),()))).bind fun r2=>
   some (((r0.1.1.1,(r0.1.1.2.1,(r0.1.1.2.2.1,(r2.1.1,r0.1.1.2.2.2.2)))),()),((y.1.1,r2.2.1.2),())))
  else some ((r0.1.1,()),((y.1.1,r1.2.1.2),()))
theorem s139 (c137:F137) (c212:F212) (c138:F138) (c211:F211) (y):TE [g137 c137,g212 c212,g138 c138,g211 c211] Tryz.f139 i139 o139 y=m139 c137 c212 c138 c211 y:=by kernel_rfl
noncomputable def r139:F139:=m139 r137 r212 r138 r211
theorem k139:KO (g139 r139):=fk (s139 r137 r212 r138 r211) ⟨k137,k212,k138,k211,⟨⟩⟩ (by kernel_rfl)
abbrev i64:Ts:=[.p q23]
abbrev o64:Ts:=[.a q11]
abbrev F64:=FT i64 o64
abbrev g64:=mkG 64 i64 o64
noncomputable def m64 (c136:F136) (c135:F135) (c137:F137) (c138:F138) (c139:F139) (y:PTup i64):Option (PTup o64×BTup i64):=
  (c136 (y.1,())).bind fun r0=>
  (c135 ((y.1.1,r0.2.1.2),(r0.1.1,((60:Int),())))).bind fun r1=>
  (c137 ((y.1.1,r1.2.1.2),((30:Int),()))).bind fun r2=>
  bif (eqI r2.1.1 0)then ((c138 ((y.1.1,r2.2.1.2),(((-(1:Int))::((0:Int)::((wI (r1.1.1.2.2.2.2.2.2.2.2.2.2.2.2.2.2.1+3))::((20000:Int)::((19997:Int)::[]))))),()))).bind fun r3=>some (((m2 (m2 (m2 (m2 (m2 (m2 (m2 (m2 (m2 (m2 (m2 (m2 (m2 (m2 (fun p=>(r3.1.1,p.2))))))))))))))) r1.1.1),()),((y.1.1,r3.2.1.2),())))
  else bif (eqI r2.1.1 1)then ((c137 ((y.1.1,r2.2.1.2),((99:Int),()))).bind fun r3=>some (((m2 (m2 (m2 (m2 (m2 (m2 (m2 (m2 (m2 (m2 (m2 (m2 (m2 (m2 (m2 (m2 (m2 (m2 (fun p=>(wI (r3.1.1-1),p.2))))))))))))))))))) r1.1.1),()),((y.1.1,r3.2.1.2),())))
  else bif (eqI r2.1.1 2)then (some (((m2 (m2 (m2 (m2 (m2 (m2 (m2 (m2 (m2 (m2 (m2 (m2 (m2 (m2 (m2 (fun p=>(!p.1,p.2)))))))))))))))) r1.1.1),()),((y.1.1,r2.2.1.2),())))
  else bif (eqI r2.1.1 3)then (some (((m2 (m2 (m2 (m2 (m2 (m2 (m2 (m2 (m2 (m2 (m2 (m2 (m2 (m2 (m2 (m2 (m2 (fun p=>(!p.1,p.2)))))))))))))))))) r1.1.1),()),((y.1.1,r2.2.1.2),())))
  else bif (eqI r2.1.1 4)then ((c139 ((y.1.1,r2.2.1.2),())).bind fun r3=>some (((m2 (m2 (m2 (m2 (Zrw r3.1.1)))) r1.1.1),()),((y.1.1,r3.2.1.2),())))
  else bif (eqI r2.1.1 5)then ((c137 ((y.1.1,r2.2.1.2),((2:Int),()))).bind fun r3=>bif (leN ((List.length r1.1.1.2.2.2.2.2.2.2.2.2.2.2.2.2.2.2.2.2.2.2.2.2.2.2.2.2.2.2.2.2.2.2.2.2.2.2.2.2.2.2.2.1)+(List.length [(wI (r1.1.1.2.2.2.2.2.2.2.2.2.2.2.2.2.2.1+r3.1.1),((0:Int),(0:Int)))])) (E.most .t))then (some (((m2 (m2 (m2 (m2 (m2 (m2 (m2 (m2 (m2 (m2 (m2 (m2 (m2 (m2 (m2 (m2 (m2 (m2 (m2 (m2 (m2 (m2 (m2 (m2 (m2 (m2 (m2 (m2 (m2 (m2 (m2 (m2 (m2 (m2 (m2 (m2 (m2 (m2 (m2 (m2 (fun p=>(p.1++[(wI (r1.1.1.2.2.2.2.2.2.2.2.2.2.2.2.2.2.1+r3.1.1),((0:Int),(0:Int)))],p.2))))))))))))))))))))))))))))))))))))))))) r1.1.1),()),((y.1.1,r3.2.1.2),())))else none)
  else bif (eqI r2.1.1 6)then ((c138 ((y.1.1,r2.2.1.2),(((0:Int)::((128:Int)::((256:Int)::[]))),()))).bind fun r3=>some (((m2 (m2 (m2 (m2 (m2 (m2 (m2 (m2 (m2 (m2 (m2 (m2 (m2 (m2 (m2 (m2 (fun p=>(r3.1.1,p.2))))))))))))))))) r1.1.1),()),((y.1.1,r3.2.1.2),())))
  else some ((r1.1.1,()),((y.1.1,r2.2.1.2),()))
theorem s64 (c136:F136) (c135:F135) (c137:F137) (c138:F138) (c139:F139) (y):TE [g136 c136,g135 c135,g137 c137,g138 c138,g139 c139] Tryz.f64 i64 o64 y=m64 c136 c135 c137 c138 c139 y:=by kernel_rfl
noncomputable def r64:F64:=m64 r136 r135 r137 r138 r139
theorem k64:KO (g64 r64):=fk (s64 r136 r135 r137 r138 r139) ⟨k136,k135,k137,k138,k139,⟨⟩⟩ (by kernel_rfl)
abbrev i65:Ts:=[.p q23]
abbrev o65:Ts:=[.v (.str)]
abbrev F65:=FT i65 o65
abbrev g65:=mkG 65 i65 o65
noncomputable def m65 (c140:F140) (y:PTup i65):Option (PTup o65×BTup i65):=
  (c140 (y.1,(((bz [99,112,117])::((bz [99,112,117])::((bz [112,105,99,116,117,114,101])::((bz [115,111,117,110,100])::((bz [108,101,118,101,108])::((bz [102,97,105,114,32,51])::((bz [102,97,105,114,32,49,50])::((bz [119,97,105,116])::((bz [115,104,111,119])::((bz [102,114,97,109,101,115])::((bz [115,97,109,112,108,101,115])::((bz [106,117,100,103,101])::((bz [])::((bz [59])::((bz [102,97,105,114])::((bz [102,97,105,114,32,48,51])::((bz [104,101,108,112])::((bz [102,97,105,114,32,49,48,48,48])::[])))))))))))))))))),()))).bind fun r0=>
  some (r0.1,((y.1.1,r0.2.1.2),()))
theorem s65 (c140:F140) (y):TE [g140 c140] Tryz.f65 i65 o65 y=m65 c140 y:=by kernel_rfl
noncomputable def r65:F65:=m65 r140
theorem k65:KO (g65 r65):=fk (s65 r140) ⟨k140,⟨⟩⟩ (by kernel_rfl)
abbrev i13:Ts:=[.v (.sl false .b)]
abbrev o13:Ts:=[.a q11, .v (.str)]
abbrev F13:=FT i13 o13
abbrev g13:=mkG 13 i13 o13
noncomputable def m13 (c64:F64) (c63:F63) (c65:F65) (y:PTup i13):Option (PTup o13×BTup i13):=
  (c63 y).bind fun r0=>
  (c64 (r0.1.1,())).bind fun r1=>
  (c65 ((r0.1.1.1,r1.2.1.2),())).bind fun r2=>
  some ((r1.1.1,r2.1),())
theorem s13 (c64:F64) (c63:F63) (c65:F65) (y):TE [g64 c64,g63 c63,g65 c65] Tryz.f13 i13 o13 y=m13 c64 c63 c65 y:=by kernel_rfl
noncomputable def r13:F13:=m13 r64 r63 r65
theorem k13:KO (g13 r13):=fk (s13 r64 r63 r65) ⟨k64,k63,k65,⟨⟩⟩ (by kernel_rfl)
abbrev i66:Ts:=[.v (.sl false .i), .v (.sl false .i)]
abbrev o66:Ts:=[.v (.bool)]
abbrev F66:=FT i66 o66
abbrev g66:=mkG 66 i66 o66
abbrev lc66_0:Ts:=[.v (.sl false .i), .v (.sl false .i)]
abbrev lb66_0:Ts:=[]
abbrev lv66_0:Ts:=[.v (.int .i64)]
abbrev lr66_0:Ts:=[.v (.bool)]
abbrev R66_0:=Option (Sum (PTup lv66_0) (PTup lr66_0)×BTup lb66_0)
abbrev B66_0:=PTup lb66_0→PTup lv66_0→R66_0
abbrev A66_0:=PTup lc66_0→B66_0
noncomputable def w66_0 (again:B66_0) (x:PTup lc66_0) (y:PTup lb66_0) (z:PTup lv66_0):R66_0:=
  bif (ltI z.1 (Zb x.1))then (bif (leI 0 z.1)then (bif (ltI z.1 (Zb x.1))then (bif (leI 0 z.1)then (bif (ltI z.1 (Zb x.2.1))then (bif (neI (rdE .i x.1 z.1) (rdE .i x.2.1 z.1))then (some ((Sum.inr (false,())),()))
       else again () ((wI (z.1+1)),()))
      else none)
     else none)
    else none)
   else none)
  else some ((Sum.inl z),())
noncomputable def e66_0 (l:A66_0):ZC:=⟨[0,1],lc66_0,[],lb66_0,[5],lv66_0,[4],lr66_0,0,[],l⟩
noncomputable def m66 (l0:A66_0) (y:PTup i66):Option (PTup o66×BTup i66):=
  bif (neI (Zb y.1) (Zb y.2.1))then no
  else (l0 y () ((0:Int),())).bind fun r0=>
  Zu r0.1 (fun r1=>some ((true,()),()))
  (fun r1=>some (r1,()))
noncomputable def E66 (l0:A66_0):Zy:=⟨⟨Tryz.prog,Z0 []⟩,Qc [(4,e66_0 l0)]⟩
theorem t66_0 (l0:A66_0) (again) (x y z):ZT (E66 l0) (Zg (Zh Tryz.f66) 0) (e66_0 l0) Tryz.f66.ntmps again x y z=w66_0 again x y z:=by kernel_rfl
noncomputable def n66_0:Nat→A66_0
  |0,_,_,_=>none
  |n+1,x,y,z=>w66_0 (fun y z=>n66_0 n x y z) x y z
theorem s66 (l0:A66_0) (y):Z4 (E66 l0) Tryz.f66 i66 o66 y=m66 l0 y:=by kernel_rfl
noncomputable def L66_0:A66_0:=n66_0 fuel
noncomputable def r66:F66:=m66 L66_0
theorem k66:KO (g66 r66):=by
  have hE: ∀g f,(E66 L66_0).env.fns g=some f→Zr Tryz.prog g f:=Qb trivial
  have h0:ZN Tryz.prog Tryz.f66.ntmps (Zg (Zh Tryz.f66) 0) (e66_0 L66_0):=Z1 (E:=E66 L66_0) rfl hE mixed (Zn.of_list (l:=[]) (by kernel_rfl) trivial) (n66_0) (fun _ _ _=>rfl) (fun n x y z=>t66_0 L66_0 _ x y z) rfl
  exact Qh (E:=E66 L66_0) rfl hE mixed (by kernel_rfl) (by kernel_rfl) (Zn.of_list (l:=[(Zg (Zh Tryz.f66) 0)]) (by kernel_rfl) (.one (by kernel_rfl) h0 trivial)) (s66 L66_0)
abbrev i67:Ts:=[.a q3, .a q3]
abbrev o67:Ts:=[.v (.bool)]
abbrev F67:=FT i67 o67
abbrev g67:=mkG 67 i67 o67
noncomputable def m67 (c66:F66) (y:PTup i67):Option (PTup o67×BTup i67):=
  bif (eqI y.1.1 y.2.1.1)then (bif (eqI y.1.2.1 y.2.1.2.1)then (bif (eqI y.1.2.2.1 y.2.1.2.2.1)then (bif (eqI y.1.2.2.2.1 y.2.1.2.2.2.1)then (bif (eqI y.1.2.2.2.2.1 y.2.1.2.2.2.2.1)then (bif (y.1.2.2.2.2.2.1==y.2.1.2.2.2.2.2.1)then ((c66 (y.1.2.2.2.2.2.2.1,(y.2.1.2.2.2.2.2.2.1,()))).bind fun r0=>
        bif r0.1.1 then ((c66 (y.1.2.2.2.2.2.2.2.1,y.2.1.2.2.2.2.2.2.2)).bind fun r1=>
         some (r1.1,()))
        else no)
       else no)
      else no)
     else no)
    else no)
   else no)
  else no
theorem s67 (c66:F66) (y):TE [g66 c66] Tryz.f67 i67 o67 y=m67 c66 y:=by kernel_rfl
noncomputable def r67:F67:=m67 r66
theorem k67:KO (g67 r67):=fk (s67 r66) ⟨k66,⟨⟩⟩ (by kernel_rfl)
abbrev i68:Ts:=[.v (.sl false .t), .v (.sl false .t)]
abbrev o68:Ts:=[.v (.bool)]
abbrev F68:=FT i68 o68
abbrev g68:=mkG 68 i68 o68
abbrev lc68_0:Ts:=[.v (.sl false .t), .v (.sl false .t)]
abbrev lb68_0:Ts:=[]
abbrev lv68_0:Ts:=[.v (.int .i64)]
abbrev lr68_0:Ts:=[.v (.bool)]
abbrev R68_0:=Option (Sum (PTup lv68_0) (PTup lr68_0)×BTup lb68_0)
abbrev B68_0:=PTup lb68_0→PTup lv68_0→R68_0
abbrev A68_0:=PTup lc68_0→B68_0
noncomputable def w68_0 (again:B68_0) (x:PTup lc68_0) (y:PTup lb68_0) (z:PTup lv68_0):R68_0:=
  bif (ltI z.1 (Zb x.1))then (bif (leI 0 z.1)then (bif (ltI z.1 (Zb x.1))then (bif (leI 0 z.1)then (bif (ltI z.1 (Zb x.2.1))then (bif (!((eqI (rdE .t x.1 z.1).1 (rdE .t x.2.1 z.1).1)&&((eqI (rdE .t x.1 z.1).2.1 (rdE .t x.2.1 z.1).2.1)&&((eqI (rdE .t x.1 z.1).2.2 (rdE .t x.2.1 z.1).2.2)&&true))))then (some ((Sum.inr (false,())),()))
       else again () ((wI (z.1+1)),()))
      else none)
     else none)
    else none)
   else none)
  else some ((Sum.inl z),())
noncomputable def e68_0 (l:A68_0):ZC:=⟨[0,1],lc68_0,[],lb68_0,[5],lv68_0,[4],lr68_0,0,[],l⟩
noncomputable def m68 (l0:A68_0) (y:PTup i68):Option (PTup o68×BTup i68):=
  bif (neI (Zb y.1) (Zb y.2.1))then no
  else (l0 y () ((0:Int),())).bind fun r0=>
  Zu r0.1 (fun r1=>some ((true,()),()))
  (fun r1=>some (r1,()))
noncomputable def E68 (l0:A68_0):Zy:=⟨⟨Tryz.prog,Z0 []⟩,Qc [(4,e68_0 l0)]⟩
theorem t68_0 (l0:A68_0) (again) (x y z):ZT (E68 l0) (Zg (Zh Tryz.f68) 0) (e68_0 l0) Tryz.f68.ntmps again x y z=w68_0 again x y z:=by kernel_rfl
noncomputable def n68_0:Nat→A68_0
  |0,_,_,_=>none
  |n+1,x,y,z=>w68_0 (fun y z=>n68_0 n x y z) x y z
theorem s68 (l0:A68_0) (y):Z4 (E68 l0) Tryz.f68 i68 o68 y=m68 l0 y:=by kernel_rfl
noncomputable def L68_0:A68_0:=n68_0 fuel
noncomputable def r68:F68:=m68 L68_0
theorem k68:KO (g68 r68):=by
  have hE: ∀g f,(E68 L68_0).env.fns g=some f→Zr Tryz.prog g f:=Qb trivial
  have h0:ZN Tryz.prog Tryz.f68.ntmps (Zg (Zh Tryz.f68) 0) (e68_0 L68_0):=Z1 (E:=E68 L68_0) rfl hE mixed (Zn.of_list (l:=[]) (by kernel_rfl) trivial) (n68_0) (fun _ _ _=>rfl) (fun n x y z=>t68_0 L68_0 _ x y z) rfl
  exact Qh (E:=E68 L68_0) rfl hE mixed (by kernel_rfl) (by kernel_rfl) (Zn.of_list (l:=[(Zg (Zh Tryz.f68) 0)]) (by kernel_rfl) (.one (by kernel_rfl) h0 trivial)) (s68 L68_0)
abbrev i14:Ts:=[.a q10, .a q10]
abbrev o14:Ts:=[.v (.bool)]
abbrev F14:=FT i14 o14
abbrev g14:=mkG 14 i14 o14
noncomputable def m14 (c66:F66) (c67:F67) (c68:F68) (y:PTup i14):Option (PTup o14×BTup i14):=
  let a0:=y.1;let a1:=y.2;let a2:=a0.2;let a3:=a1.1;let a4:=a2.2;let a5:=a3.2;let a6:=a4.2;let a7:=a5.2;let a8:=a6.2;let a9:=a7.2;let a10:=a8.2;let a11:=a9.2;let a12:=a10.2;let a13:=a11.2;let a14:=a12.2;let a15:=a13.2;let a16:=a14.2;let a17:=a15.2;let a18:=a16.2;let a19:=a17.2;let a20:=a18.2;let a21:=a19.2;let a22:=a20.2;let a23:=a21.2;let a24:=a22.2;let a25:=a23.2;let a26:=a24.2;let a27:=a25.2;let a28:=a26.2;let a29:=a27.2;let a30:=a28.2;let a31:=a29.2;let a32:=a30.2;let a33:=a31.2;let a34:=a32.2;let a35:=a33.2;let a36:=a34.2;let a37:=a35.2;let a38:=a36.2;let a39:=a37.2;let a40:=a38.2;let a41:=a39.2;let a42:=a40.2;let a43:=a41.2;let a44:=a42.2;let a45:=a43.2;let a46:=a44.2;let a47:=a45.2;let a48:=a46.2;let a49:=a47.2;let a50:=a48.2;let a51:=a49.2;let a52:=a50.2;let a53:=a51.2;let a54:=a52.2;let a55:=a53.2;let a56:=a54.2;let a57:=a55.2;let a58:=a56.2;let a59:=a57.2;let a60:=a58.2;let a61:=a59.2;let a62:=a60.2;let a63:=a61.2;let a64:=a63.2;let a65:=a62.2.2;let a66:=a64.2.2;let a67:=a65.2.2;let a68:=a66.2.2;bif (!((eqI a8.1 a11.1)&&((eqI a10.1 a13.1)&&((eqI a12.1 a15.1)&&((eqI a14.1 a17.1)&&((a16.1==a19.1)&&((a18.1==a21.1)&&((a20.1==a23.1)&&((a22.1==a25.1)&&true)))))))))then no
  else (c66 (a4.1,(a7.1,()))).bind fun r0=>
  bif (!r0.1.1)then no
  else bif (neI a6.1 a9.1)then no
  else bif (!((a24.1==a27.1)&&((eqI a26.1 a29.1)&&true)))then no
  else bif (neI a28.1 a31.1)then no
  else bif (!(a30.1==a33.1))then no
  else bif (neI a32.1 a35.1)then no
  else bif (!(a34.1==a37.1))then no
  else bif (neI a36.1 a39.1)then no
  else bif (neI a38.1 a41.1)then no
  else (c66 (a40.1,(a43.1,()))).bind fun r1=>
  bif (!r1.1.1)then no
  else (c67 ((a42.1,(a44.1,(a46.1,(a48.1,(a50.1,(a52.1,(a54.1,(a56.1,())))))))),((a45.1,(a47.1,(a49.1,(a51.1,(a53.1,(a55.1,(a57.1,(a59.1,())))))))),()))).bind fun r2=>
  bif (!r2.1.1)then no
  else bif (!((eqI a62.2.1 a64.2.1)&&((eqI a65.1 a66.1)&&((eqI a65.2.1 a66.2.1)&&((eqI a67.1 a68.1)&&((eqI a67.2.1 a68.2.1)&&((a67.2.2.1==a68.2.2.1)&&((a67.2.2.2.1==a68.2.2.2.1)&&true))))))))then no
  else (c66 (a67.2.2.2.2.2.2.1,a68.2.2.2.2.2.2)).bind fun r3=>
  bif (!r3.1.1)then no
  else bif (neI (Zb a62.1) (Zb a64.1))then no
  else (c68 (a60.1,(a63.1,()))).bind fun r4=>
  bif r4.1.1 then ((c68 (a67.2.2.2.2.2.1,(a68.2.2.2.2.2.1,()))).bind fun r5=>
   bif r5.1.1 then (some (((eqI a58.1 a61.1),()),()))
   else no)
  else no
theorem s14 (c66:F66) (c67:F67) (c68:F68) (y):TE [g66 c66,g67 c67,g68 c68] Tryz.f14 i14 o14 y=m14 c66 c67 c68 y:=by kernel_rfl
noncomputable def r14:F14:=m14 r66 r67 r68
theorem k14:KO (g14 r14):=fk (s14 r66 r67 r68) ⟨k66,k67,k68,⟨⟩⟩ (by kernel_rfl)
abbrev i4:Ts:=[.v (.sl false .b)]
abbrev o4:Ts:=[.v (.bool)]
abbrev R4:=Option (PTup o4×BTup i4)
abbrev F4:=PTup i4→R4
abbrev g4:=mkG 4 i4 o4
noncomputable def m4 (c8:F8) (c16:F16) (c17:F17) (c12:F12) (c14:F14) (c6:F6) (c13:F13) (c15:F15) (y:PTup i4):R4:=
  (c12 y).bind fun r0=>bif r0.1.1 then (some ((true,()),()))else (c13 y).bind fun r1=>(c8 r1.1).bind fun r2=>let X0:R4:=(c14 (r1.1.1,(r2.1.1,()))).bind fun r6=>bif (!r6.1.1)then no else (c8 (r1.1.1,((bz [106,117,100,103,101]),()))).bind fun r7=>(c8 (r1.1.1,((bz [108,101,118,101,108]),()))).bind fun r8=>(c16 (r1.1.1,())).bind fun r9=>bif (((ByteArray.toList r7.1.2.1)==(ByteArray.toList (bz [121,101,115])))==r9.1.1)then (bif ((ByteArray.toList r8.1.2.1)==(ByteArray.toList (bz [111,107])))then ((c17 (r2.1.1,())).bind fun r10=>some (r10.1,()))else no)else no;(c6 r1.1).bind fun r3=>bif (! ((ByteArray.toList r2.1.2.1)==(ByteArray.toList r3.1.2.1)))then no else (c14 (r2.1.1,(r3.1.1,()))).bind fun r4=>bif (!r4.1.1)then no else (c15 (r1.1.1,())).bind fun r5=>bif (!r5.1.1)then (some ((((ByteArray.toList r2.1.2.1)==(ByteArray.toList (bz [98,97,100]))),()),()))else bif ((ByteArray.toList r2.1.2.1)==(ByteArray.toList (bz [110,111])))then X0 else bif ((ByteArray.toList r2.1.2.1)==(ByteArray.toList (bz [119,104,97,116])))then X0 else bif ((ByteArray.toList r2.1.2.1)==(ByteArray.toList (bz [])))then X0 else bif ((ByteArray.toList r1.1.2.1)==(ByteArray.toList (bz [119,97,105,116])))then X0 else bif ((ByteArray.toList r1.1.2.1)==(ByteArray.toList (bz [115,104,111,119])))then X0 else bif ((ByteArray.toList r1.1.2.1)==(ByteArray.toList (bz [106,117,100,103,101])))then X0 else (c8 (r1.1.1,((bz [106,117,100,103,101]),()))).bind fun r6=>(c8 (r1.1.1,((bz [108,101,118,101,108]),()))).bind fun r7=>(c16 (r1.1.1,())).bind fun r8=>bif (((ByteArray.toList r6.1.2.1)==(ByteArray.toList (bz [121,101,115])))==r8.1.1)then (bif ((ByteArray.toList r7.1.2.1)==(ByteArray.toList (bz [111,107])))then ((c17 (r2.1.1,())).bind fun r9=>some (r9.1,()))else no)else no
theorem s4 (c8:F8) (c16:F16) (c17:F17) (c12:F12) (c14:F14) (c6:F6) (c13:F13) (c15:F15) (y):TE [g8 c8,g16 c16,g17 c17,g12 c12,g14 c14,g6 c6,g13 c13,g15 c15] Tryz.f4 i4 o4 y=m4 c8 c16 c17 c12 c14 c6 c13 c15 y:=by kernel_rfl
noncomputable def r4:F4:=m4 r8 r16 r17 r12 r14 r6 r13 r15
theorem k4:KO (g4 r4):=fk (s4 r8 r16 r17 r12 r14 r6 r13 r15) ⟨k8,k16,k17,k12,k14,k6,k13,k15,⟨⟩⟩ (by kernel_rfl)
end Go.Proofs.YtleidaafbhojfaaGreatDoor.Plain
