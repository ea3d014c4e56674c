/- Plain functions that the program's functions answer as; their contracts. Printed by a program of the proofs' writer. No condition. -/
import Derived.Test.YtleidaafbhojfaaGreatDoorX
import Derived.KernelRfl
import Derived.Test.YtleidaafbhojfaaGreatDoorProg
set_option linter.unusedVariables false
set_option linter.unusedSimpArgs false
set_option maxRecDepth 100000
namespace Go.Proofs.YtleidaafbhojfaaGreatDoor.Plain
open Go Go.Tev
theorem mixed : Tryz.prog.follows .mixedOrders = true := by kernel_rfl
noncomputable abbrev mkE (l : List (Nat × Tev.Fn)) : Zy := ⟨⟨Tryz.prog, Z0 l⟩, Qc []⟩
abbrev FT (i o : List Ty) := PTup i → Option (PTup o × BTup i)
abbrev Ts := List Ty
abbrev bz (l : List UInt8) : ByteArray := ⟨⟨l⟩⟩
noncomputable abbrev TE (l : List (Nat × Tev.Fn)) (f : Func) (i o : List Ty) := Z4 (mkE l) f i o
abbrev no : Option ((Bool × Unit) × Unit) := some ((false, ()), ())
abbrev mkG (k : Nat) (i o : List Ty) (c : FT i o) : Nat × Tev.Fn := (k, ⟨i, o, c, .nor⟩)
abbrev KO (x : Nat × Tev.Fn) : Prop := CK Tryz.prog x
theorem fk {l : List (Nat × Tev.Fn)} {g : FuncId} {f : Func} {i o : List Ty} {run : FT i o} (h : ∀ y, Z4 (mkE l) f i o y = run y) (hE : ZhI Tryz.prog l) (hg : (Tryz.prog.funcs[g]?, ZeX f i o && (XS (Zh f)).isEmpty) = (some f, true)) : KO (mkG g i o run) := by
  have hs := congrArg Prod.snd hg
  dsimp only at hs
  rw [Bool.and_eq_true, List.isEmpty_iff] at hs
  exact fn0 h (Qb hE) rfl mixed (congrArg Prod.fst hg) hs.1 hs.2
abbrev i122 : Ts := [.v (.int .i64)]
abbrev o122 : Ts := [.v .str]
abbrev F122 := FT i122 o122
abbrev g122 (c : F122) : Nat × Tev.Fn := mkG 122 i122 o122 c
noncomputable def r122 : F122 := Znz.run
theorem k122 : KO (g122 r122) := Zsp
abbrev i204 : Ts := [.v (.sl false .s), .v .str]
abbrev o204 : Ts := [.v .str]
abbrev F204 := FT i204 o204
abbrev g204 (c : F204) : Nat × Tev.Fn := mkG 204 i204 o204 c
noncomputable def r204 : F204 := ZnA.run
theorem k204 : KO (g204 r204) := Zsr
abbrev i39 : Ts := [.v .str, .v .str]
abbrev o39 : Ts := [.v .str, .v .bool]
abbrev F39 := FT i39 o39
abbrev g39 (c : F39) : Nat × Tev.Fn := mkG 39 i39 o39 c
noncomputable def r39 : F39 := Za3.run
theorem k39 : KO (g39 r39) := ZlW
abbrev i42 : Ts := [.v .str, .v (.int .i64)]
abbrev o42 : Ts := [.v (.int .i64), .v .bool]
abbrev F42 := FT i42 o42
abbrev g42 (c : F42) : Nat × Tev.Fn := mkG 42 i42 o42 c
noncomputable def r42 : F42 := ZpK.run
theorem k42 : KO (g42 r42) := Zsz
abbrev m2 {A B C : Type} (f : B → C) (p : A × B) : A × C := (p.1, f p.2)
abbrev Zrw {A B C D E F G H I J : Type} (c : A × B × C × D × E × F × G × H × I) (p : A × B × C × D × E × F × G × H × J) : A × B × C × D × E × F × G × H × J := (c.1, c.2.1, c.2.2.1, c.2.2.2.1, c.2.2.2.2.1, c.2.2.2.2.2.1, c.2.2.2.2.2.2.1, c.2.2.2.2.2.2.2.1, p.2.2.2.2.2.2.2.2)
abbrev q0 : List LT := [.sl false .n]
abbrev q1 : List LT := [.sl false .i, .int .i64]
abbrev q2 : List LT := [.sl true .i, .int .i64]
abbrev q3 : List LT := [.int .i64, .int .i64, .int .i64, .int .i64, .int .i64, .bool, .sl false .i, .sl false .i]
abbrev q4 : List LT := [.int .i64, .int .i64, .int .i64, .int .i64, .int .i64, .bool, .sl true .i, .sl true .i]
abbrev q5 : List LT := [.int .i64, .sl false .t]
abbrev q6 : List LT := [.int .i64, .int .i64, .int .i64, .int .i64, .int .i64, .bool, .sl false .i, .sl false .i, .int .i64, .sl false .t, .sl false .n]
abbrev q7 : List LT := [.int .i64, .int .i64, .int .i64, .int .i64, .int .i64, .bool, .sl true .i, .sl true .i, .int .i64, .sl true .t, .sl true .n]
abbrev q8 : List LT := [.int .i64, .int .i64, .int .i64, .int .i64, .int .i64, .bool, .bool, .int .i64, .sl false .t, .sl false .i]
abbrev q9 : List LT := [.int .i64, .int .i64, .int .i64, .int .i64, .int .i64, .bool, .bool, .int .i64, .sl true .t, .sl true .i]
abbrev q10 : List LT := [.sl false .n, .sl false .i, .sl false .i, .int .i64, .int .i64, .int .i64, .int .i64, .int .i64, .bool, .bool, .bool, .bool, .bool, .int .i64, .int .i64, .bool, .int .i64, .bool, .int .i64, .int .i64, .sl false .i, .int .i64, .int .i64, .int .i64, .int .i64, .int .i64, .bool, .sl false .i, .sl false .i, .int .i64, .sl false .t, .sl false .n, .int .i64, .int .i64, .int .i64, .int .i64, .int .i64, .bool, .bool, .int .i64, .sl false .t, .sl false .i]
abbrev q11 : List LT := [.sl true .n, .sl true .i, .sl true .i, .int .i64, .int .i64, .int .i64, .int .i64, .int .i64, .bool, .bool, .bool, .bool, .bool, .int .i64, .int .i64, .bool, .int .i64, .bool, .int .i64, .int .i64, .sl true .i, .int .i64, .int .i64, .int .i64, .int .i64, .int .i64, .bool, .sl true .i, .sl true .i, .int .i64, .sl true .t, .sl true .n, .int .i64, .int .i64, .int .i64, .int .i64, .int .i64, .bool, .bool, .int .i64, .sl true .t, .sl true .i]
abbrev q12 : List LT := [.int .i64, .int .i64, .int .i64, .int .i64, .bool, .bool, .bool, .bool]
abbrev q13 : List LT := [.int .i64, .int .i64, .int .i64, .int .i64, .int .i64, .bool, .bool]
abbrev q14 : List LT := [.int .i64, .int .i64]
abbrev q15 : List LT := [.sl false .n, .sl false .i, .sl false .i, .int .i64, .int .i64, .int .i64, .int .i64, .int .i64, .bool, .bool, .bool, .bool, .int .i64, .int .i64, .int .i64, .int .i64, .int .i64, .bool, .sl false .i, .sl false .i, .int .i64, .int .i64, .int .i64, .int .i64, .int .i64, .bool, .bool, .bool, .int .i64, .bool, .int .i64, .sl false .n, .sl false .i, .sl false .i]
abbrev q16 : List LT := [.sl true .n, .sl true .i, .sl true .i, .int .i64, .int .i64, .int .i64, .int .i64, .int .i64, .bool, .bool, .bool, .bool, .int .i64, .int .i64, .int .i64, .int .i64, .int .i64, .bool, .sl true .i, .sl true .i, .int .i64, .int .i64, .int .i64, .int .i64, .int .i64, .bool, .bool, .bool, .int .i64, .bool, .int .i64, .sl true .n, .sl true .i, .sl true .i]
abbrev q17 : List LT := [.bool, .int .i64]
abbrev q18 : List LT := [.sl false .n, .sl false .i, .sl false .i]
abbrev q19 : List LT := [.sl false .n, .sl false .i, .sl true .i, .int .i64, .int .i64, .int .i64, .int .i64, .int .i64, .bool, .bool, .bool, .bool, .bool, .int .i64, .int .i64, .bool, .int .i64, .bool, .int .i64, .int .i64, .sl true .i, .int .i64, .int .i64, .int .i64, .int .i64, .int .i64, .bool, .sl false .i, .sl false .i, .int .i64, .sl true .t, .sl false .n, .int .i64, .int .i64, .int .i64, .int .i64, .int .i64, .bool, .bool, .int .i64, .sl true .t, .sl false .i]
abbrev q20 : List LT := [.sl false .n, .sl false .i, .sl true .i, .int .i64, .int .i64, .int .i64, .int .i64, .int .i64, .bool, .bool, .bool, .bool, .bool, .int .i64, .int .i64, .bool, .int .i64, .bool, .int .i64, .int .i64, .sl true .i, .int .i64, .int .i64, .int .i64, .int .i64, .int .i64, .bool, .sl true .i, .sl true .i, .int .i64, .sl true .t, .sl true .n, .int .i64, .int .i64, .int .i64, .int .i64, .int .i64, .bool, .bool, .int .i64, .sl true .t, .sl true .i]
abbrev q21 : List LT := [.sl false .n, .sl false .i, .sl false .i, .int .i64, .int .i64, .int .i64, .int .i64, .int .i64, .bool, .bool, .bool, .bool, .int .i64, .int .i64, .int .i64, .int .i64, .int .i64, .bool, .sl false .i, .sl true .i, .int .i64, .int .i64, .int .i64, .int .i64, .int .i64, .bool, .bool, .bool, .int .i64, .bool, .int .i64, .sl true .n, .sl true .i, .sl false .i]
abbrev q22 : List LT := [.sl false .n, .sl false .i, .sl true .i, .int .i64, .int .i64, .int .i64, .int .i64, .int .i64, .bool, .bool, .bool, .bool, .int .i64, .int .i64, .int .i64, .int .i64, .int .i64, .bool, .sl true .i, .sl true .i, .int .i64, .int .i64, .int .i64, .int .i64, .int .i64, .bool, .bool, .bool, .int .i64, .bool, .int .i64, .sl true .n, .sl true .i, .sl true .i]
abbrev q23 : List LT := [.sl false .b, .int .i64, .int .i64]
abbrev i92:Ts:=[.a q0]
abbrev o92:Ts:=[.a [.sl true .n]]
abbrev F92:=FT i92 o92
abbrev g92:=mkG 92 i92 o92
abbrev lc92_0:Ts:=[]
abbrev lb92_0:Ts:=[.p q0, .p [.sl true .n]]
abbrev lv92_0:Ts:=[.v (.int .i64)]
abbrev lr92_0:Ts:=[]
abbrev R92_0:=Option (Sum (PTup lv92_0) (PTup lr92_0)×BTup lb92_0)
abbrev B92_0:=PTup lb92_0→PTup lv92_0→R92_0
abbrev A92_0:=PTup lc92_0→B92_0
noncomputable def w92_0 (again:B92_0) (x:PTup lc92_0) (y:PTup lb92_0) (z:PTup lv92_0):R92_0:=
  bif (ltI z.1 (Zb y.1.1))then (bif (leI 0 z.1)then (bif (ltI z.1 (Zb y.1.1))then (bif (leN (0+(List.length (rdE .n y.1.1 z.1))) (E.most .i))then (bif (leN ((List.length y.2.1.1)+(List.length (([]++(rdE .n y.1.1 z.1))::[]))) (E.most .n))then (again (y.1,(((y.2.1.1++(([]++(rdE .n y.1.1 z.1))::[])),()),())) ((wI (z.1+1)),()))
      else none)
     else none)
    else none)
   else none)
  else some ((Sum.inl z),(y.1,(y.2.1,())))
noncomputable def e92_0 (l:A92_0):ZC:=⟨[],lc92_0,[1,3],lb92_0,[4],lv92_0,[],lr92_0,0,[],l⟩
noncomputable def m92 (l0:A92_0) (y:PTup i92):Option (PTup o92×BTup i92):=
  (l0 () (y.1,(([],()),())) ((0:Int),())).bind fun r0=>
  Zu r0.1 (fun r1=>some ((r0.2.2.1,()),()))
  (fun r1=>some ((([],()),()),()))
noncomputable def E92 (l0:A92_0):Zy:=⟨⟨Tryz.prog,Z0 []⟩,Qc [(3,e92_0 l0)]⟩
theorem t92_0 (l0:A92_0) (again) (x y z):ZT (E92 l0) (Zg (Zh Tryz.f92) 0) (e92_0 l0) Tryz.f92.ntmps again x y z=w92_0 again x y z:=by kernel_rfl
noncomputable def n92_0:Nat→A92_0
  |0,_,_,_=>none
  |n+1,x,y,z=>w92_0 (fun y z=>n92_0 n x y z) x y z
theorem s92 (l0:A92_0) (y):Z4 (E92 l0) Tryz.f92 i92 o92 y=m92 l0 y:=by kernel_rfl
noncomputable def L92_0:A92_0:=n92_0 fuel
noncomputable def r92:F92:=m92 L92_0
theorem k92:KO (g92 r92):=by
  have hE: ∀g f,(E92 L92_0).env.fns g=some f→Zr Tryz.prog g f:=Qb trivial
  have h0:ZN Tryz.prog Tryz.f92.ntmps (Zg (Zh Tryz.f92) 0) (e92_0 L92_0):=Z1 (E:=E92 L92_0) rfl hE mixed (Zn.of_list (l:=[]) (by kernel_rfl) trivial) (n92_0) (fun _ _ _=>rfl) (fun n x y z=>t92_0 L92_0 _ x y z) rfl
  exact Qh (E:=E92 L92_0) rfl hE mixed (by kernel_rfl) (by kernel_rfl) (Zn.of_list (l:=[(Zg (Zh Tryz.f92) 0)]) (by kernel_rfl) (.one (by kernel_rfl) h0 trivial)) (s92 L92_0)
abbrev i93:Ts:=[.a q1]
abbrev o93:Ts:=[.a q2]
abbrev F93:=FT i93 o93
abbrev g93:=mkG 93 i93 o93
noncomputable def m93 (y:PTup i93):Option (PTup o93×BTup i93):=
  bif (leN (0+(List.length y.1.1)) (E.most .i))then (some (((([]++y.1.1),y.1.2),()),()))
  else none
theorem s93 (y):TE [] Tryz.f93 i93 o93 y=m93 y:=by kernel_rfl
noncomputable def r93:F93:=m93
theorem k93:KO (g93 r93):=fk (s93) trivial (by kernel_rfl)
abbrev i164:Ts:=[.a q3]
abbrev o164:Ts:=[.a q4]
abbrev F164:=FT i164 o164
abbrev g164:=mkG 164 i164 o164
noncomputable def m164 (y:PTup i164):Option (PTup o164×BTup i164):=
  bif (leN (0+(List.length y.1.2.2.2.2.2.2.1)) (E.most .i))then (bif (leN (0+(List.length y.1.2.2.2.2.2.2.2.1)) (E.most .i))then (some (((y.1.1,(y.1.2.1,(y.1.2.2.1,(y.1.2.2.2.1,(y.1.2.2.2.2.1,(y.1.2.2.2.2.2.1,(([]++y.1.2.2.2.2.2.2.1),(([]++y.1.2.2.2.2.2.2.2.1),())))))))),()),()))
   else none)
  else none
theorem s164 (y):TE [] Tryz.f164 i164 o164 y=m164 y:=by kernel_rfl
noncomputable def r164:F164:=m164
theorem k164:KO (g164 r164):=fk (s164) trivial (by kernel_rfl)
abbrev i165:Ts:=[.a q5]
abbrev o165:Ts:=[.a [.int .i64, .sl true .t]]
abbrev F165:=FT i165 o165
abbrev g165:=mkG 165 i165 o165
noncomputable def m165 (y:PTup i165):Option (PTup o165×BTup i165):=
  bif (leN (0+(List.length y.1.2.1)) (E.most .t))then (some (((y.1.1,(([]++y.1.2.1),())),()),()))
  else none
theorem s165 (y):TE [] Tryz.f165 i165 o165 y=m165 y:=by kernel_rfl
noncomputable def r165:F165:=m165
theorem k165:KO (g165 r165):=fk (s165) trivial (by kernel_rfl)
abbrev i166:Ts:=[.v (.sl false .n)]
abbrev o166:Ts:=[.v (.sl true .n)]
abbrev F166:=FT i166 o166
abbrev g166:=mkG 166 i166 o166
abbrev lc166_0:Ts:=[.v (.sl false .n)]
abbrev lb166_0:Ts:=[]
abbrev lv166_0:Ts:=[.v (.sl true .n), .v (.int .i64)]
abbrev lr166_0:Ts:=[]
abbrev R166_0:=Option (Sum (PTup lv166_0) (PTup lr166_0)×BTup lb166_0)
abbrev B166_0:=PTup lb166_0→PTup lv166_0→R166_0
abbrev A166_0:=PTup lc166_0→B166_0
noncomputable def w166_0 (again:B166_0) (x:PTup lc166_0) (y:PTup lb166_0) (z:PTup lv166_0):R166_0:=
  bif (ltI z.2.1 (Zb x.1))then (bif (leI 0 z.2.1)then (bif (ltI z.2.1 (Zb x.1))then (bif (leN (0+(List.length (rdE .n x.1 z.2.1))) (E.most .i))then (bif (leN ((List.length z.1)+(List.length (([]++(rdE .n x.1 z.2.1))::[]))) (E.most .n))then (again () ((z.1++(([]++(rdE .n x.1 z.2.1))::[])),((wI (z.2.1+1)),())))
      else none)
     else none)
    else none)
   else none)
  else some ((Sum.inl z),())
noncomputable def e166_0 (l:A166_0):ZC:=⟨[0],lc166_0,[],lb166_0,[3,4],lv166_0,[],lr166_0,0,[],l⟩
noncomputable def m166 (l0:A166_0) (y:PTup i166):Option (PTup o166×BTup i166):=
  (l0 y () ([],((0:Int),()))).bind fun r0=>
  Zu r0.1 (fun r1=>some ((r1.1,()),()))
  (fun r1=>some (([],()),()))
noncomputable def E166 (l0:A166_0):Zy:=⟨⟨Tryz.prog,Z0 []⟩,Qc [(3,e166_0 l0)]⟩
theorem t166_0 (l0:A166_0) (again) (x y z):ZT (E166 l0) (Zg (Zh Tryz.f166) 0) (e166_0 l0) Tryz.f166.ntmps again x y z=w166_0 again x y z:=by kernel_rfl
noncomputable def n166_0:Nat→A166_0
  |0,_,_,_=>none
  |n+1,x,y,z=>w166_0 (fun y z=>n166_0 n x y z) x y z
theorem s166 (l0:A166_0) (y):Z4 (E166 l0) Tryz.f166 i166 o166 y=m166 l0 y:=by kernel_rfl
noncomputable def L166_0:A166_0:=n166_0 fuel
noncomputable def r166:F166:=m166 L166_0
theorem k166:KO (g166 r166):=by
  have hE: ∀g f,(E166 L166_0).env.fns g=some f→Zr Tryz.prog g f:=Qb trivial
  have h0:ZN Tryz.prog Tryz.f166.ntmps (Zg (Zh Tryz.f166) 0) (e166_0 L166_0):=Z1 (E:=E166 L166_0) rfl hE mixed (Zn.of_list (l:=[]) (by kernel_rfl) trivial) (n166_0) (fun _ _ _=>rfl) (fun n x y z=>t166_0 L166_0 _ x y z) rfl
  exact Qh (E:=E166 L166_0) rfl hE mixed (by kernel_rfl) (by kernel_rfl) (Zn.of_list (l:=[(Zg (Zh Tryz.f166) 0)]) (by kernel_rfl) (.one (by kernel_rfl) h0 trivial)) (s166 L166_0)
abbrev i94:Ts:=[.a q6]
abbrev o94:Ts:=[.a q7]
abbrev F94:=FT i94 o94
abbrev g94:=mkG 94 i94 o94
noncomputable def m94 (c166:F166) (c165:F165) (c164:F164) (y:PTup i94):Option (PTup o94×BTup i94):=
  (c164 ((y.1.1,(y.1.2.1,(y.1.2.2.1,(y.1.2.2.2.1,(y.1.2.2.2.2.1,(y.1.2.2.2.2.2.1,(y.1.2.2.2.2.2.2.1,(y.1.2.2.2.2.2.2.2.1,())))))))),())).bind fun r0=>
  (c165 ((y.1.2.2.2.2.2.2.2.2.1,(y.1.2.2.2.2.2.2.2.2.2.1,())),())).bind fun r1=>
  (c166 y.1.2.2.2.2.2.2.2.2.2.2).bind fun r2=>
  some (((r0.1.1.1,(r0.1.1.2.1,(r0.1.1.2.2.1,(r0.1.1.2.2.2.1,(r0.1.1.2.2.2.2.1,(r0.1.1.2.2.2.2.2.1,(r0.1.1.2.2.2.2.2.2.1,(r0.1.1.2.2.2.2.2.2.2.1,(r1.1.1.1,(r1.1.1.2.1,r2.1)))))))))),()),())
theorem s94 (c166:F166) (c165:F165) (c164:F164) (y):TE [g166 c166,g165 c165,g164 c164] Tryz.f94 i94 o94 y=m94 c166 c165 c164 y:=by kernel_rfl
noncomputable def r94:F94:=m94 r166 r165 r164
theorem k94:KO (g94 r94):=fk (s94 r166 r165 r164) ⟨k166,k165,k164,⟨⟩⟩ (by kernel_rfl)
abbrev i95:Ts:=[.a q8]
abbrev o95:Ts:=[.a q9]
abbrev F95:=FT i95 o95
abbrev g95:=mkG 95 i95 o95
noncomputable def m95 (c165:F165) (y:PTup i95):Option (PTup o95×BTup i95):=
  (c165 ((y.1.2.2.2.2.2.2.2.1,(y.1.2.2.2.2.2.2.2.2.1,())),())).bind fun r0=>
  bif (leN (0+(List.length y.1.2.2.2.2.2.2.2.2.2.1)) (E.most .i))then (some (((y.1.1,(y.1.2.1,(y.1.2.2.1,(y.1.2.2.2.1,(y.1.2.2.2.2.1,(y.1.2.2.2.2.2.1,(y.1.2.2.2.2.2.2.1,(r0.1.1.1,(r0.1.1.2.1,(([]++y.1.2.2.2.2.2.2.2.2.2.1),())))))))))),()),()))
  else none
theorem s95 (c165:F165) (y):TE [g165 c165] Tryz.f95 i95 o95 y=m95 c165 y:=by kernel_rfl
noncomputable def r95:F95:=m95 r165
theorem k95:KO (g95 r95):=fk (s95 r165) ⟨k165,⟨⟩⟩ (by kernel_rfl)
abbrev i23:Ts:=[.a q10]
abbrev o23:Ts:=[.a q11]
abbrev F23:=FT i23 o23
abbrev g23:=mkG 23 i23 o23
noncomputable def m23 (c92:F92) (c94:F94) (c95:F95) (c93:F93) (y:PTup i23):Option (PTup o23×BTup i23):=
  let a0:=y.1;let a1:=a0.2;let a2:=a1.2;let a3:=a2.2;let a4:=a3.2;let a5:=a4.2;let a6:=a5.2;let a7:=a6.2;let a8:=a7.2;let a9:=a8.2;let a10:=a9.2;let a11:=a10.2;let a12:=a11.2;let a13:=a12.2;let a14:=a13.2;let a15:=a14.2;let a16:=a15.2;let a17:=a16.2;let a18:=a17.2;let a19:=a18.2;let a20:=a19.2;let a21:=a20.2;let a22:=a21.2;let a23:=a22.2;let a24:=a23.2.2;let a25:=a24.2.2;(c92 ((a0.1,()),())).bind fun r0=>
  bif (leN (0+(List.length a1.1)) (E.most .i))then ((c93 ((a2.1,(a3.1,())),())).bind fun r1=>
   bif (leN (0+(List.length a20.1)) (E.most .i))then ((c94 ((a21.1,(a22.1,(a23.1,(a23.2.1,(a24.1,(a24.2.1,(a25.1,(a25.2.1,(a25.2.2.1,(a25.2.2.2.1,(a25.2.2.2.2.1,()))))))))))),())).bind fun r2=>
    (c95 (a25.2.2.2.2.2,())).bind fun r3=>
    some (((r0.1.1.1,(([]++a1.1),(r1.1.1.1,(r1.1.1.2.1,(a4.1,(a5.1,(a6.1,(a7.1,(a8.1,(a9.1,(a10.1,(a11.1,(a12.1,(a13.1,(a14.1,(a15.1,(a16.1,(a17.1,(a18.1,(a19.1,(([]++a20.1),(r2.1.1.1,(r2.1.1.2.1,(r2.1.1.2.2.1,(r2.1.1.2.2.2.1,(r2.1.1.2.2.2.2.1,(r2.1.1.2.2.2.2.2.1,(r2.1.1.2.2.2.2.2.2.1,(r2.1.1.2.2.2.2.2.2.2.1,(r2.1.1.2.2.2.2.2.2.2.2.1,(r2.1.1.2.2.2.2.2.2.2.2.2.1,(r2.1.1.2.2.2.2.2.2.2.2.2.2.1,r3.1.1)))))))))))))))))))))))))))))))),()),()))
   else none)
  else none
theorem s23 (c92:F92) (c94:F94) (c95:F95) (c93:F93) (y):TE [g92 c92,g94 c94,g95 c95,g93 c93] Tryz.f23 i23 o23 y=m23 c92 c94 c95 c93 y:=by kernel_rfl
noncomputable def r23:F23:=m23 r92 r94 r95 r93
theorem k23:KO (g23 r23):=fk (s23 r92 r94 r95 r93) ⟨k92,k94,k95,k93,⟨⟩⟩ (by kernel_rfl)
abbrev i28:Ts:=[.v (.int .i64), .v (.int .i64), .v (.int .i64)]
abbrev o28:Ts:=[.v (.bool)]
abbrev F28:=FT i28 o28
abbrev g28:=mkG 28 i28 o28
noncomputable def m28 (y:PTup i28):Option (PTup o28×BTup i28):=
  bif (leI y.2.1 y.1)then (some (((leI y.1 y.2.2.1),()),()))
  else no
theorem s28 (y):TE [] Tryz.f28 i28 o28 y=m28 y:=by kernel_rfl
noncomputable def r28:F28:=m28
theorem k28:KO (g28 r28):=fk (s28) trivial (by kernel_rfl)
abbrev i74:Ts:=[.v (.int .i64)]
abbrev o74:Ts:=[.v (.bool)]
abbrev F74:=FT i74 o74
abbrev g74:=mkG 74 i74 o74
noncomputable def m74 (c28:F28) (y:PTup i74):Option (PTup o74×BTup i74):=
  (c28 (y.1,((0:Int),((255:Int),())))).bind fun r0=>
  some (r0.1,())
theorem s74 (c28:F28) (y):TE [g28 c28] Tryz.f74 i74 o74 y=m74 c28 y:=by kernel_rfl
noncomputable def r74:F74:=m74 r28
theorem k74:KO (g74 r74):=fk (s74 r28) ⟨k28,⟨⟩⟩ (by kernel_rfl)
abbrev i69:Ts:=[.v (.sl false .i)]
abbrev o69:Ts:=[.v (.bool)]
abbrev F69:=FT i69 o69
abbrev g69:=mkG 69 i69 o69
abbrev lc69_0:Ts:=[.v (.sl false .i)]
abbrev lb69_0:Ts:=[]
abbrev lv69_0:Ts:=[.v (.int .i64)]
abbrev lr69_0:Ts:=[.v (.bool)]
abbrev R69_0:=Option (Sum (PTup lv69_0) (PTup lr69_0)×BTup lb69_0)
abbrev B69_0:=PTup lb69_0→PTup lv69_0→R69_0
abbrev A69_0:=PTup lc69_0→B69_0
noncomputable def w69_0 (c74:F74) (again:B69_0) (x:PTup lc69_0) (y:PTup lb69_0) (z:PTup lv69_0):R69_0:=
  bif (ltI z.1 (Zb x.1))then (bif (leI 0 z.1)then (bif (ltI z.1 (Zb x.1))then ((c74 ((rdE .i x.1 z.1),())).bind fun r0=>
     bif (!r0.1.1)then (some ((Sum.inr (false,())),()))
     else again () ((wI (z.1+1)),()))
    else none)
   else none)
  else some ((Sum.inl z),())
noncomputable def e69_0 (l:A69_0):ZC:=⟨[0],lc69_0,[],lb69_0,[3],lv69_0,[2],lr69_0,0,[],l⟩
noncomputable def m69 (c74:F74) (l0:A69_0) (y:PTup i69):Option (PTup o69×BTup i69):=
  (l0 y () ((0:Int),())).bind fun r0=>
  Zu r0.1 (fun r1=>some (((leI (Zb y.1) 20),()),()))
  (fun r1=>some (r1,()))
noncomputable def E69 (c74:F74) (l0:A69_0):Zy:=⟨⟨Tryz.prog,Z0 [g74 c74]⟩,Qc [(2,e69_0 l0)]⟩
theorem t69_0 (c74:F74) (l0:A69_0) (again) (x y z):ZT (E69 c74 l0) (Zg (Zh Tryz.f69) 0) (e69_0 l0) Tryz.f69.ntmps again x y z=w69_0 c74 again x y z:=by kernel_rfl
noncomputable def n69_0 (c74:F74):Nat→A69_0
  |0,_,_,_=>none
  |n+1,x,y,z=>w69_0 c74 (fun y z=>n69_0 c74 n x y z) x y z
theorem s69 (c74:F74) (l0:A69_0) (y):Z4 (E69 c74 l0) Tryz.f69 i69 o69 y=m69 c74 l0 y:=by kernel_rfl
noncomputable def L69_0:A69_0:=n69_0 r74 fuel
noncomputable def r69:F69:=m69 r74 L69_0
theorem k69:KO (g69 r69):=by
  have hE: ∀g f,(E69 r74 L69_0).env.fns g=some f→Zr Tryz.prog g f:=Qb ⟨k74,⟨⟩⟩
  have h0:ZN Tryz.prog Tryz.f69.ntmps (Zg (Zh Tryz.f69) 0) (e69_0 L69_0):=Z1 (E:=E69 r74 L69_0) rfl hE mixed (Zn.of_list (l:=[]) (by kernel_rfl) trivial) (n69_0 r74) (fun _ _ _=>rfl) (fun n x y z=>t69_0 r74 L69_0 _ x y z) rfl
  exact Qh (E:=E69 r74 L69_0) rfl hE mixed (by kernel_rfl) (by kernel_rfl) (Zn.of_list (l:=[(Zg (Zh Tryz.f69) 0)]) (by kernel_rfl) (.one (by kernel_rfl) h0 trivial)) (s69 r74 L69_0)
abbrev i141:Ts:=[.a q0]
abbrev o141:Ts:=[.v (.bool)]
abbrev F141:=FT i141 o141
abbrev g141:=mkG 141 i141 o141
abbrev lc141_0:Ts:=[.v (.int .i64)]
abbrev lb141_0:Ts:=[.p q0]
abbrev lv141_0:Ts:=[.v (.int .i64)]
abbrev lr141_0:Ts:=[.v (.bool)]
abbrev R141_0:=Option (Sum (PTup lv141_0) (PTup lr141_0)×BTup lb141_0)
abbrev B141_0:=PTup lb141_0→PTup lv141_0→R141_0
abbrev A141_0:=PTup lc141_0→B141_0
noncomputable def w141_0 (c28:F28) (again:B141_0) (x:PTup lc141_0) (y:PTup lb141_0) (z:PTup lv141_0):R141_0:=
  bif (ltI z.1 256)then (bif (leI 0 x.1)then (bif (ltI x.1 (Zb y.1.1))then (bif (leI 0 z.1)then (bif (ltI z.1 (Zb (rdE .n y.1.1 x.1)))then ((c28 ((rdI (rdE .n y.1.1 x.1) z.1),((0:Int),((255:Int),())))).bind fun r0=>
       bif (!r0.1.1)then (some ((Sum.inr (false,())),(y.1,())))
       else again (y.1,()) ((wI (z.1+1)),()))
      else none)
     else none)
    else none)
   else none)
  else some ((Sum.inl z),(y.1,()))
noncomputable def e141_0 (l:A141_0):ZC:=⟨[3],lc141_0,[1],lb141_0,[4],lv141_0,[2],lr141_0,2,[],l⟩
abbrev lc141_1:Ts:=[]
abbrev lb141_1:Ts:=[.p q0]
abbrev lv141_1:Ts:=[.v (.int .i64)]
abbrev lr141_1:Ts:=[.v (.bool)]
abbrev R141_1:=Option (Sum (PTup lv141_1) (PTup lr141_1)×BTup lb141_1)
abbrev B141_1:=PTup lb141_1→PTup lv141_1→R141_1
abbrev A141_1:=PTup lc141_1→B141_1
noncomputable def w141_1 (c28:F28) (l0:A141_0) (again:B141_1) (x:PTup lc141_1) (y:PTup lb141_1) (z:PTup lv141_1):R141_1:=
  bif (ltI z.1 (Zb y.1.1))then (bif (leI 0 z.1)then (bif (ltI z.1 (Zb y.1.1))then (bif (neI (Zb (rdE .n y.1.1 z.1)) (256:Int))then (some ((Sum.inr (false,())),(y.1,())))
     else (l0 z (y.1,()) ((0:Int),())).bind fun r0=>
     Zu r0.1 (fun r1=>again (y.1,()) ((wI (z.1+1)),()))
     (fun r1=>some ((Sum.inr r1),(y.1,()))))
    else none)
   else none)
  else some ((Sum.inl z),(y.1,()))
noncomputable def e141_1 (l:A141_1):ZC:=⟨[],lc141_1,[1],lb141_1,[3],lv141_1,[2],lr141_1,0,[],l⟩
noncomputable def m141 (c28:F28) (l0:A141_0) (l1:A141_1) (y:PTup i141):Option (PTup o141×BTup i141):=
  (l1 () (y.1,()) ((0:Int),())).bind fun r0=>
  Zu r0.1 (fun r1=>(c28 ((Zb y.1.1),((1:Int),((8:Int),())))).bind fun r2=>
   some (r2.1,()))
  (fun r1=>some (r1,()))
noncomputable def E141 (c28:F28) (l0:A141_0) (l1:A141_1):Zy:=⟨⟨Tryz.prog,Z0 [g28 c28]⟩,Qc [(7,e141_0 l0),(2,e141_1 l1)]⟩
theorem t141_0 (c28:F28) (l0:A141_0) (l1:A141_1) (again) (x y z):ZT (E141 c28 l0 l1) (Zg (Zg (Zh Tryz.f141) 0) 0) (e141_0 l0) Tryz.f141.ntmps again x y z=w141_0 c28 again x y z:=by kernel_rfl
noncomputable def n141_0 (c28:F28):Nat→A141_0
  |0,_,_,_=>none
  |n+1,x,y,z=>w141_0 c28 (fun y z=>n141_0 c28 n x y z) x y z
theorem t141_1 (c28:F28) (l0:A141_0) (l1:A141_1) (again) (x y z):ZT (E141 c28 l0 l1) (Zg (Zh Tryz.f141) 0) (e141_1 l1) Tryz.f141.ntmps again x y z=w141_1 c28 l0 again x y z:=by kernel_rfl
noncomputable def n141_1 (c28:F28) (l0:A141_0):Nat→A141_1
  |0,_,_,_=>none
  |n+1,x,y,z=>w141_1 c28 l0 (fun y z=>n141_1 c28 l0 n x y z) x y z
theorem s141 (c28:F28) (l0:A141_0) (l1:A141_1) (y):Z4 (E141 c28 l0 l1) Tryz.f141 i141 o141 y=m141 c28 l0 l1 y:=by kernel_rfl
noncomputable def L141_0:A141_0:=n141_0 r28 fuel
noncomputable def L141_1:A141_1:=n141_1 r28 L141_0 fuel
noncomputable def r141:F141:=m141 r28 L141_0 L141_1
theorem k141:KO (g141 r141):=by
  have hE: ∀g f,(E141 r28 L141_0 L141_1).env.fns g=some f→Zr Tryz.prog g f:=Qb ⟨k28,⟨⟩⟩
  have h0:ZN Tryz.prog Tryz.f141.ntmps (Zg (Zg (Zh Tryz.f141) 0) 0) (e141_0 L141_0):=Z1 (E:=E141 r28 L141_0 L141_1) rfl hE mixed (Zn.of_list (l:=[]) (by kernel_rfl) trivial) (n141_0 r28) (fun _ _ _=>rfl) (fun n x y z=>t141_0 r28 L141_0 L141_1 _ x y z) rfl
  have h1:ZN Tryz.prog Tryz.f141.ntmps (Zg (Zh Tryz.f141) 0) (e141_1 L141_1):=Z1 (E:=E141 r28 L141_0 L141_1) rfl hE mixed (Zn.of_list (l:=[(Zg (Zg (Zh Tryz.f141) 0) 0)]) (by kernel_rfl) (.one (by kernel_rfl) h0 trivial)) (n141_1 r28 L141_0) (fun _ _ _=>rfl) (fun n x y z=>t141_1 r28 L141_0 L141_1 _ x y z) rfl
  exact Qh (E:=E141 r28 L141_0 L141_1) rfl hE mixed (by kernel_rfl) (by kernel_rfl) (Zn.of_list (l:=[(Zg (Zh Tryz.f141) 0)]) (by kernel_rfl) (.one (by kernel_rfl) h1 trivial)) (s141 r28 L141_0 L141_1)
abbrev i70:Ts:=[.a q0, .a q1]
abbrev o70:Ts:=[.v (.bool)]
abbrev F70:=FT i70 o70
abbrev g70:=mkG 70 i70 o70
abbrev lc70_0:Ts:=[]
abbrev lb70_0:Ts:=[.p q1]
abbrev lv70_0:Ts:=[.v (.int .i64)]
abbrev lr70_0:Ts:=[.v (.bool)]
abbrev R70_0:=Option (Sum (PTup lv70_0) (PTup lr70_0)×BTup lb70_0)
abbrev B70_0:=PTup lb70_0→PTup lv70_0→R70_0
abbrev A70_0:=PTup lc70_0→B70_0
noncomputable def w70_0 (c141:F141) (c28:F28) (c74:F74) (again:B70_0) (x:PTup lc70_0) (y:PTup lb70_0) (z:PTup lv70_0):R70_0:=
  bif (ltI z.1 512)then (bif (leI 0 z.1)then (bif (ltI z.1 (Zb y.1.1))then ((c74 ((rdE .i y.1.1 z.1),())).bind fun r0=>
     bif (!r0.1.1)then (some ((Sum.inr (false,())),(y.1,())))
     else again (y.1,()) ((wI (z.1+1)),()))
    else none)
   else none)
  else some ((Sum.inl z),(y.1,()))
noncomputable def e70_0 (l:A70_0):ZC:=⟨[],lc70_0,[3],lb70_0,[5],lv70_0,[4],lr70_0,0,[],l⟩
noncomputable def m70 (c141:F141) (c28:F28) (c74:F74) (l0:A70_0) (y:PTup i70):Option (PTup o70×BTup i70):=
  (c141 (y.1,())).bind fun r0=>
  bif (!r0.1.1)then no
  else bif (neI (Zb y.2.1.1) 512)then no
  else (c28 (y.2.1.2.1,((0:Int),((wI ((Zb y.1.1)-1)),())))).bind fun r1=>
  bif (!r1.1.1)then no
  else (l0 () (y.2.1,()) ((0:Int),())).bind fun r2=>
  Zu r2.1 (fun r3=>some ((true,()),()))
  (fun r3=>some (r3,()))
noncomputable def E70 (c141:F141) (c28:F28) (c74:F74) (l0:A70_0):Zy:=⟨⟨Tryz.prog,Z0 [g141 c141,g28 c28,g74 c74]⟩,Qc [(4,e70_0 l0)]⟩
theorem t70_0 (c141:F141) (c28:F28) (c74:F74) (l0:A70_0) (again) (x y z):ZT (E70 c141 c28 c74 l0) (Zg (Zh Tryz.f70) 0) (e70_0 l0) Tryz.f70.ntmps again x y z=w70_0 c141 c28 c74 again x y z:=by kernel_rfl
noncomputable def n70_0 (c141:F141) (c28:F28) (c74:F74):Nat→A70_0
  |0,_,_,_=>none
  |n+1,x,y,z=>w70_0 c141 c28 c74 (fun y z=>n70_0 c141 c28 c74 n x y z) x y z
theorem s70 (c141:F141) (c28:F28) (c74:F74) (l0:A70_0) (y):Z4 (E70 c141 c28 c74 l0) Tryz.f70 i70 o70 y=m70 c141 c28 c74 l0 y:=by kernel_rfl
noncomputable def L70_0:A70_0:=n70_0 r141 r28 r74 fuel
noncomputable def r70:F70:=m70 r141 r28 r74 L70_0
theorem k70:KO (g70 r70):=by
  have hE: ∀g f,(E70 r141 r28 r74 L70_0).env.fns g=some f→Zr Tryz.prog g f:=Qb ⟨k141,k28,k74,⟨⟩⟩
  have h0:ZN Tryz.prog Tryz.f70.ntmps (Zg (Zh Tryz.f70) 0) (e70_0 L70_0):=Z1 (E:=E70 r141 r28 r74 L70_0) rfl hE mixed (Zn.of_list (l:=[]) (by kernel_rfl) trivial) (n70_0 r141 r28 r74) (fun _ _ _=>rfl) (fun n x y z=>t70_0 r141 r28 r74 L70_0 _ x y z) rfl
  exact Qh (E:=E70 r141 r28 r74 L70_0) rfl hE mixed (by kernel_rfl) (by kernel_rfl) (Zn.of_list (l:=[(Zg (Zh Tryz.f70) 0)]) (by kernel_rfl) (.one (by kernel_rfl) h0 trivial)) (s70 r141 r28 r74 L70_0)
abbrev i71:Ts:=[.a q12]
abbrev o71:Ts:=[.v (.bool)]
abbrev F71:=FT i71 o71
abbrev g71:=mkG 71 i71 o71
noncomputable def m71 (c28:F28) (c74:F74) (y:PTup i71):Option (PTup o71×BTup i71):=
  (c74 (y.1.1,())).bind fun r0=>
  bif r0.1.1 then ((c74 (y.1.2.1,())).bind fun r1=>
   bif r1.1.1 then ((c74 (y.1.2.2.1,())).bind fun r2=>
    bif r2.1.1 then ((c28 (y.1.2.2.2.1,((0:Int),((65535:Int),())))).bind fun r3=>
     some (r3.1,()))
    else no)
   else no)
  else no
theorem s71 (c28:F28) (c74:F74) (y):TE [g28 c28,g74 c74] Tryz.f71 i71 o71 y=m71 c28 c74 y:=by kernel_rfl
noncomputable def r71:F71:=m71 r28 r74
theorem k71:KO (g71 r71):=fk (s71 r28 r74) ⟨k28,k74,⟨⟩⟩ (by kernel_rfl)
abbrev i213:Ts:=[.v (.int .i64)]
abbrev o213:Ts:=[.v (.int .i64)]
abbrev F213:=FT i213 o213
abbrev g213:=mkG 213 i213 o213
noncomputable def m213 (y:PTup i213):Option (PTup o213×BTup i213):=
  bif (ltI 48 (Int.tmod y.1 64))then (some (((0:Int),()),()))
  else some (((Int.tmod y.1 64),()),())
theorem s213 (y):TE [] Tryz.f213 i213 o213 y=m213 y:=by kernel_rfl
noncomputable def r213:F213:=m213
theorem k213:KO (g213 r213):=fk (s213) trivial (by kernel_rfl)
abbrev i142:Ts:=[.a q3]
abbrev o142:Ts:=[.v (.bool)]
abbrev F142:=FT i142 o142
abbrev g142:=mkG 142 i142 o142
abbrev lc142_0:Ts:=[]
abbrev lb142_0:Ts:=[.p q3]
abbrev lv142_0:Ts:=[.v (.int .i64)]
abbrev lr142_0:Ts:=[.v (.bool)]
abbrev R142_0:=Option (Sum (PTup lv142_0) (PTup lr142_0)×BTup lb142_0)
abbrev B142_0:=PTup lb142_0→PTup lv142_0→R142_0
abbrev A142_0:=PTup lc142_0→B142_0
noncomputable def w142_0 (c28:F28) (c74:F74) (c213:F213) (again:B142_0) (x:PTup lc142_0) (y:PTup lb142_0) (z:PTup lv142_0):R142_0:=
  bif (ltI z.1 (Zb y.1.2.2.2.2.2.2.2.1))then (bif (leI 0 z.1)then (bif (ltI z.1 (Zb y.1.2.2.2.2.2.2.2.1))then ((c28 ((rdE .i y.1.2.2.2.2.2.2.2.1 z.1),((0:Int),((63:Int),())))).bind fun r0=>
     bif (!r0.1.1)then (some ((Sum.inr (false,())),(y.1,())))
     else again (y.1,()) ((wI (z.1+1)),()))
    else none)
   else none)
  else some ((Sum.inl z),(y.1,()))
noncomputable def e142_0 (l:A142_0):ZC:=⟨[],lc142_0,[1],lb142_0,[4],lv142_0,[2],lr142_0,2,[],l⟩
abbrev lc142_1:Ts:=[]
abbrev lb142_1:Ts:=[.p q3]
abbrev lv142_1:Ts:=[.v (.int .i64)]
abbrev lr142_1:Ts:=[.v (.bool)]
abbrev R142_1:=Option (Sum (PTup lv142_1) (PTup lr142_1)×BTup lb142_1)
abbrev B142_1:=PTup lb142_1→PTup lv142_1→R142_1
abbrev A142_1:=PTup lc142_1→B142_1
noncomputable def w142_1 (c28:F28) (c74:F74) (c213:F213) (l0:A142_0) (again:B142_1) (x:PTup lc142_1) (y:PTup lb142_1) (z:PTup lv142_1):R142_1:=
  bif (ltI z.1 16)then (bif (leI 0 z.1)then (bif (ltI z.1 (Zb y.1.2.2.2.2.2.2.1))then ((c28 ((rdE .i y.1.2.2.2.2.2.2.1 z.1),((0:Int),((63:Int),())))).bind fun r0=>
     bif (!r0.1.1)then (some ((Sum.inr (false,())),(y.1,())))
     else again (y.1,()) ((wI (z.1+1)),()))
    else none)
   else none)
  else some ((Sum.inl z),(y.1,()))
noncomputable def e142_1 (l:A142_1):ZC:=⟨[],lc142_1,[1],lb142_1,[3],lv142_1,[2],lr142_1,0,[],l⟩
noncomputable def m142 (c28:F28) (c74:F74) (c213:F213) (l0:A142_0) (l1:A142_1) (y:PTup i142):Option (PTup o142×BTup i142):=
  (c28 (y.1.1,((0:Int),((20000:Int),())))).bind fun r0=>
  bif (!r0.1.1)then no
  else (c74 (y.1.2.1,())).bind fun r1=>
  bif (!r1.1.1)then no
  else (c74 (y.1.2.2.1,())).bind fun r2=>
  bif (!r2.1.1)then no
  else (c28 (y.1.2.2.2.1,((0:Int),((15:Int),())))).bind fun r3=>
  bif (!r3.1.1)then no
  else (c28 (y.1.2.2.2.2.1,((0:Int),((63:Int),())))).bind fun r4=>
  bif (!r4.1.1)then no
  else bif (neI (Zb y.1.2.2.2.2.2.2.1) 16)then no
  else (c213 (y.1.1,())).bind fun r5=>
  bif (neI (Zb y.1.2.2.2.2.2.2.2.1) r5.1.1)then no
  else (l1 () (y.1,()) ((0:Int),())).bind fun r6=>
  Zu r6.1 (fun r7=>(l0 () ((r6.2.1.1,(r6.2.1.2.1,(r6.2.1.2.2.1,(r6.2.1.2.2.2.1,(r6.2.1.2.2.2.2.1,(r6.2.1.2.2.2.2.2.1,y.1.2.2.2.2.2.2)))))),()) ((0:Int),())).bind fun r8=>
   Zu r8.1 (fun r9=>some ((true,()),()))
   (fun r9=>some (r9,())))
  (fun r7=>some (r7,()))
noncomputable def E142 (c28:F28) (c74:F74) (c213:F213) (l0:A142_0) (l1:A142_1):Zy:=⟨⟨Tryz.prog,Z0 [g28 c28,g74 c74,g213 c213]⟩,Qc [(9,e142_0 l0),(4,e142_1 l1)]⟩
theorem t142_0 (c28:F28) (c74:F74) (c213:F213) (l0:A142_0) (l1:A142_1) (again) (x y z):ZT (E142 c28 c74 c213 l0 l1) (Zg (Zh Tryz.f142) 1) (e142_0 l0) Tryz.f142.ntmps again x y z=w142_0 c28 c74 c213 again x y z:=by kernel_rfl
noncomputable def n142_0 (c28:F28) (c74:F74) (c213:F213):Nat→A142_0
  |0,_,_,_=>none
  |n+1,x,y,z=>w142_0 c28 c74 c213 (fun y z=>n142_0 c28 c74 c213 n x y z) x y z
theorem t142_1 (c28:F28) (c74:F74) (c213:F213) (l0:A142_0) (l1:A142_1) (again) (x y z):ZT (E142 c28 c74 c213 l0 l1) (Zg (Zh Tryz.f142) 0) (e142_1 l1) Tryz.f142.ntmps again x y z=w142_1 c28 c74 c213 l0 again x y z:=by kernel_rfl
noncomputable def n142_1 (c28:F28) (c74:F74) (c213:F213) (l0:A142_0):Nat→A142_1
  |0,_,_,_=>none
  |n+1,x,y,z=>w142_1 c28 c74 c213 l0 (fun y z=>n142_1 c28 c74 c213 l0 n x y z) x y z
theorem s142 (c28:F28) (c74:F74) (c213:F213) (l0:A142_0) (l1:A142_1) (y):Z4 (E142 c28 c74 c213 l0 l1) Tryz.f142 i142 o142 y=m142 c28 c74 c213 l0 l1 y:=by kernel_rfl
noncomputable def L142_0:A142_0:=n142_0 r28 r74 r213 fuel
noncomputable def L142_1:A142_1:=n142_1 r28 r74 r213 L142_0 fuel
noncomputable def r142:F142:=m142 r28 r74 r213 L142_0 L142_1
theorem k142:KO (g142 r142):=by
  have hE: ∀g f,(E142 r28 r74 r213 L142_0 L142_1).env.fns g=some f→Zr Tryz.prog g f:=Qb ⟨k28,k74,k213,⟨⟩⟩
  have h0:ZN Tryz.prog Tryz.f142.ntmps (Zg (Zh Tryz.f142) 1) (e142_0 L142_0):=Z1 (E:=E142 r28 r74 r213 L142_0 L142_1) rfl hE mixed (Zn.of_list (l:=[]) (by kernel_rfl) trivial) (n142_0 r28 r74 r213) (fun _ _ _=>rfl) (fun n x y z=>t142_0 r28 r74 r213 L142_0 L142_1 _ x y z) rfl
  have h1:ZN Tryz.prog Tryz.f142.ntmps (Zg (Zh Tryz.f142) 0) (e142_1 L142_1):=Z1 (E:=E142 r28 r74 r213 L142_0 L142_1) rfl hE mixed (Zn.of_list (l:=[]) (by kernel_rfl) trivial) (n142_1 r28 r74 r213 L142_0) (fun _ _ _=>rfl) (fun n x y z=>t142_1 r28 r74 r213 L142_0 L142_1 _ x y z) rfl
  exact Qh (E:=E142 r28 r74 r213 L142_0 L142_1) rfl hE mixed (by kernel_rfl) (by kernel_rfl) (Zn.of_list (l:=[(Zg (Zh Tryz.f142) 0),(Zg (Zh Tryz.f142) 1)]) (by kernel_rfl) (.one (by kernel_rfl) h1 (.one (by kernel_rfl) h0 trivial))) (s142 r28 r74 r213 L142_0 L142_1)
abbrev i143:Ts:=[.a q5]
abbrev o143:Ts:=[.v (.bool)]
abbrev F143:=FT i143 o143
abbrev g143:=mkG 143 i143 o143
abbrev lc143_0:Ts:=[]
abbrev lb143_0:Ts:=[.p q5]
abbrev lv143_0:Ts:=[.v (.int .i64)]
abbrev lr143_0:Ts:=[.v (.bool)]
abbrev R143_0:=Option (Sum (PTup lv143_0) (PTup lr143_0)×BTup lb143_0)
abbrev B143_0:=PTup lb143_0→PTup lv143_0→R143_0
abbrev A143_0:=PTup lc143_0→B143_0
noncomputable def w143_0 (c28:F28) (c74:F74) (again:B143_0) (x:PTup lc143_0) (y:PTup lb143_0) (z:PTup lv143_0):R143_0:=
  bif (ltI z.1 (Zb y.1.2.1))then (bif (leI 0 z.1)then (bif (ltI z.1 (Zb y.1.2.1))then ((c28 ((rdE .t y.1.2.1 z.1).1,((0:Int),((20000:Int),())))).bind fun r0=>
     bif (!r0.1.1)then (some ((Sum.inr (false,())),(y.1,())))
     else (c28 ((rdE .t y.1.2.1 z.1).2.1,((0:Int),((7:Int),())))).bind fun r1=>
     bif (!r1.1.1)then (some ((Sum.inr (false,())),(y.1,())))
     else (c74 ((rdE .t y.1.2.1 z.1).2.2,())).bind fun r2=>
     bif (!r2.1.1)then (some ((Sum.inr (false,())),(y.1,())))
     else bif (ltI 0 z.1)then (bif (leI 0 (wI (z.1-1)))then (bif (ltI (wI (z.1-1)) (Zb y.1.2.1))then (bif (ltI (rdE .t y.1.2.1 z.1).1 (rdE .t y.1.2.1 (wI (z.1-1))).1)then (some ((Sum.inr (false,())),(y.1,())))
        else again (y.1,()) ((wI (z.1+1)),()))
       else none)
      else none)
     else again (y.1,()) ((wI (z.1+1)),()))
    else none)
   else none)
  else some ((Sum.inl z),(y.1,()))
noncomputable def e143_0 (l:A143_0):ZC:=⟨[],lc143_0,[1],lb143_0,[3],lv143_0,[2],lr143_0,0,[],l⟩
noncomputable def m143 (c28:F28) (c74:F74) (l0:A143_0) (y:PTup i143):Option (PTup o143×BTup i143):=
  (l0 () (y.1,()) ((0:Int),())).bind fun r0=>
  Zu r0.1 (fun r1=>(c28 (r0.2.1.1,((1:Int),((16:Int),())))).bind fun r2=>
   bif r2.1.1 then (some (((leI (Zb y.1.2.1) r0.2.1.1),()),()))
   else no)
  (fun r1=>some (r1,()))
noncomputable def E143 (c28:F28) (c74:F74) (l0:A143_0):Zy:=⟨⟨Tryz.prog,Z0 [g28 c28,g74 c74]⟩,Qc [(2,e143_0 l0)]⟩
theorem t143_0 (c28:F28) (c74:F74) (l0:A143_0) (again) (x y z):ZT (E143 c28 c74 l0) (Zg (Zh Tryz.f143) 0) (e143_0 l0) Tryz.f143.ntmps again x y z=w143_0 c28 c74 again x y z:=by kernel_rfl
noncomputable def n143_0 (c28:F28) (c74:F74):Nat→A143_0
  |0,_,_,_=>none
  |n+1,x,y,z=>w143_0 c28 c74 (fun y z=>n143_0 c28 c74 n x y z) x y z
theorem s143 (c28:F28) (c74:F74) (l0:A143_0) (y):Z4 (E143 c28 c74 l0) Tryz.f143 i143 o143 y=m143 c28 c74 l0 y:=by kernel_rfl
noncomputable def L143_0:A143_0:=n143_0 r28 r74 fuel
noncomputable def r143:F143:=m143 r28 r74 L143_0
theorem k143:KO (g143 r143):=by
  have hE: ∀g f,(E143 r28 r74 L143_0).env.fns g=some f→Zr Tryz.prog g f:=Qb ⟨k28,k74,⟨⟩⟩
  have h0:ZN Tryz.prog Tryz.f143.ntmps (Zg (Zh Tryz.f143) 0) (e143_0 L143_0):=Z1 (E:=E143 r28 r74 L143_0) rfl hE mixed (Zn.of_list (l:=[]) (by kernel_rfl) trivial) (n143_0 r28 r74) (fun _ _ _=>rfl) (fun n x y z=>t143_0 r28 r74 L143_0 _ x y z) rfl
  exact Qh (E:=E143 r28 r74 L143_0) rfl hE mixed (by kernel_rfl) (by kernel_rfl) (Zn.of_list (l:=[(Zg (Zh Tryz.f143) 0)]) (by kernel_rfl) (.one (by kernel_rfl) h0 trivial)) (s143 r28 r74 L143_0)
abbrev i214:Ts:=[.v (.int .i64)]
abbrev o214:Ts:=[.v (.int .i64)]
abbrev F214:=FT i214 o214
abbrev g214:=mkG 214 i214 o214
noncomputable def m214 (y:PTup i214):Option (PTup o214×BTup i214):=
  some (((wI (Int.tdiv (wI ((wI ((wI (y.1+64))-48))-1)) (64:Int))),()),())
theorem s214 (y):TE [] Tryz.f214 i214 o214 y=m214 y:=by kernel_rfl
noncomputable def r214:F214:=m214
theorem k214:KO (g214 r214):=fk (s214) trivial (by kernel_rfl)
abbrev i144:Ts:=[.v (.sl false .n), .v (.int .i64)]
abbrev o144:Ts:=[.v (.bool)]
abbrev F144:=FT i144 o144
abbrev g144:=mkG 144 i144 o144
abbrev lc144_0:Ts:=[.v (.sl false .n)]
abbrev lb144_0:Ts:=[]
abbrev lv144_0:Ts:=[.v (.int .i64)]
abbrev lr144_0:Ts:=[.v (.bool)]
abbrev R144_0:=Option (Sum (PTup lv144_0) (PTup lr144_0)×BTup lb144_0)
abbrev B144_0:=PTup lb144_0→PTup lv144_0→R144_0
abbrev A144_0:=PTup lc144_0→B144_0
noncomputable def w144_0 (c214:F214) (again:B144_0) (x:PTup lc144_0) (y:PTup lb144_0) (z:PTup lv144_0):R144_0:=
  bif (ltI z.1 (Zb x.1))then (bif (leI 0 z.1)then (bif (ltI z.1 (Zb x.1))then (bif (neI (Zb (rdE .n x.1 z.1)) (48:Int))then (some ((Sum.inr (false,())),()))
     else again () ((wI (z.1+1)),()))
    else none)
   else none)
  else some ((Sum.inl z),())
noncomputable def e144_0 (l:A144_0):ZC:=⟨[0],lc144_0,[],lb144_0,[5],lv144_0,[4],lr144_0,0,[],l⟩
noncomputable def m144 (c214:F214) (l0:A144_0) (y:PTup i144):Option (PTup o144×BTup i144):=
  (l0 (y.1,()) () ((0:Int),())).bind fun r0=>
  Zu r0.1 (fun r1=>(c214 y.2).bind fun r2=>
   some (((eqI (Zb y.1) r2.1.1),()),()))
  (fun r1=>some (r1,()))
noncomputable def E144 (c214:F214) (l0:A144_0):Zy:=⟨⟨Tryz.prog,Z0 [g214 c214]⟩,Qc [(2,e144_0 l0)]⟩
theorem t144_0 (c214:F214) (l0:A144_0) (again) (x y z):ZT (E144 c214 l0) (Zg (Zh Tryz.f144) 0) (e144_0 l0) Tryz.f144.ntmps again x y z=w144_0 c214 again x y z:=by kernel_rfl
noncomputable def n144_0 (c214:F214):Nat→A144_0
  |0,_,_,_=>none
  |n+1,x,y,z=>w144_0 c214 (fun y z=>n144_0 c214 n x y z) x y z
theorem s144 (c214:F214) (l0:A144_0) (y):Z4 (E144 c214 l0) Tryz.f144 i144 o144 y=m144 c214 l0 y:=by kernel_rfl
noncomputable def L144_0:A144_0:=n144_0 r214 fuel
noncomputable def r144:F144:=m144 r214 L144_0
theorem k144:KO (g144 r144):=by
  have hE: ∀g f,(E144 r214 L144_0).env.fns g=some f→Zr Tryz.prog g f:=Qb ⟨k214,⟨⟩⟩
  have h0:ZN Tryz.prog Tryz.f144.ntmps (Zg (Zh Tryz.f144) 0) (e144_0 L144_0):=Z1 (E:=E144 r214 L144_0) rfl hE mixed (Zn.of_list (l:=[]) (by kernel_rfl) trivial) (n144_0 r214) (fun _ _ _=>rfl) (fun n x y z=>t144_0 r214 L144_0 _ x y z) rfl
  exact Qh (E:=E144 r214 L144_0) rfl hE mixed (by kernel_rfl) (by kernel_rfl) (Zn.of_list (l:=[(Zg (Zh Tryz.f144) 0)]) (by kernel_rfl) (.one (by kernel_rfl) h0 trivial)) (s144 r214 L144_0)
abbrev i72:Ts:=[.a q6]
abbrev o72:Ts:=[.v (.bool)]
abbrev F72:=FT i72 o72
abbrev g72:=mkG 72 i72 o72
noncomputable def m72 (c142:F142) (c143:F143) (c144:F144) (y:PTup i72):Option (PTup o72×BTup i72):=
  (c142 ((y.1.1,(y.1.2.1,(y.1.2.2.1,(y.1.2.2.2.1,(y.1.2.2.2.2.1,(y.1.2.2.2.2.2.1,(y.1.2.2.2.2.2.2.1,(y.1.2.2.2.2.2.2.2.1,())))))))),())).bind fun r0=>
  bif (!r0.1.1)then no
  else (c143 ((y.1.2.2.2.2.2.2.2.2.1,(y.1.2.2.2.2.2.2.2.2.2.1,())),())).bind fun r1=>
  bif (!r1.1.1)then no
  else bif (eqI (Zb y.1.2.2.2.2.2.2.2.2.2.1) 0)then ((c144 (y.1.2.2.2.2.2.2.2.2.2.2.1,(y.1.1,()))).bind fun r2=>
   some (r2.1,()))
  else bif (ltI 0 (Zb y.1.2.2.2.2.2.2.2.2.2.1))then (bif (leI y.1.1 (rdE .t y.1.2.2.2.2.2.2.2.2.2.1 (0:Int)).1)then ((c144 (y.1.2.2.2.2.2.2.2.2.2.2.1,(y.1.1,()))).bind fun r2=>
    some (r2.1,()))
   else no)
  else none
theorem s72 (c142:F142) (c143:F143) (c144:F144) (y):TE [g142 c142,g143 c143,g144 c144] Tryz.f72 i72 o72 y=m72 c142 c143 c144 y:=by kernel_rfl
noncomputable def r72:F72:=m72 r142 r143 r144
theorem k72:KO (g72 r72):=fk (s72 r142 r143 r144) ⟨k142,k143,k144,⟨⟩⟩ (by kernel_rfl)
abbrev i145:Ts:=[.a q13]
abbrev o145:Ts:=[.v (.bool)]
abbrev F145:=FT i145 o145
abbrev g145:=mkG 145 i145 o145
noncomputable def m145 (c28:F28) (c74:F74) (y:PTup i145):Option (PTup o145×BTup i145):=
  (c28 (y.1.1,((0:Int),((20000:Int),())))).bind fun r0=>
  bif r0.1.1 then ((c74 (y.1.2.1,())).bind fun r1=>
   bif r1.1.1 then ((c74 (y.1.2.2.1,())).bind fun r2=>
    bif r2.1.1 then ((c28 (y.1.2.2.2.1,((0:Int),((1:Int),())))).bind fun r3=>
     bif r3.1.1 then ((c28 (y.1.2.2.2.2.1,((0:Int),((31:Int),())))).bind fun r4=>
      some (r4.1,()))
     else no)
    else no)
   else no)
  else no
theorem s145 (c28:F28) (c74:F74) (y):TE [g28 c28,g74 c74] Tryz.f145 i145 o145 y=m145 c28 c74 y:=by kernel_rfl
noncomputable def r145:F145:=m145 r28 r74
theorem k145:KO (g145 r145):=fk (s145 r28 r74) ⟨k28,k74,⟨⟩⟩ (by kernel_rfl)
abbrev i73:Ts:=[.a q8]
abbrev o73:Ts:=[.v (.bool)]
abbrev F73:=FT i73 o73
abbrev g73:=mkG 73 i73 o73
noncomputable def m73 (c145:F145) (c143:F143) (y:PTup i73):Option (PTup o73×BTup i73):=
  (c145 ((y.1.1,(y.1.2.1,(y.1.2.2.1,(y.1.2.2.2.1,(y.1.2.2.2.2.1,(y.1.2.2.2.2.2.1,(y.1.2.2.2.2.2.2.1,()))))))),())).bind fun r0=>
  bif (!r0.1.1)then no
  else (c143 ((y.1.2.2.2.2.2.2.2.1,(y.1.2.2.2.2.2.2.2.2.1,())),())).bind fun r1=>
  bif (!r1.1.1)then no
  else bif (eqI (Zb y.1.2.2.2.2.2.2.2.2.1) 0)then (some (((eqI (Zb y.1.2.2.2.2.2.2.2.2.2.1) (wI (Int.tdiv y.1.1 16))),()),()))
  else bif (ltI 0 (Zb y.1.2.2.2.2.2.2.2.2.1))then (bif (leI y.1.1 (rdE .t y.1.2.2.2.2.2.2.2.2.1 (0:Int)).1)then (some (((eqI (Zb y.1.2.2.2.2.2.2.2.2.2.1) (wI (Int.tdiv y.1.1 16))),()),()))
   else no)
  else none
theorem s73 (c145:F145) (c143:F143) (y):TE [g145 c145,g143 c143] Tryz.f73 i73 o73 y=m73 c145 c143 y:=by kernel_rfl
noncomputable def r73:F73:=m73 r145 r143
theorem k73:KO (g73 r73):=fk (s73 r145 r143) ⟨k145,k143,⟨⟩⟩ (by kernel_rfl)
abbrev i75:Ts:=[.a q5]
abbrev o75:Ts:=[.v (.int .i64)]
abbrev F75:=FT i75 o75
abbrev g75:=mkG 75 i75 o75
noncomputable def m75 (y:PTup i75):Option (PTup o75×BTup i75):=
  bif (eqI (Zb y.1.2.1) 0)then (some (((0:Int),()),()))
  else bif (leI 0 (wI ((Zb y.1.2.1)-1)))then (bif (ltI (wI ((Zb y.1.2.1)-1)) (Zb y.1.2.1))then (some (((rdE .t y.1.2.1 (wI ((Zb y.1.2.1)-1))).1,()),()))
   else none)
  else none
theorem s75 (y):TE [] Tryz.f75 i75 o75 y=m75 y:=by kernel_rfl
noncomputable def r75:F75:=m75
theorem k75:KO (g75 r75):=fk (s75) trivial (by kernel_rfl)
abbrev i15:Ts:=[.a q10]
abbrev o15:Ts:=[.v (.bool)]
abbrev F15:=FT i15 o15
abbrev g15:=mkG 15 i15 o15
noncomputable def m15 (c71:F71) (c70:F70) (c69:F69) (c72:F72) (c73:F73) (c75:F75) (c28:F28) (c74:F74) (y:PTup i15):Option (PTup o15×BTup i15):=
  let a0:=y.1;let a1:=a0.2;let a2:=a1.2;let a3:=a2.2;let a4:=a3.2;let a5:=a4.2;let a6:=a5.2;let a7:=a6.2;let a8:=a7.2;let a9:=a8.2;let a10:=a9.2;let a11:=a10.2;let a12:=a11.2;let a13:=a12.2;let a14:=a13.2;let a15:=a14.2;let a16:=a15.2;let a17:=a16.2;let a18:=a17.2;let a19:=a18.2;let a20:=a19.2;let a21:=a20.2;let a22:=a21.2;let a23:=a22.2;let a24:=a23.2;let a25:=a24.2;let a26:=a25.2;let a27:=a26.2;let a28:=a27.2;let a29:=a28.2.2;let a30:=a29.2.2.2.2.2.2.2.2.2;(c69 (a1.1,())).bind fun r0=>
  bif (!r0.1.1)then no
  else (c70 ((a0.1,()),((a2.1,(a3.1,())),()))).bind fun r1=>
  bif (!r1.1.1)then no
  else (c71 ((a4.1,(a5.1,(a6.1,(a7.1,(a8.1,(a9.1,(a10.1,(a11.1,())))))))),())).bind fun r2=>
  bif (!r2.1.1)then no
  else (c72 ((a21.1,(a22.1,(a23.1,(a24.1,(a25.1,(a26.1,(a27.1,(a28.1,(a28.2.1,(a29.1,(a29.2.1,()))))))))))),())).bind fun r3=>
  bif (!r3.1.1)then no
  else (c73 (a29.2.2,())).bind fun r4=>
  bif (!r4.1.1)then no
  else (c74 (a13.1,())).bind fun r5=>
  bif (!r5.1.1)then no
  else (c74 (a16.1,())).bind fun r6=>
  bif (!r6.1.1)then no
  else (c28 (a14.1,((0:Int),((20000:Int),())))).bind fun r7=>
  bif (!r7.1.1)then no
  else (c28 (a18.1,((0:Int),(a14.1,())))).bind fun r8=>
  bif (!r8.1.1)then no
  else (c28 (a19.1,((0:Int),(a14.1,())))).bind fun r9=>
  bif (!r9.1.1)then no
  else bif (ltI a14.1 a21.1)then no
  else bif (ltI a14.1 a29.2.2.1)then no
  else (c75 ((a28.2.1,(a29.1,())),())).bind fun r10=>
  bif (leI r10.1.1 a14.1)then ((c75 ((a30.1,(a30.2.1,())),())).bind fun r11=>
   some (((leI r11.1.1 a14.1),()),()))
  else no
theorem s15 (c71:F71) (c70:F70) (c69:F69) (c72:F72) (c73:F73) (c75:F75) (c28:F28) (c74:F74) (y):TE [g71 c71,g70 c70,g69 c69,g72 c72,g73 c73,g75 c75,g28 c28,g74 c74] Tryz.f15 i15 o15 y=m15 c71 c70 c69 c72 c73 c75 c28 c74 y:=by kernel_rfl
noncomputable def r15:F15:=m15 r71 r70 r69 r72 r73 r75 r28 r74
theorem k15:KO (g15 r15):=fk (s15 r71 r70 r69 r72 r73 r75 r28 r74) ⟨k71,k70,k69,k72,k73,k75,k28,k74,⟨⟩⟩ (by kernel_rfl)
abbrev i167:Ts:=[.a q10, .v (.int .i64)]
abbrev o167:Ts:=[.v (.int .i64)]
abbrev F167:=FT i167 o167
abbrev g167:=mkG 167 i167 o167
noncomputable def m167 (y:PTup i167):Option (PTup o167×BTup i167):=
  bif (ltI 20000 (wI (y.1.2.2.2.2.2.2.2.2.2.2.2.2.2.2.1+y.2.1)))then (some (((5:Int),()),()))
  else some (((0:Int),()),())
theorem s167 (y):TE [] Tryz.f167 i167 o167 y=m167 y:=by kernel_rfl
noncomputable def r167:F167:=m167
theorem k167:KO (g167 r167):=fk (s167) trivial (by kernel_rfl)
abbrev i106:Ts:=[.v (.int .i64), .v (.int .i64)]
abbrev o106:Ts:=[.v (.int .i64)]
abbrev F106:=FT i106 o106
abbrev g106:=mkG 106 i106 o106
noncomputable def m106 (y:PTup i106):Option (PTup o106×BTup i106):=
  bif (ltI y.2.1 y.1)then (some ((y.1,()),()))
  else some (y.2,())
theorem s106 (y):TE [] Tryz.f106 i106 o106 y=m106 y:=by kernel_rfl
noncomputable def r106:F106:=m106
theorem k106:KO (g106 r106):=fk (s106) trivial (by kernel_rfl)
abbrev i105:Ts:=[.v (.int .i64), .v (.int .i64)]
abbrev o105:Ts:=[.v (.int .i64)]
abbrev F105:=FT i105 o105
abbrev g105:=mkG 105 i105 o105
noncomputable def m105 (y:PTup i105):Option (PTup o105×BTup i105):=
  bif (ltI y.1 y.2.1)then (some ((y.1,()),()))
  else some (y.2,())
theorem s105 (y):TE [] Tryz.f105 i105 o105 y=m105 y:=by kernel_rfl
noncomputable def r105:F105:=m105
theorem k105:KO (g105 r105):=fk (s105) trivial (by kernel_rfl)
abbrev i224:Ts:=[.v (.int .i64), .v (.int .i64), .v (.int .i64), .v (.int .i64)]
abbrev o224:Ts:=[.v (.bool)]
abbrev F224:=FT i224 o224
abbrev g224:=mkG 224 i224 o224
noncomputable def m224 (c106:F106) (c105:F105) (y:PTup i224):Option (PTup o224×BTup i224):=
  (c106 (y.1,((0:Int),()))).bind fun r0=>
  (c105 (y.2.1,((20000:Int),()))).bind fun r1=>
  bif (leI r1.1.1 r0.1.1)then no
  else bif (neI y.2.2.2.1 0)then (bif (neI y.2.2.2.1 0)then (some (((ltI (wI (r0.1.1+(Int.tmod (wI ((wI (y.2.2.1-(Int.tmod r0.1.1 y.2.2.2.1)))+y.2.2.2.1)) y.2.2.2.1))) r1.1.1),()),()))
   else none)
  else none
theorem s224 (c106:F106) (c105:F105) (y):TE [g106 c106,g105 c105] Tryz.f224 i224 o224 y=m224 c106 c105 y:=by kernel_rfl
noncomputable def r224:F224:=m224 r106 r105
theorem k224:KO (g224 r224):=fk (s224 r106 r105) ⟨k106,k105,⟨⟩⟩ (by kernel_rfl)
abbrev i168:Ts:=[.v (.int .i64), .v (.int .i64)]
abbrev o168:Ts:=[.v (.bool)]
abbrev F168:=FT i168 o168
abbrev g168:=mkG 168 i168 o168
noncomputable def m168 (c224:F224) (y:PTup i168):Option (PTup o168×BTup i168):=
  (c224 (y.1,(y.2.1,((0:Int),((32:Int),()))))).bind fun r0=>
  some (r0.1,())
theorem s168 (c224:F224) (y):TE [g224 c224] Tryz.f168 i168 o168 y=m168 c224 y:=by kernel_rfl
noncomputable def r168:F168:=m168 r224
theorem k168:KO (g168 r168):=fk (s168 r224) ⟨k224,⟨⟩⟩ (by kernel_rfl)
abbrev i169:Ts:=[.a q10]
abbrev o169:Ts:=[.v (.bool)]
abbrev F169:=FT i169 o169
abbrev g169:=mkG 169 i169 o169
noncomputable def m169 (y:PTup i169):Option (PTup o169×BTup i169):=
  bif (eqI y.1.2.2.2.2.2.2.2.2.2.2.2.2.2.2.2.2.2.2.2.2.2.2.2.2.2.2.2.2.2.2.2.2.1 y.1.2.2.2.2.2.2.2.2.2.2.2.2.2.2.1)then (some (((eqI (Zb y.1.2.2.2.2.2.2.2.2.2.2.2.2.2.2.2.2.2.2.2.2.2.2.2.2.2.2.2.2.2.2.2.2.2.2.2.2.2.2.2.2.1) 0),()),()))
  else no
theorem s169 (y):TE [] Tryz.f169 i169 o169 y=m169 y:=by kernel_rfl
noncomputable def r169:F169:=m169
theorem k169:KO (g169 r169):=fk (s169) trivial (by kernel_rfl)
abbrev i170:Ts:=[.a q10]
abbrev o170:Ts:=[.v (.bool)]
abbrev F170:=FT i170 o170
abbrev g170:=mkG 170 i170 o170
noncomputable def m170 (c168:F168) (y:PTup i170):Option (PTup o170×BTup i170):=
  (c168 (y.1.2.2.2.2.2.2.2.2.2.2.2.2.2.2.2.2.2.2.1,(y.1.2.2.2.2.2.2.2.2.2.2.2.2.2.2.1,()))).bind fun r0=>
  bif r0.1.1 then (some ((y.1.2.2.2.2.2.2.2.2.2.2.2.2.2.2.2.2.2.2.2.2.2.2.2.2.2.2.2.2.2.2.2.2.2.2.2.2.2.2.1,()),()))
  else some ((y.1.2.2.2.2.2.2.2.2.2.2.2.2.2.2.2.2.2.1,()),())
theorem s170 (c168:F168) (y):TE [g168 c168] Tryz.f170 i170 o170 y=m170 c168 y:=by kernel_rfl
noncomputable def r170:F170:=m170 r168
theorem k170:KO (g170 r170):=fk (s170 r168) ⟨k168,⟨⟩⟩ (by kernel_rfl)
abbrev i229:Ts:=[.v (.int .i64)]
abbrev o229:Ts:=[.v (.int .i64)]
abbrev F229:=FT i229 o229
abbrev g229:=mkG 229 i229 o229
noncomputable def m229 (y:PTup i229):Option (PTup o229×BTup i229):=
  some (((ZD Go.IntKind.i64 y.1 (65535:Int)),()),())
theorem s229 (y):TE [] Tryz.f229 i229 o229 y=m229 y:=by kernel_rfl
noncomputable def r229:F229:=m229
theorem k229:KO (g229 r229):=fk (s229) trivial (by kernel_rfl)
abbrev i173:Ts:=[.v (.int .i64)]
abbrev o173:Ts:=[.v (.int .i64), .v (.int .i64)]
abbrev F173:=FT i173 o173
abbrev g173:=mkG 173 i173 o173
noncomputable def m173 (c229:F229) (y:PTup i173):Option (PTup o173×BTup i173):=
  (c229 y).bind fun r0=>
  bif (ltI r0.1.1 8192)then (some (((1:Int),((Int.tmod r0.1.1 512),())),()))
  else bif (ltI r0.1.1 16384)then (some (((2:Int),((Int.tmod r0.1.1 8),())),()))
  else bif (ltI r0.1.1 16388)then (some (((3:Int),((Int.tmod r0.1.1 4),())),()))
  else bif (eqI r0.1.1 16406)then (some (((4:Int),((0:Int),())),()))
  else bif (ltI r0.1.1 32768)then (some (((7:Int),((0:Int),())),()))
  else bif (ltI r0.1.1 49152)then (some (((5:Int),((Int.tmod r0.1.1 256),())),()))
  else some (((6:Int),((Int.tmod r0.1.1 256),())),())
theorem s173 (c229:F229) (y):TE [g229 c229] Tryz.f173 i173 o173 y=m173 c229 y:=by kernel_rfl
noncomputable def r173:F173:=m173 r229
theorem k173:KO (g173 r173):=fk (s173 r229) ⟨k229,⟨⟩⟩ (by kernel_rfl)
abbrev i288:Ts:=[.a q0, .a q1, .v (.int .i64)]
abbrev o288:Ts:=[.v (.int .i64)]
abbrev F288:=FT i288 o288
abbrev g288:=mkG 288 i288 o288
noncomputable def m288 (c173:F173) (y:PTup i288):Option (PTup o288×BTup i288):=
  (c173 y.2.2).bind fun r0=>
  bif (eqI r0.1.1 1)then (bif (leI 0 r0.1.2.1)then (bif (ltI r0.1.2.1 (Zb y.2.1.1))then (some (((rdE .i y.2.1.1 r0.1.2.1),()),()))
    else none)
   else none)
  else bif (eqI r0.1.1 5)then (bif (leI 0 y.2.1.2.1)then (bif (ltI y.2.1.2.1 (Zb y.1.1))then (bif (leI 0 r0.1.2.1)then (bif (ltI r0.1.2.1 (Zb (rdE .n y.1.1 y.2.1.2.1)))then (some (((rdI (rdE .n y.1.1 y.2.1.2.1) r0.1.2.1),()),()))
      else none)
     else none)
    else none)
   else none)
  else bif (eqI r0.1.1 6)then (bif (leI 0 (wI ((Zb y.1.1)-1)))then (bif (ltI (wI ((Zb y.1.1)-1)) (Zb y.1.1))then (bif (leI 0 r0.1.2.1)then (bif (ltI r0.1.2.1 (Zb (rdE .n y.1.1 (wI ((Zb y.1.1)-1)))))then (some (((rdI (rdE .n y.1.1 (wI ((Zb y.1.1)-1))) r0.1.2.1),()),()))
      else none)
     else none)
    else none)
   else none)
  else some (((0:Int),()),())
theorem s288 (c173:F173) (y):TE [g173 c173] Tryz.f288 i288 o288 y=m288 c173 y:=by kernel_rfl
noncomputable def r288:F288:=m288 r173
theorem k288:KO (g288 r288):=fk (s288 r173) ⟨k173,⟨⟩⟩ (by kernel_rfl)
abbrev i225:Ts:=[.a q0, .a q1, .v (.int .i64)]
abbrev o225:Ts:=[.v (.int .i64)]
abbrev F225:=FT i225 o225
abbrev g225:=mkG 225 i225 o225
noncomputable def m225 (c70:F70) (c288:F288) (y:PTup i225):Option (PTup o225×BTup i225):=
  (c70 (y.1,(y.2.1,()))).bind fun r0=>
  bif (!r0.1.1)then (some (((0:Int),()),()))
  else (c288 y).bind fun r1=>
  some (r1.1,())
theorem s225 (c70:F70) (c288:F288) (y):TE [g70 c70,g288 c288] Tryz.f225 i225 o225 y=m225 c70 c288 y:=by kernel_rfl
noncomputable def r225:F225:=m225 r70 r288
theorem k225:KO (g225 r225):=fk (s225 r70 r288) ⟨k70,k288,⟨⟩⟩ (by kernel_rfl)
abbrev i226:Ts:=[.v (.int .i64)]
abbrev o226:Ts:=[.v (.int .i64)]
abbrev F226:=FT i226 o226
abbrev g226:=mkG 226 i226 o226
noncomputable def m226 (c28:F28) (y:PTup i226):Option (PTup o226×BTup i226):=
  (c28 (y.1,((0:Int),((29:Int),())))).bind fun r0=>
  bif (!r0.1.1)then (some (((1:Int),()),()))
  else bif (leI 0 y.1)then (bif (ltI y.1 (Zb ((1:Int)::((2:Int)::((3:Int)::((3:Int)::((2:Int)::((2:Int)::((2:Int)::((2:Int)::((2:Int)::((2:Int)::((1:Int)::((1:Int)::((1:Int)::((1:Int)::((3:Int)::((3:Int)::((3:Int)::((3:Int)::((3:Int)::((3:Int)::((3:Int)::((1:Int)::((1:Int)::((1:Int)::((1:Int)::((1:Int)::((1:Int)::((1:Int)::((1:Int)::((3:Int)::[]))))))))))))))))))))))))))))))))then (some (((rdE .i ((1:Int)::((2:Int)::((3:Int)::((3:Int)::((2:Int)::((2:Int)::((2:Int)::((2:Int)::((2:Int)::((2:Int)::((1:Int)::((1:Int)::((1:Int)::((1:Int)::((3:Int)::((3:Int)::((3:Int)::((3:Int)::((3:Int)::((3:Int)::((3:Int)::((1:Int)::((1:Int)::((1:Int)::((1:Int)::((1:Int)::((1:Int)::((1:Int)::((1:Int)::((3:Int)::[])))))))))))))))))))))))))))))) y.1),()),()))
   else none)
  else none
theorem s226 (c28:F28) (y):TE [g28 c28] Tryz.f226 i226 o226 y=m226 c28 y:=by kernel_rfl
noncomputable def r226:F226:=m226 r28
theorem k226:KO (g226 r226):=fk (s226 r28) ⟨k28,⟨⟩⟩ (by kernel_rfl)
abbrev i230:Ts:=[.v (.int .i64)]
abbrev o230:Ts:=[.v (.int .i64)]
abbrev F230:=FT i230 o230
abbrev g230:=mkG 230 i230 o230
noncomputable def m230 (y:PTup i230):Option (PTup o230×BTup i230):=
  some (((ZD Go.IntKind.i64 y.1 (255:Int)),()),())
theorem s230 (y):TE [] Tryz.f230 i230 o230 y=m230 y:=by kernel_rfl
noncomputable def r230:F230:=m230
theorem k230:KO (g230 r230):=fk (s230) trivial (by kernel_rfl)
abbrev i227:Ts:=[.v (.int .i64), .v (.int .i64)]
abbrev o227:Ts:=[.v (.int .i64)]
abbrev F227:=FT i227 o227
abbrev g227:=mkG 227 i227 o227
noncomputable def m227 (c230:F230) (y:PTup i227):Option (PTup o227×BTup i227):=
  (c230 (y.1,())).bind fun r0=>
  (c230 y.2).bind fun r1=>
  some (((wI (r0.1.1+(wI ((256:Int)*r1.1.1)))),()),())
theorem s227 (c230:F230) (y):TE [g230 c230] Tryz.f227 i227 o227 y=m227 c230 y:=by kernel_rfl
noncomputable def r227:F227:=m227 r230
theorem k227:KO (g227 r227):=fk (s227 r230) ⟨k230,⟨⟩⟩ (by kernel_rfl)
abbrev i171:Ts:=[.a q0, .a q1, .v (.int .i64)]
abbrev o171:Ts:=[.a q14]
abbrev F171:=FT i171 o171
abbrev g171:=mkG 171 i171 o171
noncomputable def m171 (c227:F227) (c226:F226) (c225:F225) (y:PTup i171):Option (PTup o171×BTup i171):=
  (c225 y).bind fun r0=>
  (c226 r0.1).bind fun r1=>
  bif (eqI r1.1.1 2)then ((c225 (y.1,(y.2.1,((wI (y.2.2.1+1)),())))).bind fun r2=>
   some (((r0.1.1,r2.1),()),()))
  else bif (eqI r1.1.1 3)then ((c225 (y.1,(y.2.1,((wI (y.2.2.1+1)),())))).bind fun r2=>
   (c225 (y.1,(y.2.1,((wI (y.2.2.1+2)),())))).bind fun r3=>
   (c227 (r2.1.1,r3.1)).bind fun r4=>
   some (((r0.1.1,r4.1),()),()))
  else some (((r0.1.1,((0:Int),())),()),())
theorem s171 (c227:F227) (c226:F226) (c225:F225) (y):TE [g227 c227,g226 c226,g225 c225] Tryz.f171 i171 o171 y=m171 c227 c226 c225 y:=by kernel_rfl
noncomputable def r171:F171:=m171 r227 r226 r225
theorem k171:KO (g171 r171):=fk (s171 r227 r226 r225) ⟨k227,k226,k225,⟨⟩⟩ (by kernel_rfl)
abbrev i228:Ts:=[.v (.int .i64)]
abbrev o228:Ts:=[.v (.int .i64)]
abbrev R228:=Option (PTup o228×BTup i228)
abbrev F228:=PTup i228→R228
abbrev g228:=mkG 228 i228 o228
noncomputable def m228 (y:PTup i228):R228:=
  let X0:R228:=bif (eqI y.1 3)then (bif (eqI y.1 3)then (some (((2:Int),()),()))else some (((0:Int),()),()))else bif (eqI y.1 15)then (some (((2:Int),()),()))else some (((0:Int),()),());bif (eqI y.1 2)then (bif (eqI y.1 2)then (some (((1:Int),()),()))else X0)else bif (eqI y.1 14)then (bif (eqI y.1 14)then (some (((1:Int),()),()))else X0)else bif (eqI y.1 29)then (some (((1:Int),()),()))else X0
theorem s228 (y):TE [] Tryz.f228 i228 o228 y=m228 y:=by kernel_rfl
noncomputable def r228:F228:=m228
theorem k228:KO (g228 r228):=fk (s228) trivial (by kernel_rfl)
abbrev i172:Ts:=[.a q14, .a q12]
abbrev o172:Ts:=[.v (.int .i64), .v (.int .i64), .v (.int .i64)]
abbrev R172:=Option (PTup o172×BTup i172)
abbrev F172:=PTup i172→R172
abbrev g172:=mkG 172 i172 o172
noncomputable def m172 (c229:F229) (c230:F230) (c228:F228) (y:PTup i172):R172:=
  (c228 (y.1.1,())).bind fun r0=>let X0:R172:=bif (eqI r0.1.1 1)then ((c229 ((wI (y.1.2.1+y.2.1.2.1)),())).bind fun r1=>some ((r0.1.1,(r1.1.1,((0:Int),()))),()))else (c229 ((wI (y.1.2.1+y.2.1.2.1)),())).bind fun r1=>(c230 (y.2.1.1,())).bind fun r2=>some ((r0.1.1,(r1.1.1,r2.1)),());bif (eqI r0.1.1 0)then (some (((0:Int),((0:Int),((0:Int),()))),()))else bif (eqI y.1.1 14)then X0 else bif (eqI y.1.1 15)then X0 else bif (eqI r0.1.1 1)then ((c229 y.1.2).bind fun r1=>some ((r0.1.1,(r1.1.1,((0:Int),()))),()))else (c229 y.1.2).bind fun r1=>(c230 (y.2.1.1,())).bind fun r2=>some ((r0.1.1,(r1.1.1,r2.1)),())
theorem s172 (c229:F229) (c230:F230) (c228:F228) (y):TE [g229 c229,g230 c230,g228 c228] Tryz.f172 i172 o172 y=m172 c229 c230 c228 y:=by kernel_rfl
noncomputable def r172:F172:=m172 r229 r230 r228
theorem k172:KO (g172 r172):=fk (s172 r229 r230 r228) ⟨k229,k230,k228,⟨⟩⟩ (by kernel_rfl)
abbrev i174:Ts:=[.a q10]
abbrev o174:Ts:=[.v (.bool)]
abbrev F174:=FT i174 o174
abbrev g174:=mkG 174 i174 o174
noncomputable def m174 (y:PTup i174):Option (PTup o174×BTup i174):=
  bif (eqI y.1.2.2.2.2.2.2.2.2.2.2.2.2.2.2.2.2.2.2.2.2.2.1 y.1.2.2.2.2.2.2.2.2.2.2.2.2.2.2.1)then (some (((eqI (Zb y.1.2.2.2.2.2.2.2.2.2.2.2.2.2.2.2.2.2.2.2.2.2.2.2.2.2.2.2.2.2.2.1) 0),()),()))
  else no
theorem s174 (y):TE [] Tryz.f174 i174 o174 y=m174 y:=by kernel_rfl
noncomputable def r174:F174:=m174
theorem k174:KO (g174 r174):=fk (s174) trivial (by kernel_rfl)
abbrev i175:Ts:=[.v (.int .i64)]
abbrev o175:Ts:=[.v (.int .i64)]
abbrev F175:=FT i175 o175
abbrev g175:=mkG 175 i175 o175
noncomputable def m175 (c28:F28) (y:PTup i175):Option (PTup o175×BTup i175):=
  (c28 (y.1,((0:Int),((29:Int),())))).bind fun r0=>
  bif (!r0.1.1)then (some (((2:Int),()),()))
  else bif (leI 0 y.1)then (bif (ltI y.1 (Zb ((2:Int)::((2:Int)::((4:Int)::((4:Int)::((2:Int)::((2:Int)::((2:Int)::((2:Int)::((2:Int)::((2:Int)::((2:Int)::((2:Int)::((2:Int)::((2:Int)::((4:Int)::((5:Int)::((3:Int)::((3:Int)::((3:Int)::((3:Int)::((6:Int)::((6:Int)::((3:Int)::((4:Int)::((6:Int)::((2:Int)::((2:Int)::((2:Int)::((2:Int)::((4:Int)::[]))))))))))))))))))))))))))))))))then (some (((rdE .i ((2:Int)::((2:Int)::((4:Int)::((4:Int)::((2:Int)::((2:Int)::((2:Int)::((2:Int)::((2:Int)::((2:Int)::((2:Int)::((2:Int)::((2:Int)::((2:Int)::((4:Int)::((5:Int)::((3:Int)::((3:Int)::((3:Int)::((3:Int)::((6:Int)::((6:Int)::((3:Int)::((4:Int)::((6:Int)::((2:Int)::((2:Int)::((2:Int)::((2:Int)::((4:Int)::[])))))))))))))))))))))))))))))) y.1),()),()))
   else none)
  else none
theorem s175 (c28:F28) (y):TE [g28 c28] Tryz.f175 i175 o175 y=m175 c28 y:=by kernel_rfl
noncomputable def r175:F175:=m175 r28
theorem k175:KO (g175 r175):=fk (s175 r28) ⟨k28,⟨⟩⟩ (by kernel_rfl)
abbrev i96:Ts:=[.a q10]
abbrev o96:Ts:=[.v (.int .i64)]
abbrev R96:=Option (PTup o96×BTup i96)
abbrev F96:=PTup i96→R96
abbrev g96:=mkG 96 i96 o96
noncomputable def m96 (c172:F172) (c168:F168) (c171:F171) (c175:F175) (c173:F173) (c170:F170) (c167:F167) (c174:F174) (c169:F169) (y:PTup i96):R96:=
  let a0:=y.1;let a1:=a0.2;let a2:=a1.2;let a3:=a2.2;let a4:=a3.2;let a5:=a4.2;let a6:=a5.2;let a7:=a6.2;let a8:=a7.2;let a9:=a8.2;let a10:=a9.2;let a11:=a10.2;let a12:=a11.2;let a13:=a12.2;let a14:=a13.2;let a15:=a14.2;let a16:=a15.2;let a17:=a16.2;let a18:=a17.2;let a19:=a18.2;let a20:=a19.2;let a21:=a20.2;let a22:=a21.2;let a23:=a22.2;let a24:=a23.2;let a25:=a24.2;let a26:=a25.2;let a27:=a26.2;let a28:=a27.2;let a29:=a28.2;let a30:=a29.1;let a31:=a29.2;let a32:=a31.1;let a33:=a31.2;let a34:=a33.2;let a35:=a34.2;let a36:=a35.2;let a37:=a36.2;let a38:=a37.2;let a39:=a38.2;let a40:=a39.2;let a41:=a40.2;let a42:=a41.2.1;bif a15.1 then ((c167 (a0,((7:Int),()))).bind fun r0=>some (r0.1,()))else bif (!a11.1)then ((c168 (a18.1,(a14.1,()))).bind fun r0=>bif r0.1.1 then ((c169 (a0,())).bind fun r1=>bif (!r1.1.1)then (some (((2:Int),()),()))else (c170 (a0,())).bind fun r2=>bif r2.1.1 then ((c167 (a0,((7:Int),()))).bind fun r3=>some (r3.1,()))else (c171 ((a0.1,()),((a2.1,(a3.1,())),(a7.1,())))).bind fun r3=>let X0:R96:=bif (eqI (Zb a42) a41.1)then (some (((4:Int),()),()))else (c175 (r3.1.1.1,())).bind fun r7=>(c167 (a0,r7.1)).bind fun r8=>some (r8.1,());let X1:R96:=bif (eqI (Zb a42) a41.1)then (some (((4:Int),()),()))else (c175 (r3.1.1.1,())).bind fun r6=>(c167 (a0,r6.1)).bind fun r7=>some (r7.1,());let X2:R96:=(c175 (r3.1.1.1,())).bind fun r7=>(c167 (a0,r7.1)).bind fun r8=>some (r8.1,());let X3:R96:=(c175 (r3.1.1.1,())).bind fun r6=>(c167 (a0,r6.1)).bind fun r7=>some (r7.1,());let X4:R96:=(c175 (r3.1.1.1,())).bind fun r8=>(c167 (a0,r8.1)).bind fun r9=>some (r9.1,());let X5:R96:=bif (eqI (Zb a42) a41.1)then (some (((4:Int),()),()))else X4;(c172 (r3.1.1,((a4.1,(a5.1,(a6.1,(a7.1,(a8.1,(a9.1,(a10.1,(a11.1,())))))))),()))).bind fun r4=>(c173 (r4.1.2.1,())).bind fun r5=>let X6:R96:=bif (eqI r4.1.1 1)then (bif (eqI r5.1.1 3)then ((c169 (a0,())).bind fun r6=>let X9:R96:=bif (eqI r4.1.1 2)then (bif (eqI r5.1.1 3)then X0 else X2)else X2;bif (!r6.1.1)then (some (((2:Int),()),()))else bif (eqI r4.1.1 2)then (bif (eqI r5.1.1 2)then (bif (eqI (Zb a32) a30)then (some (((3:Int),()),()))else X9)else X9)else X9)else bif (eqI r4.1.1 2)then (bif (eqI r5.1.1 2)then (bif (eqI (Zb a32) a30)then (some (((3:Int),()),()))else bif (eqI r4.1.1 2)then (bif (eqI r5.1.1 3)then X1 else X3)else X3)else bif (eqI r4.1.1 2)then (bif (eqI r5.1.1 3)then X1 else X3)else X3)else bif (eqI r4.1.1 2)then (bif (eqI r5.1.1 3)then X1 else X3)else X3)else bif (eqI r4.1.1 2)then (bif (eqI r5.1.1 2)then (bif (eqI (Zb a32) a30)then (some (((3:Int),()),()))else bif (eqI r4.1.1 2)then (bif (eqI r5.1.1 3)then X1 else X3)else X3)else bif (eqI r4.1.1 2)then (bif (eqI r5.1.1 3)then X1 else X3)else X3)else bif (eqI r4.1.1 2)then (bif (eqI r5.1.1 3)then X1 else X3)else X3;let X7:R96:=bif (eqI r4.1.1 2)then (bif (eqI r5.1.1 2)then (bif (eqI (Zb a32) a30)then (some (((3:Int),()),()))else bif (eqI r4.1.1 2)then (bif (eqI r5.1.1 3)then X0 else X2)else X2)else bif (eqI r4.1.1 2)then (bif (eqI r5.1.1 3)then X0 else X2)else X2)else bif (eqI r4.1.1 2)then (bif (eqI r5.1.1 3)then X0 else X2)else X2;let X8:R96:=bif (eqI r4.1.1 2)then (bif (eqI r5.1.1 3)then X5 else X4)else X4;bif (eqI r4.1.1 1)then (bif (eqI r5.1.1 2)then ((c174 (a0,())).bind fun r6=>bif (!r6.1.1)then (some (((1:Int),()),()))else bif (eqI r4.1.1 1)then (bif (eqI r5.1.1 3)then ((c169 (a0,())).bind fun r7=>bif (!r7.1.1)then (some (((2:Int),()),()))else bif (eqI r4.1.1 2)then (bif (eqI r5.1.1 2)then (bif (eqI (Zb a32) a30)then (some (((3:Int),()),()))else X8)else X8)else X8)else X7)else X7)else X6)else X6)else (c170 (a0,())).bind fun r1=>bif r1.1.1 then ((c167 (a0,((7:Int),()))).bind fun r2=>some (r2.1,()))else (c171 ((a0.1,()),((a2.1,(a3.1,())),(a7.1,())))).bind fun r2=>let X10:R96:=bif (eqI (Zb a42) a41.1)then (some (((4:Int),()),()))else (c175 (r2.1.1.1,())).bind fun r6=>(c167 (a0,r6.1)).bind fun r7=>some (r7.1,());let X11:R96:=bif (eqI (Zb a42) a41.1)then (some (((4:Int),()),()))else (c175 (r2.1.1.1,())).bind fun r5=>(c167 (a0,r5.1)).bind fun r6=>some (r6.1,());let X12:R96:=(c175 (r2.1.1.1,())).bind fun r6=>(c167 (a0,r6.1)).bind fun r7=>some (r7.1,());let X13:R96:=(c175 (r2.1.1.1,())).bind fun r5=>(c167 (a0,r5.1)).bind fun r6=>some (r6.1,());let X14:R96:=(c175 (r2.1.1.1,())).bind fun r7=>(c167 (a0,r7.1)).bind fun r8=>some (r8.1,());let X15:R96:=bif (eqI (Zb a42) a41.1)then (some (((4:Int),()),()))else X14;(c172 (r2.1.1,((a4.1,(a5.1,(a6.1,(a7.1,(a8.1,(a9.1,(a10.1,(a11.1,())))))))),()))).bind fun r3=>(c173 (r3.1.2.1,())).bind fun r4=>let X16:R96:=bif (eqI r3.1.1 1)then (bif (eqI r4.1.1 3)then ((c169 (a0,())).bind fun r5=>let X19:R96:=bif (eqI r3.1.1 2)then (bif (eqI r4.1.1 3)then X10 else X12)else X12;bif (!r5.1.1)then (some (((2:Int),()),()))else bif (eqI r3.1.1 2)then (bif (eqI r4.1.1 2)then (bif (eqI (Zb a32) a30)then (some (((3:Int),()),()))else X19)else X19)else X19)else bif (eqI r3.1.1 2)then (bif (eqI r4.1.1 2)then (bif (eqI (Zb a32) a30)then (some (((3:Int),()),()))else bif (eqI r3.1.1 2)then (bif (eqI r4.1.1 3)then X11 else X13)else X13)else bif (eqI r3.1.1 2)then (bif (eqI r4.1.1 3)then X11 else X13)else X13)else bif (eqI r3.1.1 2)then (bif (eqI r4.1.1 3)then X11 else X13)else X13)else bif (eqI r3.1.1 2)then (bif (eqI r4.1.1 2)then (bif (eqI (Zb a32) a30)then (some (((3:Int),()),()))else bif (eqI r3.1.1 2)then (bif (eqI r4.1.1 3)then X11 else X13)else X13)else bif (eqI r3.1.1 2)then (bif (eqI r4.1.1 3)then X11 else X13)else X13)else bif (eqI r3.1.1 2)then (bif (eqI r4.1.1 3)then X11 else X13)else X13;let X17:R96:=bif (eqI r3.1.1 2)then (bif (eqI r4.1.1 2)then (bif (eqI (Zb a32) a30)then (some (((3:Int),()),()))else bif (eqI r3.1.1 2)then (bif (eqI r4.1.1 3)then X10 else X12)else X12)else bif (eqI r3.1.1 2)then (bif (eqI r4.1.1 3)then X10 else X12)else X12)else bif (eqI r3.1.1 2)then (bif (eqI r4.1.1 3)then X10 else X12)else X12;let X18:R96:=bif (eqI r3.1.1 2)then (bif (eqI r4.1.1 3)then X15 else X14)else X14;bif (eqI r3.1.1 1)then (bif (eqI r4.1.1 2)then ((c174 (a0,())).bind fun r5=>bif (!r5.1.1)then (some (((1:Int),()),()))else bif (eqI r3.1.1 1)then (bif (eqI r4.1.1 3)then ((c169 (a0,())).bind fun r6=>bif (!r6.1.1)then (some (((2:Int),()),()))else bif (eqI r3.1.1 2)then (bif (eqI r4.1.1 2)then (bif (eqI (Zb a32) a30)then (some (((3:Int),()),()))else X18)else X18)else X18)else X17)else X17)else X16)else X16)else (c171 ((a0.1,()),((a2.1,(a3.1,())),(a7.1,())))).bind fun r0=>let X20:R96:=bif (eqI (Zb a42) a41.1)then (some (((4:Int),()),()))else (c175 (r0.1.1.1,())).bind fun r4=>(c167 (a0,r4.1)).bind fun r5=>some (r5.1,());let X21:R96:=bif (eqI (Zb a42) a41.1)then (some (((4:Int),()),()))else (c175 (r0.1.1.1,())).bind fun r3=>(c167 (a0,r3.1)).bind fun r4=>some (r4.1,());let X22:R96:=(c175 (r0.1.1.1,())).bind fun r4=>(c167 (a0,r4.1)).bind fun r5=>some (r5.1,());let X23:R96:=(c175 (r0.1.1.1,())).bind fun r3=>(c167 (a0,r3.1)).bind fun r4=>some (r4.1,());let X24:R96:=(c175 (r0.1.1.1,())).bind fun r5=>(c167 (a0,r5.1)).bind fun r6=>some (r6.1,());let X25:R96:=bif (eqI (Zb a42) a41.1)then (some (((4:Int),()),()))else X24;(c172 (r0.1.1,((a4.1,(a5.1,(a6.1,(a7.1,(a8.1,(a9.1,(a10.1,(a11.1,())))))))),()))).bind fun r1=>(c173 (r1.1.2.1,())).bind fun r2=>let X26:R96:=bif (eqI r1.1.1 1)then (bif (eqI r2.1.1 3)then ((c169 (a0,())).bind fun r3=>let X29:R96:=bif (eqI r1.1.1 2)then (bif (eqI r2.1.1 3)then X20 else X22)else X22;bif (!r3.1.1)then (some (((2:Int),()),()))else bif (eqI r1.1.1 2)then (bif (eqI r2.1.1 2)then (bif (eqI (Zb a32) a30)then (some (((3:Int),()),()))else X29)else X29)else X29)else bif (eqI r1.1.1 2)then (bif (eqI r2.1.1 2)then (bif (eqI (Zb a32) a30)then (some (((3:Int),()),()))else bif (eqI r1.1.1 2)then (bif (eqI r2.1.1 3)then X21 else X23)else X23)else bif (eqI r1.1.1 2)then (bif (eqI r2.1.1 3)then X21 else X23)else X23)else bif (eqI r1.1.1 2)then (bif (eqI r2.1.1 3)then X21 else X23)else X23)else bif (eqI r1.1.1 2)then (bif (eqI r2.1.1 2)then (bif (eqI (Zb a32) a30)then (some (((3:Int),()),()))else bif (eqI r1.1.1 2)then (bif (eqI r2.1.1 3)then X21 else X23)else X23)else bif (eqI r1.1.1 2)then (bif (eqI r2.1.1 3)then X21 else X23)else X23)else bif (eqI r1.1.1 2)then (bif (eqI r2.1.1 3)then X21 else X23)else X23;let X27:R96:=bif (eqI r1.1.1 2)then (bif (eqI r2.1.1 2)then (bif (eqI (Zb a32) a30)then (some (((3:Int),()),()))else bif (eqI r1.1.1 2)then (bif (eqI r2.1.1 3)then X20 else X22)else X22)else bif (eqI r1.1.1 2)then (bif (eqI r2.1.1 3)then X20 else X22)else X22)else bif (eqI r1.1.1 2)then (bif (eqI r2.1.1 3)then X20 else X22)else X22;let X28:R96:=bif (eqI r1.1.1 2)then (bif (eqI r2.1.1 3)then X25 else X24)else X24;bif (eqI r1.1.1 1)then (bif (eqI r2.1.1 2)then ((c174 (a0,())).bind fun r3=>bif (!r3.1.1)then (some (((1:Int),()),()))else bif (eqI r1.1.1 1)then (bif (eqI r2.1.1 3)then ((c169 (a0,())).bind fun r4=>bif (!r4.1.1)then (some (((2:Int),()),()))else bif (eqI r1.1.1 2)then (bif (eqI r2.1.1 2)then (bif (eqI (Zb a32) a30)then (some (((3:Int),()),()))else X28)else X28)else X28)else X27)else X27)else X26)else X26
theorem s96 (c172:F172) (c168:F168) (c171:F171) (c175:F175) (c173:F173) (c170:F170) (c167:F167) (c174:F174) (c169:F169) (y):TE [g172 c172,g168 c168,g171 c171,g175 c175,g173 c173,g170 c170,g167 c167,g174 c174,g169 c169] Tryz.f96 i96 o96 y=m96 c172 c168 c171 c175 c173 c170 c167 c174 c169 y:=by kernel_rfl
noncomputable def r96:F96:=m96 r172 r168 r171 r175 r173 r170 r167 r174 r169
theorem k96:KO (g96 r96):=fk (s96 r172 r168 r171 r175 r173 r170 r167 r174 r169) ⟨k172,k168,k171,k175,k173,k170,k167,k174,k169,⟨⟩⟩ (by kernel_rfl)
abbrev i30:Ts:=[.v (.int .i64)]
abbrev o30:Ts:=[.v (.str)]
abbrev F30:=FT i30 o30
abbrev g30:=mkG 30 i30 o30
abbrev lc30_0:Ts:=[]
abbrev lb30_0:Ts:=[]
abbrev lv30_0:Ts:=[.v (.int .i64), .v (.str)]
abbrev lr30_0:Ts:=[]
abbrev R30_0:=Option (Sum (PTup lv30_0) (PTup lr30_0)×BTup lb30_0)
abbrev B30_0:=PTup lb30_0→PTup lv30_0→R30_0
abbrev A30_0:=PTup lc30_0→B30_0
noncomputable def w30_0 (again:B30_0) (x:PTup lc30_0) (y:PTup lb30_0) (z:PTup lv30_0):R30_0:=
  bif (ltI 0 z.1)then (bif (leN ((ByteArray.size (Xv ((wB (wI ((48:Int)+(Int.tmod z.1 10))))::[])))+(ByteArray.size z.2.1)) (4611686018427387904:Nat))then (again () ((wI (Int.tdiv z.1 10)),(((Xv ((wB (wI ((48:Int)+(Int.tmod z.1 10))))::[]))++z.2.1),())))
   else none)
  else some ((Sum.inl z),())
noncomputable def e30_0 (l:A30_0):ZC:=⟨[],lc30_0,[],lb30_0,[0,3],lv30_0,[],lr30_0,0,[],l⟩
noncomputable def m30 (l0:A30_0) (y:PTup i30):Option (PTup o30×BTup i30):=
  bif (eqI y.1 0)then (some (((bz [48]),()),()))
  else (l0 () () (y.1,((bz []),()))).bind fun r0=>
  Zu r0.1 (fun r1=>some (r1.2,()))
  (fun r1=>some (((bz []),()),()))
noncomputable def E30 (l0:A30_0):Zy:=⟨⟨Tryz.prog,Z0 []⟩,Qc [(4,e30_0 l0)]⟩
theorem t30_0 (l0:A30_0) (again) (x y z):ZT (E30 l0) (Zg (Zh Tryz.f30) 0) (e30_0 l0) Tryz.f30.ntmps again x y z=w30_0 again x y z:=by kernel_rfl
noncomputable def n30_0:Nat→A30_0
  |0,_,_,_=>none
  |n+1,x,y,z=>w30_0 (fun y z=>n30_0 n x y z) x y z
theorem s30 (l0:A30_0) (y):Z4 (E30 l0) Tryz.f30 i30 o30 y=m30 l0 y:=by kernel_rfl
noncomputable def L30_0:A30_0:=n30_0 fuel
noncomputable def r30:F30:=m30 L30_0
theorem k30:KO (g30 r30):=by
  have hE: ∀g f,(E30 L30_0).env.fns g=some f→Zr Tryz.prog g f:=Qb trivial
  have h0:ZN Tryz.prog Tryz.f30.ntmps (Zg (Zh Tryz.f30) 0) (e30_0 L30_0):=Z1 (E:=E30 L30_0) rfl hE mixed (Zn.of_list (l:=[]) (by kernel_rfl) trivial) (n30_0) (fun _ _ _=>rfl) (fun n x y z=>t30_0 L30_0 _ x y z) rfl
  exact Qh (E:=E30 L30_0) rfl hE mixed (by kernel_rfl) (by kernel_rfl) (Zn.of_list (l:=[(Zg (Zh Tryz.f30) 0)]) (by kernel_rfl) (.one (by kernel_rfl) h0 trivial)) (s30 L30_0)
abbrev i97:Ts:=[.a q12]
abbrev o97:Ts:=[.v (.str)]
abbrev F97:=FT i97 o97
abbrev g97:=mkG 97 i97 o97
noncomputable def m97 (c71:F71) (c30:F30) (y:PTup i97):Option (PTup o97×BTup i97):=
  (c71 (y.1,())).bind fun r0=>bif (!r0.1.1)then (some ((bz [],()),()))else (c30 (y.1.1,())).bind fun r1=>bif (leN ((ByteArray.size (bz [65]))+(ByteArray.size r1.1.1)) 4611686018427387904)then (let p:=bz [65]++r1.1.1;bif (leN ((ByteArray.size p)+(ByteArray.size (bz [32,88]))) 4611686018427387904)then ((c30 (y.1.2.1,())).bind fun r2=>let p:=p++bz [32,88];bif (leN ((ByteArray.size p)+(ByteArray.size r2.1.1)) 4611686018427387904)then (let p:=p++r2.1.1;bif (leN ((ByteArray.size p)+(ByteArray.size (bz [32,83]))) 4611686018427387904)then ((c30 (y.1.2.2.1,())).bind fun r3=>let p:=p++bz [32,83];bif (leN ((ByteArray.size p)+(ByteArray.size r3.1.1)) 4611686018427387904)then (let p:=p++r3.1.1;bif (leN ((ByteArray.size p)+(ByteArray.size (bz [32,80,99]))) 4611686018427387904)then ((c30 (y.1.2.2.2.1,())).bind fun r4=>let p:=p++bz [32,80,99];bif (leN ((ByteArray.size p)+(ByteArray.size r4.1.1)) 4611686018427387904)then (let p:=p++r4.1.1;bif (leN ((ByteArray.size p)+(ByteArray.size (bz [32]))) 4611686018427387904)then (let p:=p++bz [32];let g:=fun f:ByteArray=>bif (leN ((ByteArray.size p)+(ByteArray.size f)) 4611686018427387904)then some (((p++f,()),()):(ByteArray×Unit)×Unit)else none;(bif y.1.2.2.2.2.2.2.1 then (bif y.1.2.2.2.2.1 then (bif y.1.2.2.2.2.2.2.2.1 then (bif y.1.2.2.2.2.2.1 then (g ((((bz []++bz [67])++bz [90])++bz [73])++bz [78]))else (g (((bz []++bz [67])++bz [90])++bz [73])))else (bif y.1.2.2.2.2.2.1 then (g (((bz []++bz [67])++bz [90])++bz [78]))else (g ((bz []++bz [67])++bz [90]))))else (bif y.1.2.2.2.2.2.2.2.1 then (bif y.1.2.2.2.2.2.1 then (g (((bz []++bz [67])++bz [73])++bz [78]))else (g ((bz []++bz [67])++bz [73])))else (bif y.1.2.2.2.2.2.1 then (g ((bz []++bz [67])++bz [78]))else (g (bz []++bz [67])))))else (bif y.1.2.2.2.2.1 then (bif y.1.2.2.2.2.2.2.2.1 then (bif y.1.2.2.2.2.2.1 then (g (((bz []++bz [90])++bz [73])++bz [78]))else (g ((bz []++bz [90])++bz [73])))else (bif y.1.2.2.2.2.2.1 then (g ((bz []++bz [90])++bz [78]))else (g (bz []++bz [90]))))else (bif y.1.2.2.2.2.2.2.2.1 then (bif y.1.2.2.2.2.2.1 then (g ((bz []++bz [73])++bz [78]))else (g (bz []++bz [73])))else (bif y.1.2.2.2.2.2.1 then (g (bz []++bz [78]))else (g (bz [45])))))))else none)else none)else none)else none)else none)else none)else none)else none
theorem s97 (c71:F71) (c30:F30) (y):TE [g71 c71,g30 c30] Tryz.f97 i97 o97 y=m97 c71 c30 y:=by kernel_rfl
noncomputable def r97:F97:=m97 r71 r30
theorem k97:KO (g97 r97):=fk (s97 r71 r30) ⟨k71,k30,⟨⟩⟩ (by kernel_rfl)
abbrev i231:Ts:=[.a q10]
abbrev o231:Ts:=[.v (.bool)]
abbrev F231:=FT i231 o231
abbrev g231:=mkG 231 i231 o231
noncomputable def m231 (c15:F15) (y:PTup i231):Option (PTup o231×BTup i231):=
  (c15 (y.1,())).bind fun r0=>
  bif r0.1.1 then (some (((leI y.1.2.2.2.2.2.2.2.2.2.2.2.2.2.2.2.2.2.2.2.1 3000),()),()))
  else no
theorem s231 (c15:F15) (y):TE [g15 c15] Tryz.f231 i231 o231 y=m231 c15 y:=by kernel_rfl
noncomputable def r231:F231:=m231 r15
theorem k231:KO (g231 r231):=fk (s231 r15) ⟨k15,⟨⟩⟩ (by kernel_rfl)
abbrev i272:Ts:=[]
abbrev o272:Ts:=[.a q2]
abbrev F272:=FT i272 o272
abbrev g272:=mkG 272 i272 o272
noncomputable def m272 (y:PTup i272):Option (PTup o272×BTup i272):=
  some ((((List.replicate (Int.toNat (512:Int)) (0:Int)),((0:Int),())),()),())
theorem s272 (y):TE [] Tryz.f272 i272 o272 y=m272 y:=by kernel_rfl
noncomputable def r272:F272:=m272
theorem k272:KO (g272 r272):=fk (s272) trivial (by kernel_rfl)
abbrev i273:Ts:=[.a q0]
abbrev o273:Ts:=[.a q12]
abbrev F273:=FT i273 o273
abbrev g273:=mkG 273 i273 o273
noncomputable def m273 (c227:F227) (c272:F272) (c225:F225) (y:PTup i273):Option (PTup o273×BTup i273):=
  (c272 ()).bind fun r0=>
  (c225 (y.1,(r0.1.1,((65532:Int),())))).bind fun r1=>
  (c225 (y.1,(r0.1.1,((65533:Int),())))).bind fun r2=>
  (c227 (r1.1.1,r2.1)).bind fun r3=>
  some ((((0:Int),((0:Int),((255:Int),(r3.1.1,(false,(false,(false,(true,())))))))),()),())
theorem s273 (c227:F227) (c272:F272) (c225:F225) (y):TE [g227 c227,g272 c272,g225 c225] Tryz.f273 i273 o273 y=m273 c227 c272 c225 y:=by kernel_rfl
noncomputable def r273:F273:=m273 r227 r272 r225
theorem k273:KO (g273 r273):=fk (s273 r227 r272 r225) ⟨k227,k272,k225,⟨⟩⟩ (by kernel_rfl)
abbrev i274:Ts:=[]
abbrev o274:Ts:=[.a q4]
abbrev F274:=FT i274 o274
abbrev g274:=mkG 274 i274 o274
noncomputable def m274 (y:PTup i274):Option (PTup o274×BTup i274):=
  some ((((0:Int),((0:Int),((0:Int),((0:Int),((0:Int),(false,((List.replicate (Int.toNat (16:Int)) (0:Int)),([],())))))))),()),())
theorem s274 (y):TE [] Tryz.f274 i274 o274 y=m274 y:=by kernel_rfl
noncomputable def r274:F274:=m274
theorem k274:KO (g274 r274):=fk (s274) trivial (by kernel_rfl)
abbrev i340:Ts:=[.a q15]
abbrev o340:Ts:=[.v (.bool)]
abbrev F340:=FT i340 o340
abbrev g340:=mkG 340 i340 o340
noncomputable def m340 (c145:F145) (c71:F71) (c70:F70) (c69:F69) (c142:F142) (c144:F144) (c28:F28) (c74:F74) (y:PTup i340):Option (PTup o340×BTup i340):=
  let a0:=y.1;let a1:=a0.2;let a2:=a1.2;let a3:=a2.2;let a4:=a3.2;let a5:=a4.2;let a6:=a5.2;let a7:=a6.2;let a8:=a7.2;let a9:=a8.2;let a10:=a9.2;let a11:=a10.2;let a12:=a11.2;let a13:=a12.2;let a14:=a13.2;let a15:=a14.2;let a16:=a15.2;let a17:=a16.2;let a18:=a17.2;let a19:=a18.2;let a20:=a19.2;let a21:=a20.2;let a22:=a21.2.2;let a23:=a22.2.2;let a24:=a23.2.2.2;(c69 (a1.1,())).bind fun r0=>
  bif r0.1.1 then ((c70 ((a0.1,()),((a2.1,(a3.1,())),()))).bind fun r1=>
   bif r1.1.1 then ((c71 ((a4.1,(a5.1,(a6.1,(a7.1,(a8.1,(a9.1,(a10.1,(a11.1,())))))))),())).bind fun r2=>
    bif r2.1.1 then ((c142 ((a12.1,(a13.1,(a14.1,(a15.1,(a16.1,(a17.1,(a18.1,(a19.1,())))))))),())).bind fun r3=>
     bif r3.1.1 then ((c145 ((a20.1,(a21.1,(a21.2.1,(a22.1,(a22.2.1,(a23.1,(a23.2.1,()))))))),())).bind fun r4=>
      bif r4.1.1 then ((c74 (a24.1,())).bind fun r5=>
       bif r5.1.1 then (bif (eqI a12.1 a20.1)then ((c28 (a24.2.2.1,((0:Int),(a12.1,())))).bind fun r6=>
         bif r6.1.1 then ((c144 (a24.2.2.2.1,(a12.1,()))).bind fun r7=>
          bif r7.1.1 then (some (((eqI (Zb a24.2.2.2.2.1) (wI (Int.tdiv a12.1 16))),()),()))
          else no)
         else no)
        else no)
       else no)
      else no)
     else no)
    else no)
   else no)
  else no
theorem s340 (c145:F145) (c71:F71) (c70:F70) (c69:F69) (c142:F142) (c144:F144) (c28:F28) (c74:F74) (y):TE [g145 c145,g71 c71,g70 c70,g69 c69,g142 c142,g144 c144,g28 c28,g74 c74] Tryz.f340 i340 o340 y=m340 c145 c71 c70 c69 c142 c144 c28 c74 y:=by kernel_rfl
noncomputable def r340:F340:=m340 r145 r71 r70 r69 r142 r144 r28 r74
theorem k340:KO (g340 r340):=fk (s340 r145 r71 r70 r69 r142 r144 r28 r74) ⟨k145,k71,k70,k69,k142,k144,k28,k74,⟨⟩⟩ (by kernel_rfl)
abbrev i289:Ts:=[.a q0, .v (.sl false .i)]
abbrev o289:Ts:=[.a q16, .v (.bool)]
abbrev F289:=FT i289 o289
abbrev g289:=mkG 289 i289 o289
noncomputable def m289 (c273:F273) (c340:F340) (c272:F272) (c274:F274) (c92:F92) (y:PTup i289):Option (PTup o289×BTup i289):=
  (c92 (y.1,())).bind fun r0=>
  bif (leN (0+(List.length y.2.1)) (E.most .i))then ((c272 ()).bind fun r1=>
   (c273 (y.1,())).bind fun r2=>
   (c274 ()).bind fun r3=>
   (c340 ((r0.1.1.1,(([]++y.2.1),(r1.1.1.1,(r1.1.1.2.1,(r2.1.1.1,(r2.1.1.2.1,(r2.1.1.2.2.1,(r2.1.1.2.2.2.1,(r2.1.1.2.2.2.2.1,(r2.1.1.2.2.2.2.2.1,(r2.1.1.2.2.2.2.2.2.1,(r2.1.1.2.2.2.2.2.2.2.1,(r3.1.1.1,(r3.1.1.2.1,(r3.1.1.2.2.1,(r3.1.1.2.2.2.1,(r3.1.1.2.2.2.2.1,(r3.1.1.2.2.2.2.2.1,(r3.1.1.2.2.2.2.2.2.1,(r3.1.1.2.2.2.2.2.2.2.1,((0:Int),((0:Int),((0:Int),((0:Int),((0:Int),(false,(false,(false,((0:Int),(false,((0:Int),([],([],([],())))))))))))))))))))))))))))))))))),())).bind fun r4=>
   bif (!r4.1.1)then (some ((([],([],([],((0:Int),((0:Int),((0:Int),((0:Int),((0:Int),(false,(false,(false,(false,((0:Int),((0:Int),((0:Int),((0:Int),((0:Int),(false,([],([],((0:Int),((0:Int),((0:Int),((0:Int),((0:Int),(false,(false,(false,((0:Int),(false,((0:Int),([],([],([],())))))))))))))))))))))))))))))))))),(false,())),()))
   else some (((r0.1.1.1,(([]++y.2.1),(r1.1.1.1,(r1.1.1.2.1,(r2.1.1.1,(r2.1.1.2.1,(r2.1.1.2.2.1,(r2.1.1.2.2.2.1,(r2.1.1.2.2.2.2.1,(r2.1.1.2.2.2.2.2.1,(r2.1.1.2.2.2.2.2.2.1,(r2.1.1.2.2.2.2.2.2.2.1,(r3.1.1.1,(r3.1.1.2.1,(r3.1.1.2.2.1,(r3.1.1.2.2.2.1,(r3.1.1.2.2.2.2.1,(r3.1.1.2.2.2.2.2.1,(r3.1.1.2.2.2.2.2.2.1,(r3.1.1.2.2.2.2.2.2.2.1,((0:Int),((0:Int),((0:Int),((0:Int),((0:Int),(false,(false,(false,((0:Int),(false,((0:Int),([],([],([],())))))))))))))))))))))))))))))))))),(true,())),()))
  else none
theorem s289 (c273:F273) (c340:F340) (c272:F272) (c274:F274) (c92:F92) (y):TE [g273 c273,g340 c340,g272 c272,g274 c274,g92 c92] Tryz.f289 i289 o289 y=m289 c273 c340 c272 c274 c92 y:=by kernel_rfl
noncomputable def r289:F289:=m289 r273 r340 r272 r274 r92
theorem k289:KO (g289 r289):=fk (s289 r273 r340 r272 r274 r92) ⟨k273,k340,k272,k274,k92,⟨⟩⟩ (by kernel_rfl)
abbrev i341:Ts:=[.a q15]
abbrev o341:Ts:=[.a q16]
abbrev F341:=FT i341 o341
abbrev g341:=mkG 341 i341 o341
noncomputable def m341 (c92:F92) (c166:F166) (c93:F93) (c164:F164) (y:PTup i341):Option (PTup o341×BTup i341):=
  let a0:=y.1;let a1:=a0.2;let a2:=a1.2;let a3:=a2.2;let a4:=a3.2;let a5:=a4.2;let a6:=a5.2;let a7:=a6.2;let a8:=a7.2;let a9:=a8.2;let a10:=a9.2;let a11:=a10.2;let a12:=a11.2;let a13:=a12.2;let a14:=a13.2;let a15:=a14.2;let a16:=a15.2;let a17:=a16.2;let a18:=a17.2;let a19:=a18.2;let a20:=a19.2;let a21:=a20.2;let a22:=a21.2;let a23:=a22.2;let a24:=a23.2;let a25:=a24.2;let a26:=a25.2;let a27:=a26.2.2;let a28:=a27.2.2;(c92 ((a0.1,()),())).bind fun r0=>
  bif (leN (0+(List.length a1.1)) (E.most .i))then ((c93 ((a2.1,(a3.1,())),())).bind fun r1=>
   (c164 ((a12.1,(a13.1,(a14.1,(a15.1,(a16.1,(a17.1,(a18.1,(a19.1,())))))))),())).bind fun r2=>
   (c166 (a28.2.1,())).bind fun r3=>
   bif (leN (0+(List.length a28.2.2.1)) (E.most .i))then (bif (leN (0+(List.length a28.2.2.2.1)) (E.most .i))then (some (((r0.1.1.1,(([]++a1.1),(r1.1.1.1,(r1.1.1.2.1,(a4.1,(a5.1,(a6.1,(a7.1,(a8.1,(a9.1,(a10.1,(a11.1,(r2.1.1.1,(r2.1.1.2.1,(r2.1.1.2.2.1,(r2.1.1.2.2.2.1,(r2.1.1.2.2.2.2.1,(r2.1.1.2.2.2.2.2.1,(r2.1.1.2.2.2.2.2.2.1,(r2.1.1.2.2.2.2.2.2.2.1,(a20.1,(a21.1,(a22.1,(a23.1,(a24.1,(a25.1,(a26.1,(a26.2.1,(a27.1,(a27.2.1,(a28.1,(r3.1.1,(([]++a28.2.2.1),(([]++a28.2.2.2.1),())))))))))))))))))))))))))))))))))),()),()))
    else none)
   else none)
  else none
theorem s341 (c92:F92) (c166:F166) (c93:F93) (c164:F164) (y):TE [g92 c92,g166 c166,g93 c93,g164 c164] Tryz.f341 i341 o341 y=m341 c92 c166 c93 c164 y:=by kernel_rfl
noncomputable def r341:F341:=m341 r92 r166 r93 r164
theorem k341:KO (g341 r341):=fk (s341 r92 r166 r93 r164) ⟨k92,k166,k93,k164,⟨⟩⟩ (by kernel_rfl)
abbrev i343:Ts:=[.v (.bool)]
abbrev o343:Ts:=[.v (.int .i64)]
abbrev F343:=FT i343 o343
abbrev g343:=mkG 343 i343 o343
noncomputable def m343 (y:PTup i343):Option (PTup o343×BTup i343):=
  bif y.1 then (some (((1:Int),()),()))
  else some (((0:Int),()),())
theorem s343 (y):TE [] Tryz.f343 i343 o343 y=m343 y:=by kernel_rfl
noncomputable def r343:F343:=m343
theorem k343:KO (g343 r343):=fk (s343) trivial (by kernel_rfl)
abbrev i294:Ts:=[.a q12]
abbrev o294:Ts:=[.v (.int .i64)]
abbrev F294:=FT i294 o294
abbrev g294:=mkG 294 i294 o294
noncomputable def m294 (c343:F343) (y:PTup i294):Option (PTup o294×BTup i294):=
  (c343 (y.1.2.2.2.2.2.2.1,())).bind fun r0=>
  (c343 (y.1.2.2.2.2.1,())).bind fun r1=>
  (c343 y.1.2.2.2.2.2.2.2).bind fun r2=>
  (c343 (y.1.2.2.2.2.2.1,())).bind fun r3=>
  some (((wI ((wI ((wI (r0.1.1+(wI ((2:Int)*r1.1.1))))+(wI ((4:Int)*r2.1.1))))+(wI ((128:Int)*r3.1.1)))),()),())
theorem s294 (c343:F343) (y):TE [g343 c343] Tryz.f294 i294 o294 y=m294 c343 y:=by kernel_rfl
noncomputable def r294:F294:=m294 r343
theorem k294:KO (g294 r294):=fk (s294 r343) ⟨k343,⟨⟩⟩ (by kernel_rfl)
abbrev i295:Ts:=[.a q1, .a q12, .v (.int .i64)]
abbrev o295:Ts:=[.a q2, .a q12]
abbrev F295:=FT i295 o295
abbrev g295:=mkG 295 i295 o295
noncomputable def m295 (c230:F230) (c93:F93) (y:PTup i295):Option (PTup o295×BTup i295):=
  (c93 (y.1,())).bind fun r0=>
  bif (neI (Zb y.1.1) 512)then (some ((r0.1.1,(y.2.1,())),()))
  else (c230 (y.2.1.2.2.1,())).bind fun r1=>
  (c230 y.2.2).bind fun r2=>
  bif (leI 0 (wI ((256:Int)+r1.1.1)))then (bif (ltI (wI ((256:Int)+r1.1.1)) (Zb r0.1.1.1))then ((c230 ((wI (y.2.1.2.2.1-1)),())).bind fun r3=>
    some ((((List.set r0.1.1.1 (Int.toNat (wI ((256:Int)+r1.1.1))) r2.1.1),r0.1.1.2),((y.2.1.1,(y.2.1.2.1,(r3.1.1,y.2.1.2.2.2))),())),()))
   else none)
  else none
theorem s295 (c230:F230) (c93:F93) (y):TE [g230 c230,g93 c93] Tryz.f295 i295 o295 y=m295 c230 c93 y:=by kernel_rfl
noncomputable def r295:F295:=m295 r230 r93
theorem k295:KO (g295 r295):=fk (s295 r230 r93) ⟨k230,k93,⟨⟩⟩ (by kernel_rfl)
abbrev i240:Ts:=[.a q0, .a q1, .a q12, .v (.int .i64)]
abbrev o240:Ts:=[.a q2, .a q12]
abbrev F240:=FT i240 o240
abbrev g240:=mkG 240 i240 o240
noncomputable def m240 (c294:F294) (c227:F227) (c225:F225) (c295:F295) (c93:F93) (y:PTup i240):Option (PTup o240×BTup i240):=
  (c93 (y.2.1,())).bind fun r0=>
  (c294 (y.2.2.1,())).bind fun r1=>
  (c295 (r0.1.1,(y.2.2.1,((Int.fdiv y.2.2.1.2.2.2.1 ((2:Int)^(Min.min (Int.toNat (8:Int)) (64:Nat)))),())))).bind fun r2=>
  (c295 (r2.1.1,(r2.1.2.1,(r2.1.2.1.2.2.2.1,())))).bind fun r3=>
  (c295 (r3.1.1,(r3.1.2.1,r1.1))).bind fun r4=>
  (c225 (y.1,(r4.1.1,y.2.2.2))).bind fun r5=>
  (c225 (y.1,(r4.1.1,((wI (y.2.2.2.1+1)),())))).bind fun r6=>
  (c227 (r5.1.1,r6.1)).bind fun r7=>
  some ((r4.1.1,((r4.1.2.1.1,(r4.1.2.1.2.1,(r4.1.2.1.2.2.1,(r7.1.1,(r4.1.2.1.2.2.2.2.1,(r4.1.2.1.2.2.2.2.2.1,(r4.1.2.1.2.2.2.2.2.2.1,(true,())))))))),())),())
theorem s240 (c294:F294) (c227:F227) (c225:F225) (c295:F295) (c93:F93) (y):TE [g294 c294,g227 c227,g225 c225,g295 c295,g93 c93] Tryz.f240 i240 o240 y=m240 c294 c227 c225 c295 c93 y:=by kernel_rfl
noncomputable def r240:F240:=m240 r294 r227 r225 r295 r93
theorem k240:KO (g240 r240):=fk (s240 r294 r227 r225 r295 r93) ⟨k294,k227,k225,k295,k93,⟨⟩⟩ (by kernel_rfl)
abbrev i296:Ts:=[.a q3, .v (.int .i64)]
abbrev o296:Ts:=[.a q4, .v (.int .i64)]
abbrev F296:=FT i296 o296
abbrev g296:=mkG 296 i296 o296
noncomputable def m296 (c142:F142) (c343:F343) (c164:F164) (y:PTup i296):Option (PTup o296×BTup i296):=
  (c164 (y.1,())).bind fun r0=>
  (c142 (y.1,())).bind fun r1=>
  bif (!r1.1.1)then (some ((r0.1.1,((0:Int),())),()))
  else bif (eqI y.2.1 2)then ((c343 (y.1.2.2.2.2.2.1,())).bind fun r2=>
   some (((r0.1.1.1,(r0.1.1.2.1,(r0.1.1.2.2.1,(r0.1.1.2.2.2.1,(r0.1.1.2.2.2.2.1,(false,r0.1.1.2.2.2.2.2.2)))))),((wI ((128:Int)*r2.1.1)),())),()))
  else bif (eqI y.2.1 4)then (bif (leI 0 y.1.2.2.2.1)then (bif (ltI y.1.2.2.2.1 (Zb y.1.2.2.2.2.2.2.1))then (some (((r0.1.1.1,(r0.1.1.2.1,(r0.1.1.2.2.1,((Int.tmod (wI (y.1.2.2.2.1+1)) (16:Int)),r0.1.1.2.2.2.2)))),((rdE .i y.1.2.2.2.2.2.2.1 y.1.2.2.2.1),())),()))
    else none)
   else none)
  else some ((r0.1.1,((0:Int),())),())
theorem s296 (c142:F142) (c343:F343) (c164:F164) (y):TE [g142 c142,g343 c343,g164 c164] Tryz.f296 i296 o296 y=m296 c142 c343 c164 y:=by kernel_rfl
noncomputable def r296:F296:=m296 r142 r343 r164
theorem k296:KO (g296 r296):=fk (s296 r142 r343 r164) ⟨k142,k343,k164,⟨⟩⟩ (by kernel_rfl)
abbrev i297:Ts:=[.a q13, .v (.int .i64)]
abbrev o297:Ts:=[.a q13, .v (.int .i64)]
abbrev F297:=FT i297 o297
abbrev g297:=mkG 297 i297 o297
noncomputable def m297 (c145:F145) (c343:F343) (y:PTup i297):Option (PTup o297×BTup i297):=
  (c145 (y.1,())).bind fun r0=>
  bif (!r0.1.1)then (some ((y.1,((0:Int),())),()))
  else bif (neI y.2.1 2)then (some ((y.1,((0:Int),())),()))
  else (c343 y.1.2.2.2.2.2.2).bind fun r1=>
  (c343 ((ltI 0 y.1.2.2.2.2.1),())).bind fun r2=>
  some (((y.1.1,(y.1.2.1,(y.1.2.2.1,(y.1.2.2.2.1,(y.1.2.2.2.2.1,(y.1.2.2.2.2.2.1,(false,()))))))),((wI ((wI ((128:Int)*r1.1.1))+r2.1.1)),())),())
theorem s297 (c145:F145) (c343:F343) (y):TE [g145 c145,g343 c343] Tryz.f297 i297 o297 y=m297 c145 c343 y:=by kernel_rfl
noncomputable def r297:F297:=m297 r145 r343
theorem k297:KO (g297 r297):=fk (s297 r145 r343) ⟨k145,k343,⟨⟩⟩ (by kernel_rfl)
abbrev i375:Ts:=[.v (.int .i64)]
abbrev o375:Ts:=[.v (.int .i64)]
abbrev F375:=FT i375 o375
abbrev g375:=mkG 375 i375 o375
noncomputable def m375 (c106:F106) (y:PTup i375):Option (PTup o375×BTup i375):=
  (c106 (y.1,((0:Int),()))).bind fun r0=>
  some (((wI (Int.tdiv r0.1.1 64)),()),())
theorem s375 (c106:F106) (y):TE [g106 c106] Tryz.f375 i375 o375 y=m375 c106 y:=by kernel_rfl
noncomputable def r375:F375:=m375 r106
theorem k375:KO (g375 r375):=fk (s375 r106) ⟨k106,⟨⟩⟩ (by kernel_rfl)
abbrev i344:Ts:=[.v (.sl false .i), .v (.int .i64)]
abbrev o344:Ts:=[.v (.int .i64)]
abbrev F344:=FT i344 o344
abbrev g344:=mkG 344 i344 o344
noncomputable def m344 (c375:F375) (c69:F69) (y:PTup i344):Option (PTup o344×BTup i344):=
  (c69 (y.1,())).bind fun r0=>
  bif (!r0.1.1)then (some (((0:Int),()),()))
  else bif (eqI (Zb y.1) 0)then (some (((0:Int),()),()))
  else (c375 y.2).bind fun r1=>
  bif (neI (Zb y.1) 0)then (bif (leI 0 (Int.tmod r1.1.1 (Zb y.1)))then (bif (ltI (Int.tmod r1.1.1 (Zb y.1)) (Zb y.1))then (some (((rdE .i y.1 (Int.tmod r1.1.1 (Zb y.1))),()),()))
    else none)
   else none)
  else none
theorem s344 (c375:F375) (c69:F69) (y):TE [g375 c375,g69 c69] Tryz.f344 i344 o344 y=m344 c375 c69 y:=by kernel_rfl
noncomputable def r344:F344:=m344 r375 r69
theorem k344:KO (g344 r344):=fk (s344 r375 r69) ⟨k375,k69,⟨⟩⟩ (by kernel_rfl)
abbrev i298:Ts:=[.a q17, .v (.sl false .i), .v (.int .i64)]
abbrev o298:Ts:=[.a q17, .v (.int .i64)]
abbrev F298:=FT i298 o298
abbrev g298:=mkG 298 i298 o298
noncomputable def m298 (c344:F344) (y:PTup i298):Option (PTup o298×BTup i298):=
  bif y.1.1 then ((c344 y.2).bind fun r0=>
   some (((y.1.1,r0.1),((ZD Go.IntKind.i64 r0.1.1 (1:Int)),())),()))
  else some (((y.1.1,((Int.fdiv y.1.2.1 ((2:Int)^(Min.min (Int.toNat (1:Int)) (64:Nat)))),())),((ZD Go.IntKind.i64 y.1.2.1 (1:Int)),())),())
theorem s298 (c344:F344) (y):TE [g344 c344] Tryz.f298 i298 o298 y=m298 c344 y:=by kernel_rfl
noncomputable def r298:F298:=m298 r344
theorem k298:KO (g298 r298):=fk (s298 r344) ⟨k344,⟨⟩⟩ (by kernel_rfl)
abbrev i383:Ts:=[.a q16, .v (.int .i64)]
abbrev o383:Ts:=[.a q16, .v (.int .i64)]
abbrev F383:=FT i383 o383
abbrev g383:=mkG 383 i383 o383
noncomputable def m383 (c297:F297) (c298:F298) (c296:F296) (c173:F173) (c288:F288) (y:PTup i383):Option (PTup o383×BTup i383):=
  let a0:=y.1;let a1:=a0.2;let a2:=a1.2;let a3:=a2.2;let a4:=a3.2;let a5:=a4.2;let a6:=a5.2;let a7:=a6.2;let a8:=a7.2;let a9:=a8.2;let a10:=a9.2;let a11:=a10.2;let a12:=a11.2;let a13:=a12.2;let a14:=a13.2;let a15:=a14.2;let a16:=a15.2;let a17:=a16.2;let a18:=a17.2;let a19:=a18.2;let a20:=a19.2;let a21:=a20.2;let a22:=a21.2;let a23:=a22.2;let a24:=a23.2;let a25:=a24.2;let a26:=a25.2;let a27:=a26.2;let a28:=a27.2;let a29:=a28.2;let a30:=a29.2;let a31:=a30.2;let a32:=a31.2.2;(c173 y.2).bind fun r0=>
  bif (eqI r0.1.1 2)then ((c296 ((a12.1,(a13.1,(a14.1,(a15.1,(a16.1,(a17.1,(a18.1,(a19.1,())))))))),r0.1.2)).bind fun r1=>
   bif (leN ((List.length a32.1)+(List.length (r1.1.2.1::[]))) (E.most .i))then (some (((a0.1,(a1.1,(a2.1,(a3.1,(a4.1,(a5.1,(a6.1,(a7.1,(a8.1,(a9.1,(a10.1,(a11.1,(r1.1.1.1,(r1.1.1.2.1,(r1.1.1.2.2.1,(r1.1.1.2.2.2.1,(r1.1.1.2.2.2.2.1,(r1.1.1.2.2.2.2.2.1,(r1.1.1.2.2.2.2.2.2.1,(r1.1.1.2.2.2.2.2.2.2.1,(a20.1,(a21.1,(a22.1,(a23.1,(a24.1,(a25.1,(a26.1,(a27.1,(a28.1,(a29.1,(a30.1,(a31.1,(a31.2.1,((a32.1++(r1.1.2.1::[])),())))))))))))))))))))))))))))))))))),r1.1.2),()))
   else none)
  else bif (eqI r0.1.1 3)then ((c297 ((a20.1,(a21.1,(a22.1,(a23.1,(a24.1,(a25.1,(a26.1,()))))))),r0.1.2)).bind fun r1=>
   bif (leN ((List.length a32.1)+(List.length (r1.1.2.1::[]))) (E.most .i))then (some (((a0.1,(a1.1,(a2.1,(a3.1,(a4.1,(a5.1,(a6.1,(a7.1,(a8.1,(a9.1,(a10.1,(a11.1,(a12.1,(a13.1,(a14.1,(a15.1,(a16.1,(a17.1,(a18.1,(a19.1,(r1.1.1.1,(r1.1.1.2.1,(r1.1.1.2.2.1,(r1.1.1.2.2.2.1,(r1.1.1.2.2.2.2.1,(r1.1.1.2.2.2.2.2.1,(r1.1.1.2.2.2.2.2.2.1,(a27.1,(a28.1,(a29.1,(a30.1,(a31.1,(a31.2.1,((a32.1++(r1.1.2.1::[])),())))))))))))))))))))))))))))))))))),r1.1.2),()))
   else none)
  else bif (eqI r0.1.1 4)then ((c298 ((a27.1,(a28.1,())),(a1.1,(a12.1,())))).bind fun r1=>
   bif (leN ((List.length a32.1)+(List.length (r1.1.2.1::[]))) (E.most .i))then (some (((a0.1,(a1.1,(a2.1,(a3.1,(a4.1,(a5.1,(a6.1,(a7.1,(a8.1,(a9.1,(a10.1,(a11.1,(a12.1,(a13.1,(a14.1,(a15.1,(a16.1,(a17.1,(a18.1,(a19.1,(a20.1,(a21.1,(a22.1,(a23.1,(a24.1,(a25.1,(a26.1,(r1.1.1.1,(r1.1.1.2.1,(a29.1,(a30.1,(a31.1,(a31.2.1,((a32.1++(r1.1.2.1::[])),())))))))))))))))))))))))))))))))))),r1.1.2),()))
   else none)
  else (c288 ((a0.1,()),((a2.1,(a3.1,())),y.2))).bind fun r1=>
  some ((a0,r1.1),())
theorem s383 (c297:F297) (c298:F298) (c296:F296) (c173:F173) (c288:F288) (y):TE [g297 c297,g298 c298,g296 c296,g173 c173,g288 c288] Tryz.f383 i383 o383 y=m383 c297 c298 c296 c173 c288 y:=by kernel_rfl
noncomputable def r383:F383:=m383 r297 r298 r296 r173 r288
theorem k383:KO (g383 r383):=fk (s383 r297 r298 r296 r173 r288) ⟨k297,k298,k296,k173,k288,⟨⟩⟩ (by kernel_rfl)
abbrev i182:Ts:=[.a q3, .v (.int .i64), .v (.int .i64)]
abbrev o182:Ts:=[.a q4]
abbrev F182:=FT i182 o182
abbrev g182:=mkG 182 i182 o182
noncomputable def m182 (c230:F230) (c142:F142) (c164:F164) (y:PTup i182):Option (PTup o182×BTup i182):=
  (c164 (y.1,())).bind fun r0=>
  (c142 (y.1,())).bind fun r1=>
  bif (!r1.1.1)then (some ((r0.1.1,()),()))
  else (c230 y.2.2).bind fun r2=>
  bif (eqI y.2.1 0)then (some (((r0.1.1.1,(r2.1.1,r0.1.1.2.2)),()),()))
  else bif (eqI y.2.1 1)then (some (((r0.1.1.1,(r0.1.1.2.1,(r2.1.1,r0.1.1.2.2.2))),()),()))
  else bif (eqI y.2.1 3)then (some (((r0.1.1.1,(r0.1.1.2.1,(r0.1.1.2.2.1,((Int.tmod r2.1.1 16),r0.1.1.2.2.2.2)))),()),()))
  else bif (eqI y.2.1 4)then (bif (leI 0 y.1.2.2.2.1)then (bif (ltI y.1.2.2.2.1 (Zb r0.1.1.2.2.2.2.2.2.1))then (some (((r0.1.1.1,(r0.1.1.2.1,(r0.1.1.2.2.1,((Int.tmod (wI (y.1.2.2.2.1+1)) (16:Int)),(r0.1.1.2.2.2.2.1,(r0.1.1.2.2.2.2.2.1,((List.set r0.1.1.2.2.2.2.2.2.1 (Int.toNat y.1.2.2.2.1) (Int.tmod r2.1.1 64)),r0.1.1.2.2.2.2.2.2.2))))))),()),()))
    else none)
   else none)
  else bif (eqI y.2.1 5)then (some (((r0.1.1.1,(r0.1.1.2.1,(r0.1.1.2.2.1,(r0.1.1.2.2.2.1,((Int.tmod r2.1.1 64),r0.1.1.2.2.2.2.2))))),()),()))
  else some ((r0.1.1,()),())
theorem s182 (c230:F230) (c142:F142) (c164:F164) (y):TE [g230 c230,g142 c142,g164 c164] Tryz.f182 i182 o182 y=m182 c230 c142 c164 y:=by kernel_rfl
noncomputable def r182:F182:=m182 r230 r142 r164
theorem k182:KO (g182 r182):=fk (s182 r230 r142 r164) ⟨k230,k142,k164,⟨⟩⟩ (by kernel_rfl)
abbrev i184:Ts:=[.a q13, .v (.int .i64), .v (.int .i64)]
abbrev o184:Ts:=[.a q13]
abbrev F184:=FT i184 o184
abbrev g184:=mkG 184 i184 o184
noncomputable def m184 (c145:F145) (c230:F230) (y:PTup i184):Option (PTup o184×BTup i184):=
  (c145 (y.1,())).bind fun r0=>
  bif (!r0.1.1)then (some ((y.1,()),()))
  else (c230 y.2.2).bind fun r1=>
  bif (eqI y.2.1 0)then (some (((y.1.1,(r1.1.1,y.1.2.2)),()),()))
  else bif (eqI y.2.1 1)then (some (((y.1.1,(y.1.2.1,(y.1.2.2.1,(y.1.2.2.2.1,((Int.tmod r1.1.1 32),y.1.2.2.2.2.2))))),()),()))
  else bif (eqI y.2.1 2)then (bif y.1.2.2.2.2.2.2.1 then (some (((y.1.1,(y.1.2.1,(y.1.2.2.1,(y.1.2.2.2.1,(y.1.2.2.2.2.1,((eqI (Int.tmod r1.1.1 2) (1:Int)),((eqI (Int.tmod r1.1.1 2) (1:Int)),()))))))),()),()))
   else some (((y.1.1,(y.1.2.1,(y.1.2.2.1,(y.1.2.2.2.1,(y.1.2.2.2.2.1,((eqI (Int.tmod r1.1.1 2) (1:Int)),(false,()))))))),()),()))
  else bif (eqI y.2.1 3)then (some (((y.1.1,(y.1.2.1,(y.1.2.2.1,(y.1.2.2.2.1,(y.1.2.2.2.2.1,(y.1.2.2.2.2.2.1,(false,()))))))),()),()))
  else some ((y.1,()),())
theorem s184 (c145:F145) (c230:F230) (y):TE [g145 c145,g230 c230] Tryz.f184 i184 o184 y=m184 c145 c230 y:=by kernel_rfl
noncomputable def r184:F184:=m184 r145 r230
theorem k184:KO (g184 r184):=fk (s184 r145 r230) ⟨k145,k230,⟨⟩⟩ (by kernel_rfl)
abbrev i299:Ts:=[.a q17, .v (.sl false .i), .v (.int .i64), .v (.int .i64)]
abbrev o299:Ts:=[.a q17]
abbrev F299:=FT i299 o299
abbrev g299:=mkG 299 i299 o299
noncomputable def m299 (c344:F344) (y:PTup i299):Option (PTup o299×BTup i299):=
  bif y.1.1 then ((c344 (y.2.1,(y.2.2.1,()))).bind fun r0=>
   some ((((eqI (ZD Go.IntKind.i64 y.2.2.2.1 (1:Int)) (1:Int)),r0.1),()),()))
  else bif (eqI (ZD Go.IntKind.i64 y.2.2.2.1 (1:Int)) (1:Int))then ((c344 (y.2.1,(y.2.2.1,()))).bind fun r0=>
   some ((((eqI (ZD Go.IntKind.i64 y.2.2.2.1 (1:Int)) (1:Int)),r0.1),()),()))
  else some ((((eqI (ZD Go.IntKind.i64 y.2.2.2.1 (1:Int)) (1:Int)),y.1.2),()),())
theorem s299 (c344:F344) (y):TE [g344 c344] Tryz.f299 i299 o299 y=m299 c344 y:=by kernel_rfl
noncomputable def r299:F299:=m299 r344
theorem k299:KO (g299 r299):=fk (s299 r344) ⟨k344,⟨⟩⟩ (by kernel_rfl)
abbrev i300:Ts:=[.a q0, .a q1, .v (.int .i64), .v (.int .i64)]
abbrev o300:Ts:=[.a q2]
abbrev R300:=Option (PTup o300×BTup i300)
abbrev F300:=PTup i300→R300
abbrev g300:=mkG 300 i300 o300
noncomputable def m300 (c230:F230) (c70:F70) (c173:F173) (c93:F93) (y:PTup i300):R300:=
  (c93 (y.2.1,())).bind fun r0=>let X0:R300:=(c230 y.2.2.2).bind fun r3=>bif (neI (Zb y.1.1) 0)then (some (((r0.1.1.1,((Int.tmod r3.1.1 (Zb y.1.1)),())),()),()))else none;(c70 (y.1,(y.2.1,()))).bind fun r1=>bif (!r1.1.1)then (some ((r0.1.1,()),()))else (c173 (y.2.2.1,())).bind fun r2=>bif (eqI r2.1.1 1)then ((c230 y.2.2.2).bind fun r3=>bif (leI 0 r2.1.2.1)then (bif (ltI r2.1.2.1 (Zb r0.1.1.1))then (some ((((List.set r0.1.1.1 (Int.toNat r2.1.2.1) r3.1.1),r0.1.1.2),()),()))else none)else none)else bif (eqI r2.1.1 5)then (bif (eqI r2.1.1 5)then X0 else some ((r0.1.1,()),()))else bif (eqI r2.1.1 6)then X0 else some ((r0.1.1,()),())
theorem s300 (c230:F230) (c70:F70) (c173:F173) (c93:F93) (y):TE [g230 c230,g70 c70,g173 c173,g93 c93] Tryz.f300 i300 o300 y=m300 c230 c70 c173 c93 y:=by kernel_rfl
noncomputable def r300:F300:=m300 r230 r70 r173 r93
theorem k300:KO (g300 r300):=fk (s300 r230 r70 r173 r93) ⟨k230,k70,k173,k93,⟨⟩⟩ (by kernel_rfl)
abbrev i384:Ts:=[.a q16, .v (.int .i64), .v (.int .i64)]
abbrev o384:Ts:=[.a q16]
abbrev F384:=FT i384 o384
abbrev g384:=mkG 384 i384 o384
noncomputable def m384 (c184:F184) (c299:F299) (c300:F300) (c182:F182) (c173:F173) (y:PTup i384):Option (PTup o384×BTup i384):=
  let a0:=y.1;let a1:=a0.2;let a2:=a1.2;let a3:=a2.2;let a4:=a3.2;let a5:=a4.2;let a6:=a5.2;let a7:=a6.2;let a8:=a7.2;let a9:=a8.2;let a10:=a9.2;let a11:=a10.2;let a12:=a11.2;let a13:=a12.2;let a14:=a13.2;let a15:=a14.2;let a16:=a15.2;let a17:=a16.2;let a18:=a17.2;let a19:=a18.2;let a20:=a19.2;let a21:=a20.2;let a22:=a21.2;let a23:=a22.2;let a24:=a23.2;let a25:=a24.2.2;(c173 (y.2.1,())).bind fun r0=>
  bif (eqI r0.1.1 2)then ((c182 ((a12.1,(a13.1,(a14.1,(a15.1,(a16.1,(a17.1,(a18.1,(a19.1,())))))))),(r0.1.2.1,y.2.2))).bind fun r1=>
   some (((a0.1,(a1.1,(a2.1,(a3.1,(a4.1,(a5.1,(a6.1,(a7.1,(a8.1,(a9.1,(a10.1,(a11.1,(r1.1.1.1,(r1.1.1.2.1,(r1.1.1.2.2.1,(r1.1.1.2.2.2.1,(r1.1.1.2.2.2.2.1,(r1.1.1.2.2.2.2.2.1,(r1.1.1.2.2.2.2.2.2.1,(r1.1.1.2.2.2.2.2.2.2.1,a20)))))))))))))))))))),()),()))
  else bif (eqI r0.1.1 3)then ((c184 ((a20.1,(a21.1,(a22.1,(a23.1,(a24.1,(a24.2.1,(a25.1,()))))))),(r0.1.2.1,y.2.2))).bind fun r1=>
   some (((a0.1,(a1.1,(a2.1,(a3.1,(a4.1,(a5.1,(a6.1,(a7.1,(a8.1,(a9.1,(a10.1,(a11.1,(a12.1,(a13.1,(a14.1,(a15.1,(a16.1,(a17.1,(a18.1,(a19.1,(r1.1.1.1,(r1.1.1.2.1,(r1.1.1.2.2.1,(r1.1.1.2.2.2.1,(r1.1.1.2.2.2.2.1,(r1.1.1.2.2.2.2.2.1,(r1.1.1.2.2.2.2.2.2.1,a25.2))))))))))))))))))))))))))),()),()))
  else bif (eqI r0.1.1 4)then ((c299 ((a25.2.1,(a25.2.2.1,())),(a1.1,(a12.1,y.2.2)))).bind fun r1=>
   some (((a0.1,(a1.1,(a2.1,(a3.1,(a4.1,(a5.1,(a6.1,(a7.1,(a8.1,(a9.1,(a10.1,(a11.1,(a12.1,(a13.1,(a14.1,(a15.1,(a16.1,(a17.1,(a18.1,(a19.1,(a20.1,(a21.1,(a22.1,(a23.1,(a24.1,(a24.2.1,(a25.1,(r1.1.1.1,(r1.1.1.2.1,a25.2.2.2))))))))))))))))))))))))))))),()),()))
  else (c300 ((a0.1,()),((a2.1,(a3.1,())),y.2))).bind fun r1=>
  some (((a0.1,(a1.1,(r1.1.1.1,(r1.1.1.2.1,a4)))),()),())
theorem s384 (c184:F184) (c299:F299) (c300:F300) (c182:F182) (c173:F173) (y):TE [g184 c184,g299 c299,g300 c300,g182 c182,g173 c173] Tryz.f384 i384 o384 y=m384 c184 c299 c300 c182 c173 y:=by kernel_rfl
noncomputable def r384:F384:=m384 r184 r299 r300 r182 r173
theorem k384:KO (g384 r384):=fk (s384 r184 r299 r300 r182 r173) ⟨k184,k299,k300,k182,k173,⟨⟩⟩ (by kernel_rfl)
abbrev i347:Ts:=[.v (.int .i64)]
abbrev o347:Ts:=[.v (.bool), .v (.bool)]
abbrev F347:=FT i347 o347
abbrev g347:=mkG 347 i347 o347
noncomputable def m347 (c230:F230) (y:PTup i347):Option (PTup o347×BTup i347):=
  (c230 y).bind fun r0=>
  (c230 y).bind fun r1=>
  some (((eqI r0.1.1 0),((ltI 127 r1.1.1),())),())
theorem s347 (c230:F230) (y):TE [g230 c230] Tryz.f347 i347 o347 y=m347 c230 y:=by kernel_rfl
noncomputable def r347:F347:=m347 r230
theorem k347:KO (g347 r347):=fk (s347 r230) ⟨k230,⟨⟩⟩ (by kernel_rfl)
abbrev i304:Ts:=[.a q12, .v (.int .i64)]
abbrev o304:Ts:=[.a q12]
abbrev F304:=FT i304 o304
abbrev g304:=mkG 304 i304 o304
noncomputable def m304 (c230:F230) (c347:F347) (y:PTup i304):Option (PTup o304×BTup i304):=
  (c230 y.2).bind fun r0=>
  (c347 y.2).bind fun r1=>
  some (((r0.1.1,(y.1.2.1,(y.1.2.2.1,(y.1.2.2.2.1,(r1.1.1,(r1.1.2.1,y.1.2.2.2.2.2.2)))))),()),())
theorem s304 (c230:F230) (c347:F347) (y):TE [g230 c230,g347 c347] Tryz.f304 i304 o304 y=m304 c230 c347 y:=by kernel_rfl
noncomputable def r304:F304:=m304 r230 r347
theorem k304:KO (g304 r304):=fk (s304 r230 r347) ⟨k230,k347,⟨⟩⟩ (by kernel_rfl)
abbrev i376:Ts:=[.v (.int .i64), .v (.int .i64), .v (.bool)]
abbrev o376:Ts:=[.v (.int .i64), .v (.bool)]
abbrev F376:=FT i376 o376
abbrev g376:=mkG 376 i376 o376
noncomputable def m376 (c230:F230) (c343:F343) (y:PTup i376):Option (PTup o376×BTup i376):=
  (c230 (y.1,())).bind fun r0=>
  (c230 (y.2.1,())).bind fun r1=>
  (c343 y.2.2).bind fun r2=>
  (c230 ((wI ((wI (r0.1.1+r1.1.1))+r2.1.1)),())).bind fun r3=>
  some ((r3.1.1,((ltI 255 (wI ((wI (r0.1.1+r1.1.1))+r2.1.1))),())),())
theorem s376 (c230:F230) (c343:F343) (y):TE [g230 c230,g343 c343] Tryz.f376 i376 o376 y=m376 c230 c343 y:=by kernel_rfl
noncomputable def r376:F376:=m376 r230 r343
theorem k376:KO (g376 r376):=fk (s376 r230 r343) ⟨k230,k343,⟨⟩⟩ (by kernel_rfl)
abbrev i345:Ts:=[.a q12, .v (.int .i64)]
abbrev o345:Ts:=[.a q12]
abbrev F345:=FT i345 o345
abbrev g345:=mkG 345 i345 o345
noncomputable def m345 (c376:F376) (c304:F304) (y:PTup i345):Option (PTup o345×BTup i345):=
  (c376 (y.1.1,(y.2.1,(y.1.2.2.2.2.2.2.1,())))).bind fun r0=>
  (c304 (y.1,(r0.1.1,()))).bind fun r1=>
  some (((r1.1.1.1,(r1.1.1.2.1,(r1.1.1.2.2.1,(r1.1.1.2.2.2.1,(r1.1.1.2.2.2.2.1,(r1.1.1.2.2.2.2.2.1,(r0.1.2.1,r1.1.1.2.2.2.2.2.2.2))))))),()),())
theorem s345 (c376:F376) (c304:F304) (y):TE [g376 c376,g304 c304] Tryz.f345 i345 o345 y=m345 c376 c304 y:=by kernel_rfl
noncomputable def r345:F345:=m345 r376 r304
theorem k345:KO (g345 r345):=fk (s345 r376 r304) ⟨k376,k304,⟨⟩⟩ (by kernel_rfl)
abbrev i346:Ts:=[.v (.int .i64), .v (.int .i64), .v (.bool)]
abbrev o346:Ts:=[.v (.int .i64), .v (.bool)]
abbrev F346:=FT i346 o346
abbrev g346:=mkG 346 i346 o346
noncomputable def m346 (c230:F230) (c343:F343) (y:PTup i346):Option (PTup o346×BTup i346):=
  (c230 (y.1,())).bind fun r0=>
  (c230 (y.2.1,())).bind fun r1=>
  (c343 y.2.2).bind fun r2=>
  (c230 ((wI ((wI ((wI (r0.1.1-r1.1.1))-1))+r2.1.1)),())).bind fun r3=>
  some ((r3.1.1,((leI 0 (wI ((wI ((wI (r0.1.1-r1.1.1))-1))+r2.1.1))),())),())
theorem s346 (c230:F230) (c343:F343) (y):TE [g230 c230,g343 c343] Tryz.f346 i346 o346 y=m346 c230 c343 y:=by kernel_rfl
noncomputable def r346:F346:=m346 r230 r343
theorem k346:KO (g346 r346):=fk (s346 r230 r343) ⟨k230,k343,⟨⟩⟩ (by kernel_rfl)
abbrev i348:Ts:=[.a q12, .v (.int .i64)]
abbrev o348:Ts:=[.a q12]
abbrev F348:=FT i348 o348
abbrev g348:=mkG 348 i348 o348
noncomputable def m348 (c230:F230) (c347:F347) (y:PTup i348):Option (PTup o348×BTup i348):=
  (c230 y.2).bind fun r0=>
  (c347 y.2).bind fun r1=>
  some (((y.1.1,(r0.1.1,(y.1.2.2.1,(y.1.2.2.2.1,(r1.1.1,(r1.1.2.1,y.1.2.2.2.2.2.2)))))),()),())
theorem s348 (c230:F230) (c347:F347) (y):TE [g230 c230,g347 c347] Tryz.f348 i348 o348 y=m348 c230 c347 y:=by kernel_rfl
noncomputable def r348:F348:=m348 r230 r347
theorem k348:KO (g348 r348):=fk (s348 r230 r347) ⟨k230,k347,⟨⟩⟩ (by kernel_rfl)
abbrev i301:Ts:=[.a q12, .a q14, .v (.int .i64)]
abbrev o301:Ts:=[.a q12, .v (.bool)]
abbrev R301:=Option (PTup o301×BTup i301)
abbrev F301:=PTup i301→R301
abbrev g301:=mkG 301 i301 o301
noncomputable def m301 (c230:F230) (c304:F304) (c348:F348) (c347:F347) (c346:F346) (c345:F345) (y:PTup i301):R301:=
  let X0:R301:=bif (eqI y.2.1.1 4)then ((c345 (y.1,y.2.1.2)).bind fun r0=>some ((r0.1.1,(true,())),()))else bif (eqI y.2.1.1 29)then ((c345 (y.1,y.2.2)).bind fun r0=>some ((r0.1.1,(true,())),()))else bif (eqI y.2.1.1 5)then ((c346 (y.1.1,(y.2.1.2.1,(y.1.2.2.2.2.2.2.1,())))).bind fun r0=>(c304 (y.1,(r0.1.1,()))).bind fun r1=>some (((r1.1.1.1,(r1.1.1.2.1,(r1.1.1.2.2.1,(r1.1.1.2.2.2.1,(r1.1.1.2.2.2.2.1,(r1.1.1.2.2.2.2.2.1,(r0.1.2.1,r1.1.1.2.2.2.2.2.2.2))))))),(true,())),()))else bif (eqI y.2.1.1 6)then ((c230 (y.1.1,())).bind fun r0=>(c230 y.2.1.2).bind fun r1=>(c304 (y.1,((ZD Go.IntKind.i64 r0.1.1 r1.1.1),()))).bind fun r2=>some ((r2.1.1,(true,())),()))else bif (eqI y.2.1.1 7)then ((c230 (y.1.1,())).bind fun r0=>(c230 y.2.1.2).bind fun r1=>(c304 (y.1,((bOr Go.IntKind.i64 r0.1.1 r1.1.1),()))).bind fun r2=>some ((r2.1.1,(true,())),()))else bif (eqI y.2.1.1 8)then ((c230 (y.1.1,())).bind fun r0=>(c230 y.2.1.2).bind fun r1=>(c304 (y.1,((Yh Go.IntKind.i64 r0.1.1 r1.1.1),()))).bind fun r2=>some ((r2.1.1,(true,())),()))else bif (eqI y.2.1.1 9)then ((c230 (y.1.1,())).bind fun r0=>(c230 y.2.1.2).bind fun r1=>(c347 ((wI (r0.1.1-r1.1.1)),())).bind fun r2=>(c230 (y.1.1,())).bind fun r3=>(c230 y.2.1.2).bind fun r4=>some (((y.1.1,(y.1.2.1,(y.1.2.2.1,(y.1.2.2.2.1,(r2.1.1,(r2.1.2.1,((leI r4.1.1 r3.1.1),y.1.2.2.2.2.2.2.2))))))),(true,())),()))else bif (eqI y.2.1.1 10)then ((c348 (y.1,(y.1.1,()))).bind fun r0=>some ((r0.1.1,(true,())),()))else bif (eqI y.2.1.1 11)then ((c304 (y.1,(y.1.2.1,()))).bind fun r0=>some ((r0.1.1,(true,())),()))else bif (eqI y.2.1.1 12)then ((c230 (y.1.2.1,())).bind fun r0=>(c348 (y.1,((wI (r0.1.1+1)),()))).bind fun r1=>some ((r1.1.1,(true,())),()))else bif (eqI y.2.1.1 13)then ((c230 (y.1.2.1,())).bind fun r0=>(c348 (y.1,((wI (r0.1.1-1)),()))).bind fun r1=>some ((r1.1.1,(true,())),()))else some ((y.1,(false,())),());bif (eqI y.2.1.1 1)then ((c304 (y.1,y.2.1.2)).bind fun r0=>some ((r0.1.1,(true,())),()))else bif (eqI y.2.1.1 2)then (bif (eqI y.2.1.1 2)then ((c304 (y.1,y.2.2)).bind fun r0=>some ((r0.1.1,(true,())),()))else X0)else bif (eqI y.2.1.1 14)then ((c304 (y.1,y.2.2)).bind fun r0=>some ((r0.1.1,(true,())),()))else X0
theorem s301 (c230:F230) (c304:F304) (c348:F348) (c347:F347) (c346:F346) (c345:F345) (y):TE [g230 c230,g304 c304,g348 c348,g347 c347,g346 c346,g345 c345] Tryz.f301 i301 o301 y=m301 c230 c304 c348 c347 c346 c345 y:=by kernel_rfl
noncomputable def r301:F301:=m301 r230 r304 r348 r347 r346 r345
theorem k301:KO (g301 r301):=fk (s301 r230 r304 r348 r347 r346 r345) ⟨k230,k304,k348,k347,k346,k345,⟨⟩⟩ (by kernel_rfl)
abbrev i303:Ts:=[.a q1, .a q12]
abbrev o303:Ts:=[.a q12, .v (.int .i64)]
abbrev F303:=FT i303 o303
abbrev g303:=mkG 303 i303 o303
noncomputable def m303 (c230:F230) (y:PTup i303):Option (PTup o303×BTup i303):=
  bif (neI (Zb y.1.1) 512)then (some ((y.2.1,((0:Int),())),()))
  else (c230 ((wI (y.2.1.2.2.1+1)),())).bind fun r0=>
  bif (leI 0 (wI ((256:Int)+r0.1.1)))then (bif (ltI (wI ((256:Int)+r0.1.1)) (Zb y.1.1))then ((c230 ((rdE .i y.1.1 (wI ((256:Int)+r0.1.1))),())).bind fun r1=>
    some (((y.2.1.1,(y.2.1.2.1,(r0.1.1,y.2.1.2.2.2))),r1.1),()))
   else none)
  else none
theorem s303 (c230:F230) (y):TE [g230 c230] Tryz.f303 i303 o303 y=m303 c230 y:=by kernel_rfl
noncomputable def r303:F303:=m303 r230
theorem k303:KO (g303 r303):=fk (s303 r230) ⟨k230,⟨⟩⟩ (by kernel_rfl)
abbrev i302:Ts:=[.a q1, .a q12]
abbrev o302:Ts:=[.a q12]
abbrev F302:=FT i302 o302
abbrev g302:=mkG 302 i302 o302
noncomputable def m302 (c227:F227) (c303:F303) (y:PTup i302):Option (PTup o302×BTup i302):=
  (c303 (y.1,(y.2.1,()))).bind fun r0=>
  (c303 (y.1,(r0.1.1,()))).bind fun r1=>
  (c227 (r0.1.2.1,r1.1.2)).bind fun r2=>
  some (((r1.1.1.1,(r1.1.1.2.1,(r1.1.1.2.2.1,(r2.1.1,r1.1.1.2.2.2.2)))),()),())
theorem s302 (c227:F227) (c303:F303) (y):TE [g227 c227,g303 c303] Tryz.f302 i302 o302 y=m302 c227 c303 y:=by kernel_rfl
noncomputable def r302:F302:=m302 r227 r303
theorem k302:KO (g302 r302):=fk (s302 r227 r303) ⟨k227,k303,⟨⟩⟩ (by kernel_rfl)
abbrev i279:Ts:=[.a q12, .v (.int .i64)]
abbrev o279:Ts:=[.a q12]
abbrev F279:=FT i279 o279
abbrev g279:=mkG 279 i279 o279
noncomputable def m279 (y:PTup i279):Option (PTup o279×BTup i279):=
  some (((y.1.1,(y.1.2.1,(y.1.2.2.1,(y.1.2.2.2.1,((neI (ZD Go.IntKind.i64 y.2.1 (2:Int)) (0:Int)),((neI (ZD Go.IntKind.i64 y.2.1 (128:Int)) (0:Int)),((neI (ZD Go.IntKind.i64 y.2.1 (1:Int)) (0:Int)),((neI (ZD Go.IntKind.i64 y.2.1 (4:Int)) (0:Int)),())))))))),()),())
theorem s279 (y):TE [] Tryz.f279 i279 o279 y=m279 y:=by kernel_rfl
noncomputable def r279:F279:=m279
theorem k279:KO (g279 r279):=fk (s279) trivial (by kernel_rfl)
abbrev i244:Ts:=[.a q1, .a q12, .a q14, .v (.int .i64)]
abbrev o244:Ts:=[.a q2, .a q12]
abbrev R244:=Option (PTup o244×BTup i244)
abbrev F244:=PTup i244→R244
abbrev g244:=mkG 244 i244 o244
noncomputable def m244 (c229:F229) (c226:F226) (c303:F303) (c295:F295) (c304:F304) (c279:F279) (c93:F93) (c301:F301) (c302:F302) (y:PTup i244):R244:=
  let a0:=y.2;let a1:=a0.1;let a2:=a0.2;let a3:=a1.1;let a4:=a1.2;let a5:=a2.1;let a6:=a4.1;let a7:=a4.2;let a8:=a5.1;let a9:=a7.1;let a10:=a7.2;let a11:=a10.2;let a12:=a11.2;(c93 (y.1,())).bind fun r0=>let X0:R244:=(c229 a5.2).bind fun r4=>some ((r0.1.1,((a3,(a6,(a9,(r4.1.1,a11)))),())),());(c226 (a8,())).bind fun r1=>(c229 ((wI (a10.1+r1.1.1)),())).bind fun r2=>let X1:R244:=bif (eqI a8 20)then ((c295 (r0.1.1,((a3,(a6,(a9,(r2.1.1,a11)))),((Int.fdiv r2.1.1 ((2:Int)^(Min.min (Int.toNat (8:Int)) (64:Nat)))),())))).bind fun r4=>(c295 (r4.1.1,(r4.1.2.1,(r4.1.2.1.2.2.2.1,())))).bind fun r5=>(c229 a5.2).bind fun r6=>some ((r5.1.1,((r5.1.2.1.1,(r5.1.2.1.2.1,(r5.1.2.1.2.2.1,(r6.1.1,r5.1.2.1.2.2.2.2)))),())),()))else bif (eqI a8 21)then ((c302 (y.1,((a3,(a6,(a9,(r2.1.1,a11)))),()))).bind fun r4=>some ((r0.1.1,(r4.1.1,())),()))else bif (eqI a8 22)then ((c295 (r0.1.1,((a3,(a6,(a9,(r2.1.1,a11)))),(a3,())))).bind fun r4=>some ((r4.1.1,(r4.1.2.1,())),()))else bif (eqI a8 23)then ((c303 (y.1,((a3,(a6,(a9,(r2.1.1,a11)))),()))).bind fun r4=>(c304 r4.1).bind fun r5=>some ((r0.1.1,(r5.1.1,())),()))else bif (eqI a8 24)then ((c303 (y.1,((a3,(a6,(a9,(r2.1.1,a11)))),()))).bind fun r4=>(c279 r4.1).bind fun r5=>(c302 (y.1,(r5.1.1,()))).bind fun r6=>some ((r0.1.1,(r6.1.1,())),()))else bif (eqI a8 25)then (bif (eqI a8 25)then (some ((r0.1.1,((a3,(a6,(a9,(r2.1.1,(a11.1,(a12.1,(a12.2.1,((eqI a8 25),())))))))),())),()))else bif (eqI a8 27)then (bif (eqI a8 27)then (some ((r0.1.1,((a3,(a6,(a9,(r2.1.1,(a11.1,(a12.1,((eqI a8 27),a12.2.2))))))),())),()))else some ((r0.1.1,((a3,(a6,(a9,(r2.1.1,a11)))),())),()))else bif (eqI a8 28)then (some ((r0.1.1,((a3,(a6,(a9,(r2.1.1,(a11.1,(a12.1,((eqI a8 27),a12.2.2))))))),())),()))else some ((r0.1.1,((a3,(a6,(a9,(r2.1.1,a11)))),())),()))else bif (eqI a8 26)then (some ((r0.1.1,((a3,(a6,(a9,(r2.1.1,(a11.1,(a12.1,(a12.2.1,((eqI a8 25),())))))))),())),()))else bif (eqI a8 27)then (bif (eqI a8 27)then (some ((r0.1.1,((a3,(a6,(a9,(r2.1.1,(a11.1,(a12.1,((eqI a8 27),a12.2.2))))))),())),()))else some ((r0.1.1,((a3,(a6,(a9,(r2.1.1,a11)))),())),()))else bif (eqI a8 28)then (some ((r0.1.1,((a3,(a6,(a9,(r2.1.1,(a11.1,(a12.1,((eqI a8 27),a12.2.2))))))),())),()))else some ((r0.1.1,((a3,(a6,(a9,(r2.1.1,a11)))),())),());let X2:R244:=bif (eqI a8 17)then (bif a11.1 then X0 else bif (eqI a8 18)then (bif a12.2.1 then X0 else bif (eqI a8 19)then X0 else some ((r0.1.1,((a3,(a6,(a9,(r2.1.1,a11)))),())),()))else bif (eqI a8 19)then X0 else some ((r0.1.1,((a3,(a6,(a9,(r2.1.1,a11)))),())),()))else bif (eqI a8 18)then (bif a12.2.1 then X0 else bif (eqI a8 19)then X0 else some ((r0.1.1,((a3,(a6,(a9,(r2.1.1,a11)))),())),()))else bif (eqI a8 19)then X0 else some ((r0.1.1,((a3,(a6,(a9,(r2.1.1,a11)))),())),());let X3:R244:=bif (eqI a8 16)then (bif (!a11.1)then X0 else X2)else X2;(c301 ((a3,(a6,(a9,(r2.1.1,a11)))),a2)).bind fun r3=>bif r3.1.2.1 then (some ((r0.1.1,(r3.1.1,())),()))else bif (eqI a8 16)then (bif (eqI a8 16)then X3 else X1)else bif (eqI a8 17)then (bif (eqI a8 17)then X3 else X1)else bif (eqI a8 18)then (bif (eqI a8 18)then X3 else X1)else bif (eqI a8 19)then X3 else X1
theorem s244 (c229:F229) (c226:F226) (c303:F303) (c295:F295) (c304:F304) (c279:F279) (c93:F93) (c301:F301) (c302:F302) (y):TE [g229 c229,g226 c226,g303 c303,g295 c295,g304 c304,g279 c279,g93 c93,g301 c301,g302 c302] Tryz.f244 i244 o244 y=m244 c229 c226 c303 c295 c304 c279 c93 c301 c302 y:=by kernel_rfl
noncomputable def r244:F244:=m244 r229 r226 r303 r295 r304 r279 r93 r301 r302
theorem k244:KO (g244 r244):=fk (s244 r229 r226 r303 r295 r304 r279 r93 r301 r302) ⟨k229,k226,k303,k295,k304,k279,k93,k301,k302,⟨⟩⟩ (by kernel_rfl)
abbrev i381:Ts:=[.a q16]
abbrev o381:Ts:=[.a q16, .v (.int .i64)]
abbrev R381:=Option (PTup o381×BTup i381)
abbrev F381:=PTup i381→R381
abbrev g381:=mkG 381 i381 o381
noncomputable def m381 (c172:F172) (c240:F240) (c244:F244) (c171:F171) (c175:F175) (c383:F383) (c384:F384) (y:PTup i381):R381:=
  let a0:=y.1;let a1:=a0.2;let a2:=a1.2;let a3:=a2.2;let a4:=a3.2;let a5:=a4.2;let a6:=a5.2;let a7:=a6.2;let a8:=a7.2;let a9:=a8.2;let a10:=a9.2;let a11:=a10.2;let a12:=a11.2;let a13:=a12.2;let a14:=a13.2;let a15:=a14.2;let a16:=a15.2;let a17:=a16.2;let a18:=a17.2;let a19:=a18.2;let a20:=a19.2;let a21:=a20.2;let a22:=a21.2;let a23:=a22.2.2;let a24:=a23.2.2;let X0:R381:=(c171 ((a0.1,()),((a2.1,(a3.1,())),(a7.1,())))).bind fun r0=>(c172 (r0.1.1,((a4.1,(a5.1,(a6.1,(a7.1,(a8.1,(a9.1,(a10.1,(a11.1,())))))))),()))).bind fun r1=>bif (eqI r1.1.1 1)then ((c383 (a0,(r1.1.2.1,()))).bind fun r2=>(c244 ((r2.1.1.2.2.1,(r2.1.1.2.2.2.1,())),((r2.1.1.2.2.2.2.1,(r2.1.1.2.2.2.2.2.1,(r2.1.1.2.2.2.2.2.2.1,(r2.1.1.2.2.2.2.2.2.2.1,(r2.1.1.2.2.2.2.2.2.2.2.1,(r2.1.1.2.2.2.2.2.2.2.2.2.1,(r2.1.1.2.2.2.2.2.2.2.2.2.2.1,(r2.1.1.2.2.2.2.2.2.2.2.2.2.2.1,())))))))),(r0.1.1,r2.1.2)))).bind fun r3=>(c175 (r0.1.1.1,())).bind fun r4=>some (((r2.1.1.1,(r2.1.1.2.1,(r3.1.1.1,(r3.1.1.2.1,(r3.1.2.1.1,(r3.1.2.1.2.1,(r3.1.2.1.2.2.1,(r3.1.2.1.2.2.2.1,(r3.1.2.1.2.2.2.2.1,(r3.1.2.1.2.2.2.2.2.1,(r3.1.2.1.2.2.2.2.2.2.1,(r3.1.2.1.2.2.2.2.2.2.2.1,r2.1.1.2.2.2.2.2.2.2.2.2.2.2.2)))))))))))),r4.1),()))else bif (eqI r1.1.1 2)then ((c384 (a0,r1.1.2)).bind fun r2=>(c244 ((r2.1.1.2.2.1,(r2.1.1.2.2.2.1,())),((r2.1.1.2.2.2.2.1,(r2.1.1.2.2.2.2.2.1,(r2.1.1.2.2.2.2.2.2.1,(r2.1.1.2.2.2.2.2.2.2.1,(r2.1.1.2.2.2.2.2.2.2.2.1,(r2.1.1.2.2.2.2.2.2.2.2.2.1,(r2.1.1.2.2.2.2.2.2.2.2.2.2.1,(r2.1.1.2.2.2.2.2.2.2.2.2.2.2.1,())))))))),(r0.1.1,((0:Int),()))))).bind fun r3=>(c175 (r0.1.1.1,())).bind fun r4=>some (((r2.1.1.1,(r2.1.1.2.1,(r3.1.1.1,(r3.1.1.2.1,(r3.1.2.1.1,(r3.1.2.1.2.1,(r3.1.2.1.2.2.1,(r3.1.2.1.2.2.2.1,(r3.1.2.1.2.2.2.2.1,(r3.1.2.1.2.2.2.2.2.1,(r3.1.2.1.2.2.2.2.2.2.1,(r3.1.2.1.2.2.2.2.2.2.2.1,r2.1.1.2.2.2.2.2.2.2.2.2.2.2.2)))))))))))),r4.1),()))else (c244 ((a2.1,(a3.1,())),((a4.1,(a5.1,(a6.1,(a7.1,(a8.1,(a9.1,(a10.1,(a11.1,())))))))),(r0.1.1,((0:Int),()))))).bind fun r2=>(c175 (r0.1.1.1,())).bind fun r3=>some (((a0.1,(a1.1,(r2.1.1.1,(r2.1.1.2.1,(r2.1.2.1.1,(r2.1.2.1.2.1,(r2.1.2.1.2.2.1,(r2.1.2.1.2.2.2.1,(r2.1.2.1.2.2.2.2.1,(r2.1.2.1.2.2.2.2.2.1,(r2.1.2.1.2.2.2.2.2.2.1,(r2.1.2.1.2.2.2.2.2.2.2.1,a12)))))))))))),r3.1),());bif a24.2.2.2.1 then ((c240 ((a0.1,()),((a2.1,(a3.1,())),((a4.1,(a5.1,(a6.1,(a7.1,(a8.1,(a9.1,(a10.1,(a11.1,())))))))),((65530:Int),()))))).bind fun r0=>some (((a0.1,(a1.1,(r0.1.1.1,(r0.1.1.2.1,(r0.1.2.1.1,(r0.1.2.1.2.1,(r0.1.2.1.2.2.1,(r0.1.2.1.2.2.2.1,(r0.1.2.1.2.2.2.2.1,(r0.1.2.1.2.2.2.2.2.1,(r0.1.2.1.2.2.2.2.2.2.1,(r0.1.2.1.2.2.2.2.2.2.2.1,(a12.1,(a13.1,(a14.1,(a15.1,(a16.1,(a17.1,(a18.1,(a19.1,(a20.1,(a21.1,(a22.1,(a22.2.1,(a23.1,(a23.2.1,(a24.1,(a24.2.1,(a24.2.2.1,(false,a24.2.2.2.2)))))))))))))))))))))))))))))),((7:Int),())),()))else bif a24.1 then (bif (!a11.1)then ((c240 ((a0.1,()),((a2.1,(a3.1,())),((a4.1,(a5.1,(a6.1,(a7.1,(a8.1,(a9.1,(a10.1,(a11.1,())))))))),((65534:Int),()))))).bind fun r0=>some (((a0.1,(a1.1,(r0.1.1.1,(r0.1.1.2.1,(r0.1.2.1.1,(r0.1.2.1.2.1,(r0.1.2.1.2.2.1,(r0.1.2.1.2.2.2.1,(r0.1.2.1.2.2.2.2.1,(r0.1.2.1.2.2.2.2.2.1,(r0.1.2.1.2.2.2.2.2.2.1,(r0.1.2.1.2.2.2.2.2.2.2.1,a12)))))))))))),((7:Int),())),()))else X0)else X0
theorem s381 (c172:F172) (c240:F240) (c244:F244) (c171:F171) (c175:F175) (c383:F383) (c384:F384) (y):TE [g172 c172,g240 c240,g244 c244,g171 c171,g175 c175,g383 c383,g384 c384] Tryz.f381 i381 o381 y=m381 c172 c240 c244 c171 c175 c383 c384 y:=by kernel_rfl
noncomputable def r381:F381:=m381 r172 r240 r244 r171 r175 r383 r384
theorem k381:KO (g381 r381):=fk (s381 r172 r240 r244 r171 r175 r383 r384) ⟨k172,k240,k244,k171,k175,k383,k384,⟨⟩⟩ (by kernel_rfl)
abbrev i245:Ts:=[.a q3, .v (.int .i64)]
abbrev o245:Ts:=[.v (.int .i64)]
abbrev F245:=FT i245 o245
abbrev g245:=mkG 245 i245 o245
noncomputable def m245 (y:PTup i245):Option (PTup o245×BTup i245):=
  bif (leI 0 (Int.tmod (wI ((wI ((Int.tmod y.2.1 8)+y.1.2.2.1))+(wI (Int.tdiv y.2.1 8)))) (16:Int)))then (bif (ltI (Int.tmod (wI ((wI ((Int.tmod y.2.1 8)+y.1.2.2.1))+(wI (Int.tdiv y.2.1 8)))) (16:Int)) (Zb y.1.2.2.2.2.2.2.1))then (some (((Yh Go.IntKind.i64 (rdE .i y.1.2.2.2.2.2.2.1 (Int.tmod (wI ((wI ((Int.tmod y.2.1 8)+y.1.2.2.1))+(wI (Int.tdiv y.2.1 8)))) (16:Int))) y.1.2.2.2.2.1),()),()))
   else none)
  else none
theorem s245 (y):TE [] Tryz.f245 i245 o245 y=m245 y:=by kernel_rfl
noncomputable def r245:F245:=m245
theorem k245:KO (g245 r245):=fk (s245) trivial (by kernel_rfl)
abbrev i183:Ts:=[.a q3]
abbrev o183:Ts:=[.a q4, .v (.sl true .i), .v (.bool)]
abbrev F183:=FT i183 o183
abbrev g183:=mkG 183 i183 o183
noncomputable def m183 (c164:F164) (c245:F245) (y:PTup i183):Option (PTup o183×BTup i183):=
  (c164 (y.1,())).bind fun r0=>
  bif (eqI y.1.1 20000)then (some ((r0.1.1,([],(false,()))),()))
  else bif (ltI (Int.tmod y.1.1 64) (48:Int))then ((c245 (y.1,((Int.tmod y.1.1 64),()))).bind fun r1=>
   bif (leN ((List.length r0.1.1.2.2.2.2.2.2.2.1)+(List.length (r1.1.1::[]))) (E.most .i))then (some ((((wI (y.1.1+1)),(r0.1.1.2.1,(r0.1.1.2.2.1,(r0.1.1.2.2.2.1,(r0.1.1.2.2.2.2.1,(r0.1.1.2.2.2.2.2.1,(r0.1.1.2.2.2.2.2.2.1,((r0.1.1.2.2.2.2.2.2.2.1++(r1.1.1::[])),())))))))),([],(false,()))),()))
   else none)
  else bif (eqI (Int.tmod y.1.1 64) (48:Int))then (bif (leN (0+(List.length y.1.2.2.2.2.2.2.2.1)) (E.most .i))then (some ((((wI (y.1.1+1)),(r0.1.1.2.1,(r0.1.1.2.2.1,(r0.1.1.2.2.2.1,(r0.1.1.2.2.2.2.1,(true,(r0.1.1.2.2.2.2.2.2.1,([],())))))))),(([]++y.1.2.2.2.2.2.2.2.1),((ltI 127 y.1.2.1),()))),()))
   else none)
  else bif (eqI (Int.tmod y.1.1 64) (63:Int))then (some ((((wI (y.1.1+1)),(r0.1.1.2.1,(r0.1.1.2.2.1,(r0.1.1.2.2.2.1,(r0.1.1.2.2.2.2.1,(false,r0.1.1.2.2.2.2.2.2)))))),([],(false,()))),()))
  else some ((((wI (y.1.1+1)),r0.1.1.2),([],(false,()))),())
theorem s183 (c164:F164) (c245:F245) (y):TE [g164 c164,g245 c245] Tryz.f183 i183 o183 y=m183 c164 c245 y:=by kernel_rfl
noncomputable def r183:F183:=m183 r164 r245
theorem k183:KO (g183 r183):=fk (s183 r164 r245) ⟨k164,k245,⟨⟩⟩ (by kernel_rfl)
abbrev i185:Ts:=[.a q13]
abbrev o185:Ts:=[.a q13, .v (.int .i64), .v (.bool)]
abbrev R185:=Option (PTup o185×BTup i185)
abbrev F185:=PTup i185→R185
abbrev g185:=mkG 185 i185 o185
noncomputable def m185 (y:PTup i185):R185:=
  let a0:=y.1;let a1:=a0.1;let a2:=a0.2;let a3:=a2.1;let a4:=a2.2;let a5:=a4.1;let a6:=a4.2;let a7:=a6.1;let a8:=a6.2;let a9:=a8.1;let a10:=a8.2;let a11:=a10.1;let X0:R185:=bif (eqI (Int.tmod a1 16) (15:Int))then (bif (ltI 0 a9)then (some ((((wI (a1+1)),(a3,(a3,((wI ((1:Int)-a7)),a8)))),((wI ((8:Int)*(wI ((1:Int)-a7)))),((eqI (Int.tmod a1 16) (15:Int)),()))),()))else some ((((wI (a1+1)),(a3,(a3,((wI ((1:Int)-a7)),a8)))),((0:Int),((eqI (Int.tmod a1 16) (15:Int)),()))),()))else some ((((wI (a1+1)),(a3,(a3,((wI ((1:Int)-a7)),a8)))),((0:Int),((eqI (Int.tmod a1 16) (15:Int)),()))),());let X1:R185:=bif (eqI (Int.tmod a1 16) (15:Int))then (bif (ltI 0 a9)then (some ((((wI (a1+1)),(a3,((wI (a5-1)),a6))),((wI ((8:Int)*a7)),((eqI (Int.tmod a1 16) (15:Int)),()))),()))else some ((((wI (a1+1)),(a3,((wI (a5-1)),a6))),((0:Int),((eqI (Int.tmod a1 16) (15:Int)),()))),()))else some ((((wI (a1+1)),(a3,((wI (a5-1)),a6))),((0:Int),((eqI (Int.tmod a1 16) (15:Int)),()))),());let X2:R185:=bif (eqI (Int.tmod a1 16) (15:Int))then (bif (ltI 0 a9)then (some ((((wI (a1+1)),(a3,(a3,a6))),((wI ((8:Int)*a7)),((eqI (Int.tmod a1 16) (15:Int)),()))),()))else some ((((wI (a1+1)),(a3,(a3,a6))),((0:Int),((eqI (Int.tmod a1 16) (15:Int)),()))),()))else some ((((wI (a1+1)),(a3,(a3,a6))),((0:Int),((eqI (Int.tmod a1 16) (15:Int)),()))),());let X3:R185:=some ((((wI (a1+1)),(a3,((wI (a5-1)),(a7,((wI (a9-1)),(a11,(a11,()))))))),((0:Int),((eqI (Int.tmod a1 16) (15:Int)),()))),());let X4:R185:=some ((((wI (a1+1)),(a3,(a3,((wI ((1:Int)-a7)),((wI (a9-1)),(a11,(a11,()))))))),((0:Int),((eqI (Int.tmod a1 16) (15:Int)),()))),());let X5:R185:=some ((((wI (a1+1)),(a3,((wI (a5-1)),(a7,((wI (a9-1)),(a11,(false,()))))))),((0:Int),((eqI (Int.tmod a1 16) (15:Int)),()))),());let X6:R185:=some ((((wI (a1+1)),(a3,((wI (a5-1)),(a7,((wI (a9-1)),(a11,(true,()))))))),((0:Int),((eqI (Int.tmod a1 16) (15:Int)),()))),());let X7:R185:=some ((((wI (a1+1)),(a3,(a3,((wI ((1:Int)-a7)),((wI (a9-1)),(a11,(false,()))))))),((0:Int),((eqI (Int.tmod a1 16) (15:Int)),()))),());let X8:R185:=some ((((wI (a1+1)),(a3,(a3,((wI ((1:Int)-a7)),((wI (a9-1)),(a11,(true,()))))))),((0:Int),((eqI (Int.tmod a1 16) (15:Int)),()))),());let X9:R185:=some ((((wI (a1+1)),(a3,(a3,(a7,((wI (a9-1)),(a11,(a11,()))))))),((0:Int),((eqI (Int.tmod a1 16) (15:Int)),()))),());let X10:R185:=some ((((wI (a1+1)),(a3,(a3,(a7,((wI (a9-1)),(a11,(false,()))))))),((0:Int),((eqI (Int.tmod a1 16) (15:Int)),()))),());let X11:R185:=some ((((wI (a1+1)),(a3,(a3,(a7,((wI (a9-1)),(a11,(true,()))))))),((0:Int),((eqI (Int.tmod a1 16) (15:Int)),()))),());bif (eqI a1 20000)then (some ((a0,((0:Int),(false,()))),()))else bif (eqI a5 0)then (bif (ltI 0 a9)then (bif (eqI (Int.tmod a1 32) (0:Int))then (bif (ltI 0 a9)then (bif a10.2.1 then (bif (eqI (Int.tmod a1 16) (15:Int))then (bif (ltI 0 (wI (a9-1)))then (some ((((wI (a1+1)),(a3,(a3,((wI ((1:Int)-a7)),((wI (a9-1)),(a11,(true,()))))))),((wI ((8:Int)*(wI ((1:Int)-a7)))),((eqI (Int.tmod a1 16) (15:Int)),()))),()))else X8)else X8)else bif (eqI (wI (a9-1)) (0:Int))then (bif (eqI (Int.tmod a1 16) (15:Int))then (bif (ltI 0 (wI (a9-1)))then (some ((((wI (a1+1)),(a3,(a3,((wI ((1:Int)-a7)),((wI (a9-1)),(a11,(a11,()))))))),((wI ((8:Int)*(wI ((1:Int)-a7)))),((eqI (Int.tmod a1 16) (15:Int)),()))),()))else X4)else X4)else bif (eqI (Int.tmod a1 16) (15:Int))then (bif (ltI 0 (wI (a9-1)))then (some ((((wI (a1+1)),(a3,(a3,((wI ((1:Int)-a7)),((wI (a9-1)),(a11,(false,()))))))),((wI ((8:Int)*(wI ((1:Int)-a7)))),((eqI (Int.tmod a1 16) (15:Int)),()))),()))else X7)else X7)else X0)else X0)else bif (eqI (Int.tmod a1 32) (0:Int))then (bif (ltI 0 a9)then (bif a10.2.1 then (bif (eqI (Int.tmod a1 16) (15:Int))then (bif (ltI 0 (wI (a9-1)))then (some ((((wI (a1+1)),(a3,(a3,(a7,((wI (a9-1)),(a11,(true,()))))))),((wI ((8:Int)*a7)),((eqI (Int.tmod a1 16) (15:Int)),()))),()))else X11)else X11)else bif (eqI (wI (a9-1)) (0:Int))then (bif (eqI (Int.tmod a1 16) (15:Int))then (bif (ltI 0 (wI (a9-1)))then (some ((((wI (a1+1)),(a3,(a3,(a7,((wI (a9-1)),(a11,(a11,()))))))),((wI ((8:Int)*a7)),((eqI (Int.tmod a1 16) (15:Int)),()))),()))else X9)else X9)else bif (eqI (Int.tmod a1 16) (15:Int))then (bif (ltI 0 (wI (a9-1)))then (some ((((wI (a1+1)),(a3,(a3,(a7,((wI (a9-1)),(a11,(false,()))))))),((wI ((8:Int)*a7)),((eqI (Int.tmod a1 16) (15:Int)),()))),()))else X10)else X10)else X2)else X2)else bif (eqI (Int.tmod a1 32) (0:Int))then (bif (ltI 0 a9)then (bif a10.2.1 then (bif (eqI (Int.tmod a1 16) (15:Int))then (bif (ltI 0 (wI (a9-1)))then (some ((((wI (a1+1)),(a3,((wI (a5-1)),(a7,((wI (a9-1)),(a11,(true,()))))))),((wI ((8:Int)*a7)),((eqI (Int.tmod a1 16) (15:Int)),()))),()))else X6)else X6)else bif (eqI (wI (a9-1)) (0:Int))then (bif (eqI (Int.tmod a1 16) (15:Int))then (bif (ltI 0 (wI (a9-1)))then (some ((((wI (a1+1)),(a3,((wI (a5-1)),(a7,((wI (a9-1)),(a11,(a11,()))))))),((wI ((8:Int)*a7)),((eqI (Int.tmod a1 16) (15:Int)),()))),()))else X3)else X3)else bif (eqI (Int.tmod a1 16) (15:Int))then (bif (ltI 0 (wI (a9-1)))then (some ((((wI (a1+1)),(a3,((wI (a5-1)),(a7,((wI (a9-1)),(a11,(false,()))))))),((wI ((8:Int)*a7)),((eqI (Int.tmod a1 16) (15:Int)),()))),()))else X5)else X5)else X1)else X1
theorem s185 (y):TE [] Tryz.f185 i185 o185 y=m185 y:=by kernel_rfl
noncomputable def r185:F185:=m185
theorem k185:KO (g185 r185):=fk (s185) trivial (by kernel_rfl)
abbrev i382:Ts:=[.a [.sl true .n, .sl true .i, .sl true .i, .int .i64, .int .i64, .int .i64, .int .i64, .int .i64, .bool, .bool, .bool, .bool, .int .i64, .int .i64, .int .i64, .int .i64, .int .i64, .bool, .sl false .i, .sl false .i, .int .i64, .int .i64, .int .i64, .int .i64, .int .i64, .bool, .bool, .bool, .int .i64, .bool, .int .i64, .sl true .n, .sl true .i, .sl true .i]]
abbrev o382:Ts:=[.a q16]
abbrev F382:=FT i382 o382
abbrev g382:=mkG 382 i382 o382
noncomputable def m382 (c185:F185) (c183:F183) (y:PTup i382):Option (PTup o382×BTup i382):=
  let a0:=y.1;let a1:=a0.2;let a2:=a1.2;let a3:=a2.2;let a4:=a3.2;let a5:=a4.2;let a6:=a5.2;let a7:=a6.2;let a8:=a7.2;let a9:=a8.2;let a10:=a9.2;let a11:=a10.2;let a12:=a11.2;let a13:=a12.2;let a14:=a13.2;let a15:=a14.2;let a16:=a15.2;let a17:=a16.2;let a18:=a17.2;let a19:=a18.2;let a20:=a19.2;let a21:=a20.2;let a22:=a21.2;let a23:=a22.2;let a24:=a23.2;let a25:=a24.2;let a26:=a25.2;let a27:=a26.2;let a28:=a27.2;let a29:=a28.2;let a30:=a29.2;let a31:=a30.2;let a32:=a31.2;(c183 ((a12.1,(a13.1,(a14.1,(a15.1,(a16.1,(a17.1,(a18.1,(a19.1,())))))))),())).bind fun r0=>let b0:=r0.1;let b1:=b0.1;let b2:=b0.2;let b3:=b1.2;let b4:=b3.2;let b5:=b4.2;let b6:=b5.2;let b7:=b6.2;let b8:=b7.2;let b9:=b8.2.1;(c185 ((a20.1,(a21.1,(a22.1,(a23.1,(a24.1,(a25.1,(a26.1,()))))))),())).bind fun r1=>let d0:=r1.1;let d1:=d0.1;let d2:=d1.2;let d3:=d0.2.1;let d4:=d2.2;let d5:=d4.2;let d6:=d5.2;let d7:=d6.2;let d8:=d7.2.1;bif (eqI (Int.tmod a12.1 64) (48:Int))then (bif (leN ((List.length a31.1)+(List.length (b2.1::[]))) (E.most .n))then (bif d0.2.2.1 then (bif (leN ((List.length a32.1)+(List.length (d3::[]))) (E.most .i))then (bif a29.1 then (some (((a0.1,(a1.1,(a2.1,(a3.1,(a4.1,(a5.1,(a6.1,(a7.1,(a8.1,(a9.1,(a10.1,(a11.1,(b1.1,(b3.1,(b4.1,(b5.1,(b6.1,(b7.1,(b8.1,(b9,(d1.1,(d2.1,(d4.1,(d5.1,(d6.1,(d7.1,(d8,(a27.1,(a28.1,(true,(a30.1,((a31.1++(b2.1::[])),((a32.1++(d3::[])),a32.2))))))))))))))))))))))))))))))))),()),()))
      else some (((a0.1,(a1.1,(a2.1,(a3.1,(a4.1,(a5.1,(a6.1,(a7.1,(a8.1,(a9.1,(a10.1,(a11.1,(b1.1,(b3.1,(b4.1,(b5.1,(b6.1,(b7.1,(b8.1,(b9,(d1.1,(d2.1,(d4.1,(d5.1,(d6.1,(d7.1,(d8,(a27.1,(a28.1,(b2.2.1,(a30.1,((a31.1++(b2.1::[])),((a32.1++(d3::[])),a32.2))))))))))))))))))))))))))))))))),()),()))
     else none)
    else bif a29.1 then (some (((a0.1,(a1.1,(a2.1,(a3.1,(a4.1,(a5.1,(a6.1,(a7.1,(a8.1,(a9.1,(a10.1,(a11.1,(b1.1,(b3.1,(b4.1,(b5.1,(b6.1,(b7.1,(b8.1,(b9,(d1.1,(d2.1,(d4.1,(d5.1,(d6.1,(d7.1,(d8,(a27.1,(a28.1,(true,(a30.1,((a31.1++(b2.1::[])),a32)))))))))))))))))))))))))))))))),()),()))
    else some (((a0.1,(a1.1,(a2.1,(a3.1,(a4.1,(a5.1,(a6.1,(a7.1,(a8.1,(a9.1,(a10.1,(a11.1,(b1.1,(b3.1,(b4.1,(b5.1,(b6.1,(b7.1,(b8.1,(b9,(d1.1,(d2.1,(d4.1,(d5.1,(d6.1,(d7.1,(d8,(a27.1,(a28.1,(b2.2.1,(a30.1,((a31.1++(b2.1::[])),a32)))))))))))))))))))))))))))))))),()),()))
   else none)
  else bif d0.2.2.1 then (bif (leN ((List.length a32.1)+(List.length (d3::[]))) (E.most .i))then (bif a29.1 then (some (((a0.1,(a1.1,(a2.1,(a3.1,(a4.1,(a5.1,(a6.1,(a7.1,(a8.1,(a9.1,(a10.1,(a11.1,(b1.1,(b3.1,(b4.1,(b5.1,(b6.1,(b7.1,(b8.1,(b9,(d1.1,(d2.1,(d4.1,(d5.1,(d6.1,(d7.1,(d8,(a27.1,(a28.1,(true,(a30.1,(a31.1,((a32.1++(d3::[])),a32.2))))))))))))))))))))))))))))))))),()),()))
    else some (((a0.1,(a1.1,(a2.1,(a3.1,(a4.1,(a5.1,(a6.1,(a7.1,(a8.1,(a9.1,(a10.1,(a11.1,(b1.1,(b3.1,(b4.1,(b5.1,(b6.1,(b7.1,(b8.1,(b9,(d1.1,(d2.1,(d4.1,(d5.1,(d6.1,(d7.1,(d8,(a27.1,(a28.1,(b2.2.1,(a30.1,(a31.1,((a32.1++(d3::[])),a32.2))))))))))))))))))))))))))))))))),()),()))
   else none)
  else bif a29.1 then (some (((a0.1,(a1.1,(a2.1,(a3.1,(a4.1,(a5.1,(a6.1,(a7.1,(a8.1,(a9.1,(a10.1,(a11.1,(b1.1,(b3.1,(b4.1,(b5.1,(b6.1,(b7.1,(b8.1,(b9,(d1.1,(d2.1,(d4.1,(d5.1,(d6.1,(d7.1,(d8,(a27.1,(a28.1,(true,a30)))))))))))))))))))))))))))))),()),()))
  else some (((a0.1,(a1.1,(a2.1,(a3.1,(a4.1,(a5.1,(a6.1,(a7.1,(a8.1,(a9.1,(a10.1,(a11.1,(b1.1,(b3.1,(b4.1,(b5.1,(b6.1,(b7.1,(b8.1,(b9,(d1.1,(d2.1,(d4.1,(d5.1,(d6.1,(d7.1,(d8,(a27.1,(a28.1,(b2.2.1,a30)))))))))))))))))))))))))))))),()),())
theorem s382 (c185:F185) (c183:F183) (y):TE [g185 c185,g183 c183] Tryz.f382 i382 o382 y=m382 c185 c183 y:=by kernel_rfl
noncomputable def r382:F382:=m382 r185 r183
theorem k382:KO (g382 r382):=fk (s382 r185 r183) ⟨k185,k183,⟨⟩⟩ (by kernel_rfl)
abbrev i374:Ts:=[.a q16]
abbrev o374:Ts:=[.a q16, .v (.bool)]
abbrev R374:=Option (PTup o374×BTup i374)
abbrev F374:=PTup i374→R374
abbrev g374 (c:F374):Nat×Tev.Fn:=(374,⟨i374,o374,c, .may⟩)
abbrev lc374_0:Ts:=[.v (.int .i64)]
abbrev lb374_0:Ts:=[.p q16]
abbrev lv374_0:Ts:=[.v (.int .i64)]
abbrev lr374_0:Ts:=[]
abbrev R374_0:=Option (Sum (PTup lv374_0) (PTup lr374_0)×BTup lb374_0)
abbrev B374_0:=PTup lb374_0→PTup lv374_0→R374_0
abbrev A374_0:=PTup lc374_0→B374_0
noncomputable def w374_0 (c381:F381) (c382:F382) (again:B374_0) (x:PTup lc374_0) (y:PTup lb374_0) (z:PTup lv374_0):R374_0:=
  bif (ltI z.1 x.1)then ((c382 (y.1,())).bind fun r0=>
   again (r0.1.1,()) ((wI (z.1+1)),()))
  else some ((Sum.inl z),(y.1,()))
noncomputable def e374_0 (l:A374_0):ZC:=⟨[5],lc374_0,[4],lb374_0,[6],lv374_0,[],lr374_0,0,[],l⟩
noncomputable def m374 (c381:F381) (c382:F382) (l0:A374_0) (y:PTup i374):R374:=
  let X0:R374:=some ((([],([],([],((0:Int),((0:Int),((0:Int),((0:Int),((0:Int),(false,(false,(false,(false,((0:Int),((0:Int),((0:Int),((0:Int),((0:Int),(false,([],([],((0:Int),((0:Int),((0:Int),((0:Int),((0:Int),(false,(false,(false,((0:Int),(false,((0:Int),([],([],([],())))))))))))))))))))))))))))))))))),(false,())),());(c381 (y.1,())).bind fun r0=>bif (ltI 20000 (wI (r0.1.1.2.2.2.2.2.2.2.2.2.2.2.2.1+r0.1.2.1)))then X0 else (l0 r0.1.2 (r0.1.1,()) ((0:Int),())).bind fun r1=>let d0:=r1.2;let d1:=d0.1;let d2:=d1.2;let d3:=d2.2;let d4:=d3.2;let d5:=d4.2;let d6:=d5.2;let d7:=d6.2;let d8:=d7.2;let d9:=d8.2;let d10:=d9.2;let d11:=d10.2;let d12:=d11.2;let d13:=d12.2;let d14:=d13.2;let d15:=d14.2;let d16:=d15.2;let d17:=d16.2;let d18:=d17.2;let d19:=d18.2;let d20:=d19.2;let d21:=d20.2;let d22:=d21.2;let d23:=d22.2;let d24:=d23.2.2;let d25:=d24.2.2;Zu r1.1 (fun r2=>some (((d1.1,(d2.1,(d3.1,(d4.1,(d5.1,(d6.1,(d7.1,(d8.1,(d9.1,(d10.1,(d11.1,(d12.1,(d13.1,(d14.1,(d15.1,(d16.1,(d17.1,(d18.1,(d19.1,(d20.1,(d21.1,(d22.1,(d23.1,(d23.2.1,(d24.1,(d24.2.1,(d25.1,(d25.2.1,(d25.2.2.1,(d25.2.2.2.1,((wI (d25.2.2.2.2.1+1)),d25.2.2.2.2.2))))))))))))))))))))))))))))))),(true,())),())) (fun r2=>X0)
noncomputable def E374 (c381:F381) (c382:F382) (l0:A374_0):Zy:=⟨⟨Tryz.prog,Z0 [g381 c381,g382 c382]⟩,Qc [(5,e374_0 l0)]⟩
theorem t374_0 (c381:F381) (c382:F382) (l0:A374_0) (again) (x y z):ZT (E374 c381 c382 l0) (Zg (Zh Tryz.f374) 0) (e374_0 l0) Tryz.f374.ntmps again x y z=w374_0 c381 c382 again x y z:=by kernel_rfl
noncomputable def n374_0 (c381:F381) (c382:F382):Nat→A374_0
  |0,_,_,_=>none
  |n+1,x,y,z=>w374_0 c381 c382 (fun y z=>n374_0 c381 c382 n x y z) x y z
theorem s374 (c381:F381) (c382:F382) (l0:A374_0) (y):Zsb (E374 c381 c382 l0) Tryz.f374 i374 [.sl true .n, .sl true .i, .sl true .i, .int .i64, .int .i64, .int .i64, .int .i64, .int .i64, .bool, .bool, .bool, .bool, .int .i64, .int .i64, .int .i64, .int .i64, .int .i64, .bool, .sl true .i, .sl true .i, .int .i64, .int .i64, .int .i64, .int .i64, .int .i64, .bool, .bool, .bool, .int .i64, .bool, .int .i64, .sl true .n, .sl true .i, .sl true .i] y=m374 c381 c382 l0 y:=by kernel_rfl
noncomputable def L374_0:A374_0:=n374_0 r381 r382 fuel
noncomputable def r374:F374:=m374 r381 r382 L374_0
theorem k374:KO (g374 r374):=by
  have hE: ∀g f,(E374 r381 r382 L374_0).env.fns g=some f→Zr Tryz.prog g f:=Qb ⟨k381,k382,⟨⟩⟩
  have h0:ZN Tryz.prog Tryz.f374.ntmps (Zg (Zh Tryz.f374) 0) (e374_0 L374_0):=Z1 (E:=E374 r381 r382 L374_0) rfl hE mixed (Zn.of_list (l:=[]) (by kernel_rfl) trivial) (n374_0 r381 r382) (fun _ _ _=>rfl) (fun n x y z=>t374_0 r381 r382 L374_0 _ x y z) rfl
  exact ZrG (E:=E374 r381 r382 L374_0) rfl hE mixed (by kernel_rfl) (by kernel_rfl) (Zn.of_list (l:=[(Zg (Zh Tryz.f374) 0)]) (by kernel_rfl) (.one (by kernel_rfl) h0 trivial)) (s374 r381 r382 L374_0)
abbrev i342:Ts:=[.a q15]
abbrev o342:Ts:=[.a q16, .v (.bool)]
abbrev F342:=FT i342 o342
abbrev g342:=mkG 342 i342 o342
noncomputable def m342 (c340:F340) (c341:F341) (c374:F374) (y:PTup i342):Option (PTup o342×BTup i342):=
  (c340 (y.1,())).bind fun r0=>
  bif (!r0.1.1)then (some ((([],([],([],((0:Int),((0:Int),((0:Int),((0:Int),((0:Int),(false,(false,(false,(false,((0:Int),((0:Int),((0:Int),((0:Int),((0:Int),(false,([],([],((0:Int),((0:Int),((0:Int),((0:Int),((0:Int),(false,(false,(false,((0:Int),(false,((0:Int),([],([],([],())))))))))))))))))))))))))))))))))),(false,())),()))
  else (c341 (y.1,())).bind fun r1=>
  (c374 (r1.1.1,())).bind fun r2=>
  bif r2.1.2.1 then (some ((r2.1.1,(true,())),()))
  else (c341 (y.1,())).bind fun r3=>
  some ((r3.1.1,(false,())),())
theorem s342 (c340:F340) (c341:F341) (c374:F374) (y):TE [g340 c340,g341 c341,g374 c374] Tryz.f342 i342 o342 y=m342 c340 c341 c374 y:=by kernel_rfl
noncomputable def r342:F342:=m342 r340 r341 r374
theorem k342:KO (g342 r342):=fk (s342 r340 r341 r374) ⟨k340,k341,k374,⟨⟩⟩ (by kernel_rfl)
abbrev i290:Ts:=[.a q15, .v (.int .i64)]
abbrev o290:Ts:=[.a q16, .v (.int .i64)]
abbrev F290:=FT i290 o290
abbrev g290:=mkG 290 i290 o290
abbrev lc290_0:Ts:=[.v (.int .i64)]
abbrev lb290_0:Ts:=[.p q16, .p q16]
abbrev lv290_0:Ts:=[.v (.int .i64)]
abbrev lr290_0:Ts:=[.v (.int .i64)]
abbrev R290_0:=Option (Sum (PTup lv290_0) (PTup lr290_0)×BTup lb290_0)
abbrev B290_0:=PTup lb290_0→PTup lv290_0→R290_0
abbrev A290_0:=PTup lc290_0→B290_0
noncomputable def w290_0 (c340:F340) (c342:F342) (c341:F341) (c105:F105) (again:B290_0) (x:PTup lc290_0) (y:PTup lb290_0) (z:PTup lv290_0):R290_0:=
  let a0:=y.2;let a1:=a0.1;let a2:=a1.2;let a3:=a2.2;let a4:=a3.2;let a5:=a4.2;let a6:=a5.2;let a7:=a6.2;let a8:=a7.2;let a9:=a8.2;let a10:=a9.2;let a11:=a10.2;let a12:=a11.2;let a13:=a12.2;let a14:=a13.2;let a15:=a14.2;let a16:=a15.2;let a17:=a16.2;let a18:=a17.2;let a19:=a18.2;let a20:=a19.2;let a21:=a20.2;let a22:=a21.2;let a23:=a22.2.2;let a24:=a23.2.2;(c105 (x.1,((3000:Int),()))).bind fun r0=>
  bif (ltI z.1 r0.1.1)then ((c342 (a1,())).bind fun r1=>
   bif (!r1.1.2.1)then (some ((Sum.inr z),(a1,(([],([],([],(a4.1,(a5.1,(a6.1,(a7.1,(a8.1,(a9.1,(a10.1,(a11.1,(a12.1,(a13.1,(a14.1,(a15.1,(a16.1,(a17.1,(a18.1,([],([],(a21.1,(a22.1,(a22.2.1,(a23.1,(a23.2.1,(a24.1,(a24.2.1,(a24.2.2.1,(a24.2.2.2.1,(a24.2.2.2.2.1,(a24.2.2.2.2.2.1,([],([],([],())))))))))))))))))))))))))))))))))),()))))
   else again (y.1,(r1.1.1,())) ((wI (z.1+1)),()))
  else some ((Sum.inl z),(y.1,(a1,())))
noncomputable def e290_0 (l:A290_0):ZC:=⟨[1],lc290_0,[4,6],lb290_0,[7],lv290_0,[5],lr290_0,0,[false,true],l⟩
noncomputable def m290 (c340:F340) (c342:F342) (c341:F341) (c105:F105) (l0:A290_0) (y:PTup i290):Option (PTup o290×BTup i290):=
  (c340 (y.1,())).bind fun r0=>
  bif (!r0.1.1)then (some ((([],([],([],((0:Int),((0:Int),((0:Int),((0:Int),((0:Int),(false,(false,(false,(false,((0:Int),((0:Int),((0:Int),((0:Int),((0:Int),(false,([],([],((0:Int),((0:Int),((0:Int),((0:Int),((0:Int),(false,(false,(false,((0:Int),(false,((0:Int),([],([],([],())))))))))))))))))))))))))))))))))),((0:Int),())),()))
  else (c341 (y.1,())).bind fun r1=>
  (l0 y.2 (([],([],([],((0:Int),((0:Int),((0:Int),((0:Int),((0:Int),(false,(false,(false,(false,((0:Int),((0:Int),((0:Int),((0:Int),((0:Int),(false,([],([],((0:Int),((0:Int),((0:Int),((0:Int),((0:Int),(false,(false,(false,((0:Int),(false,((0:Int),([],([],([],())))))))))))))))))))))))))))))))))),(r1.1.1,())) ((0:Int),())).bind fun r2=>
  Zu r2.1 (fun r3=>some ((r2.2.2.1,r3),()))
  (fun r3=>some ((r2.2.1,r3),()))
noncomputable def E290 (c340:F340) (c342:F342) (c341:F341) (c105:F105) (l0:A290_0):Zy:=⟨⟨Tryz.prog,Z0 [g340 c340,g342 c342,g341 c341,g105 c105]⟩,Qc [(5,e290_0 l0)]⟩
theorem t290_0 (c340:F340) (c342:F342) (c341:F341) (c105:F105) (l0:A290_0) (again) (x y z):ZT (E290 c340 c342 c341 c105 l0) (Zg (Zh Tryz.f290) 0) (e290_0 l0) Tryz.f290.ntmps again x y z=w290_0 c340 c342 c341 c105 again x y z:=by kernel_rfl
noncomputable def n290_0 (c340:F340) (c342:F342) (c341:F341) (c105:F105):Nat→A290_0
  |0,_,_,_=>none
  |n+1,x,y,z=>w290_0 c340 c342 c341 c105 (fun y z=>n290_0 c340 c342 c341 c105 n x y z) x y z
theorem s290 (c340:F340) (c342:F342) (c341:F341) (c105:F105) (l0:A290_0) (y):Z4 (E290 c340 c342 c341 c105 l0) Tryz.f290 i290 o290 y=m290 c340 c342 c341 c105 l0 y:=by kernel_rfl
noncomputable def L290_0:A290_0:=n290_0 r340 r342 r341 r105 fuel
noncomputable def r290:F290:=m290 r340 r342 r341 r105 L290_0
theorem k290:KO (g290 r290):=by
  have hE: ∀g f,(E290 r340 r342 r341 r105 L290_0).env.fns g=some f→Zr Tryz.prog g f:=Qb ⟨k340,k342,k341,k105,⟨⟩⟩
  have h0:ZN Tryz.prog Tryz.f290.ntmps (Zg (Zh Tryz.f290) 0) (e290_0 L290_0):=Z1 (E:=E290 r340 r342 r341 r105 L290_0) rfl hE mixed (Zn.of_list (l:=[]) (by kernel_rfl) trivial) (n290_0 r340 r342 r341 r105) (fun _ _ _=>rfl) (fun n x y z=>t290_0 r340 r342 r341 r105 L290_0 _ x y z) rfl
  exact Qh (E:=E290 r340 r342 r341 r105 L290_0) rfl hE mixed (by kernel_rfl) (by kernel_rfl) (Zn.of_list (l:=[(Zg (Zh Tryz.f290) 0)]) (by kernel_rfl) (.one (by kernel_rfl) h0 trivial)) (s290 r340 r342 r341 r105 L290_0)
abbrev i232:Ts:=[.a q10]
abbrev o232:Ts:=[.a q16]
abbrev R232:=Option (PTup o232×BTup i232)
abbrev F232:=PTup i232→R232
abbrev g232:=mkG 232 i232 o232
noncomputable def m232 (c289:F289) (c290:F290) (c15:F15) (y:PTup i232):R232:=
  let X0:R232:=some ((([],([],([],((0:Int),((0:Int),((0:Int),((0:Int),((0:Int),(false,(false,(false,(false,((0:Int),((0:Int),((0:Int),((0:Int),((0:Int),(false,([],([],((0:Int),((0:Int),((0:Int),((0:Int),((0:Int),(false,(false,(false,((0:Int),(false,((0:Int),([],([],([],())))))))))))))))))))))))))))))))))),()),());(c15 (y.1,())).bind fun r0=>bif (!r0.1.1)then X0 else bif (ltI 3000 y.1.2.2.2.2.2.2.2.2.2.2.2.2.2.2.2.2.2.2.2.1)then X0 else (c289 ((y.1.1,()),(y.1.2.1,()))).bind fun r1=>(c290 (r1.1.1,(y.1.2.2.2.2.2.2.2.2.2.2.2.2.2.2.2.2.2.2.2.1,()))).bind fun r2=>some ((r2.1.1,()),())
theorem s232 (c289:F289) (c290:F290) (c15:F15) (y):TE [g289 c289,g290 c290,g15 c15] Tryz.f232 i232 o232 y=m232 c289 c290 c15 y:=by kernel_rfl
noncomputable def r232:F232:=m232 r289 r290 r15
theorem k232:KO (g232 r232):=fk (s232 r289 r290 r15) ⟨k289,k290,k15,⟨⟩⟩ (by kernel_rfl)
abbrev i291:Ts:=[.v (.sl false .i), .v (.sl false .i)]
abbrev o291:Ts:=[.v (.bool)]
abbrev F291:=FT i291 o291
abbrev g291:=mkG 291 i291 o291
abbrev lc291_0:Ts:=[.v (.sl false .i), .v (.sl false .i)]
abbrev lb291_0:Ts:=[]
abbrev lv291_0:Ts:=[.v (.int .i64)]
abbrev lr291_0:Ts:=[.v (.bool)]
abbrev R291_0:=Option (Sum (PTup lv291_0) (PTup lr291_0)×BTup lb291_0)
abbrev B291_0:=PTup lb291_0→PTup lv291_0→R291_0
abbrev A291_0:=PTup lc291_0→B291_0
noncomputable def w291_0 (again:B291_0) (x:PTup lc291_0) (y:PTup lb291_0) (z:PTup lv291_0):R291_0:=
  bif (ltI z.1 (Zb x.1))then (bif (ltI z.1 (Zb x.2.1))then (bif (leI 0 z.1)then (bif (ltI z.1 (Zb x.1))then (bif (leI 0 z.1)then (bif (ltI z.1 (Zb x.2.1))then (bif (neI (rdE .i x.1 z.1) (rdE .i x.2.1 z.1))then (some ((Sum.inr (false,())),()))
        else again () ((wI (z.1+1)),()))
       else none)
      else none)
     else none)
    else none)
   else some ((Sum.inl z),()))
  else some ((Sum.inl z),())
noncomputable def e291_0 (l:A291_0):ZC:=⟨[0,1],lc291_0,[],lb291_0,[5],lv291_0,[4],lr291_0,0,[],l⟩
noncomputable def m291 (l0:A291_0) (y:PTup i291):Option (PTup o291×BTup i291):=
  (l0 y () ((0:Int),())).bind fun r0=>
  Zu r0.1 (fun r1=>some (((leI (Zb y.1) (Zb y.2.1)),()),()))
  (fun r1=>some (r1,()))
noncomputable def E291 (l0:A291_0):Zy:=⟨⟨Tryz.prog,Z0 []⟩,Qc [(2,e291_0 l0)]⟩
theorem t291_0 (l0:A291_0) (again) (x y z):ZT (E291 l0) (Zg (Zh Tryz.f291) 0) (e291_0 l0) Tryz.f291.ntmps again x y z=w291_0 again x y z:=by kernel_rfl
noncomputable def n291_0:Nat→A291_0
  |0,_,_,_=>none
  |n+1,x,y,z=>w291_0 (fun y z=>n291_0 n x y z) x y z
theorem s291 (l0:A291_0) (y):Z4 (E291 l0) Tryz.f291 i291 o291 y=m291 l0 y:=by kernel_rfl
noncomputable def L291_0:A291_0:=n291_0 fuel
noncomputable def r291:F291:=m291 L291_0
theorem k291:KO (g291 r291):=by
  have hE: ∀g f,(E291 L291_0).env.fns g=some f→Zr Tryz.prog g f:=Qb trivial
  have h0:ZN Tryz.prog Tryz.f291.ntmps (Zg (Zh Tryz.f291) 0) (e291_0 L291_0):=Z1 (E:=E291 L291_0) rfl hE mixed (Zn.of_list (l:=[]) (by kernel_rfl) trivial) (n291_0) (fun _ _ _=>rfl) (fun n x y z=>t291_0 L291_0 _ x y z) rfl
  exact Qh (E:=E291 L291_0) rfl hE mixed (by kernel_rfl) (by kernel_rfl) (Zn.of_list (l:=[(Zg (Zh Tryz.f291) 0)]) (by kernel_rfl) (.one (by kernel_rfl) h0 trivial)) (s291 L291_0)
abbrev i233:Ts:=[.v (.sl false .i), .v (.sl false .i)]
abbrev o233:Ts:=[.v (.bool)]
abbrev F233:=FT i233 o233
abbrev g233:=mkG 233 i233 o233
noncomputable def m233 (c291:F291) (y:PTup i233):Option (PTup o233×BTup i233):=
  bif (eqI (Zb y.1) (Zb y.2.1))then ((c291 y).bind fun r0=>
   some (r0.1,()))
  else no
theorem s233 (c291:F291) (y):TE [g291 c291] Tryz.f233 i233 o233 y=m233 c291 y:=by kernel_rfl
noncomputable def r233:F233:=m233 r291
theorem k233:KO (g233 r233):=fk (s233 r291) ⟨k291,⟨⟩⟩ (by kernel_rfl)
abbrev i176:Ts:=[.a q10]
abbrev o176:Ts:=[.v (.bool)]
abbrev F176:=FT i176 o176
abbrev g176:=mkG 176 i176 o176
noncomputable def m176 (c232:F232) (c233:F233) (c231:F231) (y:PTup i176):Option (PTup o176×BTup i176):=
  (c231 (y.1,())).bind fun r0=>
  bif (!r0.1.1)then no
  else (c232 (y.1,())).bind fun r1=>
  bif ((eqI y.1.2.2.2.2.1 r1.1.1.2.2.2.2.1)&&((eqI y.1.2.2.2.2.2.1 r1.1.1.2.2.2.2.2.1)&&((eqI y.1.2.2.2.2.2.2.1 r1.1.1.2.2.2.2.2.2.1)&&((eqI y.1.2.2.2.2.2.2.2.1 r1.1.1.2.2.2.2.2.2.2.1)&&((y.1.2.2.2.2.2.2.2.2.1==r1.1.1.2.2.2.2.2.2.2.2.1)&&((y.1.2.2.2.2.2.2.2.2.2.1==r1.1.1.2.2.2.2.2.2.2.2.2.1)&&((y.1.2.2.2.2.2.2.2.2.2.2.1==r1.1.1.2.2.2.2.2.2.2.2.2.2.1)&&((y.1.2.2.2.2.2.2.2.2.2.2.2.1==r1.1.1.2.2.2.2.2.2.2.2.2.2.2.1)&&true))))))))then (bif (eqI y.1.2.2.2.1 r1.1.1.2.2.2.1)then ((c233 (y.1.2.2.1,(r1.1.1.2.2.1,()))).bind fun r2=>
    bif r2.1.1 then (bif ((y.1.2.2.2.2.2.2.2.2.2.2.2.2.1==r1.1.1.2.2.2.2.2.2.2.2.2.2.2.2.2.2.2.2.2.2.2.2.2.2.2.2.2.2.2.1)&&((eqI y.1.2.2.2.2.2.2.2.2.2.2.2.2.2.1 r1.1.1.2.2.2.2.2.2.2.2.2.2.2.2.2.2.2.2.2.2.2.2.2.2.2.2.2.2.2.2.1)&&true))then (bif (y.1.2.2.2.2.2.2.2.2.2.2.2.2.2.2.2.1==r1.1.1.2.2.2.2.2.2.2.2.2.2.2.2.2.2.2.2.2.2.2.2.2.2.2.2.2.2.2.2.2.1)then ((c233 (y.1.2.2.2.2.2.2.2.2.2.2.2.2.2.2.2.2.2.2.2.2.1,r1.1.1.2.2.2.2.2.2.2.2.2.2.2.2.2.2.2.2.2.2.2.2.2.2.2.2.2.2.2.2.2.2.2.2.2)).bind fun r3=>
       bif r3.1.1 then (some (((eqI y.1.2.2.2.2.2.2.2.2.2.2.2.2.2.2.1 r1.1.1.2.2.2.2.2.2.2.2.2.2.2.2.1),()),()))
       else no)
      else no)
     else no)
    else no)
   else no)
  else no
theorem s176 (c232:F232) (c233:F233) (c231:F231) (y):TE [g232 c232,g233 c233,g231 c231] Tryz.f176 i176 o176 y=m176 c232 c233 c231 y:=by kernel_rfl
noncomputable def r176:F176:=m176 r232 r233 r231
theorem k176:KO (g176 r176):=fk (s176 r232 r233 r231) ⟨k232,k233,k231,⟨⟩⟩ (by kernel_rfl)
abbrev i235:Ts:=[.a q10]
abbrev o235:Ts:=[.a [.sl true .n, .sl true .i, .sl true .i]]
abbrev F235:=FT i235 o235
abbrev g235:=mkG 235 i235 o235
noncomputable def m235 (c166:F166) (y:PTup i235):Option (PTup o235×BTup i235):=
  (c166 (y.1.2.2.2.2.2.2.2.2.2.2.2.2.2.2.2.2.2.2.2.2.2.2.2.2.2.2.2.2.2.2.2.1,())).bind fun r0=>
  bif (leN (0+(List.length y.1.2.2.2.2.2.2.2.2.2.2.2.2.2.2.2.2.2.2.2.2.2.2.2.2.2.2.2.2.2.2.2.2.2.2.2.2.2.2.2.2.2.1)) (E.most .i))then (bif (leN (0+(List.length y.1.2.2.2.2.2.2.2.2.2.2.2.2.2.2.2.2.2.2.2.2.1)) (E.most .i))then (some (((r0.1.1,(([]++y.1.2.2.2.2.2.2.2.2.2.2.2.2.2.2.2.2.2.2.2.2.2.2.2.2.2.2.2.2.2.2.2.2.2.2.2.2.2.2.2.2.2.1),(([]++y.1.2.2.2.2.2.2.2.2.2.2.2.2.2.2.2.2.2.2.2.2.1),()))),()),()))
   else none)
  else none
theorem s235 (c166:F166) (y):TE [g166 c166] Tryz.f235 i235 o235 y=m235 c166 y:=by kernel_rfl
noncomputable def r235:F235:=m235 r166
theorem k235:KO (g235 r235):=fk (s235 r166) ⟨k166,⟨⟩⟩ (by kernel_rfl)
abbrev i234:Ts:=[.a q18, .a q18]
abbrev o234:Ts:=[.v (.bool)]
abbrev F234:=FT i234 o234
abbrev g234:=mkG 234 i234 o234
abbrev lc234_0:Ts:=[]
abbrev lb234_0:Ts:=[.p q18, .p q18]
abbrev lv234_0:Ts:=[.v (.int .i64)]
abbrev lr234_0:Ts:=[.v (.bool)]
abbrev R234_0:=Option (Sum (PTup lv234_0) (PTup lr234_0)×BTup lb234_0)
abbrev B234_0:=PTup lb234_0→PTup lv234_0→R234_0
abbrev A234_0:=PTup lc234_0→B234_0
noncomputable def w234_0 (c291:F291) (c233:F233) (again:B234_0) (x:PTup lc234_0) (y:PTup lb234_0) (z:PTup lv234_0):R234_0:=
  bif (ltI z.1 (Zb y.1.1))then (bif (leI 0 z.1)then (bif (ltI z.1 (Zb y.1.1))then (bif (leI 0 z.1)then (bif (ltI z.1 (Zb y.2.1.1))then ((c233 ((rdE .n y.1.1 z.1),((rdE .n y.2.1.1 z.1),()))).bind fun r0=>
       bif (!r0.1.1)then (some ((Sum.inr (false,())),(y.1,(y.2.1,()))))
       else again (y.1,(y.2.1,())) ((wI (z.1+1)),()))
      else none)
     else none)
    else none)
   else none)
  else some ((Sum.inl z),(y.1,(y.2.1,())))
noncomputable def e234_0 (l:A234_0):ZC:=⟨[],lc234_0,[2,3],lb234_0,[5],lv234_0,[4],lr234_0,0,[],l⟩
noncomputable def m234 (c291:F291) (c233:F233) (l0:A234_0) (y:PTup i234):Option (PTup o234×BTup i234):=
  bif (ltI (Zb y.2.1.1) (Zb y.1.1))then no
  else (c291 (y.1.2.1,(y.2.1.2.1,()))).bind fun r0=>
  bif (!r0.1.1)then no
  else (c291 (y.1.2.2.1,y.2.1.2.2)).bind fun r1=>
  bif (!r1.1.1)then no
  else (l0 () (y.1,(y.2.1,())) ((0:Int),())).bind fun r2=>
  Zu r2.1 (fun r3=>some ((true,()),()))
  (fun r3=>some (r3,()))
noncomputable def E234 (c291:F291) (c233:F233) (l0:A234_0):Zy:=⟨⟨Tryz.prog,Z0 [g291 c291,g233 c233]⟩,Qc [(4,e234_0 l0)]⟩
theorem t234_0 (c291:F291) (c233:F233) (l0:A234_0) (again) (x y z):ZT (E234 c291 c233 l0) (Zg (Zh Tryz.f234) 0) (e234_0 l0) Tryz.f234.ntmps again x y z=w234_0 c291 c233 again x y z:=by kernel_rfl
noncomputable def n234_0 (c291:F291) (c233:F233):Nat→A234_0
  |0,_,_,_=>none
  |n+1,x,y,z=>w234_0 c291 c233 (fun y z=>n234_0 c291 c233 n x y z) x y z
theorem s234 (c291:F291) (c233:F233) (l0:A234_0) (y):Z4 (E234 c291 c233 l0) Tryz.f234 i234 o234 y=m234 c291 c233 l0 y:=by kernel_rfl
noncomputable def L234_0:A234_0:=n234_0 r291 r233 fuel
noncomputable def r234:F234:=m234 r291 r233 L234_0
theorem k234:KO (g234 r234):=by
  have hE: ∀g f,(E234 r291 r233 L234_0).env.fns g=some f→Zr Tryz.prog g f:=Qb ⟨k291,k233,⟨⟩⟩
  have h0:ZN Tryz.prog Tryz.f234.ntmps (Zg (Zh Tryz.f234) 0) (e234_0 L234_0):=Z1 (E:=E234 r291 r233 L234_0) rfl hE mixed (Zn.of_list (l:=[]) (by kernel_rfl) trivial) (n234_0 r291 r233) (fun _ _ _=>rfl) (fun n x y z=>t234_0 r291 r233 L234_0 _ x y z) rfl
  exact Qh (E:=E234 r291 r233 L234_0) rfl hE mixed (by kernel_rfl) (by kernel_rfl) (Zn.of_list (l:=[(Zg (Zh Tryz.f234) 0)]) (by kernel_rfl) (.one (by kernel_rfl) h0 trivial)) (s234 r291 r233 L234_0)
abbrev i177:Ts:=[.a q10]
abbrev o177:Ts:=[.v (.bool)]
abbrev F177:=FT i177 o177
abbrev g177:=mkG 177 i177 o177
noncomputable def m177 (c234:F234) (c235:F235) (c232:F232) (c231:F231) (y:PTup i177):Option (PTup o177×BTup i177):=
  (c231 (y.1,())).bind fun r0=>
  bif r0.1.1 then ((c235 (y.1,())).bind fun r1=>
   (c232 (y.1,())).bind fun r2=>
   (c234 (r1.1.1,(r2.1.1.2.2.2.2.2.2.2.2.2.2.2.2.2.2.2.2.2.2.2.2.2.2.2.2.2.2.2.2.2.2.2,()))).bind fun r3=>
   some (r3.1,()))
  else no
theorem s177 (c234:F234) (c235:F235) (c232:F232) (c231:F231) (y):TE [g234 c234,g235 c235,g232 c232,g231 c231] Tryz.f177 i177 o177 y=m177 c234 c235 c232 c231 y:=by kernel_rfl
noncomputable def r177:F177:=m177 r234 r235 r232 r231
theorem k177:KO (g177 r177):=fk (s177 r234 r235 r232 r231) ⟨k234,k235,k232,k231,⟨⟩⟩ (by kernel_rfl)
abbrev i100:Ts:=[.a q7, .v (.int .i64)]
abbrev o100:Ts:=[.a q7, .v (.bool)]
abbrev R100:=Option (PTup o100×BTup i100)
abbrev F100:=PTup i100→R100
abbrev g100:=mkG 100 i100 o100
noncomputable def m100 (c182:F182) (c183:F183) (y:PTup i100):R100:=
  let a0:=y.1;let a1:=a0.2;let a2:=a1.2;let a3:=a2.2;let a4:=a3.2;let a5:=a4.2;let a6:=a5.2;let a7:=a6.2;let a8:=a7.2;let a9:=a8.2;let X0:R100:=bif (leI y.2.1 a0.1)then (some ((a0,(false,())),()))else bif (eqI a0.1 20000)then (some ((a0,(false,())),()))else (c183 ((a0.1,(a1.1,(a2.1,(a3.1,(a4.1,(a5.1,(a6.1,(a7.1,())))))))),())).bind fun r0=>bif (eqI (Int.tmod a0.1 64) (48:Int))then (bif (leN ((List.length a9.2.1)+(List.length (r0.1.2.1::[]))) (E.most .n))then (some (((r0.1.1.1,(r0.1.1.2.1,(r0.1.1.2.2.1,(r0.1.1.2.2.2.1,(r0.1.1.2.2.2.2.1,(r0.1.1.2.2.2.2.2.1,(r0.1.1.2.2.2.2.2.2.1,(r0.1.1.2.2.2.2.2.2.2.1,(a8.1,(a9.1,((a9.2.1++(r0.1.2.1::[])),()))))))))))),(true,())),()))else none)else some (((r0.1.1.1,(r0.1.1.2.1,(r0.1.1.2.2.1,(r0.1.1.2.2.2.1,(r0.1.1.2.2.2.2.1,(r0.1.1.2.2.2.2.2.1,(r0.1.1.2.2.2.2.2.2.1,(r0.1.1.2.2.2.2.2.2.2.1,a8)))))))),(true,())),());bif (ltI 0 (Zb a9.1))then (bif (ltI 0 (Zb a9.1))then (bif (eqI (rdE .t a9.1 (0:Int)).1 a0.1)then (bif (ltI 0 (Zb a9.1))then (bif (leI 1 (Zb a9.1))then (bif (leN (0+(List.length (List.drop (Int.toNat (1:Int)) a9.1))) (E.most .t))then ((c182 ((a0.1,(a1.1,(a2.1,(a3.1,(a4.1,(a5.1,(a6.1,(a7.1,())))))))),((rdE .t a9.1 (0:Int)).2.1,((rdE .t a9.1 (0:Int)).2.2,())))).bind fun r0=>some (((r0.1.1.1,(r0.1.1.2.1,(r0.1.1.2.2.1,(r0.1.1.2.2.2.1,(r0.1.1.2.2.2.2.1,(r0.1.1.2.2.2.2.2.1,(r0.1.1.2.2.2.2.2.2.1,(r0.1.1.2.2.2.2.2.2.2.1,(a8.1,(([]++(List.drop (Int.toNat (1:Int)) a9.1)),a9.2)))))))))),(true,())),()))else none)else none)else none)else X0)else none)else X0
theorem s100 (c182:F182) (c183:F183) (y):TE [g182 c182,g183 c183] Tryz.f100 i100 o100 y=m100 c182 c183 y:=by kernel_rfl
noncomputable def r100:F100:=m100 r182 r183
theorem k100:KO (g100 r100):=fk (s100 r182 r183) ⟨k182,k183,⟨⟩⟩ (by kernel_rfl)
abbrev i102:Ts:=[.a q6, .v (.int .i64)]
abbrev o102:Ts:=[.a q7]
abbrev F102:=FT i102 o102
abbrev g102:=mkG 102 i102 o102
abbrev lc102_0:Ts:=[.v (.int .i64)]
abbrev lb102_0:Ts:=[.p q7]
abbrev lv102_0:Ts:=[.v (.bool)]
abbrev lr102_0:Ts:=[]
abbrev R102_0:=Option (Sum (PTup lv102_0) (PTup lr102_0)×BTup lb102_0)
abbrev B102_0:=PTup lb102_0→PTup lv102_0→R102_0
abbrev A102_0:=PTup lc102_0→B102_0
noncomputable def w102_0 (c72:F72) (c100:F100) (c94:F94) (again:B102_0) (x:PTup lc102_0) (y:PTup lb102_0) (z:PTup lv102_0):R102_0:=
  bif z.1 then ((c100 (y.1,x)).bind fun r0=>
   again (r0.1.1,()) r0.1.2)
  else some ((Sum.inl z),(y.1,()))
noncomputable def e102_0 (l:A102_0):ZC:=⟨[1],lc102_0,[5],lb102_0,[6],lv102_0,[],lr102_0,0,[],l⟩
noncomputable def m102 (c72:F72) (c100:F100) (c94:F94) (l0:A102_0) (y:PTup i102):Option (PTup o102×BTup i102):=
  (c72 (y.1,())).bind fun r0=>
  bif (!r0.1.1)then (some ((((0:Int),((0:Int),((0:Int),((0:Int),((0:Int),(false,([],([],((0:Int),([],([],()))))))))))),()),()))
  else (c94 (y.1,())).bind fun r1=>
  (l0 y.2 (r1.1.1,()) (true,())).bind fun r2=>
  Zu r2.1 (fun r3=>some ((r2.2.1,()),()))
  (fun r3=>some ((((0:Int),((0:Int),((0:Int),((0:Int),((0:Int),(false,([],([],((0:Int),([],([],()))))))))))),()),()))
noncomputable def E102 (c72:F72) (c100:F100) (c94:F94) (l0:A102_0):Zy:=⟨⟨Tryz.prog,Z0 [g72 c72,g100 c100,g94 c94]⟩,Qc [(5,e102_0 l0)]⟩
theorem t102_0 (c72:F72) (c100:F100) (c94:F94) (l0:A102_0) (again) (x y z):ZT (E102 c72 c100 c94 l0) (Zg (Zh Tryz.f102) 0) (e102_0 l0) Tryz.f102.ntmps again x y z=w102_0 c72 c100 c94 again x y z:=by kernel_rfl
noncomputable def n102_0 (c72:F72) (c100:F100) (c94:F94):Nat→A102_0
  |0,_,_,_=>none
  |n+1,x,y,z=>w102_0 c72 c100 c94 (fun y z=>n102_0 c72 c100 c94 n x y z) x y z
theorem s102 (c72:F72) (c100:F100) (c94:F94) (l0:A102_0) (y):Z4 (E102 c72 c100 c94 l0) Tryz.f102 i102 o102 y=m102 c72 c100 c94 l0 y:=by kernel_rfl
noncomputable def L102_0:A102_0:=n102_0 r72 r100 r94 fuel
noncomputable def r102:F102:=m102 r72 r100 r94 L102_0
theorem k102:KO (g102 r102):=by
  have hE: ∀g f,(E102 r72 r100 r94 L102_0).env.fns g=some f→Zr Tryz.prog g f:=Qb ⟨k72,k100,k94,⟨⟩⟩
  have h0:ZN Tryz.prog Tryz.f102.ntmps (Zg (Zh Tryz.f102) 0) (e102_0 L102_0):=Z1 (E:=E102 r72 r100 r94 L102_0) rfl hE mixed (Zn.of_list (l:=[]) (by kernel_rfl) trivial) (n102_0 r72 r100 r94) (fun _ _ _=>rfl) (fun n x y z=>t102_0 r72 r100 r94 L102_0 _ x y z) rfl
  exact Qh (E:=E102 r72 r100 r94 L102_0) rfl hE mixed (by kernel_rfl) (by kernel_rfl) (Zn.of_list (l:=[(Zg (Zh Tryz.f102) 0)]) (by kernel_rfl) (.one (by kernel_rfl) h0 trivial)) (s102 r72 r100 r94 L102_0)
abbrev i101:Ts:=[.a q9, .v (.int .i64)]
abbrev o101:Ts:=[.a q9, .v (.bool)]
abbrev R101:=Option (PTup o101×BTup i101)
abbrev F101:=PTup i101→R101
abbrev g101:=mkG 101 i101 o101
noncomputable def m101 (c184:F184) (c185:F185) (y:PTup i101):R101:=
  let a0:=y.1;let a1:=a0.2;let a2:=a1.2;let a3:=a2.2;let a4:=a3.2;let a5:=a4.2;let a6:=a5.2;let a7:=a6.2;let a8:=a7.2;let a9:=a8.1;let X0:R101:=bif (leI y.2.1 a0.1)then (some ((a0,(false,())),()))else bif (eqI a0.1 20000)then (some ((a0,(false,())),()))else (c185 ((a0.1,(a1.1,(a2.1,(a3.1,(a4.1,(a5.1,(a6.1,()))))))),())).bind fun r0=>bif r0.1.2.2.1 then (bif (leN ((List.length a8.2.1)+(List.length (r0.1.2.1::[]))) (E.most .i))then (some (((r0.1.1.1,(r0.1.1.2.1,(r0.1.1.2.2.1,(r0.1.1.2.2.2.1,(r0.1.1.2.2.2.2.1,(r0.1.1.2.2.2.2.2.1,(r0.1.1.2.2.2.2.2.2.1,(a7.1,(a9,((a8.2.1++(r0.1.2.1::[])),())))))))))),(true,())),()))else none)else some (((r0.1.1.1,(r0.1.1.2.1,(r0.1.1.2.2.1,(r0.1.1.2.2.2.1,(r0.1.1.2.2.2.2.1,(r0.1.1.2.2.2.2.2.1,(r0.1.1.2.2.2.2.2.2.1,a7))))))),(true,())),());bif (ltI 0 (Zb a9))then (bif (ltI 0 (Zb a9))then (bif (eqI (rdE .t a9 (0:Int)).1 a0.1)then (bif (ltI 0 (Zb a9))then (bif (leI 1 (Zb a9))then (bif (leN (0+(List.length (List.drop (Int.toNat (1:Int)) a9))) (E.most .t))then ((c184 ((a0.1,(a1.1,(a2.1,(a3.1,(a4.1,(a5.1,(a6.1,()))))))),((rdE .t a9 (0:Int)).2.1,((rdE .t a9 (0:Int)).2.2,())))).bind fun r0=>some (((r0.1.1.1,(r0.1.1.2.1,(r0.1.1.2.2.1,(r0.1.1.2.2.2.1,(r0.1.1.2.2.2.2.1,(r0.1.1.2.2.2.2.2.1,(r0.1.1.2.2.2.2.2.2.1,(a7.1,(([]++(List.drop (Int.toNat (1:Int)) a9)),a8.2))))))))),(true,())),()))else none)else none)else none)else X0)else none)else X0
theorem s101 (c184:F184) (c185:F185) (y):TE [g184 c184,g185 c185] Tryz.f101 i101 o101 y=m101 c184 c185 y:=by kernel_rfl
noncomputable def r101:F101:=m101 r184 r185
theorem k101:KO (g101 r101):=fk (s101 r184 r185) ⟨k184,k185,⟨⟩⟩ (by kernel_rfl)
abbrev i103:Ts:=[.a q8, .v (.int .i64)]
abbrev o103:Ts:=[.a q9]
abbrev F103:=FT i103 o103
abbrev g103:=mkG 103 i103 o103
abbrev lc103_0:Ts:=[.v (.int .i64)]
abbrev lb103_0:Ts:=[.p q9]
abbrev lv103_0:Ts:=[.v (.bool)]
abbrev lr103_0:Ts:=[]
abbrev R103_0:=Option (Sum (PTup lv103_0) (PTup lr103_0)×BTup lb103_0)
abbrev B103_0:=PTup lb103_0→PTup lv103_0→R103_0
abbrev A103_0:=PTup lc103_0→B103_0
noncomputable def w103_0 (c73:F73) (c101:F101) (c95:F95) (again:B103_0) (x:PTup lc103_0) (y:PTup lb103_0) (z:PTup lv103_0):R103_0:=
  bif z.1 then ((c101 (y.1,x)).bind fun r0=>
   again (r0.1.1,()) r0.1.2)
  else some ((Sum.inl z),(y.1,()))
noncomputable def e103_0 (l:A103_0):ZC:=⟨[1],lc103_0,[5],lb103_0,[6],lv103_0,[],lr103_0,0,[],l⟩
noncomputable def m103 (c73:F73) (c101:F101) (c95:F95) (l0:A103_0) (y:PTup i103):Option (PTup o103×BTup i103):=
  (c73 (y.1,())).bind fun r0=>
  bif (!r0.1.1)then (some ((((0:Int),((0:Int),((0:Int),((0:Int),((0:Int),(false,(false,((0:Int),([],([],())))))))))),()),()))
  else (c95 (y.1,())).bind fun r1=>
  (l0 y.2 (r1.1.1,()) (true,())).bind fun r2=>
  Zu r2.1 (fun r3=>some ((r2.2.1,()),()))
  (fun r3=>some ((((0:Int),((0:Int),((0:Int),((0:Int),((0:Int),(false,(false,((0:Int),([],([],())))))))))),()),()))
noncomputable def E103 (c73:F73) (c101:F101) (c95:F95) (l0:A103_0):Zy:=⟨⟨Tryz.prog,Z0 [g73 c73,g101 c101,g95 c95]⟩,Qc [(5,e103_0 l0)]⟩
theorem t103_0 (c73:F73) (c101:F101) (c95:F95) (l0:A103_0) (again) (x y z):ZT (E103 c73 c101 c95 l0) (Zg (Zh Tryz.f103) 0) (e103_0 l0) Tryz.f103.ntmps again x y z=w103_0 c73 c101 c95 again x y z:=by kernel_rfl
noncomputable def n103_0 (c73:F73) (c101:F101) (c95:F95):Nat→A103_0
  |0,_,_,_=>none
  |n+1,x,y,z=>w103_0 c73 c101 c95 (fun y z=>n103_0 c73 c101 c95 n x y z) x y z
theorem s103 (c73:F73) (c101:F101) (c95:F95) (l0:A103_0) (y):Z4 (E103 c73 c101 c95 l0) Tryz.f103 i103 o103 y=m103 c73 c101 c95 l0 y:=by kernel_rfl
noncomputable def L103_0:A103_0:=n103_0 r73 r101 r95 fuel
noncomputable def r103:F103:=m103 r73 r101 r95 L103_0
theorem k103:KO (g103 r103):=by
  have hE: ∀g f,(E103 r73 r101 r95 L103_0).env.fns g=some f→Zr Tryz.prog g f:=Qb ⟨k73,k101,k95,⟨⟩⟩
  have h0:ZN Tryz.prog Tryz.f103.ntmps (Zg (Zh Tryz.f103) 0) (e103_0 L103_0):=Z1 (E:=E103 r73 r101 r95 L103_0) rfl hE mixed (Zn.of_list (l:=[]) (by kernel_rfl) trivial) (n103_0 r73 r101 r95) (fun _ _ _=>rfl) (fun n x y z=>t103_0 r73 r101 r95 L103_0 _ x y z) rfl
  exact Qh (E:=E103 r73 r101 r95 L103_0) rfl hE mixed (by kernel_rfl) (by kernel_rfl) (Zn.of_list (l:=[(Zg (Zh Tryz.f103) 0)]) (by kernel_rfl) (.one (by kernel_rfl) h0 trivial)) (s103 r73 r101 r95 L103_0)
abbrev i26:Ts:=[.a q10]
abbrev o26:Ts:=[.a q11]
abbrev F26:=FT i26 o26
abbrev g26:=mkG 26 i26 o26
noncomputable def m26 (c102:F102) (c103:F103) (c15:F15) (c23:F23) (y:PTup i26):Option (PTup o26×BTup i26):=
  let a0:=y.1;let a1:=a0.2;let a2:=a1.2;let a3:=a2.2;let a4:=a3.2;let a5:=a4.2;let a6:=a5.2;let a7:=a6.2;let a8:=a7.2;let a9:=a8.2;let a10:=a9.2.2;let a11:=a10.2;let a12:=a11.2;let a13:=a12.2;let a14:=a13.2;let a15:=a14.2;let a16:=a15.2;let a17:=a16.2;let a18:=a17.2;let a19:=a18.2;let a20:=a19.2;let a21:=a20.2;let a22:=a21.2;let a23:=a22.2.2;let a24:=a23.2.2;(c23 (a0,())).bind fun r0=>let b0:=r0.1;let b1:=b0.1;let b2:=b1.2;let b3:=b2.2;let b4:=b3.2;let b5:=b4.2;let b6:=b5.2;let b7:=b6.2;let b8:=b7.2;let b9:=b8.2;let b10:=b9.2.2;let b11:=b10.2;let b12:=b11.2.2;let b13:=b12.2.2;(c15 (a0,())).bind fun r1=>
  bif (!r1.1.1)then (some ((b1,()),()))
  else (c102 ((a20.1,(a21.1,(a22.1,(a22.2.1,(a23.1,(a23.2.1,(a24.1,(a24.2.1,(a24.2.2.1,(a24.2.2.2.1,(a24.2.2.2.2.1,()))))))))))),(a13.1,()))).bind fun r2=>
  (c103 (a24.2.2.2.2.2,(a13.1,()))).bind fun r3=>
  some (((b1.1,(b2.1,(b3.1,(b4.1,(b5.1,(b6.1,(b7.1,(b8.1,(b9.1,(b9.2.1,(b10.1,(b11.1,(b11.2.1,(b12.1,(b12.2.1,(b13.1,(b13.2.1,(b13.2.2.1,(b13.2.2.2.1,(b13.2.2.2.2.1,(b13.2.2.2.2.2.1,(r2.1.1.1,(r2.1.1.2.1,(r2.1.1.2.2.1,(r2.1.1.2.2.2.1,(r2.1.1.2.2.2.2.1,(r2.1.1.2.2.2.2.2.1,(r2.1.1.2.2.2.2.2.2.1,(r2.1.1.2.2.2.2.2.2.2.1,(r2.1.1.2.2.2.2.2.2.2.2.1,(r2.1.1.2.2.2.2.2.2.2.2.2.1,(r2.1.1.2.2.2.2.2.2.2.2.2.2.1,r3.1.1)))))))))))))))))))))))))))))))),()),())
theorem s26 (c102:F102) (c103:F103) (c15:F15) (c23:F23) (y):TE [g102 c102,g103 c103,g15 c15,g23 c23] Tryz.f26 i26 o26 y=m26 c102 c103 c15 c23 y:=by kernel_rfl
noncomputable def r26:F26:=m26 r102 r103 r15 r23
theorem k26:KO (g26 r26):=fk (s26 r102 r103 r15 r23) ⟨k102,k103,k15,k23,⟨⟩⟩ (by kernel_rfl)
abbrev i237:Ts:=[.a q10]
abbrev o237:Ts:=[.a q16]
abbrev R237:=Option (PTup o237×BTup i237)
abbrev F237:=PTup i237→R237
abbrev g237:=mkG 237 i237 o237
noncomputable def m237 (c235:F235) (c15:F15) (c92:F92) (c174:F174) (c169:F169) (c93:F93) (c164:F164) (y:PTup i237):R237:=
  let a0:=y.1;let a1:=a0.2;let a2:=a1.2;let a3:=a2.2;let a4:=a3.2;let a5:=a4.2;let a6:=a5.2;let a7:=a6.2;let a8:=a7.2;let a9:=a8.2;let a10:=a9.2;let a11:=a10.2;let a12:=a11.2;let a13:=a12.2;let a14:=a13.2;let a15:=a14.2;let a16:=a15.2;let a17:=a16.2;let a18:=a17.2;let a19:=a18.2;let a20:=a19.2;let a21:=a20.2;let a22:=a21.2;let a23:=a22.2;let a24:=a23.2;let a25:=a24.2;let a26:=a25.2;let a27:=a26.2.2;let a28:=a27.2.2;let a29:=a28.2.2;let a30:=a29.2.2.2;let X0:R237:=some ((([],([],([],((0:Int),((0:Int),((0:Int),((0:Int),((0:Int),(false,(false,(false,(false,((0:Int),((0:Int),((0:Int),((0:Int),((0:Int),(false,([],([],((0:Int),((0:Int),((0:Int),((0:Int),((0:Int),(false,(false,(false,((0:Int),(false,((0:Int),([],([],([],())))))))))))))))))))))))))))))))))),()),());(c15 (a0,())).bind fun r0=>bif (!r0.1.1)then X0 else (c174 (a0,())).bind fun r1=>bif (!r1.1.1)then X0 else (c169 (a0,())).bind fun r2=>bif (!r2.1.1)then X0 else (c92 ((a0.1,()),())).bind fun r3=>bif (leN (0+(List.length a1.1)) (E.most .i))then ((c93 ((a2.1,(a3.1,())),())).bind fun r4=>(c164 ((a21.1,(a22.1,(a23.1,(a24.1,(a25.1,(a26.1,(a26.2.1,(a27.1,())))))))),())).bind fun r5=>(c235 (a0,())).bind fun r6=>some (((r3.1.1.1,(([]++a1.1),(r4.1.1.1,(r4.1.1.2.1,(a4.1,(a5.1,(a6.1,(a7.1,(a8.1,(a9.1,(a10.1,(a11.1,(r5.1.1.1,(r5.1.1.2.1,(r5.1.1.2.2.1,(r5.1.1.2.2.2.1,(r5.1.1.2.2.2.2.1,(r5.1.1.2.2.2.2.2.1,(r5.1.1.2.2.2.2.2.2.1,(r5.1.1.2.2.2.2.2.2.2.1,(a29.1,(a29.2.1,(a29.2.2.1,(a30.1,(a30.2.1,(a30.2.2.1,(a30.2.2.2.1,(a12.1,(a13.1,(a15.1,(a19.1,r6.1.1))))))))))))))))))))))))))))))),()),()))else none
theorem s237 (c235:F235) (c15:F15) (c92:F92) (c174:F174) (c169:F169) (c93:F93) (c164:F164) (y):TE [g235 c235,g15 c15,g92 c92,g174 c174,g169 c169,g93 c93,g164 c164] Tryz.f237 i237 o237 y=m237 c235 c15 c92 c174 c169 c93 c164 y:=by kernel_rfl
noncomputable def r237:F237:=m237 r235 r15 r92 r174 r169 r93 r164
theorem k237:KO (g237 r237):=fk (s237 r235 r15 r92 r174 r169 r93 r164) ⟨k235,k15,k92,k174,k169,k93,k164,⟨⟩⟩ (by kernel_rfl)
abbrev i292:Ts:=[.a q3, .a q3]
abbrev o292:Ts:=[.v (.bool)]
abbrev F292:=FT i292 o292
abbrev g292:=mkG 292 i292 o292
noncomputable def m292 (c233:F233) (y:PTup i292):Option (PTup o292×BTup i292):=
  bif (eqI y.1.1 y.2.1.1)then (bif (eqI y.1.2.1 y.2.1.2.1)then (bif (eqI y.1.2.2.1 y.2.1.2.2.1)then (bif (eqI y.1.2.2.2.1 y.2.1.2.2.2.1)then (bif (eqI y.1.2.2.2.2.1 y.2.1.2.2.2.2.1)then (bif (y.1.2.2.2.2.2.1==y.2.1.2.2.2.2.2.1)then ((c233 (y.1.2.2.2.2.2.2.1,(y.2.1.2.2.2.2.2.2.1,()))).bind fun r0=>
        bif r0.1.1 then ((c233 (y.1.2.2.2.2.2.2.2.1,y.2.1.2.2.2.2.2.2.2)).bind fun r1=>
         some (r1.1,()))
        else no)
       else no)
      else no)
     else no)
    else no)
   else no)
  else no
theorem s292 (c233:F233) (y):TE [g233 c233] Tryz.f292 i292 o292 y=m292 c233 y:=by kernel_rfl
noncomputable def r292:F292:=m292 r233
theorem k292:KO (g292 r292):=fk (s292 r233) ⟨k233,⟨⟩⟩ (by kernel_rfl)
abbrev i293:Ts:=[.a q18, .a q18]
abbrev o293:Ts:=[.v (.bool)]
abbrev F293:=FT i293 o293
abbrev g293:=mkG 293 i293 o293
noncomputable def m293 (c234:F234) (y:PTup i293):Option (PTup o293×BTup i293):=
  (c234 (y.1,(y.2.1,()))).bind fun r0=>
  bif r0.1.1 then ((c234 (y.2.1,(y.1,()))).bind fun r1=>
   some (r1.1,()))
  else no
theorem s293 (c234:F234) (y):TE [g234 c234] Tryz.f293 i293 o293 y=m293 c234 y:=by kernel_rfl
noncomputable def r293:F293:=m293 r234
theorem k293:KO (g293 r293):=fk (s293 r234) ⟨k234,⟨⟩⟩ (by kernel_rfl)
abbrev i236:Ts:=[.a q15, .a q15]
abbrev o236:Ts:=[.v (.bool)]
abbrev F236:=FT i236 o236
abbrev g236:=mkG 236 i236 o236
noncomputable def m236 (c293:F293) (c292:F292) (c233:F233) (y:PTup i236):Option (PTup o236×BTup i236):=
  let a0:=y.1;let a1:=y.2;let a2:=a0.2;let a3:=a1.1;let a4:=a2.2;let a5:=a3.2;let a6:=a4.2;let a7:=a5.2;let a8:=a6.2;let a9:=a7.2;let a10:=a8.2;let a11:=a9.2;let a12:=a10.2;let a13:=a11.2;let a14:=a12.2;let a15:=a13.2;let a16:=a14.2;let a17:=a15.2;let a18:=a16.2;let a19:=a17.2;let a20:=a18.2;let a21:=a19.2;let a22:=a20.2;let a23:=a21.2;let a24:=a22.2;let a25:=a23.2;let a26:=a24.2;let a27:=a25.2;let a28:=a26.2;let a29:=a27.2;let a30:=a28.2;let a31:=a29.2;let a32:=a30.2;let a33:=a31.2;let a34:=a32.2;let a35:=a33.2;let a36:=a34.2;let a37:=a35.2;let a38:=a36.2;let a39:=a37.2;let a40:=a38.2;let a41:=a39.2;let a42:=a40.2;let a43:=a41.2;let a44:=a42.2;let a45:=a43.2;let a46:=a45.2;let a47:=a44.2.2;let a48:=a46.2.2;let a49:=a47.2.2;let a50:=a48.2.2;(c233 (a4.1,(a7.1,()))).bind fun r0=>
  bif r0.1.1 then (bif (eqI a6.1 a9.1)then (bif ((eqI a8.1 a11.1)&&((eqI a10.1 a13.1)&&((eqI a12.1 a15.1)&&((eqI a14.1 a17.1)&&((a16.1==a19.1)&&((a18.1==a21.1)&&((a20.1==a23.1)&&((a22.1==a25.1)&&true))))))))then ((c292 ((a24.1,(a26.1,(a28.1,(a30.1,(a32.1,(a34.1,(a36.1,(a38.1,())))))))),((a27.1,(a29.1,(a31.1,(a33.1,(a35.1,(a37.1,(a39.1,(a41.1,())))))))),()))).bind fun r1=>
     bif r1.1.1 then (bif ((eqI a40.1 a43.1)&&((eqI a42.1 a45.1)&&((eqI a44.1 a46.1)&&((eqI a44.2.1 a46.2.1)&&((eqI a47.1 a48.1)&&((a47.2.1==a48.2.1)&&((a49.1==a50.1)&&true)))))))then (bif ((a49.2.1==a50.2.1)&&((eqI a49.2.2.1 a50.2.2.1)&&true))then (bif (a49.2.2.2.1==a50.2.2.2.1)then (bif (eqI a49.2.2.2.2.1 a50.2.2.2.2.1)then ((c293 (a49.2.2.2.2.2,(a50.2.2.2.2.2,()))).bind fun r2=>
          some (r2.1,()))
         else no)
        else no)
       else no)
      else no)
     else no)
    else no)
   else no)
  else no
theorem s236 (c293:F293) (c292:F292) (c233:F233) (y):TE [g293 c293,g292 c292,g233 c233] Tryz.f236 i236 o236 y=m236 c293 c292 c233 y:=by kernel_rfl
noncomputable def r236:F236:=m236 r293 r292 r233
theorem k236:KO (g236 r236):=fk (s236 r293 r292 r233) ⟨k293,k292,k233,⟨⟩⟩ (by kernel_rfl)
abbrev i178:Ts:=[.a q10]
abbrev o178:Ts:=[.v (.bool)]
abbrev F178:=FT i178 o178
abbrev g178:=mkG 178 i178 o178
noncomputable def m178 (c237:F237) (c26:F26) (c236:F236) (c232:F232) (c231:F231) (y:PTup i178):Option (PTup o178×BTup i178):=
  (c231 (y.1,())).bind fun r0=>
  bif r0.1.1 then ((c26 (y.1,())).bind fun r1=>
   (c237 (r1.1.1,())).bind fun r2=>
   (c232 (y.1,())).bind fun r3=>
   (c236 (r2.1.1,(r3.1.1,()))).bind fun r4=>
   some (r4.1,()))
  else no
theorem s178 (c237:F237) (c26:F26) (c236:F236) (c232:F232) (c231:F231) (y):TE [g237 c237,g26 c26,g236 c236,g232 c232,g231 c231] Tryz.f178 i178 o178 y=m178 c237 c26 c236 c232 c231 y:=by kernel_rfl
noncomputable def r178:F178:=m178 r237 r26 r236 r232 r231
theorem k178:KO (g178 r178):=fk (s178 r237 r26 r236 r232 r231) ⟨k237,k26,k236,k232,k231,⟨⟩⟩ (by kernel_rfl)
abbrev i241:Ts:=[.a q11, .v (.bool)]
abbrev o241:Ts:=[.a q11]
abbrev F241:=FT i241 o241
abbrev g241:=mkG 241 i241 o241
noncomputable def m241 (y:PTup i241):Option (PTup o241×BTup i241):=
  some (((y.1.1,(y.1.2.1,(y.1.2.2.1,(y.1.2.2.2.1,(y.1.2.2.2.2.1,(y.1.2.2.2.2.2.1,(y.1.2.2.2.2.2.2.1,(y.1.2.2.2.2.2.2.2.1,(y.1.2.2.2.2.2.2.2.2.1,(y.1.2.2.2.2.2.2.2.2.2.1,(y.1.2.2.2.2.2.2.2.2.2.2.1,(y.1.2.2.2.2.2.2.2.2.2.2.2.1,(y.1.2.2.2.2.2.2.2.2.2.2.2.2.1,(y.1.2.2.2.2.2.2.2.2.2.2.2.2.2.1,(y.1.2.2.2.2.2.2.2.2.2.2.2.2.2.2.1,(y.1.2.2.2.2.2.2.2.2.2.2.2.2.2.2.2.1,(y.1.2.2.2.2.2.2.2.2.2.2.2.2.2.2.2.2.1,(y.2.1,(y.1.2.2.2.2.2.2.2.2.2.2.2.2.2.2.1,y.1.2.2.2.2.2.2.2.2.2.2.2.2.2.2.2.2.2.2.2))))))))))))))))))),()),())
theorem s241 (y):TE [] Tryz.f241 i241 o241 y=m241 y:=by kernel_rfl
noncomputable def r241:F241:=m241
theorem k241:KO (g241 r241):=fk (s241) trivial (by kernel_rfl)
abbrev i242:Ts:=[.a q11, .v (.int .i64)]
abbrev o242:Ts:=[.a q11, .v (.int .i64)]
abbrev F242:=FT i242 o242
abbrev g242:=mkG 242 i242 o242
noncomputable def m242 (c297:F297) (c298:F298) (c296:F296) (c173:F173) (c241:F241) (c288:F288) (y:PTup i242):Option (PTup o242×BTup i242):=
  let a0:=y.1;let a1:=a0.2;let a2:=a1.2;let a3:=a2.2;let a4:=a3.2;let a5:=a4.2;let a6:=a5.2;let a7:=a6.2;let a8:=a7.2;let a9:=a8.2;let a10:=a9.2;let a11:=a10.2;let a12:=a11.2;let a13:=a12.2;let a14:=a13.2;let a15:=a14.2;let a16:=a15.2;let a17:=a16.2;let a18:=a17.2;let a19:=a18.2;let a20:=a19.2;let a21:=a20.2;let a22:=a21.2;let a23:=a22.2;let a24:=a23.2;let a25:=a24.2;let a26:=a25.2;let a27:=a26.2;let a28:=a27.2;let a29:=a28.2;let a30:=a29.2;let a31:=a30.2;let a32:=a31.2.2;let a33:=a32.2.2;(c173 y.2).bind fun r0=>
  bif (eqI r0.1.1 2)then ((c296 ((a21.1,(a22.1,(a23.1,(a24.1,(a25.1,(a26.1,(a27.1,(a28.1,())))))))),r0.1.2)).bind fun r1=>
   bif (leN ((List.length a20.1)+(List.length (r1.1.2.1::[]))) (E.most .i))then (some (((a0.1,(a1.1,(a2.1,(a3.1,(a4.1,(a5.1,(a6.1,(a7.1,(a8.1,(a9.1,(a10.1,(a11.1,(a12.1,(a13.1,(a14.1,(a15.1,(a16.1,(a17.1,(a18.1,(a19.1,((a20.1++(r1.1.2.1::[])),(r1.1.1.1,(r1.1.1.2.1,(r1.1.1.2.2.1,(r1.1.1.2.2.2.1,(r1.1.1.2.2.2.2.1,(r1.1.1.2.2.2.2.2.1,(r1.1.1.2.2.2.2.2.2.1,(r1.1.1.2.2.2.2.2.2.2.1,a29))))))))))))))))))))))))))))),r1.1.2),()))
   else none)
  else bif (eqI r0.1.1 3)then ((c297 ((a31.2.1,(a32.1,(a32.2.1,(a33.1,(a33.2.1,(a33.2.2.1,(a33.2.2.2.1,()))))))),r0.1.2)).bind fun r1=>
   bif (eqI r0.1.2.1 2)then ((c241 ((a0.1,(a1.1,(a2.1,(a3.1,(a4.1,(a5.1,(a6.1,(a7.1,(a8.1,(a9.1,(a10.1,(a11.1,(a12.1,(a13.1,(a14.1,(a15.1,(a16.1,(a17.1,(a18.1,(a19.1,(a20.1,(a21.1,(a22.1,(a23.1,(a24.1,(a25.1,(a26.1,(a27.1,(a28.1,(a29.1,(a30.1,(a31.1,(r1.1.1.1,(r1.1.1.2.1,(r1.1.1.2.2.1,(r1.1.1.2.2.2.1,(r1.1.1.2.2.2.2.1,(r1.1.1.2.2.2.2.2.1,(r1.1.1.2.2.2.2.2.2.1,a33.2.2.2.2))))))))))))))))))))))))))))))))))))))),(false,()))).bind fun r2=>let f0:=r2.1;let f1:=f0.1;let f2:=f1.2;let f3:=f2.2;let f4:=f3.2;let f5:=f4.2;let f6:=f5.2;let f7:=f6.2;let f8:=f7.2;let f9:=f8.2;let f10:=f9.2.2;let f11:=f10.2;let f12:=f11.2;let f13:=f12.2;let f14:=f13.2.2;let f15:=f14.2.2;bif (leN ((List.length f15.2.2.2.1)+(List.length (r1.1.2.1::[]))) (E.most .i))then (some (((f1.1,(f2.1,(f3.1,(f4.1,(f5.1,(f6.1,(f7.1,(f8.1,(f9.1,(f9.2.1,(f10.1,(f11.1,(f12.1,(f13.1,(f13.2.1,(f14.1,(f14.2.1,(f15.1,(f15.2.1,(f15.2.2.1,((f15.2.2.2.1++(r1.1.2.1::[])),f15.2.2.2.2))))))))))))))))))))),r1.1.2),()))
    else none)
   else bif (leN ((List.length a20.1)+(List.length (r1.1.2.1::[]))) (E.most .i))then (some (((a0.1,(a1.1,(a2.1,(a3.1,(a4.1,(a5.1,(a6.1,(a7.1,(a8.1,(a9.1,(a10.1,(a11.1,(a12.1,(a13.1,(a14.1,(a15.1,(a16.1,(a17.1,(a18.1,(a19.1,((a20.1++(r1.1.2.1::[])),(a21.1,(a22.1,(a23.1,(a24.1,(a25.1,(a26.1,(a27.1,(a28.1,(a29.1,(a30.1,(a31.1,(r1.1.1.1,(r1.1.1.2.1,(r1.1.1.2.2.1,(r1.1.1.2.2.2.1,(r1.1.1.2.2.2.2.1,(r1.1.1.2.2.2.2.2.1,(r1.1.1.2.2.2.2.2.2.1,a33.2.2.2.2))))))))))))))))))))))))))))))))))))))),r1.1.2),()))
   else none)
  else bif (eqI r0.1.1 4)then ((c298 ((a12.1,(a13.1,())),(a1.1,(a14.1,())))).bind fun r1=>
   bif (leN ((List.length a20.1)+(List.length (r1.1.2.1::[]))) (E.most .i))then (some (((a0.1,(a1.1,(a2.1,(a3.1,(a4.1,(a5.1,(a6.1,(a7.1,(a8.1,(a9.1,(a10.1,(a11.1,(r1.1.1.1,(r1.1.1.2.1,(a14.1,(a15.1,(a16.1,(a17.1,(a18.1,(a19.1,((a20.1++(r1.1.2.1::[])),a21))))))))))))))))))))),r1.1.2),()))
   else none)
  else (c288 ((a0.1,()),((a2.1,(a3.1,())),y.2))).bind fun r1=>
  some ((a0,r1.1),())
theorem s242 (c297:F297) (c298:F298) (c296:F296) (c173:F173) (c241:F241) (c288:F288) (y):TE [g297 c297,g298 c298,g296 c296,g173 c173,g241 c241,g288 c288] Tryz.f242 i242 o242 y=m242 c297 c298 c296 c173 c241 c288 y:=by kernel_rfl
noncomputable def r242:F242:=m242 r297 r298 r296 r173 r241 r288
theorem k242:KO (g242 r242):=fk (s242 r297 r298 r296 r173 r241 r288) ⟨k297,k298,k296,k173,k241,k288,⟨⟩⟩ (by kernel_rfl)
abbrev i243:Ts:=[.a q11, .v (.int .i64), .v (.int .i64)]
abbrev o243:Ts:=[.a q11]
abbrev R243:=Option (PTup o243×BTup i243)
abbrev F243:=PTup i243→R243
abbrev g243:=mkG 243 i243 o243
noncomputable def m243 (c299:F299) (c300:F300) (c173:F173) (c241:F241) (y:PTup i243):R243:=
  let a0:=y.1;let a1:=a0.2;let a2:=y.2.2;let a3:=a1.2;let a4:=a3.2;let a5:=a4.2;let a6:=a5.2;let a7:=a6.2;let a8:=a7.2;let a9:=a8.2;let a10:=a9.2;let a11:=a10.2;let a12:=a11.2;let a13:=a12.2;let a14:=a13.2;let a15:=a14.2;let a16:=a15.1;let a17:=a15.2;let a18:=a17.2;let a19:=a18.2;let a20:=a19.2;let a21:=a20.2;let a22:=a21.2;let a23:=a22.2;let a24:=a23.2;let a25:=a24.2;let a26:=a25.2;let a27:=a26.2;let a28:=a27.2;let a29:=a28.2;let a30:=a29.2;let a31:=a30.2;let a32:=a31.2;let a33:=a32.2;let a34:=a33.2;let a35:=a34.2;let a36:=a35.2;let a37:=a36.2;let a38:=a37.2;let a39:=a38.2;let a40:=a39.2.2;(c173 (y.2.1,())).bind fun r0=>let X0:R243:=(c241 ((a0.1,(a1.1,(a3.1,(a4.1,(a5.1,(a6.1,(a7.1,(a8.1,(a9.1,(a10.1,(a11.1,(a12.1,(a13.1,(a14.1,(a16,(a17.1,(a18.1,(a19.1,(a20.1,(a21.1,(a22.1,(a23.1,(a24.1,(a25.1,(a26.1,(a27.1,(a28.1,(a29.1,(a30.1,(a31.1,(a32.1,(a33.1,(a34.1,(a35.1,(a36.1,(a37.1,(a38.1,(a39.1,(a39.2.1,(a40.1,((a40.2.1++((a16,(r0.1.2.1,a2.1))::[])),a40.2.2))))))))))))))))))))))))))))))))))))))))),(false,()))).bind fun r1=>some ((r1.1.1,()),());let X1:R243:=some (((a0.1,(a1.1,(a3.1,(a4.1,(a5.1,(a6.1,(a7.1,(a8.1,(a9.1,(a10.1,(a11.1,(a12.1,(a13.1,(a14.1,(a16,(a17.1,(a18.1,(a19.1,(a20.1,(a21.1,(a22.1,(a23.1,(a24.1,(a25.1,(a26.1,(a27.1,(a28.1,(a29.1,(a30.1,(a31.1,(a32.1,(a33.1,(a34.1,(a35.1,(a36.1,(a37.1,(a38.1,(a39.1,(a39.2.1,(a40.1,((a40.2.1++((a16,(r0.1.2.1,a2.1))::[])),a40.2.2))))))))))))))))))))))))))))))))))))))))),()),());bif (eqI r0.1.1 2)then (bif (leN ((List.length a32.1)+(List.length ((a16,(r0.1.2.1,a2.1))::[]))) (E.most .t))then (bif (eqI r0.1.2.1 0)then (some (((a0.1,(a1.1,(a3.1,(a4.1,(a5.1,(a6.1,(a7.1,(a8.1,(a9.1,(a10.1,(a11.1,(a12.1,(a13.1,(a14.1,(a16,(a17.1,(a2.1,(a19.1,(a20.1,(a21.1,(a22.1,(a23.1,(a24.1,(a25.1,(a26.1,(a27.1,(a28.1,(a29.1,(a30.1,(a31.1,((a32.1++((a16,(r0.1.2.1,a2.1))::[])),a33))))))))))))))))))))))))))))))),()),()))else some (((a0.1,(a1.1,(a3.1,(a4.1,(a5.1,(a6.1,(a7.1,(a8.1,(a9.1,(a10.1,(a11.1,(a12.1,(a13.1,(a14.1,(a16,(a17.1,(a18.1,(a19.1,(a20.1,(a21.1,(a22.1,(a23.1,(a24.1,(a25.1,(a26.1,(a27.1,(a28.1,(a29.1,(a30.1,(a31.1,((a32.1++((a16,(r0.1.2.1,a2.1))::[])),a33))))))))))))))))))))))))))))))),()),()))else none)else bif (eqI r0.1.1 3)then (bif (leN ((List.length a40.2.1)+(List.length ((a16,(r0.1.2.1,a2.1))::[]))) (E.most .t))then (bif (eqI r0.1.2.1 3)then X0 else bif (eqI r0.1.2.1 2)then (bif (eqI (Int.tmod a2.1 2) (0:Int))then X0 else X1)else X1)else none)else bif (eqI r0.1.1 4)then ((c299 ((a13.1,(a14.1,())),(a1.1,(a16,a2)))).bind fun r1=>some (((a0.1,(a1.1,(a3.1,(a4.1,(a5.1,(a6.1,(a7.1,(a8.1,(a9.1,(a10.1,(a11.1,(a12.1,(r1.1.1.1,(r1.1.1.2.1,a15)))))))))))))),()),()))else (c300 ((a0.1,()),((a3.1,(a4.1,())),y.2))).bind fun r1=>some (((a0.1,(a1.1,(r1.1.1.1,(r1.1.1.2.1,a5)))),()),())
theorem s243 (c299:F299) (c300:F300) (c173:F173) (c241:F241) (y):TE [g299 c299,g300 c300,g173 c173,g241 c241] Tryz.f243 i243 o243 y=m243 c299 c300 c173 c241 y:=by kernel_rfl
noncomputable def r243:F243:=m243 r299 r300 r173 r241
theorem k243:KO (g243 r243):=fk (s243 r299 r300 r173 r241) ⟨k299,k300,k173,k241,⟨⟩⟩ (by kernel_rfl)
abbrev i180:Ts:=[.a q11]
abbrev o180:Ts:=[.a q11, .v (.int .i64)]
abbrev F180:=FT i180 o180
abbrev g180:=mkG 180 i180 o180
noncomputable def m180 (c172:F172) (c168:F168) (c240:F240) (c244:F244) (c171:F171) (c175:F175) (c241:F241) (c242:F242) (c243:F243) (y:PTup i180):Option (PTup o180×BTup i180):=
  let a0:=y.1;let a1:=a0.2;let a2:=a1.2;let a3:=a2.2;let a4:=a3.2;let a5:=a4.2;let a6:=a5.2;let a7:=a6.2;let a8:=a7.2;let a9:=a8.2;let a10:=a9.2;let a11:=a10.2;let a12:=a11.2;let a13:=a12.2.2;bif a13.2.1 then ((c240 ((a0.1,()),((a2.1,(a3.1,())),((a4.1,(a5.1,(a6.1,(a7.1,(a8.1,(a9.1,(a10.1,(a11.1,())))))))),((65530:Int),()))))).bind fun r0=>some (((a0.1,(a1.1,(r0.1.1.1,(r0.1.1.2.1,(r0.1.2.1.1,(r0.1.2.1.2.1,(r0.1.2.1.2.2.1,(r0.1.2.1.2.2.2.1,(r0.1.2.1.2.2.2.2.1,(r0.1.2.1.2.2.2.2.2.1,(r0.1.2.1.2.2.2.2.2.2.1,(r0.1.2.1.2.2.2.2.2.2.2.1,(a12.1,(a12.2.1,(a13.1,(false,a13.2.2)))))))))))))))),((7:Int),())),()))else bif (!a11.1)then ((c168 (a13.2.2.2.2.1,(a13.1,()))).bind fun r0=>bif r0.1.1 then ((c241 (a0,(a13.2.2.2.2.2.2.2.2.2.2.2.2.2.2.2.2.2.2.2.2.2.2.2.2.1,()))).bind fun r1=>let d0:=r1.1;let d1:=d0.1;let d2:=d1.2;let d3:=d2.2;let d4:=d3.2;let d5:=d4.2;let d6:=d5.2;let d7:=d6.2;let d8:=d7.2;let d9:=d8.2;let d10:=d9.2.2;bif d10.2.2.2.2.2.2.2.1 then ((c240 ((d1.1,()),((d3.1,(d4.1,())),((d5.1,(d6.1,(d7.1,(d8.1,(d9.1,(d9.2.1,(d10.1,(d10.2.1,())))))))),((65534:Int),()))))).bind fun r2=>some (((d1.1,(d2.1,(r2.1.1.1,(r2.1.1.2.1,(r2.1.2.1.1,(r2.1.2.1.2.1,(r2.1.2.1.2.2.1,(r2.1.2.1.2.2.2.1,(r2.1.2.1.2.2.2.2.1,(r2.1.2.1.2.2.2.2.2.1,(r2.1.2.1.2.2.2.2.2.2.1,(r2.1.2.1.2.2.2.2.2.2.2.1,d10.2.2)))))))))))),((7:Int),())),()))else (c171 ((d1.1,()),((d3.1,(d4.1,())),(d8.1,())))).bind fun r2=>(c172 (r2.1.1,((d5.1,(d6.1,(d7.1,(d8.1,(d9.1,(d9.2.1,(d10.1,(d10.2.1,())))))))),()))).bind fun r3=>bif (eqI r3.1.1 1)then ((c242 (d1,(r3.1.2.1,()))).bind fun r4=>(c244 ((r4.1.1.2.2.1,(r4.1.1.2.2.2.1,())),((r4.1.1.2.2.2.2.1,(r4.1.1.2.2.2.2.2.1,(r4.1.1.2.2.2.2.2.2.1,(r4.1.1.2.2.2.2.2.2.2.1,(r4.1.1.2.2.2.2.2.2.2.2.1,(r4.1.1.2.2.2.2.2.2.2.2.2.1,(r4.1.1.2.2.2.2.2.2.2.2.2.2.1,(r4.1.1.2.2.2.2.2.2.2.2.2.2.2.1,())))))))),(r2.1.1,r4.1.2)))).bind fun r5=>(c175 (r2.1.1.1,())).bind fun r6=>some (((r4.1.1.1,(r4.1.1.2.1,(r5.1.1.1,(r5.1.1.2.1,(r5.1.2.1.1,(r5.1.2.1.2.1,(r5.1.2.1.2.2.1,(r5.1.2.1.2.2.2.1,(r5.1.2.1.2.2.2.2.1,(r5.1.2.1.2.2.2.2.2.1,(r5.1.2.1.2.2.2.2.2.2.1,(r5.1.2.1.2.2.2.2.2.2.2.1,r4.1.1.2.2.2.2.2.2.2.2.2.2.2.2)))))))))))),r6.1),()))else bif (eqI r3.1.1 2)then ((c243 (d1,r3.1.2)).bind fun r4=>(c244 ((r4.1.1.2.2.1,(r4.1.1.2.2.2.1,())),((r4.1.1.2.2.2.2.1,(r4.1.1.2.2.2.2.2.1,(r4.1.1.2.2.2.2.2.2.1,(r4.1.1.2.2.2.2.2.2.2.1,(r4.1.1.2.2.2.2.2.2.2.2.1,(r4.1.1.2.2.2.2.2.2.2.2.2.1,(r4.1.1.2.2.2.2.2.2.2.2.2.2.1,(r4.1.1.2.2.2.2.2.2.2.2.2.2.2.1,())))))))),(r2.1.1,((0:Int),()))))).bind fun r5=>(c175 (r2.1.1.1,())).bind fun r6=>some (((r4.1.1.1,(r4.1.1.2.1,(r5.1.1.1,(r5.1.1.2.1,(r5.1.2.1.1,(r5.1.2.1.2.1,(r5.1.2.1.2.2.1,(r5.1.2.1.2.2.2.1,(r5.1.2.1.2.2.2.2.1,(r5.1.2.1.2.2.2.2.2.1,(r5.1.2.1.2.2.2.2.2.2.1,(r5.1.2.1.2.2.2.2.2.2.2.1,r4.1.1.2.2.2.2.2.2.2.2.2.2.2.2)))))))))))),r6.1),()))else (c244 ((d3.1,(d4.1,())),((d5.1,(d6.1,(d7.1,(d8.1,(d9.1,(d9.2.1,(d10.1,(d10.2.1,())))))))),(r2.1.1,((0:Int),()))))).bind fun r4=>(c175 (r2.1.1.1,())).bind fun r5=>some (((d1.1,(d2.1,(r4.1.1.1,(r4.1.1.2.1,(r4.1.2.1.1,(r4.1.2.1.2.1,(r4.1.2.1.2.2.1,(r4.1.2.1.2.2.2.1,(r4.1.2.1.2.2.2.2.1,(r4.1.2.1.2.2.2.2.2.1,(r4.1.2.1.2.2.2.2.2.2.1,(r4.1.2.1.2.2.2.2.2.2.2.1,d10.2.2)))))))))))),r5.1),()))else bif a13.2.2.2.1 then ((c240 ((a0.1,()),((a2.1,(a3.1,())),((a4.1,(a5.1,(a6.1,(a7.1,(a8.1,(a9.1,(a10.1,(a11.1,())))))))),((65534:Int),()))))).bind fun r1=>some (((a0.1,(a1.1,(r1.1.1.1,(r1.1.1.2.1,(r1.1.2.1.1,(r1.1.2.1.2.1,(r1.1.2.1.2.2.1,(r1.1.2.1.2.2.2.1,(r1.1.2.1.2.2.2.2.1,(r1.1.2.1.2.2.2.2.2.1,(r1.1.2.1.2.2.2.2.2.2.1,(r1.1.2.1.2.2.2.2.2.2.2.1,a12)))))))))))),((7:Int),())),()))else (c171 ((a0.1,()),((a2.1,(a3.1,())),(a7.1,())))).bind fun r1=>(c172 (r1.1.1,((a4.1,(a5.1,(a6.1,(a7.1,(a8.1,(a9.1,(a10.1,(a11.1,())))))))),()))).bind fun r2=>bif (eqI r2.1.1 1)then ((c242 (a0,(r2.1.2.1,()))).bind fun r3=>(c244 ((r3.1.1.2.2.1,(r3.1.1.2.2.2.1,())),((r3.1.1.2.2.2.2.1,(r3.1.1.2.2.2.2.2.1,(r3.1.1.2.2.2.2.2.2.1,(r3.1.1.2.2.2.2.2.2.2.1,(r3.1.1.2.2.2.2.2.2.2.2.1,(r3.1.1.2.2.2.2.2.2.2.2.2.1,(r3.1.1.2.2.2.2.2.2.2.2.2.2.1,(r3.1.1.2.2.2.2.2.2.2.2.2.2.2.1,())))))))),(r1.1.1,r3.1.2)))).bind fun r4=>(c175 (r1.1.1.1,())).bind fun r5=>some (((r3.1.1.1,(r3.1.1.2.1,(r4.1.1.1,(r4.1.1.2.1,(r4.1.2.1.1,(r4.1.2.1.2.1,(r4.1.2.1.2.2.1,(r4.1.2.1.2.2.2.1,(r4.1.2.1.2.2.2.2.1,(r4.1.2.1.2.2.2.2.2.1,(r4.1.2.1.2.2.2.2.2.2.1,(r4.1.2.1.2.2.2.2.2.2.2.1,r3.1.1.2.2.2.2.2.2.2.2.2.2.2.2)))))))))))),r5.1),()))else bif (eqI r2.1.1 2)then ((c243 (a0,r2.1.2)).bind fun r3=>(c244 ((r3.1.1.2.2.1,(r3.1.1.2.2.2.1,())),((r3.1.1.2.2.2.2.1,(r3.1.1.2.2.2.2.2.1,(r3.1.1.2.2.2.2.2.2.1,(r3.1.1.2.2.2.2.2.2.2.1,(r3.1.1.2.2.2.2.2.2.2.2.1,(r3.1.1.2.2.2.2.2.2.2.2.2.1,(r3.1.1.2.2.2.2.2.2.2.2.2.2.1,(r3.1.1.2.2.2.2.2.2.2.2.2.2.2.1,())))))))),(r1.1.1,((0:Int),()))))).bind fun r4=>(c175 (r1.1.1.1,())).bind fun r5=>some (((r3.1.1.1,(r3.1.1.2.1,(r4.1.1.1,(r4.1.1.2.1,(r4.1.2.1.1,(r4.1.2.1.2.1,(r4.1.2.1.2.2.1,(r4.1.2.1.2.2.2.1,(r4.1.2.1.2.2.2.2.1,(r4.1.2.1.2.2.2.2.2.1,(r4.1.2.1.2.2.2.2.2.2.1,(r4.1.2.1.2.2.2.2.2.2.2.1,r3.1.1.2.2.2.2.2.2.2.2.2.2.2.2)))))))))))),r5.1),()))else (c244 ((a2.1,(a3.1,())),((a4.1,(a5.1,(a6.1,(a7.1,(a8.1,(a9.1,(a10.1,(a11.1,())))))))),(r1.1.1,((0:Int),()))))).bind fun r3=>(c175 (r1.1.1.1,())).bind fun r4=>some (((a0.1,(a1.1,(r3.1.1.1,(r3.1.1.2.1,(r3.1.2.1.1,(r3.1.2.1.2.1,(r3.1.2.1.2.2.1,(r3.1.2.1.2.2.2.1,(r3.1.2.1.2.2.2.2.1,(r3.1.2.1.2.2.2.2.2.1,(r3.1.2.1.2.2.2.2.2.2.1,(r3.1.2.1.2.2.2.2.2.2.2.1,a12)))))))))))),r4.1),()))else (c171 ((a0.1,()),((a2.1,(a3.1,())),(a7.1,())))).bind fun r0=>(c172 (r0.1.1,((a4.1,(a5.1,(a6.1,(a7.1,(a8.1,(a9.1,(a10.1,(a11.1,())))))))),()))).bind fun r1=>bif (eqI r1.1.1 1)then ((c242 (a0,(r1.1.2.1,()))).bind fun r2=>(c244 ((r2.1.1.2.2.1,(r2.1.1.2.2.2.1,())),((r2.1.1.2.2.2.2.1,(r2.1.1.2.2.2.2.2.1,(r2.1.1.2.2.2.2.2.2.1,(r2.1.1.2.2.2.2.2.2.2.1,(r2.1.1.2.2.2.2.2.2.2.2.1,(r2.1.1.2.2.2.2.2.2.2.2.2.1,(r2.1.1.2.2.2.2.2.2.2.2.2.2.1,(r2.1.1.2.2.2.2.2.2.2.2.2.2.2.1,())))))))),(r0.1.1,r2.1.2)))).bind fun r3=>(c175 (r0.1.1.1,())).bind fun r4=>some (((r2.1.1.1,(r2.1.1.2.1,(r3.1.1.1,(r3.1.1.2.1,(r3.1.2.1.1,(r3.1.2.1.2.1,(r3.1.2.1.2.2.1,(r3.1.2.1.2.2.2.1,(r3.1.2.1.2.2.2.2.1,(r3.1.2.1.2.2.2.2.2.1,(r3.1.2.1.2.2.2.2.2.2.1,(r3.1.2.1.2.2.2.2.2.2.2.1,r2.1.1.2.2.2.2.2.2.2.2.2.2.2.2)))))))))))),r4.1),()))else bif (eqI r1.1.1 2)then ((c243 (a0,r1.1.2)).bind fun r2=>(c244 ((r2.1.1.2.2.1,(r2.1.1.2.2.2.1,())),((r2.1.1.2.2.2.2.1,(r2.1.1.2.2.2.2.2.1,(r2.1.1.2.2.2.2.2.2.1,(r2.1.1.2.2.2.2.2.2.2.1,(r2.1.1.2.2.2.2.2.2.2.2.1,(r2.1.1.2.2.2.2.2.2.2.2.2.1,(r2.1.1.2.2.2.2.2.2.2.2.2.2.1,(r2.1.1.2.2.2.2.2.2.2.2.2.2.2.1,())))))))),(r0.1.1,((0:Int),()))))).bind fun r3=>(c175 (r0.1.1.1,())).bind fun r4=>some (((r2.1.1.1,(r2.1.1.2.1,(r3.1.1.1,(r3.1.1.2.1,(r3.1.2.1.1,(r3.1.2.1.2.1,(r3.1.2.1.2.2.1,(r3.1.2.1.2.2.2.1,(r3.1.2.1.2.2.2.2.1,(r3.1.2.1.2.2.2.2.2.1,(r3.1.2.1.2.2.2.2.2.2.1,(r3.1.2.1.2.2.2.2.2.2.2.1,r2.1.1.2.2.2.2.2.2.2.2.2.2.2.2)))))))))))),r4.1),()))else (c244 ((a2.1,(a3.1,())),((a4.1,(a5.1,(a6.1,(a7.1,(a8.1,(a9.1,(a10.1,(a11.1,())))))))),(r0.1.1,((0:Int),()))))).bind fun r2=>(c175 (r0.1.1.1,())).bind fun r3=>some (((a0.1,(a1.1,(r2.1.1.1,(r2.1.1.2.1,(r2.1.2.1.1,(r2.1.2.1.2.1,(r2.1.2.1.2.2.1,(r2.1.2.1.2.2.2.1,(r2.1.2.1.2.2.2.2.1,(r2.1.2.1.2.2.2.2.2.1,(r2.1.2.1.2.2.2.2.2.2.1,(r2.1.2.1.2.2.2.2.2.2.2.1,a12)))))))))))),r3.1),())
theorem s180 (c172:F172) (c168:F168) (c240:F240) (c244:F244) (c171:F171) (c175:F175) (c241:F241) (c242:F242) (c243:F243) (y):TE [g172 c172,g168 c168,g240 c240,g244 c244,g171 c171,g175 c175,g241 c241,g242 c242,g243 c243] Tryz.f180 i180 o180 y=m180 c172 c168 c240 c244 c171 c175 c241 c242 c243 y:=by kernel_rfl
noncomputable def r180:F180:=m180 r172 r168 r240 r244 r171 r175 r241 r242 r243
theorem k180:KO (g180 r180):=fk (s180 r172 r168 r240 r244 r171 r175 r241 r242 r243) ⟨k172,k168,k240,k244,k171,k175,k241,k242,k243,⟨⟩⟩ (by kernel_rfl)
abbrev i181:Ts:=[.v (.int .i64), .v (.int .i64)]
abbrev o181:Ts:=[.v (.bool)]
abbrev F181:=FT i181 o181
abbrev g181:=mkG 181 i181 o181
noncomputable def m181 (c224:F224) (y:PTup i181):Option (PTup o181×BTup i181):=
  (c224 (y.1,(y.2.1,((48:Int),((64:Int),()))))).bind fun r0=>
  some (r0.1,())
theorem s181 (c224:F224) (y):TE [g224 c224] Tryz.f181 i181 o181 y=m181 c224 y:=by kernel_rfl
noncomputable def r181:F181:=m181 r224
theorem k181:KO (g181 r181):=fk (s181 r224) ⟨k224,⟨⟩⟩ (by kernel_rfl)
abbrev i99:Ts:=[.a q10]
abbrev o99:Ts:=[.a q11, .v (.bool)]
abbrev F99:=FT i99 o99
abbrev g99:=mkG 99 i99 o99
noncomputable def m99 (c181:F181) (c15:F15) (c23:F23) (c180:F180) (c96:F96) (y:PTup i99):Option (PTup o99×BTup i99):=
  (c15 (y.1,())).bind fun r0=>
  bif (!r0.1.1)then (some ((([],([],([],((0:Int),((0:Int),((0:Int),((0:Int),((0:Int),(false,(false,(false,(false,(false,((0:Int),((0:Int),(false,((0:Int),(false,((0:Int),((0:Int),([],((0:Int),((0:Int),((0:Int),((0:Int),((0:Int),(false,([],([],((0:Int),([],([],((0:Int),((0:Int),((0:Int),((0:Int),((0:Int),(false,(false,((0:Int),([],([],())))))))))))))))))))))))))))))))))))))))))),(false,())),()))
  else (c96 (y.1,())).bind fun r1=>
  bif (neI r1.1.1 0)then ((c23 (y.1,())).bind fun r2=>
   some ((r2.1.1,(false,())),()))
  else (c23 (y.1,())).bind fun r2=>
  (c180 (r2.1.1,())).bind fun r3=>let g0:=r3.1;let g1:=g0.1;let g2:=g1.2;let g3:=g2.2;let g4:=g3.2;let g5:=g4.2;let g6:=g5.2;let g7:=g6.2;let g8:=g7.2;let g9:=g8.2;let g10:=g9.2;let g11:=g10.2;let g12:=g11.2;let g13:=g12.2;let g14:=g13.2;let g15:=g14.2.2;let g16:=g15.2.2;bif (ltI 127 g15.2.1)then ((c181 (y.1.2.2.2.2.2.2.2.2.2.2.2.2.2.2.1,((wI (y.1.2.2.2.2.2.2.2.2.2.2.2.2.2.2.1+g0.2.1)),()))).bind fun r4=>
   some (((g1.1,(g2.1,(g3.1,(g4.1,(g5.1,(g6.1,(g7.1,(g8.1,(g9.1,(g10.1,(g11.1,(g12.1,(g13.1,(g14.1,((wI (y.1.2.2.2.2.2.2.2.2.2.2.2.2.2.2.1+g0.2.1)),(r4.1.1,(g15.2.1,(g16.1,(g16.2.1,((wI (y.1.2.2.2.2.2.2.2.2.2.2.2.2.2.2.2.2.2.2.2.1+1)),g16.2.2.2)))))))))))))))))))),(true,())),()))
  else some (((g1.1,(g2.1,(g3.1,(g4.1,(g5.1,(g6.1,(g7.1,(g8.1,(g9.1,(g10.1,(g11.1,(g12.1,(g13.1,(g14.1,((wI (y.1.2.2.2.2.2.2.2.2.2.2.2.2.2.2.1+g0.2.1)),(false,(g15.2.1,(g16.1,(g16.2.1,((wI (y.1.2.2.2.2.2.2.2.2.2.2.2.2.2.2.2.2.2.2.2.1+1)),g16.2.2.2)))))))))))))))))))),(true,())),())
theorem s99 (c181:F181) (c15:F15) (c23:F23) (c180:F180) (c96:F96) (y):TE [g181 c181,g15 c15,g23 c23,g180 c180,g96 c96] Tryz.f99 i99 o99 y=m99 c181 c15 c23 c180 c96 y:=by kernel_rfl
noncomputable def r99:F99:=m99 r181 r15 r23 r180 r96
theorem k99:KO (g99 r99):=fk (s99 r181 r15 r23 r180 r96) ⟨k181,k15,k23,k180,k96,⟨⟩⟩ (by kernel_rfl)
abbrev i25:Ts:=[.a q10, .v (.int .i64)]
abbrev o25:Ts:=[.a q11, .v (.bool)]
abbrev F25:=FT i25 o25
abbrev g25:=mkG 25 i25 o25
noncomputable def m25 (c99:F99) (c15:F15) (c100:F100) (c101:F101) (c23:F23) (y:PTup i25):Option (PTup o25×BTup i25):=
  (c15 (y.1,())).bind fun r0=>
  bif (!r0.1.1)then (some ((([],([],([],((0:Int),((0:Int),((0:Int),((0:Int),((0:Int),(false,(false,(false,(false,(false,((0:Int),((0:Int),(false,((0:Int),(false,((0:Int),((0:Int),([],((0:Int),((0:Int),((0:Int),((0:Int),((0:Int),(false,([],([],((0:Int),([],([],((0:Int),((0:Int),((0:Int),((0:Int),((0:Int),(false,(false,((0:Int),([],([],())))))))))))))))))))))))))))))))))))))))))),(false,())),()))
  else (c23 (y.1,())).bind fun r1=>let d0:=r1.1;let d1:=d0.1;let d2:=d1.2;let d3:=d2.2;let d4:=d3.2;let d5:=d4.2;let d6:=d5.2;let d7:=d6.2;let d8:=d7.2;let d9:=d8.2;let d10:=d9.2;let d11:=d10.2;let d12:=d11.2;let d13:=d12.2;let d14:=d13.2;let d15:=d14.2;let d16:=d15.2;let d17:=d16.2;let d18:=d17.2;let d19:=d18.2;let d20:=d19.2;let d21:=d20.2;let d22:=d21.2;let d23:=d22.2;let d24:=d23.2;let d25:=d24.2;let d26:=d25.2;let d27:=d26.2;let d28:=d27.2;let d29:=d28.2;let d30:=d29.2.2;bif (eqI y.2.1 0)then ((c99 (y.1,())).bind fun r2=>
   some (r2.1,()))
  else bif (eqI y.2.1 1)then ((c100 ((d22.1,(d23.1,(d24.1,(d25.1,(d26.1,(d27.1,(d28.1,(d29.1,(d29.2.1,(d30.1,(d30.2.1,()))))))))))),(y.1.2.2.2.2.2.2.2.2.2.2.2.2.2.2.1,()))).bind fun r2=>
   some (((d1.1,(d2.1,(d3.1,(d4.1,(d5.1,(d6.1,(d7.1,(d8.1,(d9.1,(d10.1,(d11.1,(d12.1,(d13.1,(d14.1,(d15.1,(d16.1,(d17.1,(d18.1,(d19.1,(d20.1,(d21.1,(r2.1.1.1,(r2.1.1.2.1,(r2.1.1.2.2.1,(r2.1.1.2.2.2.1,(r2.1.1.2.2.2.2.1,(r2.1.1.2.2.2.2.2.1,(r2.1.1.2.2.2.2.2.2.1,(r2.1.1.2.2.2.2.2.2.2.1,(r2.1.1.2.2.2.2.2.2.2.2.1,(r2.1.1.2.2.2.2.2.2.2.2.2.1,(r2.1.1.2.2.2.2.2.2.2.2.2.2.1,d30.2.2)))))))))))))))))))))))))))))))),r2.1.2),()))
  else bif (eqI y.2.1 2)then ((c101 (d30.2.2,(y.1.2.2.2.2.2.2.2.2.2.2.2.2.2.2.1,()))).bind fun r2=>
   some (((d1.1,(d2.1,(d3.1,(d4.1,(d5.1,(d6.1,(d7.1,(d8.1,(d9.1,(d10.1,(d11.1,(d12.1,(d13.1,(d14.1,(d15.1,(d16.1,(d17.1,(d18.1,(d19.1,(d20.1,(d21.1,(d22.1,(d23.1,(d24.1,(d25.1,(d26.1,(d27.1,(d28.1,(d29.1,(d29.2.1,(d30.1,(d30.2.1,r2.1.1)))))))))))))))))))))))))))))))),r2.1.2),()))
  else some ((d1,(false,())),())
theorem s25 (c99:F99) (c15:F15) (c100:F100) (c101:F101) (c23:F23) (y):TE [g99 c99,g15 c15,g100 c100,g101 c101,g23 c23] Tryz.f25 i25 o25 y=m25 c99 c15 c100 c101 c23 y:=by kernel_rfl
noncomputable def r25:F25:=m25 r99 r15 r100 r101 r23
theorem k25:KO (g25 r25):=fk (s25 r99 r15 r100 r101 r23) ⟨k99,k15,k100,k101,k23,⟨⟩⟩ (by kernel_rfl)
abbrev i238:Ts:=[.a q10]
abbrev o238:Ts:=[.v (.sl true .i)]
abbrev F238:=FT i238 o238
abbrev g238:=mkG 238 i238 o238
abbrev lc238_0:Ts:=[]
abbrev lb238_0:Ts:=[.p q10]
abbrev lv238_0:Ts:=[.v (.sl true .i), .v (.int .i64)]
abbrev lr238_0:Ts:=[]
abbrev R238_0:=Option (Sum (PTup lv238_0) (PTup lr238_0)×BTup lb238_0)
abbrev B238_0:=PTup lb238_0→PTup lv238_0→R238_0
abbrev A238_0:=PTup lc238_0→B238_0
noncomputable def w238_0 (c25:F25) (again:B238_0) (x:PTup lc238_0) (y:PTup lb238_0) (z:PTup lv238_0):R238_0:=
  bif (ltI z.2.1 3)then ((c25 (y.1,z.2)).bind fun r0=>
   bif r0.1.2.1 then (bif (leN ((List.length z.1)+(List.length (z.2.1::[]))) (E.most .i))then (again (y.1,()) ((z.1++(z.2.1::[])),((wI (z.2.1+1)),())))
    else none)
   else again (y.1,()) (z.1,((wI (z.2.1+1)),())))
  else some ((Sum.inl z),(y.1,()))
noncomputable def e238_0 (l:A238_0):ZC:=⟨[],lc238_0,[1],lb238_0,[3,4],lv238_0,[],lr238_0,0,[],l⟩
noncomputable def m238 (c25:F25) (l0:A238_0) (y:PTup i238):Option (PTup o238×BTup i238):=
  (l0 () (y.1,()) ([],((0:Int),()))).bind fun r0=>
  Zu r0.1 (fun r1=>some ((r1.1,()),()))
  (fun r1=>some (([],()),()))
noncomputable def E238 (c25:F25) (l0:A238_0):Zy:=⟨⟨Tryz.prog,Z0 [g25 c25]⟩,Qc [(3,e238_0 l0)]⟩
theorem t238_0 (c25:F25) (l0:A238_0) (again) (x y z):ZT (E238 c25 l0) (Zg (Zh Tryz.f238) 0) (e238_0 l0) Tryz.f238.ntmps again x y z=w238_0 c25 again x y z:=by kernel_rfl
noncomputable def n238_0 (c25:F25):Nat→A238_0
  |0,_,_,_=>none
  |n+1,x,y,z=>w238_0 c25 (fun y z=>n238_0 c25 n x y z) x y z
theorem s238 (c25:F25) (l0:A238_0) (y):Z4 (E238 c25 l0) Tryz.f238 i238 o238 y=m238 c25 l0 y:=by kernel_rfl
noncomputable def L238_0:A238_0:=n238_0 r25 fuel
noncomputable def r238:F238:=m238 r25 L238_0
theorem k238:KO (g238 r238):=by
  have hE: ∀g f,(E238 r25 L238_0).env.fns g=some f→Zr Tryz.prog g f:=Qb ⟨k25,⟨⟩⟩
  have h0:ZN Tryz.prog Tryz.f238.ntmps (Zg (Zh Tryz.f238) 0) (e238_0 L238_0):=Z1 (E:=E238 r25 L238_0) rfl hE mixed (Zn.of_list (l:=[]) (by kernel_rfl) trivial) (n238_0 r25) (fun _ _ _=>rfl) (fun n x y z=>t238_0 r25 L238_0 _ x y z) rfl
  exact Qh (E:=E238 r25 L238_0) rfl hE mixed (by kernel_rfl) (by kernel_rfl) (Zn.of_list (l:=[(Zg (Zh Tryz.f238) 0)]) (by kernel_rfl) (.one (by kernel_rfl) h0 trivial)) (s238 r25 L238_0)
abbrev i239:Ts:=[.a q10]
abbrev o239:Ts:=[.v (.int .i64)]
abbrev F239:=FT i239 o239
abbrev g239:=mkG 239 i239 o239
noncomputable def m239 (c15:F15) (c96:F96) (y:PTup i239):Option (PTup o239×BTup i239):=
  (c15 (y.1,())).bind fun r0=>
  bif (!r0.1.1)then (some (((6:Int),()),()))
  else (c96 (y.1,())).bind fun r1=>
  some (r1.1,())
theorem s239 (c15:F15) (c96:F96) (y):TE [g15 c15,g96 c96] Tryz.f239 i239 o239 y=m239 c15 c96 y:=by kernel_rfl
noncomputable def r239:F239:=m239 r15 r96
theorem k239:KO (g239 r239):=fk (s239 r15 r96) ⟨k15,k96,⟨⟩⟩ (by kernel_rfl)
abbrev i179:Ts:=[.a q10]
abbrev o179:Ts:=[.v (.bool)]
abbrev F179:=FT i179 o179
abbrev g179:=mkG 179 i179 o179
noncomputable def m179 (c238:F238) (c26:F26) (c15:F15) (c239:F239) (y:PTup i179):Option (PTup o179×BTup i179):=
  (c15 (y.1,())).bind fun r0=>
  bif r0.1.1 then ((c238 (y.1,())).bind fun r1=>
   bif (ltI 0 (Zb r1.1.1))then (some ((true,()),()))
   else (c26 (y.1,())).bind fun r2=>
   (c239 (r2.1.1,())).bind fun r3=>
   some (((eqI r3.1.1 5),()),()))
  else no
theorem s179 (c238:F238) (c26:F26) (c15:F15) (c239:F239) (y):TE [g238 c238,g26 c26,g15 c15,g239 c239] Tryz.f179 i179 o179 y=m179 c238 c26 c15 c239 y:=by kernel_rfl
noncomputable def r179:F179:=m179 r238 r26 r15 r239
theorem k179:KO (g179 r179):=fk (s179 r238 r26 r15 r239) ⟨k238,k26,k15,k239,⟨⟩⟩ (by kernel_rfl)
abbrev i98:Ts:=[.a q10]
abbrev o98:Ts:=[.v (.bool)]
abbrev F98:=FT i98 o98
abbrev g98:=mkG 98 i98 o98
noncomputable def m98 (c179:F179) (c176:F176) (c178:F178) (c177:F177) (y:PTup i98):Option (PTup o98×BTup i98):=
  (c176 (y.1,())).bind fun r0=>
  bif r0.1.1 then ((c177 (y.1,())).bind fun r1=>
   bif r1.1.1 then ((c178 (y.1,())).bind fun r2=>
    bif r2.1.1 then ((c179 (y.1,())).bind fun r3=>
     some (r3.1,()))
    else no)
   else no)
  else no
theorem s98 (c179:F179) (c176:F176) (c178:F178) (c177:F177) (y):TE [g179 c179,g176 c176,g178 c178,g177 c177] Tryz.f98 i98 o98 y=m98 c179 c176 c178 c177 y:=by kernel_rfl
noncomputable def r98:F98:=m98 r179 r176 r178 r177
theorem k98:KO (g98 r98):=fk (s98 r179 r176 r178 r177) ⟨k179,k176,k178,k177,⟨⟩⟩ (by kernel_rfl)
abbrev i24:Ts:=[.a q10, .v (.str)]
abbrev o24:Ts:=[.v (.str)]
abbrev F24:=FT i24 o24
abbrev g24:=mkG 24 i24 o24
noncomputable def m24 (c97:F97) (c98:F98) (c96:F96) (c30:F30) (y:PTup i24):Option (PTup o24×BTup i24):=
  bif ((ByteArray.toList y.2.1)==(ByteArray.toList (bz [119,97,105,116])))then ((c96 (y.1,())).bind fun r0=>
   bif (leI 0 r0.1.1)then (bif (ltI r0.1.1 (Zb ((bz [110,111,110,101])::((bz [112,105,99,116,117,114,101])::((bz [115,111,117,110,100])::((bz [114,111,111,109])::((bz [114,111,111,109])::((bz [111,118,101,114])::[]))))))))then (some (((rdE .s ((bz [110,111,110,101])::((bz [112,105,99,116,117,114,101])::((bz [115,111,117,110,100])::((bz [114,111,111,109])::((bz [114,111,111,109])::((bz [111,118,101,114])::[])))))) r0.1.1),()),()))
    else none)
   else none)
  else bif ((ByteArray.toList y.2.1)==(ByteArray.toList (bz [115,104,111,119])))then ((c97 ((y.1.2.2.2.2.1,(y.1.2.2.2.2.2.1,(y.1.2.2.2.2.2.2.1,(y.1.2.2.2.2.2.2.2.1,(y.1.2.2.2.2.2.2.2.2.1,(y.1.2.2.2.2.2.2.2.2.2.1,(y.1.2.2.2.2.2.2.2.2.2.2.1,(y.1.2.2.2.2.2.2.2.2.2.2.2.1,())))))))),())).bind fun r0=>
   some (r0.1,()))
  else bif ((ByteArray.toList y.2.1)==(ByteArray.toList (bz [102,114,97,109,101,115])))then ((c30 ((Zb y.1.2.2.2.2.2.2.2.2.2.2.2.2.2.2.2.2.2.2.2.2.2.2.2.2.2.2.2.2.2.2.2.1),())).bind fun r0=>
   some (r0.1,()))
  else bif ((ByteArray.toList y.2.1)==(ByteArray.toList (bz [115,97,109,112,108,101,115])))then ((c30 ((Zb y.1.2.2.2.2.2.2.2.2.2.2.2.2.2.2.2.2.2.2.2.2.2.2.2.2.2.2.2.2.2.2.2.2.2.2.2.2.2.2.2.2.2.1),())).bind fun r0=>
   some (r0.1,()))
  else bif ((ByteArray.toList y.2.1)==(ByteArray.toList (bz [106,117,100,103,101])))then ((c98 (y.1,())).bind fun r0=>
   bif r0.1.1 then (some (((bz [121,101,115]),()),()))
   else some (((bz [110,111]),()),()))
  else some (((bz []),()),())
theorem s24 (c97:F97) (c98:F98) (c96:F96) (c30:F30) (y):TE [g97 c97,g98 c98,g96 c96,g30 c30] Tryz.f24 i24 o24 y=m24 c97 c98 c96 c30 y:=by kernel_rfl
noncomputable def r24:F24:=m24 r97 r98 r96 r30
theorem k24:KO (g24 r24):=fk (s24 r97 r98 r96 r30) ⟨k97,k98,k96,k30,⟨⟩⟩ (by kernel_rfl)
abbrev i104:Ts:=[.v (.str)]
abbrev o104:Ts:=[.v (.int .i64)]
abbrev F104:=FT i104 o104
abbrev g104:=mkG 104 i104 o104
abbrev lc104_0:Ts:=[.v (.str)]
abbrev lb104_0:Ts:=[]
abbrev lv104_0:Ts:=[.v (.int .i64), .v (.int .i64)]
abbrev lr104_0:Ts:=[.v (.int .i64)]
abbrev R104_0:=Option (Sum (PTup lv104_0) (PTup lr104_0)×BTup lb104_0)
abbrev B104_0:=PTup lb104_0→PTup lv104_0→R104_0
abbrev A104_0:=PTup lc104_0→B104_0
noncomputable def w104_0 (c30:F30) (again:B104_0) (x:PTup lc104_0) (y:PTup lb104_0) (z:PTup lv104_0):R104_0:=
  bif (ltI z.2.1 ((((ByteArray.size x.1):Nat)):Int))then (bif (leI 0 z.2.1)then (bif (ltI z.2.1 ((((ByteArray.size x.1):Nat)):Int))then (bif (ltI (bt x.1 z.2.1) 48)then (some ((Sum.inr ((-(1:Int)),())),()))
     else bif (leI 0 z.2.1)then (bif (ltI z.2.1 ((((ByteArray.size x.1):Nat)):Int))then (bif (ltI 57 (bt x.1 z.2.1))then (some ((Sum.inr ((-(1:Int)),())),()))
       else bif (leI 0 z.2.1)then (bif (ltI z.2.1 ((((ByteArray.size x.1):Nat)):Int))then (again () ((wI ((wI ((wI ((10:Int)*z.1))+(wI (bt x.1 z.2.1))))-48)),((wI (z.2.1+1)),())))
        else none)
       else none)
      else none)
     else none)
    else none)
   else none)
  else some ((Sum.inl z),())
noncomputable def e104_0 (l:A104_0):ZC:=⟨[0],lc104_0,[],lb104_0,[3,4],lv104_0,[2],lr104_0,0,[],l⟩
noncomputable def m104 (c30:F30) (l0:A104_0) (y:PTup i104):Option (PTup o104×BTup i104):=
  bif ((ByteArray.toList y.1)==(ByteArray.toList (bz [])))then (some (((-(1:Int)),()),()))
  else bif (ltI 5 ((((ByteArray.size y.1):Nat)):Int))then (some (((-(1:Int)),()),()))
  else (l0 y () ((0:Int),((0:Int),()))).bind fun r0=>
  Zu r0.1 (fun r1=>(c30 (r1.1,())).bind fun r2=>
   bif (!((ByteArray.toList r2.1.1)==(ByteArray.toList y.1)))then (some (((-(1:Int)),()),()))
   else some ((r1.1,()),()))
  (fun r1=>some (r1,()))
noncomputable def E104 (c30:F30) (l0:A104_0):Zy:=⟨⟨Tryz.prog,Z0 [g30 c30]⟩,Qc [(5,e104_0 l0)]⟩
theorem t104_0 (c30:F30) (l0:A104_0) (again) (x y z):ZT (E104 c30 l0) (Zg (Zh Tryz.f104) 0) (e104_0 l0) Tryz.f104.ntmps again x y z=w104_0 c30 again x y z:=by kernel_rfl
noncomputable def n104_0 (c30:F30):Nat→A104_0
  |0,_,_,_=>none
  |n+1,x,y,z=>w104_0 c30 (fun y z=>n104_0 c30 n x y z) x y z
theorem s104 (c30:F30) (l0:A104_0) (y):Z4 (E104 c30 l0) Tryz.f104 i104 o104 y=m104 c30 l0 y:=by kernel_rfl
noncomputable def L104_0:A104_0:=n104_0 r30 fuel
noncomputable def r104:F104:=m104 r30 L104_0
theorem k104:KO (g104 r104):=by
  have hE: ∀g f,(E104 r30 L104_0).env.fns g=some f→Zr Tryz.prog g f:=Qb ⟨k30,⟨⟩⟩
  have h0:ZN Tryz.prog Tryz.f104.ntmps (Zg (Zh Tryz.f104) 0) (e104_0 L104_0):=Z1 (E:=E104 r30 L104_0) rfl hE mixed (Zn.of_list (l:=[]) (by kernel_rfl) trivial) (n104_0 r30) (fun _ _ _=>rfl) (fun n x y z=>t104_0 r30 L104_0 _ x y z) rfl
  exact Qh (E:=E104 r30 L104_0) rfl hE mixed (by kernel_rfl) (by kernel_rfl) (Zn.of_list (l:=[(Zg (Zh Tryz.f104) 0)]) (by kernel_rfl) (.one (by kernel_rfl) h0 trivial)) (s104 r30 L104_0)
abbrev i27:Ts:=[.v (.str)]
abbrev o27:Ts:=[.v (.str), .v (.int .i64), .v (.bool)]
abbrev F27:=FT i27 o27
abbrev g27:=mkG 27 i27 o27
abbrev lc27_0:Ts:=[.v (.str)]
abbrev lb27_0:Ts:=[]
abbrev lv27_0:Ts:=[.v (.int .i64)]
abbrev lr27_0:Ts:=[.v (.str), .v (.int .i64), .v (.bool)]
abbrev R27_0:=Option (Sum (PTup lv27_0) (PTup lr27_0)×BTup lb27_0)
abbrev B27_0:=PTup lb27_0→PTup lv27_0→R27_0
abbrev A27_0:=PTup lc27_0→B27_0
noncomputable def w27_0 (c104:F104) (again:B27_0) (x:PTup lc27_0) (y:PTup lb27_0) (z:PTup lv27_0):R27_0:=
  bif (ltI z.1 ((((ByteArray.size x.1):Nat)):Int))then (bif (leI 0 z.1)then (bif (ltI z.1 ((((ByteArray.size x.1):Nat)):Int))then (bif (eqI (bt x.1 z.1) 32)then (bif (leI 0 (wI (z.1+1)))then (bif (leI (wI (z.1+1)) ((((ByteArray.size x.1):Nat)):Int))then ((c104 ((ByteArray.extract x.1 (Int.toNat (wI (z.1+1))) (ByteArray.size x.1)),())).bind fun r0=>
        bif (leI 0 z.1)then (bif (leI z.1 ((((ByteArray.size x.1):Nat)):Int))then (some ((Sum.inr ((ByteArray.extract x.1 (0:Nat) (Int.toNat z.1)),(r0.1.1,((leI 0 r0.1.1),())))),()))
         else none)
        else none)
       else none)
      else none)
     else again () ((wI (z.1+1)),()))
    else none)
   else none)
  else some ((Sum.inl z),())
noncomputable def e27_0 (l:A27_0):ZC:=⟨[0],lc27_0,[],lb27_0,[5],lv27_0,[2,3,4],lr27_0,0,[],l⟩
noncomputable def m27 (c104:F104) (l0:A27_0) (y:PTup i27):Option (PTup o27×BTup i27):=
  (l0 y () ((0:Int),())).bind fun r0=>
  Zu r0.1 (fun r1=>some ((y.1,((-(1:Int)),(true,()))),()))
  (fun r1=>some (r1,()))
noncomputable def E27 (c104:F104) (l0:A27_0):Zy:=⟨⟨Tryz.prog,Z0 [g104 c104]⟩,Qc [(2,e27_0 l0)]⟩
theorem t27_0 (c104:F104) (l0:A27_0) (again) (x y z):ZT (E27 c104 l0) (Zg (Zh Tryz.f27) 0) (e27_0 l0) Tryz.f27.ntmps again x y z=w27_0 c104 again x y z:=by kernel_rfl
noncomputable def n27_0 (c104:F104):Nat→A27_0
  |0,_,_,_=>none
  |n+1,x,y,z=>w27_0 c104 (fun y z=>n27_0 c104 n x y z) x y z
theorem s27 (c104:F104) (l0:A27_0) (y):Z4 (E27 c104 l0) Tryz.f27 i27 o27 y=m27 c104 l0 y:=by kernel_rfl
noncomputable def L27_0:A27_0:=n27_0 r104 fuel
noncomputable def r27:F27:=m27 r104 L27_0
theorem k27:KO (g27 r27):=by
  have hE: ∀g f,(E27 r104 L27_0).env.fns g=some f→Zr Tryz.prog g f:=Qb ⟨k104,⟨⟩⟩
  have h0:ZN Tryz.prog Tryz.f27.ntmps (Zg (Zh Tryz.f27) 0) (e27_0 L27_0):=Z1 (E:=E27 r104 L27_0) rfl hE mixed (Zn.of_list (l:=[]) (by kernel_rfl) trivial) (n27_0 r104) (fun _ _ _=>rfl) (fun n x y z=>t27_0 r104 L27_0 _ x y z) rfl
  exact Qh (E:=E27 r104 L27_0) rfl hE mixed (by kernel_rfl) (by kernel_rfl) (Zn.of_list (l:=[(Zg (Zh Tryz.f27) 0)]) (by kernel_rfl) (.one (by kernel_rfl) h0 trivial)) (s27 r104 L27_0)
abbrev i29:Ts:=[.a q10, .v (.int .i64)]
abbrev o29:Ts:=[.a q11, .v (.int .i64)]
abbrev F29:=FT i29 o29
abbrev g29:=mkG 29 i29 o29
abbrev lc29_0:Ts:=[.v (.int .i64)]
abbrev lb29_0:Ts:=[.p q11, .p q11]
abbrev lv29_0:Ts:=[.v (.int .i64)]
abbrev lr29_0:Ts:=[.v (.int .i64)]
abbrev R29_0:=Option (Sum (PTup lv29_0) (PTup lr29_0)×BTup lb29_0)
abbrev B29_0:=PTup lb29_0→PTup lv29_0→R29_0
abbrev A29_0:=PTup lc29_0→B29_0
noncomputable def w29_0 (c99:F99) (c26:F26) (c15:F15) (c23:F23) (c106:F106) (c105:F105) (again:B29_0) (x:PTup lc29_0) (y:PTup lb29_0) (z:PTup lv29_0):R29_0:=
  (c105 (x.1,((3000:Int),()))).bind fun r0=>
  bif (ltI z.1 r0.1.1)then ((c26 (y.2.1,())).bind fun r1=>
   (c99 (r1.1.1,())).bind fun r2=>
   bif (!r2.1.2.1)then (some ((Sum.inr z),(r2.1.1,(y.2.1,()))))
   else again (y.1,(r2.1.1,())) ((wI (z.1+1)),()))
  else some ((Sum.inl z),(y.1,(y.2.1,())))
noncomputable def e29_0 (l:A29_0):ZC:=⟨[1],lc29_0,[4,6],lb29_0,[7],lv29_0,[5],lr29_0,0,[],l⟩
noncomputable def m29 (c99:F99) (c26:F26) (c15:F15) (c23:F23) (c106:F106) (c105:F105) (l0:A29_0) (y:PTup i29):Option (PTup o29×BTup i29):=
  (c15 (y.1,())).bind fun r0=>
  bif (!r0.1.1)then (some ((([],([],([],((0:Int),((0:Int),((0:Int),((0:Int),((0:Int),(false,(false,(false,(false,(false,((0:Int),((0:Int),(false,((0:Int),(false,((0:Int),((0:Int),([],((0:Int),((0:Int),((0:Int),((0:Int),((0:Int),(false,([],([],((0:Int),([],([],((0:Int),((0:Int),((0:Int),((0:Int),((0:Int),(false,(false,((0:Int),([],([],())))))))))))))))))))))))))))))))))))))))))),((0:Int),())),()))
  else (c23 (y.1,())).bind fun r1=>
  (l0 y.2 (([],([],([],((0:Int),((0:Int),((0:Int),((0:Int),((0:Int),(false,(false,(false,(false,(false,((0:Int),((0:Int),(false,((0:Int),(false,((0:Int),((0:Int),([],((0:Int),((0:Int),((0:Int),((0:Int),((0:Int),(false,([],([],((0:Int),([],([],((0:Int),((0:Int),((0:Int),((0:Int),((0:Int),(false,(false,((0:Int),([],([],())))))))))))))))))))))))))))))))))))))))))),(r1.1.1,())) ((0:Int),())).bind fun r2=>
  Zu r2.1 (fun r3=>(c105 (y.2.1,((3000:Int),()))).bind fun r4=>
   (c106 (r4.1.1,((0:Int),()))).bind fun r5=>
   some ((r2.2.2.1,r5.1),()))
  (fun r3=>some ((r2.2.1,r3),()))
noncomputable def E29 (c99:F99) (c26:F26) (c15:F15) (c23:F23) (c106:F106) (c105:F105) (l0:A29_0):Zy:=⟨⟨Tryz.prog,Z0 [g99 c99,g26 c26,g15 c15,g23 c23,g106 c106,g105 c105]⟩,Qc [(5,e29_0 l0)]⟩
theorem t29_0 (c99:F99) (c26:F26) (c15:F15) (c23:F23) (c106:F106) (c105:F105) (l0:A29_0) (again) (x y z):ZT (E29 c99 c26 c15 c23 c106 c105 l0) (Zg (Zh Tryz.f29) 0) (e29_0 l0) Tryz.f29.ntmps again x y z=w29_0 c99 c26 c15 c23 c106 c105 again x y z:=by kernel_rfl
noncomputable def n29_0 (c99:F99) (c26:F26) (c15:F15) (c23:F23) (c106:F106) (c105:F105):Nat→A29_0
  |0,_,_,_=>none
  |n+1,x,y,z=>w29_0 c99 c26 c15 c23 c106 c105 (fun y z=>n29_0 c99 c26 c15 c23 c106 c105 n x y z) x y z
theorem s29 (c99:F99) (c26:F26) (c15:F15) (c23:F23) (c106:F106) (c105:F105) (l0:A29_0) (y):Z4 (E29 c99 c26 c15 c23 c106 c105 l0) Tryz.f29 i29 o29 y=m29 c99 c26 c15 c23 c106 c105 l0 y:=by kernel_rfl
noncomputable def L29_0:A29_0:=n29_0 r99 r26 r15 r23 r106 r105 fuel
noncomputable def r29:F29:=m29 r99 r26 r15 r23 r106 r105 L29_0
theorem k29:KO (g29 r29):=by
  have hE: ∀g f,(E29 r99 r26 r15 r23 r106 r105 L29_0).env.fns g=some f→Zr Tryz.prog g f:=Qb ⟨k99,k26,k15,k23,k106,k105,⟨⟩⟩
  have h0:ZN Tryz.prog Tryz.f29.ntmps (Zg (Zh Tryz.f29) 0) (e29_0 L29_0):=Z1 (E:=E29 r99 r26 r15 r23 r106 r105 L29_0) rfl hE mixed (Zn.of_list (l:=[]) (by kernel_rfl) trivial) (n29_0 r99 r26 r15 r23 r106 r105) (fun _ _ _=>rfl) (fun n x y z=>t29_0 r99 r26 r15 r23 r106 r105 L29_0 _ x y z) rfl
  exact Qh (E:=E29 r99 r26 r15 r23 r106 r105 L29_0) rfl hE mixed (by kernel_rfl) (by kernel_rfl) (Zn.of_list (l:=[(Zg (Zh Tryz.f29) 0)]) (by kernel_rfl) (.one (by kernel_rfl) h0 trivial)) (s29 r99 r26 r15 r23 r106 r105 L29_0)
abbrev i6:Ts:=[.a q10, .v (.str)]
abbrev o6:Ts:=[.a q11, .v (.str)]
abbrev F6:=FT i6 o6
abbrev g6:=mkG 6 i6 o6
abbrev lc6_0:Ts:=[.v (.str), .v (.sl false .s)]
abbrev lb6_0:Ts:=[.p q10, .p q11]
abbrev lv6_0:Ts:=[.v (.int .i64)]
abbrev lr6_0:Ts:=[.v (.str)]
abbrev R6_0:=Option (Sum (PTup lv6_0) (PTup lr6_0)×BTup lb6_0)
abbrev B6_0:=PTup lb6_0→PTup lv6_0→R6_0
abbrev A6_0:=PTup lc6_0→B6_0
noncomputable def w6_0 (c29:F29) (c26:F26) (c25:F25) (c15:F15) (c23:F23) (c28:F28) (c24:F24) (c30:F30) (c27:F27) (again:B6_0) (x:PTup lc6_0) (y:PTup lb6_0) (z:PTup lv6_0):R6_0:=
  bif (ltI z.1 3)then (bif (leI 0 z.1)then (bif (ltI z.1 (Zb x.2.1))then (bif ((ByteArray.toList x.1)==(ByteArray.toList (rdE .s x.2.1 z.1)))then ((c25 (y.1,z)).bind fun r0=>
      bif r0.1.2.1 then (some ((Sum.inr ((bz [111,107]),())),(y.1,(r0.1.1,()))))
      else some ((Sum.inr ((bz [110,111]),())),(y.1,(r0.1.1,()))))
     else again (y.1,(y.2.1,())) ((wI (z.1+1)),()))
    else none)
   else none)
  else some ((Sum.inl z),(y.1,(y.2.1,())))
noncomputable def e6_0 (l:A6_0):ZC:=⟨[1,8],lc6_0,[2,4],lb6_0,[9],lv6_0,[5],lr6_0,0,[],l⟩
noncomputable def m6 (c29:F29) (c26:F26) (c25:F25) (c15:F15) (c23:F23) (c28:F28) (c24:F24) (c30:F30) (c27:F27) (l0:A6_0) (y:PTup i6):Option (PTup o6×BTup i6):=
  let a0:=y.1;let a1:=a0.2;let a2:=a1.2;let a3:=a2.2;let a4:=a3.2;let a5:=a4.2;let a6:=a5.2;let a7:=a6.2;let a8:=a7.2;let a9:=a8.2;let a10:=a9.2.2;let a11:=a10.2;let a12:=a11.2;let a13:=a12.2;let a14:=a13.2;let a15:=a14.2;let a16:=a15.2;let a17:=a16.2;let a18:=a17.2;let a19:=a18.2;let a20:=a19.2;let a21:=a20.2;let a22:=a21.2;let a23:=a22.2;let a24:=a23.2;let a25:=a24.2;let a26:=a25.2;let a27:=a26.2.2;let a28:=a27.2.2.2.2.2.2.2.2.2;(c23 (a0,())).bind fun r0=>
  (c15 (a0,())).bind fun r1=>
  bif (!r1.1.1)then (some ((r0.1.1,((bz [98,97,100]),())),()))
  else bif ((ByteArray.toList y.2.1)==(ByteArray.toList (bz [])))then (some ((r0.1.1,((bz []),())),()))
  else bif (ltI 0 ((((ByteArray.size y.2.1):Nat)):Int))then (bif (eqI (bt y.2.1 (0:Int)) (59:Int))then (some ((r0.1.1,((bz []),())),()))
   else (c24 y).bind fun r2=>
   bif (!((ByteArray.toList r2.1.1)==(ByteArray.toList (bz []))))then (some ((r0.1.1,r2.1),()))
   else (l0 (y.2.1,(((bz [99,112,117])::((bz [112,105,99,116,117,114,101])::((bz [115,111,117,110,100])::[]))),())) (a0,(([],([],([],((0:Int),((0:Int),((0:Int),((0:Int),((0:Int),(false,(false,(false,(false,(false,((0:Int),((0:Int),(false,((0:Int),(false,((0:Int),((0:Int),([],((0:Int),((0:Int),((0:Int),((0:Int),((0:Int),(false,([],([],((0:Int),([],([],((0:Int),((0:Int),((0:Int),((0:Int),((0:Int),(false,(false,((0:Int),([],([],())))))))))))))))))))))))))))))))))))))))))),())) ((0:Int),())).bind fun r3=>let g0:=r3.2;let g1:=g0.1;let g2:=g1.2;let g3:=g2.2;let g4:=g3.2;let g5:=g4.2;let g6:=g5.2;let g7:=g6.2;let g8:=g7.2;let g9:=g8.2;let g10:=g9.2;let g11:=g10.2;let g12:=g11.2;let g13:=g12.2;let g14:=g13.2;let g15:=g14.2;let g16:=g15.2;let g17:=g16.2;let g18:=g17.2;let g19:=g18.2;let g20:=g19.2;let g21:=g20.2;let g22:=g21.2;let g23:=g22.2;let g24:=g23.2;let g25:=g24.2;let g26:=g25.2;let g27:=g26.2;let g28:=g27.2;let g29:=g28.2;let g30:=g29.2;let g31:=g30.2;let g32:=g31.2;let g33:=g32.2;let g34:=g33.2;let g35:=g34.2;let g36:=g35.2;let g37:=g36.2.2;Zu r3.1 (fun r4=>bif ((ByteArray.toList y.2.1)==(ByteArray.toList (bz [108,101,118,101,108])))then ((c26 ((a0.1,(a1.1,(a2.1,(g4.1,(g5.1,(g6.1,(g7.1,(g8.1,(g9.1,(g10.1,(g11.1,(g12.1,(g13.1,(g14.1,(g15.1,(g16.1,(g17.1,(g18.1,(g19.1,(g20.1,(a19.1,(g22.1,(g23.1,(g24.1,(g25.1,(g26.1,(g27.1,(a26.1,(a26.2.1,(g30.1,(a27.2.1,(a27.2.2.1,(g33.1,(g34.1,(g35.1,(g36.1,(g36.2.1,(g37.1,(g37.2.1,(g37.2.2.1,a28.2.2)))))))))))))))))))))))))))))))))))))))),())).bind fun r5=>
     some ((r5.1.1,((bz [111,107]),())),()))
    else (c27 y.2).bind fun r5=>
    bif r5.1.2.2.1 then (bif ((ByteArray.toList r5.1.1)==(ByteArray.toList (bz [102,97,105,114])))then ((c28 (r5.1.2.1,((0:Int),((999:Int),())))).bind fun r6=>
      bif r6.1.1 then ((c29 ((a0.1,(a1.1,(a2.1,(g4.1,(g5.1,(g6.1,(g7.1,(g8.1,(g9.1,(g10.1,(g11.1,(g12.1,(g13.1,(g14.1,(g15.1,(g16.1,(g17.1,(g18.1,(g19.1,(g20.1,(a19.1,(g22.1,(g23.1,(g24.1,(g25.1,(g26.1,(g27.1,(a26.1,(a26.2.1,(g30.1,(a27.2.1,(a27.2.2.1,(g33.1,(g34.1,(g35.1,(g36.1,(g36.2.1,(g37.1,(g37.2.1,(g37.2.2.1,a28.2.2)))))))))))))))))))))))))))))))))))))))),(r5.1.2.1,()))).bind fun r7=>
       (c30 r7.1.2).bind fun r8=>
       some ((r7.1.1,r8.1),()))
      else some ((r0.1.1,((bz [119,104,97,116]),())),()))
     else some ((r0.1.1,((bz [119,104,97,116]),())),()))
    else some ((r0.1.1,((bz [119,104,97,116]),())),()))
   (fun r4=>some ((g0.2.1,r4),())))
  else none
noncomputable def E6 (c29:F29) (c26:F26) (c25:F25) (c15:F15) (c23:F23) (c28:F28) (c24:F24) (c30:F30) (c27:F27) (l0:A6_0):Zy:=⟨⟨Tryz.prog,Z0 [g29 c29,g26 c26,g25 c25,g15 c15,g23 c23,g28 c28,g24 c24,g30 c30,g27 c27]⟩,Qc [(11,e6_0 l0)]⟩
theorem t6_0 (c29:F29) (c26:F26) (c25:F25) (c15:F15) (c23:F23) (c28:F28) (c24:F24) (c30:F30) (c27:F27) (l0:A6_0) (again) (x y z):ZT (E6 c29 c26 c25 c15 c23 c28 c24 c30 c27 l0) (Zg (Zh Tryz.f6) 0) (e6_0 l0) Tryz.f6.ntmps again x y z=w6_0 c29 c26 c25 c15 c23 c28 c24 c30 c27 again x y z:=by kernel_rfl
noncomputable def n6_0 (c29:F29) (c26:F26) (c25:F25) (c15:F15) (c23:F23) (c28:F28) (c24:F24) (c30:F30) (c27:F27):Nat→A6_0
  |0,_,_,_=>none
  |n+1,x,y,z=>w6_0 c29 c26 c25 c15 c23 c28 c24 c30 c27 (fun y z=>n6_0 c29 c26 c25 c15 c23 c28 c24 c30 c27 n x y z) x y z
theorem s6 (c29:F29) (c26:F26) (c25:F25) (c15:F15) (c23:F23) (c28:F28) (c24:F24) (c30:F30) (c27:F27) (l0:A6_0) (y):Z4 (E6 c29 c26 c25 c15 c23 c28 c24 c30 c27 l0) Tryz.f6 i6 o6 y=m6 c29 c26 c25 c15 c23 c28 c24 c30 c27 l0 y:=by kernel_rfl
noncomputable def L6_0:A6_0:=n6_0 r29 r26 r25 r15 r23 r28 r24 r30 r27 fuel
noncomputable def r6:F6:=m6 r29 r26 r25 r15 r23 r28 r24 r30 r27 L6_0
theorem k6:KO (g6 r6):=by
  have hE: ∀g f,(E6 r29 r26 r25 r15 r23 r28 r24 r30 r27 L6_0).env.fns g=some f→Zr Tryz.prog g f:=Qb ⟨k29,k26,k25,k15,k23,k28,k24,k30,k27,⟨⟩⟩
  have h0:ZN Tryz.prog Tryz.f6.ntmps (Zg (Zh Tryz.f6) 0) (e6_0 L6_0):=Z1 (E:=E6 r29 r26 r25 r15 r23 r28 r24 r30 r27 L6_0) rfl hE mixed (Zn.of_list (l:=[]) (by kernel_rfl) trivial) (n6_0 r29 r26 r25 r15 r23 r28 r24 r30 r27) (fun _ _ _=>rfl) (fun n x y z=>t6_0 r29 r26 r25 r15 r23 r28 r24 r30 r27 L6_0 _ x y z) rfl
  exact Qh (E:=E6 r29 r26 r25 r15 r23 r28 r24 r30 r27 L6_0) rfl hE mixed (by kernel_rfl) (by kernel_rfl) (Zn.of_list (l:=[(Zg (Zh Tryz.f6) 0)]) (by kernel_rfl) (.one (by kernel_rfl) h0 trivial)) (s6 r29 r26 r25 r15 r23 r28 r24 r30 r27 L6_0)
abbrev i87:Ts:=[.v (.int .i64), .v (.int .i64), .v (.int .i64)]
abbrev o87:Ts:=[.v (.bool)]
abbrev F87:=FT i87 o87
abbrev g87:=mkG 87 i87 o87
noncomputable def m87 (y:PTup i87):Option (PTup o87×BTup i87):=
  bif (leI y.2.1 y.1)then (some (((leI y.1 y.2.2.1),()),()))
  else no
theorem s87 (y):TE [] Tryz.f87 i87 o87 y=m87 y:=by kernel_rfl
noncomputable def r87:F87:=m87
theorem k87:KO (g87 r87):=fk (s87) trivial (by kernel_rfl)
abbrev i85:Ts:=[.v (.int .i64)]
abbrev o85:Ts:=[.v (.bool)]
abbrev F85:=FT i85 o85
abbrev g85:=mkG 85 i85 o85
noncomputable def m85 (c87:F87) (y:PTup i85):Option (PTup o85×BTup i85):=
  (c87 (y.1,((0:Int),((255:Int),())))).bind fun r0=>
  some (r0.1,())
theorem s85 (c87:F87) (y):TE [g87 c87] Tryz.f85 i85 o85 y=m85 c87 y:=by kernel_rfl
noncomputable def r85:F85:=m85 r87
theorem k85:KO (g85 r85):=fk (s85 r87) ⟨k87,⟨⟩⟩ (by kernel_rfl)
abbrev i157:Ts:=[.v (.sl false .i)]
abbrev o157:Ts:=[.v (.bool)]
abbrev F157:=FT i157 o157
abbrev g157:=mkG 157 i157 o157
abbrev lc157_0:Ts:=[.v (.sl false .i), .v (.int .i64)]
abbrev lb157_0:Ts:=[]
abbrev lv157_0:Ts:=[.v (.int .i64)]
abbrev lr157_0:Ts:=[.v (.bool)]
abbrev R157_0:=Option (Sum (PTup lv157_0) (PTup lr157_0)×BTup lb157_0)
abbrev B157_0:=PTup lb157_0→PTup lv157_0→R157_0
abbrev A157_0:=PTup lc157_0→B157_0
noncomputable def w157_0 (c85:F85) (again:B157_0) (x:PTup lc157_0) (y:PTup lb157_0) (z:PTup lv157_0):R157_0:=
  bif (ltI z.1 x.2.1)then (bif (leI 0 z.1)then (bif (ltI z.1 (Zb x.1))then ((c85 ((rdE .i x.1 z.1),())).bind fun r0=>
     bif (!r0.1.1)then (some ((Sum.inr (false,())),()))
     else again () ((wI (z.1+1)),()))
    else none)
   else none)
  else some ((Sum.inl z),())
noncomputable def e157_0 (l:A157_0):ZC:=⟨[5,6],lc157_0,[],lb157_0,[7],lv157_0,[2],lr157_0,0,[],l⟩
noncomputable def m157 (c85:F85) (l0:A157_0) (y:PTup i157):Option (PTup o157×BTup i157):=
  (l0 (y.1,((Zb y.1),())) () ((0:Int),())).bind fun r0=>
  Zu r0.1 (fun r1=>some ((true,()),()))
  (fun r1=>some (r1,()))
noncomputable def E157 (c85:F85) (l0:A157_0):Zy:=⟨⟨Tryz.prog,Z0 [g85 c85]⟩,Qc [(2,e157_0 l0)]⟩
theorem t157_0 (c85:F85) (l0:A157_0) (again) (x y z):ZT (E157 c85 l0) (Zg (Zh Tryz.f157) 0) (e157_0 l0) Tryz.f157.ntmps again x y z=w157_0 c85 again x y z:=by kernel_rfl
noncomputable def n157_0 (c85:F85):Nat→A157_0
  |0,_,_,_=>none
  |n+1,x,y,z=>w157_0 c85 (fun y z=>n157_0 c85 n x y z) x y z
theorem s157 (c85:F85) (l0:A157_0) (y):Z4 (E157 c85 l0) Tryz.f157 i157 o157 y=m157 c85 l0 y:=by kernel_rfl
noncomputable def L157_0:A157_0:=n157_0 r85 fuel
noncomputable def r157:F157:=m157 r85 L157_0
theorem k157:KO (g157 r157):=by
  have hE: ∀g f,(E157 r85 L157_0).env.fns g=some f→Zr Tryz.prog g f:=Qb ⟨k85,⟨⟩⟩
  have h0:ZN Tryz.prog Tryz.f157.ntmps (Zg (Zh Tryz.f157) 0) (e157_0 L157_0):=Z1 (E:=E157 r85 L157_0) rfl hE mixed (Zn.of_list (l:=[]) (by kernel_rfl) trivial) (n157_0 r85) (fun _ _ _=>rfl) (fun n x y z=>t157_0 r85 L157_0 _ x y z) rfl
  exact Qh (E:=E157 r85 L157_0) rfl hE mixed (by kernel_rfl) (by kernel_rfl) (Zn.of_list (l:=[(Zg (Zh Tryz.f157) 0)]) (by kernel_rfl) (.one (by kernel_rfl) h0 trivial)) (s157 r85 L157_0)
abbrev i156:Ts:=[.a q0]
abbrev o156:Ts:=[.v (.bool)]
abbrev F156:=FT i156 o156
abbrev g156:=mkG 156 i156 o156
abbrev lc156_0:Ts:=[.v (.sl false .n), .v (.int .i64)]
abbrev lb156_0:Ts:=[]
abbrev lv156_0:Ts:=[.v (.int .i64)]
abbrev lr156_0:Ts:=[.v (.bool)]
abbrev R156_0:=Option (Sum (PTup lv156_0) (PTup lr156_0)×BTup lb156_0)
abbrev B156_0:=PTup lb156_0→PTup lv156_0→R156_0
abbrev A156_0:=PTup lc156_0→B156_0
noncomputable def w156_0 (c157:F157) (c87:F87) (again:B156_0) (x:PTup lc156_0) (y:PTup lb156_0) (z:PTup lv156_0):R156_0:=
  bif (ltI z.1 x.2.1)then (bif (leI 0 z.1)then (bif (ltI z.1 (Zb x.1))then (bif (neI (Zb (rdE .n x.1 z.1)) (256:Int))then (some ((Sum.inr (false,())),()))
     else (c157 ((rdE .n x.1 z.1),())).bind fun r0=>
     bif (!r0.1.1)then (some ((Sum.inr (false,())),()))
     else again () ((wI (z.1+1)),()))
    else none)
   else none)
  else some ((Sum.inl z),())
noncomputable def e156_0 (l:A156_0):ZC:=⟨[6,7],lc156_0,[],lb156_0,[8],lv156_0,[2],lr156_0,0,[],l⟩
noncomputable def m156 (c157:F157) (c87:F87) (l0:A156_0) (y:PTup i156):Option (PTup o156×BTup i156):=
  (l0 (y.1.1,((Zb y.1.1),())) () ((0:Int),())).bind fun r0=>
  Zu r0.1 (fun r1=>(c87 ((Zb y.1.1),((1:Int),((8:Int),())))).bind fun r2=>
   some (r2.1,()))
  (fun r1=>some (r1,()))
noncomputable def E156 (c157:F157) (c87:F87) (l0:A156_0):Zy:=⟨⟨Tryz.prog,Z0 [g157 c157,g87 c87]⟩,Qc [(2,e156_0 l0)]⟩
theorem t156_0 (c157:F157) (c87:F87) (l0:A156_0) (again) (x y z):ZT (E156 c157 c87 l0) (Zg (Zh Tryz.f156) 0) (e156_0 l0) Tryz.f156.ntmps again x y z=w156_0 c157 c87 again x y z:=by kernel_rfl
noncomputable def n156_0 (c157:F157) (c87:F87):Nat→A156_0
  |0,_,_,_=>none
  |n+1,x,y,z=>w156_0 c157 c87 (fun y z=>n156_0 c157 c87 n x y z) x y z
theorem s156 (c157:F157) (c87:F87) (l0:A156_0) (y):Z4 (E156 c157 c87 l0) Tryz.f156 i156 o156 y=m156 c157 c87 l0 y:=by kernel_rfl
noncomputable def L156_0:A156_0:=n156_0 r157 r87 fuel
noncomputable def r156:F156:=m156 r157 r87 L156_0
theorem k156:KO (g156 r156):=by
  have hE: ∀g f,(E156 r157 r87 L156_0).env.fns g=some f→Zr Tryz.prog g f:=Qb ⟨k157,k87,⟨⟩⟩
  have h0:ZN Tryz.prog Tryz.f156.ntmps (Zg (Zh Tryz.f156) 0) (e156_0 L156_0):=Z1 (E:=E156 r157 r87 L156_0) rfl hE mixed (Zn.of_list (l:=[]) (by kernel_rfl) trivial) (n156_0 r157 r87) (fun _ _ _=>rfl) (fun n x y z=>t156_0 r157 r87 L156_0 _ x y z) rfl
  exact Qh (E:=E156 r157 r87 L156_0) rfl hE mixed (by kernel_rfl) (by kernel_rfl) (Zn.of_list (l:=[(Zg (Zh Tryz.f156) 0)]) (by kernel_rfl) (.one (by kernel_rfl) h0 trivial)) (s156 r157 r87 L156_0)
abbrev i80:Ts:=[.a q0, .a q1]
abbrev o80:Ts:=[.v (.bool)]
abbrev F80:=FT i80 o80
abbrev g80:=mkG 80 i80 o80
noncomputable def m80 (c156:F156) (c157:F157) (c87:F87) (y:PTup i80):Option (PTup o80×BTup i80):=
  (c156 (y.1,())).bind fun r0=>
  bif r0.1.1 then (bif (eqI (Zb y.2.1.1) 512)then ((c157 (y.2.1.1,())).bind fun r1=>
    bif r1.1.1 then ((c87 (y.2.1.2.1,((0:Int),((wI ((Zb y.1.1)-1)),())))).bind fun r2=>
     some (r2.1,()))
    else no)
   else no)
  else no
theorem s80 (c156:F156) (c157:F157) (c87:F87) (y):TE [g156 c156,g157 c157,g87 c87] Tryz.f80 i80 o80 y=m80 c156 c157 c87 y:=by kernel_rfl
noncomputable def r80:F80:=m80 r156 r157 r87
theorem k80:KO (g80 r80):=fk (s80 r156 r157 r87) ⟨k156,k157,k87,⟨⟩⟩ (by kernel_rfl)
abbrev i81:Ts:=[.v (.sl false .i)]
abbrev o81:Ts:=[.v (.bool)]
abbrev F81:=FT i81 o81
abbrev g81:=mkG 81 i81 o81
noncomputable def m81 (c157:F157) (y:PTup i81):Option (PTup o81×BTup i81):=
  bif (leI (Zb y.1) 20)then ((c157 y).bind fun r0=>
   some (r0.1,()))
  else no
theorem s81 (c157:F157) (y):TE [g157 c157] Tryz.f81 i81 o81 y=m81 c157 y:=by kernel_rfl
noncomputable def r81:F81:=m81 r157
theorem k81:KO (g81 r81):=fk (s81 r157) ⟨k157,⟨⟩⟩ (by kernel_rfl)
abbrev i82:Ts:=[.a q12]
abbrev o82:Ts:=[.v (.bool)]
abbrev F82:=FT i82 o82
abbrev g82:=mkG 82 i82 o82
noncomputable def m82 (c85:F85) (c87:F87) (y:PTup i82):Option (PTup o82×BTup i82):=
  (c85 (y.1.1,())).bind fun r0=>
  bif r0.1.1 then ((c85 (y.1.2.1,())).bind fun r1=>
   bif r1.1.1 then ((c85 (y.1.2.2.1,())).bind fun r2=>
    bif r2.1.1 then ((c87 (y.1.2.2.2.1,((0:Int),((65535:Int),())))).bind fun r3=>
     some (r3.1,()))
    else no)
   else no)
  else no
theorem s82 (c85:F85) (c87:F87) (y):TE [g85 c85,g87 c87] Tryz.f82 i82 o82 y=m82 c85 c87 y:=by kernel_rfl
noncomputable def r82:F82:=m82 r85 r87
theorem k82:KO (g82 r82):=fk (s82 r85 r87) ⟨k85,k87,⟨⟩⟩ (by kernel_rfl)
abbrev i86:Ts:=[.v (.int .i64)]
abbrev o86:Ts:=[.v (.bool)]
abbrev F86:=FT i86 o86
abbrev g86:=mkG 86 i86 o86
noncomputable def m86 (c87:F87) (y:PTup i86):Option (PTup o86×BTup i86):=
  (c87 (y.1,((0:Int),((20000:Int),())))).bind fun r0=>
  some (r0.1,())
theorem s86 (c87:F87) (y):TE [g87 c87] Tryz.f86 i86 o86 y=m86 c87 y:=by kernel_rfl
noncomputable def r86:F86:=m86 r87
theorem k86:KO (g86 r86):=fk (s86 r87) ⟨k87,⟨⟩⟩ (by kernel_rfl)
abbrev i221:Ts:=[.v (.sl false .i)]
abbrev o221:Ts:=[.v (.bool)]
abbrev F221:=FT i221 o221
abbrev g221:=mkG 221 i221 o221
abbrev lc221_0:Ts:=[.v (.sl false .i), .v (.int .i64)]
abbrev lb221_0:Ts:=[]
abbrev lv221_0:Ts:=[.v (.int .i64)]
abbrev lr221_0:Ts:=[.v (.bool)]
abbrev R221_0:=Option (Sum (PTup lv221_0) (PTup lr221_0)×BTup lb221_0)
abbrev B221_0:=PTup lb221_0→PTup lv221_0→R221_0
abbrev A221_0:=PTup lc221_0→B221_0
noncomputable def w221_0 (c87:F87) (again:B221_0) (x:PTup lc221_0) (y:PTup lb221_0) (z:PTup lv221_0):R221_0:=
  bif (ltI z.1 x.2.1)then (bif (leI 0 z.1)then (bif (ltI z.1 (Zb x.1))then ((c87 ((rdE .i x.1 z.1),((0:Int),((63:Int),())))).bind fun r0=>
     bif (!r0.1.1)then (some ((Sum.inr (false,())),()))
     else again () ((wI (z.1+1)),()))
    else none)
   else none)
  else some ((Sum.inl z),())
noncomputable def e221_0 (l:A221_0):ZC:=⟨[5,6],lc221_0,[],lb221_0,[7],lv221_0,[2],lr221_0,0,[],l⟩
noncomputable def m221 (c87:F87) (l0:A221_0) (y:PTup i221):Option (PTup o221×BTup i221):=
  (l0 (y.1,((Zb y.1),())) () ((0:Int),())).bind fun r0=>
  Zu r0.1 (fun r1=>some ((true,()),()))
  (fun r1=>some (r1,()))
noncomputable def E221 (c87:F87) (l0:A221_0):Zy:=⟨⟨Tryz.prog,Z0 [g87 c87]⟩,Qc [(2,e221_0 l0)]⟩
theorem t221_0 (c87:F87) (l0:A221_0) (again) (x y z):ZT (E221 c87 l0) (Zg (Zh Tryz.f221) 0) (e221_0 l0) Tryz.f221.ntmps again x y z=w221_0 c87 again x y z:=by kernel_rfl
noncomputable def n221_0 (c87:F87):Nat→A221_0
  |0,_,_,_=>none
  |n+1,x,y,z=>w221_0 c87 (fun y z=>n221_0 c87 n x y z) x y z
theorem s221 (c87:F87) (l0:A221_0) (y):Z4 (E221 c87 l0) Tryz.f221 i221 o221 y=m221 c87 l0 y:=by kernel_rfl
noncomputable def L221_0:A221_0:=n221_0 r87 fuel
noncomputable def r221:F221:=m221 r87 L221_0
theorem k221:KO (g221 r221):=by
  have hE: ∀g f,(E221 r87 L221_0).env.fns g=some f→Zr Tryz.prog g f:=Qb ⟨k87,⟨⟩⟩
  have h0:ZN Tryz.prog Tryz.f221.ntmps (Zg (Zh Tryz.f221) 0) (e221_0 L221_0):=Z1 (E:=E221 r87 L221_0) rfl hE mixed (Zn.of_list (l:=[]) (by kernel_rfl) trivial) (n221_0 r87) (fun _ _ _=>rfl) (fun n x y z=>t221_0 r87 L221_0 _ x y z) rfl
  exact Qh (E:=E221 r87 L221_0) rfl hE mixed (by kernel_rfl) (by kernel_rfl) (Zn.of_list (l:=[(Zg (Zh Tryz.f221) 0)]) (by kernel_rfl) (.one (by kernel_rfl) h0 trivial)) (s221 r87 L221_0)
abbrev i158:Ts:=[.a q3]
abbrev o158:Ts:=[.v (.bool)]
abbrev F158:=FT i158 o158
abbrev g158:=mkG 158 i158 o158
noncomputable def m158 (c221:F221) (c85:F85) (c86:F86) (c87:F87) (y:PTup i158):Option (PTup o158×BTup i158):=
  (c86 (y.1.1,())).bind fun r0=>
  bif (!r0.1.1)then no
  else (c85 (y.1.2.1,())).bind fun r1=>
  bif (!r1.1.1)then no
  else (c85 (y.1.2.2.1,())).bind fun r2=>
  bif (!r2.1.1)then no
  else (c87 (y.1.2.2.2.1,((0:Int),((15:Int),())))).bind fun r3=>
  bif (!r3.1.1)then no
  else (c87 (y.1.2.2.2.2.1,((0:Int),((63:Int),())))).bind fun r4=>
  bif (!r4.1.1)then no
  else bif (ltI 48 (Int.tmod y.1.1 64))then (bif (eqI (Zb y.1.2.2.2.2.2.2.1) 16)then ((c221 (y.1.2.2.2.2.2.2.1,())).bind fun r5=>
    bif r5.1.1 then (bif (eqI (Zb y.1.2.2.2.2.2.2.2.1) 0)then ((c221 y.1.2.2.2.2.2.2.2).bind fun r6=>
      some (r6.1,()))
     else no)
    else no)
   else no)
  else bif (eqI (Zb y.1.2.2.2.2.2.2.1) 16)then ((c221 (y.1.2.2.2.2.2.2.1,())).bind fun r5=>
   bif r5.1.1 then (bif (eqI (Zb y.1.2.2.2.2.2.2.2.1) (Int.tmod y.1.1 64))then ((c221 y.1.2.2.2.2.2.2.2).bind fun r6=>
     some (r6.1,()))
    else no)
   else no)
  else no
theorem s158 (c221:F221) (c85:F85) (c86:F86) (c87:F87) (y):TE [g221 c221,g85 c85,g86 c86,g87 c87] Tryz.f158 i158 o158 y=m158 c221 c85 c86 c87 y:=by kernel_rfl
noncomputable def r158:F158:=m158 r221 r85 r86 r87
theorem k158:KO (g158 r158):=fk (s158 r221 r85 r86 r87) ⟨k221,k85,k86,k87,⟨⟩⟩ (by kernel_rfl)
abbrev i222:Ts:=[.a q5]
abbrev o222:Ts:=[.v (.bool)]
abbrev R222:=Option (PTup o222×BTup i222)
abbrev F222:=PTup i222→R222
abbrev g222:=mkG 222 i222 o222
abbrev lc222_0:Ts:=[.v (.sl false .t), .v (.int .i64)]
abbrev lb222_0:Ts:=[.p q5]
abbrev lv222_0:Ts:=[.v (.int .i64)]
abbrev lr222_0:Ts:=[.v (.bool)]
abbrev R222_0:=Option (Sum (PTup lv222_0) (PTup lr222_0)×BTup lb222_0)
abbrev B222_0:=PTup lb222_0→PTup lv222_0→R222_0
abbrev A222_0:=PTup lc222_0→B222_0
noncomputable def w222_0 (c85:F85) (c86:F86) (c87:F87) (again:B222_0) (x:PTup lc222_0) (y:PTup lb222_0) (z:PTup lv222_0):R222_0:=
  let X0:R222_0:=(c87 ((rdE .t x.1 z.1).2.1,((0:Int),((7:Int),())))).bind fun r1=>bif (!r1.1.1)then (some ((Sum.inr (false,())),(y.1,())))else (c85 ((rdE .t x.1 z.1).2.2,())).bind fun r2=>bif (!r2.1.1)then (some ((Sum.inr (false,())),(y.1,())))else again (y.1,()) ((wI (z.1+1)),());bif (ltI z.1 x.2.1)then (bif (leI 0 z.1)then (bif (ltI z.1 (Zb x.1))then ((c86 ((rdE .t x.1 z.1).1,())).bind fun r0=>bif (!r0.1.1)then (some ((Sum.inr (false,())),(y.1,())))else bif (ltI 0 z.1)then (bif (leI 0 (wI (z.1-1)))then (bif (ltI (wI (z.1-1)) (Zb y.1.2.1))then (bif (ltI (rdE .t x.1 z.1).1 (rdE .t y.1.2.1 (wI (z.1-1))).1)then (some ((Sum.inr (false,())),(y.1,())))else X0)else none)else none)else X0)else none)else none)else some ((Sum.inl z),(y.1,()))
noncomputable def e222_0 (l:A222_0):ZC:=⟨[6,7],lc222_0,[1],lb222_0,[8],lv222_0,[2],lr222_0,0,[],l⟩
noncomputable def m222 (c85:F85) (c86:F86) (c87:F87) (l0:A222_0) (y:PTup i222):R222:=
  (l0 (y.1.2.1,((Zb y.1.2.1),())) (y.1,()) ((0:Int),())).bind fun r0=>
  Zu r0.1 (fun r1=>(c87 (r0.2.1.1,((1:Int),((16:Int),())))).bind fun r2=>
   bif r2.1.1 then (some (((leI (Zb y.1.2.1) r0.2.1.1),()),()))
   else no)
  (fun r1=>some (r1,()))
noncomputable def E222 (c85:F85) (c86:F86) (c87:F87) (l0:A222_0):Zy:=⟨⟨Tryz.prog,Z0 [g85 c85,g86 c86,g87 c87]⟩,Qc [(2,e222_0 l0)]⟩
theorem t222_0 (c85:F85) (c86:F86) (c87:F87) (l0:A222_0) (again) (x y z):ZT (E222 c85 c86 c87 l0) (Zg (Zh Tryz.f222) 0) (e222_0 l0) Tryz.f222.ntmps again x y z=w222_0 c85 c86 c87 again x y z:=by kernel_rfl
noncomputable def n222_0 (c85:F85) (c86:F86) (c87:F87):Nat→A222_0
  |0,_,_,_=>none
  |n+1,x,y,z=>w222_0 c85 c86 c87 (fun y z=>n222_0 c85 c86 c87 n x y z) x y z
theorem s222 (c85:F85) (c86:F86) (c87:F87) (l0:A222_0) (y):Z4 (E222 c85 c86 c87 l0) Tryz.f222 i222 o222 y=m222 c85 c86 c87 l0 y:=by kernel_rfl
noncomputable def L222_0:A222_0:=n222_0 r85 r86 r87 fuel
noncomputable def r222:F222:=m222 r85 r86 r87 L222_0
theorem k222:KO (g222 r222):=by
  have hE: ∀g f,(E222 r85 r86 r87 L222_0).env.fns g=some f→Zr Tryz.prog g f:=Qb ⟨k85,k86,k87,⟨⟩⟩
  have h0:ZN Tryz.prog Tryz.f222.ntmps (Zg (Zh Tryz.f222) 0) (e222_0 L222_0):=Z1 (E:=E222 r85 r86 r87 L222_0) rfl hE mixed (Zn.of_list (l:=[]) (by kernel_rfl) trivial) (n222_0 r85 r86 r87) (fun _ _ _=>rfl) (fun n x y z=>t222_0 r85 r86 r87 L222_0 _ x y z) rfl
  exact Qh (E:=E222 r85 r86 r87 L222_0) rfl hE mixed (by kernel_rfl) (by kernel_rfl) (Zn.of_list (l:=[(Zg (Zh Tryz.f222) 0)]) (by kernel_rfl) (.one (by kernel_rfl) h0 trivial)) (s222 r85 r86 r87 L222_0)
abbrev i159:Ts:=[.a q5, .v (.int .i64)]
abbrev o159:Ts:=[.v (.bool)]
abbrev F159:=FT i159 o159
abbrev g159:=mkG 159 i159 o159
noncomputable def m159 (c222:F222) (y:PTup i159):Option (PTup o159×BTup i159):=
  (c222 (y.1,())).bind fun r0=>
  bif r0.1.1 then (bif (eqI (Zb y.1.2.1) 0)then (some ((true,()),()))
   else bif (ltI 0 (Zb y.1.2.1))then (some (((leI y.2.1 (rdE .t y.1.2.1 (0:Int)).1),()),()))
   else none)
  else no
theorem s159 (c222:F222) (y):TE [g222 c222] Tryz.f159 i159 o159 y=m159 c222 y:=by kernel_rfl
noncomputable def r159:F159:=m159 r222
theorem k159:KO (g159 r159):=fk (s159 r222) ⟨k222,⟨⟩⟩ (by kernel_rfl)
abbrev i223:Ts:=[.v (.int .i64), .v (.int .i64), .v (.int .i64)]
abbrev o223:Ts:=[.v (.int .i64)]
abbrev F223:=FT i223 o223
abbrev g223:=mkG 223 i223 o223
noncomputable def m223 (y:PTup i223):Option (PTup o223×BTup i223):=
  bif (neI y.2.2.1 0)then (some (((wI (Int.tdiv (wI ((wI ((wI (y.1+y.2.2.1))-1))-y.2.1)) y.2.2.1)),()),()))
  else none
theorem s223 (y):TE [] Tryz.f223 i223 o223 y=m223 y:=by kernel_rfl
noncomputable def r223:F223:=m223
theorem k223:KO (g223 r223):=fk (s223) trivial (by kernel_rfl)
abbrev i160:Ts:=[.v (.sl false .n), .v (.int .i64)]
abbrev o160:Ts:=[.v (.bool)]
abbrev F160:=FT i160 o160
abbrev g160:=mkG 160 i160 o160
abbrev lc160_0:Ts:=[.v (.sl false .n), .v (.int .i64)]
abbrev lb160_0:Ts:=[]
abbrev lv160_0:Ts:=[.v (.int .i64)]
abbrev lr160_0:Ts:=[.v (.bool)]
abbrev R160_0:=Option (Sum (PTup lv160_0) (PTup lr160_0)×BTup lb160_0)
abbrev B160_0:=PTup lb160_0→PTup lv160_0→R160_0
abbrev A160_0:=PTup lc160_0→B160_0
noncomputable def w160_0 (c223:F223) (again:B160_0) (x:PTup lc160_0) (y:PTup lb160_0) (z:PTup lv160_0):R160_0:=
  bif (ltI z.1 x.2.1)then (bif (leI 0 z.1)then (bif (ltI z.1 (Zb x.1))then (bif (neI (Zb (rdE .n x.1 z.1)) (48:Int))then (some ((Sum.inr (false,())),()))
     else again () ((wI (z.1+1)),()))
    else none)
   else none)
  else some ((Sum.inl z),())
noncomputable def e160_0 (l:A160_0):ZC:=⟨[7,8],lc160_0,[],lb160_0,[9],lv160_0,[4],lr160_0,0,[],l⟩
noncomputable def m160 (c223:F223) (l0:A160_0) (y:PTup i160):Option (PTup o160×BTup i160):=
  (l0 (y.1,((Zb y.1),())) () ((0:Int),())).bind fun r0=>
  Zu r0.1 (fun r1=>(c223 (y.2.1,((48:Int),((64:Int),())))).bind fun r2=>
   some (((eqI (Zb y.1) r2.1.1),()),()))
  (fun r1=>some (r1,()))
noncomputable def E160 (c223:F223) (l0:A160_0):Zy:=⟨⟨Tryz.prog,Z0 [g223 c223]⟩,Qc [(2,e160_0 l0)]⟩
theorem t160_0 (c223:F223) (l0:A160_0) (again) (x y z):ZT (E160 c223 l0) (Zg (Zh Tryz.f160) 0) (e160_0 l0) Tryz.f160.ntmps again x y z=w160_0 c223 again x y z:=by kernel_rfl
noncomputable def n160_0 (c223:F223):Nat→A160_0
  |0,_,_,_=>none
  |n+1,x,y,z=>w160_0 c223 (fun y z=>n160_0 c223 n x y z) x y z
theorem s160 (c223:F223) (l0:A160_0) (y):Z4 (E160 c223 l0) Tryz.f160 i160 o160 y=m160 c223 l0 y:=by kernel_rfl
noncomputable def L160_0:A160_0:=n160_0 r223 fuel
noncomputable def r160:F160:=m160 r223 L160_0
theorem k160:KO (g160 r160):=by
  have hE: ∀g f,(E160 r223 L160_0).env.fns g=some f→Zr Tryz.prog g f:=Qb ⟨k223,⟨⟩⟩
  have h0:ZN Tryz.prog Tryz.f160.ntmps (Zg (Zh Tryz.f160) 0) (e160_0 L160_0):=Z1 (E:=E160 r223 L160_0) rfl hE mixed (Zn.of_list (l:=[]) (by kernel_rfl) trivial) (n160_0 r223) (fun _ _ _=>rfl) (fun n x y z=>t160_0 r223 L160_0 _ x y z) rfl
  exact Qh (E:=E160 r223 L160_0) rfl hE mixed (by kernel_rfl) (by kernel_rfl) (Zn.of_list (l:=[(Zg (Zh Tryz.f160) 0)]) (by kernel_rfl) (.one (by kernel_rfl) h0 trivial)) (s160 r223 L160_0)
abbrev i83:Ts:=[.a q6]
abbrev o83:Ts:=[.v (.bool)]
abbrev F83:=FT i83 o83
abbrev g83:=mkG 83 i83 o83
noncomputable def m83 (c158:F158) (c160:F160) (c159:F159) (y:PTup i83):Option (PTup o83×BTup i83):=
  (c158 ((y.1.1,(y.1.2.1,(y.1.2.2.1,(y.1.2.2.2.1,(y.1.2.2.2.2.1,(y.1.2.2.2.2.2.1,(y.1.2.2.2.2.2.2.1,(y.1.2.2.2.2.2.2.2.1,())))))))),())).bind fun r0=>
  bif r0.1.1 then ((c159 ((y.1.2.2.2.2.2.2.2.2.1,(y.1.2.2.2.2.2.2.2.2.2.1,())),(y.1.1,()))).bind fun r1=>
   bif r1.1.1 then ((c160 (y.1.2.2.2.2.2.2.2.2.2.2.1,(y.1.1,()))).bind fun r2=>
    some (r2.1,()))
   else no)
  else no
theorem s83 (c158:F158) (c160:F160) (c159:F159) (y):TE [g158 c158,g160 c160,g159 c159] Tryz.f83 i83 o83 y=m83 c158 c160 c159 y:=by kernel_rfl
noncomputable def r83:F83:=m83 r158 r160 r159
theorem k83:KO (g83 r83):=fk (s83 r158 r160 r159) ⟨k158,k160,k159,⟨⟩⟩ (by kernel_rfl)
abbrev i161:Ts:=[.a q13]
abbrev o161:Ts:=[.v (.bool)]
abbrev F161:=FT i161 o161
abbrev g161:=mkG 161 i161 o161
noncomputable def m161 (c85:F85) (c86:F86) (c87:F87) (y:PTup i161):Option (PTup o161×BTup i161):=
  (c86 (y.1.1,())).bind fun r0=>
  bif r0.1.1 then ((c85 (y.1.2.1,())).bind fun r1=>
   bif r1.1.1 then ((c85 (y.1.2.2.1,())).bind fun r2=>
    bif r2.1.1 then ((c87 (y.1.2.2.2.1,((0:Int),((1:Int),())))).bind fun r3=>
     bif r3.1.1 then ((c87 (y.1.2.2.2.2.1,((0:Int),((31:Int),())))).bind fun r4=>
      some (r4.1,()))
     else no)
    else no)
   else no)
  else no
theorem s161 (c85:F85) (c86:F86) (c87:F87) (y):TE [g85 c85,g86 c86,g87 c87] Tryz.f161 i161 o161 y=m161 c85 c86 c87 y:=by kernel_rfl
noncomputable def r161:F161:=m161 r85 r86 r87
theorem k161:KO (g161 r161):=fk (s161 r85 r86 r87) ⟨k85,k86,k87,⟨⟩⟩ (by kernel_rfl)
abbrev i162:Ts:=[.v (.sl false .i), .v (.int .i64)]
abbrev o162:Ts:=[.v (.bool)]
abbrev F162:=FT i162 o162
abbrev g162:=mkG 162 i162 o162
noncomputable def m162 (c223:F223) (y:PTup i162):Option (PTup o162×BTup i162):=
  (c223 (y.2.1,((15:Int),((16:Int),())))).bind fun r0=>
  some (((eqI (Zb y.1) r0.1.1),()),())
theorem s162 (c223:F223) (y):TE [g223 c223] Tryz.f162 i162 o162 y=m162 c223 y:=by kernel_rfl
noncomputable def r162:F162:=m162 r223
theorem k162:KO (g162 r162):=fk (s162 r223) ⟨k223,⟨⟩⟩ (by kernel_rfl)
abbrev i84:Ts:=[.a q8]
abbrev o84:Ts:=[.v (.bool)]
abbrev F84:=FT i84 o84
abbrev g84:=mkG 84 i84 o84
noncomputable def m84 (c161:F161) (c159:F159) (c162:F162) (y:PTup i84):Option (PTup o84×BTup i84):=
  (c161 ((y.1.1,(y.1.2.1,(y.1.2.2.1,(y.1.2.2.2.1,(y.1.2.2.2.2.1,(y.1.2.2.2.2.2.1,(y.1.2.2.2.2.2.2.1,()))))))),())).bind fun r0=>
  bif r0.1.1 then ((c159 ((y.1.2.2.2.2.2.2.2.1,(y.1.2.2.2.2.2.2.2.2.1,())),(y.1.1,()))).bind fun r1=>
   bif r1.1.1 then ((c162 (y.1.2.2.2.2.2.2.2.2.2.1,(y.1.1,()))).bind fun r2=>
    some (r2.1,()))
   else no)
  else no
theorem s84 (c161:F161) (c159:F159) (c162:F162) (y):TE [g161 c161,g159 c159,g162 c162] Tryz.f84 i84 o84 y=m84 c161 c159 c162 y:=by kernel_rfl
noncomputable def r84:F84:=m84 r161 r159 r162
theorem k84:KO (g84 r84):=fk (s84 r161 r159 r162) ⟨k161,k159,k162,⟨⟩⟩ (by kernel_rfl)
abbrev i88:Ts:=[.a q5, .v (.int .i64)]
abbrev o88:Ts:=[.v (.bool)]
abbrev F88:=FT i88 o88
abbrev g88:=mkG 88 i88 o88
noncomputable def m88 (y:PTup i88):Option (PTup o88×BTup i88):=
  bif (eqI (Zb y.1.2.1) 0)then (some ((true,()),()))
  else bif (leI 0 (wI ((Zb y.1.2.1)-1)))then (bif (ltI (wI ((Zb y.1.2.1)-1)) (Zb y.1.2.1))then (some (((leI (rdE .t y.1.2.1 (wI ((Zb y.1.2.1)-1))).1 y.2.1),()),()))
   else none)
  else none
theorem s88 (y):TE [] Tryz.f88 i88 o88 y=m88 y:=by kernel_rfl
noncomputable def r88:F88:=m88
theorem k88:KO (g88 r88):=fk (s88) trivial (by kernel_rfl)
abbrev i17:Ts:=[.a q10]
abbrev o17:Ts:=[.v (.bool)]
abbrev R17:=Option (PTup o17×BTup i17)
abbrev F17:=PTup i17→R17
abbrev g17:=mkG 17 i17 o17
noncomputable def m17 (c82:F82) (c80:F80) (c81:F81) (c83:F83) (c84:F84) (c85:F85) (c86:F86) (c88:F88) (c87:F87) (y:PTup i17):R17:=
  let a0:=y.1;let a1:=a0.2;let a2:=a1.2;let a3:=a2.2;let a4:=a3.2;let a5:=a4.2;let a6:=a5.2;let a7:=a6.2;let a8:=a7.2;let a9:=a8.2;let a10:=a9.2;let a11:=a10.2;let a12:=a11.2;let a13:=a12.2;let a14:=a13.2;let a15:=a14.1;let a16:=a14.2;let a17:=a16.2;let a18:=a17.2;let a19:=a18.2;let a20:=a19.2;let a21:=a20.2;let a22:=a21.2;let a23:=a22.2;let a24:=a23.2;let a25:=a24.2;let a26:=a25.2;let a27:=a26.2;let a28:=a27.2;let a29:=a28.2;let a30:=a29.2.2;let a31:=a30.2.2.2.2.2.2.2.2.2;(c80 ((a0.1,()),((a2.1,(a3.1,())),()))).bind fun r0=>bif r0.1.1 then ((c81 (a1.1,())).bind fun r1=>bif r1.1.1 then ((c82 ((a4.1,(a5.1,(a6.1,(a7.1,(a8.1,(a9.1,(a10.1,(a11.1,())))))))),())).bind fun r2=>bif r2.1.1 then ((c83 ((a22.1,(a23.1,(a24.1,(a25.1,(a26.1,(a27.1,(a28.1,(a29.1,(a29.2.1,(a30.1,(a30.2.1,()))))))))))),())).bind fun r3=>bif r3.1.1 then ((c84 (a30.2.2,())).bind fun r4=>let X0:R17:=bif r4.1.1 then no else no;(c85 (a13.1,())).bind fun r5=>bif r5.1.1 then ((c85 (a17.1,())).bind fun r6=>bif r6.1.1 then ((c86 (a15,())).bind fun r7=>bif r7.1.1 then ((c87 (a19.1,((0:Int),(a15,())))).bind fun r8=>bif r8.1.1 then ((c87 (a20.1,((0:Int),(a15,())))).bind fun r9=>bif r4.1.1 then (bif r9.1.1 then (bif (leI a22.1 a15)then (bif (leI a30.2.2.1 a15)then ((c88 ((a29.2.1,(a30.1,())),(a15,()))).bind fun r10=>bif r10.1.1 then ((c88 ((a31.1,(a31.2.1,())),(a15,()))).bind fun r11=>some (r11.1,()))else no)else no)else no)else no)else no)else X0)else X0)else X0)else X0)else (c85 (a13.1,())).bind fun r4=>bif r4.1.1 then ((c85 (a17.1,())).bind fun r5=>bif r5.1.1 then ((c86 (a15,())).bind fun r6=>bif r6.1.1 then ((c87 (a19.1,((0:Int),(a15,())))).bind fun r7=>bif r7.1.1 then ((c87 (a20.1,((0:Int),(a15,())))).bind fun r8=>no)else no)else no)else no)else no)else (c85 (a13.1,())).bind fun r3=>bif r3.1.1 then ((c85 (a17.1,())).bind fun r4=>bif r4.1.1 then ((c86 (a15,())).bind fun r5=>bif r5.1.1 then ((c87 (a19.1,((0:Int),(a15,())))).bind fun r6=>bif r6.1.1 then ((c87 (a20.1,((0:Int),(a15,())))).bind fun r7=>no)else no)else no)else no)else no)else (c85 (a13.1,())).bind fun r2=>bif r2.1.1 then ((c85 (a17.1,())).bind fun r3=>bif r3.1.1 then ((c86 (a15,())).bind fun r4=>bif r4.1.1 then ((c87 (a19.1,((0:Int),(a15,())))).bind fun r5=>bif r5.1.1 then ((c87 (a20.1,((0:Int),(a15,())))).bind fun r6=>no)else no)else no)else no)else no)else (c85 (a13.1,())).bind fun r1=>bif r1.1.1 then ((c85 (a17.1,())).bind fun r2=>bif r2.1.1 then ((c86 (a15,())).bind fun r3=>bif r3.1.1 then ((c87 (a19.1,((0:Int),(a15,())))).bind fun r4=>bif r4.1.1 then ((c87 (a20.1,((0:Int),(a15,())))).bind fun r5=>no)else no)else no)else no)else no
theorem s17 (c82:F82) (c80:F80) (c81:F81) (c83:F83) (c84:F84) (c85:F85) (c86:F86) (c88:F88) (c87:F87) (y):TE [g82 c82,g80 c80,g81 c81,g83 c83,g84 c84,g85 c85,g86 c86,g88 c88,g87 c87] Tryz.f17 i17 o17 y=m17 c82 c80 c81 c83 c84 c85 c86 c88 c87 y:=by kernel_rfl
noncomputable def r17:F17:=m17 r82 r80 r81 r83 r84 r85 r86 r88 r87
theorem k17:KO (g17 r17):=fk (s17 r82 r80 r81 r83 r84 r85 r86 r88 r87) ⟨k82,k80,k81,k83,k84,k85,k86,k88,k87,⟨⟩⟩ (by kernel_rfl)
end Go.Proofs.YtleidaafbhojfaaGreatDoor.Plain
