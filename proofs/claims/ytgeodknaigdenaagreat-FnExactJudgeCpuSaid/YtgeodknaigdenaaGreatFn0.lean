/- Plain functions that the program's functions answer as; their contracts. Printed by a program of the proofs' writer. No condition. -/
import Derived.Test.YtgeodknaigdenaaGreatW5
import Derived.KernelRfl
import Derived.Test.YtgeodknaigdenaaGreatProg
set_option linter.unusedVariables false
set_option linter.unusedSimpArgs false
set_option maxRecDepth 100000
namespace Go.Proofs.YtgeodknaigdenaaGreat.Plain
open Go Go.Tev
theorem mixed : Tryz.prog.follows .mixedOrders = true := by kernel_rfl
noncomputable abbrev mkE (l : List (Nat × Tev.Fn)) : CEnv := ⟨⟨Tryz.prog, fnsL l⟩, loopsL []⟩
abbrev FT (i o : List Ty) := PTup i → Option (PTup o × BTup i)
abbrev Ts := List Ty
abbrev bz (l : List UInt8) : ByteArray := ⟨⟨l⟩⟩
noncomputable abbrev TE (l : List (Nat × Tev.Fn)) (f : Func) (i o : List Ty) := tevF (mkE l) f i o
abbrev no : Option ((Bool × Unit) × Unit) := some ((false, ()), ())
abbrev mkG (k : Nat) (i o : List Ty) (c : FT i o) : Nat × Tev.Fn := (k, ⟨i, o, c, .nor⟩)
abbrev KO (x : Nat × Tev.Fn) : Prop := CK Tryz.prog x
theorem fk {l : List (Nat × Tev.Fn)} {g : FuncId} {f : Func} {i o : List Ty} {run : FT i o} (h : ∀ y, tevF (mkE l) f i o y = run y) (hE : AllCalls Tryz.prog l) (hg : (Tryz.prog.funcs[g]?, staticOk f i o && (loopsOf (bodyOf f)).isEmpty) = (some f, true)) : KO (mkG g i o run) := by
  have hs := congrArg Prod.snd hg
  dsimp only at hs
  rw [Bool.and_eq_true, List.isEmpty_iff] at hs
  exact fn0 h (fnsL_ok hE) rfl mixed (congrArg Prod.fst hg) hs.1 hs.2
abbrev q0 : List LT := [.sl false .n]
abbrev q1 : List LT := [.sl false .i, .int .i64]
abbrev q2 : List LT := [.int .i64, .int .i64, .int .i64, .int .i64, .int .i64, .bool, .sl false .i, .sl false .i]
abbrev q3 : List LT := [.int .i64, .sl false .t]
abbrev q4 : List LT := [.int .i64, .int .i64, .int .i64, .int .i64, .int .i64, .bool, .sl false .i, .sl false .i, .int .i64, .sl false .t, .sl false .n]
abbrev q5 : List LT := [.int .i64, .int .i64, .int .i64, .int .i64, .int .i64, .bool, .bool, .int .i64, .sl false .t, .sl false .i]
abbrev q6 : List LT := [.sl false .n, .sl false .i, .sl false .i, .int .i64, .int .i64, .int .i64, .int .i64, .int .i64, .bool, .bool, .bool, .bool, .bool, .int .i64, .int .i64, .bool, .int .i64, .bool, .int .i64, .int .i64, .sl false .i, .int .i64, .int .i64, .int .i64, .int .i64, .int .i64, .bool, .sl false .i, .sl false .i, .int .i64, .sl false .t, .sl false .n, .int .i64, .int .i64, .int .i64, .int .i64, .int .i64, .bool, .bool, .int .i64, .sl false .t, .sl false .i]
abbrev q7 : List LT := [.sl true .i, .int .i64]
abbrev q8 : List LT := [.int .i64, .int .i64, .int .i64, .int .i64, .bool, .bool, .bool, .bool]
abbrev q9 : List LT := [.bool, .int .i64]
abbrev q10 : List LT := [.int .i64, .int .i64, .int .i64, .int .i64, .int .i64, .bool, .sl true .i, .sl true .i]
abbrev q11 : List LT := [.int .i64, .int .i64, .int .i64]
abbrev q12 : List LT := [.int .i64, .int .i64, .int .i64, .int .i64, .int .i64, .bool, .bool]
abbrev q13 : List LT := [.sl false .n, .sl false .i, .sl false .i, .int .i64, .int .i64, .int .i64, .int .i64, .int .i64, .bool, .bool, .bool, .bool, .int .i64, .int .i64, .int .i64, .int .i64, .int .i64, .bool, .sl false .i, .sl false .i, .int .i64, .int .i64, .int .i64, .int .i64, .int .i64, .bool, .bool, .bool, .int .i64, .bool, .int .i64, .sl false .n, .sl false .i, .sl false .i]
abbrev q14 : List LT := [.sl true .n, .sl true .i, .sl true .i, .int .i64, .int .i64, .int .i64, .int .i64, .int .i64, .bool, .bool, .bool, .bool, .int .i64, .int .i64, .int .i64, .int .i64, .int .i64, .bool, .sl true .i, .sl true .i, .int .i64, .int .i64, .int .i64, .int .i64, .int .i64, .bool, .bool, .bool, .int .i64, .bool, .int .i64, .sl true .n, .sl true .i, .sl true .i]
abbrev q15 : List LT := [.int .i64, .int .i64]
abbrev q16 : List LT := [.sl false .n, .sl false .i, .sl false .i, .int .i64, .int .i64, .int .i64, .int .i64, .int .i64, .bool, .bool, .bool, .bool, .int .i64, .int .i64, .int .i64, .int .i64, .int .i64, .bool, .sl false .i, .sl true .i, .int .i64, .int .i64, .int .i64, .int .i64, .int .i64, .bool, .bool, .bool, .int .i64, .bool, .int .i64, .sl true .n, .sl true .i, .sl false .i]
abbrev q17 : List LT := [.sl false .n, .sl false .i, .sl true .i, .int .i64, .int .i64, .int .i64, .int .i64, .int .i64, .bool, .bool, .bool, .bool, .int .i64, .int .i64, .int .i64, .int .i64, .int .i64, .bool, .sl true .i, .sl true .i, .int .i64, .int .i64, .int .i64, .int .i64, .int .i64, .bool, .bool, .bool, .int .i64, .bool, .int .i64, .sl true .n, .sl true .i, .sl true .i]
abbrev i79:Ts:=[.v (.sl false .i), .v (.int .i64)]
abbrev o79:Ts:=[.v (.int .i64)]
abbrev F79:=FT i79 o79
abbrev g79:=mkG 79 i79 o79
noncomputable def m79 (y:PTup i79):Option (PTup o79×BTup i79):=
  bif (ltI (wI (y.2.1-(lenI y.1))) (0:Int))then (some (((-(1:Int)),()),()))
  else some (((wI (y.2.1-(lenI y.1))),()),())
theorem s79 (y):TE [] Tryz.f79 i79 o79 y=m79 y:=by kernel_rfl
noncomputable def r79:F79:=m79
theorem k79:KO (g79 r79):=fk (s79) trivial (by kernel_rfl)
abbrev i173:Ts:=[.v (.sl false .n), .v (.int .i64)]
abbrev o173:Ts:=[.v (.int .i64)]
abbrev F173:=FT i173 o173
abbrev g173:=mkG 173 i173 o173
abbrev lc173_0:Ts:=[.v (.sl false .n)]
abbrev lb173_0:Ts:=[]
abbrev lv173_0:Ts:=[.v (.int .i64), .v (.int .i64)]
abbrev lr173_0:Ts:=[.v (.int .i64)]
abbrev R173_0:=Option (Sum (PTup lv173_0) (PTup lr173_0)×BTup lb173_0)
abbrev B173_0:=PTup lb173_0→PTup lv173_0→R173_0
abbrev A173_0:=PTup lc173_0→B173_0
noncomputable def w173_0 (c79:F79) (again:B173_0) (x:PTup lc173_0) (y:PTup lb173_0) (z:PTup lv173_0):R173_0:=
  bif (ltI z.2.1 (lenI x.1))then (bif (leI 0 z.2.1)then (bif (ltI z.2.1 (lenI x.1))then ((c79 ((rdE .n x.1 z.2.1),(z.1,()))).bind fun r0=>
     bif (ltI r0.1.1 0)then (some ((Sum.inr ((-(1:Int)),())),()))
     else again () (r0.1.1,((wI (z.2.1+1)),())))
    else none)
   else none)
  else some ((Sum.inl z),())
noncomputable def e173_0 (l:A173_0):LoopE:=⟨[0],lc173_0,[],lb173_0,[1,5],lv173_0,[4],lr173_0,0,[],l⟩
noncomputable def m173 (c79:F79) (l0:A173_0) (y:PTup i173):Option (PTup o173×BTup i173):=
  bif (ltI (wI (y.2.1-(lenI y.1))) (0:Int))then (some (((-(1:Int)),()),()))
  else (l0 (y.1,()) () ((wI (y.2.1-(lenI y.1))),((0:Int),()))).bind fun r0=>
  sumElim r0.1 (fun r1=>some ((r1.1,()),()))
  (fun r1=>some (r1,()))
noncomputable def E173 (c79:F79) (l0:A173_0):CEnv:=⟨⟨Tryz.prog,fnsL [g79 c79]⟩,loopsL [(5,e173_0 l0)]⟩
theorem t173_0 (c79:F79) (l0:A173_0) (again) (x y z):loopRound (E173 c79 l0) (loopAt (bodyOf Tryz.f173) 0) (e173_0 l0) Tryz.f173.ntmps again x y z=w173_0 c79 again x y z:=by kernel_rfl
noncomputable def n173_0 (c79:F79):Nat→A173_0
  |0,_,_,_=>none
  |n+1,x,y,z=>w173_0 c79 (fun y z=>n173_0 c79 n x y z) x y z
theorem s173 (c79:F79) (l0:A173_0) (y):tevF (E173 c79 l0) Tryz.f173 i173 o173 y=m173 c79 l0 y:=by kernel_rfl
noncomputable def L173_0:A173_0:=n173_0 r79 fuel
noncomputable def r173:F173:=m173 r79 L173_0
theorem k173:KO (g173 r173):=by
  have hE: ∀g f,(E173 r79 L173_0).env.fns g=some f→CallOk Tryz.prog g f:=fnsL_ok ⟨k79,⟨⟩⟩
  have h0:LoopOk Tryz.prog Tryz.f173.ntmps (loopAt (bodyOf Tryz.f173) 0) (e173_0 L173_0):=lp_ok (E:=E173 r79 L173_0) rfl hE mixed (AllLoops.of_list (l:=[]) (by kernel_rfl) trivial) (n173_0 r79) (fun _ _ _=>rfl) (fun n x y z=>t173_0 r79 L173_0 _ x y z) rfl
  exact fn_ok (E:=E173 r79 L173_0) rfl hE mixed (by kernel_rfl) (by kernel_rfl) (AllLoops.of_list (l:=[(loopAt (bodyOf Tryz.f173) 0)]) (by kernel_rfl) (.one (by kernel_rfl) h0 trivial)) (s173 r79 L173_0)
abbrev i78:Ts:=[.a q0, .v (.int .i64)]
abbrev o78:Ts:=[.v (.int .i64)]
abbrev F78:=FT i78 o78
abbrev g78:=mkG 78 i78 o78
noncomputable def m78 (c173:F173) (y:PTup i78):Option (PTup o78×BTup i78):=
  (c173 (y.1.1,y.2)).bind fun r0=>
  bif (ltI r0.1.1 0)then (some (((-(1:Int)),()),()))
  else some (r0.1,())
theorem s78 (c173:F173) (y):TE [g173 c173] Tryz.f78 i78 o78 y=m78 c173 y:=by kernel_rfl
noncomputable def r78:F78:=m78 r173
theorem k78:KO (g78 r78):=fk (s78 r173) ⟨k173,⟨⟩⟩ (by kernel_rfl)
abbrev i80:Ts:=[.a q1, .v (.int .i64)]
abbrev o80:Ts:=[.v (.int .i64)]
abbrev F80:=FT i80 o80
abbrev g80:=mkG 80 i80 o80
noncomputable def m80 (c79:F79) (y:PTup i80):Option (PTup o80×BTup i80):=
  (c79 (y.1.1,y.2)).bind fun r0=>
  bif (ltI r0.1.1 0)then (some (((-(1:Int)),()),()))
  else some (r0.1,())
theorem s80 (c79:F79) (y):TE [g79 c79] Tryz.f80 i80 o80 y=m80 c79 y:=by kernel_rfl
noncomputable def r80:F80:=m80 r79
theorem k80:KO (g80 r80):=fk (s80 r79) ⟨k79,⟨⟩⟩ (by kernel_rfl)
abbrev i174:Ts:=[.a q2, .v (.int .i64)]
abbrev o174:Ts:=[.v (.int .i64)]
abbrev F174:=FT i174 o174
abbrev g174:=mkG 174 i174 o174
noncomputable def m174 (c79:F79) (y:PTup i174):Option (PTup o174×BTup i174):=
  (c79 (y.1.2.2.2.2.2.2.1,y.2)).bind fun r0=>
  bif (ltI r0.1.1 0)then (some (((-(1:Int)),()),()))
  else (c79 (y.1.2.2.2.2.2.2.2.1,r0.1)).bind fun r1=>
  bif (ltI r1.1.1 0)then (some (((-(1:Int)),()),()))
  else some (r1.1,())
theorem s174 (c79:F79) (y):TE [g79 c79] Tryz.f174 i174 o174 y=m174 c79 y:=by kernel_rfl
noncomputable def r174:F174:=m174 r79
theorem k174:KO (g174 r174):=fk (s174 r79) ⟨k79,⟨⟩⟩ (by kernel_rfl)
abbrev i253:Ts:=[.v (.sl false .t), .v (.int .i64)]
abbrev o253:Ts:=[.v (.int .i64)]
abbrev F253:=FT i253 o253
abbrev g253:=mkG 253 i253 o253
noncomputable def m253 (y:PTup i253):Option (PTup o253×BTup i253):=
  bif (ltI (wI (y.2.1-(lenI y.1))) (0:Int))then (some (((-(1:Int)),()),()))
  else some (((wI (y.2.1-(lenI y.1))),()),())
theorem s253 (y):TE [] Tryz.f253 i253 o253 y=m253 y:=by kernel_rfl
noncomputable def r253:F253:=m253
theorem k253:KO (g253 r253):=fk (s253) trivial (by kernel_rfl)
abbrev i175:Ts:=[.a q3, .v (.int .i64)]
abbrev o175:Ts:=[.v (.int .i64)]
abbrev F175:=FT i175 o175
abbrev g175:=mkG 175 i175 o175
noncomputable def m175 (c253:F253) (y:PTup i175):Option (PTup o175×BTup i175):=
  (c253 (y.1.2.1,y.2)).bind fun r0=>
  bif (ltI r0.1.1 0)then (some (((-(1:Int)),()),()))
  else some (r0.1,())
theorem s175 (c253:F253) (y):TE [g253 c253] Tryz.f175 i175 o175 y=m175 c253 y:=by kernel_rfl
noncomputable def r175:F175:=m175 r253
theorem k175:KO (g175 r175):=fk (s175 r253) ⟨k253,⟨⟩⟩ (by kernel_rfl)
abbrev i81:Ts:=[.a q4, .v (.int .i64)]
abbrev o81:Ts:=[.v (.int .i64)]
abbrev F81:=FT i81 o81
abbrev g81:=mkG 81 i81 o81
noncomputable def m81 (c173:F173) (c174:F174) (c175:F175) (y:PTup i81):Option (PTup o81×BTup i81):=
  (c174 ((y.1.1,(y.1.2.1,(y.1.2.2.1,(y.1.2.2.2.1,(y.1.2.2.2.2.1,(y.1.2.2.2.2.2.1,(y.1.2.2.2.2.2.2.1,(y.1.2.2.2.2.2.2.2.1,())))))))),y.2)).bind fun r0=>
  bif (ltI r0.1.1 0)then (some (((-(1:Int)),()),()))
  else (c175 ((y.1.2.2.2.2.2.2.2.2.1,(y.1.2.2.2.2.2.2.2.2.2.1,())),r0.1)).bind fun r1=>
  bif (ltI r1.1.1 0)then (some (((-(1:Int)),()),()))
  else (c173 (y.1.2.2.2.2.2.2.2.2.2.2.1,r1.1)).bind fun r2=>
  bif (ltI r2.1.1 0)then (some (((-(1:Int)),()),()))
  else some (r2.1,())
theorem s81 (c173:F173) (c174:F174) (c175:F175) (y):TE [g173 c173,g174 c174,g175 c175] Tryz.f81 i81 o81 y=m81 c173 c174 c175 y:=by kernel_rfl
noncomputable def r81:F81:=m81 r173 r174 r175
theorem k81:KO (g81 r81):=fk (s81 r173 r174 r175) ⟨k173,k174,k175,⟨⟩⟩ (by kernel_rfl)
abbrev i82:Ts:=[.a q5, .v (.int .i64)]
abbrev o82:Ts:=[.v (.int .i64)]
abbrev F82:=FT i82 o82
abbrev g82:=mkG 82 i82 o82
noncomputable def m82 (c79:F79) (c175:F175) (y:PTup i82):Option (PTup o82×BTup i82):=
  (c175 ((y.1.2.2.2.2.2.2.2.1,(y.1.2.2.2.2.2.2.2.2.1,())),y.2)).bind fun r0=>
  bif (ltI r0.1.1 0)then (some (((-(1:Int)),()),()))
  else (c79 (y.1.2.2.2.2.2.2.2.2.2.1,r0.1)).bind fun r1=>
  bif (ltI r1.1.1 0)then (some (((-(1:Int)),()),()))
  else some (r1.1,())
theorem s82 (c79:F79) (c175:F175) (y):TE [g79 c79,g175 c175] Tryz.f82 i82 o82 y=m82 c79 c175 y:=by kernel_rfl
noncomputable def r82:F82:=m82 r79 r175
theorem k82:KO (g82 r82):=fk (s82 r79 r175) ⟨k79,k175,⟨⟩⟩ (by kernel_rfl)
abbrev i15:Ts:=[.a q6, .v (.int .i64)]
abbrev o15:Ts:=[.v (.int .i64)]
abbrev F15:=FT i15 o15
abbrev g15:=mkG 15 i15 o15
noncomputable def m15 (c78:F78) (c79:F79) (c80:F80) (c81:F81) (c82:F82) (y:PTup i15):Option (PTup o15×BTup i15):=
  let a0:=y.1;let a1:=a0.2;let a2:=a1.2;let a3:=a2.2;let a4:=a3.2;let a5:=a4.2;let a6:=a5.2;let a7:=a6.2;let a8:=a7.2;let a9:=a8.2;let a10:=a9.2.2;let a11:=a10.2;let a12:=a11.2;let a13:=a12.2;let a14:=a13.2;let a15:=a14.2;let a16:=a15.2;let a17:=a16.2;let a18:=a17.2;let a19:=a18.2;let a20:=a19.2;let a21:=a20.2;let a22:=a21.2;let a23:=a22.2.2;let a24:=a23.2.2;(c78 ((a0.1,()),y.2)).bind fun r0=>
  bif (ltI r0.1.1 0)then (some (((-(1:Int)),()),()))
  else (c79 (a1.1,r0.1)).bind fun r1=>
  bif (ltI r1.1.1 0)then (some (((-(1:Int)),()),()))
  else (c80 ((a2.1,(a3.1,())),r1.1)).bind fun r2=>
  bif (ltI r2.1.1 0)then (some (((-(1:Int)),()),()))
  else (c79 (a19.1,r2.1)).bind fun r3=>
  bif (ltI r3.1.1 0)then (some (((-(1:Int)),()),()))
  else (c81 ((a20.1,(a21.1,(a22.1,(a22.2.1,(a23.1,(a23.2.1,(a24.1,(a24.2.1,(a24.2.2.1,(a24.2.2.2.1,(a24.2.2.2.2.1,()))))))))))),r3.1)).bind fun r4=>
  bif (ltI r4.1.1 0)then (some (((-(1:Int)),()),()))
  else (c82 (a24.2.2.2.2.2,r4.1)).bind fun r5=>
  bif (ltI r5.1.1 0)then (some (((-(1:Int)),()),()))
  else some (r5.1,())
theorem s15 (c78:F78) (c79:F79) (c80:F80) (c81:F81) (c82:F82) (y):TE [g78 c78,g79 c79,g80 c80,g81 c81,g82 c82] Tryz.f15 i15 o15 y=m15 c78 c79 c80 c81 c82 y:=by kernel_rfl
noncomputable def r15:F15:=m15 r78 r79 r80 r81 r82
theorem k15:KO (g15 r15):=fk (s15 r78 r79 r80 r81 r82) ⟨k78,k79,k80,k81,k82,⟨⟩⟩ (by kernel_rfl)
abbrev i86:Ts:=[.v (.sl false .i)]
abbrev o86:Ts:=[.v (.sl true .i)]
abbrev F86:=FT i86 o86
abbrev g86:=mkG 86 i86 o86
abbrev lc86_0:Ts:=[.v (.sl false .i)]
abbrev lb86_0:Ts:=[]
abbrev lv86_0:Ts:=[.v (.int .i64), .v (.sl true .i)]
abbrev lr86_0:Ts:=[]
abbrev R86_0:=Option (Sum (PTup lv86_0) (PTup lr86_0)×BTup lb86_0)
abbrev B86_0:=PTup lb86_0→PTup lv86_0→R86_0
abbrev A86_0:=PTup lc86_0→B86_0
noncomputable def w86_0 (again:B86_0) (x:PTup lc86_0) (y:PTup lb86_0) (z:PTup lv86_0):R86_0:=
  bif (ltI z.1 (lenI x.1))then (bif (leI 0 z.1)then (bif (ltI z.1 (lenI x.1))then (bif (leI 0 z.1)then (bif (ltI z.1 (lenI z.2.1))then (again () ((wI (z.1+1)),((List.set z.2.1 (Int.toNat z.1) (rdE .i x.1 z.1)),())))
      else none)
     else none)
    else none)
   else none)
  else some ((Sum.inl z),())
noncomputable def e86_0 (l:A86_0):LoopE:=⟨[0],lc86_0,[],lb86_0,[4,3],lv86_0,[],lr86_0,0,[],l⟩
noncomputable def m86 (l0:A86_0) (y:PTup i86):Option (PTup o86×BTup i86):=
  bif (leN (Int.toNat (lenI y.1)) (E.most .i))then ((l0 y () ((0:Int),((List.replicate (Int.toNat (lenI y.1)) (0:Int)),()))).bind fun r0=>
   sumElim r0.1 (fun r1=>some (r1.2,()))
   (fun r1=>some (([],()),())))
  else none
noncomputable def E86 (l0:A86_0):CEnv:=⟨⟨Tryz.prog,fnsL []⟩,loopsL [(3,e86_0 l0)]⟩
theorem t86_0 (l0:A86_0) (again) (x y z):loopRound (E86 l0) (loopAt (bodyOf Tryz.f86) 0) (e86_0 l0) Tryz.f86.ntmps again x y z=w86_0 again x y z:=by kernel_rfl
noncomputable def n86_0:Nat→A86_0
  |0,_,_,_=>none
  |n+1,x,y,z=>w86_0 (fun y z=>n86_0 n x y z) x y z
theorem s86 (l0:A86_0) (y):tevF (E86 l0) Tryz.f86 i86 o86 y=m86 l0 y:=by kernel_rfl
noncomputable def L86_0:A86_0:=n86_0 fuel
noncomputable def r86:F86:=m86 L86_0
theorem k86:KO (g86 r86):=by
  have hE: ∀g f,(E86 L86_0).env.fns g=some f→CallOk Tryz.prog g f:=fnsL_ok trivial
  have h0:LoopOk Tryz.prog Tryz.f86.ntmps (loopAt (bodyOf Tryz.f86) 0) (e86_0 L86_0):=lp_ok (E:=E86 L86_0) rfl hE mixed (AllLoops.of_list (l:=[]) (by kernel_rfl) trivial) (n86_0) (fun _ _ _=>rfl) (fun n x y z=>t86_0 L86_0 _ x y z) rfl
  exact fn_ok (E:=E86 L86_0) rfl hE mixed (by kernel_rfl) (by kernel_rfl) (AllLoops.of_list (l:=[(loopAt (bodyOf Tryz.f86) 0)]) (by kernel_rfl) (.one (by kernel_rfl) h0 trivial)) (s86 L86_0)
abbrev i177:Ts:=[.v (.sl false .n)]
abbrev o177:Ts:=[.v (.sl true .n)]
abbrev F177:=FT i177 o177
abbrev g177:=mkG 177 i177 o177
abbrev lc177_0:Ts:=[.v (.sl false .n)]
abbrev lb177_0:Ts:=[]
abbrev lv177_0:Ts:=[.v (.int .i64), .v (.sl true .n)]
abbrev lr177_0:Ts:=[]
abbrev R177_0:=Option (Sum (PTup lv177_0) (PTup lr177_0)×BTup lb177_0)
abbrev B177_0:=PTup lb177_0→PTup lv177_0→R177_0
abbrev A177_0:=PTup lc177_0→B177_0
noncomputable def w177_0 (c86:F86) (again:B177_0) (x:PTup lc177_0) (y:PTup lb177_0) (z:PTup lv177_0):R177_0:=
  bif (ltI z.1 (lenI x.1))then (bif (leI 0 z.1)then (bif (ltI z.1 (lenI x.1))then ((c86 ((rdE .n x.1 z.1),())).bind fun r0=>
     bif (leI 0 z.1)then (bif (ltI z.1 (lenI z.2.1))then (again () ((wI (z.1+1)),((List.set z.2.1 (Int.toNat z.1) r0.1.1),())))
      else none)
     else none)
    else none)
   else none)
  else some ((Sum.inl z),())
noncomputable def e177_0 (l:A177_0):LoopE:=⟨[0],lc177_0,[],lb177_0,[4,3],lv177_0,[],lr177_0,0,[],l⟩
noncomputable def m177 (c86:F86) (l0:A177_0) (y:PTup i177):Option (PTup o177×BTup i177):=
  bif (leN (Int.toNat (lenI y.1)) (E.most .n))then ((l0 y () ((0:Int),((List.replicate (Int.toNat (lenI y.1)) []),()))).bind fun r0=>
   sumElim r0.1 (fun r1=>some (r1.2,()))
   (fun r1=>some (([],()),())))
  else none
noncomputable def E177 (c86:F86) (l0:A177_0):CEnv:=⟨⟨Tryz.prog,fnsL [g86 c86]⟩,loopsL [(3,e177_0 l0)]⟩
theorem t177_0 (c86:F86) (l0:A177_0) (again) (x y z):loopRound (E177 c86 l0) (loopAt (bodyOf Tryz.f177) 0) (e177_0 l0) Tryz.f177.ntmps again x y z=w177_0 c86 again x y z:=by kernel_rfl
noncomputable def n177_0 (c86:F86):Nat→A177_0
  |0,_,_,_=>none
  |n+1,x,y,z=>w177_0 c86 (fun y z=>n177_0 c86 n x y z) x y z
theorem s177 (c86:F86) (l0:A177_0) (y):tevF (E177 c86 l0) Tryz.f177 i177 o177 y=m177 c86 l0 y:=by kernel_rfl
noncomputable def L177_0:A177_0:=n177_0 r86 fuel
noncomputable def r177:F177:=m177 r86 L177_0
theorem k177:KO (g177 r177):=by
  have hE: ∀g f,(E177 r86 L177_0).env.fns g=some f→CallOk Tryz.prog g f:=fnsL_ok ⟨k86,⟨⟩⟩
  have h0:LoopOk Tryz.prog Tryz.f177.ntmps (loopAt (bodyOf Tryz.f177) 0) (e177_0 L177_0):=lp_ok (E:=E177 r86 L177_0) rfl hE mixed (AllLoops.of_list (l:=[]) (by kernel_rfl) trivial) (n177_0 r86) (fun _ _ _=>rfl) (fun n x y z=>t177_0 r86 L177_0 _ x y z) rfl
  exact fn_ok (E:=E177 r86 L177_0) rfl hE mixed (by kernel_rfl) (by kernel_rfl) (AllLoops.of_list (l:=[(loopAt (bodyOf Tryz.f177) 0)]) (by kernel_rfl) (.one (by kernel_rfl) h0 trivial)) (s177 r86 L177_0)
abbrev i85:Ts:=[.a q0]
abbrev o85:Ts:=[.a [.sl true .n]]
abbrev F85:=FT i85 o85
abbrev g85:=mkG 85 i85 o85
noncomputable def m85 (c177:F177) (y:PTup i85):Option (PTup o85×BTup i85):=
  (c177 y.1).bind fun r0=>
  some ((r0.1,()),())
theorem s85 (c177:F177) (y):TE [g177 c177] Tryz.f85 i85 o85 y=m85 c177 y:=by kernel_rfl
noncomputable def r85:F85:=m85 r177
theorem k85:KO (g85 r85):=fk (s85 r177) ⟨k177,⟨⟩⟩ (by kernel_rfl)
abbrev i87:Ts:=[.a q1]
abbrev o87:Ts:=[.a q7]
abbrev F87:=FT i87 o87
abbrev g87:=mkG 87 i87 o87
noncomputable def m87 (c86:F86) (y:PTup i87):Option (PTup o87×BTup i87):=
  (c86 (y.1.1,())).bind fun r0=>
  some (((r0.1.1,y.1.2),()),())
theorem s87 (c86:F86) (y):TE [g86 c86] Tryz.f87 i87 o87 y=m87 c86 y:=by kernel_rfl
noncomputable def r87:F87:=m87 r86
theorem k87:KO (g87 r87):=fk (s87 r86) ⟨k86,⟨⟩⟩ (by kernel_rfl)
abbrev i88:Ts:=[.a q8]
abbrev o88:Ts:=[.a q8]
abbrev F88:=FT i88 o88
abbrev g88:=mkG 88 i88 o88
noncomputable def m88 (y:PTup i88):Option (PTup o88×BTup i88):=
  some ((y.1,()),())
theorem s88 (y):TE [] Tryz.f88 i88 o88 y=m88 y:=by kernel_rfl
noncomputable def r88:F88:=m88
theorem k88:KO (g88 r88):=fk (s88) trivial (by kernel_rfl)
abbrev i89:Ts:=[.a q9]
abbrev o89:Ts:=[.a q9]
abbrev F89:=FT i89 o89
abbrev g89:=mkG 89 i89 o89
noncomputable def m89 (y:PTup i89):Option (PTup o89×BTup i89):=
  some ((y.1,()),())
theorem s89 (y):TE [] Tryz.f89 i89 o89 y=m89 y:=by kernel_rfl
noncomputable def r89:F89:=m89
theorem k89:KO (g89 r89):=fk (s89) trivial (by kernel_rfl)
abbrev i178:Ts:=[.a q2]
abbrev o178:Ts:=[.a q10]
abbrev F178:=FT i178 o178
abbrev g178:=mkG 178 i178 o178
noncomputable def m178 (c86:F86) (y:PTup i178):Option (PTup o178×BTup i178):=
  (c86 (y.1.2.2.2.2.2.2.1,())).bind fun r0=>
  (c86 y.1.2.2.2.2.2.2.2).bind fun r1=>
  some (((y.1.1,(y.1.2.1,(y.1.2.2.1,(y.1.2.2.2.1,(y.1.2.2.2.2.1,(y.1.2.2.2.2.2.1,(r0.1.1,r1.1))))))),()),())
theorem s178 (c86:F86) (y):TE [g86 c86] Tryz.f178 i178 o178 y=m178 c86 y:=by kernel_rfl
noncomputable def r178:F178:=m178 r86
theorem k178:KO (g178 r178):=fk (s178 r86) ⟨k86,⟨⟩⟩ (by kernel_rfl)
abbrev i302:Ts:=[.a q11]
abbrev o302:Ts:=[.a q11]
abbrev F302:=FT i302 o302
abbrev g302:=mkG 302 i302 o302
noncomputable def m302 (y:PTup i302):Option (PTup o302×BTup i302):=
  some ((y.1,()),())
theorem s302 (y):TE [] Tryz.f302 i302 o302 y=m302 y:=by kernel_rfl
noncomputable def r302:F302:=m302
theorem k302:KO (g302 r302):=fk (s302) trivial (by kernel_rfl)
abbrev i254:Ts:=[.v (.sl false .t)]
abbrev o254:Ts:=[.v (.sl true .t)]
abbrev F254:=FT i254 o254
abbrev g254:=mkG 254 i254 o254
abbrev lc254_0:Ts:=[.v (.sl false .t)]
abbrev lb254_0:Ts:=[]
abbrev lv254_0:Ts:=[.v (.int .i64), .v (.sl true .t)]
abbrev lr254_0:Ts:=[]
abbrev R254_0:=Option (Sum (PTup lv254_0) (PTup lr254_0)×BTup lb254_0)
abbrev B254_0:=PTup lb254_0→PTup lv254_0→R254_0
abbrev A254_0:=PTup lc254_0→B254_0
noncomputable def w254_0 (c302:F302) (again:B254_0) (x:PTup lc254_0) (y:PTup lb254_0) (z:PTup lv254_0):R254_0:=
  bif (ltI z.1 (lenI x.1))then (bif (leI 0 z.1)then (bif (ltI z.1 (lenI x.1))then ((c302 (((rdE .t x.1 z.1).1,((rdE .t x.1 z.1).2.1,((rdE .t x.1 z.1).2.2,()))),())).bind fun r0=>
     bif (leI 0 z.1)then (bif (ltI z.1 (lenI z.2.1))then (again () ((wI (z.1+1)),((List.set z.2.1 (Int.toNat z.1) (r0.1.1.1,(r0.1.1.2.1,r0.1.1.2.2.1))),())))
      else none)
     else none)
    else none)
   else none)
  else some ((Sum.inl z),())
noncomputable def e254_0 (l:A254_0):LoopE:=⟨[0],lc254_0,[],lb254_0,[4,3],lv254_0,[],lr254_0,0,[],l⟩
noncomputable def m254 (c302:F302) (l0:A254_0) (y:PTup i254):Option (PTup o254×BTup i254):=
  bif (leN (Int.toNat (lenI y.1)) (E.most .t))then ((l0 y () ((0:Int),((List.replicate (Int.toNat (lenI y.1)) ((0:Int),((0:Int),(0:Int)))),()))).bind fun r0=>
   sumElim r0.1 (fun r1=>some (r1.2,()))
   (fun r1=>some (([],()),())))
  else none
noncomputable def E254 (c302:F302) (l0:A254_0):CEnv:=⟨⟨Tryz.prog,fnsL [g302 c302]⟩,loopsL [(3,e254_0 l0)]⟩
theorem t254_0 (c302:F302) (l0:A254_0) (again) (x y z):loopRound (E254 c302 l0) (loopAt (bodyOf Tryz.f254) 0) (e254_0 l0) Tryz.f254.ntmps again x y z=w254_0 c302 again x y z:=by kernel_rfl
noncomputable def n254_0 (c302:F302):Nat→A254_0
  |0,_,_,_=>none
  |n+1,x,y,z=>w254_0 c302 (fun y z=>n254_0 c302 n x y z) x y z
theorem s254 (c302:F302) (l0:A254_0) (y):tevF (E254 c302 l0) Tryz.f254 i254 o254 y=m254 c302 l0 y:=by kernel_rfl
noncomputable def L254_0:A254_0:=n254_0 r302 fuel
noncomputable def r254:F254:=m254 r302 L254_0
theorem k254:KO (g254 r254):=by
  have hE: ∀g f,(E254 r302 L254_0).env.fns g=some f→CallOk Tryz.prog g f:=fnsL_ok ⟨k302,⟨⟩⟩
  have h0:LoopOk Tryz.prog Tryz.f254.ntmps (loopAt (bodyOf Tryz.f254) 0) (e254_0 L254_0):=lp_ok (E:=E254 r302 L254_0) rfl hE mixed (AllLoops.of_list (l:=[]) (by kernel_rfl) trivial) (n254_0 r302) (fun _ _ _=>rfl) (fun n x y z=>t254_0 r302 L254_0 _ x y z) rfl
  exact fn_ok (E:=E254 r302 L254_0) rfl hE mixed (by kernel_rfl) (by kernel_rfl) (AllLoops.of_list (l:=[(loopAt (bodyOf Tryz.f254) 0)]) (by kernel_rfl) (.one (by kernel_rfl) h0 trivial)) (s254 r302 L254_0)
abbrev i179:Ts:=[.a q3]
abbrev o179:Ts:=[.a [.int .i64, .sl true .t]]
abbrev F179:=FT i179 o179
abbrev g179:=mkG 179 i179 o179
noncomputable def m179 (c254:F254) (y:PTup i179):Option (PTup o179×BTup i179):=
  (c254 y.1.2).bind fun r0=>
  some (((y.1.1,r0.1),()),())
theorem s179 (c254:F254) (y):TE [g254 c254] Tryz.f179 i179 o179 y=m179 c254 y:=by kernel_rfl
noncomputable def r179:F179:=m179 r254
theorem k179:KO (g179 r179):=fk (s179 r254) ⟨k254,⟨⟩⟩ (by kernel_rfl)
abbrev i90:Ts:=[.a q4]
abbrev o90:Ts:=[.a [.int .i64, .int .i64, .int .i64, .int .i64, .int .i64, .bool, .sl true .i, .sl true .i, .int .i64, .sl true .t, .sl true .n]]
abbrev F90:=FT i90 o90
abbrev g90:=mkG 90 i90 o90
noncomputable def m90 (c177:F177) (c178:F178) (c179:F179) (y:PTup i90):Option (PTup o90×BTup i90):=
  (c178 ((y.1.1,(y.1.2.1,(y.1.2.2.1,(y.1.2.2.2.1,(y.1.2.2.2.2.1,(y.1.2.2.2.2.2.1,(y.1.2.2.2.2.2.2.1,(y.1.2.2.2.2.2.2.2.1,())))))))),())).bind fun r0=>
  (c179 ((y.1.2.2.2.2.2.2.2.2.1,(y.1.2.2.2.2.2.2.2.2.2.1,())),())).bind fun r1=>
  (c177 y.1.2.2.2.2.2.2.2.2.2.2).bind fun r2=>
  some (((r0.1.1.1,(r0.1.1.2.1,(r0.1.1.2.2.1,(r0.1.1.2.2.2.1,(r0.1.1.2.2.2.2.1,(r0.1.1.2.2.2.2.2.1,(r0.1.1.2.2.2.2.2.2.1,(r0.1.1.2.2.2.2.2.2.2.1,(r1.1.1.1,(r1.1.1.2.1,r2.1)))))))))),()),())
theorem s90 (c177:F177) (c178:F178) (c179:F179) (y):TE [g177 c177,g178 c178,g179 c179] Tryz.f90 i90 o90 y=m90 c177 c178 c179 y:=by kernel_rfl
noncomputable def r90:F90:=m90 r177 r178 r179
theorem k90:KO (g90 r90):=fk (s90 r177 r178 r179) ⟨k177,k178,k179,⟨⟩⟩ (by kernel_rfl)
abbrev i180:Ts:=[.a q12]
abbrev o180:Ts:=[.a q12]
abbrev F180:=FT i180 o180
abbrev g180:=mkG 180 i180 o180
noncomputable def m180 (y:PTup i180):Option (PTup o180×BTup i180):=
  some ((y.1,()),())
theorem s180 (y):TE [] Tryz.f180 i180 o180 y=m180 y:=by kernel_rfl
noncomputable def r180:F180:=m180
theorem k180:KO (g180 r180):=fk (s180) trivial (by kernel_rfl)
abbrev i91:Ts:=[.a q5]
abbrev o91:Ts:=[.a [.int .i64, .int .i64, .int .i64, .int .i64, .int .i64, .bool, .bool, .int .i64, .sl true .t, .sl true .i]]
abbrev F91:=FT i91 o91
abbrev g91:=mkG 91 i91 o91
noncomputable def m91 (c180:F180) (c86:F86) (c179:F179) (y:PTup i91):Option (PTup o91×BTup i91):=
  (c180 ((y.1.1,(y.1.2.1,(y.1.2.2.1,(y.1.2.2.2.1,(y.1.2.2.2.2.1,(y.1.2.2.2.2.2.1,(y.1.2.2.2.2.2.2.1,()))))))),())).bind fun r0=>
  (c179 ((y.1.2.2.2.2.2.2.2.1,(y.1.2.2.2.2.2.2.2.2.1,())),())).bind fun r1=>
  (c86 y.1.2.2.2.2.2.2.2.2.2).bind fun r2=>
  some (((r0.1.1.1,(r0.1.1.2.1,(r0.1.1.2.2.1,(r0.1.1.2.2.2.1,(r0.1.1.2.2.2.2.1,(r0.1.1.2.2.2.2.2.1,(r0.1.1.2.2.2.2.2.2.1,(r1.1.1.1,(r1.1.1.2.1,r2.1))))))))),()),())
theorem s91 (c180:F180) (c86:F86) (c179:F179) (y):TE [g180 c180,g86 c86,g179 c179] Tryz.f91 i91 o91 y=m91 c180 c86 c179 y:=by kernel_rfl
noncomputable def r91:F91:=m91 r180 r86 r179
theorem k91:KO (g91 r91):=fk (s91 r180 r86 r179) ⟨k180,k86,k179,⟨⟩⟩ (by kernel_rfl)
abbrev i17:Ts:=[.a q6]
abbrev o17:Ts:=[.a [.sl true .n, .sl true .i, .sl true .i, .int .i64, .int .i64, .int .i64, .int .i64, .int .i64, .bool, .bool, .bool, .bool, .bool, .int .i64, .int .i64, .bool, .int .i64, .bool, .int .i64, .int .i64, .sl true .i, .int .i64, .int .i64, .int .i64, .int .i64, .int .i64, .bool, .sl true .i, .sl true .i, .int .i64, .sl true .t, .sl true .n, .int .i64, .int .i64, .int .i64, .int .i64, .int .i64, .bool, .bool, .int .i64, .sl true .t, .sl true .i]]
abbrev F17:=FT i17 o17
abbrev g17:=mkG 17 i17 o17
noncomputable def m17 (c88:F88) (c85:F85) (c86:F86) (c87:F87) (c89:F89) (c90:F90) (c91:F91) (y:PTup i17):Option (PTup o17×BTup i17):=
  let a0:=y.1;let a1:=a0.2;let a2:=a1.2;let a3:=a2.2;let a4:=a3.2;let a5:=a4.2;let a6:=a5.2;let a7:=a6.2;let a8:=a7.2;let a9:=a8.2;let a10:=a9.2;let a11:=a10.2;let a12:=a11.2;let a13:=a12.2;let a14:=a13.2;let a15:=a14.2;let a16:=a15.2;let a17:=a16.2;let a18:=a17.2;let a19:=a18.2;let a20:=a19.2;let a21:=a20.2;let a22:=a21.2;let a23:=a22.2;let a24:=a23.2.2;let a25:=a24.2.2;(c85 ((a0.1,()),())).bind fun r0=>
  (c86 (a1.1,())).bind fun r1=>
  (c87 ((a2.1,(a3.1,())),())).bind fun r2=>
  (c88 ((a4.1,(a5.1,(a6.1,(a7.1,(a8.1,(a9.1,(a10.1,(a11.1,())))))))),())).bind fun r3=>
  (c89 ((a12.1,(a13.1,())),())).bind fun r4=>
  (c86 (a20.1,())).bind fun r5=>
  (c90 ((a21.1,(a22.1,(a23.1,(a23.2.1,(a24.1,(a24.2.1,(a25.1,(a25.2.1,(a25.2.2.1,(a25.2.2.2.1,(a25.2.2.2.2.1,()))))))))))),())).bind fun r6=>
  (c91 (a25.2.2.2.2.2,())).bind fun r7=>
  some (((r0.1.1.1,(r1.1.1,(r2.1.1.1,(r2.1.1.2.1,(r3.1.1.1,(r3.1.1.2.1,(r3.1.1.2.2.1,(r3.1.1.2.2.2.1,(r3.1.1.2.2.2.2.1,(r3.1.1.2.2.2.2.2.1,(r3.1.1.2.2.2.2.2.2.1,(r3.1.1.2.2.2.2.2.2.2.1,(r4.1.1.1,(r4.1.1.2.1,(a14.1,(a15.1,(a16.1,(a17.1,(a18.1,(a19.1,(r5.1.1,(r6.1.1.1,(r6.1.1.2.1,(r6.1.1.2.2.1,(r6.1.1.2.2.2.1,(r6.1.1.2.2.2.2.1,(r6.1.1.2.2.2.2.2.1,(r6.1.1.2.2.2.2.2.2.1,(r6.1.1.2.2.2.2.2.2.2.1,(r6.1.1.2.2.2.2.2.2.2.2.1,(r6.1.1.2.2.2.2.2.2.2.2.2.1,(r6.1.1.2.2.2.2.2.2.2.2.2.2.1,r7.1.1)))))))))))))))))))))))))))))))),()),())
theorem s17 (c88:F88) (c85:F85) (c86:F86) (c87:F87) (c89:F89) (c90:F90) (c91:F91) (y):TE [g88 c88,g85 c85,g86 c86,g87 c87,g89 c89,g90 c90,g91 c91] Tryz.f17 i17 o17 y=m17 c88 c85 c86 c87 c89 c90 c91 y:=by kernel_rfl
noncomputable def r17:F17:=m17 r88 r85 r86 r87 r89 r90 r91
theorem k17:KO (g17 r17):=fk (s17 r88 r85 r86 r87 r89 r90 r91) ⟨k88,k85,k86,k87,k89,k90,k91,⟨⟩⟩ (by kernel_rfl)
abbrev i125:Ts:=[.v (.int .i64), .v (.int .i64), .v (.int .i64)]
abbrev o125:Ts:=[.v (.bool)]
abbrev F125:=FT i125 o125
abbrev g125:=mkG 125 i125 o125
noncomputable def m125 (y:PTup i125):Option (PTup o125×BTup i125):=
  bif (leI y.2.1 y.1)then (some (((leI y.1 y.2.2.1),()),()))
  else no
theorem s125 (y):TE [] Tryz.f125 i125 o125 y=m125 y:=by kernel_rfl
noncomputable def r125:F125:=m125
theorem k125:KO (g125 r125):=fk (s125) trivial (by kernel_rfl)
abbrev i124:Ts:=[.v (.int .i64)]
abbrev o124:Ts:=[.v (.bool)]
abbrev F124:=FT i124 o124
abbrev g124:=mkG 124 i124 o124
noncomputable def m124 (c125:F125) (y:PTup i124):Option (PTup o124×BTup i124):=
  (c125 (y.1,((0:Int),((255:Int),())))).bind fun r0=>
  some (r0.1,())
theorem s124 (c125:F125) (y):TE [g125 c125] Tryz.f124 i124 o124 y=m124 c125 y:=by kernel_rfl
noncomputable def r124:F124:=m124 r125
theorem k124:KO (g124 r124):=fk (s124 r125) ⟨k125,⟨⟩⟩ (by kernel_rfl)
abbrev i119:Ts:=[.v (.sl false .i)]
abbrev o119:Ts:=[.v (.bool)]
abbrev F119:=FT i119 o119
abbrev g119:=mkG 119 i119 o119
abbrev lc119_0:Ts:=[.v (.sl false .i)]
abbrev lb119_0:Ts:=[]
abbrev lv119_0:Ts:=[.v (.int .i64)]
abbrev lr119_0:Ts:=[.v (.bool)]
abbrev R119_0:=Option (Sum (PTup lv119_0) (PTup lr119_0)×BTup lb119_0)
abbrev B119_0:=PTup lb119_0→PTup lv119_0→R119_0
abbrev A119_0:=PTup lc119_0→B119_0
noncomputable def w119_0 (c124:F124) (again:B119_0) (x:PTup lc119_0) (y:PTup lb119_0) (z:PTup lv119_0):R119_0:=
  bif (ltI z.1 (lenI x.1))then (bif (leI 0 z.1)then (bif (ltI z.1 (lenI x.1))then ((c124 ((rdE .i x.1 z.1),())).bind fun r0=>
     bif (!r0.1.1)then (some ((Sum.inr (false,())),()))
     else again () ((wI (z.1+1)),()))
    else none)
   else none)
  else some ((Sum.inl z),())
noncomputable def e119_0 (l:A119_0):LoopE:=⟨[0],lc119_0,[],lb119_0,[3],lv119_0,[2],lr119_0,0,[],l⟩
noncomputable def m119 (c124:F124) (l0:A119_0) (y:PTup i119):Option (PTup o119×BTup i119):=
  (l0 y () ((0:Int),())).bind fun r0=>
  sumElim r0.1 (fun r1=>some (((leI (lenI y.1) 20),()),()))
  (fun r1=>some (r1,()))
noncomputable def E119 (c124:F124) (l0:A119_0):CEnv:=⟨⟨Tryz.prog,fnsL [g124 c124]⟩,loopsL [(2,e119_0 l0)]⟩
theorem t119_0 (c124:F124) (l0:A119_0) (again) (x y z):loopRound (E119 c124 l0) (loopAt (bodyOf Tryz.f119) 0) (e119_0 l0) Tryz.f119.ntmps again x y z=w119_0 c124 again x y z:=by kernel_rfl
noncomputable def n119_0 (c124:F124):Nat→A119_0
  |0,_,_,_=>none
  |n+1,x,y,z=>w119_0 c124 (fun y z=>n119_0 c124 n x y z) x y z
theorem s119 (c124:F124) (l0:A119_0) (y):tevF (E119 c124 l0) Tryz.f119 i119 o119 y=m119 c124 l0 y:=by kernel_rfl
noncomputable def L119_0:A119_0:=n119_0 r124 fuel
noncomputable def r119:F119:=m119 r124 L119_0
theorem k119:KO (g119 r119):=by
  have hE: ∀g f,(E119 r124 L119_0).env.fns g=some f→CallOk Tryz.prog g f:=fnsL_ok ⟨k124,⟨⟩⟩
  have h0:LoopOk Tryz.prog Tryz.f119.ntmps (loopAt (bodyOf Tryz.f119) 0) (e119_0 L119_0):=lp_ok (E:=E119 r124 L119_0) rfl hE mixed (AllLoops.of_list (l:=[]) (by kernel_rfl) trivial) (n119_0 r124) (fun _ _ _=>rfl) (fun n x y z=>t119_0 r124 L119_0 _ x y z) rfl
  exact fn_ok (E:=E119 r124 L119_0) rfl hE mixed (by kernel_rfl) (by kernel_rfl) (AllLoops.of_list (l:=[(loopAt (bodyOf Tryz.f119) 0)]) (by kernel_rfl) (.one (by kernel_rfl) h0 trivial)) (s119 r124 L119_0)
abbrev i193:Ts:=[.a q0]
abbrev o193:Ts:=[.v (.bool)]
abbrev F193:=FT i193 o193
abbrev g193:=mkG 193 i193 o193
abbrev lc193_0:Ts:=[.v (.int .i64)]
abbrev lb193_0:Ts:=[.p q0]
abbrev lv193_0:Ts:=[.v (.int .i64)]
abbrev lr193_0:Ts:=[.v (.bool)]
abbrev R193_0:=Option (Sum (PTup lv193_0) (PTup lr193_0)×BTup lb193_0)
abbrev B193_0:=PTup lb193_0→PTup lv193_0→R193_0
abbrev A193_0:=PTup lc193_0→B193_0
noncomputable def w193_0 (c125:F125) (again:B193_0) (x:PTup lc193_0) (y:PTup lb193_0) (z:PTup lv193_0):R193_0:=
  bif (ltI z.1 256)then (bif (leI 0 x.1)then (bif (ltI x.1 (lenI y.1.1))then (bif (leI 0 z.1)then (bif (ltI z.1 (lenI (rdE .n y.1.1 x.1)))then ((c125 ((rdI (rdE .n y.1.1 x.1) z.1),((0:Int),((255:Int),())))).bind fun r0=>
       bif (!r0.1.1)then (some ((Sum.inr (false,())),(y.1,())))
       else again (y.1,()) ((wI (z.1+1)),()))
      else none)
     else none)
    else none)
   else none)
  else some ((Sum.inl z),(y.1,()))
noncomputable def e193_0 (l:A193_0):LoopE:=⟨[3],lc193_0,[1],lb193_0,[4],lv193_0,[2],lr193_0,2,[],l⟩
abbrev lc193_1:Ts:=[]
abbrev lb193_1:Ts:=[.p q0]
abbrev lv193_1:Ts:=[.v (.int .i64)]
abbrev lr193_1:Ts:=[.v (.bool)]
abbrev R193_1:=Option (Sum (PTup lv193_1) (PTup lr193_1)×BTup lb193_1)
abbrev B193_1:=PTup lb193_1→PTup lv193_1→R193_1
abbrev A193_1:=PTup lc193_1→B193_1
noncomputable def w193_1 (c125:F125) (l0:A193_0) (again:B193_1) (x:PTup lc193_1) (y:PTup lb193_1) (z:PTup lv193_1):R193_1:=
  bif (ltI z.1 (lenI y.1.1))then (bif (leI 0 z.1)then (bif (ltI z.1 (lenI y.1.1))then (bif (neI (lenI (rdE .n y.1.1 z.1)) (256:Int))then (some ((Sum.inr (false,())),(y.1,())))
     else (l0 z (y.1,()) ((0:Int),())).bind fun r0=>
     sumElim r0.1 (fun r1=>again (y.1,()) ((wI (z.1+1)),()))
     (fun r1=>some ((Sum.inr r1),(y.1,()))))
    else none)
   else none)
  else some ((Sum.inl z),(y.1,()))
noncomputable def e193_1 (l:A193_1):LoopE:=⟨[],lc193_1,[1],lb193_1,[3],lv193_1,[2],lr193_1,0,[],l⟩
noncomputable def m193 (c125:F125) (l0:A193_0) (l1:A193_1) (y:PTup i193):Option (PTup o193×BTup i193):=
  (l1 () (y.1,()) ((0:Int),())).bind fun r0=>
  sumElim r0.1 (fun r1=>(c125 ((lenI y.1.1),((1:Int),((8:Int),())))).bind fun r2=>
   some (r2.1,()))
  (fun r1=>some (r1,()))
noncomputable def E193 (c125:F125) (l0:A193_0) (l1:A193_1):CEnv:=⟨⟨Tryz.prog,fnsL [g125 c125]⟩,loopsL [(7,e193_0 l0),(2,e193_1 l1)]⟩
theorem t193_0 (c125:F125) (l0:A193_0) (l1:A193_1) (again) (x y z):loopRound (E193 c125 l0 l1) (loopAt (loopAt (bodyOf Tryz.f193) 0) 0) (e193_0 l0) Tryz.f193.ntmps again x y z=w193_0 c125 again x y z:=by kernel_rfl
noncomputable def n193_0 (c125:F125):Nat→A193_0
  |0,_,_,_=>none
  |n+1,x,y,z=>w193_0 c125 (fun y z=>n193_0 c125 n x y z) x y z
theorem t193_1 (c125:F125) (l0:A193_0) (l1:A193_1) (again) (x y z):loopRound (E193 c125 l0 l1) (loopAt (bodyOf Tryz.f193) 0) (e193_1 l1) Tryz.f193.ntmps again x y z=w193_1 c125 l0 again x y z:=by kernel_rfl
noncomputable def n193_1 (c125:F125) (l0:A193_0):Nat→A193_1
  |0,_,_,_=>none
  |n+1,x,y,z=>w193_1 c125 l0 (fun y z=>n193_1 c125 l0 n x y z) x y z
theorem s193 (c125:F125) (l0:A193_0) (l1:A193_1) (y):tevF (E193 c125 l0 l1) Tryz.f193 i193 o193 y=m193 c125 l0 l1 y:=by kernel_rfl
noncomputable def L193_0:A193_0:=n193_0 r125 fuel
noncomputable def L193_1:A193_1:=n193_1 r125 L193_0 fuel
noncomputable def r193:F193:=m193 r125 L193_0 L193_1
theorem k193:KO (g193 r193):=by
  have hE: ∀g f,(E193 r125 L193_0 L193_1).env.fns g=some f→CallOk Tryz.prog g f:=fnsL_ok ⟨k125,⟨⟩⟩
  have h0:LoopOk Tryz.prog Tryz.f193.ntmps (loopAt (loopAt (bodyOf Tryz.f193) 0) 0) (e193_0 L193_0):=lp_ok (E:=E193 r125 L193_0 L193_1) rfl hE mixed (AllLoops.of_list (l:=[]) (by kernel_rfl) trivial) (n193_0 r125) (fun _ _ _=>rfl) (fun n x y z=>t193_0 r125 L193_0 L193_1 _ x y z) rfl
  have h1:LoopOk Tryz.prog Tryz.f193.ntmps (loopAt (bodyOf Tryz.f193) 0) (e193_1 L193_1):=lp_ok (E:=E193 r125 L193_0 L193_1) rfl hE mixed (AllLoops.of_list (l:=[(loopAt (loopAt (bodyOf Tryz.f193) 0) 0)]) (by kernel_rfl) (.one (by kernel_rfl) h0 trivial)) (n193_1 r125 L193_0) (fun _ _ _=>rfl) (fun n x y z=>t193_1 r125 L193_0 L193_1 _ x y z) rfl
  exact fn_ok (E:=E193 r125 L193_0 L193_1) rfl hE mixed (by kernel_rfl) (by kernel_rfl) (AllLoops.of_list (l:=[(loopAt (bodyOf Tryz.f193) 0)]) (by kernel_rfl) (.one (by kernel_rfl) h1 trivial)) (s193 r125 L193_0 L193_1)
abbrev i120:Ts:=[.a q0, .a q1]
abbrev o120:Ts:=[.v (.bool)]
abbrev F120:=FT i120 o120
abbrev g120:=mkG 120 i120 o120
abbrev lc120_0:Ts:=[]
abbrev lb120_0:Ts:=[.p q1]
abbrev lv120_0:Ts:=[.v (.int .i64)]
abbrev lr120_0:Ts:=[.v (.bool)]
abbrev R120_0:=Option (Sum (PTup lv120_0) (PTup lr120_0)×BTup lb120_0)
abbrev B120_0:=PTup lb120_0→PTup lv120_0→R120_0
abbrev A120_0:=PTup lc120_0→B120_0
noncomputable def w120_0 (c193:F193) (c125:F125) (c124:F124) (again:B120_0) (x:PTup lc120_0) (y:PTup lb120_0) (z:PTup lv120_0):R120_0:=
  bif (ltI z.1 512)then (bif (leI 0 z.1)then (bif (ltI z.1 (lenI y.1.1))then ((c124 ((rdE .i y.1.1 z.1),())).bind fun r0=>
     bif (!r0.1.1)then (some ((Sum.inr (false,())),(y.1,())))
     else again (y.1,()) ((wI (z.1+1)),()))
    else none)
   else none)
  else some ((Sum.inl z),(y.1,()))
noncomputable def e120_0 (l:A120_0):LoopE:=⟨[],lc120_0,[3],lb120_0,[5],lv120_0,[4],lr120_0,0,[],l⟩
noncomputable def m120 (c193:F193) (c125:F125) (c124:F124) (l0:A120_0) (y:PTup i120):Option (PTup o120×BTup i120):=
  (c193 (y.1,())).bind fun r0=>
  bif (!r0.1.1)then no
  else bif (neI (lenI y.2.1.1) 512)then no
  else (c125 (y.2.1.2.1,((0:Int),((wI ((lenI y.1.1)-1)),())))).bind fun r1=>
  bif (!r1.1.1)then no
  else (l0 () (y.2.1,()) ((0:Int),())).bind fun r2=>
  sumElim r2.1 (fun r3=>some ((true,()),()))
  (fun r3=>some (r3,()))
noncomputable def E120 (c193:F193) (c125:F125) (c124:F124) (l0:A120_0):CEnv:=⟨⟨Tryz.prog,fnsL [g193 c193,g125 c125,g124 c124]⟩,loopsL [(4,e120_0 l0)]⟩
theorem t120_0 (c193:F193) (c125:F125) (c124:F124) (l0:A120_0) (again) (x y z):loopRound (E120 c193 c125 c124 l0) (loopAt (bodyOf Tryz.f120) 0) (e120_0 l0) Tryz.f120.ntmps again x y z=w120_0 c193 c125 c124 again x y z:=by kernel_rfl
noncomputable def n120_0 (c193:F193) (c125:F125) (c124:F124):Nat→A120_0
  |0,_,_,_=>none
  |n+1,x,y,z=>w120_0 c193 c125 c124 (fun y z=>n120_0 c193 c125 c124 n x y z) x y z
theorem s120 (c193:F193) (c125:F125) (c124:F124) (l0:A120_0) (y):tevF (E120 c193 c125 c124 l0) Tryz.f120 i120 o120 y=m120 c193 c125 c124 l0 y:=by kernel_rfl
noncomputable def L120_0:A120_0:=n120_0 r193 r125 r124 fuel
noncomputable def r120:F120:=m120 r193 r125 r124 L120_0
theorem k120:KO (g120 r120):=by
  have hE: ∀g f,(E120 r193 r125 r124 L120_0).env.fns g=some f→CallOk Tryz.prog g f:=fnsL_ok ⟨k193,k125,k124,⟨⟩⟩
  have h0:LoopOk Tryz.prog Tryz.f120.ntmps (loopAt (bodyOf Tryz.f120) 0) (e120_0 L120_0):=lp_ok (E:=E120 r193 r125 r124 L120_0) rfl hE mixed (AllLoops.of_list (l:=[]) (by kernel_rfl) trivial) (n120_0 r193 r125 r124) (fun _ _ _=>rfl) (fun n x y z=>t120_0 r193 r125 r124 L120_0 _ x y z) rfl
  exact fn_ok (E:=E120 r193 r125 r124 L120_0) rfl hE mixed (by kernel_rfl) (by kernel_rfl) (AllLoops.of_list (l:=[(loopAt (bodyOf Tryz.f120) 0)]) (by kernel_rfl) (.one (by kernel_rfl) h0 trivial)) (s120 r193 r125 r124 L120_0)
abbrev i121:Ts:=[.a q8]
abbrev o121:Ts:=[.v (.bool)]
abbrev F121:=FT i121 o121
abbrev g121:=mkG 121 i121 o121
noncomputable def m121 (c125:F125) (c124:F124) (y:PTup i121):Option (PTup o121×BTup i121):=
  (c124 (y.1.1,())).bind fun r0=>
  bif r0.1.1 then ((c124 (y.1.2.1,())).bind fun r1=>
   bif r1.1.1 then ((c124 (y.1.2.2.1,())).bind fun r2=>
    bif r2.1.1 then ((c125 (y.1.2.2.2.1,((0:Int),((65535:Int),())))).bind fun r3=>
     some (r3.1,()))
    else no)
   else no)
  else no
theorem s121 (c125:F125) (c124:F124) (y):TE [g125 c125,g124 c124] Tryz.f121 i121 o121 y=m121 c125 c124 y:=by kernel_rfl
noncomputable def r121:F121:=m121 r125 r124
theorem k121:KO (g121 r121):=fk (s121 r125 r124) ⟨k125,k124,⟨⟩⟩ (by kernel_rfl)
abbrev i223:Ts:=[.v (.int .i64)]
abbrev o223:Ts:=[.v (.int .i64)]
abbrev F223:=FT i223 o223
abbrev g223:=mkG 223 i223 o223
noncomputable def m223 (y:PTup i223):Option (PTup o223×BTup i223):=
  bif (ltI 48 (Int.tmod y.1 64))then (some (((0:Int),()),()))
  else some (((Int.tmod y.1 64),()),())
theorem s223 (y):TE [] Tryz.f223 i223 o223 y=m223 y:=by kernel_rfl
noncomputable def r223:F223:=m223
theorem k223:KO (g223 r223):=fk (s223) trivial (by kernel_rfl)
abbrev i153:Ts:=[.a q2]
abbrev o153:Ts:=[.v (.bool)]
abbrev F153:=FT i153 o153
abbrev g153:=mkG 153 i153 o153
abbrev lc153_0:Ts:=[]
abbrev lb153_0:Ts:=[.p q2]
abbrev lv153_0:Ts:=[.v (.int .i64)]
abbrev lr153_0:Ts:=[.v (.bool)]
abbrev R153_0:=Option (Sum (PTup lv153_0) (PTup lr153_0)×BTup lb153_0)
abbrev B153_0:=PTup lb153_0→PTup lv153_0→R153_0
abbrev A153_0:=PTup lc153_0→B153_0
noncomputable def w153_0 (c125:F125) (c124:F124) (c223:F223) (again:B153_0) (x:PTup lc153_0) (y:PTup lb153_0) (z:PTup lv153_0):R153_0:=
  bif (ltI z.1 (lenI y.1.2.2.2.2.2.2.2.1))then (bif (leI 0 z.1)then (bif (ltI z.1 (lenI y.1.2.2.2.2.2.2.2.1))then ((c125 ((rdE .i y.1.2.2.2.2.2.2.2.1 z.1),((0:Int),((63:Int),())))).bind fun r0=>
     bif (!r0.1.1)then (some ((Sum.inr (false,())),(y.1,())))
     else again (y.1,()) ((wI (z.1+1)),()))
    else none)
   else none)
  else some ((Sum.inl z),(y.1,()))
noncomputable def e153_0 (l:A153_0):LoopE:=⟨[],lc153_0,[1],lb153_0,[4],lv153_0,[2],lr153_0,2,[],l⟩
abbrev lc153_1:Ts:=[]
abbrev lb153_1:Ts:=[.p q2]
abbrev lv153_1:Ts:=[.v (.int .i64)]
abbrev lr153_1:Ts:=[.v (.bool)]
abbrev R153_1:=Option (Sum (PTup lv153_1) (PTup lr153_1)×BTup lb153_1)
abbrev B153_1:=PTup lb153_1→PTup lv153_1→R153_1
abbrev A153_1:=PTup lc153_1→B153_1
noncomputable def w153_1 (c125:F125) (c124:F124) (c223:F223) (l0:A153_0) (again:B153_1) (x:PTup lc153_1) (y:PTup lb153_1) (z:PTup lv153_1):R153_1:=
  bif (ltI z.1 16)then (bif (leI 0 z.1)then (bif (ltI z.1 (lenI y.1.2.2.2.2.2.2.1))then ((c125 ((rdE .i y.1.2.2.2.2.2.2.1 z.1),((0:Int),((63:Int),())))).bind fun r0=>
     bif (!r0.1.1)then (some ((Sum.inr (false,())),(y.1,())))
     else again (y.1,()) ((wI (z.1+1)),()))
    else none)
   else none)
  else some ((Sum.inl z),(y.1,()))
noncomputable def e153_1 (l:A153_1):LoopE:=⟨[],lc153_1,[1],lb153_1,[3],lv153_1,[2],lr153_1,0,[],l⟩
noncomputable def m153 (c125:F125) (c124:F124) (c223:F223) (l0:A153_0) (l1:A153_1) (y:PTup i153):Option (PTup o153×BTup i153):=
  (c125 (y.1.1,((0:Int),((20000:Int),())))).bind fun r0=>
  bif (!r0.1.1)then no
  else (c124 (y.1.2.1,())).bind fun r1=>
  bif (!r1.1.1)then no
  else (c124 (y.1.2.2.1,())).bind fun r2=>
  bif (!r2.1.1)then no
  else (c125 (y.1.2.2.2.1,((0:Int),((15:Int),())))).bind fun r3=>
  bif (!r3.1.1)then no
  else (c125 (y.1.2.2.2.2.1,((0:Int),((63:Int),())))).bind fun r4=>
  bif (!r4.1.1)then no
  else bif (neI (lenI y.1.2.2.2.2.2.2.1) 16)then no
  else (c223 (y.1.1,())).bind fun r5=>
  bif (neI (lenI y.1.2.2.2.2.2.2.2.1) r5.1.1)then no
  else (l1 () (y.1,()) ((0:Int),())).bind fun r6=>
  sumElim r6.1 (fun r7=>(l0 () ((r6.2.1.1,(r6.2.1.2.1,(r6.2.1.2.2.1,(r6.2.1.2.2.2.1,(r6.2.1.2.2.2.2.1,(r6.2.1.2.2.2.2.2.1,y.1.2.2.2.2.2.2)))))),()) ((0:Int),())).bind fun r8=>
   sumElim r8.1 (fun r9=>some ((true,()),()))
   (fun r9=>some (r9,())))
  (fun r7=>some (r7,()))
noncomputable def E153 (c125:F125) (c124:F124) (c223:F223) (l0:A153_0) (l1:A153_1):CEnv:=⟨⟨Tryz.prog,fnsL [g125 c125,g124 c124,g223 c223]⟩,loopsL [(9,e153_0 l0),(4,e153_1 l1)]⟩
theorem t153_0 (c125:F125) (c124:F124) (c223:F223) (l0:A153_0) (l1:A153_1) (again) (x y z):loopRound (E153 c125 c124 c223 l0 l1) (loopAt (bodyOf Tryz.f153) 1) (e153_0 l0) Tryz.f153.ntmps again x y z=w153_0 c125 c124 c223 again x y z:=by kernel_rfl
noncomputable def n153_0 (c125:F125) (c124:F124) (c223:F223):Nat→A153_0
  |0,_,_,_=>none
  |n+1,x,y,z=>w153_0 c125 c124 c223 (fun y z=>n153_0 c125 c124 c223 n x y z) x y z
theorem t153_1 (c125:F125) (c124:F124) (c223:F223) (l0:A153_0) (l1:A153_1) (again) (x y z):loopRound (E153 c125 c124 c223 l0 l1) (loopAt (bodyOf Tryz.f153) 0) (e153_1 l1) Tryz.f153.ntmps again x y z=w153_1 c125 c124 c223 l0 again x y z:=by kernel_rfl
noncomputable def n153_1 (c125:F125) (c124:F124) (c223:F223) (l0:A153_0):Nat→A153_1
  |0,_,_,_=>none
  |n+1,x,y,z=>w153_1 c125 c124 c223 l0 (fun y z=>n153_1 c125 c124 c223 l0 n x y z) x y z
theorem s153 (c125:F125) (c124:F124) (c223:F223) (l0:A153_0) (l1:A153_1) (y):tevF (E153 c125 c124 c223 l0 l1) Tryz.f153 i153 o153 y=m153 c125 c124 c223 l0 l1 y:=by kernel_rfl
noncomputable def L153_0:A153_0:=n153_0 r125 r124 r223 fuel
noncomputable def L153_1:A153_1:=n153_1 r125 r124 r223 L153_0 fuel
noncomputable def r153:F153:=m153 r125 r124 r223 L153_0 L153_1
theorem k153:KO (g153 r153):=by
  have hE: ∀g f,(E153 r125 r124 r223 L153_0 L153_1).env.fns g=some f→CallOk Tryz.prog g f:=fnsL_ok ⟨k125,k124,k223,⟨⟩⟩
  have h0:LoopOk Tryz.prog Tryz.f153.ntmps (loopAt (bodyOf Tryz.f153) 1) (e153_0 L153_0):=lp_ok (E:=E153 r125 r124 r223 L153_0 L153_1) rfl hE mixed (AllLoops.of_list (l:=[]) (by kernel_rfl) trivial) (n153_0 r125 r124 r223) (fun _ _ _=>rfl) (fun n x y z=>t153_0 r125 r124 r223 L153_0 L153_1 _ x y z) rfl
  have h1:LoopOk Tryz.prog Tryz.f153.ntmps (loopAt (bodyOf Tryz.f153) 0) (e153_1 L153_1):=lp_ok (E:=E153 r125 r124 r223 L153_0 L153_1) rfl hE mixed (AllLoops.of_list (l:=[]) (by kernel_rfl) trivial) (n153_1 r125 r124 r223 L153_0) (fun _ _ _=>rfl) (fun n x y z=>t153_1 r125 r124 r223 L153_0 L153_1 _ x y z) rfl
  exact fn_ok (E:=E153 r125 r124 r223 L153_0 L153_1) rfl hE mixed (by kernel_rfl) (by kernel_rfl) (AllLoops.of_list (l:=[(loopAt (bodyOf Tryz.f153) 0),(loopAt (bodyOf Tryz.f153) 1)]) (by kernel_rfl) (.one (by kernel_rfl) h1 (.one (by kernel_rfl) h0 trivial))) (s153 r125 r124 r223 L153_0 L153_1)
abbrev i194:Ts:=[.a q3]
abbrev o194:Ts:=[.v (.bool)]
abbrev F194:=FT i194 o194
abbrev g194:=mkG 194 i194 o194
abbrev lc194_0:Ts:=[]
abbrev lb194_0:Ts:=[.p q3]
abbrev lv194_0:Ts:=[.v (.int .i64)]
abbrev lr194_0:Ts:=[.v (.bool)]
abbrev R194_0:=Option (Sum (PTup lv194_0) (PTup lr194_0)×BTup lb194_0)
abbrev B194_0:=PTup lb194_0→PTup lv194_0→R194_0
abbrev A194_0:=PTup lc194_0→B194_0
noncomputable def w194_0 (c125:F125) (c124:F124) (again:B194_0) (x:PTup lc194_0) (y:PTup lb194_0) (z:PTup lv194_0):R194_0:=
  bif (ltI z.1 (lenI y.1.2.1))then (bif (leI 0 z.1)then (bif (ltI z.1 (lenI y.1.2.1))then ((c125 ((rdE .t y.1.2.1 z.1).1,((0:Int),((20000:Int),())))).bind fun r0=>
     bif (!r0.1.1)then (some ((Sum.inr (false,())),(y.1,())))
     else (c125 ((rdE .t y.1.2.1 z.1).2.1,((0:Int),((7:Int),())))).bind fun r1=>
     bif (!r1.1.1)then (some ((Sum.inr (false,())),(y.1,())))
     else (c124 ((rdE .t y.1.2.1 z.1).2.2,())).bind fun r2=>
     bif (!r2.1.1)then (some ((Sum.inr (false,())),(y.1,())))
     else bif (ltI 0 z.1)then (bif (leI 0 (wI (z.1-1)))then (bif (ltI (wI (z.1-1)) (lenI y.1.2.1))then (bif (ltI (rdE .t y.1.2.1 z.1).1 (rdE .t y.1.2.1 (wI (z.1-1))).1)then (some ((Sum.inr (false,())),(y.1,())))
        else again (y.1,()) ((wI (z.1+1)),()))
       else none)
      else none)
     else again (y.1,()) ((wI (z.1+1)),()))
    else none)
   else none)
  else some ((Sum.inl z),(y.1,()))
noncomputable def e194_0 (l:A194_0):LoopE:=⟨[],lc194_0,[1],lb194_0,[3],lv194_0,[2],lr194_0,0,[],l⟩
noncomputable def m194 (c125:F125) (c124:F124) (l0:A194_0) (y:PTup i194):Option (PTup o194×BTup i194):=
  (l0 () (y.1,()) ((0:Int),())).bind fun r0=>
  sumElim r0.1 (fun r1=>(c125 (r0.2.1.1,((1:Int),((16:Int),())))).bind fun r2=>
   bif r2.1.1 then (some (((leI (lenI y.1.2.1) r0.2.1.1),()),()))
   else no)
  (fun r1=>some (r1,()))
noncomputable def E194 (c125:F125) (c124:F124) (l0:A194_0):CEnv:=⟨⟨Tryz.prog,fnsL [g125 c125,g124 c124]⟩,loopsL [(2,e194_0 l0)]⟩
theorem t194_0 (c125:F125) (c124:F124) (l0:A194_0) (again) (x y z):loopRound (E194 c125 c124 l0) (loopAt (bodyOf Tryz.f194) 0) (e194_0 l0) Tryz.f194.ntmps again x y z=w194_0 c125 c124 again x y z:=by kernel_rfl
noncomputable def n194_0 (c125:F125) (c124:F124):Nat→A194_0
  |0,_,_,_=>none
  |n+1,x,y,z=>w194_0 c125 c124 (fun y z=>n194_0 c125 c124 n x y z) x y z
theorem s194 (c125:F125) (c124:F124) (l0:A194_0) (y):tevF (E194 c125 c124 l0) Tryz.f194 i194 o194 y=m194 c125 c124 l0 y:=by kernel_rfl
noncomputable def L194_0:A194_0:=n194_0 r125 r124 fuel
noncomputable def r194:F194:=m194 r125 r124 L194_0
theorem k194:KO (g194 r194):=by
  have hE: ∀g f,(E194 r125 r124 L194_0).env.fns g=some f→CallOk Tryz.prog g f:=fnsL_ok ⟨k125,k124,⟨⟩⟩
  have h0:LoopOk Tryz.prog Tryz.f194.ntmps (loopAt (bodyOf Tryz.f194) 0) (e194_0 L194_0):=lp_ok (E:=E194 r125 r124 L194_0) rfl hE mixed (AllLoops.of_list (l:=[]) (by kernel_rfl) trivial) (n194_0 r125 r124) (fun _ _ _=>rfl) (fun n x y z=>t194_0 r125 r124 L194_0 _ x y z) rfl
  exact fn_ok (E:=E194 r125 r124 L194_0) rfl hE mixed (by kernel_rfl) (by kernel_rfl) (AllLoops.of_list (l:=[(loopAt (bodyOf Tryz.f194) 0)]) (by kernel_rfl) (.one (by kernel_rfl) h0 trivial)) (s194 r125 r124 L194_0)
abbrev i224:Ts:=[.v (.int .i64)]
abbrev o224:Ts:=[.v (.int .i64)]
abbrev F224:=FT i224 o224
abbrev g224:=mkG 224 i224 o224
noncomputable def m224 (y:PTup i224):Option (PTup o224×BTup i224):=
  some (((wI (Int.tdiv (wI ((wI ((wI (y.1+64))-48))-1)) (64:Int))),()),())
theorem s224 (y):TE [] Tryz.f224 i224 o224 y=m224 y:=by kernel_rfl
noncomputable def r224:F224:=m224
theorem k224:KO (g224 r224):=fk (s224) trivial (by kernel_rfl)
abbrev i155:Ts:=[.v (.sl false .n), .v (.int .i64)]
abbrev o155:Ts:=[.v (.bool)]
abbrev F155:=FT i155 o155
abbrev g155:=mkG 155 i155 o155
abbrev lc155_0:Ts:=[.v (.sl false .n)]
abbrev lb155_0:Ts:=[]
abbrev lv155_0:Ts:=[.v (.int .i64)]
abbrev lr155_0:Ts:=[.v (.bool)]
abbrev R155_0:=Option (Sum (PTup lv155_0) (PTup lr155_0)×BTup lb155_0)
abbrev B155_0:=PTup lb155_0→PTup lv155_0→R155_0
abbrev A155_0:=PTup lc155_0→B155_0
noncomputable def w155_0 (c224:F224) (again:B155_0) (x:PTup lc155_0) (y:PTup lb155_0) (z:PTup lv155_0):R155_0:=
  bif (ltI z.1 (lenI x.1))then (bif (leI 0 z.1)then (bif (ltI z.1 (lenI x.1))then (bif (neI (lenI (rdE .n x.1 z.1)) (48:Int))then (some ((Sum.inr (false,())),()))
     else again () ((wI (z.1+1)),()))
    else none)
   else none)
  else some ((Sum.inl z),())
noncomputable def e155_0 (l:A155_0):LoopE:=⟨[0],lc155_0,[],lb155_0,[5],lv155_0,[4],lr155_0,0,[],l⟩
noncomputable def m155 (c224:F224) (l0:A155_0) (y:PTup i155):Option (PTup o155×BTup i155):=
  (l0 (y.1,()) () ((0:Int),())).bind fun r0=>
  sumElim r0.1 (fun r1=>(c224 y.2).bind fun r2=>
   some (((eqI (lenI y.1) r2.1.1),()),()))
  (fun r1=>some (r1,()))
noncomputable def E155 (c224:F224) (l0:A155_0):CEnv:=⟨⟨Tryz.prog,fnsL [g224 c224]⟩,loopsL [(2,e155_0 l0)]⟩
theorem t155_0 (c224:F224) (l0:A155_0) (again) (x y z):loopRound (E155 c224 l0) (loopAt (bodyOf Tryz.f155) 0) (e155_0 l0) Tryz.f155.ntmps again x y z=w155_0 c224 again x y z:=by kernel_rfl
noncomputable def n155_0 (c224:F224):Nat→A155_0
  |0,_,_,_=>none
  |n+1,x,y,z=>w155_0 c224 (fun y z=>n155_0 c224 n x y z) x y z
theorem s155 (c224:F224) (l0:A155_0) (y):tevF (E155 c224 l0) Tryz.f155 i155 o155 y=m155 c224 l0 y:=by kernel_rfl
noncomputable def L155_0:A155_0:=n155_0 r224 fuel
noncomputable def r155:F155:=m155 r224 L155_0
theorem k155:KO (g155 r155):=by
  have hE: ∀g f,(E155 r224 L155_0).env.fns g=some f→CallOk Tryz.prog g f:=fnsL_ok ⟨k224,⟨⟩⟩
  have h0:LoopOk Tryz.prog Tryz.f155.ntmps (loopAt (bodyOf Tryz.f155) 0) (e155_0 L155_0):=lp_ok (E:=E155 r224 L155_0) rfl hE mixed (AllLoops.of_list (l:=[]) (by kernel_rfl) trivial) (n155_0 r224) (fun _ _ _=>rfl) (fun n x y z=>t155_0 r224 L155_0 _ x y z) rfl
  exact fn_ok (E:=E155 r224 L155_0) rfl hE mixed (by kernel_rfl) (by kernel_rfl) (AllLoops.of_list (l:=[(loopAt (bodyOf Tryz.f155) 0)]) (by kernel_rfl) (.one (by kernel_rfl) h0 trivial)) (s155 r224 L155_0)
abbrev i122:Ts:=[.a q4]
abbrev o122:Ts:=[.v (.bool)]
abbrev F122:=FT i122 o122
abbrev g122:=mkG 122 i122 o122
noncomputable def m122 (c153:F153) (c194:F194) (c155:F155) (y:PTup i122):Option (PTup o122×BTup i122):=
  (c153 ((y.1.1,(y.1.2.1,(y.1.2.2.1,(y.1.2.2.2.1,(y.1.2.2.2.2.1,(y.1.2.2.2.2.2.1,(y.1.2.2.2.2.2.2.1,(y.1.2.2.2.2.2.2.2.1,())))))))),())).bind fun r0=>
  bif (!r0.1.1)then no
  else (c194 ((y.1.2.2.2.2.2.2.2.2.1,(y.1.2.2.2.2.2.2.2.2.2.1,())),())).bind fun r1=>
  bif (!r1.1.1)then no
  else bif (eqI (lenI y.1.2.2.2.2.2.2.2.2.2.1) 0)then ((c155 (y.1.2.2.2.2.2.2.2.2.2.2.1,(y.1.1,()))).bind fun r2=>
   some (r2.1,()))
  else bif (ltI 0 (lenI y.1.2.2.2.2.2.2.2.2.2.1))then (bif (leI y.1.1 (rdE .t y.1.2.2.2.2.2.2.2.2.2.1 (0:Int)).1)then ((c155 (y.1.2.2.2.2.2.2.2.2.2.2.1,(y.1.1,()))).bind fun r2=>
    some (r2.1,()))
   else no)
  else none
theorem s122 (c153:F153) (c194:F194) (c155:F155) (y):TE [g153 c153,g194 c194,g155 c155] Tryz.f122 i122 o122 y=m122 c153 c194 c155 y:=by kernel_rfl
noncomputable def r122:F122:=m122 r153 r194 r155
theorem k122:KO (g122 r122):=fk (s122 r153 r194 r155) ⟨k153,k194,k155,⟨⟩⟩ (by kernel_rfl)
abbrev i154:Ts:=[.a q12]
abbrev o154:Ts:=[.v (.bool)]
abbrev F154:=FT i154 o154
abbrev g154:=mkG 154 i154 o154
noncomputable def m154 (c125:F125) (c124:F124) (y:PTup i154):Option (PTup o154×BTup i154):=
  (c125 (y.1.1,((0:Int),((20000:Int),())))).bind fun r0=>
  bif r0.1.1 then ((c124 (y.1.2.1,())).bind fun r1=>
   bif r1.1.1 then ((c124 (y.1.2.2.1,())).bind fun r2=>
    bif r2.1.1 then ((c125 (y.1.2.2.2.1,((0:Int),((1:Int),())))).bind fun r3=>
     bif r3.1.1 then ((c125 (y.1.2.2.2.2.1,((0:Int),((31:Int),())))).bind fun r4=>
      some (r4.1,()))
     else no)
    else no)
   else no)
  else no
theorem s154 (c125:F125) (c124:F124) (y):TE [g125 c125,g124 c124] Tryz.f154 i154 o154 y=m154 c125 c124 y:=by kernel_rfl
noncomputable def r154:F154:=m154 r125 r124
theorem k154:KO (g154 r154):=fk (s154 r125 r124) ⟨k125,k124,⟨⟩⟩ (by kernel_rfl)
abbrev i123:Ts:=[.a q5]
abbrev o123:Ts:=[.v (.bool)]
abbrev F123:=FT i123 o123
abbrev g123:=mkG 123 i123 o123
noncomputable def m123 (c154:F154) (c194:F194) (y:PTup i123):Option (PTup o123×BTup i123):=
  (c154 ((y.1.1,(y.1.2.1,(y.1.2.2.1,(y.1.2.2.2.1,(y.1.2.2.2.2.1,(y.1.2.2.2.2.2.1,(y.1.2.2.2.2.2.2.1,()))))))),())).bind fun r0=>
  bif (!r0.1.1)then no
  else (c194 ((y.1.2.2.2.2.2.2.2.1,(y.1.2.2.2.2.2.2.2.2.1,())),())).bind fun r1=>
  bif (!r1.1.1)then no
  else bif (eqI (lenI y.1.2.2.2.2.2.2.2.2.1) 0)then (some (((eqI (lenI y.1.2.2.2.2.2.2.2.2.2.1) (wI (Int.tdiv y.1.1 16))),()),()))
  else bif (ltI 0 (lenI y.1.2.2.2.2.2.2.2.2.1))then (bif (leI y.1.1 (rdE .t y.1.2.2.2.2.2.2.2.2.1 (0:Int)).1)then (some (((eqI (lenI y.1.2.2.2.2.2.2.2.2.2.1) (wI (Int.tdiv y.1.1 16))),()),()))
   else no)
  else none
theorem s123 (c154:F154) (c194:F194) (y):TE [g154 c154,g194 c194] Tryz.f123 i123 o123 y=m123 c154 c194 y:=by kernel_rfl
noncomputable def r123:F123:=m123 r154 r194
theorem k123:KO (g123 r123):=fk (s123 r154 r194) ⟨k154,k194,⟨⟩⟩ (by kernel_rfl)
abbrev i126:Ts:=[.a q3]
abbrev o126:Ts:=[.v (.int .i64)]
abbrev F126:=FT i126 o126
abbrev g126:=mkG 126 i126 o126
noncomputable def m126 (y:PTup i126):Option (PTup o126×BTup i126):=
  bif (eqI (lenI y.1.2.1) 0)then (some (((0:Int),()),()))
  else bif (leI 0 (wI ((lenI y.1.2.1)-1)))then (bif (ltI (wI ((lenI y.1.2.1)-1)) (lenI y.1.2.1))then (some (((rdE .t y.1.2.1 (wI ((lenI y.1.2.1)-1))).1,()),()))
   else none)
  else none
theorem s126 (y):TE [] Tryz.f126 i126 o126 y=m126 y:=by kernel_rfl
noncomputable def r126:F126:=m126
theorem k126:KO (g126 r126):=fk (s126) trivial (by kernel_rfl)
abbrev i29:Ts:=[.a q6]
abbrev o29:Ts:=[.v (.bool)]
abbrev F29:=FT i29 o29
abbrev g29:=mkG 29 i29 o29
noncomputable def m29 (c121:F121) (c120:F120) (c119:F119) (c122:F122) (c123:F123) (c126:F126) (c125:F125) (c124:F124) (y:PTup i29):Option (PTup o29×BTup i29):=
  let a0:=y.1;let a1:=a0.2;let a2:=a1.2;let a3:=a2.2;let a4:=a3.2;let a5:=a4.2;let a6:=a5.2;let a7:=a6.2;let a8:=a7.2;let a9:=a8.2;let a10:=a9.2;let a11:=a10.2;let a12:=a11.2;let a13:=a12.2;let a14:=a13.2;let a15:=a14.2;let a16:=a15.2;let a17:=a16.2;let a18:=a17.2;let a19:=a18.2;let a20:=a19.2;let a21:=a20.2;let a22:=a21.2;let a23:=a22.2;let a24:=a23.2;let a25:=a24.2;let a26:=a25.2;let a27:=a26.2;let a28:=a27.2;let a29:=a28.2.2;let a30:=a29.2.2.2.2.2.2.2.2.2;(c119 (a1.1,())).bind fun r0=>
  bif (!r0.1.1)then no
  else (c120 ((a0.1,()),((a2.1,(a3.1,())),()))).bind fun r1=>
  bif (!r1.1.1)then no
  else (c121 ((a4.1,(a5.1,(a6.1,(a7.1,(a8.1,(a9.1,(a10.1,(a11.1,())))))))),())).bind fun r2=>
  bif (!r2.1.1)then no
  else (c122 ((a21.1,(a22.1,(a23.1,(a24.1,(a25.1,(a26.1,(a27.1,(a28.1,(a28.2.1,(a29.1,(a29.2.1,()))))))))))),())).bind fun r3=>
  bif (!r3.1.1)then no
  else (c123 (a29.2.2,())).bind fun r4=>
  bif (!r4.1.1)then no
  else (c124 (a13.1,())).bind fun r5=>
  bif (!r5.1.1)then no
  else (c124 (a16.1,())).bind fun r6=>
  bif (!r6.1.1)then no
  else (c125 (a14.1,((0:Int),((20000:Int),())))).bind fun r7=>
  bif (!r7.1.1)then no
  else (c125 (a18.1,((0:Int),(a14.1,())))).bind fun r8=>
  bif (!r8.1.1)then no
  else (c125 (a19.1,((0:Int),(a14.1,())))).bind fun r9=>
  bif (!r9.1.1)then no
  else bif (ltI a14.1 a21.1)then no
  else bif (ltI a14.1 a29.2.2.1)then no
  else (c126 ((a28.2.1,(a29.1,())),())).bind fun r10=>
  bif (leI r10.1.1 a14.1)then ((c126 ((a30.1,(a30.2.1,())),())).bind fun r11=>
   some (((leI r11.1.1 a14.1),()),()))
  else no
theorem s29 (c121:F121) (c120:F120) (c119:F119) (c122:F122) (c123:F123) (c126:F126) (c125:F125) (c124:F124) (y):TE [g121 c121,g120 c120,g119 c119,g122 c122,g123 c123,g126 c126,g125 c125,g124 c124] Tryz.f29 i29 o29 y=m29 c121 c120 c119 c122 c123 c126 c125 c124 y:=by kernel_rfl
noncomputable def r29:F29:=m29 r121 r120 r119 r122 r123 r126 r125 r124
theorem k29:KO (g29 r29):=fk (s29 r121 r120 r119 r122 r123 r126 r125 r124) ⟨k121,k120,k119,k122,k123,k126,k125,k124,⟨⟩⟩ (by kernel_rfl)
abbrev i83:Ts:=[.a q6]
abbrev o83:Ts:=[.v (.bool)]
abbrev F83:=FT i83 o83
abbrev g83:=mkG 83 i83 o83
noncomputable def m83 (c29:F29) (y:PTup i83):Option (PTup o83×BTup i83):=
  (c29 (y.1,())).bind fun r0=>
  bif r0.1.1 then (some (((leI y.1.2.2.2.2.2.2.2.2.2.2.2.2.2.2.2.2.2.2.2.1 3000),()),()))
  else no
theorem s83 (c29:F29) (y):TE [g29 c29] Tryz.f83 i83 o83 y=m83 c29 y:=by kernel_rfl
noncomputable def r83:F83:=m83 r29
theorem k83:KO (g83 r83):=fk (s83 r29) ⟨k29,⟨⟩⟩ (by kernel_rfl)
abbrev i111:Ts:=[.a q0]
abbrev o111:Ts:=[.a [.sl true .n]]
abbrev F111:=FT i111 o111
abbrev g111:=mkG 111 i111 o111
abbrev lc111_0:Ts:=[]
abbrev lb111_0:Ts:=[.p q0, .p [.sl true .n]]
abbrev lv111_0:Ts:=[.v (.int .i64)]
abbrev lr111_0:Ts:=[]
abbrev R111_0:=Option (Sum (PTup lv111_0) (PTup lr111_0)×BTup lb111_0)
abbrev B111_0:=PTup lb111_0→PTup lv111_0→R111_0
abbrev A111_0:=PTup lc111_0→B111_0
noncomputable def w111_0 (again:B111_0) (x:PTup lc111_0) (y:PTup lb111_0) (z:PTup lv111_0):R111_0:=
  bif (ltI z.1 (lenI y.1.1))then (bif (leI 0 z.1)then (bif (ltI z.1 (lenI y.1.1))then (bif (leN (0+(List.length (rdE .n y.1.1 z.1))) (E.most .i))then (bif (leN ((List.length y.2.1.1)+(List.length (([]++(rdE .n y.1.1 z.1))::[]))) (E.most .n))then (again (y.1,(((y.2.1.1++(([]++(rdE .n y.1.1 z.1))::[])),()),())) ((wI (z.1+1)),()))
      else none)
     else none)
    else none)
   else none)
  else some ((Sum.inl z),(y.1,(y.2.1,())))
noncomputable def e111_0 (l:A111_0):LoopE:=⟨[],lc111_0,[1,3],lb111_0,[4],lv111_0,[],lr111_0,0,[],l⟩
noncomputable def m111 (l0:A111_0) (y:PTup i111):Option (PTup o111×BTup i111):=
  (l0 () (y.1,(([],()),())) ((0:Int),())).bind fun r0=>
  sumElim r0.1 (fun r1=>some ((r0.2.2.1,()),()))
  (fun r1=>some ((([],()),()),()))
noncomputable def E111 (l0:A111_0):CEnv:=⟨⟨Tryz.prog,fnsL []⟩,loopsL [(3,e111_0 l0)]⟩
theorem t111_0 (l0:A111_0) (again) (x y z):loopRound (E111 l0) (loopAt (bodyOf Tryz.f111) 0) (e111_0 l0) Tryz.f111.ntmps again x y z=w111_0 again x y z:=by kernel_rfl
noncomputable def n111_0:Nat→A111_0
  |0,_,_,_=>none
  |n+1,x,y,z=>w111_0 (fun y z=>n111_0 n x y z) x y z
theorem s111 (l0:A111_0) (y):tevF (E111 l0) Tryz.f111 i111 o111 y=m111 l0 y:=by kernel_rfl
noncomputable def L111_0:A111_0:=n111_0 fuel
noncomputable def r111:F111:=m111 L111_0
theorem k111:KO (g111 r111):=by
  have hE: ∀g f,(E111 L111_0).env.fns g=some f→CallOk Tryz.prog g f:=fnsL_ok trivial
  have h0:LoopOk Tryz.prog Tryz.f111.ntmps (loopAt (bodyOf Tryz.f111) 0) (e111_0 L111_0):=lp_ok (E:=E111 L111_0) rfl hE mixed (AllLoops.of_list (l:=[]) (by kernel_rfl) trivial) (n111_0) (fun _ _ _=>rfl) (fun n x y z=>t111_0 L111_0 _ x y z) rfl
  exact fn_ok (E:=E111 L111_0) rfl hE mixed (by kernel_rfl) (by kernel_rfl) (AllLoops.of_list (l:=[(loopAt (bodyOf Tryz.f111) 0)]) (by kernel_rfl) (.one (by kernel_rfl) h0 trivial)) (s111 L111_0)
abbrev i250:Ts:=[]
abbrev o250:Ts:=[.a q7]
abbrev F250:=FT i250 o250
abbrev g250:=mkG 250 i250 o250
noncomputable def m250 (y:PTup i250):Option (PTup o250×BTup i250):=
  some ((((List.replicate (Int.toNat (512:Int)) (0:Int)),((0:Int),())),()),())
theorem s250 (y):TE [] Tryz.f250 i250 o250 y=m250 y:=by kernel_rfl
noncomputable def r250:F250:=m250
theorem k250:KO (g250 r250):=fk (s250) trivial (by kernel_rfl)
abbrev i271:Ts:=[.v (.int .i64)]
abbrev o271:Ts:=[.v (.int .i64)]
abbrev F271:=FT i271 o271
abbrev g271:=mkG 271 i271 o271
noncomputable def m271 (y:PTup i271):Option (PTup o271×BTup i271):=
  some (((bAnd Go.IntKind.i64 y.1 (65535:Int)),()),())
theorem s271 (y):TE [] Tryz.f271 i271 o271 y=m271 y:=by kernel_rfl
noncomputable def r271:F271:=m271
theorem k271:KO (g271 r271):=fk (s271) trivial (by kernel_rfl)
abbrev i212:Ts:=[.v (.int .i64)]
abbrev o212:Ts:=[.v (.int .i64), .v (.int .i64)]
abbrev F212:=FT i212 o212
abbrev g212:=mkG 212 i212 o212
noncomputable def m212 (c271:F271) (y:PTup i212):Option (PTup o212×BTup i212):=
  (c271 y).bind fun r0=>
  bif (ltI r0.1.1 8192)then (some (((1:Int),((Int.tmod r0.1.1 512),())),()))
  else bif (ltI r0.1.1 16384)then (some (((2:Int),((Int.tmod r0.1.1 8),())),()))
  else bif (ltI r0.1.1 16388)then (some (((3:Int),((Int.tmod r0.1.1 4),())),()))
  else bif (eqI r0.1.1 16406)then (some (((4:Int),((0:Int),())),()))
  else bif (ltI r0.1.1 32768)then (some (((7:Int),((0:Int),())),()))
  else bif (ltI r0.1.1 49152)then (some (((5:Int),((Int.tmod r0.1.1 256),())),()))
  else some (((6:Int),((Int.tmod r0.1.1 256),())),())
theorem s212 (c271:F271) (y):TE [g271 c271] Tryz.f212 i212 o212 y=m212 c271 y:=by kernel_rfl
noncomputable def r212:F212:=m212 r271
theorem k212:KO (g212 r212):=fk (s212 r271) ⟨k271,⟨⟩⟩ (by kernel_rfl)
abbrev i289:Ts:=[.a q0, .a q1, .v (.int .i64)]
abbrev o289:Ts:=[.v (.int .i64)]
abbrev F289:=FT i289 o289
abbrev g289:=mkG 289 i289 o289
noncomputable def m289 (c212:F212) (y:PTup i289):Option (PTup o289×BTup i289):=
  (c212 y.2.2).bind fun r0=>
  bif (eqI r0.1.1 1)then (bif (leI 0 r0.1.2.1)then (bif (ltI r0.1.2.1 (lenI y.2.1.1))then (some (((rdE .i y.2.1.1 r0.1.2.1),()),()))
    else none)
   else none)
  else bif (eqI r0.1.1 5)then (bif (leI 0 y.2.1.2.1)then (bif (ltI y.2.1.2.1 (lenI y.1.1))then (bif (leI 0 r0.1.2.1)then (bif (ltI r0.1.2.1 (lenI (rdE .n y.1.1 y.2.1.2.1)))then (some (((rdI (rdE .n y.1.1 y.2.1.2.1) r0.1.2.1),()),()))
      else none)
     else none)
    else none)
   else none)
  else bif (eqI r0.1.1 6)then (bif (leI 0 (wI ((lenI y.1.1)-1)))then (bif (ltI (wI ((lenI y.1.1)-1)) (lenI y.1.1))then (bif (leI 0 r0.1.2.1)then (bif (ltI r0.1.2.1 (lenI (rdE .n y.1.1 (wI ((lenI y.1.1)-1)))))then (some (((rdI (rdE .n y.1.1 (wI ((lenI y.1.1)-1))) r0.1.2.1),()),()))
      else none)
     else none)
    else none)
   else none)
  else some (((0:Int),()),())
theorem s289 (c212:F212) (y):TE [g212 c212] Tryz.f289 i289 o289 y=m289 c212 y:=by kernel_rfl
noncomputable def r289:F289:=m289 r212
theorem k289:KO (g289 r289):=fk (s289 r212) ⟨k212,⟨⟩⟩ (by kernel_rfl)
abbrev i267:Ts:=[.a q0, .a q1, .v (.int .i64)]
abbrev o267:Ts:=[.v (.int .i64)]
abbrev F267:=FT i267 o267
abbrev g267:=mkG 267 i267 o267
noncomputable def m267 (c120:F120) (c289:F289) (y:PTup i267):Option (PTup o267×BTup i267):=
  (c120 (y.1,(y.2.1,()))).bind fun r0=>
  bif (!r0.1.1)then (some (((0:Int),()),()))
  else (c289 y).bind fun r1=>
  some (r1.1,())
theorem s267 (c120:F120) (c289:F289) (y):TE [g120 c120,g289 c289] Tryz.f267 i267 o267 y=m267 c120 c289 y:=by kernel_rfl
noncomputable def r267:F267:=m267 r120 r289
theorem k267:KO (g267 r267):=fk (s267 r120 r289) ⟨k120,k289,⟨⟩⟩ (by kernel_rfl)
abbrev i272:Ts:=[.v (.int .i64)]
abbrev o272:Ts:=[.v (.int .i64)]
abbrev F272:=FT i272 o272
abbrev g272:=mkG 272 i272 o272
noncomputable def m272 (y:PTup i272):Option (PTup o272×BTup i272):=
  some (((bAnd Go.IntKind.i64 y.1 (255:Int)),()),())
theorem s272 (y):TE [] Tryz.f272 i272 o272 y=m272 y:=by kernel_rfl
noncomputable def r272:F272:=m272
theorem k272:KO (g272 r272):=fk (s272) trivial (by kernel_rfl)
abbrev i269:Ts:=[.v (.int .i64), .v (.int .i64)]
abbrev o269:Ts:=[.v (.int .i64)]
abbrev F269:=FT i269 o269
abbrev g269:=mkG 269 i269 o269
noncomputable def m269 (c272:F272) (y:PTup i269):Option (PTup o269×BTup i269):=
  (c272 (y.1,())).bind fun r0=>
  (c272 y.2).bind fun r1=>
  some (((wI (r0.1.1+(wI ((256:Int)*r1.1.1)))),()),())
theorem s269 (c272:F272) (y):TE [g272 c272] Tryz.f269 i269 o269 y=m269 c272 y:=by kernel_rfl
noncomputable def r269:F269:=m269 r272
theorem k269:KO (g269 r269):=fk (s269 r272) ⟨k272,⟨⟩⟩ (by kernel_rfl)
abbrev i251:Ts:=[.a q0]
abbrev o251:Ts:=[.a q8]
abbrev F251:=FT i251 o251
abbrev g251:=mkG 251 i251 o251
noncomputable def m251 (c269:F269) (c250:F250) (c267:F267) (y:PTup i251):Option (PTup o251×BTup i251):=
  (c250 ()).bind fun r0=>
  (c267 (y.1,(r0.1.1,((65532:Int),())))).bind fun r1=>
  (c267 (y.1,(r0.1.1,((65533:Int),())))).bind fun r2=>
  (c269 (r1.1.1,r2.1)).bind fun r3=>
  some ((((0:Int),((0:Int),((255:Int),(r3.1.1,(false,(false,(false,(true,())))))))),()),())
theorem s251 (c269:F269) (c250:F250) (c267:F267) (y):TE [g269 c269,g250 c250,g267 c267] Tryz.f251 i251 o251 y=m251 c269 c250 c267 y:=by kernel_rfl
noncomputable def r251:F251:=m251 r269 r250 r267
theorem k251:KO (g251 r251):=fk (s251 r269 r250 r267) ⟨k269,k250,k267,⟨⟩⟩ (by kernel_rfl)
abbrev i252:Ts:=[]
abbrev o252:Ts:=[.a q10]
abbrev F252:=FT i252 o252
abbrev g252:=mkG 252 i252 o252
noncomputable def m252 (y:PTup i252):Option (PTup o252×BTup i252):=
  some ((((0:Int),((0:Int),((0:Int),((0:Int),((0:Int),(false,((List.replicate (Int.toNat (16:Int)) (0:Int)),([],())))))))),()),())
theorem s252 (y):TE [] Tryz.f252 i252 o252 y=m252 y:=by kernel_rfl
noncomputable def r252:F252:=m252
theorem k252:KO (g252 r252):=fk (s252) trivial (by kernel_rfl)
abbrev i42:Ts:=[.a q13]
abbrev o42:Ts:=[.v (.bool)]
abbrev F42:=FT i42 o42
abbrev g42:=mkG 42 i42 o42
noncomputable def m42 (c154:F154) (c121:F121) (c120:F120) (c119:F119) (c153:F153) (c155:F155) (c125:F125) (c124:F124) (y:PTup i42):Option (PTup o42×BTup i42):=
  let a0:=y.1;let a1:=a0.2;let a2:=a1.2;let a3:=a2.2;let a4:=a3.2;let a5:=a4.2;let a6:=a5.2;let a7:=a6.2;let a8:=a7.2;let a9:=a8.2;let a10:=a9.2;let a11:=a10.2;let a12:=a11.2;let a13:=a12.2;let a14:=a13.2;let a15:=a14.2;let a16:=a15.2;let a17:=a16.2;let a18:=a17.2;let a19:=a18.2;let a20:=a19.2;let a21:=a20.2;let a22:=a21.2.2;let a23:=a22.2.2;let a24:=a23.2.2.2;(c119 (a1.1,())).bind fun r0=>
  bif r0.1.1 then ((c120 ((a0.1,()),((a2.1,(a3.1,())),()))).bind fun r1=>
   bif r1.1.1 then ((c121 ((a4.1,(a5.1,(a6.1,(a7.1,(a8.1,(a9.1,(a10.1,(a11.1,())))))))),())).bind fun r2=>
    bif r2.1.1 then ((c153 ((a12.1,(a13.1,(a14.1,(a15.1,(a16.1,(a17.1,(a18.1,(a19.1,())))))))),())).bind fun r3=>
     bif r3.1.1 then ((c154 ((a20.1,(a21.1,(a21.2.1,(a22.1,(a22.2.1,(a23.1,(a23.2.1,()))))))),())).bind fun r4=>
      bif r4.1.1 then ((c124 (a24.1,())).bind fun r5=>
       bif r5.1.1 then (bif (eqI a12.1 a20.1)then ((c125 (a24.2.2.1,((0:Int),(a12.1,())))).bind fun r6=>
         bif r6.1.1 then ((c155 (a24.2.2.2.1,(a12.1,()))).bind fun r7=>
          bif r7.1.1 then (some (((eqI (lenI a24.2.2.2.2.1) (wI (Int.tdiv a12.1 16))),()),()))
          else no)
         else no)
        else no)
       else no)
      else no)
     else no)
    else no)
   else no)
  else no
theorem s42 (c154:F154) (c121:F121) (c120:F120) (c119:F119) (c153:F153) (c155:F155) (c125:F125) (c124:F124) (y):TE [g154 c154,g121 c121,g120 c120,g119 c119,g153 c153,g155 c155,g125 c125,g124 c124] Tryz.f42 i42 o42 y=m42 c154 c121 c120 c119 c153 c155 c125 c124 y:=by kernel_rfl
noncomputable def r42:F42:=m42 r154 r121 r120 r119 r153 r155 r125 r124
theorem k42:KO (g42 r42):=fk (s42 r154 r121 r120 r119 r153 r155 r125 r124) ⟨k154,k121,k120,k119,k153,k155,k125,k124,⟨⟩⟩ (by kernel_rfl)
abbrev i172:Ts:=[.a q0, .v (.sl false .i)]
abbrev o172:Ts:=[.a q14, .v (.bool)]
abbrev F172:=FT i172 o172
abbrev g172:=mkG 172 i172 o172
noncomputable def m172 (c251:F251) (c42:F42) (c250:F250) (c252:F252) (c111:F111) (y:PTup i172):Option (PTup o172×BTup i172):=
  (c111 (y.1,())).bind fun r0=>
  bif (leN (0+(List.length y.2.1)) (E.most .i))then ((c250 ()).bind fun r1=>
   (c251 (y.1,())).bind fun r2=>
   (c252 ()).bind fun r3=>
   (c42 ((r0.1.1.1,(([]++y.2.1),(r1.1.1.1,(r1.1.1.2.1,(r2.1.1.1,(r2.1.1.2.1,(r2.1.1.2.2.1,(r2.1.1.2.2.2.1,(r2.1.1.2.2.2.2.1,(r2.1.1.2.2.2.2.2.1,(r2.1.1.2.2.2.2.2.2.1,(r2.1.1.2.2.2.2.2.2.2.1,(r3.1.1.1,(r3.1.1.2.1,(r3.1.1.2.2.1,(r3.1.1.2.2.2.1,(r3.1.1.2.2.2.2.1,(r3.1.1.2.2.2.2.2.1,(r3.1.1.2.2.2.2.2.2.1,(r3.1.1.2.2.2.2.2.2.2.1,((0:Int),((0:Int),((0:Int),((0:Int),((0:Int),(false,(false,(false,((0:Int),(false,((0:Int),([],([],([],())))))))))))))))))))))))))))))))))),())).bind fun r4=>
   bif (!r4.1.1)then (some ((([],([],([],((0:Int),((0:Int),((0:Int),((0:Int),((0:Int),(false,(false,(false,(false,((0:Int),((0:Int),((0:Int),((0:Int),((0:Int),(false,([],([],((0:Int),((0:Int),((0:Int),((0:Int),((0:Int),(false,(false,(false,((0:Int),(false,((0:Int),([],([],([],())))))))))))))))))))))))))))))))))),(false,())),()))
   else some (((r0.1.1.1,(([]++y.2.1),(r1.1.1.1,(r1.1.1.2.1,(r2.1.1.1,(r2.1.1.2.1,(r2.1.1.2.2.1,(r2.1.1.2.2.2.1,(r2.1.1.2.2.2.2.1,(r2.1.1.2.2.2.2.2.1,(r2.1.1.2.2.2.2.2.2.1,(r2.1.1.2.2.2.2.2.2.2.1,(r3.1.1.1,(r3.1.1.2.1,(r3.1.1.2.2.1,(r3.1.1.2.2.2.1,(r3.1.1.2.2.2.2.1,(r3.1.1.2.2.2.2.2.1,(r3.1.1.2.2.2.2.2.2.1,(r3.1.1.2.2.2.2.2.2.2.1,((0:Int),((0:Int),((0:Int),((0:Int),((0:Int),(false,(false,(false,((0:Int),(false,((0:Int),([],([],([],())))))))))))))))))))))))))))))))))),(true,())),()))
  else none
theorem s172 (c251:F251) (c42:F42) (c250:F250) (c252:F252) (c111:F111) (y):TE [g251 c251,g42 c42,g250 c250,g252 c252,g111 c111] Tryz.f172 i172 o172 y=m172 c251 c42 c250 c252 c111 y:=by kernel_rfl
noncomputable def r172:F172:=m172 r251 r42 r250 r252 r111
theorem k172:KO (g172 r172):=fk (s172 r251 r42 r250 r252 r111) ⟨k251,k42,k250,k252,k111,⟨⟩⟩ (by kernel_rfl)
abbrev i112:Ts:=[.a q1]
abbrev o112:Ts:=[.a q7]
abbrev F112:=FT i112 o112
abbrev g112:=mkG 112 i112 o112
noncomputable def m112 (y:PTup i112):Option (PTup o112×BTup i112):=
  bif (leN (0+(List.length y.1.1)) (E.most .i))then (some (((([]++y.1.1),y.1.2),()),()))
  else none
theorem s112 (y):TE [] Tryz.f112 i112 o112 y=m112 y:=by kernel_rfl
noncomputable def r112:F112:=m112
theorem k112:KO (g112 r112):=fk (s112) trivial (by kernel_rfl)
abbrev i113:Ts:=[.a q2]
abbrev o113:Ts:=[.a q10]
abbrev F113:=FT i113 o113
abbrev g113:=mkG 113 i113 o113
noncomputable def m113 (y:PTup i113):Option (PTup o113×BTup i113):=
  bif (leN (0+(List.length y.1.2.2.2.2.2.2.1)) (E.most .i))then (bif (leN (0+(List.length y.1.2.2.2.2.2.2.2.1)) (E.most .i))then (some (((y.1.1,(y.1.2.1,(y.1.2.2.1,(y.1.2.2.2.1,(y.1.2.2.2.2.1,(y.1.2.2.2.2.2.1,(([]++y.1.2.2.2.2.2.2.1),(([]++y.1.2.2.2.2.2.2.2.1),())))))))),()),()))
   else none)
  else none
theorem s113 (y):TE [] Tryz.f113 i113 o113 y=m113 y:=by kernel_rfl
noncomputable def r113:F113:=m113
theorem k113:KO (g113 r113):=fk (s113) trivial (by kernel_rfl)
abbrev i118:Ts:=[.v (.sl false .n)]
abbrev o118:Ts:=[.v (.sl true .n)]
abbrev F118:=FT i118 o118
abbrev g118:=mkG 118 i118 o118
abbrev lc118_0:Ts:=[.v (.sl false .n)]
abbrev lb118_0:Ts:=[]
abbrev lv118_0:Ts:=[.v (.sl true .n), .v (.int .i64)]
abbrev lr118_0:Ts:=[]
abbrev R118_0:=Option (Sum (PTup lv118_0) (PTup lr118_0)×BTup lb118_0)
abbrev B118_0:=PTup lb118_0→PTup lv118_0→R118_0
abbrev A118_0:=PTup lc118_0→B118_0
noncomputable def w118_0 (again:B118_0) (x:PTup lc118_0) (y:PTup lb118_0) (z:PTup lv118_0):R118_0:=
  bif (ltI z.2.1 (lenI x.1))then (bif (leI 0 z.2.1)then (bif (ltI z.2.1 (lenI x.1))then (bif (leN (0+(List.length (rdE .n x.1 z.2.1))) (E.most .i))then (bif (leN ((List.length z.1)+(List.length (([]++(rdE .n x.1 z.2.1))::[]))) (E.most .n))then (again () ((z.1++(([]++(rdE .n x.1 z.2.1))::[])),((wI (z.2.1+1)),())))
      else none)
     else none)
    else none)
   else none)
  else some ((Sum.inl z),())
noncomputable def e118_0 (l:A118_0):LoopE:=⟨[0],lc118_0,[],lb118_0,[3,4],lv118_0,[],lr118_0,0,[],l⟩
noncomputable def m118 (l0:A118_0) (y:PTup i118):Option (PTup o118×BTup i118):=
  (l0 y () ([],((0:Int),()))).bind fun r0=>
  sumElim r0.1 (fun r1=>some ((r1.1,()),()))
  (fun r1=>some (([],()),()))
noncomputable def E118 (l0:A118_0):CEnv:=⟨⟨Tryz.prog,fnsL []⟩,loopsL [(3,e118_0 l0)]⟩
theorem t118_0 (l0:A118_0) (again) (x y z):loopRound (E118 l0) (loopAt (bodyOf Tryz.f118) 0) (e118_0 l0) Tryz.f118.ntmps again x y z=w118_0 again x y z:=by kernel_rfl
noncomputable def n118_0:Nat→A118_0
  |0,_,_,_=>none
  |n+1,x,y,z=>w118_0 (fun y z=>n118_0 n x y z) x y z
theorem s118 (l0:A118_0) (y):tevF (E118 l0) Tryz.f118 i118 o118 y=m118 l0 y:=by kernel_rfl
noncomputable def L118_0:A118_0:=n118_0 fuel
noncomputable def r118:F118:=m118 L118_0
theorem k118:KO (g118 r118):=by
  have hE: ∀g f,(E118 L118_0).env.fns g=some f→CallOk Tryz.prog g f:=fnsL_ok trivial
  have h0:LoopOk Tryz.prog Tryz.f118.ntmps (loopAt (bodyOf Tryz.f118) 0) (e118_0 L118_0):=lp_ok (E:=E118 L118_0) rfl hE mixed (AllLoops.of_list (l:=[]) (by kernel_rfl) trivial) (n118_0) (fun _ _ _=>rfl) (fun n x y z=>t118_0 L118_0 _ x y z) rfl
  exact fn_ok (E:=E118 L118_0) rfl hE mixed (by kernel_rfl) (by kernel_rfl) (AllLoops.of_list (l:=[(loopAt (bodyOf Tryz.f118) 0)]) (by kernel_rfl) (.one (by kernel_rfl) h0 trivial)) (s118 L118_0)
abbrev i148:Ts:=[.a q13]
abbrev o148:Ts:=[.a q14]
abbrev F148:=FT i148 o148
abbrev g148:=mkG 148 i148 o148
noncomputable def m148 (c111:F111) (c118:F118) (c112:F112) (c113:F113) (y:PTup i148):Option (PTup o148×BTup i148):=
  let a0:=y.1;let a1:=a0.2;let a2:=a1.2;let a3:=a2.2;let a4:=a3.2;let a5:=a4.2;let a6:=a5.2;let a7:=a6.2;let a8:=a7.2;let a9:=a8.2;let a10:=a9.2;let a11:=a10.2;let a12:=a11.2;let a13:=a12.2;let a14:=a13.2;let a15:=a14.2;let a16:=a15.2;let a17:=a16.2;let a18:=a17.2;let a19:=a18.2;let a20:=a19.2;let a21:=a20.2;let a22:=a21.2;let a23:=a22.2;let a24:=a23.2;let a25:=a24.2;let a26:=a25.2;let a27:=a26.2.2;let a28:=a27.2.2;(c111 ((a0.1,()),())).bind fun r0=>
  bif (leN (0+(List.length a1.1)) (E.most .i))then ((c112 ((a2.1,(a3.1,())),())).bind fun r1=>
   (c113 ((a12.1,(a13.1,(a14.1,(a15.1,(a16.1,(a17.1,(a18.1,(a19.1,())))))))),())).bind fun r2=>
   (c118 (a28.2.1,())).bind fun r3=>
   bif (leN (0+(List.length a28.2.2.1)) (E.most .i))then (bif (leN (0+(List.length a28.2.2.2.1)) (E.most .i))then (some (((r0.1.1.1,(([]++a1.1),(r1.1.1.1,(r1.1.1.2.1,(a4.1,(a5.1,(a6.1,(a7.1,(a8.1,(a9.1,(a10.1,(a11.1,(r2.1.1.1,(r2.1.1.2.1,(r2.1.1.2.2.1,(r2.1.1.2.2.2.1,(r2.1.1.2.2.2.2.1,(r2.1.1.2.2.2.2.2.1,(r2.1.1.2.2.2.2.2.2.1,(r2.1.1.2.2.2.2.2.2.2.1,(a20.1,(a21.1,(a22.1,(a23.1,(a24.1,(a25.1,(a26.1,(a26.2.1,(a27.1,(a27.2.1,(a28.1,(r3.1.1,(([]++a28.2.2.1),(([]++a28.2.2.2.1),())))))))))))))))))))))))))))))))))),()),()))
    else none)
   else none)
  else none
theorem s148 (c111:F111) (c118:F118) (c112:F112) (c113:F113) (y):TE [g111 c111,g118 c118,g112 c112,g113 c113] Tryz.f148 i148 o148 y=m148 c111 c118 c112 c113 y:=by kernel_rfl
noncomputable def r148:F148:=m148 r111 r118 r112 r113
theorem k148:KO (g148 r148):=fk (s148 r111 r118 r112 r113) ⟨k111,k118,k112,k113,⟨⟩⟩ (by kernel_rfl)
abbrev i158:Ts:=[.v (.int .i64), .v (.int .i64)]
abbrev o158:Ts:=[.v (.int .i64)]
abbrev F158:=FT i158 o158
abbrev g158:=mkG 158 i158 o158
noncomputable def m158 (y:PTup i158):Option (PTup o158×BTup i158):=
  bif (ltI y.1 y.2.1)then (some ((y.1,()),()))
  else some (y.2,())
theorem s158 (y):TE [] Tryz.f158 i158 o158 y=m158 y:=by kernel_rfl
noncomputable def r158:F158:=m158
theorem k158:KO (g158 r158):=fk (s158) trivial (by kernel_rfl)
abbrev i167:Ts:=[.v (.bool)]
abbrev o167:Ts:=[.v (.int .i64)]
abbrev F167:=FT i167 o167
abbrev g167:=mkG 167 i167 o167
noncomputable def m167 (y:PTup i167):Option (PTup o167×BTup i167):=
  bif y.1 then (some (((1:Int),()),()))
  else some (((0:Int),()),())
theorem s167 (y):TE [] Tryz.f167 i167 o167 y=m167 y:=by kernel_rfl
noncomputable def r167:F167:=m167
theorem k167:KO (g167 r167):=fk (s167) trivial (by kernel_rfl)
abbrev i284:Ts:=[.a q8]
abbrev o284:Ts:=[.v (.int .i64)]
abbrev F284:=FT i284 o284
abbrev g284:=mkG 284 i284 o284
noncomputable def m284 (c167:F167) (y:PTup i284):Option (PTup o284×BTup i284):=
  (c167 (y.1.2.2.2.2.2.2.1,())).bind fun r0=>
  (c167 (y.1.2.2.2.2.1,())).bind fun r1=>
  (c167 y.1.2.2.2.2.2.2.2).bind fun r2=>
  (c167 (y.1.2.2.2.2.2.1,())).bind fun r3=>
  some (((wI ((wI ((wI (r0.1.1+(wI ((2:Int)*r1.1.1))))+(wI ((4:Int)*r2.1.1))))+(wI ((128:Int)*r3.1.1)))),()),())
theorem s284 (c167:F167) (y):TE [g167 c167] Tryz.f284 i284 o284 y=m284 c167 y:=by kernel_rfl
noncomputable def r284:F284:=m284 r167
theorem k284:KO (g284 r284):=fk (s284 r167) ⟨k167,⟨⟩⟩ (by kernel_rfl)
abbrev i285:Ts:=[.a q1, .a q8, .v (.int .i64)]
abbrev o285:Ts:=[.a q7, .a q8]
abbrev F285:=FT i285 o285
abbrev g285:=mkG 285 i285 o285
noncomputable def m285 (c272:F272) (c112:F112) (y:PTup i285):Option (PTup o285×BTup i285):=
  (c112 (y.1,())).bind fun r0=>
  bif (neI (lenI y.1.1) 512)then (some ((r0.1.1,(y.2.1,())),()))
  else (c272 (y.2.1.2.2.1,())).bind fun r1=>
  (c272 y.2.2).bind fun r2=>
  bif (leI 0 (wI ((256:Int)+r1.1.1)))then (bif (ltI (wI ((256:Int)+r1.1.1)) (lenI r0.1.1.1))then ((c272 ((wI (y.2.1.2.2.1-1)),())).bind fun r3=>
    some ((((List.set r0.1.1.1 (Int.toNat (wI ((256:Int)+r1.1.1))) r2.1.1),r0.1.1.2),((y.2.1.1,(y.2.1.2.1,(r3.1.1,y.2.1.2.2.2))),())),()))
   else none)
  else none
theorem s285 (c272:F272) (c112:F112) (y):TE [g272 c272,g112 c112] Tryz.f285 i285 o285 y=m285 c272 c112 y:=by kernel_rfl
noncomputable def r285:F285:=m285 r272 r112
theorem k285:KO (g285 r285):=fk (s285 r272 r112) ⟨k272,k112,⟨⟩⟩ (by kernel_rfl)
abbrev i233:Ts:=[.a q0, .a q1, .a q8, .v (.int .i64)]
abbrev o233:Ts:=[.a q7, .a q8]
abbrev F233:=FT i233 o233
abbrev g233:=mkG 233 i233 o233
noncomputable def m233 (c284:F284) (c269:F269) (c267:F267) (c285:F285) (c112:F112) (y:PTup i233):Option (PTup o233×BTup i233):=
  (c112 (y.2.1,())).bind fun r0=>
  (c284 (y.2.2.1,())).bind fun r1=>
  (c285 (r0.1.1,(y.2.2.1,((Int.fdiv y.2.2.1.2.2.2.1 ((2:Int)^(Min.min (Int.toNat (8:Int)) (64:Nat)))),())))).bind fun r2=>
  (c285 (r2.1.1,(r2.1.2.1,(r2.1.2.1.2.2.2.1,())))).bind fun r3=>
  (c285 (r3.1.1,(r3.1.2.1,r1.1))).bind fun r4=>
  (c267 (y.1,(r4.1.1,y.2.2.2))).bind fun r5=>
  (c267 (y.1,(r4.1.1,((wI (y.2.2.2.1+1)),())))).bind fun r6=>
  (c269 (r5.1.1,r6.1)).bind fun r7=>
  some ((r4.1.1,((r4.1.2.1.1,(r4.1.2.1.2.1,(r4.1.2.1.2.2.1,(r7.1.1,(r4.1.2.1.2.2.2.2.1,(r4.1.2.1.2.2.2.2.2.1,(r4.1.2.1.2.2.2.2.2.2.1,(true,())))))))),())),())
theorem s233 (c284:F284) (c269:F269) (c267:F267) (c285:F285) (c112:F112) (y):TE [g284 c284,g269 c269,g267 c267,g285 c285,g112 c112] Tryz.f233 i233 o233 y=m233 c284 c269 c267 c285 c112 y:=by kernel_rfl
noncomputable def r233:F233:=m233 r284 r269 r267 r285 r112
theorem k233:KO (g233 r233):=fk (s233 r284 r269 r267 r285 r112) ⟨k284,k269,k267,k285,k112,⟨⟩⟩ (by kernel_rfl)
abbrev i268:Ts:=[.v (.int .i64)]
abbrev o268:Ts:=[.v (.int .i64)]
abbrev F268:=FT i268 o268
abbrev g268:=mkG 268 i268 o268
noncomputable def m268 (c125:F125) (y:PTup i268):Option (PTup o268×BTup i268):=
  (c125 (y.1,((0:Int),((29:Int),())))).bind fun r0=>
  bif (!r0.1.1)then (some (((1:Int),()),()))
  else bif (leI 0 y.1)then (bif (ltI y.1 (lenI ((1:Int)::((2:Int)::((3:Int)::((3:Int)::((2:Int)::((2:Int)::((2:Int)::((2:Int)::((2:Int)::((2:Int)::((1:Int)::((1:Int)::((1:Int)::((1:Int)::((3:Int)::((3:Int)::((3:Int)::((3:Int)::((3:Int)::((3:Int)::((3:Int)::((1:Int)::((1:Int)::((1:Int)::((1:Int)::((1:Int)::((1:Int)::((1:Int)::((1:Int)::((3:Int)::[]))))))))))))))))))))))))))))))))then (some (((rdE .i ((1:Int)::((2:Int)::((3:Int)::((3:Int)::((2:Int)::((2:Int)::((2:Int)::((2:Int)::((2:Int)::((2:Int)::((1:Int)::((1:Int)::((1:Int)::((1:Int)::((3:Int)::((3:Int)::((3:Int)::((3:Int)::((3:Int)::((3:Int)::((3:Int)::((1:Int)::((1:Int)::((1:Int)::((1:Int)::((1:Int)::((1:Int)::((1:Int)::((1:Int)::((3:Int)::[])))))))))))))))))))))))))))))) y.1),()),()))
   else none)
  else none
theorem s268 (c125:F125) (y):TE [g125 c125] Tryz.f268 i268 o268 y=m268 c125 y:=by kernel_rfl
noncomputable def r268:F268:=m268 r125
theorem k268:KO (g268 r268):=fk (s268 r125) ⟨k125,⟨⟩⟩ (by kernel_rfl)
abbrev i210:Ts:=[.a q0, .a q1, .v (.int .i64)]
abbrev o210:Ts:=[.a q15]
abbrev F210:=FT i210 o210
abbrev g210:=mkG 210 i210 o210
noncomputable def m210 (c269:F269) (c268:F268) (c267:F267) (y:PTup i210):Option (PTup o210×BTup i210):=
  (c267 y).bind fun r0=>
  (c268 r0.1).bind fun r1=>
  bif (eqI r1.1.1 2)then ((c267 (y.1,(y.2.1,((wI (y.2.2.1+1)),())))).bind fun r2=>
   some (((r0.1.1,r2.1),()),()))
  else bif (eqI r1.1.1 3)then ((c267 (y.1,(y.2.1,((wI (y.2.2.1+1)),())))).bind fun r2=>
   (c267 (y.1,(y.2.1,((wI (y.2.2.1+2)),())))).bind fun r3=>
   (c269 (r2.1.1,r3.1)).bind fun r4=>
   some (((r0.1.1,r4.1),()),()))
  else some (((r0.1.1,((0:Int),())),()),())
theorem s210 (c269:F269) (c268:F268) (c267:F267) (y):TE [g269 c269,g268 c268,g267 c267] Tryz.f210 i210 o210 y=m210 c269 c268 c267 y:=by kernel_rfl
noncomputable def r210:F210:=m210 r269 r268 r267
theorem k210:KO (g210 r210):=fk (s210 r269 r268 r267) ⟨k269,k268,k267,⟨⟩⟩ (by kernel_rfl)
abbrev i270:Ts:=[.v (.int .i64)]
abbrev o270:Ts:=[.v (.int .i64)]
abbrev R270:=Option (PTup o270×BTup i270)
abbrev F270:=PTup i270→R270
abbrev g270:=mkG 270 i270 o270
noncomputable def m270 (y:PTup i270):R270:=
  let X0:R270:=bif (eqI y.1 3)then (bif (eqI y.1 3)then (some (((2:Int),()),()))else some (((0:Int),()),()))else bif (eqI y.1 15)then (some (((2:Int),()),()))else some (((0:Int),()),());bif (eqI y.1 2)then (bif (eqI y.1 2)then (some (((1:Int),()),()))else X0)else bif (eqI y.1 14)then (bif (eqI y.1 14)then (some (((1:Int),()),()))else X0)else bif (eqI y.1 29)then (some (((1:Int),()),()))else X0
theorem s270 (y):TE [] Tryz.f270 i270 o270 y=m270 y:=by kernel_rfl
noncomputable def r270:F270:=m270
theorem k270:KO (g270 r270):=fk (s270) trivial (by kernel_rfl)
abbrev i211:Ts:=[.a q15, .a q8]
abbrev o211:Ts:=[.v (.int .i64), .v (.int .i64), .v (.int .i64)]
abbrev R211:=Option (PTup o211×BTup i211)
abbrev F211:=PTup i211→R211
abbrev g211:=mkG 211 i211 o211
noncomputable def m211 (c271:F271) (c272:F272) (c270:F270) (y:PTup i211):R211:=
  (c270 (y.1.1,())).bind fun r0=>let X0:R211:=bif (eqI r0.1.1 1)then ((c271 ((wI (y.1.2.1+y.2.1.2.1)),())).bind fun r1=>some ((r0.1.1,(r1.1.1,((0:Int),()))),()))else (c271 ((wI (y.1.2.1+y.2.1.2.1)),())).bind fun r1=>(c272 (y.2.1.1,())).bind fun r2=>some ((r0.1.1,(r1.1.1,r2.1)),());bif (eqI r0.1.1 0)then (some (((0:Int),((0:Int),((0:Int),()))),()))else bif (eqI y.1.1 14)then X0 else bif (eqI y.1.1 15)then X0 else bif (eqI r0.1.1 1)then ((c271 y.1.2).bind fun r1=>some ((r0.1.1,(r1.1.1,((0:Int),()))),()))else (c271 y.1.2).bind fun r1=>(c272 (y.2.1.1,())).bind fun r2=>some ((r0.1.1,(r1.1.1,r2.1)),())
theorem s211 (c271:F271) (c272:F272) (c270:F270) (y):TE [g271 c271,g272 c272,g270 c270] Tryz.f211 i211 o211 y=m211 c271 c272 c270 y:=by kernel_rfl
noncomputable def r211:F211:=m211 r271 r272 r270
theorem k211:KO (g211 r211):=fk (s211 r271 r272 r270) ⟨k271,k272,k270,⟨⟩⟩ (by kernel_rfl)
abbrev i286:Ts:=[.a q2, .v (.int .i64)]
abbrev o286:Ts:=[.a q10, .v (.int .i64)]
abbrev F286:=FT i286 o286
abbrev g286:=mkG 286 i286 o286
noncomputable def m286 (c153:F153) (c167:F167) (c113:F113) (y:PTup i286):Option (PTup o286×BTup i286):=
  (c113 (y.1,())).bind fun r0=>
  (c153 (y.1,())).bind fun r1=>
  bif (!r1.1.1)then (some ((r0.1.1,((0:Int),())),()))
  else bif (eqI y.2.1 2)then ((c167 (y.1.2.2.2.2.2.1,())).bind fun r2=>
   some (((r0.1.1.1,(r0.1.1.2.1,(r0.1.1.2.2.1,(r0.1.1.2.2.2.1,(r0.1.1.2.2.2.2.1,(false,r0.1.1.2.2.2.2.2.2)))))),((wI ((128:Int)*r2.1.1)),())),()))
  else bif (eqI y.2.1 4)then (bif (leI 0 y.1.2.2.2.1)then (bif (ltI y.1.2.2.2.1 (lenI y.1.2.2.2.2.2.2.1))then (some (((r0.1.1.1,(r0.1.1.2.1,(r0.1.1.2.2.1,((Int.tmod (wI (y.1.2.2.2.1+1)) (16:Int)),r0.1.1.2.2.2.2)))),((rdE .i y.1.2.2.2.2.2.2.1 y.1.2.2.2.1),())),()))
    else none)
   else none)
  else some ((r0.1.1,((0:Int),())),())
theorem s286 (c153:F153) (c167:F167) (c113:F113) (y):TE [g153 c153,g167 c167,g113 c113] Tryz.f286 i286 o286 y=m286 c153 c167 c113 y:=by kernel_rfl
noncomputable def r286:F286:=m286 r153 r167 r113
theorem k286:KO (g286 r286):=fk (s286 r153 r167 r113) ⟨k153,k167,k113,⟨⟩⟩ (by kernel_rfl)
abbrev i287:Ts:=[.a q12, .v (.int .i64)]
abbrev o287:Ts:=[.a q12, .v (.int .i64)]
abbrev F287:=FT i287 o287
abbrev g287:=mkG 287 i287 o287
noncomputable def m287 (c154:F154) (c167:F167) (y:PTup i287):Option (PTup o287×BTup i287):=
  (c154 (y.1,())).bind fun r0=>
  bif (!r0.1.1)then (some ((y.1,((0:Int),())),()))
  else bif (neI y.2.1 2)then (some ((y.1,((0:Int),())),()))
  else (c167 y.1.2.2.2.2.2.2).bind fun r1=>
  (c167 ((ltI 0 y.1.2.2.2.2.1),())).bind fun r2=>
  some (((y.1.1,(y.1.2.1,(y.1.2.2.1,(y.1.2.2.2.1,(y.1.2.2.2.2.1,(y.1.2.2.2.2.2.1,(false,()))))))),((wI ((wI ((128:Int)*r1.1.1))+r2.1.1)),())),())
theorem s287 (c154:F154) (c167:F167) (y):TE [g154 c154,g167 c167] Tryz.f287 i287 o287 y=m287 c154 c167 y:=by kernel_rfl
noncomputable def r287:F287:=m287 r154 r167
theorem k287:KO (g287 r287):=fk (s287 r154 r167) ⟨k154,k167,⟨⟩⟩ (by kernel_rfl)
abbrev i168:Ts:=[.v (.int .i64), .v (.int .i64)]
abbrev o168:Ts:=[.v (.int .i64)]
abbrev F168:=FT i168 o168
abbrev g168:=mkG 168 i168 o168
noncomputable def m168 (y:PTup i168):Option (PTup o168×BTup i168):=
  bif (ltI y.2.1 y.1)then (some ((y.1,()),()))
  else some (y.2,())
theorem s168 (y):TE [] Tryz.f168 i168 o168 y=m168 y:=by kernel_rfl
noncomputable def r168:F168:=m168
theorem k168:KO (g168 r168):=fk (s168) trivial (by kernel_rfl)
abbrev i338:Ts:=[.v (.int .i64)]
abbrev o338:Ts:=[.v (.int .i64)]
abbrev F338:=FT i338 o338
abbrev g338:=mkG 338 i338 o338
noncomputable def m338 (c168:F168) (y:PTup i338):Option (PTup o338×BTup i338):=
  (c168 (y.1,((0:Int),()))).bind fun r0=>
  some (((wI (Int.tdiv r0.1.1 64)),()),())
theorem s338 (c168:F168) (y):TE [g168 c168] Tryz.f338 i338 o338 y=m338 c168 y:=by kernel_rfl
noncomputable def r338:F338:=m338 r168
theorem k338:KO (g338 r338):=fk (s338 r168) ⟨k168,⟨⟩⟩ (by kernel_rfl)
abbrev i320:Ts:=[.v (.sl false .i), .v (.int .i64)]
abbrev o320:Ts:=[.v (.int .i64)]
abbrev F320:=FT i320 o320
abbrev g320:=mkG 320 i320 o320
noncomputable def m320 (c338:F338) (c119:F119) (y:PTup i320):Option (PTup o320×BTup i320):=
  (c119 (y.1,())).bind fun r0=>
  bif (!r0.1.1)then (some (((0:Int),()),()))
  else bif (eqI (lenI y.1) 0)then (some (((0:Int),()),()))
  else (c338 y.2).bind fun r1=>
  bif (neI (lenI y.1) 0)then (bif (leI 0 (Int.tmod r1.1.1 (lenI y.1)))then (bif (ltI (Int.tmod r1.1.1 (lenI y.1)) (lenI y.1))then (some (((rdE .i y.1 (Int.tmod r1.1.1 (lenI y.1))),()),()))
    else none)
   else none)
  else none
theorem s320 (c338:F338) (c119:F119) (y):TE [g338 c338,g119 c119] Tryz.f320 i320 o320 y=m320 c338 c119 y:=by kernel_rfl
noncomputable def r320:F320:=m320 r338 r119
theorem k320:KO (g320 r320):=fk (s320 r338 r119) ⟨k338,k119,⟨⟩⟩ (by kernel_rfl)
abbrev i288:Ts:=[.a q9, .v (.sl false .i), .v (.int .i64)]
abbrev o288:Ts:=[.a q9, .v (.int .i64)]
abbrev F288:=FT i288 o288
abbrev g288:=mkG 288 i288 o288
noncomputable def m288 (c320:F320) (y:PTup i288):Option (PTup o288×BTup i288):=
  bif y.1.1 then ((c320 y.2).bind fun r0=>
   some (((y.1.1,r0.1),((bAnd Go.IntKind.i64 r0.1.1 (1:Int)),())),()))
  else some (((y.1.1,((Int.fdiv y.1.2.1 ((2:Int)^(Min.min (Int.toNat (1:Int)) (64:Nat)))),())),((bAnd Go.IntKind.i64 y.1.2.1 (1:Int)),())),())
theorem s288 (c320:F320) (y):TE [g320 c320] Tryz.f288 i288 o288 y=m288 c320 y:=by kernel_rfl
noncomputable def r288:F288:=m288 r320
theorem k288:KO (g288 r288):=fk (s288 r320) ⟨k320,⟨⟩⟩ (by kernel_rfl)
abbrev i279:Ts:=[.a q14, .v (.int .i64)]
abbrev o279:Ts:=[.a q14, .v (.int .i64)]
abbrev F279:=FT i279 o279
abbrev g279:=mkG 279 i279 o279
noncomputable def m279 (c287:F287) (c288:F288) (c286:F286) (c212:F212) (c289:F289) (y:PTup i279):Option (PTup o279×BTup i279):=
  let a0:=y.1;let a1:=a0.2;let a2:=a1.2;let a3:=a2.2;let a4:=a3.2;let a5:=a4.2;let a6:=a5.2;let a7:=a6.2;let a8:=a7.2;let a9:=a8.2;let a10:=a9.2;let a11:=a10.2;let a12:=a11.2;let a13:=a12.2;let a14:=a13.2;let a15:=a14.2;let a16:=a15.2;let a17:=a16.2;let a18:=a17.2;let a19:=a18.2;let a20:=a19.2;let a21:=a20.2;let a22:=a21.2;let a23:=a22.2;let a24:=a23.2;let a25:=a24.2;let a26:=a25.2;let a27:=a26.2;let a28:=a27.2;let a29:=a28.2;let a30:=a29.2;let a31:=a30.2;let a32:=a31.2.2;(c212 y.2).bind fun r0=>
  bif (eqI r0.1.1 2)then ((c286 ((a12.1,(a13.1,(a14.1,(a15.1,(a16.1,(a17.1,(a18.1,(a19.1,())))))))),r0.1.2)).bind fun r1=>
   bif (leN ((List.length a32.1)+(List.length (r1.1.2.1::[]))) (E.most .i))then (some (((a0.1,(a1.1,(a2.1,(a3.1,(a4.1,(a5.1,(a6.1,(a7.1,(a8.1,(a9.1,(a10.1,(a11.1,(r1.1.1.1,(r1.1.1.2.1,(r1.1.1.2.2.1,(r1.1.1.2.2.2.1,(r1.1.1.2.2.2.2.1,(r1.1.1.2.2.2.2.2.1,(r1.1.1.2.2.2.2.2.2.1,(r1.1.1.2.2.2.2.2.2.2.1,(a20.1,(a21.1,(a22.1,(a23.1,(a24.1,(a25.1,(a26.1,(a27.1,(a28.1,(a29.1,(a30.1,(a31.1,(a31.2.1,((a32.1++(r1.1.2.1::[])),())))))))))))))))))))))))))))))))))),r1.1.2),()))
   else none)
  else bif (eqI r0.1.1 3)then ((c287 ((a20.1,(a21.1,(a22.1,(a23.1,(a24.1,(a25.1,(a26.1,()))))))),r0.1.2)).bind fun r1=>
   bif (leN ((List.length a32.1)+(List.length (r1.1.2.1::[]))) (E.most .i))then (some (((a0.1,(a1.1,(a2.1,(a3.1,(a4.1,(a5.1,(a6.1,(a7.1,(a8.1,(a9.1,(a10.1,(a11.1,(a12.1,(a13.1,(a14.1,(a15.1,(a16.1,(a17.1,(a18.1,(a19.1,(r1.1.1.1,(r1.1.1.2.1,(r1.1.1.2.2.1,(r1.1.1.2.2.2.1,(r1.1.1.2.2.2.2.1,(r1.1.1.2.2.2.2.2.1,(r1.1.1.2.2.2.2.2.2.1,(a27.1,(a28.1,(a29.1,(a30.1,(a31.1,(a31.2.1,((a32.1++(r1.1.2.1::[])),())))))))))))))))))))))))))))))))))),r1.1.2),()))
   else none)
  else bif (eqI r0.1.1 4)then ((c288 ((a27.1,(a28.1,())),(a1.1,(a12.1,())))).bind fun r1=>
   bif (leN ((List.length a32.1)+(List.length (r1.1.2.1::[]))) (E.most .i))then (some (((a0.1,(a1.1,(a2.1,(a3.1,(a4.1,(a5.1,(a6.1,(a7.1,(a8.1,(a9.1,(a10.1,(a11.1,(a12.1,(a13.1,(a14.1,(a15.1,(a16.1,(a17.1,(a18.1,(a19.1,(a20.1,(a21.1,(a22.1,(a23.1,(a24.1,(a25.1,(a26.1,(r1.1.1.1,(r1.1.1.2.1,(a29.1,(a30.1,(a31.1,(a31.2.1,((a32.1++(r1.1.2.1::[])),())))))))))))))))))))))))))))))))))),r1.1.2),()))
   else none)
  else (c289 ((a0.1,()),((a2.1,(a3.1,())),y.2))).bind fun r1=>
  some ((a0,r1.1),())
theorem s279 (c287:F287) (c288:F288) (c286:F286) (c212:F212) (c289:F289) (y):TE [g287 c287,g288 c288,g286 c286,g212 c212,g289 c289] Tryz.f279 i279 o279 y=m279 c287 c288 c286 c212 c289 y:=by kernel_rfl
noncomputable def r279:F279:=m279 r287 r288 r286 r212 r289
theorem k279:KO (g279 r279):=fk (s279 r287 r288 r286 r212 r289) ⟨k287,k288,k286,k212,k289,⟨⟩⟩ (by kernel_rfl)
abbrev i241:Ts:=[.a q2, .v (.int .i64), .v (.int .i64)]
abbrev o241:Ts:=[.a q10]
abbrev F241:=FT i241 o241
abbrev g241:=mkG 241 i241 o241
noncomputable def m241 (c272:F272) (c153:F153) (c113:F113) (y:PTup i241):Option (PTup o241×BTup i241):=
  (c113 (y.1,())).bind fun r0=>
  (c153 (y.1,())).bind fun r1=>
  bif (!r1.1.1)then (some ((r0.1.1,()),()))
  else (c272 y.2.2).bind fun r2=>
  bif (eqI y.2.1 0)then (some (((r0.1.1.1,(r2.1.1,r0.1.1.2.2)),()),()))
  else bif (eqI y.2.1 1)then (some (((r0.1.1.1,(r0.1.1.2.1,(r2.1.1,r0.1.1.2.2.2))),()),()))
  else bif (eqI y.2.1 3)then (some (((r0.1.1.1,(r0.1.1.2.1,(r0.1.1.2.2.1,((Int.tmod r2.1.1 16),r0.1.1.2.2.2.2)))),()),()))
  else bif (eqI y.2.1 4)then (bif (leI 0 y.1.2.2.2.1)then (bif (ltI y.1.2.2.2.1 (lenI r0.1.1.2.2.2.2.2.2.1))then (some (((r0.1.1.1,(r0.1.1.2.1,(r0.1.1.2.2.1,((Int.tmod (wI (y.1.2.2.2.1+1)) (16:Int)),(r0.1.1.2.2.2.2.1,(r0.1.1.2.2.2.2.2.1,((List.set r0.1.1.2.2.2.2.2.2.1 (Int.toNat y.1.2.2.2.1) (Int.tmod r2.1.1 64)),r0.1.1.2.2.2.2.2.2.2))))))),()),()))
    else none)
   else none)
  else bif (eqI y.2.1 5)then (some (((r0.1.1.1,(r0.1.1.2.1,(r0.1.1.2.2.1,(r0.1.1.2.2.2.1,((Int.tmod r2.1.1 64),r0.1.1.2.2.2.2.2))))),()),()))
  else some ((r0.1.1,()),())
theorem s241 (c272:F272) (c153:F153) (c113:F113) (y):TE [g272 c272,g153 c153,g113 c113] Tryz.f241 i241 o241 y=m241 c272 c153 c113 y:=by kernel_rfl
noncomputable def r241:F241:=m241 r272 r153 r113
theorem k241:KO (g241 r241):=fk (s241 r272 r153 r113) ⟨k272,k153,k113,⟨⟩⟩ (by kernel_rfl)
abbrev i243:Ts:=[.a q12, .v (.int .i64), .v (.int .i64)]
abbrev o243:Ts:=[.a q12]
abbrev F243:=FT i243 o243
abbrev g243:=mkG 243 i243 o243
noncomputable def m243 (c154:F154) (c272:F272) (y:PTup i243):Option (PTup o243×BTup i243):=
  (c154 (y.1,())).bind fun r0=>
  bif (!r0.1.1)then (some ((y.1,()),()))
  else (c272 y.2.2).bind fun r1=>
  bif (eqI y.2.1 0)then (some (((y.1.1,(r1.1.1,y.1.2.2)),()),()))
  else bif (eqI y.2.1 1)then (some (((y.1.1,(y.1.2.1,(y.1.2.2.1,(y.1.2.2.2.1,((Int.tmod r1.1.1 32),y.1.2.2.2.2.2))))),()),()))
  else bif (eqI y.2.1 2)then (bif y.1.2.2.2.2.2.2.1 then (some (((y.1.1,(y.1.2.1,(y.1.2.2.1,(y.1.2.2.2.1,(y.1.2.2.2.2.1,((eqI (Int.tmod r1.1.1 2) (1:Int)),((eqI (Int.tmod r1.1.1 2) (1:Int)),()))))))),()),()))
   else some (((y.1.1,(y.1.2.1,(y.1.2.2.1,(y.1.2.2.2.1,(y.1.2.2.2.2.1,((eqI (Int.tmod r1.1.1 2) (1:Int)),(false,()))))))),()),()))
  else bif (eqI y.2.1 3)then (some (((y.1.1,(y.1.2.1,(y.1.2.2.1,(y.1.2.2.2.1,(y.1.2.2.2.2.1,(y.1.2.2.2.2.2.1,(false,()))))))),()),()))
  else some ((y.1,()),())
theorem s243 (c154:F154) (c272:F272) (y):TE [g154 c154,g272 c272] Tryz.f243 i243 o243 y=m243 c154 c272 y:=by kernel_rfl
noncomputable def r243:F243:=m243 r154 r272
theorem k243:KO (g243 r243):=fk (s243 r154 r272) ⟨k154,k272,⟨⟩⟩ (by kernel_rfl)
abbrev i290:Ts:=[.a q9, .v (.sl false .i), .v (.int .i64), .v (.int .i64)]
abbrev o290:Ts:=[.a q9]
abbrev F290:=FT i290 o290
abbrev g290:=mkG 290 i290 o290
noncomputable def m290 (c320:F320) (y:PTup i290):Option (PTup o290×BTup i290):=
  bif y.1.1 then ((c320 (y.2.1,(y.2.2.1,()))).bind fun r0=>
   some ((((eqI (bAnd Go.IntKind.i64 y.2.2.2.1 (1:Int)) (1:Int)),r0.1),()),()))
  else bif (eqI (bAnd Go.IntKind.i64 y.2.2.2.1 (1:Int)) (1:Int))then ((c320 (y.2.1,(y.2.2.1,()))).bind fun r0=>
   some ((((eqI (bAnd Go.IntKind.i64 y.2.2.2.1 (1:Int)) (1:Int)),r0.1),()),()))
  else some ((((eqI (bAnd Go.IntKind.i64 y.2.2.2.1 (1:Int)) (1:Int)),y.1.2),()),())
theorem s290 (c320:F320) (y):TE [g320 c320] Tryz.f290 i290 o290 y=m290 c320 y:=by kernel_rfl
noncomputable def r290:F290:=m290 r320
theorem k290:KO (g290 r290):=fk (s290 r320) ⟨k320,⟨⟩⟩ (by kernel_rfl)
abbrev i291:Ts:=[.a q0, .a q1, .v (.int .i64), .v (.int .i64)]
abbrev o291:Ts:=[.a q7]
abbrev R291:=Option (PTup o291×BTup i291)
abbrev F291:=PTup i291→R291
abbrev g291:=mkG 291 i291 o291
noncomputable def m291 (c272:F272) (c120:F120) (c212:F212) (c112:F112) (y:PTup i291):R291:=
  (c112 (y.2.1,())).bind fun r0=>let X0:R291:=(c272 y.2.2.2).bind fun r3=>bif (neI (lenI y.1.1) 0)then (some (((r0.1.1.1,((Int.tmod r3.1.1 (lenI y.1.1)),())),()),()))else none;(c120 (y.1,(y.2.1,()))).bind fun r1=>bif (!r1.1.1)then (some ((r0.1.1,()),()))else (c212 (y.2.2.1,())).bind fun r2=>bif (eqI r2.1.1 1)then ((c272 y.2.2.2).bind fun r3=>bif (leI 0 r2.1.2.1)then (bif (ltI r2.1.2.1 (lenI r0.1.1.1))then (some ((((List.set r0.1.1.1 (Int.toNat r2.1.2.1) r3.1.1),r0.1.1.2),()),()))else none)else none)else bif (eqI r2.1.1 5)then (bif (eqI r2.1.1 5)then X0 else some ((r0.1.1,()),()))else bif (eqI r2.1.1 6)then X0 else some ((r0.1.1,()),())
theorem s291 (c272:F272) (c120:F120) (c212:F212) (c112:F112) (y):TE [g272 c272,g120 c120,g212 c212,g112 c112] Tryz.f291 i291 o291 y=m291 c272 c120 c212 c112 y:=by kernel_rfl
noncomputable def r291:F291:=m291 r272 r120 r212 r112
theorem k291:KO (g291 r291):=fk (s291 r272 r120 r212 r112) ⟨k272,k120,k212,k112,⟨⟩⟩ (by kernel_rfl)
abbrev i280:Ts:=[.a q14, .v (.int .i64), .v (.int .i64)]
abbrev o280:Ts:=[.a q14]
abbrev F280:=FT i280 o280
abbrev g280:=mkG 280 i280 o280
noncomputable def m280 (c243:F243) (c290:F290) (c291:F291) (c241:F241) (c212:F212) (y:PTup i280):Option (PTup o280×BTup i280):=
  let a0:=y.1;let a1:=a0.2;let a2:=a1.2;let a3:=a2.2;let a4:=a3.2;let a5:=a4.2;let a6:=a5.2;let a7:=a6.2;let a8:=a7.2;let a9:=a8.2;let a10:=a9.2;let a11:=a10.2;let a12:=a11.2;let a13:=a12.2;let a14:=a13.2;let a15:=a14.2;let a16:=a15.2;let a17:=a16.2;let a18:=a17.2;let a19:=a18.2;let a20:=a19.2;let a21:=a20.2;let a22:=a21.2;let a23:=a22.2;let a24:=a23.2;let a25:=a24.2.2;(c212 (y.2.1,())).bind fun r0=>
  bif (eqI r0.1.1 2)then ((c241 ((a12.1,(a13.1,(a14.1,(a15.1,(a16.1,(a17.1,(a18.1,(a19.1,())))))))),(r0.1.2.1,y.2.2))).bind fun r1=>
   some (((a0.1,(a1.1,(a2.1,(a3.1,(a4.1,(a5.1,(a6.1,(a7.1,(a8.1,(a9.1,(a10.1,(a11.1,(r1.1.1.1,(r1.1.1.2.1,(r1.1.1.2.2.1,(r1.1.1.2.2.2.1,(r1.1.1.2.2.2.2.1,(r1.1.1.2.2.2.2.2.1,(r1.1.1.2.2.2.2.2.2.1,(r1.1.1.2.2.2.2.2.2.2.1,a20)))))))))))))))))))),()),()))
  else bif (eqI r0.1.1 3)then ((c243 ((a20.1,(a21.1,(a22.1,(a23.1,(a24.1,(a24.2.1,(a25.1,()))))))),(r0.1.2.1,y.2.2))).bind fun r1=>
   some (((a0.1,(a1.1,(a2.1,(a3.1,(a4.1,(a5.1,(a6.1,(a7.1,(a8.1,(a9.1,(a10.1,(a11.1,(a12.1,(a13.1,(a14.1,(a15.1,(a16.1,(a17.1,(a18.1,(a19.1,(r1.1.1.1,(r1.1.1.2.1,(r1.1.1.2.2.1,(r1.1.1.2.2.2.1,(r1.1.1.2.2.2.2.1,(r1.1.1.2.2.2.2.2.1,(r1.1.1.2.2.2.2.2.2.1,a25.2))))))))))))))))))))))))))),()),()))
  else bif (eqI r0.1.1 4)then ((c290 ((a25.2.1,(a25.2.2.1,())),(a1.1,(a12.1,y.2.2)))).bind fun r1=>
   some (((a0.1,(a1.1,(a2.1,(a3.1,(a4.1,(a5.1,(a6.1,(a7.1,(a8.1,(a9.1,(a10.1,(a11.1,(a12.1,(a13.1,(a14.1,(a15.1,(a16.1,(a17.1,(a18.1,(a19.1,(a20.1,(a21.1,(a22.1,(a23.1,(a24.1,(a24.2.1,(a25.1,(r1.1.1.1,(r1.1.1.2.1,a25.2.2.2))))))))))))))))))))))))))))),()),()))
  else (c291 ((a0.1,()),((a2.1,(a3.1,())),y.2))).bind fun r1=>
  some (((a0.1,(a1.1,(r1.1.1.1,(r1.1.1.2.1,a4)))),()),())
theorem s280 (c243:F243) (c290:F290) (c291:F291) (c241:F241) (c212:F212) (y):TE [g243 c243,g290 c290,g291 c291,g241 c241,g212 c212] Tryz.f280 i280 o280 y=m280 c243 c290 c291 c241 c212 y:=by kernel_rfl
noncomputable def r280:F280:=m280 r243 r290 r291 r241 r212
theorem k280:KO (g280 r280):=fk (s280 r243 r290 r291 r241 r212) ⟨k243,k290,k291,k241,k212,⟨⟩⟩ (by kernel_rfl)
abbrev i323:Ts:=[.v (.int .i64)]
abbrev o323:Ts:=[.v (.bool), .v (.bool)]
abbrev F323:=FT i323 o323
abbrev g323:=mkG 323 i323 o323
noncomputable def m323 (c272:F272) (y:PTup i323):Option (PTup o323×BTup i323):=
  (c272 y).bind fun r0=>
  (c272 y).bind fun r1=>
  some (((eqI r0.1.1 0),((ltI 127 r1.1.1),())),())
theorem s323 (c272:F272) (y):TE [g272 c272] Tryz.f323 i323 o323 y=m323 c272 y:=by kernel_rfl
noncomputable def r323:F323:=m323 r272
theorem k323:KO (g323 r323):=fk (s323 r272) ⟨k272,⟨⟩⟩ (by kernel_rfl)
abbrev i295:Ts:=[.a q8, .v (.int .i64)]
abbrev o295:Ts:=[.a q8]
abbrev F295:=FT i295 o295
abbrev g295:=mkG 295 i295 o295
noncomputable def m295 (c272:F272) (c323:F323) (y:PTup i295):Option (PTup o295×BTup i295):=
  (c272 y.2).bind fun r0=>
  (c323 y.2).bind fun r1=>
  some (((r0.1.1,(y.1.2.1,(y.1.2.2.1,(y.1.2.2.2.1,(r1.1.1,(r1.1.2.1,y.1.2.2.2.2.2.2)))))),()),())
theorem s295 (c272:F272) (c323:F323) (y):TE [g272 c272,g323 c323] Tryz.f295 i295 o295 y=m295 c272 c323 y:=by kernel_rfl
noncomputable def r295:F295:=m295 r272 r323
theorem k295:KO (g295 r295):=fk (s295 r272 r323) ⟨k272,k323,⟨⟩⟩ (by kernel_rfl)
abbrev i339:Ts:=[.v (.int .i64), .v (.int .i64), .v (.bool)]
abbrev o339:Ts:=[.v (.int .i64), .v (.bool)]
abbrev F339:=FT i339 o339
abbrev g339:=mkG 339 i339 o339
noncomputable def m339 (c272:F272) (c167:F167) (y:PTup i339):Option (PTup o339×BTup i339):=
  (c272 (y.1,())).bind fun r0=>
  (c272 (y.2.1,())).bind fun r1=>
  (c167 y.2.2).bind fun r2=>
  (c272 ((wI ((wI (r0.1.1+r1.1.1))+r2.1.1)),())).bind fun r3=>
  some ((r3.1.1,((ltI 255 (wI ((wI (r0.1.1+r1.1.1))+r2.1.1))),())),())
theorem s339 (c272:F272) (c167:F167) (y):TE [g272 c272,g167 c167] Tryz.f339 i339 o339 y=m339 c272 c167 y:=by kernel_rfl
noncomputable def r339:F339:=m339 r272 r167
theorem k339:KO (g339 r339):=fk (s339 r272 r167) ⟨k272,k167,⟨⟩⟩ (by kernel_rfl)
abbrev i321:Ts:=[.a q8, .v (.int .i64)]
abbrev o321:Ts:=[.a q8]
abbrev F321:=FT i321 o321
abbrev g321:=mkG 321 i321 o321
noncomputable def m321 (c339:F339) (c295:F295) (y:PTup i321):Option (PTup o321×BTup i321):=
  (c339 (y.1.1,(y.2.1,(y.1.2.2.2.2.2.2.1,())))).bind fun r0=>
  (c295 (y.1,(r0.1.1,()))).bind fun r1=>
  some (((r1.1.1.1,(r1.1.1.2.1,(r1.1.1.2.2.1,(r1.1.1.2.2.2.1,(r1.1.1.2.2.2.2.1,(r1.1.1.2.2.2.2.2.1,(r0.1.2.1,r1.1.1.2.2.2.2.2.2.2))))))),()),())
theorem s321 (c339:F339) (c295:F295) (y):TE [g339 c339,g295 c295] Tryz.f321 i321 o321 y=m321 c339 c295 y:=by kernel_rfl
noncomputable def r321:F321:=m321 r339 r295
theorem k321:KO (g321 r321):=fk (s321 r339 r295) ⟨k339,k295,⟨⟩⟩ (by kernel_rfl)
abbrev i322:Ts:=[.v (.int .i64), .v (.int .i64), .v (.bool)]
abbrev o322:Ts:=[.v (.int .i64), .v (.bool)]
abbrev F322:=FT i322 o322
abbrev g322:=mkG 322 i322 o322
noncomputable def m322 (c272:F272) (c167:F167) (y:PTup i322):Option (PTup o322×BTup i322):=
  (c272 (y.1,())).bind fun r0=>
  (c272 (y.2.1,())).bind fun r1=>
  (c167 y.2.2).bind fun r2=>
  (c272 ((wI ((wI ((wI (r0.1.1-r1.1.1))-1))+r2.1.1)),())).bind fun r3=>
  some ((r3.1.1,((leI 0 (wI ((wI ((wI (r0.1.1-r1.1.1))-1))+r2.1.1))),())),())
theorem s322 (c272:F272) (c167:F167) (y):TE [g272 c272,g167 c167] Tryz.f322 i322 o322 y=m322 c272 c167 y:=by kernel_rfl
noncomputable def r322:F322:=m322 r272 r167
theorem k322:KO (g322 r322):=fk (s322 r272 r167) ⟨k272,k167,⟨⟩⟩ (by kernel_rfl)
abbrev i324:Ts:=[.a q8, .v (.int .i64)]
abbrev o324:Ts:=[.a q8]
abbrev F324:=FT i324 o324
abbrev g324:=mkG 324 i324 o324
noncomputable def m324 (c272:F272) (c323:F323) (y:PTup i324):Option (PTup o324×BTup i324):=
  (c272 y.2).bind fun r0=>
  (c323 y.2).bind fun r1=>
  some (((y.1.1,(r0.1.1,(y.1.2.2.1,(y.1.2.2.2.1,(r1.1.1,(r1.1.2.1,y.1.2.2.2.2.2.2)))))),()),())
theorem s324 (c272:F272) (c323:F323) (y):TE [g272 c272,g323 c323] Tryz.f324 i324 o324 y=m324 c272 c323 y:=by kernel_rfl
noncomputable def r324:F324:=m324 r272 r323
theorem k324:KO (g324 r324):=fk (s324 r272 r323) ⟨k272,k323,⟨⟩⟩ (by kernel_rfl)
abbrev i292:Ts:=[.a q8, .a q15, .v (.int .i64)]
abbrev o292:Ts:=[.a q8, .v (.bool)]
abbrev R292:=Option (PTup o292×BTup i292)
abbrev F292:=PTup i292→R292
abbrev g292:=mkG 292 i292 o292
noncomputable def m292 (c272:F272) (c295:F295) (c324:F324) (c323:F323) (c322:F322) (c321:F321) (y:PTup i292):R292:=
  let X0:R292:=bif (eqI y.2.1.1 4)then ((c321 (y.1,y.2.1.2)).bind fun r0=>some ((r0.1.1,(true,())),()))else bif (eqI y.2.1.1 29)then ((c321 (y.1,y.2.2)).bind fun r0=>some ((r0.1.1,(true,())),()))else bif (eqI y.2.1.1 5)then ((c322 (y.1.1,(y.2.1.2.1,(y.1.2.2.2.2.2.2.1,())))).bind fun r0=>(c295 (y.1,(r0.1.1,()))).bind fun r1=>some (((r1.1.1.1,(r1.1.1.2.1,(r1.1.1.2.2.1,(r1.1.1.2.2.2.1,(r1.1.1.2.2.2.2.1,(r1.1.1.2.2.2.2.2.1,(r0.1.2.1,r1.1.1.2.2.2.2.2.2.2))))))),(true,())),()))else bif (eqI y.2.1.1 6)then ((c272 (y.1.1,())).bind fun r0=>(c272 y.2.1.2).bind fun r1=>(c295 (y.1,((bAnd Go.IntKind.i64 r0.1.1 r1.1.1),()))).bind fun r2=>some ((r2.1.1,(true,())),()))else bif (eqI y.2.1.1 7)then ((c272 (y.1.1,())).bind fun r0=>(c272 y.2.1.2).bind fun r1=>(c295 (y.1,((bOr Go.IntKind.i64 r0.1.1 r1.1.1),()))).bind fun r2=>some ((r2.1.1,(true,())),()))else bif (eqI y.2.1.1 8)then ((c272 (y.1.1,())).bind fun r0=>(c272 y.2.1.2).bind fun r1=>(c295 (y.1,((bXor Go.IntKind.i64 r0.1.1 r1.1.1),()))).bind fun r2=>some ((r2.1.1,(true,())),()))else bif (eqI y.2.1.1 9)then ((c272 (y.1.1,())).bind fun r0=>(c272 y.2.1.2).bind fun r1=>(c323 ((wI (r0.1.1-r1.1.1)),())).bind fun r2=>(c272 (y.1.1,())).bind fun r3=>(c272 y.2.1.2).bind fun r4=>some (((y.1.1,(y.1.2.1,(y.1.2.2.1,(y.1.2.2.2.1,(r2.1.1,(r2.1.2.1,((leI r4.1.1 r3.1.1),y.1.2.2.2.2.2.2.2))))))),(true,())),()))else bif (eqI y.2.1.1 10)then ((c324 (y.1,(y.1.1,()))).bind fun r0=>some ((r0.1.1,(true,())),()))else bif (eqI y.2.1.1 11)then ((c295 (y.1,(y.1.2.1,()))).bind fun r0=>some ((r0.1.1,(true,())),()))else bif (eqI y.2.1.1 12)then ((c272 (y.1.2.1,())).bind fun r0=>(c324 (y.1,((wI (r0.1.1+1)),()))).bind fun r1=>some ((r1.1.1,(true,())),()))else bif (eqI y.2.1.1 13)then ((c272 (y.1.2.1,())).bind fun r0=>(c324 (y.1,((wI (r0.1.1-1)),()))).bind fun r1=>some ((r1.1.1,(true,())),()))else some ((y.1,(false,())),());bif (eqI y.2.1.1 1)then ((c295 (y.1,y.2.1.2)).bind fun r0=>some ((r0.1.1,(true,())),()))else bif (eqI y.2.1.1 2)then (bif (eqI y.2.1.1 2)then ((c295 (y.1,y.2.2)).bind fun r0=>some ((r0.1.1,(true,())),()))else X0)else bif (eqI y.2.1.1 14)then ((c295 (y.1,y.2.2)).bind fun r0=>some ((r0.1.1,(true,())),()))else X0
theorem s292 (c272:F272) (c295:F295) (c324:F324) (c323:F323) (c322:F322) (c321:F321) (y):TE [g272 c272,g295 c295,g324 c324,g323 c323,g322 c322,g321 c321] Tryz.f292 i292 o292 y=m292 c272 c295 c324 c323 c322 c321 y:=by kernel_rfl
noncomputable def r292:F292:=m292 r272 r295 r324 r323 r322 r321
theorem k292:KO (g292 r292):=fk (s292 r272 r295 r324 r323 r322 r321) ⟨k272,k295,k324,k323,k322,k321,⟨⟩⟩ (by kernel_rfl)
abbrev i294:Ts:=[.a q1, .a q8]
abbrev o294:Ts:=[.a q8, .v (.int .i64)]
abbrev F294:=FT i294 o294
abbrev g294:=mkG 294 i294 o294
noncomputable def m294 (c272:F272) (y:PTup i294):Option (PTup o294×BTup i294):=
  bif (neI (lenI y.1.1) 512)then (some ((y.2.1,((0:Int),())),()))
  else (c272 ((wI (y.2.1.2.2.1+1)),())).bind fun r0=>
  bif (leI 0 (wI ((256:Int)+r0.1.1)))then (bif (ltI (wI ((256:Int)+r0.1.1)) (lenI y.1.1))then ((c272 ((rdE .i y.1.1 (wI ((256:Int)+r0.1.1))),())).bind fun r1=>
    some (((y.2.1.1,(y.2.1.2.1,(r0.1.1,y.2.1.2.2.2))),r1.1),()))
   else none)
  else none
theorem s294 (c272:F272) (y):TE [g272 c272] Tryz.f294 i294 o294 y=m294 c272 y:=by kernel_rfl
noncomputable def r294:F294:=m294 r272
theorem k294:KO (g294 r294):=fk (s294 r272) ⟨k272,⟨⟩⟩ (by kernel_rfl)
abbrev i293:Ts:=[.a q1, .a q8]
abbrev o293:Ts:=[.a q8]
abbrev F293:=FT i293 o293
abbrev g293:=mkG 293 i293 o293
noncomputable def m293 (c269:F269) (c294:F294) (y:PTup i293):Option (PTup o293×BTup i293):=
  (c294 (y.1,(y.2.1,()))).bind fun r0=>
  (c294 (y.1,(r0.1.1,()))).bind fun r1=>
  (c269 (r0.1.2.1,r1.1.2)).bind fun r2=>
  some (((r1.1.1.1,(r1.1.1.2.1,(r1.1.1.2.2.1,(r2.1.1,r1.1.1.2.2.2.2)))),()),())
theorem s293 (c269:F269) (c294:F294) (y):TE [g269 c269,g294 c294] Tryz.f293 i293 o293 y=m293 c269 c294 y:=by kernel_rfl
noncomputable def r293:F293:=m293 r269 r294
theorem k293:KO (g293 r293):=fk (s293 r269 r294) ⟨k269,k294,⟨⟩⟩ (by kernel_rfl)
abbrev i296:Ts:=[.a q8, .v (.int .i64)]
abbrev o296:Ts:=[.a q8]
abbrev F296:=FT i296 o296
abbrev g296:=mkG 296 i296 o296
noncomputable def m296 (y:PTup i296):Option (PTup o296×BTup i296):=
  some (((y.1.1,(y.1.2.1,(y.1.2.2.1,(y.1.2.2.2.1,((neI (bAnd Go.IntKind.i64 y.2.1 (2:Int)) (0:Int)),((neI (bAnd Go.IntKind.i64 y.2.1 (128:Int)) (0:Int)),((neI (bAnd Go.IntKind.i64 y.2.1 (1:Int)) (0:Int)),((neI (bAnd Go.IntKind.i64 y.2.1 (4:Int)) (0:Int)),())))))))),()),())
theorem s296 (y):TE [] Tryz.f296 i296 o296 y=m296 y:=by kernel_rfl
noncomputable def r296:F296:=m296
theorem k296:KO (g296 r296):=fk (s296) trivial (by kernel_rfl)
abbrev i237:Ts:=[.a q1, .a q8, .a q15, .v (.int .i64)]
abbrev o237:Ts:=[.a q7, .a q8]
abbrev R237:=Option (PTup o237×BTup i237)
abbrev F237:=PTup i237→R237
abbrev g237:=mkG 237 i237 o237
noncomputable def m237 (c271:F271) (c268:F268) (c294:F294) (c285:F285) (c295:F295) (c296:F296) (c112:F112) (c292:F292) (c293:F293) (y:PTup i237):R237:=
  let a0:=y.2;let a1:=a0.1;let a2:=a0.2;let a3:=a1.1;let a4:=a1.2;let a5:=a2.1;let a6:=a4.1;let a7:=a4.2;let a8:=a5.1;let a9:=a7.1;let a10:=a7.2;let a11:=a10.2;let a12:=a11.2;(c112 (y.1,())).bind fun r0=>let X0:R237:=(c271 a5.2).bind fun r4=>some ((r0.1.1,((a3,(a6,(a9,(r4.1.1,a11)))),())),());(c268 (a8,())).bind fun r1=>(c271 ((wI (a10.1+r1.1.1)),())).bind fun r2=>let X1:R237:=bif (eqI a8 20)then ((c285 (r0.1.1,((a3,(a6,(a9,(r2.1.1,a11)))),((Int.fdiv r2.1.1 ((2:Int)^(Min.min (Int.toNat (8:Int)) (64:Nat)))),())))).bind fun r4=>(c285 (r4.1.1,(r4.1.2.1,(r4.1.2.1.2.2.2.1,())))).bind fun r5=>(c271 a5.2).bind fun r6=>some ((r5.1.1,((r5.1.2.1.1,(r5.1.2.1.2.1,(r5.1.2.1.2.2.1,(r6.1.1,r5.1.2.1.2.2.2.2)))),())),()))else bif (eqI a8 21)then ((c293 (y.1,((a3,(a6,(a9,(r2.1.1,a11)))),()))).bind fun r4=>some ((r0.1.1,(r4.1.1,())),()))else bif (eqI a8 22)then ((c285 (r0.1.1,((a3,(a6,(a9,(r2.1.1,a11)))),(a3,())))).bind fun r4=>some ((r4.1.1,(r4.1.2.1,())),()))else bif (eqI a8 23)then ((c294 (y.1,((a3,(a6,(a9,(r2.1.1,a11)))),()))).bind fun r4=>(c295 r4.1).bind fun r5=>some ((r0.1.1,(r5.1.1,())),()))else bif (eqI a8 24)then ((c294 (y.1,((a3,(a6,(a9,(r2.1.1,a11)))),()))).bind fun r4=>(c296 r4.1).bind fun r5=>(c293 (y.1,(r5.1.1,()))).bind fun r6=>some ((r0.1.1,(r6.1.1,())),()))else bif (eqI a8 25)then (bif (eqI a8 25)then (some ((r0.1.1,((a3,(a6,(a9,(r2.1.1,(a11.1,(a12.1,(a12.2.1,((eqI a8 25),())))))))),())),()))else bif (eqI a8 27)then (bif (eqI a8 27)then (some ((r0.1.1,((a3,(a6,(a9,(r2.1.1,(a11.1,(a12.1,((eqI a8 27),a12.2.2))))))),())),()))else some ((r0.1.1,((a3,(a6,(a9,(r2.1.1,a11)))),())),()))else bif (eqI a8 28)then (some ((r0.1.1,((a3,(a6,(a9,(r2.1.1,(a11.1,(a12.1,((eqI a8 27),a12.2.2))))))),())),()))else some ((r0.1.1,((a3,(a6,(a9,(r2.1.1,a11)))),())),()))else bif (eqI a8 26)then (some ((r0.1.1,((a3,(a6,(a9,(r2.1.1,(a11.1,(a12.1,(a12.2.1,((eqI a8 25),())))))))),())),()))else bif (eqI a8 27)then (bif (eqI a8 27)then (some ((r0.1.1,((a3,(a6,(a9,(r2.1.1,(a11.1,(a12.1,((eqI a8 27),a12.2.2))))))),())),()))else some ((r0.1.1,((a3,(a6,(a9,(r2.1.1,a11)))),())),()))else bif (eqI a8 28)then (some ((r0.1.1,((a3,(a6,(a9,(r2.1.1,(a11.1,(a12.1,((eqI a8 27),a12.2.2))))))),())),()))else some ((r0.1.1,((a3,(a6,(a9,(r2.1.1,a11)))),())),());let X2:R237:=bif (eqI a8 17)then (bif a11.1 then X0 else bif (eqI a8 18)then (bif a12.2.1 then X0 else bif (eqI a8 19)then X0 else some ((r0.1.1,((a3,(a6,(a9,(r2.1.1,a11)))),())),()))else bif (eqI a8 19)then X0 else some ((r0.1.1,((a3,(a6,(a9,(r2.1.1,a11)))),())),()))else bif (eqI a8 18)then (bif a12.2.1 then X0 else bif (eqI a8 19)then X0 else some ((r0.1.1,((a3,(a6,(a9,(r2.1.1,a11)))),())),()))else bif (eqI a8 19)then X0 else some ((r0.1.1,((a3,(a6,(a9,(r2.1.1,a11)))),())),());let X3:R237:=bif (eqI a8 16)then (bif (!a11.1)then X0 else X2)else X2;(c292 ((a3,(a6,(a9,(r2.1.1,a11)))),a2)).bind fun r3=>bif r3.1.2.1 then (some ((r0.1.1,(r3.1.1,())),()))else bif (eqI a8 16)then (bif (eqI a8 16)then X3 else X1)else bif (eqI a8 17)then (bif (eqI a8 17)then X3 else X1)else bif (eqI a8 18)then (bif (eqI a8 18)then X3 else X1)else bif (eqI a8 19)then X3 else X1
theorem s237 (c271:F271) (c268:F268) (c294:F294) (c285:F285) (c295:F295) (c296:F296) (c112:F112) (c292:F292) (c293:F293) (y):TE [g271 c271,g268 c268,g294 c294,g285 c285,g295 c295,g296 c296,g112 c112,g292 c292,g293 c293] Tryz.f237 i237 o237 y=m237 c271 c268 c294 c285 c295 c296 c112 c292 c293 y:=by kernel_rfl
noncomputable def r237:F237:=m237 r271 r268 r294 r285 r295 r296 r112 r292 r293
theorem k237:KO (g237 r237):=fk (s237 r271 r268 r294 r285 r295 r296 r112 r292 r293) ⟨k271,k268,k294,k285,k295,k296,k112,k292,k293,⟨⟩⟩ (by kernel_rfl)
abbrev i213:Ts:=[.v (.int .i64)]
abbrev o213:Ts:=[.v (.int .i64)]
abbrev F213:=FT i213 o213
abbrev g213:=mkG 213 i213 o213
noncomputable def m213 (c125:F125) (y:PTup i213):Option (PTup o213×BTup i213):=
  (c125 (y.1,((0:Int),((29:Int),())))).bind fun r0=>
  bif (!r0.1.1)then (some (((2:Int),()),()))
  else bif (leI 0 y.1)then (bif (ltI y.1 (lenI ((2:Int)::((2:Int)::((4:Int)::((4:Int)::((2:Int)::((2:Int)::((2:Int)::((2:Int)::((2:Int)::((2:Int)::((2:Int)::((2:Int)::((2:Int)::((2:Int)::((4:Int)::((5:Int)::((3:Int)::((3:Int)::((3:Int)::((3:Int)::((6:Int)::((6:Int)::((3:Int)::((4:Int)::((6:Int)::((2:Int)::((2:Int)::((2:Int)::((2:Int)::((4:Int)::[]))))))))))))))))))))))))))))))))then (some (((rdE .i ((2:Int)::((2:Int)::((4:Int)::((4:Int)::((2:Int)::((2:Int)::((2:Int)::((2:Int)::((2:Int)::((2:Int)::((2:Int)::((2:Int)::((2:Int)::((2:Int)::((4:Int)::((5:Int)::((3:Int)::((3:Int)::((3:Int)::((3:Int)::((6:Int)::((6:Int)::((3:Int)::((4:Int)::((6:Int)::((2:Int)::((2:Int)::((2:Int)::((2:Int)::((4:Int)::[])))))))))))))))))))))))))))))) y.1),()),()))
   else none)
  else none
theorem s213 (c125:F125) (y):TE [g125 c125] Tryz.f213 i213 o213 y=m213 c125 y:=by kernel_rfl
noncomputable def r213:F213:=m213 r125
theorem k213:KO (g213 r213):=fk (s213 r125) ⟨k125,⟨⟩⟩ (by kernel_rfl)
abbrev i219:Ts:=[.a q14]
abbrev o219:Ts:=[.a q14, .v (.int .i64)]
abbrev R219:=Option (PTup o219×BTup i219)
abbrev F219:=PTup i219→R219
abbrev g219:=mkG 219 i219 o219
noncomputable def m219 (c211:F211) (c233:F233) (c237:F237) (c210:F210) (c213:F213) (c279:F279) (c280:F280) (y:PTup i219):R219:=
  let a0:=y.1;let a1:=a0.2;let a2:=a1.2;let a3:=a2.2;let a4:=a3.2;let a5:=a4.2;let a6:=a5.2;let a7:=a6.2;let a8:=a7.2;let a9:=a8.2;let a10:=a9.2;let a11:=a10.2;let a12:=a11.2;let a13:=a12.2;let a14:=a13.2;let a15:=a14.2;let a16:=a15.2;let a17:=a16.2;let a18:=a17.2;let a19:=a18.2;let a20:=a19.2;let a21:=a20.2;let a22:=a21.2;let a23:=a22.2.2;let a24:=a23.2.2;let X0:R219:=(c210 ((a0.1,()),((a2.1,(a3.1,())),(a7.1,())))).bind fun r0=>(c211 (r0.1.1,((a4.1,(a5.1,(a6.1,(a7.1,(a8.1,(a9.1,(a10.1,(a11.1,())))))))),()))).bind fun r1=>bif (eqI r1.1.1 1)then ((c279 (a0,(r1.1.2.1,()))).bind fun r2=>(c237 ((r2.1.1.2.2.1,(r2.1.1.2.2.2.1,())),((r2.1.1.2.2.2.2.1,(r2.1.1.2.2.2.2.2.1,(r2.1.1.2.2.2.2.2.2.1,(r2.1.1.2.2.2.2.2.2.2.1,(r2.1.1.2.2.2.2.2.2.2.2.1,(r2.1.1.2.2.2.2.2.2.2.2.2.1,(r2.1.1.2.2.2.2.2.2.2.2.2.2.1,(r2.1.1.2.2.2.2.2.2.2.2.2.2.2.1,())))))))),(r0.1.1,r2.1.2)))).bind fun r3=>(c213 (r0.1.1.1,())).bind fun r4=>some (((r2.1.1.1,(r2.1.1.2.1,(r3.1.1.1,(r3.1.1.2.1,(r3.1.2.1.1,(r3.1.2.1.2.1,(r3.1.2.1.2.2.1,(r3.1.2.1.2.2.2.1,(r3.1.2.1.2.2.2.2.1,(r3.1.2.1.2.2.2.2.2.1,(r3.1.2.1.2.2.2.2.2.2.1,(r3.1.2.1.2.2.2.2.2.2.2.1,r2.1.1.2.2.2.2.2.2.2.2.2.2.2.2)))))))))))),r4.1),()))else bif (eqI r1.1.1 2)then ((c280 (a0,r1.1.2)).bind fun r2=>(c237 ((r2.1.1.2.2.1,(r2.1.1.2.2.2.1,())),((r2.1.1.2.2.2.2.1,(r2.1.1.2.2.2.2.2.1,(r2.1.1.2.2.2.2.2.2.1,(r2.1.1.2.2.2.2.2.2.2.1,(r2.1.1.2.2.2.2.2.2.2.2.1,(r2.1.1.2.2.2.2.2.2.2.2.2.1,(r2.1.1.2.2.2.2.2.2.2.2.2.2.1,(r2.1.1.2.2.2.2.2.2.2.2.2.2.2.1,())))))))),(r0.1.1,((0:Int),()))))).bind fun r3=>(c213 (r0.1.1.1,())).bind fun r4=>some (((r2.1.1.1,(r2.1.1.2.1,(r3.1.1.1,(r3.1.1.2.1,(r3.1.2.1.1,(r3.1.2.1.2.1,(r3.1.2.1.2.2.1,(r3.1.2.1.2.2.2.1,(r3.1.2.1.2.2.2.2.1,(r3.1.2.1.2.2.2.2.2.1,(r3.1.2.1.2.2.2.2.2.2.1,(r3.1.2.1.2.2.2.2.2.2.2.1,r2.1.1.2.2.2.2.2.2.2.2.2.2.2.2)))))))))))),r4.1),()))else (c237 ((a2.1,(a3.1,())),((a4.1,(a5.1,(a6.1,(a7.1,(a8.1,(a9.1,(a10.1,(a11.1,())))))))),(r0.1.1,((0:Int),()))))).bind fun r2=>(c213 (r0.1.1.1,())).bind fun r3=>some (((a0.1,(a1.1,(r2.1.1.1,(r2.1.1.2.1,(r2.1.2.1.1,(r2.1.2.1.2.1,(r2.1.2.1.2.2.1,(r2.1.2.1.2.2.2.1,(r2.1.2.1.2.2.2.2.1,(r2.1.2.1.2.2.2.2.2.1,(r2.1.2.1.2.2.2.2.2.2.1,(r2.1.2.1.2.2.2.2.2.2.2.1,a12)))))))))))),r3.1),());bif a24.2.2.2.1 then ((c233 ((a0.1,()),((a2.1,(a3.1,())),((a4.1,(a5.1,(a6.1,(a7.1,(a8.1,(a9.1,(a10.1,(a11.1,())))))))),((65530:Int),()))))).bind fun r0=>some (((a0.1,(a1.1,(r0.1.1.1,(r0.1.1.2.1,(r0.1.2.1.1,(r0.1.2.1.2.1,(r0.1.2.1.2.2.1,(r0.1.2.1.2.2.2.1,(r0.1.2.1.2.2.2.2.1,(r0.1.2.1.2.2.2.2.2.1,(r0.1.2.1.2.2.2.2.2.2.1,(r0.1.2.1.2.2.2.2.2.2.2.1,(a12.1,(a13.1,(a14.1,(a15.1,(a16.1,(a17.1,(a18.1,(a19.1,(a20.1,(a21.1,(a22.1,(a22.2.1,(a23.1,(a23.2.1,(a24.1,(a24.2.1,(a24.2.2.1,(false,a24.2.2.2.2)))))))))))))))))))))))))))))),((7:Int),())),()))else bif a24.1 then (bif (!a11.1)then ((c233 ((a0.1,()),((a2.1,(a3.1,())),((a4.1,(a5.1,(a6.1,(a7.1,(a8.1,(a9.1,(a10.1,(a11.1,())))))))),((65534:Int),()))))).bind fun r0=>some (((a0.1,(a1.1,(r0.1.1.1,(r0.1.1.2.1,(r0.1.2.1.1,(r0.1.2.1.2.1,(r0.1.2.1.2.2.1,(r0.1.2.1.2.2.2.1,(r0.1.2.1.2.2.2.2.1,(r0.1.2.1.2.2.2.2.2.1,(r0.1.2.1.2.2.2.2.2.2.1,(r0.1.2.1.2.2.2.2.2.2.2.1,a12)))))))))))),((7:Int),())),()))else X0)else X0
theorem s219 (c211:F211) (c233:F233) (c237:F237) (c210:F210) (c213:F213) (c279:F279) (c280:F280) (y):TE [g211 c211,g233 c233,g237 c237,g210 c210,g213 c213,g279 c279,g280 c280] Tryz.f219 i219 o219 y=m219 c211 c233 c237 c210 c213 c279 c280 y:=by kernel_rfl
noncomputable def r219:F219:=m219 r211 r233 r237 r210 r213 r279 r280
theorem k219:KO (g219 r219):=fk (s219 r211 r233 r237 r210 r213 r279 r280) ⟨k211,k233,k237,k210,k213,k279,k280,⟨⟩⟩ (by kernel_rfl)
abbrev i300:Ts:=[.a q2, .v (.int .i64)]
abbrev o300:Ts:=[.v (.int .i64)]
abbrev F300:=FT i300 o300
abbrev g300:=mkG 300 i300 o300
noncomputable def m300 (y:PTup i300):Option (PTup o300×BTup i300):=
  bif (leI 0 (Int.tmod (wI ((wI ((Int.tmod y.2.1 8)+y.1.2.2.1))+(wI (Int.tdiv y.2.1 8)))) (16:Int)))then (bif (ltI (Int.tmod (wI ((wI ((Int.tmod y.2.1 8)+y.1.2.2.1))+(wI (Int.tdiv y.2.1 8)))) (16:Int)) (lenI y.1.2.2.2.2.2.2.1))then (some (((bXor Go.IntKind.i64 (rdE .i y.1.2.2.2.2.2.2.1 (Int.tmod (wI ((wI ((Int.tmod y.2.1 8)+y.1.2.2.1))+(wI (Int.tdiv y.2.1 8)))) (16:Int))) y.1.2.2.2.2.1),()),()))
   else none)
  else none
theorem s300 (y):TE [] Tryz.f300 i300 o300 y=m300 y:=by kernel_rfl
noncomputable def r300:F300:=m300
theorem k300:KO (g300 r300):=fk (s300) trivial (by kernel_rfl)
abbrev i242:Ts:=[.a q2]
abbrev o242:Ts:=[.a q10, .v (.sl true .i), .v (.bool)]
abbrev F242:=FT i242 o242
abbrev g242:=mkG 242 i242 o242
noncomputable def m242 (c113:F113) (c300:F300) (y:PTup i242):Option (PTup o242×BTup i242):=
  (c113 (y.1,())).bind fun r0=>
  bif (eqI y.1.1 20000)then (some ((r0.1.1,([],(false,()))),()))
  else bif (ltI (Int.tmod y.1.1 64) (48:Int))then ((c300 (y.1,((Int.tmod y.1.1 64),()))).bind fun r1=>
   bif (leN ((List.length r0.1.1.2.2.2.2.2.2.2.1)+(List.length (r1.1.1::[]))) (E.most .i))then (some ((((wI (y.1.1+1)),(r0.1.1.2.1,(r0.1.1.2.2.1,(r0.1.1.2.2.2.1,(r0.1.1.2.2.2.2.1,(r0.1.1.2.2.2.2.2.1,(r0.1.1.2.2.2.2.2.2.1,((r0.1.1.2.2.2.2.2.2.2.1++(r1.1.1::[])),())))))))),([],(false,()))),()))
   else none)
  else bif (eqI (Int.tmod y.1.1 64) (48:Int))then (bif (leN (0+(List.length y.1.2.2.2.2.2.2.2.1)) (E.most .i))then (some ((((wI (y.1.1+1)),(r0.1.1.2.1,(r0.1.1.2.2.1,(r0.1.1.2.2.2.1,(r0.1.1.2.2.2.2.1,(true,(r0.1.1.2.2.2.2.2.2.1,([],())))))))),(([]++y.1.2.2.2.2.2.2.2.1),((ltI 127 y.1.2.1),()))),()))
   else none)
  else bif (eqI (Int.tmod y.1.1 64) (63:Int))then (some ((((wI (y.1.1+1)),(r0.1.1.2.1,(r0.1.1.2.2.1,(r0.1.1.2.2.2.1,(r0.1.1.2.2.2.2.1,(false,r0.1.1.2.2.2.2.2.2)))))),([],(false,()))),()))
  else some ((((wI (y.1.1+1)),r0.1.1.2),([],(false,()))),())
theorem s242 (c113:F113) (c300:F300) (y):TE [g113 c113,g300 c300] Tryz.f242 i242 o242 y=m242 c113 c300 y:=by kernel_rfl
noncomputable def r242:F242:=m242 r113 r300
theorem k242:KO (g242 r242):=fk (s242 r113 r300) ⟨k113,k300,⟨⟩⟩ (by kernel_rfl)
abbrev i244:Ts:=[.a q12]
abbrev o244:Ts:=[.a q12, .v (.int .i64), .v (.bool)]
abbrev R244:=Option (PTup o244×BTup i244)
abbrev F244:=PTup i244→R244
abbrev g244:=mkG 244 i244 o244
noncomputable def m244 (y:PTup i244):R244:=
  let a0:=y.1;let a1:=a0.1;let a2:=a0.2;let a3:=a2.1;let a4:=a2.2;let a5:=a4.1;let a6:=a4.2;let a7:=a6.1;let a8:=a6.2;let a9:=a8.1;let a10:=a8.2;let a11:=a10.1;let X0:R244:=bif (eqI (Int.tmod a1 16) (15:Int))then (bif (ltI 0 a9)then (some ((((wI (a1+1)),(a3,(a3,((wI ((1:Int)-a7)),a8)))),((wI ((8:Int)*(wI ((1:Int)-a7)))),((eqI (Int.tmod a1 16) (15:Int)),()))),()))else some ((((wI (a1+1)),(a3,(a3,((wI ((1:Int)-a7)),a8)))),((0:Int),((eqI (Int.tmod a1 16) (15:Int)),()))),()))else some ((((wI (a1+1)),(a3,(a3,((wI ((1:Int)-a7)),a8)))),((0:Int),((eqI (Int.tmod a1 16) (15:Int)),()))),());let X1:R244:=bif (eqI (Int.tmod a1 16) (15:Int))then (bif (ltI 0 a9)then (some ((((wI (a1+1)),(a3,((wI (a5-1)),a6))),((wI ((8:Int)*a7)),((eqI (Int.tmod a1 16) (15:Int)),()))),()))else some ((((wI (a1+1)),(a3,((wI (a5-1)),a6))),((0:Int),((eqI (Int.tmod a1 16) (15:Int)),()))),()))else some ((((wI (a1+1)),(a3,((wI (a5-1)),a6))),((0:Int),((eqI (Int.tmod a1 16) (15:Int)),()))),());let X2:R244:=bif (eqI (Int.tmod a1 16) (15:Int))then (bif (ltI 0 a9)then (some ((((wI (a1+1)),(a3,(a3,a6))),((wI ((8:Int)*a7)),((eqI (Int.tmod a1 16) (15:Int)),()))),()))else some ((((wI (a1+1)),(a3,(a3,a6))),((0:Int),((eqI (Int.tmod a1 16) (15:Int)),()))),()))else some ((((wI (a1+1)),(a3,(a3,a6))),((0:Int),((eqI (Int.tmod a1 16) (15:Int)),()))),());let X3:R244:=some ((((wI (a1+1)),(a3,((wI (a5-1)),(a7,((wI (a9-1)),(a11,(a11,()))))))),((0:Int),((eqI (Int.tmod a1 16) (15:Int)),()))),());let X4:R244:=some ((((wI (a1+1)),(a3,(a3,((wI ((1:Int)-a7)),((wI (a9-1)),(a11,(a11,()))))))),((0:Int),((eqI (Int.tmod a1 16) (15:Int)),()))),());let X5:R244:=some ((((wI (a1+1)),(a3,((wI (a5-1)),(a7,((wI (a9-1)),(a11,(false,()))))))),((0:Int),((eqI (Int.tmod a1 16) (15:Int)),()))),());let X6:R244:=some ((((wI (a1+1)),(a3,((wI (a5-1)),(a7,((wI (a9-1)),(a11,(true,()))))))),((0:Int),((eqI (Int.tmod a1 16) (15:Int)),()))),());let X7:R244:=some ((((wI (a1+1)),(a3,(a3,((wI ((1:Int)-a7)),((wI (a9-1)),(a11,(false,()))))))),((0:Int),((eqI (Int.tmod a1 16) (15:Int)),()))),());let X8:R244:=some ((((wI (a1+1)),(a3,(a3,((wI ((1:Int)-a7)),((wI (a9-1)),(a11,(true,()))))))),((0:Int),((eqI (Int.tmod a1 16) (15:Int)),()))),());let X9:R244:=some ((((wI (a1+1)),(a3,(a3,(a7,((wI (a9-1)),(a11,(a11,()))))))),((0:Int),((eqI (Int.tmod a1 16) (15:Int)),()))),());let X10:R244:=some ((((wI (a1+1)),(a3,(a3,(a7,((wI (a9-1)),(a11,(false,()))))))),((0:Int),((eqI (Int.tmod a1 16) (15:Int)),()))),());let X11:R244:=some ((((wI (a1+1)),(a3,(a3,(a7,((wI (a9-1)),(a11,(true,()))))))),((0:Int),((eqI (Int.tmod a1 16) (15:Int)),()))),());bif (eqI a1 20000)then (some ((a0,((0:Int),(false,()))),()))else bif (eqI a5 0)then (bif (ltI 0 a9)then (bif (eqI (Int.tmod a1 32) (0:Int))then (bif (ltI 0 a9)then (bif a10.2.1 then (bif (eqI (Int.tmod a1 16) (15:Int))then (bif (ltI 0 (wI (a9-1)))then (some ((((wI (a1+1)),(a3,(a3,((wI ((1:Int)-a7)),((wI (a9-1)),(a11,(true,()))))))),((wI ((8:Int)*(wI ((1:Int)-a7)))),((eqI (Int.tmod a1 16) (15:Int)),()))),()))else X8)else X8)else bif (eqI (wI (a9-1)) (0:Int))then (bif (eqI (Int.tmod a1 16) (15:Int))then (bif (ltI 0 (wI (a9-1)))then (some ((((wI (a1+1)),(a3,(a3,((wI ((1:Int)-a7)),((wI (a9-1)),(a11,(a11,()))))))),((wI ((8:Int)*(wI ((1:Int)-a7)))),((eqI (Int.tmod a1 16) (15:Int)),()))),()))else X4)else X4)else bif (eqI (Int.tmod a1 16) (15:Int))then (bif (ltI 0 (wI (a9-1)))then (some ((((wI (a1+1)),(a3,(a3,((wI ((1:Int)-a7)),((wI (a9-1)),(a11,(false,()))))))),((wI ((8:Int)*(wI ((1:Int)-a7)))),((eqI (Int.tmod a1 16) (15:Int)),()))),()))else X7)else X7)else X0)else X0)else bif (eqI (Int.tmod a1 32) (0:Int))then (bif (ltI 0 a9)then (bif a10.2.1 then (bif (eqI (Int.tmod a1 16) (15:Int))then (bif (ltI 0 (wI (a9-1)))then (some ((((wI (a1+1)),(a3,(a3,(a7,((wI (a9-1)),(a11,(true,()))))))),((wI ((8:Int)*a7)),((eqI (Int.tmod a1 16) (15:Int)),()))),()))else X11)else X11)else bif (eqI (wI (a9-1)) (0:Int))then (bif (eqI (Int.tmod a1 16) (15:Int))then (bif (ltI 0 (wI (a9-1)))then (some ((((wI (a1+1)),(a3,(a3,(a7,((wI (a9-1)),(a11,(a11,()))))))),((wI ((8:Int)*a7)),((eqI (Int.tmod a1 16) (15:Int)),()))),()))else X9)else X9)else bif (eqI (Int.tmod a1 16) (15:Int))then (bif (ltI 0 (wI (a9-1)))then (some ((((wI (a1+1)),(a3,(a3,(a7,((wI (a9-1)),(a11,(false,()))))))),((wI ((8:Int)*a7)),((eqI (Int.tmod a1 16) (15:Int)),()))),()))else X10)else X10)else X2)else X2)else bif (eqI (Int.tmod a1 32) (0:Int))then (bif (ltI 0 a9)then (bif a10.2.1 then (bif (eqI (Int.tmod a1 16) (15:Int))then (bif (ltI 0 (wI (a9-1)))then (some ((((wI (a1+1)),(a3,((wI (a5-1)),(a7,((wI (a9-1)),(a11,(true,()))))))),((wI ((8:Int)*a7)),((eqI (Int.tmod a1 16) (15:Int)),()))),()))else X6)else X6)else bif (eqI (wI (a9-1)) (0:Int))then (bif (eqI (Int.tmod a1 16) (15:Int))then (bif (ltI 0 (wI (a9-1)))then (some ((((wI (a1+1)),(a3,((wI (a5-1)),(a7,((wI (a9-1)),(a11,(a11,()))))))),((wI ((8:Int)*a7)),((eqI (Int.tmod a1 16) (15:Int)),()))),()))else X3)else X3)else bif (eqI (Int.tmod a1 16) (15:Int))then (bif (ltI 0 (wI (a9-1)))then (some ((((wI (a1+1)),(a3,((wI (a5-1)),(a7,((wI (a9-1)),(a11,(false,()))))))),((wI ((8:Int)*a7)),((eqI (Int.tmod a1 16) (15:Int)),()))),()))else X5)else X5)else X1)else X1
theorem s244 (y):TE [] Tryz.f244 i244 o244 y=m244 y:=by kernel_rfl
noncomputable def r244:F244:=m244
theorem k244:KO (g244 r244):=fk (s244) trivial (by kernel_rfl)
abbrev i220:Ts:=[.a [.sl true .n, .sl true .i, .sl true .i, .int .i64, .int .i64, .int .i64, .int .i64, .int .i64, .bool, .bool, .bool, .bool, .int .i64, .int .i64, .int .i64, .int .i64, .int .i64, .bool, .sl false .i, .sl false .i, .int .i64, .int .i64, .int .i64, .int .i64, .int .i64, .bool, .bool, .bool, .int .i64, .bool, .int .i64, .sl true .n, .sl true .i, .sl true .i]]
abbrev o220:Ts:=[.a q14]
abbrev F220:=FT i220 o220
abbrev g220:=mkG 220 i220 o220
noncomputable def m220 (c244:F244) (c242:F242) (y:PTup i220):Option (PTup o220×BTup i220):=
  let a0:=y.1;let a1:=a0.2;let a2:=a1.2;let a3:=a2.2;let a4:=a3.2;let a5:=a4.2;let a6:=a5.2;let a7:=a6.2;let a8:=a7.2;let a9:=a8.2;let a10:=a9.2;let a11:=a10.2;let a12:=a11.2;let a13:=a12.2;let a14:=a13.2;let a15:=a14.2;let a16:=a15.2;let a17:=a16.2;let a18:=a17.2;let a19:=a18.2;let a20:=a19.2;let a21:=a20.2;let a22:=a21.2;let a23:=a22.2;let a24:=a23.2;let a25:=a24.2;let a26:=a25.2;let a27:=a26.2;let a28:=a27.2;let a29:=a28.2;let a30:=a29.2;let a31:=a30.2;let a32:=a31.2;(c242 ((a12.1,(a13.1,(a14.1,(a15.1,(a16.1,(a17.1,(a18.1,(a19.1,())))))))),())).bind fun r0=>let b0:=r0.1;let b1:=b0.1;let b2:=b0.2;let b3:=b1.2;let b4:=b3.2;let b5:=b4.2;let b6:=b5.2;let b7:=b6.2;let b8:=b7.2;let b9:=b8.2.1;(c244 ((a20.1,(a21.1,(a22.1,(a23.1,(a24.1,(a25.1,(a26.1,()))))))),())).bind fun r1=>let d0:=r1.1;let d1:=d0.1;let d2:=d1.2;let d3:=d0.2.1;let d4:=d2.2;let d5:=d4.2;let d6:=d5.2;let d7:=d6.2;let d8:=d7.2.1;bif (eqI (Int.tmod a12.1 64) (48:Int))then (bif (leN ((List.length a31.1)+(List.length (b2.1::[]))) (E.most .n))then (bif d0.2.2.1 then (bif (leN ((List.length a32.1)+(List.length (d3::[]))) (E.most .i))then (bif a29.1 then (some (((a0.1,(a1.1,(a2.1,(a3.1,(a4.1,(a5.1,(a6.1,(a7.1,(a8.1,(a9.1,(a10.1,(a11.1,(b1.1,(b3.1,(b4.1,(b5.1,(b6.1,(b7.1,(b8.1,(b9,(d1.1,(d2.1,(d4.1,(d5.1,(d6.1,(d7.1,(d8,(a27.1,(a28.1,(true,(a30.1,((a31.1++(b2.1::[])),((a32.1++(d3::[])),a32.2))))))))))))))))))))))))))))))))),()),()))
      else some (((a0.1,(a1.1,(a2.1,(a3.1,(a4.1,(a5.1,(a6.1,(a7.1,(a8.1,(a9.1,(a10.1,(a11.1,(b1.1,(b3.1,(b4.1,(b5.1,(b6.1,(b7.1,(b8.1,(b9,(d1.1,(d2.1,(d4.1,(d5.1,(d6.1,(d7.1,(d8,(a27.1,(a28.1,(b2.2.1,(a30.1,((a31.1++(b2.1::[])),((a32.1++(d3::[])),a32.2))))))))))))))))))))))))))))))))),()),()))
     else none)
    else bif a29.1 then (some (((a0.1,(a1.1,(a2.1,(a3.1,(a4.1,(a5.1,(a6.1,(a7.1,(a8.1,(a9.1,(a10.1,(a11.1,(b1.1,(b3.1,(b4.1,(b5.1,(b6.1,(b7.1,(b8.1,(b9,(d1.1,(d2.1,(d4.1,(d5.1,(d6.1,(d7.1,(d8,(a27.1,(a28.1,(true,(a30.1,((a31.1++(b2.1::[])),a32)))))))))))))))))))))))))))))))),()),()))
    else some (((a0.1,(a1.1,(a2.1,(a3.1,(a4.1,(a5.1,(a6.1,(a7.1,(a8.1,(a9.1,(a10.1,(a11.1,(b1.1,(b3.1,(b4.1,(b5.1,(b6.1,(b7.1,(b8.1,(b9,(d1.1,(d2.1,(d4.1,(d5.1,(d6.1,(d7.1,(d8,(a27.1,(a28.1,(b2.2.1,(a30.1,((a31.1++(b2.1::[])),a32)))))))))))))))))))))))))))))))),()),()))
   else none)
  else bif d0.2.2.1 then (bif (leN ((List.length a32.1)+(List.length (d3::[]))) (E.most .i))then (bif a29.1 then (some (((a0.1,(a1.1,(a2.1,(a3.1,(a4.1,(a5.1,(a6.1,(a7.1,(a8.1,(a9.1,(a10.1,(a11.1,(b1.1,(b3.1,(b4.1,(b5.1,(b6.1,(b7.1,(b8.1,(b9,(d1.1,(d2.1,(d4.1,(d5.1,(d6.1,(d7.1,(d8,(a27.1,(a28.1,(true,(a30.1,(a31.1,((a32.1++(d3::[])),a32.2))))))))))))))))))))))))))))))))),()),()))
    else some (((a0.1,(a1.1,(a2.1,(a3.1,(a4.1,(a5.1,(a6.1,(a7.1,(a8.1,(a9.1,(a10.1,(a11.1,(b1.1,(b3.1,(b4.1,(b5.1,(b6.1,(b7.1,(b8.1,(b9,(d1.1,(d2.1,(d4.1,(d5.1,(d6.1,(d7.1,(d8,(a27.1,(a28.1,(b2.2.1,(a30.1,(a31.1,((a32.1++(d3::[])),a32.2))))))))))))))))))))))))))))))))),()),()))
   else none)
  else bif a29.1 then (some (((a0.1,(a1.1,(a2.1,(a3.1,(a4.1,(a5.1,(a6.1,(a7.1,(a8.1,(a9.1,(a10.1,(a11.1,(b1.1,(b3.1,(b4.1,(b5.1,(b6.1,(b7.1,(b8.1,(b9,(d1.1,(d2.1,(d4.1,(d5.1,(d6.1,(d7.1,(d8,(a27.1,(a28.1,(true,a30)))))))))))))))))))))))))))))),()),()))
  else some (((a0.1,(a1.1,(a2.1,(a3.1,(a4.1,(a5.1,(a6.1,(a7.1,(a8.1,(a9.1,(a10.1,(a11.1,(b1.1,(b3.1,(b4.1,(b5.1,(b6.1,(b7.1,(b8.1,(b9,(d1.1,(d2.1,(d4.1,(d5.1,(d6.1,(d7.1,(d8,(a27.1,(a28.1,(b2.2.1,a30)))))))))))))))))))))))))))))),()),())
theorem s220 (c244:F244) (c242:F242) (y):TE [g244 c244,g242 c242] Tryz.f220 i220 o220 y=m220 c244 c242 y:=by kernel_rfl
noncomputable def r220:F220:=m220 r244 r242
theorem k220:KO (g220 r220):=fk (s220 r244 r242) ⟨k244,k242,⟨⟩⟩ (by kernel_rfl)
abbrev i147:Ts:=[.a q14]
abbrev o147:Ts:=[.a q14, .v (.bool)]
abbrev R147:=Option (PTup o147×BTup i147)
abbrev F147:=PTup i147→R147
abbrev g147 (c:F147):Nat×Tev.Fn:=(147,⟨i147,o147,c, .may⟩)
abbrev lc147_0:Ts:=[.v (.int .i64)]
abbrev lb147_0:Ts:=[.p q14]
abbrev lv147_0:Ts:=[.v (.int .i64)]
abbrev lr147_0:Ts:=[]
abbrev R147_0:=Option (Sum (PTup lv147_0) (PTup lr147_0)×BTup lb147_0)
abbrev B147_0:=PTup lb147_0→PTup lv147_0→R147_0
abbrev A147_0:=PTup lc147_0→B147_0
noncomputable def w147_0 (c219:F219) (c220:F220) (again:B147_0) (x:PTup lc147_0) (y:PTup lb147_0) (z:PTup lv147_0):R147_0:=
  bif (ltI z.1 x.1)then ((c220 (y.1,())).bind fun r0=>
   again (r0.1.1,()) ((wI (z.1+1)),()))
  else some ((Sum.inl z),(y.1,()))
noncomputable def e147_0 (l:A147_0):LoopE:=⟨[5],lc147_0,[4],lb147_0,[6],lv147_0,[],lr147_0,0,[],l⟩
noncomputable def m147 (c219:F219) (c220:F220) (l0:A147_0) (y:PTup i147):R147:=
  let X0:R147:=some ((([],([],([],((0:Int),((0:Int),((0:Int),((0:Int),((0:Int),(false,(false,(false,(false,((0:Int),((0:Int),((0:Int),((0:Int),((0:Int),(false,([],([],((0:Int),((0:Int),((0:Int),((0:Int),((0:Int),(false,(false,(false,((0:Int),(false,((0:Int),([],([],([],())))))))))))))))))))))))))))))))))),(false,())),());(c219 (y.1,())).bind fun r0=>bif (ltI 20000 (wI (r0.1.1.2.2.2.2.2.2.2.2.2.2.2.2.1+r0.1.2.1)))then X0 else (l0 r0.1.2 (r0.1.1,()) ((0:Int),())).bind fun r1=>let d0:=r1.2;let d1:=d0.1;let d2:=d1.2;let d3:=d2.2;let d4:=d3.2;let d5:=d4.2;let d6:=d5.2;let d7:=d6.2;let d8:=d7.2;let d9:=d8.2;let d10:=d9.2;let d11:=d10.2;let d12:=d11.2;let d13:=d12.2;let d14:=d13.2;let d15:=d14.2;let d16:=d15.2;let d17:=d16.2;let d18:=d17.2;let d19:=d18.2;let d20:=d19.2;let d21:=d20.2;let d22:=d21.2;let d23:=d22.2;let d24:=d23.2.2;let d25:=d24.2.2;sumElim r1.1 (fun r2=>some (((d1.1,(d2.1,(d3.1,(d4.1,(d5.1,(d6.1,(d7.1,(d8.1,(d9.1,(d10.1,(d11.1,(d12.1,(d13.1,(d14.1,(d15.1,(d16.1,(d17.1,(d18.1,(d19.1,(d20.1,(d21.1,(d22.1,(d23.1,(d23.2.1,(d24.1,(d24.2.1,(d25.1,(d25.2.1,(d25.2.2.1,(d25.2.2.2.1,((wI (d25.2.2.2.2.1+1)),d25.2.2.2.2.2))))))))))))))))))))))))))))))),(true,())),())) (fun r2=>X0)
noncomputable def E147 (c219:F219) (c220:F220) (l0:A147_0):CEnv:=⟨⟨Tryz.prog,fnsL [g219 c219,g220 c220]⟩,loopsL [(5,e147_0 l0)]⟩
theorem t147_0 (c219:F219) (c220:F220) (l0:A147_0) (again) (x y z):loopRound (E147 c219 c220 l0) (loopAt (bodyOf Tryz.f147) 0) (e147_0 l0) Tryz.f147.ntmps again x y z=w147_0 c219 c220 again x y z:=by kernel_rfl
noncomputable def n147_0 (c219:F219) (c220:F220):Nat→A147_0
  |0,_,_,_=>none
  |n+1,x,y,z=>w147_0 c219 c220 (fun y z=>n147_0 c219 c220 n x y z) x y z
theorem s147 (c219:F219) (c220:F220) (l0:A147_0) (y):tevY (E147 c219 c220 l0) Tryz.f147 i147 [.sl true .n, .sl true .i, .sl true .i, .int .i64, .int .i64, .int .i64, .int .i64, .int .i64, .bool, .bool, .bool, .bool, .int .i64, .int .i64, .int .i64, .int .i64, .int .i64, .bool, .sl true .i, .sl true .i, .int .i64, .int .i64, .int .i64, .int .i64, .int .i64, .bool, .bool, .bool, .int .i64, .bool, .int .i64, .sl true .n, .sl true .i, .sl true .i] y=m147 c219 c220 l0 y:=by kernel_rfl
noncomputable def L147_0:A147_0:=n147_0 r219 r220 fuel
noncomputable def r147:F147:=m147 r219 r220 L147_0
theorem k147:KO (g147 r147):=by
  have hE: ∀g f,(E147 r219 r220 L147_0).env.fns g=some f→CallOk Tryz.prog g f:=fnsL_ok ⟨k219,k220,⟨⟩⟩
  have h0:LoopOk Tryz.prog Tryz.f147.ntmps (loopAt (bodyOf Tryz.f147) 0) (e147_0 L147_0):=lp_ok (E:=E147 r219 r220 L147_0) rfl hE mixed (AllLoops.of_list (l:=[]) (by kernel_rfl) trivial) (n147_0 r219 r220) (fun _ _ _=>rfl) (fun n x y z=>t147_0 r219 r220 L147_0 _ x y z) rfl
  exact fnY_ok (E:=E147 r219 r220 L147_0) rfl hE mixed (by kernel_rfl) (by kernel_rfl) (AllLoops.of_list (l:=[(loopAt (bodyOf Tryz.f147) 0)]) (by kernel_rfl) (.one (by kernel_rfl) h0 trivial)) (s147 r219 r220 L147_0)
abbrev i40:Ts:=[.a q13]
abbrev o40:Ts:=[.a q14, .v (.bool)]
abbrev F40:=FT i40 o40
abbrev g40:=mkG 40 i40 o40
noncomputable def m40 (c42:F42) (c148:F148) (c147:F147) (y:PTup i40):Option (PTup o40×BTup i40):=
  (c42 (y.1,())).bind fun r0=>
  bif (!r0.1.1)then (some ((([],([],([],((0:Int),((0:Int),((0:Int),((0:Int),((0:Int),(false,(false,(false,(false,((0:Int),((0:Int),((0:Int),((0:Int),((0:Int),(false,([],([],((0:Int),((0:Int),((0:Int),((0:Int),((0:Int),(false,(false,(false,((0:Int),(false,((0:Int),([],([],([],())))))))))))))))))))))))))))))))))),(false,())),()))
  else (c148 (y.1,())).bind fun r1=>
  (c147 (r1.1.1,())).bind fun r2=>
  bif r2.1.2.1 then (some ((r2.1.1,(true,())),()))
  else (c148 (y.1,())).bind fun r3=>
  some ((r3.1.1,(false,())),())
theorem s40 (c42:F42) (c148:F148) (c147:F147) (y):TE [g42 c42,g148 c148,g147 c147] Tryz.f40 i40 o40 y=m40 c42 c148 c147 y:=by kernel_rfl
noncomputable def r40:F40:=m40 r42 r148 r147
theorem k40:KO (g40 r40):=fk (s40 r42 r148 r147) ⟨k42,k148,k147,⟨⟩⟩ (by kernel_rfl)
abbrev i47:Ts:=[.a q13, .v (.int .i64)]
abbrev o47:Ts:=[.a q14, .v (.int .i64)]
abbrev F47:=FT i47 o47
abbrev g47:=mkG 47 i47 o47
abbrev lc47_0:Ts:=[.v (.int .i64)]
abbrev lb47_0:Ts:=[.p q14, .p q14]
abbrev lv47_0:Ts:=[.v (.int .i64)]
abbrev lr47_0:Ts:=[.v (.int .i64)]
abbrev R47_0:=Option (Sum (PTup lv47_0) (PTup lr47_0)×BTup lb47_0)
abbrev B47_0:=PTup lb47_0→PTup lv47_0→R47_0
abbrev A47_0:=PTup lc47_0→B47_0
noncomputable def w47_0 (c42:F42) (c40:F40) (c148:F148) (c158:F158) (again:B47_0) (x:PTup lc47_0) (y:PTup lb47_0) (z:PTup lv47_0):R47_0:=
  let a0:=y.2;let a1:=a0.1;let a2:=a1.2;let a3:=a2.2;let a4:=a3.2;let a5:=a4.2;let a6:=a5.2;let a7:=a6.2;let a8:=a7.2;let a9:=a8.2;let a10:=a9.2;let a11:=a10.2;let a12:=a11.2;let a13:=a12.2;let a14:=a13.2;let a15:=a14.2;let a16:=a15.2;let a17:=a16.2;let a18:=a17.2;let a19:=a18.2;let a20:=a19.2;let a21:=a20.2;let a22:=a21.2;let a23:=a22.2.2;let a24:=a23.2.2;(c158 (x.1,((3000:Int),()))).bind fun r0=>
  bif (ltI z.1 r0.1.1)then ((c40 (a1,())).bind fun r1=>
   bif (!r1.1.2.1)then (some ((Sum.inr z),(a1,(([],([],([],(a4.1,(a5.1,(a6.1,(a7.1,(a8.1,(a9.1,(a10.1,(a11.1,(a12.1,(a13.1,(a14.1,(a15.1,(a16.1,(a17.1,(a18.1,([],([],(a21.1,(a22.1,(a22.2.1,(a23.1,(a23.2.1,(a24.1,(a24.2.1,(a24.2.2.1,(a24.2.2.2.1,(a24.2.2.2.2.1,(a24.2.2.2.2.2.1,([],([],([],())))))))))))))))))))))))))))))))))),()))))
   else again (y.1,(r1.1.1,())) ((wI (z.1+1)),()))
  else some ((Sum.inl z),(y.1,(a1,())))
noncomputable def e47_0 (l:A47_0):LoopE:=⟨[1],lc47_0,[4,6],lb47_0,[7],lv47_0,[5],lr47_0,0,[false,true],l⟩
noncomputable def m47 (c42:F42) (c40:F40) (c148:F148) (c158:F158) (l0:A47_0) (y:PTup i47):Option (PTup o47×BTup i47):=
  (c42 (y.1,())).bind fun r0=>
  bif (!r0.1.1)then (some ((([],([],([],((0:Int),((0:Int),((0:Int),((0:Int),((0:Int),(false,(false,(false,(false,((0:Int),((0:Int),((0:Int),((0:Int),((0:Int),(false,([],([],((0:Int),((0:Int),((0:Int),((0:Int),((0:Int),(false,(false,(false,((0:Int),(false,((0:Int),([],([],([],())))))))))))))))))))))))))))))))))),((0:Int),())),()))
  else (c148 (y.1,())).bind fun r1=>
  (l0 y.2 (([],([],([],((0:Int),((0:Int),((0:Int),((0:Int),((0:Int),(false,(false,(false,(false,((0:Int),((0:Int),((0:Int),((0:Int),((0:Int),(false,([],([],((0:Int),((0:Int),((0:Int),((0:Int),((0:Int),(false,(false,(false,((0:Int),(false,((0:Int),([],([],([],())))))))))))))))))))))))))))))))))),(r1.1.1,())) ((0:Int),())).bind fun r2=>
  sumElim r2.1 (fun r3=>some ((r2.2.2.1,r3),()))
  (fun r3=>some ((r2.2.1,r3),()))
noncomputable def E47 (c42:F42) (c40:F40) (c148:F148) (c158:F158) (l0:A47_0):CEnv:=⟨⟨Tryz.prog,fnsL [g42 c42,g40 c40,g148 c148,g158 c158]⟩,loopsL [(5,e47_0 l0)]⟩
theorem t47_0 (c42:F42) (c40:F40) (c148:F148) (c158:F158) (l0:A47_0) (again) (x y z):loopRound (E47 c42 c40 c148 c158 l0) (loopAt (bodyOf Tryz.f47) 0) (e47_0 l0) Tryz.f47.ntmps again x y z=w47_0 c42 c40 c148 c158 again x y z:=by kernel_rfl
noncomputable def n47_0 (c42:F42) (c40:F40) (c148:F148) (c158:F158):Nat→A47_0
  |0,_,_,_=>none
  |n+1,x,y,z=>w47_0 c42 c40 c148 c158 (fun y z=>n47_0 c42 c40 c148 c158 n x y z) x y z
theorem s47 (c42:F42) (c40:F40) (c148:F148) (c158:F158) (l0:A47_0) (y):tevF (E47 c42 c40 c148 c158 l0) Tryz.f47 i47 o47 y=m47 c42 c40 c148 c158 l0 y:=by kernel_rfl
noncomputable def L47_0:A47_0:=n47_0 r42 r40 r148 r158 fuel
noncomputable def r47:F47:=m47 r42 r40 r148 r158 L47_0
theorem k47:KO (g47 r47):=by
  have hE: ∀g f,(E47 r42 r40 r148 r158 L47_0).env.fns g=some f→CallOk Tryz.prog g f:=fnsL_ok ⟨k42,k40,k148,k158,⟨⟩⟩
  have h0:LoopOk Tryz.prog Tryz.f47.ntmps (loopAt (bodyOf Tryz.f47) 0) (e47_0 L47_0):=lp_ok (E:=E47 r42 r40 r148 r158 L47_0) rfl hE mixed (AllLoops.of_list (l:=[]) (by kernel_rfl) trivial) (n47_0 r42 r40 r148 r158) (fun _ _ _=>rfl) (fun n x y z=>t47_0 r42 r40 r148 r158 L47_0 _ x y z) rfl
  exact fn_ok (E:=E47 r42 r40 r148 r158 L47_0) rfl hE mixed (by kernel_rfl) (by kernel_rfl) (AllLoops.of_list (l:=[(loopAt (bodyOf Tryz.f47) 0)]) (by kernel_rfl) (.one (by kernel_rfl) h0 trivial)) (s47 r42 r40 r148 r158 L47_0)
abbrev i76:Ts:=[.a q6]
abbrev o76:Ts:=[.a q14]
abbrev R76:=Option (PTup o76×BTup i76)
abbrev F76:=PTup i76→R76
abbrev g76:=mkG 76 i76 o76
noncomputable def m76 (c172:F172) (c47:F47) (c29:F29) (y:PTup i76):R76:=
  let X0:R76:=some ((([],([],([],((0:Int),((0:Int),((0:Int),((0:Int),((0:Int),(false,(false,(false,(false,((0:Int),((0:Int),((0:Int),((0:Int),((0:Int),(false,([],([],((0:Int),((0:Int),((0:Int),((0:Int),((0:Int),(false,(false,(false,((0:Int),(false,((0:Int),([],([],([],())))))))))))))))))))))))))))))))))),()),());(c29 (y.1,())).bind fun r0=>bif (!r0.1.1)then X0 else bif (ltI 3000 y.1.2.2.2.2.2.2.2.2.2.2.2.2.2.2.2.2.2.2.2.1)then X0 else (c172 ((y.1.1,()),(y.1.2.1,()))).bind fun r1=>(c47 (r1.1.1,(y.1.2.2.2.2.2.2.2.2.2.2.2.2.2.2.2.2.2.2.2.1,()))).bind fun r2=>some ((r2.1.1,()),())
theorem s76 (c172:F172) (c47:F47) (c29:F29) (y):TE [g172 c172,g47 c47,g29 c29] Tryz.f76 i76 o76 y=m76 c172 c47 c29 y:=by kernel_rfl
noncomputable def r76:F76:=m76 r172 r47 r29
theorem k76:KO (g76 r76):=fk (s76 r172 r47 r29) ⟨k172,k47,k29,⟨⟩⟩ (by kernel_rfl)
abbrev i176:Ts:=[.v (.sl false .i), .v (.sl false .i)]
abbrev o176:Ts:=[.v (.bool)]
abbrev F176:=FT i176 o176
abbrev g176:=mkG 176 i176 o176
abbrev lc176_0:Ts:=[.v (.sl false .i), .v (.sl false .i)]
abbrev lb176_0:Ts:=[]
abbrev lv176_0:Ts:=[.v (.int .i64)]
abbrev lr176_0:Ts:=[.v (.bool)]
abbrev R176_0:=Option (Sum (PTup lv176_0) (PTup lr176_0)×BTup lb176_0)
abbrev B176_0:=PTup lb176_0→PTup lv176_0→R176_0
abbrev A176_0:=PTup lc176_0→B176_0
noncomputable def w176_0 (again:B176_0) (x:PTup lc176_0) (y:PTup lb176_0) (z:PTup lv176_0):R176_0:=
  bif (ltI z.1 (lenI x.1))then (bif (ltI z.1 (lenI x.2.1))then (bif (leI 0 z.1)then (bif (ltI z.1 (lenI x.1))then (bif (leI 0 z.1)then (bif (ltI z.1 (lenI x.2.1))then (bif (neI (rdE .i x.1 z.1) (rdE .i x.2.1 z.1))then (some ((Sum.inr (false,())),()))
        else again () ((wI (z.1+1)),()))
       else none)
      else none)
     else none)
    else none)
   else some ((Sum.inl z),()))
  else some ((Sum.inl z),())
noncomputable def e176_0 (l:A176_0):LoopE:=⟨[0,1],lc176_0,[],lb176_0,[5],lv176_0,[4],lr176_0,0,[],l⟩
noncomputable def m176 (l0:A176_0) (y:PTup i176):Option (PTup o176×BTup i176):=
  (l0 y () ((0:Int),())).bind fun r0=>
  sumElim r0.1 (fun r1=>some (((leI (lenI y.1) (lenI y.2.1)),()),()))
  (fun r1=>some (r1,()))
noncomputable def E176 (l0:A176_0):CEnv:=⟨⟨Tryz.prog,fnsL []⟩,loopsL [(2,e176_0 l0)]⟩
theorem t176_0 (l0:A176_0) (again) (x y z):loopRound (E176 l0) (loopAt (bodyOf Tryz.f176) 0) (e176_0 l0) Tryz.f176.ntmps again x y z=w176_0 again x y z:=by kernel_rfl
noncomputable def n176_0:Nat→A176_0
  |0,_,_,_=>none
  |n+1,x,y,z=>w176_0 (fun y z=>n176_0 n x y z) x y z
theorem s176 (l0:A176_0) (y):tevF (E176 l0) Tryz.f176 i176 o176 y=m176 l0 y:=by kernel_rfl
noncomputable def L176_0:A176_0:=n176_0 fuel
noncomputable def r176:F176:=m176 L176_0
theorem k176:KO (g176 r176):=by
  have hE: ∀g f,(E176 L176_0).env.fns g=some f→CallOk Tryz.prog g f:=fnsL_ok trivial
  have h0:LoopOk Tryz.prog Tryz.f176.ntmps (loopAt (bodyOf Tryz.f176) 0) (e176_0 L176_0):=lp_ok (E:=E176 L176_0) rfl hE mixed (AllLoops.of_list (l:=[]) (by kernel_rfl) trivial) (n176_0) (fun _ _ _=>rfl) (fun n x y z=>t176_0 L176_0 _ x y z) rfl
  exact fn_ok (E:=E176 L176_0) rfl hE mixed (by kernel_rfl) (by kernel_rfl) (AllLoops.of_list (l:=[(loopAt (bodyOf Tryz.f176) 0)]) (by kernel_rfl) (.one (by kernel_rfl) h0 trivial)) (s176 L176_0)
abbrev i84:Ts:=[.v (.sl false .i), .v (.sl false .i)]
abbrev o84:Ts:=[.v (.bool)]
abbrev F84:=FT i84 o84
abbrev g84:=mkG 84 i84 o84
noncomputable def m84 (c176:F176) (y:PTup i84):Option (PTup o84×BTup i84):=
  bif (eqI (lenI y.1) (lenI y.2.1))then ((c176 y).bind fun r0=>
   some (r0.1,()))
  else no
theorem s84 (c176:F176) (y):TE [g176 c176] Tryz.f84 i84 o84 y=m84 c176 y:=by kernel_rfl
noncomputable def r84:F84:=m84 r176
theorem k84:KO (g84 r84):=fk (s84 r176) ⟨k176,⟨⟩⟩ (by kernel_rfl)
abbrev i16:Ts:=[.a q6]
abbrev o16:Ts:=[.v (.bool)]
abbrev F16:=FT i16 o16
abbrev g16:=mkG 16 i16 o16
noncomputable def m16 (c76:F76) (c84:F84) (c83:F83) (y:PTup i16):Option (PTup o16×BTup i16):=
  (c83 (y.1,())).bind fun r0=>
  bif (!r0.1.1)then no
  else (c76 (y.1,())).bind fun r1=>
  bif ((eqI y.1.2.2.2.2.1 r1.1.1.2.2.2.2.1)&&((eqI y.1.2.2.2.2.2.1 r1.1.1.2.2.2.2.2.1)&&((eqI y.1.2.2.2.2.2.2.1 r1.1.1.2.2.2.2.2.2.1)&&((eqI y.1.2.2.2.2.2.2.2.1 r1.1.1.2.2.2.2.2.2.2.1)&&((y.1.2.2.2.2.2.2.2.2.1==r1.1.1.2.2.2.2.2.2.2.2.1)&&((y.1.2.2.2.2.2.2.2.2.2.1==r1.1.1.2.2.2.2.2.2.2.2.2.1)&&((y.1.2.2.2.2.2.2.2.2.2.2.1==r1.1.1.2.2.2.2.2.2.2.2.2.2.1)&&((y.1.2.2.2.2.2.2.2.2.2.2.2.1==r1.1.1.2.2.2.2.2.2.2.2.2.2.2.1)&&true))))))))then (bif (eqI y.1.2.2.2.1 r1.1.1.2.2.2.1)then ((c84 (y.1.2.2.1,(r1.1.1.2.2.1,()))).bind fun r2=>
    bif r2.1.1 then (bif ((y.1.2.2.2.2.2.2.2.2.2.2.2.2.1==r1.1.1.2.2.2.2.2.2.2.2.2.2.2.2.2.2.2.2.2.2.2.2.2.2.2.2.2.2.2.1)&&((eqI y.1.2.2.2.2.2.2.2.2.2.2.2.2.2.1 r1.1.1.2.2.2.2.2.2.2.2.2.2.2.2.2.2.2.2.2.2.2.2.2.2.2.2.2.2.2.2.1)&&true))then (bif (y.1.2.2.2.2.2.2.2.2.2.2.2.2.2.2.2.1==r1.1.1.2.2.2.2.2.2.2.2.2.2.2.2.2.2.2.2.2.2.2.2.2.2.2.2.2.2.2.2.2.1)then ((c84 (y.1.2.2.2.2.2.2.2.2.2.2.2.2.2.2.2.2.2.2.2.2.1,r1.1.1.2.2.2.2.2.2.2.2.2.2.2.2.2.2.2.2.2.2.2.2.2.2.2.2.2.2.2.2.2.2.2.2.2)).bind fun r3=>
       bif r3.1.1 then (some (((eqI y.1.2.2.2.2.2.2.2.2.2.2.2.2.2.2.1 r1.1.1.2.2.2.2.2.2.2.2.2.2.2.2.1),()),()))
       else no)
      else no)
     else no)
    else no)
   else no)
  else no
theorem s16 (c76:F76) (c84:F84) (c83:F83) (y):TE [g76 c76,g84 c84,g83 c83] Tryz.f16 i16 o16 y=m16 c76 c84 c83 y:=by kernel_rfl
noncomputable def r16:F16:=m16 r76 r84 r83
theorem k16:KO (g16 r16):=fk (s16 r76 r84 r83) ⟨k76,k84,k83,⟨⟩⟩ (by kernel_rfl)
abbrev i140:Ts:=[.v (.int .i64), .v (.int .i64), .v (.int .i64)]
abbrev o140:Ts:=[.v (.bool)]
abbrev F140:=FT i140 o140
abbrev g140:=mkG 140 i140 o140
noncomputable def m140 (y:PTup i140):Option (PTup o140×BTup i140):=
  bif (leI y.2.1 y.1)then (some (((leI y.1 y.2.2.1),()),()))
  else no
theorem s140 (y):TE [] Tryz.f140 i140 o140 y=m140 y:=by kernel_rfl
noncomputable def r140:F140:=m140
theorem k140:KO (g140 r140):=fk (s140) trivial (by kernel_rfl)
abbrev i138:Ts:=[.v (.int .i64)]
abbrev o138:Ts:=[.v (.bool)]
abbrev F138:=FT i138 o138
abbrev g138:=mkG 138 i138 o138
noncomputable def m138 (c140:F140) (y:PTup i138):Option (PTup o138×BTup i138):=
  (c140 (y.1,((0:Int),((255:Int),())))).bind fun r0=>
  some (r0.1,())
theorem s138 (c140:F140) (y):TE [g140 c140] Tryz.f138 i138 o138 y=m138 c140 y:=by kernel_rfl
noncomputable def r138:F138:=m138 r140
theorem k138:KO (g138 r138):=fk (s138 r140) ⟨k140,⟨⟩⟩ (by kernel_rfl)
abbrev i200:Ts:=[.v (.sl false .i)]
abbrev o200:Ts:=[.v (.bool)]
abbrev F200:=FT i200 o200
abbrev g200:=mkG 200 i200 o200
abbrev lc200_0:Ts:=[.v (.sl false .i), .v (.int .i64)]
abbrev lb200_0:Ts:=[]
abbrev lv200_0:Ts:=[.v (.int .i64)]
abbrev lr200_0:Ts:=[.v (.bool)]
abbrev R200_0:=Option (Sum (PTup lv200_0) (PTup lr200_0)×BTup lb200_0)
abbrev B200_0:=PTup lb200_0→PTup lv200_0→R200_0
abbrev A200_0:=PTup lc200_0→B200_0
noncomputable def w200_0 (c138:F138) (again:B200_0) (x:PTup lc200_0) (y:PTup lb200_0) (z:PTup lv200_0):R200_0:=
  bif (ltI z.1 x.2.1)then (bif (leI 0 z.1)then (bif (ltI z.1 (lenI x.1))then ((c138 ((rdE .i x.1 z.1),())).bind fun r0=>
     bif (!r0.1.1)then (some ((Sum.inr (false,())),()))
     else again () ((wI (z.1+1)),()))
    else none)
   else none)
  else some ((Sum.inl z),())
noncomputable def e200_0 (l:A200_0):LoopE:=⟨[5,6],lc200_0,[],lb200_0,[7],lv200_0,[2],lr200_0,0,[],l⟩
noncomputable def m200 (c138:F138) (l0:A200_0) (y:PTup i200):Option (PTup o200×BTup i200):=
  (l0 (y.1,((lenI y.1),())) () ((0:Int),())).bind fun r0=>
  sumElim r0.1 (fun r1=>some ((true,()),()))
  (fun r1=>some (r1,()))
noncomputable def E200 (c138:F138) (l0:A200_0):CEnv:=⟨⟨Tryz.prog,fnsL [g138 c138]⟩,loopsL [(2,e200_0 l0)]⟩
theorem t200_0 (c138:F138) (l0:A200_0) (again) (x y z):loopRound (E200 c138 l0) (loopAt (bodyOf Tryz.f200) 0) (e200_0 l0) Tryz.f200.ntmps again x y z=w200_0 c138 again x y z:=by kernel_rfl
noncomputable def n200_0 (c138:F138):Nat→A200_0
  |0,_,_,_=>none
  |n+1,x,y,z=>w200_0 c138 (fun y z=>n200_0 c138 n x y z) x y z
theorem s200 (c138:F138) (l0:A200_0) (y):tevF (E200 c138 l0) Tryz.f200 i200 o200 y=m200 c138 l0 y:=by kernel_rfl
noncomputable def L200_0:A200_0:=n200_0 r138 fuel
noncomputable def r200:F200:=m200 r138 L200_0
theorem k200:KO (g200 r200):=by
  have hE: ∀g f,(E200 r138 L200_0).env.fns g=some f→CallOk Tryz.prog g f:=fnsL_ok ⟨k138,⟨⟩⟩
  have h0:LoopOk Tryz.prog Tryz.f200.ntmps (loopAt (bodyOf Tryz.f200) 0) (e200_0 L200_0):=lp_ok (E:=E200 r138 L200_0) rfl hE mixed (AllLoops.of_list (l:=[]) (by kernel_rfl) trivial) (n200_0 r138) (fun _ _ _=>rfl) (fun n x y z=>t200_0 r138 L200_0 _ x y z) rfl
  exact fn_ok (E:=E200 r138 L200_0) rfl hE mixed (by kernel_rfl) (by kernel_rfl) (AllLoops.of_list (l:=[(loopAt (bodyOf Tryz.f200) 0)]) (by kernel_rfl) (.one (by kernel_rfl) h0 trivial)) (s200 r138 L200_0)
abbrev i199:Ts:=[.a q0]
abbrev o199:Ts:=[.v (.bool)]
abbrev F199:=FT i199 o199
abbrev g199:=mkG 199 i199 o199
abbrev lc199_0:Ts:=[.v (.sl false .n), .v (.int .i64)]
abbrev lb199_0:Ts:=[]
abbrev lv199_0:Ts:=[.v (.int .i64)]
abbrev lr199_0:Ts:=[.v (.bool)]
abbrev R199_0:=Option (Sum (PTup lv199_0) (PTup lr199_0)×BTup lb199_0)
abbrev B199_0:=PTup lb199_0→PTup lv199_0→R199_0
abbrev A199_0:=PTup lc199_0→B199_0
noncomputable def w199_0 (c200:F200) (c140:F140) (again:B199_0) (x:PTup lc199_0) (y:PTup lb199_0) (z:PTup lv199_0):R199_0:=
  bif (ltI z.1 x.2.1)then (bif (leI 0 z.1)then (bif (ltI z.1 (lenI x.1))then (bif (neI (lenI (rdE .n x.1 z.1)) (256:Int))then (some ((Sum.inr (false,())),()))
     else (c200 ((rdE .n x.1 z.1),())).bind fun r0=>
     bif (!r0.1.1)then (some ((Sum.inr (false,())),()))
     else again () ((wI (z.1+1)),()))
    else none)
   else none)
  else some ((Sum.inl z),())
noncomputable def e199_0 (l:A199_0):LoopE:=⟨[6,7],lc199_0,[],lb199_0,[8],lv199_0,[2],lr199_0,0,[],l⟩
noncomputable def m199 (c200:F200) (c140:F140) (l0:A199_0) (y:PTup i199):Option (PTup o199×BTup i199):=
  (l0 (y.1.1,((lenI y.1.1),())) () ((0:Int),())).bind fun r0=>
  sumElim r0.1 (fun r1=>(c140 ((lenI y.1.1),((1:Int),((8:Int),())))).bind fun r2=>
   some (r2.1,()))
  (fun r1=>some (r1,()))
noncomputable def E199 (c200:F200) (c140:F140) (l0:A199_0):CEnv:=⟨⟨Tryz.prog,fnsL [g200 c200,g140 c140]⟩,loopsL [(2,e199_0 l0)]⟩
theorem t199_0 (c200:F200) (c140:F140) (l0:A199_0) (again) (x y z):loopRound (E199 c200 c140 l0) (loopAt (bodyOf Tryz.f199) 0) (e199_0 l0) Tryz.f199.ntmps again x y z=w199_0 c200 c140 again x y z:=by kernel_rfl
noncomputable def n199_0 (c200:F200) (c140:F140):Nat→A199_0
  |0,_,_,_=>none
  |n+1,x,y,z=>w199_0 c200 c140 (fun y z=>n199_0 c200 c140 n x y z) x y z
theorem s199 (c200:F200) (c140:F140) (l0:A199_0) (y):tevF (E199 c200 c140 l0) Tryz.f199 i199 o199 y=m199 c200 c140 l0 y:=by kernel_rfl
noncomputable def L199_0:A199_0:=n199_0 r200 r140 fuel
noncomputable def r199:F199:=m199 r200 r140 L199_0
theorem k199:KO (g199 r199):=by
  have hE: ∀g f,(E199 r200 r140 L199_0).env.fns g=some f→CallOk Tryz.prog g f:=fnsL_ok ⟨k200,k140,⟨⟩⟩
  have h0:LoopOk Tryz.prog Tryz.f199.ntmps (loopAt (bodyOf Tryz.f199) 0) (e199_0 L199_0):=lp_ok (E:=E199 r200 r140 L199_0) rfl hE mixed (AllLoops.of_list (l:=[]) (by kernel_rfl) trivial) (n199_0 r200 r140) (fun _ _ _=>rfl) (fun n x y z=>t199_0 r200 r140 L199_0 _ x y z) rfl
  exact fn_ok (E:=E199 r200 r140 L199_0) rfl hE mixed (by kernel_rfl) (by kernel_rfl) (AllLoops.of_list (l:=[(loopAt (bodyOf Tryz.f199) 0)]) (by kernel_rfl) (.one (by kernel_rfl) h0 trivial)) (s199 r200 r140 L199_0)
abbrev i133:Ts:=[.a q0, .a q1]
abbrev o133:Ts:=[.v (.bool)]
abbrev F133:=FT i133 o133
abbrev g133:=mkG 133 i133 o133
noncomputable def m133 (c199:F199) (c200:F200) (c140:F140) (y:PTup i133):Option (PTup o133×BTup i133):=
  (c199 (y.1,())).bind fun r0=>
  bif r0.1.1 then (bif (eqI (lenI y.2.1.1) 512)then ((c200 (y.2.1.1,())).bind fun r1=>
    bif r1.1.1 then ((c140 (y.2.1.2.1,((0:Int),((wI ((lenI y.1.1)-1)),())))).bind fun r2=>
     some (r2.1,()))
    else no)
   else no)
  else no
theorem s133 (c199:F199) (c200:F200) (c140:F140) (y):TE [g199 c199,g200 c200,g140 c140] Tryz.f133 i133 o133 y=m133 c199 c200 c140 y:=by kernel_rfl
noncomputable def r133:F133:=m133 r199 r200 r140
theorem k133:KO (g133 r133):=fk (s133 r199 r200 r140) ⟨k199,k200,k140,⟨⟩⟩ (by kernel_rfl)
abbrev i134:Ts:=[.v (.sl false .i)]
abbrev o134:Ts:=[.v (.bool)]
abbrev F134:=FT i134 o134
abbrev g134:=mkG 134 i134 o134
noncomputable def m134 (c200:F200) (y:PTup i134):Option (PTup o134×BTup i134):=
  bif (leI (lenI y.1) 20)then ((c200 y).bind fun r0=>
   some (r0.1,()))
  else no
theorem s134 (c200:F200) (y):TE [g200 c200] Tryz.f134 i134 o134 y=m134 c200 y:=by kernel_rfl
noncomputable def r134:F134:=m134 r200
theorem k134:KO (g134 r134):=fk (s134 r200) ⟨k200,⟨⟩⟩ (by kernel_rfl)
abbrev i135:Ts:=[.a q8]
abbrev o135:Ts:=[.v (.bool)]
abbrev F135:=FT i135 o135
abbrev g135:=mkG 135 i135 o135
noncomputable def m135 (c138:F138) (c140:F140) (y:PTup i135):Option (PTup o135×BTup i135):=
  (c138 (y.1.1,())).bind fun r0=>
  bif r0.1.1 then ((c138 (y.1.2.1,())).bind fun r1=>
   bif r1.1.1 then ((c138 (y.1.2.2.1,())).bind fun r2=>
    bif r2.1.1 then ((c140 (y.1.2.2.2.1,((0:Int),((65535:Int),())))).bind fun r3=>
     some (r3.1,()))
    else no)
   else no)
  else no
theorem s135 (c138:F138) (c140:F140) (y):TE [g138 c138,g140 c140] Tryz.f135 i135 o135 y=m135 c138 c140 y:=by kernel_rfl
noncomputable def r135:F135:=m135 r138 r140
theorem k135:KO (g135 r135):=fk (s135 r138 r140) ⟨k138,k140,⟨⟩⟩ (by kernel_rfl)
abbrev i139:Ts:=[.v (.int .i64)]
abbrev o139:Ts:=[.v (.bool)]
abbrev F139:=FT i139 o139
abbrev g139:=mkG 139 i139 o139
noncomputable def m139 (c140:F140) (y:PTup i139):Option (PTup o139×BTup i139):=
  (c140 (y.1,((0:Int),((20000:Int),())))).bind fun r0=>
  some (r0.1,())
theorem s139 (c140:F140) (y):TE [g140 c140] Tryz.f139 i139 o139 y=m139 c140 y:=by kernel_rfl
noncomputable def r139:F139:=m139 r140
theorem k139:KO (g139 r139):=fk (s139 r140) ⟨k140,⟨⟩⟩ (by kernel_rfl)
abbrev i221:Ts:=[.v (.sl false .i)]
abbrev o221:Ts:=[.v (.bool)]
abbrev F221:=FT i221 o221
abbrev g221:=mkG 221 i221 o221
abbrev lc221_0:Ts:=[.v (.sl false .i), .v (.int .i64)]
abbrev lb221_0:Ts:=[]
abbrev lv221_0:Ts:=[.v (.int .i64)]
abbrev lr221_0:Ts:=[.v (.bool)]
abbrev R221_0:=Option (Sum (PTup lv221_0) (PTup lr221_0)×BTup lb221_0)
abbrev B221_0:=PTup lb221_0→PTup lv221_0→R221_0
abbrev A221_0:=PTup lc221_0→B221_0
noncomputable def w221_0 (c140:F140) (again:B221_0) (x:PTup lc221_0) (y:PTup lb221_0) (z:PTup lv221_0):R221_0:=
  bif (ltI z.1 x.2.1)then (bif (leI 0 z.1)then (bif (ltI z.1 (lenI x.1))then ((c140 ((rdE .i x.1 z.1),((0:Int),((63:Int),())))).bind fun r0=>
     bif (!r0.1.1)then (some ((Sum.inr (false,())),()))
     else again () ((wI (z.1+1)),()))
    else none)
   else none)
  else some ((Sum.inl z),())
noncomputable def e221_0 (l:A221_0):LoopE:=⟨[5,6],lc221_0,[],lb221_0,[7],lv221_0,[2],lr221_0,0,[],l⟩
noncomputable def m221 (c140:F140) (l0:A221_0) (y:PTup i221):Option (PTup o221×BTup i221):=
  (l0 (y.1,((lenI y.1),())) () ((0:Int),())).bind fun r0=>
  sumElim r0.1 (fun r1=>some ((true,()),()))
  (fun r1=>some (r1,()))
noncomputable def E221 (c140:F140) (l0:A221_0):CEnv:=⟨⟨Tryz.prog,fnsL [g140 c140]⟩,loopsL [(2,e221_0 l0)]⟩
theorem t221_0 (c140:F140) (l0:A221_0) (again) (x y z):loopRound (E221 c140 l0) (loopAt (bodyOf Tryz.f221) 0) (e221_0 l0) Tryz.f221.ntmps again x y z=w221_0 c140 again x y z:=by kernel_rfl
noncomputable def n221_0 (c140:F140):Nat→A221_0
  |0,_,_,_=>none
  |n+1,x,y,z=>w221_0 c140 (fun y z=>n221_0 c140 n x y z) x y z
theorem s221 (c140:F140) (l0:A221_0) (y):tevF (E221 c140 l0) Tryz.f221 i221 o221 y=m221 c140 l0 y:=by kernel_rfl
noncomputable def L221_0:A221_0:=n221_0 r140 fuel
noncomputable def r221:F221:=m221 r140 L221_0
theorem k221:KO (g221 r221):=by
  have hE: ∀g f,(E221 r140 L221_0).env.fns g=some f→CallOk Tryz.prog g f:=fnsL_ok ⟨k140,⟨⟩⟩
  have h0:LoopOk Tryz.prog Tryz.f221.ntmps (loopAt (bodyOf Tryz.f221) 0) (e221_0 L221_0):=lp_ok (E:=E221 r140 L221_0) rfl hE mixed (AllLoops.of_list (l:=[]) (by kernel_rfl) trivial) (n221_0 r140) (fun _ _ _=>rfl) (fun n x y z=>t221_0 r140 L221_0 _ x y z) rfl
  exact fn_ok (E:=E221 r140 L221_0) rfl hE mixed (by kernel_rfl) (by kernel_rfl) (AllLoops.of_list (l:=[(loopAt (bodyOf Tryz.f221) 0)]) (by kernel_rfl) (.one (by kernel_rfl) h0 trivial)) (s221 r140 L221_0)
abbrev i149:Ts:=[.a q2]
abbrev o149:Ts:=[.v (.bool)]
abbrev F149:=FT i149 o149
abbrev g149:=mkG 149 i149 o149
noncomputable def m149 (c221:F221) (c138:F138) (c139:F139) (c140:F140) (y:PTup i149):Option (PTup o149×BTup i149):=
  (c139 (y.1.1,())).bind fun r0=>
  bif (!r0.1.1)then no
  else (c138 (y.1.2.1,())).bind fun r1=>
  bif (!r1.1.1)then no
  else (c138 (y.1.2.2.1,())).bind fun r2=>
  bif (!r2.1.1)then no
  else (c140 (y.1.2.2.2.1,((0:Int),((15:Int),())))).bind fun r3=>
  bif (!r3.1.1)then no
  else (c140 (y.1.2.2.2.2.1,((0:Int),((63:Int),())))).bind fun r4=>
  bif (!r4.1.1)then no
  else bif (ltI 48 (Int.tmod y.1.1 64))then (bif (eqI (lenI y.1.2.2.2.2.2.2.1) 16)then ((c221 (y.1.2.2.2.2.2.2.1,())).bind fun r5=>
    bif r5.1.1 then (bif (eqI (lenI y.1.2.2.2.2.2.2.2.1) 0)then ((c221 y.1.2.2.2.2.2.2.2).bind fun r6=>
      some (r6.1,()))
     else no)
    else no)
   else no)
  else bif (eqI (lenI y.1.2.2.2.2.2.2.1) 16)then ((c221 (y.1.2.2.2.2.2.2.1,())).bind fun r5=>
   bif r5.1.1 then (bif (eqI (lenI y.1.2.2.2.2.2.2.2.1) (Int.tmod y.1.1 64))then ((c221 y.1.2.2.2.2.2.2.2).bind fun r6=>
     some (r6.1,()))
    else no)
   else no)
  else no
theorem s149 (c221:F221) (c138:F138) (c139:F139) (c140:F140) (y):TE [g221 c221,g138 c138,g139 c139,g140 c140] Tryz.f149 i149 o149 y=m149 c221 c138 c139 c140 y:=by kernel_rfl
noncomputable def r149:F149:=m149 r221 r138 r139 r140
theorem k149:KO (g149 r149):=fk (s149 r221 r138 r139 r140) ⟨k221,k138,k139,k140,⟨⟩⟩ (by kernel_rfl)
abbrev i262:Ts:=[.a q3]
abbrev o262:Ts:=[.v (.bool)]
abbrev R262:=Option (PTup o262×BTup i262)
abbrev F262:=PTup i262→R262
abbrev g262:=mkG 262 i262 o262
abbrev lc262_0:Ts:=[.v (.sl false .t), .v (.int .i64)]
abbrev lb262_0:Ts:=[.p q3]
abbrev lv262_0:Ts:=[.v (.int .i64)]
abbrev lr262_0:Ts:=[.v (.bool)]
abbrev R262_0:=Option (Sum (PTup lv262_0) (PTup lr262_0)×BTup lb262_0)
abbrev B262_0:=PTup lb262_0→PTup lv262_0→R262_0
abbrev A262_0:=PTup lc262_0→B262_0
noncomputable def w262_0 (c138:F138) (c139:F139) (c140:F140) (again:B262_0) (x:PTup lc262_0) (y:PTup lb262_0) (z:PTup lv262_0):R262_0:=
  let X0:R262_0:=(c140 ((rdE .t x.1 z.1).2.1,((0:Int),((7:Int),())))).bind fun r1=>bif (!r1.1.1)then (some ((Sum.inr (false,())),(y.1,())))else (c138 ((rdE .t x.1 z.1).2.2,())).bind fun r2=>bif (!r2.1.1)then (some ((Sum.inr (false,())),(y.1,())))else again (y.1,()) ((wI (z.1+1)),());bif (ltI z.1 x.2.1)then (bif (leI 0 z.1)then (bif (ltI z.1 (lenI x.1))then ((c139 ((rdE .t x.1 z.1).1,())).bind fun r0=>bif (!r0.1.1)then (some ((Sum.inr (false,())),(y.1,())))else bif (ltI 0 z.1)then (bif (leI 0 (wI (z.1-1)))then (bif (ltI (wI (z.1-1)) (lenI y.1.2.1))then (bif (ltI (rdE .t x.1 z.1).1 (rdE .t y.1.2.1 (wI (z.1-1))).1)then (some ((Sum.inr (false,())),(y.1,())))else X0)else none)else none)else X0)else none)else none)else some ((Sum.inl z),(y.1,()))
noncomputable def e262_0 (l:A262_0):LoopE:=⟨[6,7],lc262_0,[1],lb262_0,[8],lv262_0,[2],lr262_0,0,[],l⟩
noncomputable def m262 (c138:F138) (c139:F139) (c140:F140) (l0:A262_0) (y:PTup i262):R262:=
  (l0 (y.1.2.1,((lenI y.1.2.1),())) (y.1,()) ((0:Int),())).bind fun r0=>
  sumElim r0.1 (fun r1=>(c140 (r0.2.1.1,((1:Int),((16:Int),())))).bind fun r2=>
   bif r2.1.1 then (some (((leI (lenI y.1.2.1) r0.2.1.1),()),()))
   else no)
  (fun r1=>some (r1,()))
noncomputable def E262 (c138:F138) (c139:F139) (c140:F140) (l0:A262_0):CEnv:=⟨⟨Tryz.prog,fnsL [g138 c138,g139 c139,g140 c140]⟩,loopsL [(2,e262_0 l0)]⟩
theorem t262_0 (c138:F138) (c139:F139) (c140:F140) (l0:A262_0) (again) (x y z):loopRound (E262 c138 c139 c140 l0) (loopAt (bodyOf Tryz.f262) 0) (e262_0 l0) Tryz.f262.ntmps again x y z=w262_0 c138 c139 c140 again x y z:=by kernel_rfl
noncomputable def n262_0 (c138:F138) (c139:F139) (c140:F140):Nat→A262_0
  |0,_,_,_=>none
  |n+1,x,y,z=>w262_0 c138 c139 c140 (fun y z=>n262_0 c138 c139 c140 n x y z) x y z
theorem s262 (c138:F138) (c139:F139) (c140:F140) (l0:A262_0) (y):tevF (E262 c138 c139 c140 l0) Tryz.f262 i262 o262 y=m262 c138 c139 c140 l0 y:=by kernel_rfl
noncomputable def L262_0:A262_0:=n262_0 r138 r139 r140 fuel
noncomputable def r262:F262:=m262 r138 r139 r140 L262_0
theorem k262:KO (g262 r262):=by
  have hE: ∀g f,(E262 r138 r139 r140 L262_0).env.fns g=some f→CallOk Tryz.prog g f:=fnsL_ok ⟨k138,k139,k140,⟨⟩⟩
  have h0:LoopOk Tryz.prog Tryz.f262.ntmps (loopAt (bodyOf Tryz.f262) 0) (e262_0 L262_0):=lp_ok (E:=E262 r138 r139 r140 L262_0) rfl hE mixed (AllLoops.of_list (l:=[]) (by kernel_rfl) trivial) (n262_0 r138 r139 r140) (fun _ _ _=>rfl) (fun n x y z=>t262_0 r138 r139 r140 L262_0 _ x y z) rfl
  exact fn_ok (E:=E262 r138 r139 r140 L262_0) rfl hE mixed (by kernel_rfl) (by kernel_rfl) (AllLoops.of_list (l:=[(loopAt (bodyOf Tryz.f262) 0)]) (by kernel_rfl) (.one (by kernel_rfl) h0 trivial)) (s262 r138 r139 r140 L262_0)
abbrev i201:Ts:=[.a q3, .v (.int .i64)]
abbrev o201:Ts:=[.v (.bool)]
abbrev F201:=FT i201 o201
abbrev g201:=mkG 201 i201 o201
noncomputable def m201 (c262:F262) (y:PTup i201):Option (PTup o201×BTup i201):=
  (c262 (y.1,())).bind fun r0=>
  bif r0.1.1 then (bif (eqI (lenI y.1.2.1) 0)then (some ((true,()),()))
   else bif (ltI 0 (lenI y.1.2.1))then (some (((leI y.2.1 (rdE .t y.1.2.1 (0:Int)).1),()),()))
   else none)
  else no
theorem s201 (c262:F262) (y):TE [g262 c262] Tryz.f201 i201 o201 y=m201 c262 y:=by kernel_rfl
noncomputable def r201:F201:=m201 r262
theorem k201:KO (g201 r201):=fk (s201 r262) ⟨k262,⟨⟩⟩ (by kernel_rfl)
abbrev i222:Ts:=[.v (.int .i64), .v (.int .i64), .v (.int .i64)]
abbrev o222:Ts:=[.v (.int .i64)]
abbrev F222:=FT i222 o222
abbrev g222:=mkG 222 i222 o222
noncomputable def m222 (y:PTup i222):Option (PTup o222×BTup i222):=
  bif (neI y.2.2.1 0)then (some (((wI (Int.tdiv (wI ((wI ((wI (y.1+y.2.2.1))-1))-y.2.1)) y.2.2.1)),()),()))
  else none
theorem s222 (y):TE [] Tryz.f222 i222 o222 y=m222 y:=by kernel_rfl
noncomputable def r222:F222:=m222
theorem k222:KO (g222 r222):=fk (s222) trivial (by kernel_rfl)
abbrev i151:Ts:=[.v (.sl false .n), .v (.int .i64)]
abbrev o151:Ts:=[.v (.bool)]
abbrev F151:=FT i151 o151
abbrev g151:=mkG 151 i151 o151
abbrev lc151_0:Ts:=[.v (.sl false .n), .v (.int .i64)]
abbrev lb151_0:Ts:=[]
abbrev lv151_0:Ts:=[.v (.int .i64)]
abbrev lr151_0:Ts:=[.v (.bool)]
abbrev R151_0:=Option (Sum (PTup lv151_0) (PTup lr151_0)×BTup lb151_0)
abbrev B151_0:=PTup lb151_0→PTup lv151_0→R151_0
abbrev A151_0:=PTup lc151_0→B151_0
noncomputable def w151_0 (c222:F222) (again:B151_0) (x:PTup lc151_0) (y:PTup lb151_0) (z:PTup lv151_0):R151_0:=
  bif (ltI z.1 x.2.1)then (bif (leI 0 z.1)then (bif (ltI z.1 (lenI x.1))then (bif (neI (lenI (rdE .n x.1 z.1)) (48:Int))then (some ((Sum.inr (false,())),()))
     else again () ((wI (z.1+1)),()))
    else none)
   else none)
  else some ((Sum.inl z),())
noncomputable def e151_0 (l:A151_0):LoopE:=⟨[7,8],lc151_0,[],lb151_0,[9],lv151_0,[4],lr151_0,0,[],l⟩
noncomputable def m151 (c222:F222) (l0:A151_0) (y:PTup i151):Option (PTup o151×BTup i151):=
  (l0 (y.1,((lenI y.1),())) () ((0:Int),())).bind fun r0=>
  sumElim r0.1 (fun r1=>(c222 (y.2.1,((48:Int),((64:Int),())))).bind fun r2=>
   some (((eqI (lenI y.1) r2.1.1),()),()))
  (fun r1=>some (r1,()))
noncomputable def E151 (c222:F222) (l0:A151_0):CEnv:=⟨⟨Tryz.prog,fnsL [g222 c222]⟩,loopsL [(2,e151_0 l0)]⟩
theorem t151_0 (c222:F222) (l0:A151_0) (again) (x y z):loopRound (E151 c222 l0) (loopAt (bodyOf Tryz.f151) 0) (e151_0 l0) Tryz.f151.ntmps again x y z=w151_0 c222 again x y z:=by kernel_rfl
noncomputable def n151_0 (c222:F222):Nat→A151_0
  |0,_,_,_=>none
  |n+1,x,y,z=>w151_0 c222 (fun y z=>n151_0 c222 n x y z) x y z
theorem s151 (c222:F222) (l0:A151_0) (y):tevF (E151 c222 l0) Tryz.f151 i151 o151 y=m151 c222 l0 y:=by kernel_rfl
noncomputable def L151_0:A151_0:=n151_0 r222 fuel
noncomputable def r151:F151:=m151 r222 L151_0
theorem k151:KO (g151 r151):=by
  have hE: ∀g f,(E151 r222 L151_0).env.fns g=some f→CallOk Tryz.prog g f:=fnsL_ok ⟨k222,⟨⟩⟩
  have h0:LoopOk Tryz.prog Tryz.f151.ntmps (loopAt (bodyOf Tryz.f151) 0) (e151_0 L151_0):=lp_ok (E:=E151 r222 L151_0) rfl hE mixed (AllLoops.of_list (l:=[]) (by kernel_rfl) trivial) (n151_0 r222) (fun _ _ _=>rfl) (fun n x y z=>t151_0 r222 L151_0 _ x y z) rfl
  exact fn_ok (E:=E151 r222 L151_0) rfl hE mixed (by kernel_rfl) (by kernel_rfl) (AllLoops.of_list (l:=[(loopAt (bodyOf Tryz.f151) 0)]) (by kernel_rfl) (.one (by kernel_rfl) h0 trivial)) (s151 r222 L151_0)
abbrev i136:Ts:=[.a q4]
abbrev o136:Ts:=[.v (.bool)]
abbrev F136:=FT i136 o136
abbrev g136:=mkG 136 i136 o136
noncomputable def m136 (c149:F149) (c151:F151) (c201:F201) (y:PTup i136):Option (PTup o136×BTup i136):=
  (c149 ((y.1.1,(y.1.2.1,(y.1.2.2.1,(y.1.2.2.2.1,(y.1.2.2.2.2.1,(y.1.2.2.2.2.2.1,(y.1.2.2.2.2.2.2.1,(y.1.2.2.2.2.2.2.2.1,())))))))),())).bind fun r0=>
  bif r0.1.1 then ((c201 ((y.1.2.2.2.2.2.2.2.2.1,(y.1.2.2.2.2.2.2.2.2.2.1,())),(y.1.1,()))).bind fun r1=>
   bif r1.1.1 then ((c151 (y.1.2.2.2.2.2.2.2.2.2.2.1,(y.1.1,()))).bind fun r2=>
    some (r2.1,()))
   else no)
  else no
theorem s136 (c149:F149) (c151:F151) (c201:F201) (y):TE [g149 c149,g151 c151,g201 c201] Tryz.f136 i136 o136 y=m136 c149 c151 c201 y:=by kernel_rfl
noncomputable def r136:F136:=m136 r149 r151 r201
theorem k136:KO (g136 r136):=fk (s136 r149 r151 r201) ⟨k149,k151,k201,⟨⟩⟩ (by kernel_rfl)
abbrev i150:Ts:=[.a q12]
abbrev o150:Ts:=[.v (.bool)]
abbrev F150:=FT i150 o150
abbrev g150:=mkG 150 i150 o150
noncomputable def m150 (c138:F138) (c139:F139) (c140:F140) (y:PTup i150):Option (PTup o150×BTup i150):=
  (c139 (y.1.1,())).bind fun r0=>
  bif r0.1.1 then ((c138 (y.1.2.1,())).bind fun r1=>
   bif r1.1.1 then ((c138 (y.1.2.2.1,())).bind fun r2=>
    bif r2.1.1 then ((c140 (y.1.2.2.2.1,((0:Int),((1:Int),())))).bind fun r3=>
     bif r3.1.1 then ((c140 (y.1.2.2.2.2.1,((0:Int),((31:Int),())))).bind fun r4=>
      some (r4.1,()))
     else no)
    else no)
   else no)
  else no
theorem s150 (c138:F138) (c139:F139) (c140:F140) (y):TE [g138 c138,g139 c139,g140 c140] Tryz.f150 i150 o150 y=m150 c138 c139 c140 y:=by kernel_rfl
noncomputable def r150:F150:=m150 r138 r139 r140
theorem k150:KO (g150 r150):=fk (s150 r138 r139 r140) ⟨k138,k139,k140,⟨⟩⟩ (by kernel_rfl)
abbrev i152:Ts:=[.v (.sl false .i), .v (.int .i64)]
abbrev o152:Ts:=[.v (.bool)]
abbrev F152:=FT i152 o152
abbrev g152:=mkG 152 i152 o152
noncomputable def m152 (c222:F222) (y:PTup i152):Option (PTup o152×BTup i152):=
  (c222 (y.2.1,((15:Int),((16:Int),())))).bind fun r0=>
  some (((eqI (lenI y.1) r0.1.1),()),())
theorem s152 (c222:F222) (y):TE [g222 c222] Tryz.f152 i152 o152 y=m152 c222 y:=by kernel_rfl
noncomputable def r152:F152:=m152 r222
theorem k152:KO (g152 r152):=fk (s152 r222) ⟨k222,⟨⟩⟩ (by kernel_rfl)
abbrev i137:Ts:=[.a q5]
abbrev o137:Ts:=[.v (.bool)]
abbrev F137:=FT i137 o137
abbrev g137:=mkG 137 i137 o137
noncomputable def m137 (c150:F150) (c201:F201) (c152:F152) (y:PTup i137):Option (PTup o137×BTup i137):=
  (c150 ((y.1.1,(y.1.2.1,(y.1.2.2.1,(y.1.2.2.2.1,(y.1.2.2.2.2.1,(y.1.2.2.2.2.2.1,(y.1.2.2.2.2.2.2.1,()))))))),())).bind fun r0=>
  bif r0.1.1 then ((c201 ((y.1.2.2.2.2.2.2.2.1,(y.1.2.2.2.2.2.2.2.2.1,())),(y.1.1,()))).bind fun r1=>
   bif r1.1.1 then ((c152 (y.1.2.2.2.2.2.2.2.2.2.1,(y.1.1,()))).bind fun r2=>
    some (r2.1,()))
   else no)
  else no
theorem s137 (c150:F150) (c201:F201) (c152:F152) (y):TE [g150 c150,g201 c201,g152 c152] Tryz.f137 i137 o137 y=m137 c150 c201 c152 y:=by kernel_rfl
noncomputable def r137:F137:=m137 r150 r201 r152
theorem k137:KO (g137 r137):=fk (s137 r150 r201 r152) ⟨k150,k201,k152,⟨⟩⟩ (by kernel_rfl)
abbrev i141:Ts:=[.a q3, .v (.int .i64)]
abbrev o141:Ts:=[.v (.bool)]
abbrev F141:=FT i141 o141
abbrev g141:=mkG 141 i141 o141
noncomputable def m141 (y:PTup i141):Option (PTup o141×BTup i141):=
  bif (eqI (lenI y.1.2.1) 0)then (some ((true,()),()))
  else bif (leI 0 (wI ((lenI y.1.2.1)-1)))then (bif (ltI (wI ((lenI y.1.2.1)-1)) (lenI y.1.2.1))then (some (((leI (rdE .t y.1.2.1 (wI ((lenI y.1.2.1)-1))).1 y.2.1),()),()))
   else none)
  else none
theorem s141 (y):TE [] Tryz.f141 i141 o141 y=m141 y:=by kernel_rfl
noncomputable def r141:F141:=m141
theorem k141:KO (g141 r141):=fk (s141) trivial (by kernel_rfl)
abbrev i34:Ts:=[.a q6]
abbrev o34:Ts:=[.v (.bool)]
abbrev R34:=Option (PTup o34×BTup i34)
abbrev F34:=PTup i34→R34
abbrev g34:=mkG 34 i34 o34
noncomputable def m34 (c135:F135) (c133:F133) (c134:F134) (c136:F136) (c137:F137) (c138:F138) (c139:F139) (c141:F141) (c140:F140) (y:PTup i34):R34:=
  let a0:=y.1;let a1:=a0.2;let a2:=a1.2;let a3:=a2.2;let a4:=a3.2;let a5:=a4.2;let a6:=a5.2;let a7:=a6.2;let a8:=a7.2;let a9:=a8.2;let a10:=a9.2;let a11:=a10.2;let a12:=a11.2;let a13:=a12.2;let a14:=a13.2;let a15:=a14.1;let a16:=a14.2;let a17:=a16.2;let a18:=a17.2;let a19:=a18.2;let a20:=a19.2;let a21:=a20.2;let a22:=a21.2;let a23:=a22.2;let a24:=a23.2;let a25:=a24.2;let a26:=a25.2;let a27:=a26.2;let a28:=a27.2;let a29:=a28.2;let a30:=a29.2.2;let a31:=a30.2.2.2.2.2.2.2.2.2;(c133 ((a0.1,()),((a2.1,(a3.1,())),()))).bind fun r0=>bif r0.1.1 then ((c134 (a1.1,())).bind fun r1=>bif r1.1.1 then ((c135 ((a4.1,(a5.1,(a6.1,(a7.1,(a8.1,(a9.1,(a10.1,(a11.1,())))))))),())).bind fun r2=>bif r2.1.1 then ((c136 ((a22.1,(a23.1,(a24.1,(a25.1,(a26.1,(a27.1,(a28.1,(a29.1,(a29.2.1,(a30.1,(a30.2.1,()))))))))))),())).bind fun r3=>bif r3.1.1 then ((c137 (a30.2.2,())).bind fun r4=>let X0:R34:=bif r4.1.1 then no else no;(c138 (a13.1,())).bind fun r5=>bif r5.1.1 then ((c138 (a17.1,())).bind fun r6=>bif r6.1.1 then ((c139 (a15,())).bind fun r7=>bif r7.1.1 then ((c140 (a19.1,((0:Int),(a15,())))).bind fun r8=>bif r8.1.1 then ((c140 (a20.1,((0:Int),(a15,())))).bind fun r9=>bif r4.1.1 then (bif r9.1.1 then (bif (leI a22.1 a15)then (bif (leI a30.2.2.1 a15)then ((c141 ((a29.2.1,(a30.1,())),(a15,()))).bind fun r10=>bif r10.1.1 then ((c141 ((a31.1,(a31.2.1,())),(a15,()))).bind fun r11=>some (r11.1,()))else no)else no)else no)else no)else no)else X0)else X0)else X0)else X0)else (c138 (a13.1,())).bind fun r4=>bif r4.1.1 then ((c138 (a17.1,())).bind fun r5=>bif r5.1.1 then ((c139 (a15,())).bind fun r6=>bif r6.1.1 then ((c140 (a19.1,((0:Int),(a15,())))).bind fun r7=>bif r7.1.1 then ((c140 (a20.1,((0:Int),(a15,())))).bind fun r8=>no)else no)else no)else no)else no)else (c138 (a13.1,())).bind fun r3=>bif r3.1.1 then ((c138 (a17.1,())).bind fun r4=>bif r4.1.1 then ((c139 (a15,())).bind fun r5=>bif r5.1.1 then ((c140 (a19.1,((0:Int),(a15,())))).bind fun r6=>bif r6.1.1 then ((c140 (a20.1,((0:Int),(a15,())))).bind fun r7=>no)else no)else no)else no)else no)else (c138 (a13.1,())).bind fun r2=>bif r2.1.1 then ((c138 (a17.1,())).bind fun r3=>bif r3.1.1 then ((c139 (a15,())).bind fun r4=>bif r4.1.1 then ((c140 (a19.1,((0:Int),(a15,())))).bind fun r5=>bif r5.1.1 then ((c140 (a20.1,((0:Int),(a15,())))).bind fun r6=>no)else no)else no)else no)else no)else (c138 (a13.1,())).bind fun r1=>bif r1.1.1 then ((c138 (a17.1,())).bind fun r2=>bif r2.1.1 then ((c139 (a15,())).bind fun r3=>bif r3.1.1 then ((c140 (a19.1,((0:Int),(a15,())))).bind fun r4=>bif r4.1.1 then ((c140 (a20.1,((0:Int),(a15,())))).bind fun r5=>no)else no)else no)else no)else no
theorem s34 (c135:F135) (c133:F133) (c134:F134) (c136:F136) (c137:F137) (c138:F138) (c139:F139) (c141:F141) (c140:F140) (y):TE [g135 c135,g133 c133,g134 c134,g136 c136,g137 c137,g138 c138,g139 c139,g141 c141,g140 c140] Tryz.f34 i34 o34 y=m34 c135 c133 c134 c136 c137 c138 c139 c141 c140 y:=by kernel_rfl
noncomputable def r34:F34:=m34 r135 r133 r134 r136 r137 r138 r139 r141 r140
theorem k34:KO (g34 r34):=fk (s34 r135 r133 r134 r136 r137 r138 r139 r141 r140) ⟨k135,k133,k134,k136,k137,k138,k139,k141,k140,⟨⟩⟩ (by kernel_rfl)
abbrev i92:Ts:=[.a q6]
abbrev o92:Ts:=[.v (.bool)]
abbrev F92:=FT i92 o92
abbrev g92:=mkG 92 i92 o92
noncomputable def m92 (c34:F34) (y:PTup i92):Option (PTup o92×BTup i92):=
  (c34 (y.1,())).bind fun r0=>
  bif r0.1.1 then (some (((leI y.1.2.2.2.2.2.2.2.2.2.2.2.2.2.2.2.2.2.2.2.1 3000),()),()))
  else no
theorem s92 (c34:F34) (y):TE [g34 c34] Tryz.f92 i92 o92 y=m92 c34 y:=by kernel_rfl
noncomputable def r92:F92:=m92 r34
theorem k92:KO (g92 r92):=fk (s92 r34) ⟨k34,⟨⟩⟩ (by kernel_rfl)
abbrev i117:Ts:=[.v (.sl false .i)]
abbrev o117:Ts:=[.v (.sl true .i)]
abbrev F117:=FT i117 o117
abbrev g117:=mkG 117 i117 o117
noncomputable def m117 (y:PTup i117):Option (PTup o117×BTup i117):=
  bif (leN (0+(List.length y.1)) (E.most .i))then (some ((([]++y.1),()),()))
  else none
theorem s117 (y):TE [] Tryz.f117 i117 o117 y=m117 y:=by kernel_rfl
noncomputable def r117:F117:=m117
theorem k117:KO (g117 r117):=fk (s117) trivial (by kernel_rfl)
abbrev i189:Ts:=[.a q0]
abbrev o189:Ts:=[.a [.sl true .n]]
abbrev F189:=FT i189 o189
abbrev g189:=mkG 189 i189 o189
abbrev lc189_0:Ts:=[.v (.sl false .n), .v (.int .i64)]
abbrev lb189_0:Ts:=[.p [.sl true .n]]
abbrev lv189_0:Ts:=[.v (.int .i64)]
abbrev lr189_0:Ts:=[]
abbrev R189_0:=Option (Sum (PTup lv189_0) (PTup lr189_0)×BTup lb189_0)
abbrev B189_0:=PTup lb189_0→PTup lv189_0→R189_0
abbrev A189_0:=PTup lc189_0→B189_0
noncomputable def w189_0 (c117:F117) (again:B189_0) (x:PTup lc189_0) (y:PTup lb189_0) (z:PTup lv189_0):R189_0:=
  bif (ltI z.1 x.2.1)then (bif (leI 0 z.1)then (bif (ltI z.1 (lenI x.1))then ((c117 ((rdE .n x.1 z.1),())).bind fun r0=>
     bif (leN ((List.length y.1.1)+(List.length (r0.1.1::[]))) (E.most .n))then (again (((y.1.1++(r0.1.1::[])),()),()) ((wI (z.1+1)),()))
     else none)
    else none)
   else none)
  else some ((Sum.inl z),(y.1,()))
noncomputable def e189_0 (l:A189_0):LoopE:=⟨[8,9],lc189_0,[3],lb189_0,[10],lv189_0,[],lr189_0,0,[],l⟩
noncomputable def m189 (c117:F117) (l0:A189_0) (y:PTup i189):Option (PTup o189×BTup i189):=
  (l0 (y.1.1,((lenI y.1.1),())) (([],()),()) ((0:Int),())).bind fun r0=>
  sumElim r0.1 (fun r1=>some ((r0.2.1,()),()))
  (fun r1=>some ((([],()),()),()))
noncomputable def E189 (c117:F117) (l0:A189_0):CEnv:=⟨⟨Tryz.prog,fnsL [g117 c117]⟩,loopsL [(3,e189_0 l0)]⟩
theorem t189_0 (c117:F117) (l0:A189_0) (again) (x y z):loopRound (E189 c117 l0) (loopAt (bodyOf Tryz.f189) 0) (e189_0 l0) Tryz.f189.ntmps again x y z=w189_0 c117 again x y z:=by kernel_rfl
noncomputable def n189_0 (c117:F117):Nat→A189_0
  |0,_,_,_=>none
  |n+1,x,y,z=>w189_0 c117 (fun y z=>n189_0 c117 n x y z) x y z
theorem s189 (c117:F117) (l0:A189_0) (y):tevF (E189 c117 l0) Tryz.f189 i189 o189 y=m189 c117 l0 y:=by kernel_rfl
noncomputable def L189_0:A189_0:=n189_0 r117 fuel
noncomputable def r189:F189:=m189 r117 L189_0
theorem k189:KO (g189 r189):=by
  have hE: ∀g f,(E189 r117 L189_0).env.fns g=some f→CallOk Tryz.prog g f:=fnsL_ok ⟨k117,⟨⟩⟩
  have h0:LoopOk Tryz.prog Tryz.f189.ntmps (loopAt (bodyOf Tryz.f189) 0) (e189_0 L189_0):=lp_ok (E:=E189 r117 L189_0) rfl hE mixed (AllLoops.of_list (l:=[]) (by kernel_rfl) trivial) (n189_0 r117) (fun _ _ _=>rfl) (fun n x y z=>t189_0 r117 L189_0 _ x y z) rfl
  exact fn_ok (E:=E189 r117 L189_0) rfl hE mixed (by kernel_rfl) (by kernel_rfl) (AllLoops.of_list (l:=[(loopAt (bodyOf Tryz.f189) 0)]) (by kernel_rfl) (.one (by kernel_rfl) h0 trivial)) (s189 r117 L189_0)
abbrev i247:Ts:=[]
abbrev o247:Ts:=[.a q7]
abbrev F247:=FT i247 o247
abbrev g247:=mkG 247 i247 o247
noncomputable def m247 (y:PTup i247):Option (PTup o247×BTup i247):=
  some ((((List.replicate (Int.toNat (512:Int)) (0:Int)),((0:Int),())),()),())
theorem s247 (y):TE [] Tryz.f247 i247 o247 y=m247 y:=by kernel_rfl
noncomputable def r247:F247:=m247
theorem k247:KO (g247 r247):=fk (s247) trivial (by kernel_rfl)
abbrev i265:Ts:=[.v (.int .i64)]
abbrev o265:Ts:=[.v (.int .i64)]
abbrev F265:=FT i265 o265
abbrev g265:=mkG 265 i265 o265
noncomputable def m265 (y:PTup i265):Option (PTup o265×BTup i265):=
  some (((bAnd Go.IntKind.i64 y.1 (65535:Int)),()),())
theorem s265 (y):TE [] Tryz.f265 i265 o265 y=m265 y:=by kernel_rfl
noncomputable def r265:F265:=m265
theorem k265:KO (g265 r265):=fk (s265) trivial (by kernel_rfl)
abbrev i206:Ts:=[.v (.int .i64)]
abbrev o206:Ts:=[.v (.int .i64), .v (.int .i64)]
abbrev F206:=FT i206 o206
abbrev g206:=mkG 206 i206 o206
noncomputable def m206 (c265:F265) (y:PTup i206):Option (PTup o206×BTup i206):=
  (c265 y).bind fun r0=>
  bif (ltI r0.1.1 8192)then (some (((1:Int),((Int.tmod r0.1.1 512),())),()))
  else bif (ltI r0.1.1 16384)then (some (((2:Int),((Int.tmod r0.1.1 8),())),()))
  else bif (ltI r0.1.1 16388)then (some (((3:Int),((Int.tmod r0.1.1 4),())),()))
  else bif (eqI r0.1.1 16406)then (some (((4:Int),((0:Int),())),()))
  else bif (ltI r0.1.1 32768)then (some (((7:Int),((0:Int),())),()))
  else bif (ltI r0.1.1 49152)then (some (((5:Int),((Int.tmod r0.1.1 256),())),()))
  else some (((6:Int),((Int.tmod r0.1.1 256),())),())
theorem s206 (c265:F265) (y):TE [g265 c265] Tryz.f206 i206 o206 y=m206 c265 y:=by kernel_rfl
noncomputable def r206:F206:=m206 r265
theorem k206:KO (g206 r206):=fk (s206 r265) ⟨k265,⟨⟩⟩ (by kernel_rfl)
abbrev i225:Ts:=[.a q0, .a q1, .v (.int .i64)]
abbrev o225:Ts:=[.v (.int .i64)]
abbrev F225:=FT i225 o225
abbrev g225:=mkG 225 i225 o225
noncomputable def m225 (c206:F206) (y:PTup i225):Option (PTup o225×BTup i225):=
  (c206 y.2.2).bind fun r0=>
  bif (eqI r0.1.1 1)then (bif (leI 0 r0.1.2.1)then (bif (ltI r0.1.2.1 (lenI y.2.1.1))then (some (((rdE .i y.2.1.1 r0.1.2.1),()),()))
    else none)
   else none)
  else bif (eqI r0.1.1 5)then (bif (leI 0 y.2.1.2.1)then (bif (ltI y.2.1.2.1 (lenI y.1.1))then (bif (leI 0 r0.1.2.1)then (bif (ltI r0.1.2.1 (lenI (rdE .n y.1.1 y.2.1.2.1)))then (some (((rdI (rdE .n y.1.1 y.2.1.2.1) r0.1.2.1),()),()))
      else none)
     else none)
    else none)
   else none)
  else bif (eqI r0.1.1 6)then (bif (leI 0 (wI ((lenI y.1.1)-1)))then (bif (ltI (wI ((lenI y.1.1)-1)) (lenI y.1.1))then (bif (leI 0 r0.1.2.1)then (bif (ltI r0.1.2.1 (lenI (rdE .n y.1.1 (wI ((lenI y.1.1)-1)))))then (some (((rdI (rdE .n y.1.1 (wI ((lenI y.1.1)-1))) r0.1.2.1),()),()))
      else none)
     else none)
    else none)
   else none)
  else some (((0:Int),()),())
theorem s225 (c206:F206) (y):TE [g206 c206] Tryz.f225 i225 o225 y=m225 c206 y:=by kernel_rfl
noncomputable def r225:F225:=m225 r206
theorem k225:KO (g225 r225):=fk (s225 r206) ⟨k206,⟨⟩⟩ (by kernel_rfl)
abbrev i326:Ts:=[.a q0, .a q1, .v (.int .i64)]
abbrev o326:Ts:=[.v (.int .i64)]
abbrev F326:=FT i326 o326
abbrev g326:=mkG 326 i326 o326
noncomputable def m326 (c133:F133) (c225:F225) (y:PTup i326):Option (PTup o326×BTup i326):=
  (c133 (y.1,(y.2.1,()))).bind fun r0=>
  bif (!r0.1.1)then (some (((0:Int),()),()))
  else (c225 y).bind fun r1=>
  some (r1.1,())
theorem s326 (c133:F133) (c225:F225) (y):TE [g133 c133,g225 c225] Tryz.f326 i326 o326 y=m326 c133 c225 y:=by kernel_rfl
noncomputable def r326:F326:=m326 r133 r225
theorem k326:KO (g326 r326):=fk (s326 r133 r225) ⟨k133,k225,⟨⟩⟩ (by kernel_rfl)
abbrev i266:Ts:=[.v (.int .i64)]
abbrev o266:Ts:=[.v (.int .i64)]
abbrev F266:=FT i266 o266
abbrev g266:=mkG 266 i266 o266
noncomputable def m266 (y:PTup i266):Option (PTup o266×BTup i266):=
  some (((bAnd Go.IntKind.i64 y.1 (255:Int)),()),())
theorem s266 (y):TE [] Tryz.f266 i266 o266 y=m266 y:=by kernel_rfl
noncomputable def r266:F266:=m266
theorem k266:KO (g266 r266):=fk (s266) trivial (by kernel_rfl)
abbrev i227:Ts:=[.v (.int .i64), .v (.int .i64)]
abbrev o227:Ts:=[.v (.int .i64)]
abbrev F227:=FT i227 o227
abbrev g227:=mkG 227 i227 o227
noncomputable def m227 (c266:F266) (y:PTup i227):Option (PTup o227×BTup i227):=
  (c266 (y.1,())).bind fun r0=>
  (c266 y.2).bind fun r1=>
  some (((wI (r0.1.1+(wI ((256:Int)*r1.1.1)))),()),())
theorem s227 (c266:F266) (y):TE [g266 c266] Tryz.f227 i227 o227 y=m227 c266 y:=by kernel_rfl
noncomputable def r227:F227:=m227 r266
theorem k227:KO (g227 r227):=fk (s227 r266) ⟨k266,⟨⟩⟩ (by kernel_rfl)
abbrev i301:Ts:=[.a q0, .a q1, .v (.int .i64)]
abbrev o301:Ts:=[.v (.int .i64)]
abbrev F301:=FT i301 o301
abbrev g301:=mkG 301 i301 o301
noncomputable def m301 (c227:F227) (c326:F326) (y:PTup i301):Option (PTup o301×BTup i301):=
  (c326 y).bind fun r0=>
  (c326 (y.1,(y.2.1,((wI (y.2.2.1+1)),())))).bind fun r1=>
  (c227 (r0.1.1,r1.1)).bind fun r2=>
  some (r2.1,())
theorem s301 (c227:F227) (c326:F326) (y):TE [g227 c227,g326 c326] Tryz.f301 i301 o301 y=m301 c227 c326 y:=by kernel_rfl
noncomputable def r301:F301:=m301 r227 r326
theorem k301:KO (g301 r301):=fk (s301 r227 r326) ⟨k227,k326,⟨⟩⟩ (by kernel_rfl)
abbrev i248:Ts:=[.a q0]
abbrev o248:Ts:=[.a q8]
abbrev F248:=FT i248 o248
abbrev g248:=mkG 248 i248 o248
noncomputable def m248 (c247:F247) (c301:F301) (y:PTup i248):Option (PTup o248×BTup i248):=
  (c247 ()).bind fun r0=>
  (c301 (y.1,(r0.1.1,((65532:Int),())))).bind fun r1=>
  some ((((0:Int),((0:Int),((255:Int),(r1.1.1,(false,(false,(false,(true,())))))))),()),())
theorem s248 (c247:F247) (c301:F301) (y):TE [g247 c247,g301 c301] Tryz.f248 i248 o248 y=m248 c247 c301 y:=by kernel_rfl
noncomputable def r248:F248:=m248 r247 r301
theorem k248:KO (g248 r248):=fk (s248 r247 r301) ⟨k247,k301,⟨⟩⟩ (by kernel_rfl)
abbrev i249:Ts:=[]
abbrev o249:Ts:=[.a q10]
abbrev F249:=FT i249 o249
abbrev g249:=mkG 249 i249 o249
noncomputable def m249 (y:PTup i249):Option (PTup o249×BTup i249):=
  some ((((0:Int),((0:Int),((0:Int),((0:Int),((0:Int),(false,((List.replicate (Int.toNat (16:Int)) (0:Int)),([],())))))))),()),())
theorem s249 (y):TE [] Tryz.f249 i249 o249 y=m249 y:=by kernel_rfl
noncomputable def r249:F249:=m249
theorem k249:KO (g249 r249):=fk (s249) trivial (by kernel_rfl)
abbrev i41:Ts:=[.a q13]
abbrev o41:Ts:=[.v (.bool)]
abbrev F41:=FT i41 o41
abbrev g41:=mkG 41 i41 o41
noncomputable def m41 (c150:F150) (c135:F135) (c133:F133) (c134:F134) (c149:F149) (c151:F151) (c138:F138) (c152:F152) (c140:F140) (y:PTup i41):Option (PTup o41×BTup i41):=
  let a0:=y.1;let a1:=a0.2;let a2:=a1.2;let a3:=a2.2;let a4:=a3.2;let a5:=a4.2;let a6:=a5.2;let a7:=a6.2;let a8:=a7.2;let a9:=a8.2;let a10:=a9.2;let a11:=a10.2;let a12:=a11.2;let a13:=a12.2;let a14:=a13.2;let a15:=a14.2;let a16:=a15.2;let a17:=a16.2;let a18:=a17.2;let a19:=a18.2;let a20:=a19.2;let a21:=a20.2;let a22:=a21.2.2;let a23:=a22.2.2;let a24:=a23.2.2.2;(c133 ((a0.1,()),((a2.1,(a3.1,())),()))).bind fun r0=>
  bif r0.1.1 then ((c134 (a1.1,())).bind fun r1=>
   bif r1.1.1 then ((c135 ((a4.1,(a5.1,(a6.1,(a7.1,(a8.1,(a9.1,(a10.1,(a11.1,())))))))),())).bind fun r2=>
    bif r2.1.1 then ((c149 ((a12.1,(a13.1,(a14.1,(a15.1,(a16.1,(a17.1,(a18.1,(a19.1,())))))))),())).bind fun r3=>
     bif r3.1.1 then ((c150 ((a20.1,(a21.1,(a21.2.1,(a22.1,(a22.2.1,(a23.1,(a23.2.1,()))))))),())).bind fun r4=>
      bif r4.1.1 then ((c138 (a24.1,())).bind fun r5=>
       bif r5.1.1 then (bif (eqI a20.1 a12.1)then ((c140 (a24.2.2.1,((0:Int),(a12.1,())))).bind fun r6=>
         bif r6.1.1 then ((c151 (a24.2.2.2.1,(a12.1,()))).bind fun r7=>
          bif r7.1.1 then ((c152 (a24.2.2.2.2.1,(a12.1,()))).bind fun r8=>
           some (r8.1,()))
          else no)
         else no)
        else no)
       else no)
      else no)
     else no)
    else no)
   else no)
  else no
theorem s41 (c150:F150) (c135:F135) (c133:F133) (c134:F134) (c149:F149) (c151:F151) (c138:F138) (c152:F152) (c140:F140) (y):TE [g150 c150,g135 c135,g133 c133,g134 c134,g149 c149,g151 c151,g138 c138,g152 c152,g140 c140] Tryz.f41 i41 o41 y=m41 c150 c135 c133 c134 c149 c151 c138 c152 c140 y:=by kernel_rfl
noncomputable def r41:F41:=m41 r150 r135 r133 r134 r149 r151 r138 r152 r140
theorem k41:KO (g41 r41):=fk (s41 r150 r135 r133 r134 r149 r151 r138 r152 r140) ⟨k150,k135,k133,k134,k149,k151,k138,k152,k140,⟨⟩⟩ (by kernel_rfl)
abbrev i171:Ts:=[.a q0, .v (.sl false .i)]
abbrev o171:Ts:=[.a q14, .v (.bool)]
abbrev F171:=FT i171 o171
abbrev g171:=mkG 171 i171 o171
noncomputable def m171 (c248:F248) (c41:F41) (c247:F247) (c249:F249) (c189:F189) (c117:F117) (y:PTup i171):Option (PTup o171×BTup i171):=
  (c189 (y.1,())).bind fun r0=>
  (c117 y.2).bind fun r1=>
  (c247 ()).bind fun r2=>
  (c248 (y.1,())).bind fun r3=>
  (c249 ()).bind fun r4=>
  (c41 ((r0.1.1.1,(r1.1.1,(r2.1.1.1,(r2.1.1.2.1,(r3.1.1.1,(r3.1.1.2.1,(r3.1.1.2.2.1,(r3.1.1.2.2.2.1,(r3.1.1.2.2.2.2.1,(r3.1.1.2.2.2.2.2.1,(r3.1.1.2.2.2.2.2.2.1,(r3.1.1.2.2.2.2.2.2.2.1,(r4.1.1.1,(r4.1.1.2.1,(r4.1.1.2.2.1,(r4.1.1.2.2.2.1,(r4.1.1.2.2.2.2.1,(r4.1.1.2.2.2.2.2.1,(r4.1.1.2.2.2.2.2.2.1,(r4.1.1.2.2.2.2.2.2.2.1,((0:Int),((0:Int),((0:Int),((0:Int),((0:Int),(false,(false,(false,((0:Int),(false,((0:Int),([],([],([],())))))))))))))))))))))))))))))))))),())).bind fun r5=>
  bif (!r5.1.1)then (some ((([],([],([],((0:Int),((0:Int),((0:Int),((0:Int),((0:Int),(false,(false,(false,(false,((0:Int),((0:Int),((0:Int),((0:Int),((0:Int),(false,([],([],((0:Int),((0:Int),((0:Int),((0:Int),((0:Int),(false,(false,(false,((0:Int),(false,((0:Int),([],([],([],())))))))))))))))))))))))))))))))))),(false,())),()))
  else some (((r0.1.1.1,(r1.1.1,(r2.1.1.1,(r2.1.1.2.1,(r3.1.1.1,(r3.1.1.2.1,(r3.1.1.2.2.1,(r3.1.1.2.2.2.1,(r3.1.1.2.2.2.2.1,(r3.1.1.2.2.2.2.2.1,(r3.1.1.2.2.2.2.2.2.1,(r3.1.1.2.2.2.2.2.2.2.1,(r4.1.1.1,(r4.1.1.2.1,(r4.1.1.2.2.1,(r4.1.1.2.2.2.1,(r4.1.1.2.2.2.2.1,(r4.1.1.2.2.2.2.2.1,(r4.1.1.2.2.2.2.2.2.1,(r4.1.1.2.2.2.2.2.2.2.1,((0:Int),((0:Int),((0:Int),((0:Int),((0:Int),(false,(false,(false,((0:Int),(false,((0:Int),([],([],([],())))))))))))))))))))))))))))))))))),(true,())),())
theorem s171 (c248:F248) (c41:F41) (c247:F247) (c249:F249) (c189:F189) (c117:F117) (y):TE [g248 c248,g41 c41,g247 c247,g249 c249,g189 c189,g117 c117] Tryz.f171 i171 o171 y=m171 c248 c41 c247 c249 c189 c117 y:=by kernel_rfl
noncomputable def r171:F171:=m171 r248 r41 r247 r249 r189 r117
theorem k171:KO (g171 r171):=fk (s171 r248 r41 r247 r249 r189 r117) ⟨k248,k41,k247,k249,k189,k117,⟨⟩⟩ (by kernel_rfl)
abbrev i190:Ts:=[.a q1]
abbrev o190:Ts:=[.a q7]
abbrev F190:=FT i190 o190
abbrev g190:=mkG 190 i190 o190
noncomputable def m190 (c117:F117) (y:PTup i190):Option (PTup o190×BTup i190):=
  (c117 (y.1.1,())).bind fun r0=>
  some (((r0.1.1,y.1.2),()),())
theorem s190 (c117:F117) (y):TE [g117 c117] Tryz.f190 i190 o190 y=m190 c117 y:=by kernel_rfl
noncomputable def r190:F190:=m190 r117
theorem k190:KO (g190 r190):=fk (s190 r117) ⟨k117,⟨⟩⟩ (by kernel_rfl)
abbrev i215:Ts:=[.a q2]
abbrev o215:Ts:=[.a q10]
abbrev F215:=FT i215 o215
abbrev g215:=mkG 215 i215 o215
noncomputable def m215 (c117:F117) (y:PTup i215):Option (PTup o215×BTup i215):=
  (c117 (y.1.2.2.2.2.2.2.1,())).bind fun r0=>
  (c117 y.1.2.2.2.2.2.2.2).bind fun r1=>
  some (((y.1.1,(y.1.2.1,(y.1.2.2.1,(y.1.2.2.2.1,(y.1.2.2.2.2.1,(y.1.2.2.2.2.2.1,(r0.1.1,r1.1))))))),()),())
theorem s215 (c117:F117) (y):TE [g117 c117] Tryz.f215 i215 o215 y=m215 c117 y:=by kernel_rfl
noncomputable def r215:F215:=m215 r117
theorem k215:KO (g215 r215):=fk (s215 r117) ⟨k117,⟨⟩⟩ (by kernel_rfl)
abbrev i116:Ts:=[.v (.sl false .n)]
abbrev o116:Ts:=[.v (.sl true .n)]
abbrev F116:=FT i116 o116
abbrev g116:=mkG 116 i116 o116
abbrev lc116_0:Ts:=[.v (.sl false .n), .v (.int .i64)]
abbrev lb116_0:Ts:=[]
abbrev lv116_0:Ts:=[.v (.sl true .n), .v (.int .i64)]
abbrev lr116_0:Ts:=[]
abbrev R116_0:=Option (Sum (PTup lv116_0) (PTup lr116_0)×BTup lb116_0)
abbrev B116_0:=PTup lb116_0→PTup lv116_0→R116_0
abbrev A116_0:=PTup lc116_0→B116_0
noncomputable def w116_0 (c117:F117) (again:B116_0) (x:PTup lc116_0) (y:PTup lb116_0) (z:PTup lv116_0):R116_0:=
  bif (ltI z.2.1 x.2.1)then (bif (leI 0 z.2.1)then (bif (ltI z.2.1 (lenI x.1))then ((c117 ((rdE .n x.1 z.2.1),())).bind fun r0=>
     bif (leN ((List.length z.1)+(List.length (r0.1.1::[]))) (E.most .n))then (again () ((z.1++(r0.1.1::[])),((wI (z.2.1+1)),())))
     else none)
    else none)
   else none)
  else some ((Sum.inl z),())
noncomputable def e116_0 (l:A116_0):LoopE:=⟨[7,8],lc116_0,[],lb116_0,[3,9],lv116_0,[],lr116_0,0,[],l⟩
noncomputable def m116 (c117:F117) (l0:A116_0) (y:PTup i116):Option (PTup o116×BTup i116):=
  (l0 (y.1,((lenI y.1),())) () ([],((0:Int),()))).bind fun r0=>
  sumElim r0.1 (fun r1=>some ((r1.1,()),()))
  (fun r1=>some (([],()),()))
noncomputable def E116 (c117:F117) (l0:A116_0):CEnv:=⟨⟨Tryz.prog,fnsL [g117 c117]⟩,loopsL [(3,e116_0 l0)]⟩
theorem t116_0 (c117:F117) (l0:A116_0) (again) (x y z):loopRound (E116 c117 l0) (loopAt (bodyOf Tryz.f116) 0) (e116_0 l0) Tryz.f116.ntmps again x y z=w116_0 c117 again x y z:=by kernel_rfl
noncomputable def n116_0 (c117:F117):Nat→A116_0
  |0,_,_,_=>none
  |n+1,x,y,z=>w116_0 c117 (fun y z=>n116_0 c117 n x y z) x y z
theorem s116 (c117:F117) (l0:A116_0) (y):tevF (E116 c117 l0) Tryz.f116 i116 o116 y=m116 c117 l0 y:=by kernel_rfl
noncomputable def L116_0:A116_0:=n116_0 r117 fuel
noncomputable def r116:F116:=m116 r117 L116_0
theorem k116:KO (g116 r116):=by
  have hE: ∀g f,(E116 r117 L116_0).env.fns g=some f→CallOk Tryz.prog g f:=fnsL_ok ⟨k117,⟨⟩⟩
  have h0:LoopOk Tryz.prog Tryz.f116.ntmps (loopAt (bodyOf Tryz.f116) 0) (e116_0 L116_0):=lp_ok (E:=E116 r117 L116_0) rfl hE mixed (AllLoops.of_list (l:=[]) (by kernel_rfl) trivial) (n116_0 r117) (fun _ _ _=>rfl) (fun n x y z=>t116_0 r117 L116_0 _ x y z) rfl
  exact fn_ok (E:=E116 r117 L116_0) rfl hE mixed (by kernel_rfl) (by kernel_rfl) (AllLoops.of_list (l:=[(loopAt (bodyOf Tryz.f116) 0)]) (by kernel_rfl) (.one (by kernel_rfl) h0 trivial)) (s116 r117 L116_0)
abbrev i145:Ts:=[.a q13]
abbrev o145:Ts:=[.a q14]
abbrev F145:=FT i145 o145
abbrev g145:=mkG 145 i145 o145
noncomputable def m145 (c116:F116) (c189:F189) (c117:F117) (c190:F190) (c215:F215) (y:PTup i145):Option (PTup o145×BTup i145):=
  let a0:=y.1;let a1:=a0.2;let a2:=a1.2;let a3:=a2.2;let a4:=a3.2;let a5:=a4.2;let a6:=a5.2;let a7:=a6.2;let a8:=a7.2;let a9:=a8.2;let a10:=a9.2;let a11:=a10.2;let a12:=a11.2;let a13:=a12.2;let a14:=a13.2;let a15:=a14.2;let a16:=a15.2;let a17:=a16.2;let a18:=a17.2;let a19:=a18.2;let a20:=a19.2;let a21:=a20.2;let a22:=a21.2;let a23:=a22.2;let a24:=a23.2;let a25:=a24.2.2;let a26:=a25.2.2;(c189 ((a0.1,()),())).bind fun r0=>
  (c117 (a1.1,())).bind fun r1=>
  (c190 ((a2.1,(a3.1,())),())).bind fun r2=>
  (c215 ((a12.1,(a13.1,(a14.1,(a15.1,(a16.1,(a17.1,(a18.1,(a19.1,())))))))),())).bind fun r3=>
  (c116 (a26.2.2.2.1,())).bind fun r4=>
  (c117 (a26.2.2.2.2.1,())).bind fun r5=>
  (c117 a26.2.2.2.2.2).bind fun r6=>
  some (((r0.1.1.1,(r1.1.1,(r2.1.1.1,(r2.1.1.2.1,(a4.1,(a5.1,(a6.1,(a7.1,(a8.1,(a9.1,(a10.1,(a11.1,(r3.1.1.1,(r3.1.1.2.1,(r3.1.1.2.2.1,(r3.1.1.2.2.2.1,(r3.1.1.2.2.2.2.1,(r3.1.1.2.2.2.2.2.1,(r3.1.1.2.2.2.2.2.2.1,(r3.1.1.2.2.2.2.2.2.2.1,(a20.1,(a21.1,(a22.1,(a23.1,(a24.1,(a24.2.1,(a25.1,(a25.2.1,(a26.1,(a26.2.1,(a26.2.2.1,(r4.1.1,(r5.1.1,r6.1))))))))))))))))))))))))))))))))),()),())
theorem s145 (c116:F116) (c189:F189) (c117:F117) (c190:F190) (c215:F215) (y):TE [g116 c116,g189 c189,g117 c117,g190 c190,g215 c215] Tryz.f145 i145 o145 y=m145 c116 c189 c117 c190 c215 y:=by kernel_rfl
noncomputable def r145:F145:=m145 r116 r189 r117 r190 r215
theorem k145:KO (g145 r145):=fk (s145 r116 r189 r117 r190 r215) ⟨k116,k189,k117,k190,k215,⟨⟩⟩ (by kernel_rfl)
abbrev i226:Ts:=[.v (.int .i64)]
abbrev o226:Ts:=[.v (.int .i64)]
abbrev F226:=FT i226 o226
abbrev g226:=mkG 226 i226 o226
noncomputable def m226 (c140:F140) (y:PTup i226):Option (PTup o226×BTup i226):=
  bif (eqI y.1 1)then (some (((2:Int),()),()))
  else (c140 (y.1,((4:Int),((9:Int),())))).bind fun r0=>
  bif r0.1.1 then (some (((2:Int),()),()))
  else bif (eqI y.1 2)then (some (((3:Int),()),()))
  else bif (eqI y.1 3)then (some (((3:Int),()),()))
  else (c140 (y.1,((14:Int),((20:Int),())))).bind fun r1=>
  bif r1.1.1 then (some (((3:Int),()),()))
  else bif (eqI y.1 29)then (some (((3:Int),()),()))
  else some (((1:Int),()),())
theorem s226 (c140:F140) (y):TE [g140 c140] Tryz.f226 i226 o226 y=m226 c140 y:=by kernel_rfl
noncomputable def r226:F226:=m226 r140
theorem k226:KO (g226 r226):=fk (s226 r140) ⟨k140,⟨⟩⟩ (by kernel_rfl)
abbrev i156:Ts:=[.a q0, .a q1, .v (.int .i64)]
abbrev o156:Ts:=[.a q15]
abbrev F156:=FT i156 o156
abbrev g156:=mkG 156 i156 o156
noncomputable def m156 (c227:F227) (c226:F226) (c225:F225) (y:PTup i156):Option (PTup o156×BTup i156):=
  (c225 y).bind fun r0=>
  (c226 r0.1).bind fun r1=>
  bif (eqI r1.1.1 2)then ((c225 (y.1,(y.2.1,((wI (y.2.2.1+1)),())))).bind fun r2=>
   some (((r0.1.1,r2.1),()),()))
  else bif (eqI r1.1.1 3)then ((c225 (y.1,(y.2.1,((wI (y.2.2.1+1)),())))).bind fun r2=>
   (c225 (y.1,(y.2.1,((wI (y.2.2.1+2)),())))).bind fun r3=>
   (c227 (r2.1.1,r3.1)).bind fun r4=>
   some (((r0.1.1,r4.1),()),()))
  else some (((r0.1.1,((0:Int),())),()),())
theorem s156 (c227:F227) (c226:F226) (c225:F225) (y):TE [g227 c227,g226 c226,g225 c225] Tryz.f156 i156 o156 y=m156 c227 c226 c225 y:=by kernel_rfl
noncomputable def r156:F156:=m156 r227 r226 r225
theorem k156:KO (g156 r156):=fk (s156 r227 r226 r225) ⟨k227,k226,k225,⟨⟩⟩ (by kernel_rfl)
abbrev i43:Ts:=[.v (.int .i64)]
abbrev o43:Ts:=[.v (.int .i64)]
abbrev R43:=Option (PTup o43×BTup i43)
abbrev F43:=PTup i43→R43
abbrev g43:=mkG 43 i43 o43
noncomputable def m43 (y:PTup i43):R43:=
  let X0:R43:=bif (eqI y.1 15)then (some (((5:Int),()),()))else bif (eqI y.1 16)then (bif (eqI y.1 16)then (some (((3:Int),()),()))else bif (eqI y.1 20)then (bif (eqI y.1 20)then (some (((6:Int),()),()))else some (((2:Int),()),()))else bif (eqI y.1 21)then (bif (eqI y.1 21)then (some (((6:Int),()),()))else some (((2:Int),()),()))else bif (eqI y.1 24)then (some (((6:Int),()),()))else some (((2:Int),()),()))else bif (eqI y.1 17)then (bif (eqI y.1 17)then (some (((3:Int),()),()))else bif (eqI y.1 20)then (bif (eqI y.1 20)then (some (((6:Int),()),()))else some (((2:Int),()),()))else bif (eqI y.1 21)then (bif (eqI y.1 21)then (some (((6:Int),()),()))else some (((2:Int),()),()))else bif (eqI y.1 24)then (some (((6:Int),()),()))else some (((2:Int),()),()))else bif (eqI y.1 18)then (bif (eqI y.1 18)then (some (((3:Int),()),()))else bif (eqI y.1 20)then (bif (eqI y.1 20)then (some (((6:Int),()),()))else some (((2:Int),()),()))else bif (eqI y.1 21)then (bif (eqI y.1 21)then (some (((6:Int),()),()))else some (((2:Int),()),()))else bif (eqI y.1 24)then (some (((6:Int),()),()))else some (((2:Int),()),()))else bif (eqI y.1 19)then (bif (eqI y.1 19)then (some (((3:Int),()),()))else bif (eqI y.1 20)then (bif (eqI y.1 20)then (some (((6:Int),()),()))else some (((2:Int),()),()))else bif (eqI y.1 21)then (bif (eqI y.1 21)then (some (((6:Int),()),()))else some (((2:Int),()),()))else bif (eqI y.1 24)then (some (((6:Int),()),()))else some (((2:Int),()),()))else bif (eqI y.1 22)then (some (((3:Int),()),()))else bif (eqI y.1 20)then (bif (eqI y.1 20)then (some (((6:Int),()),()))else some (((2:Int),()),()))else bif (eqI y.1 21)then (bif (eqI y.1 21)then (some (((6:Int),()),()))else some (((2:Int),()),()))else bif (eqI y.1 24)then (some (((6:Int),()),()))else some (((2:Int),()),());bif (eqI y.1 2)then (bif (eqI y.1 2)then (some (((4:Int),()),()))else X0)else bif (eqI y.1 3)then (bif (eqI y.1 3)then (some (((4:Int),()),()))else X0)else bif (eqI y.1 14)then (bif (eqI y.1 14)then (some (((4:Int),()),()))else X0)else bif (eqI y.1 23)then (bif (eqI y.1 23)then (some (((4:Int),()),()))else X0)else bif (eqI y.1 29)then (some (((4:Int),()),()))else X0
theorem s43 (y):TE [] Tryz.f43 i43 o43 y=m43 y:=by kernel_rfl
noncomputable def r43:F43:=m43
theorem k43:KO (g43 r43):=fk (s43) trivial (by kernel_rfl)
abbrev i308:Ts:=[.p q7, .p q8, .v (.int .i64)]
abbrev o308:Ts:=[]
abbrev F308:=FT i308 o308
abbrev g308:=mkG 308 i308 o308
noncomputable def m308 (c266:F266) (y:PTup i308):Option (PTup o308×BTup i308):=
  bif (neI (lenI y.1.1) 512)then (some ((),(y.1,(y.2.1,()))))
  else (c266 (y.2.1.2.2.1,())).bind fun r0=>
  (c266 y.2.2).bind fun r1=>
  bif (leI 0 (wI ((256:Int)+r0.1.1)))then (bif (ltI (wI ((256:Int)+r0.1.1)) (lenI y.1.1))then ((c266 ((wI (y.2.1.2.2.1-1)),())).bind fun r2=>
    some ((),(((List.set y.1.1 (Int.toNat (wI ((256:Int)+r0.1.1))) r1.1.1),y.1.2),((y.2.1.1,(y.2.1.2.1,(r2.1.1,y.2.1.2.2.2))),()))))
   else none)
  else none
theorem s308 (c266:F266) (y):TE [g266 c266] Tryz.f308 i308 o308 y=m308 c266 y:=by kernel_rfl
noncomputable def r308:F308:=m308 r266
theorem k308:KO (g308 r308):=fk (s308 r266) ⟨k266,⟨⟩⟩ (by kernel_rfl)
abbrev i307:Ts:=[.p q7, .p q8]
abbrev o307:Ts:=[]
abbrev F307:=FT i307 o307
abbrev g307:=mkG 307 i307 o307
noncomputable def m307 (c308:F308) (y:PTup i307):Option (PTup o307×BTup i307):=
  (c308 (y.1,(y.2.1,((Int.fdiv y.2.1.2.2.2.1 ((2:Int)^(Min.min (Int.toNat (8:Int)) (64:Nat)))),())))).bind fun r0=>
  (c308 (r0.2.1,(r0.2.2.1,(r0.2.2.1.2.2.2.1,())))).bind fun r1=>
  some ((),(r1.2.1,(r1.2.2.1,())))
theorem s307 (c308:F308) (y):TE [g308 c308] Tryz.f307 i307 o307 y=m307 c308 y:=by kernel_rfl
noncomputable def r307:F307:=m307 r308
theorem k307:KO (g307 r307):=fk (s307 r308) ⟨k308,⟨⟩⟩ (by kernel_rfl)
abbrev i166:Ts:=[.v (.bool)]
abbrev o166:Ts:=[.v (.int .i64)]
abbrev F166:=FT i166 o166
abbrev g166:=mkG 166 i166 o166
noncomputable def m166 (y:PTup i166):Option (PTup o166×BTup i166):=
  bif y.1 then (some (((1:Int),()),()))
  else some (((0:Int),()),())
theorem s166 (y):TE [] Tryz.f166 i166 o166 y=m166 y:=by kernel_rfl
noncomputable def r166:F166:=m166
theorem k166:KO (g166 r166):=fk (s166) trivial (by kernel_rfl)
abbrev i309:Ts:=[.a q8]
abbrev o309:Ts:=[.v (.int .i64)]
abbrev F309:=FT i309 o309
abbrev g309:=mkG 309 i309 o309
noncomputable def m309 (c166:F166) (y:PTup i309):Option (PTup o309×BTup i309):=
  (c166 (y.1.2.2.2.2.2.2.1,())).bind fun r0=>
  (c166 (y.1.2.2.2.2.1,())).bind fun r1=>
  (c166 y.1.2.2.2.2.2.2.2).bind fun r2=>
  (c166 (y.1.2.2.2.2.2.1,())).bind fun r3=>
  some (((bOr Go.IntKind.i64 (bOr Go.IntKind.i64 (bOr Go.IntKind.i64 (wI ((1:Int)*r0.1.1)) (wI ((2:Int)*r1.1.1))) (wI ((4:Int)*r2.1.1))) (wI ((128:Int)*r3.1.1))),()),())
theorem s309 (c166:F166) (y):TE [g166 c166] Tryz.f309 i309 o309 y=m309 c166 y:=by kernel_rfl
noncomputable def r309:F309:=m309 r166
theorem k309:KO (g309 r309):=fk (s309 r166) ⟨k166,⟨⟩⟩ (by kernel_rfl)
abbrev i273:Ts:=[.p q7, .p q8, .v (.int .i64)]
abbrev o273:Ts:=[]
abbrev F273:=FT i273 o273
abbrev g273:=mkG 273 i273 o273
noncomputable def m273 (c308:F308) (c307:F307) (c309:F309) (y:PTup i273):Option (PTup o273×BTup i273):=
  (c307 (y.1,(y.2.1,()))).bind fun r0=>
  (c309 (r0.2.2.1,())).bind fun r1=>
  (c308 (r0.2.1,(r0.2.2.1,r1.1))).bind fun r2=>
  some ((),(r2.2.1,((r2.2.2.1.1,(r2.2.2.1.2.1,(r2.2.2.1.2.2.1,(y.2.2.1,(r2.2.2.1.2.2.2.2.1,(r2.2.2.1.2.2.2.2.2.1,(r2.2.2.1.2.2.2.2.2.2.1,(true,())))))))),())))
theorem s273 (c308:F308) (c307:F307) (c309:F309) (y):TE [g308 c308,g307 c307,g309 c309] Tryz.f273 i273 o273 y=m273 c308 c307 c309 y:=by kernel_rfl
noncomputable def r273:F273:=m273 r308 r307 r309
theorem k273:KO (g273 r273):=fk (s273 r308 r307 r309) ⟨k308,k307,k309,⟨⟩⟩ (by kernel_rfl)
abbrev i216:Ts:=[.p [.sl false .n, .sl false .i, .sl true .i, .int .i64, .int .i64, .int .i64, .int .i64, .int .i64, .bool, .bool, .bool, .bool, .int .i64, .int .i64, .int .i64, .int .i64, .int .i64, .bool, .sl false .i, .sl false .i, .int .i64, .int .i64, .int .i64, .int .i64, .int .i64, .bool, .bool, .bool, .int .i64, .bool, .int .i64, .sl false .n, .sl false .i, .sl false .i], .v (.int .i64)]
abbrev o216:Ts:=[]
abbrev F216:=FT i216 o216
abbrev g216:=mkG 216 i216 o216
noncomputable def m216 (c273:F273) (c227:F227) (c225:F225) (y:PTup i216):Option (PTup o216×BTup i216):=
  (c225 ((y.1.1,()),((y.1.2.2.1,(y.1.2.2.2.1,())),y.2))).bind fun r0=>
  (c225 ((y.1.1,()),((y.1.2.2.1,(y.1.2.2.2.1,())),((wI (y.2.1+1)),())))).bind fun r1=>
  (c227 (r0.1.1,r1.1)).bind fun r2=>
  (c273 ((y.1.2.2.1,(y.1.2.2.2.1,())),((y.1.2.2.2.2.1,(y.1.2.2.2.2.2.1,(y.1.2.2.2.2.2.2.1,(y.1.2.2.2.2.2.2.2.1,(y.1.2.2.2.2.2.2.2.2.1,(y.1.2.2.2.2.2.2.2.2.2.1,(y.1.2.2.2.2.2.2.2.2.2.2.1,(y.1.2.2.2.2.2.2.2.2.2.2.2.1,())))))))),r2.1))).bind fun r3=>
  some ((),((y.1.1,(y.1.2.1,(r3.2.1.1,(r3.2.1.2.1,(r3.2.2.1.1,(r3.2.2.1.2.1,(r3.2.2.1.2.2.1,(r3.2.2.1.2.2.2.1,(r3.2.2.1.2.2.2.2.1,(r3.2.2.1.2.2.2.2.2.1,(r3.2.2.1.2.2.2.2.2.2.1,(r3.2.2.1.2.2.2.2.2.2.2.1,y.1.2.2.2.2.2.2.2.2.2.2.2.2)))))))))))),()))
theorem s216 (c273:F273) (c227:F227) (c225:F225) (y):TE [g273 c273,g227 c227,g225 c225] Tryz.f216 i216 o216 y=m216 c273 c227 c225 y:=by kernel_rfl
noncomputable def r216:F216:=m216 r273 r227 r225
theorem k216:KO (g216 r216):=fk (s216 r273 r227 r225) ⟨k273,k227,k225,⟨⟩⟩ (by kernel_rfl)
abbrev i264:Ts:=[.v (.int .i64)]
abbrev o264:Ts:=[.v (.int .i64)]
abbrev R264:=Option (PTup o264×BTup i264)
abbrev F264:=PTup i264→R264
abbrev g264:=mkG 264 i264 o264
noncomputable def m264 (y:PTup i264):R264:=
  let X0:R264:=bif (eqI y.1 3)then (bif (eqI y.1 3)then (some (((2:Int),()),()))else some (((0:Int),()),()))else bif (eqI y.1 15)then (some (((2:Int),()),()))else some (((0:Int),()),());bif (eqI y.1 2)then (bif (eqI y.1 2)then (some (((1:Int),()),()))else X0)else bif (eqI y.1 14)then (bif (eqI y.1 14)then (some (((1:Int),()),()))else X0)else bif (eqI y.1 29)then (some (((1:Int),()),()))else X0
theorem s264 (y):TE [] Tryz.f264 i264 o264 y=m264 y:=by kernel_rfl
noncomputable def r264:F264:=m264
theorem k264:KO (g264 r264):=fk (s264) trivial (by kernel_rfl)
abbrev i205:Ts:=[.a q15, .a q8]
abbrev o205:Ts:=[.v (.int .i64), .v (.int .i64), .v (.int .i64)]
abbrev R205:=Option (PTup o205×BTup i205)
abbrev F205:=PTup i205→R205
abbrev g205:=mkG 205 i205 o205
noncomputable def m205 (c265:F265) (c266:F266) (c264:F264) (y:PTup i205):R205:=
  (c264 (y.1.1,())).bind fun r0=>let X0:R205:=(c265 ((wI (y.1.2.1+y.2.1.2.1)),())).bind fun r2=>bif (eqI r0.1.1 1)then (some ((r0.1.1,(r2.1.1,((0:Int),()))),()))else bif (eqI r0.1.1 2)then ((c266 (y.2.1.1,())).bind fun r3=>some ((r0.1.1,(r2.1.1,r3.1)),()))else some (((0:Int),((0:Int),((0:Int),()))),());(c265 y.1.2).bind fun r1=>bif (eqI y.1.1 14)then X0 else bif (eqI y.1.1 15)then X0 else bif (eqI r0.1.1 1)then (some ((r0.1.1,(r1.1.1,((0:Int),()))),()))else bif (eqI r0.1.1 2)then ((c266 (y.2.1.1,())).bind fun r2=>some ((r0.1.1,(r1.1.1,r2.1)),()))else some (((0:Int),((0:Int),((0:Int),()))),())
theorem s205 (c265:F265) (c266:F266) (c264:F264) (y):TE [g265 c265,g266 c266,g264 c264] Tryz.f205 i205 o205 y=m205 c265 c266 c264 y:=by kernel_rfl
noncomputable def r205:F205:=m205 r265 r266 r264
theorem k205:KO (g205 r205):=fk (s205 r265 r266 r264) ⟨k265,k266,k264,⟨⟩⟩ (by kernel_rfl)
abbrev i325:Ts:=[.p q2]
abbrev o325:Ts:=[]
abbrev F325:=FT i325 o325
abbrev g325:=mkG 325 i325 o325
noncomputable def m325 (y:PTup i325):Option (PTup o325×BTup i325):=
  some ((),((y.1.1,(y.1.2.1,(y.1.2.2.1,((Int.tmod (wI (y.1.2.2.2.1+1)) (16:Int)),y.1.2.2.2.2)))),()))
theorem s325 (y):TE [] Tryz.f325 i325 o325 y=m325 y:=by kernel_rfl
noncomputable def r325:F325:=m325
theorem k325:KO (g325 r325):=fk (s325) trivial (by kernel_rfl)
abbrev i310:Ts:=[.p q2, .v (.int .i64)]
abbrev o310:Ts:=[.v (.int .i64)]
abbrev F310:=FT i310 o310
abbrev g310:=mkG 310 i310 o310
noncomputable def m310 (c325:F325) (c166:F166) (y:PTup i310):Option (PTup o310×BTup i310):=
  bif (eqI y.2.1 2)then ((c166 (y.1.2.2.2.2.2.1,())).bind fun r0=>
   some (((wI ((128:Int)*r0.1.1)),()),((y.1.1,(y.1.2.1,(y.1.2.2.1,(y.1.2.2.2.1,(y.1.2.2.2.2.1,(false,y.1.2.2.2.2.2.2)))))),())))
  else bif (eqI y.2.1 4)then (bif (leI 0 y.1.2.2.2.1)then (bif (ltI y.1.2.2.2.1 (lenI y.1.2.2.2.2.2.2.1))then ((c325 (y.1,())).bind fun r0=>
     some (((rdE .i y.1.2.2.2.2.2.2.1 y.1.2.2.2.1),()),((r0.2.1.1,(r0.2.1.2.1,(r0.2.1.2.2.1,(r0.2.1.2.2.2.1,(r0.2.1.2.2.2.2.1,(r0.2.1.2.2.2.2.2.1,y.1.2.2.2.2.2.2)))))),())))
    else none)
   else none)
  else some (((0:Int),()),(y.1,()))
theorem s310 (c325:F325) (c166:F166) (y):TE [g325 c325,g166 c166] Tryz.f310 i310 o310 y=m310 c325 c166 y:=by kernel_rfl
noncomputable def r310:F310:=m310 r325 r166
theorem k310:KO (g310 r310):=fk (s310 r325 r166) ⟨k325,k166,⟨⟩⟩ (by kernel_rfl)
abbrev i311:Ts:=[.a q12, .v (.int .i64)]
abbrev o311:Ts:=[.a q12, .v (.int .i64)]
abbrev F311:=FT i311 o311
abbrev g311:=mkG 311 i311 o311
noncomputable def m311 (c150:F150) (c166:F166) (y:PTup i311):Option (PTup o311×BTup i311):=
  bif (neI y.2.1 2)then (some ((y.1,((0:Int),())),()))
  else (c150 (y.1,())).bind fun r0=>
  bif (!r0.1.1)then (some ((y.1,((0:Int),())),()))
  else (c166 y.1.2.2.2.2.2.2).bind fun r1=>
  (c166 ((ltI 0 y.1.2.2.2.2.1),())).bind fun r2=>
  some (((y.1.1,(y.1.2.1,(y.1.2.2.1,(y.1.2.2.2.1,(y.1.2.2.2.2.1,(y.1.2.2.2.2.2.1,(false,()))))))),((wI ((wI ((128:Int)*r1.1.1))+r2.1.1)),())),())
theorem s311 (c150:F150) (c166:F166) (y):TE [g150 c150,g166 c166] Tryz.f311 i311 o311 y=m311 c150 c166 y:=by kernel_rfl
noncomputable def r311:F311:=m311 r150 r166
theorem k311:KO (g311 r311):=fk (s311 r150 r166) ⟨k150,k166,⟨⟩⟩ (by kernel_rfl)
abbrev i342:Ts:=[.v (.int .i64)]
abbrev o342:Ts:=[.v (.int .i64)]
abbrev F342:=FT i342 o342
abbrev g342:=mkG 342 i342 o342
noncomputable def m342 (y:PTup i342):Option (PTup o342×BTup i342):=
  some (((wI (Int.tdiv (mxI y.1 (0:Int)) (64:Int))),()),())
theorem s342 (y):TE [] Tryz.f342 i342 o342 y=m342 y:=by kernel_rfl
noncomputable def r342:F342:=m342
theorem k342:KO (g342 r342):=fk (s342) trivial (by kernel_rfl)
abbrev i329:Ts:=[.v (.sl false .i), .v (.int .i64)]
abbrev o329:Ts:=[.v (.int .i64)]
abbrev F329:=FT i329 o329
abbrev g329:=mkG 329 i329 o329
noncomputable def m329 (c342:F342) (c134:F134) (y:PTup i329):Option (PTup o329×BTup i329):=
  (c134 (y.1,())).bind fun r0=>
  bif (!r0.1.1)then (some (((0:Int),()),()))
  else bif (eqI (lenI y.1) 0)then (some (((0:Int),()),()))
  else (c342 y.2).bind fun r1=>
  bif (neI (lenI y.1) 0)then (bif (leI 0 (Int.tmod r1.1.1 (lenI y.1)))then (bif (ltI (Int.tmod r1.1.1 (lenI y.1)) (lenI y.1))then (some (((rdE .i y.1 (Int.tmod r1.1.1 (lenI y.1))),()),()))
    else none)
   else none)
  else none
theorem s329 (c342:F342) (c134:F134) (y):TE [g342 c342,g134 c134] Tryz.f329 i329 o329 y=m329 c342 c134 y:=by kernel_rfl
noncomputable def r329:F329:=m329 r342 r134
theorem k329:KO (g329 r329):=fk (s329 r342 r134) ⟨k342,k134,⟨⟩⟩ (by kernel_rfl)
abbrev i312:Ts:=[.a q9, .v (.sl false .i), .v (.int .i64)]
abbrev o312:Ts:=[.a q9, .v (.int .i64)]
abbrev F312:=FT i312 o312
abbrev g312:=mkG 312 i312 o312
noncomputable def m312 (c329:F329) (y:PTup i312):Option (PTup o312×BTup i312):=
  bif y.1.1 then ((c329 y.2).bind fun r0=>
   some (((true,r0.1),((bAnd Go.IntKind.i64 r0.1.1 (1:Int)),())),()))
  else some (((false,((Int.fdiv y.1.2.1 ((2:Int)^(Min.min (Int.toNat (1:Int)) (64:Nat)))),())),((bAnd Go.IntKind.i64 y.1.2.1 (1:Int)),())),())
theorem s312 (c329:F329) (y):TE [g329 c329] Tryz.f312 i312 o312 y=m312 c329 y:=by kernel_rfl
noncomputable def r312:F312:=m312 r329
theorem k312:KO (g312 r312):=fk (s312 r329) ⟨k329,⟨⟩⟩ (by kernel_rfl)
abbrev i274:Ts:=[.p [.sl false .n, .sl false .i, .sl false .i, .int .i64, .int .i64, .int .i64, .int .i64, .int .i64, .bool, .bool, .bool, .bool, .int .i64, .int .i64, .int .i64, .int .i64, .int .i64, .bool, .sl false .i, .sl false .i, .int .i64, .int .i64, .int .i64, .int .i64, .int .i64, .bool, .bool, .bool, .int .i64, .bool, .int .i64, .sl false .n, .sl false .i, .sl true .i], .v (.int .i64)]
abbrev o274:Ts:=[.v (.int .i64)]
abbrev F274:=FT i274 o274
abbrev g274:=mkG 274 i274 o274
noncomputable def m274 (c310:F310) (c311:F311) (c312:F312) (c206:F206) (c225:F225) (y:PTup i274):Option (PTup o274×BTup i274):=
  let a0:=y.1;let a1:=a0.2;let a2:=a1.2;let a3:=a2.2;let a4:=a3.2;let a5:=a4.2;let a6:=a5.2;let a7:=a6.2;let a8:=a7.2;let a9:=a8.2;let a10:=a9.2;let a11:=a10.2;let a12:=a11.2;let a13:=a12.2;let a14:=a13.2;let a15:=a14.2;let a16:=a15.2;let a17:=a16.2;let a18:=a17.2;let a19:=a18.2;let a20:=a19.2;let a21:=a20.2;let a22:=a21.2;let a23:=a22.2;let a24:=a23.2;let a25:=a24.2;let a26:=a25.2;let a27:=a26.2;let a28:=a27.2;let a29:=a28.2;let a30:=a29.2;let a31:=a30.2;let a32:=a31.2.2;(c206 y.2).bind fun r0=>
  bif (eqI r0.1.1 2)then ((c310 ((a12.1,(a13.1,(a14.1,(a15.1,(a16.1,(a17.1,(a18.1,(a19.1,())))))))),r0.1.2)).bind fun r1=>
   bif (leN ((List.length a32.1)+(List.length (r1.1.1::[]))) (E.most .i))then (some (r1.1,((a0.1,(a1.1,(a2.1,(a3.1,(a4.1,(a5.1,(a6.1,(a7.1,(a8.1,(a9.1,(a10.1,(a11.1,(r1.2.1.1,(r1.2.1.2.1,(r1.2.1.2.2.1,(r1.2.1.2.2.2.1,(r1.2.1.2.2.2.2.1,(r1.2.1.2.2.2.2.2.1,(a18.1,(a19.1,(a20.1,(a21.1,(a22.1,(a23.1,(a24.1,(a25.1,(a26.1,(a27.1,(a28.1,(a29.1,(a30.1,(a31.1,(a31.2.1,((a32.1++(r1.1.1::[])),())))))))))))))))))))))))))))))))))),())))
   else none)
  else bif (eqI r0.1.1 3)then ((c311 ((a20.1,(a21.1,(a22.1,(a23.1,(a24.1,(a25.1,(a26.1,()))))))),r0.1.2)).bind fun r1=>
   bif (leN ((List.length a32.1)+(List.length (r1.1.2.1::[]))) (E.most .i))then (some (r1.1.2,((a0.1,(a1.1,(a2.1,(a3.1,(a4.1,(a5.1,(a6.1,(a7.1,(a8.1,(a9.1,(a10.1,(a11.1,(a12.1,(a13.1,(a14.1,(a15.1,(a16.1,(a17.1,(a18.1,(a19.1,(r1.1.1.1,(r1.1.1.2.1,(r1.1.1.2.2.1,(r1.1.1.2.2.2.1,(r1.1.1.2.2.2.2.1,(r1.1.1.2.2.2.2.2.1,(r1.1.1.2.2.2.2.2.2.1,(a27.1,(a28.1,(a29.1,(a30.1,(a31.1,(a31.2.1,((a32.1++(r1.1.2.1::[])),())))))))))))))))))))))))))))))))))),())))
   else none)
  else bif (eqI r0.1.1 4)then ((c312 ((a27.1,(a28.1,())),(a1.1,(a12.1,())))).bind fun r1=>
   bif (leN ((List.length a32.1)+(List.length (r1.1.2.1::[]))) (E.most .i))then (some (r1.1.2,((a0.1,(a1.1,(a2.1,(a3.1,(a4.1,(a5.1,(a6.1,(a7.1,(a8.1,(a9.1,(a10.1,(a11.1,(a12.1,(a13.1,(a14.1,(a15.1,(a16.1,(a17.1,(a18.1,(a19.1,(a20.1,(a21.1,(a22.1,(a23.1,(a24.1,(a25.1,(a26.1,(r1.1.1.1,(r1.1.1.2.1,(a29.1,(a30.1,(a31.1,(a31.2.1,((a32.1++(r1.1.2.1::[])),())))))))))))))))))))))))))))))))))),())))
   else none)
  else bif (eqI r0.1.1 7)then (some (((0:Int),()),(a0,())))
  else (c225 ((a0.1,()),((a2.1,(a3.1,())),y.2))).bind fun r1=>
  some (r1.1,(a0,()))
theorem s274 (c310:F310) (c311:F311) (c312:F312) (c206:F206) (c225:F225) (y):TE [g310 c310,g311 c311,g312 c312,g206 c206,g225 c225] Tryz.f274 i274 o274 y=m274 c310 c311 c312 c206 c225 y:=by kernel_rfl
noncomputable def r274:F274:=m274 r310 r311 r312 r206 r225
theorem k274:KO (g274 r274):=fk (s274 r310 r311 r312 r206 r225) ⟨k310,k311,k312,k206,k225,⟨⟩⟩ (by kernel_rfl)
abbrev i298:Ts:=[.p [.int .i64, .int .i64, .int .i64, .int .i64, .int .i64, .bool, .sl true .i, .sl false .i], .v (.int .i64), .v (.int .i64)]
abbrev o298:Ts:=[]
abbrev F298:=FT i298 o298
abbrev g298:=mkG 298 i298 o298
noncomputable def m298 (c325:F325) (c266:F266) (y:PTup i298):Option (PTup o298×BTup i298):=
  (c266 y.2.2).bind fun r0=>
  bif (eqI y.2.1 0)then (some ((),((y.1.1,(r0.1.1,y.1.2.2)),())))
  else bif (eqI y.2.1 1)then (some ((),((y.1.1,(y.1.2.1,(r0.1.1,y.1.2.2.2))),())))
  else bif (eqI y.2.1 3)then (some ((),((y.1.1,(y.1.2.1,(y.1.2.2.1,((Int.tmod r0.1.1 16),y.1.2.2.2.2)))),())))
  else bif (eqI y.2.1 4)then (bif (leI 0 y.1.2.2.2.1)then (bif (ltI y.1.2.2.2.1 (lenI y.1.2.2.2.2.2.2.1))then ((c325 ((y.1.1,(y.1.2.1,(y.1.2.2.1,(y.1.2.2.2.1,(y.1.2.2.2.2.1,(y.1.2.2.2.2.2.1,((List.set y.1.2.2.2.2.2.2.1 (Int.toNat y.1.2.2.2.1) (Int.tmod r0.1.1 64)),y.1.2.2.2.2.2.2.2))))))),())).bind fun r1=>
     some ((),((r1.2.1.1,(r1.2.1.2.1,(r1.2.1.2.2.1,(r1.2.1.2.2.2.1,(r1.2.1.2.2.2.2.1,(r1.2.1.2.2.2.2.2.1,((List.set y.1.2.2.2.2.2.2.1 (Int.toNat y.1.2.2.2.1) (Int.tmod r0.1.1 64)),y.1.2.2.2.2.2.2.2))))))),())))
    else none)
   else none)
  else bif (eqI y.2.1 5)then (some ((),((y.1.1,(y.1.2.1,(y.1.2.2.1,(y.1.2.2.2.1,((Int.tmod r0.1.1 64),y.1.2.2.2.2.2))))),())))
  else some ((),(y.1,()))
theorem s298 (c325:F325) (c266:F266) (y):TE [g325 c325,g266 c266] Tryz.f298 i298 o298 y=m298 c325 c266 y:=by kernel_rfl
noncomputable def r298:F298:=m298 r325 r266
theorem k298:KO (g298 r298):=fk (s298 r325 r266) ⟨k325,k266,⟨⟩⟩ (by kernel_rfl)
abbrev i299:Ts:=[.a q12, .v (.int .i64), .v (.int .i64)]
abbrev o299:Ts:=[.a q12]
abbrev F299:=FT i299 o299
abbrev g299:=mkG 299 i299 o299
noncomputable def m299 (c150:F150) (c266:F266) (y:PTup i299):Option (PTup o299×BTup i299):=
  (c150 (y.1,())).bind fun r0=>
  bif (!r0.1.1)then (some ((y.1,()),()))
  else (c266 y.2.2).bind fun r1=>
  bif (eqI y.2.1 0)then (some (((y.1.1,(r1.1.1,y.1.2.2)),()),()))
  else bif (eqI y.2.1 1)then (some (((y.1.1,(y.1.2.1,(y.1.2.2.1,(y.1.2.2.2.1,((Int.tmod r1.1.1 32),y.1.2.2.2.2.2))))),()),()))
  else bif (eqI y.2.1 2)then (bif y.1.2.2.2.2.2.2.1 then (some (((y.1.1,(y.1.2.1,(y.1.2.2.1,(y.1.2.2.2.1,(y.1.2.2.2.2.1,((eqI (Int.tmod r1.1.1 2) (1:Int)),((eqI (Int.tmod r1.1.1 2) (1:Int)),()))))))),()),()))
   else some (((y.1.1,(y.1.2.1,(y.1.2.2.1,(y.1.2.2.2.1,(y.1.2.2.2.2.1,((eqI (Int.tmod r1.1.1 2) (1:Int)),(false,()))))))),()),()))
  else bif (eqI y.2.1 3)then (some (((y.1.1,(y.1.2.1,(y.1.2.2.1,(y.1.2.2.2.1,(y.1.2.2.2.2.1,(y.1.2.2.2.2.2.1,(false,()))))))),()),()))
  else some ((y.1,()),())
theorem s299 (c150:F150) (c266:F266) (y):TE [g150 c150,g266 c266] Tryz.f299 i299 o299 y=m299 c150 c266 y:=by kernel_rfl
noncomputable def r299:F299:=m299 r150 r266
theorem k299:KO (g299 r299):=fk (s299 r150 r266) ⟨k150,k266,⟨⟩⟩ (by kernel_rfl)
abbrev i313:Ts:=[.a q9, .v (.sl false .i), .v (.int .i64), .v (.int .i64)]
abbrev o313:Ts:=[.a q9]
abbrev F313:=FT i313 o313
abbrev g313:=mkG 313 i313 o313
noncomputable def m313 (c329:F329) (y:PTup i313):Option (PTup o313×BTup i313):=
  bif (eqI (bAnd Go.IntKind.i64 y.2.2.2.1 (1:Int)) (1:Int))then ((c329 (y.2.1,(y.2.2.1,()))).bind fun r0=>
   some ((((eqI (bAnd Go.IntKind.i64 y.2.2.2.1 (1:Int)) (1:Int)),r0.1),()),()))
  else bif y.1.1 then ((c329 (y.2.1,(y.2.2.1,()))).bind fun r0=>
   some ((((eqI (bAnd Go.IntKind.i64 y.2.2.2.1 (1:Int)) (1:Int)),r0.1),()),()))
  else some ((((eqI (bAnd Go.IntKind.i64 y.2.2.2.1 (1:Int)) (1:Int)),y.1.2),()),())
theorem s313 (c329:F329) (y):TE [g329 c329] Tryz.f313 i313 o313 y=m313 c329 y:=by kernel_rfl
noncomputable def r313:F313:=m313 r329
theorem k313:KO (g313 r313):=fk (s313 r329) ⟨k329,⟨⟩⟩ (by kernel_rfl)
abbrev i314:Ts:=[.p q7, .a q0, .v (.int .i64), .v (.int .i64)]
abbrev o314:Ts:=[]
abbrev R314:=Option (PTup o314×BTup i314)
abbrev F314:=PTup i314→R314
abbrev g314:=mkG 314 i314 o314
noncomputable def m314 (c266:F266) (c206:F206) (y:PTup i314):R314:=
  let X0:R314:=(c266 y.2.2.2).bind fun r1=>bif (neI (lenI y.2.1.1) 0)then (some ((),((y.1.1,((Int.tmod r1.1.1 (lenI y.2.1.1)),())),())))else none;(c206 (y.2.2.1,())).bind fun r0=>bif (eqI r0.1.1 1)then ((c266 y.2.2.2).bind fun r1=>bif (leI 0 r0.1.2.1)then (bif (ltI r0.1.2.1 (lenI y.1.1))then (some ((),(((List.set y.1.1 (Int.toNat r0.1.2.1) r1.1.1),y.1.2),())))else none)else none)else bif (eqI r0.1.1 5)then (bif (eqI r0.1.1 5)then X0 else some ((),(y.1,())))else bif (eqI r0.1.1 6)then X0 else some ((),(y.1,()))
theorem s314 (c266:F266) (c206:F206) (y):TE [g266 c266,g206 c206] Tryz.f314 i314 o314 y=m314 c266 c206 y:=by kernel_rfl
noncomputable def r314:F314:=m314 r266 r206
theorem k314:KO (g314 r314):=fk (s314 r266 r206) ⟨k266,k206,⟨⟩⟩ (by kernel_rfl)
abbrev i275:Ts:=[.p [.sl false .n, .sl false .i, .sl true .i, .int .i64, .int .i64, .int .i64, .int .i64, .int .i64, .bool, .bool, .bool, .bool, .int .i64, .int .i64, .int .i64, .int .i64, .int .i64, .bool, .sl true .i, .sl false .i, .int .i64, .int .i64, .int .i64, .int .i64, .int .i64, .bool, .bool, .bool, .int .i64, .bool, .int .i64, .sl false .n, .sl false .i, .sl false .i], .v (.int .i64), .v (.int .i64)]
abbrev o275:Ts:=[]
abbrev R275:=Option (PTup o275×BTup i275)
abbrev F275:=PTup i275→R275
abbrev g275:=mkG 275 i275 o275
noncomputable def m275 (c314:F314) (c298:F298) (c299:F299) (c313:F313) (c206:F206) (y:PTup i275):R275:=
  let a0:=y.1;let a1:=a0.2;let a2:=a1.2;let a3:=a2.2;let a4:=a3.2;let a5:=a4.2;let a6:=a5.2;let a7:=a6.2;let a8:=a7.2;let a9:=a8.2;let a10:=a9.2;let a11:=a10.2;let a12:=a11.2;let a13:=a12.2;let a14:=a13.2;let a15:=a14.2;let a16:=a15.2;let a17:=a16.2;let a18:=a17.2;let a19:=a18.2;let a20:=a19.2;let a21:=a20.2;let a22:=a21.2;let a23:=a22.2;let a24:=a23.2;let a25:=a24.2.2;let X0:R275:=(c314 ((a2.1,(a3.1,())),((a0.1,()),y.2))).bind fun r1=>some ((),((a0.1,(a1.1,(r1.2.1.1,(r1.2.1.2.1,a4)))),()));(c206 (y.2.1,())).bind fun r0=>bif (eqI r0.1.1 2)then ((c298 ((a12.1,(a13.1,(a14.1,(a15.1,(a16.1,(a17.1,(a18.1,(a19.1,())))))))),(r0.1.2.1,y.2.2))).bind fun r1=>some ((),((a0.1,(a1.1,(a2.1,(a3.1,(a4.1,(a5.1,(a6.1,(a7.1,(a8.1,(a9.1,(a10.1,(a11.1,(r1.2.1.1,(r1.2.1.2.1,(r1.2.1.2.2.1,(r1.2.1.2.2.2.1,(r1.2.1.2.2.2.2.1,(r1.2.1.2.2.2.2.2.1,(r1.2.1.2.2.2.2.2.2.1,a19))))))))))))))))))),())))else bif (eqI r0.1.1 3)then ((c299 ((a20.1,(a21.1,(a22.1,(a23.1,(a24.1,(a24.2.1,(a25.1,()))))))),(r0.1.2.1,y.2.2))).bind fun r1=>some ((),((a0.1,(a1.1,(a2.1,(a3.1,(a4.1,(a5.1,(a6.1,(a7.1,(a8.1,(a9.1,(a10.1,(a11.1,(a12.1,(a13.1,(a14.1,(a15.1,(a16.1,(a17.1,(a18.1,(a19.1,(r1.1.1.1,(r1.1.1.2.1,(r1.1.1.2.2.1,(r1.1.1.2.2.2.1,(r1.1.1.2.2.2.2.1,(r1.1.1.2.2.2.2.2.1,(r1.1.1.2.2.2.2.2.2.1,a25.2))))))))))))))))))))))))))),())))else bif (eqI r0.1.1 4)then ((c313 ((a25.2.1,(a25.2.2.1,())),(a1.1,(a12.1,y.2.2)))).bind fun r1=>some ((),((a0.1,(a1.1,(a2.1,(a3.1,(a4.1,(a5.1,(a6.1,(a7.1,(a8.1,(a9.1,(a10.1,(a11.1,(a12.1,(a13.1,(a14.1,(a15.1,(a16.1,(a17.1,(a18.1,(a19.1,(a20.1,(a21.1,(a22.1,(a23.1,(a24.1,(a24.2.1,(a25.1,(r1.1.1.1,(r1.1.1.2.1,a25.2.2.2))))))))))))))))))))))))))))),())))else bif (eqI r0.1.1 1)then (bif (eqI r0.1.1 1)then X0 else some ((),(a0,())))else bif (eqI r0.1.1 5)then (bif (eqI r0.1.1 5)then X0 else some ((),(a0,())))else bif (eqI r0.1.1 6)then X0 else some ((),(a0,()))
theorem s275 (c314:F314) (c298:F298) (c299:F299) (c313:F313) (c206:F206) (y):TE [g314 c314,g298 c298,g299 c299,g313 c313,g206 c206] Tryz.f275 i275 o275 y=m275 c314 c298 c299 c313 c206 y:=by kernel_rfl
noncomputable def r275:F275:=m275 r314 r298 r299 r313 r206
theorem k275:KO (g275 r275):=fk (s275 r314 r298 r299 r313 r206) ⟨k314,k298,k299,k313,k206,⟨⟩⟩ (by kernel_rfl)
abbrev i333:Ts:=[.v (.int .i64)]
abbrev o333:Ts:=[.v (.bool), .v (.bool)]
abbrev F333:=FT i333 o333
abbrev g333:=mkG 333 i333 o333
noncomputable def m333 (c266:F266) (y:PTup i333):Option (PTup o333×BTup i333):=
  (c266 y).bind fun r0=>
  (c266 y).bind fun r1=>
  some (((eqI r0.1.1 0),((ltI 127 r1.1.1),())),())
theorem s333 (c266:F266) (y):TE [g266 c266] Tryz.f333 i333 o333 y=m333 c266 y:=by kernel_rfl
noncomputable def r333:F333:=m333 r266
theorem k333:KO (g333 r333):=fk (s333 r266) ⟨k266,⟨⟩⟩ (by kernel_rfl)
abbrev i330:Ts:=[.a q8, .v (.int .i64)]
abbrev o330:Ts:=[.a q8]
abbrev F330:=FT i330 o330
abbrev g330:=mkG 330 i330 o330
noncomputable def m330 (c266:F266) (c333:F333) (y:PTup i330):Option (PTup o330×BTup i330):=
  (c266 y.2).bind fun r0=>
  (c333 y.2).bind fun r1=>
  some (((r0.1.1,(y.1.2.1,(y.1.2.2.1,(y.1.2.2.2.1,(r1.1.1,(r1.1.2.1,y.1.2.2.2.2.2.2)))))),()),())
theorem s330 (c266:F266) (c333:F333) (y):TE [g266 c266,g333 c333] Tryz.f330 i330 o330 y=m330 c266 c333 y:=by kernel_rfl
noncomputable def r330:F330:=m330 r266 r333
theorem k330:KO (g330 r330):=fk (s330 r266 r333) ⟨k266,k333,⟨⟩⟩ (by kernel_rfl)
abbrev i331:Ts:=[.v (.int .i64), .v (.int .i64), .v (.bool)]
abbrev o331:Ts:=[.v (.int .i64), .v (.bool)]
abbrev F331:=FT i331 o331
abbrev g331:=mkG 331 i331 o331
noncomputable def m331 (c266:F266) (c166:F166) (y:PTup i331):Option (PTup o331×BTup i331):=
  (c266 (y.1,())).bind fun r0=>
  (c266 (y.2.1,())).bind fun r1=>
  (c166 y.2.2).bind fun r2=>
  (c266 ((wI ((wI (r0.1.1+r1.1.1))+r2.1.1)),())).bind fun r3=>
  some ((r3.1.1,((ltI 255 (wI ((wI (r0.1.1+r1.1.1))+r2.1.1))),())),())
theorem s331 (c266:F266) (c166:F166) (y):TE [g266 c266,g166 c166] Tryz.f331 i331 o331 y=m331 c266 c166 y:=by kernel_rfl
noncomputable def r331:F331:=m331 r266 r166
theorem k331:KO (g331 r331):=fk (s331 r266 r166) ⟨k266,k166,⟨⟩⟩ (by kernel_rfl)
abbrev i332:Ts:=[.v (.int .i64), .v (.int .i64), .v (.bool)]
abbrev o332:Ts:=[.v (.int .i64), .v (.bool)]
abbrev F332:=FT i332 o332
abbrev g332:=mkG 332 i332 o332
noncomputable def m332 (c266:F266) (c166:F166) (y:PTup i332):Option (PTup o332×BTup i332):=
  (c266 (y.1,())).bind fun r0=>
  (c266 (y.2.1,())).bind fun r1=>
  (c166 ((!y.2.2.1),())).bind fun r2=>
  (c266 ((wI ((wI (r0.1.1-r1.1.1))-r2.1.1)),())).bind fun r3=>
  some ((r3.1.1,((leI 0 (wI ((wI (r0.1.1-r1.1.1))-r2.1.1))),())),())
theorem s332 (c266:F266) (c166:F166) (y):TE [g266 c266,g166 c166] Tryz.f332 i332 o332 y=m332 c266 c166 y:=by kernel_rfl
noncomputable def r332:F332:=m332 r266 r166
theorem k332:KO (g332 r332):=fk (s332 r266 r166) ⟨k266,k166,⟨⟩⟩ (by kernel_rfl)
abbrev i315:Ts:=[.p q8, .a q15, .v (.int .i64)]
abbrev o315:Ts:=[.v (.bool)]
abbrev R315:=Option (PTup o315×BTup i315)
abbrev F315:=PTup i315→R315
abbrev g315:=mkG 315 i315 o315
noncomputable def m315 (c331:F331) (c330:F330) (c333:F333) (c332:F332) (y:PTup i315):R315:=
  let a0:=y.1;let a1:=y.2;let a2:=a0.1;let a3:=a0.2;let a4:=a1.1;let a5:=a3.2;let a6:=a4.1;let a7:=a4.2;let a8:=a5.2;let a9:=a7.1;let a10:=a8.2.2;let a11:=a10.2.1;let X0:R315:=bif (eqI a6 4)then (bif (eqI a6 4)then (bif (eqI a6 29)then ((c331 (a2,(a1.2.1,(a11,())))).bind fun r0=>(c330 (a0,(r0.1.1,()))).bind fun r1=>some ((true,()),((r1.1.1.1,(r1.1.1.2.1,(r1.1.1.2.2.1,(r1.1.1.2.2.2.1,(r1.1.1.2.2.2.2.1,(r1.1.1.2.2.2.2.2.1,(r0.1.2.1,r1.1.1.2.2.2.2.2.2.2))))))),())))else (c331 (a2,(a9,(a11,())))).bind fun r0=>(c330 (a0,(r0.1.1,()))).bind fun r1=>some ((true,()),((r1.1.1.1,(r1.1.1.2.1,(r1.1.1.2.2.1,(r1.1.1.2.2.2.1,(r1.1.1.2.2.2.2.1,(r1.1.1.2.2.2.2.2.1,(r0.1.2.1,r1.1.1.2.2.2.2.2.2.2))))))),())))else bif (eqI a6 5)then ((c332 (a2,(a9,(a11,())))).bind fun r0=>(c330 (a0,(r0.1.1,()))).bind fun r1=>some ((true,()),((r1.1.1.1,(r1.1.1.2.1,(r1.1.1.2.2.1,(r1.1.1.2.2.2.1,(r1.1.1.2.2.2.2.1,(r1.1.1.2.2.2.2.2.1,(r0.1.2.1,r1.1.1.2.2.2.2.2.2.2))))))),())))else bif (eqI a6 6)then ((c330 (a0,((bAnd Go.IntKind.i64 a2 a9),()))).bind fun r0=>some ((true,()),(r0.1.1,())))else bif (eqI a6 7)then ((c330 (a0,((bOr Go.IntKind.i64 a2 a9),()))).bind fun r0=>some ((true,()),(r0.1.1,())))else bif (eqI a6 8)then ((c330 (a0,((bXor Go.IntKind.i64 a2 a9),()))).bind fun r0=>some ((true,()),(r0.1.1,())))else bif (eqI a6 9)then ((c332 (a2,(a9,(true,())))).bind fun r0=>(c333 (r0.1.1,())).bind fun r1=>some ((true,()),((a2,(a3.1,(a5.1,(a8.1,(r1.1.1,(r1.1.2.1,(r0.1.2.1,a10.2.2))))))),())))else some ((false,()),(a0,())))else bif (eqI a6 29)then (bif (eqI a6 29)then ((c331 (a2,(a1.2.1,(a11,())))).bind fun r0=>(c330 (a0,(r0.1.1,()))).bind fun r1=>some ((true,()),((r1.1.1.1,(r1.1.1.2.1,(r1.1.1.2.2.1,(r1.1.1.2.2.2.1,(r1.1.1.2.2.2.2.1,(r1.1.1.2.2.2.2.2.1,(r0.1.2.1,r1.1.1.2.2.2.2.2.2.2))))))),())))else (c331 (a2,(a9,(a11,())))).bind fun r0=>(c330 (a0,(r0.1.1,()))).bind fun r1=>some ((true,()),((r1.1.1.1,(r1.1.1.2.1,(r1.1.1.2.2.1,(r1.1.1.2.2.2.1,(r1.1.1.2.2.2.2.1,(r1.1.1.2.2.2.2.2.1,(r0.1.2.1,r1.1.1.2.2.2.2.2.2.2))))))),())))else bif (eqI a6 5)then ((c332 (a2,(a9,(a11,())))).bind fun r0=>(c330 (a0,(r0.1.1,()))).bind fun r1=>some ((true,()),((r1.1.1.1,(r1.1.1.2.1,(r1.1.1.2.2.1,(r1.1.1.2.2.2.1,(r1.1.1.2.2.2.2.1,(r1.1.1.2.2.2.2.2.1,(r0.1.2.1,r1.1.1.2.2.2.2.2.2.2))))))),())))else bif (eqI a6 6)then ((c330 (a0,((bAnd Go.IntKind.i64 a2 a9),()))).bind fun r0=>some ((true,()),(r0.1.1,())))else bif (eqI a6 7)then ((c330 (a0,((bOr Go.IntKind.i64 a2 a9),()))).bind fun r0=>some ((true,()),(r0.1.1,())))else bif (eqI a6 8)then ((c330 (a0,((bXor Go.IntKind.i64 a2 a9),()))).bind fun r0=>some ((true,()),(r0.1.1,())))else bif (eqI a6 9)then ((c332 (a2,(a9,(true,())))).bind fun r0=>(c333 (r0.1.1,())).bind fun r1=>some ((true,()),((a2,(a3.1,(a5.1,(a8.1,(r1.1.1,(r1.1.2.1,(r0.1.2.1,a10.2.2))))))),())))else some ((false,()),(a0,()));bif (eqI a6 1)then ((c330 (a0,a7)).bind fun r0=>some ((true,()),(r0.1.1,())))else bif (eqI a6 2)then (bif (eqI a6 2)then ((c330 (a0,a1.2)).bind fun r0=>some ((true,()),(r0.1.1,())))else X0)else bif (eqI a6 14)then ((c330 (a0,a1.2)).bind fun r0=>some ((true,()),(r0.1.1,())))else X0
theorem s315 (c331:F331) (c330:F330) (c333:F333) (c332:F332) (y):TE [g331 c331,g330 c330,g333 c333,g332 c332] Tryz.f315 i315 o315 y=m315 c331 c330 c333 c332 y:=by kernel_rfl
noncomputable def r315:F315:=m315 r331 r330 r333 r332
theorem k315:KO (g315 r315):=fk (s315 r331 r330 r333 r332) ⟨k331,k330,k333,k332,⟨⟩⟩ (by kernel_rfl)
abbrev i334:Ts:=[.a q8, .v (.int .i64)]
abbrev o334:Ts:=[.a q8]
abbrev F334:=FT i334 o334
abbrev g334:=mkG 334 i334 o334
noncomputable def m334 (c266:F266) (c333:F333) (y:PTup i334):Option (PTup o334×BTup i334):=
  (c266 y.2).bind fun r0=>
  (c333 y.2).bind fun r1=>
  some (((y.1.1,(r0.1.1,(y.1.2.2.1,(y.1.2.2.2.1,(r1.1.1,(r1.1.2.1,y.1.2.2.2.2.2.2)))))),()),())
theorem s334 (c266:F266) (c333:F333) (y):TE [g266 c266,g333 c333] Tryz.f334 i334 o334 y=m334 c266 c333 y:=by kernel_rfl
noncomputable def r334:F334:=m334 r266 r333
theorem k334:KO (g334 r334):=fk (s334 r266 r333) ⟨k266,k333,⟨⟩⟩ (by kernel_rfl)
abbrev i316:Ts:=[.p q8, .a q15]
abbrev o316:Ts:=[.v (.bool)]
abbrev F316:=FT i316 o316
abbrev g316:=mkG 316 i316 o316
noncomputable def m316 (c330:F330) (c334:F334) (y:PTup i316):Option (PTup o316×BTup i316):=
  bif (eqI y.2.1.1 10)then ((c334 (y.1,(y.1.1,()))).bind fun r0=>
   some ((true,()),(r0.1.1,())))
  else bif (eqI y.2.1.1 11)then ((c330 (y.1,(y.1.2.1,()))).bind fun r0=>
   some ((true,()),(r0.1.1,())))
  else bif (eqI y.2.1.1 12)then ((c334 (y.1,((wI (y.1.2.1+1)),()))).bind fun r0=>
   some ((true,()),(r0.1.1,())))
  else bif (eqI y.2.1.1 13)then ((c334 (y.1,((wI (y.1.2.1-1)),()))).bind fun r0=>
   some ((true,()),(r0.1.1,())))
  else bif (eqI y.2.1.1 25)then (some ((true,()),((y.1.1,(y.1.2.1,(y.1.2.2.1,(y.1.2.2.2.1,(y.1.2.2.2.2.1,(y.1.2.2.2.2.2.1,(y.1.2.2.2.2.2.2.1,(true,())))))))),())))
  else bif (eqI y.2.1.1 26)then (some ((true,()),((y.1.1,(y.1.2.1,(y.1.2.2.1,(y.1.2.2.2.1,(y.1.2.2.2.2.1,(y.1.2.2.2.2.2.1,(y.1.2.2.2.2.2.2.1,(false,())))))))),())))
  else bif (eqI y.2.1.1 27)then (some ((true,()),((y.1.1,(y.1.2.1,(y.1.2.2.1,(y.1.2.2.2.1,(y.1.2.2.2.2.1,(y.1.2.2.2.2.2.1,(true,y.1.2.2.2.2.2.2.2))))))),())))
  else bif (eqI y.2.1.1 28)then (some ((true,()),((y.1.1,(y.1.2.1,(y.1.2.2.1,(y.1.2.2.2.1,(y.1.2.2.2.2.1,(y.1.2.2.2.2.2.1,(false,y.1.2.2.2.2.2.2.2))))))),())))
  else some ((false,()),(y.1,()))
theorem s316 (c330:F330) (c334:F334) (y):TE [g330 c330,g334 c334] Tryz.f316 i316 o316 y=m316 c330 c334 y:=by kernel_rfl
noncomputable def r316:F316:=m316 r330 r334
theorem k316:KO (g316 r316):=fk (s316 r330 r334) ⟨k330,k334,⟨⟩⟩ (by kernel_rfl)
abbrev i336:Ts:=[.p q1, .p q8]
abbrev o336:Ts:=[.v (.int .i64)]
abbrev F336:=FT i336 o336
abbrev g336:=mkG 336 i336 o336
noncomputable def m336 (c266:F266) (y:PTup i336):Option (PTup o336×BTup i336):=
  bif (neI (lenI y.1.1) 512)then (some (((0:Int),()),(y.1,(y.2.1,()))))
  else (c266 ((wI (y.2.1.2.2.1+1)),())).bind fun r0=>
  bif (leI 0 (wI ((256:Int)+r0.1.1)))then (bif (ltI (wI ((256:Int)+r0.1.1)) (lenI y.1.1))then (some (((rdE .i y.1.1 (wI ((256:Int)+r0.1.1))),()),(y.1,((y.2.1.1,(y.2.1.2.1,(r0.1.1,y.2.1.2.2.2))),()))))
   else none)
  else none
theorem s336 (c266:F266) (y):TE [g266 c266] Tryz.f336 i336 o336 y=m336 c266 y:=by kernel_rfl
noncomputable def r336:F336:=m336 r266
theorem k336:KO (g336 r336):=fk (s336 r266) ⟨k266,⟨⟩⟩ (by kernel_rfl)
abbrev i335:Ts:=[.p q1, .p q8]
abbrev o335:Ts:=[]
abbrev F335:=FT i335 o335
abbrev g335:=mkG 335 i335 o335
noncomputable def m335 (c336:F336) (c227:F227) (y:PTup i335):Option (PTup o335×BTup i335):=
  (c336 (y.1,(y.2.1,()))).bind fun r0=>
  (c336 ((y.1.1,r0.2.1.2),(r0.2.2.1,()))).bind fun r1=>
  (c227 (r0.1.1,r1.1)).bind fun r2=>
  some ((),((y.1.1,r1.2.1.2),((r1.2.2.1.1,(r1.2.2.1.2.1,(r1.2.2.1.2.2.1,(r2.1.1,r1.2.2.1.2.2.2.2)))),())))
theorem s335 (c336:F336) (c227:F227) (y):TE [g336 c336,g227 c227] Tryz.f335 i335 o335 y=m335 c336 c227 y:=by kernel_rfl
noncomputable def r335:F335:=m335 r336 r227
theorem k335:KO (g335 r335):=fk (s335 r336 r227) ⟨k336,k227,⟨⟩⟩ (by kernel_rfl)
abbrev i337:Ts:=[.a q8, .v (.int .i64)]
abbrev o337:Ts:=[.a q8]
abbrev F337:=FT i337 o337
abbrev g337:=mkG 337 i337 o337
noncomputable def m337 (y:PTup i337):Option (PTup o337×BTup i337):=
  some (((y.1.1,(y.1.2.1,(y.1.2.2.1,(y.1.2.2.2.1,((neI (bAnd Go.IntKind.i64 y.2.1 (2:Int)) (0:Int)),((neI (bAnd Go.IntKind.i64 y.2.1 (128:Int)) (0:Int)),((neI (bAnd Go.IntKind.i64 y.2.1 (1:Int)) (0:Int)),((neI (bAnd Go.IntKind.i64 y.2.1 (4:Int)) (0:Int)),())))))))),()),())
theorem s337 (y):TE [] Tryz.f337 i337 o337 y=m337 y:=by kernel_rfl
noncomputable def r337:F337:=m337
theorem k337:KO (g337 r337):=fk (s337) trivial (by kernel_rfl)
abbrev i317:Ts:=[.p q7, .p q8, .a q15]
abbrev o317:Ts:=[]
abbrev R317:=Option (PTup o317×BTup i317)
abbrev F317:=PTup i317→R317
abbrev g317:=mkG 317 i317 o317
noncomputable def m317 (c335:F335) (c336:F336) (c308:F308) (c307:F307) (c265:F265) (c330:F330) (c337:F337) (y:PTup i317):R317:=
  (c265 y.2.2.1.2).bind fun r0=>let X0:R317:=some ((),(y.1,((y.2.1.1,(y.2.1.2.1,(y.2.1.2.2.1,(r0.1.1,y.2.1.2.2.2.2)))),())));bif (eqI y.2.2.1.1 16)then (bif (!y.2.1.2.2.2.2.1)then X0 else some ((),(y.1,(y.2.1,()))))else bif (eqI y.2.2.1.1 17)then (bif y.2.1.2.2.2.2.1 then X0 else some ((),(y.1,(y.2.1,()))))else bif (eqI y.2.2.1.1 18)then (bif y.2.1.2.2.2.2.2.2.1 then X0 else some ((),(y.1,(y.2.1,()))))else bif (eqI y.2.2.1.1 19)then X0 else bif (eqI y.2.2.1.1 20)then ((c307 (y.1,(y.2.1,()))).bind fun r1=>some ((),(r1.2.1,((r1.2.2.1.1,(r1.2.2.1.2.1,(r1.2.2.1.2.2.1,(r0.1.1,r1.2.2.1.2.2.2.2)))),()))))else bif (eqI y.2.2.1.1 21)then ((c335 (y.1,(y.2.1,()))).bind fun r1=>some ((),((y.1.1,r1.2.1.2),(r1.2.2.1,()))))else bif (eqI y.2.2.1.1 22)then ((c308 (y.1,(y.2.1,(y.2.1.1,())))).bind fun r1=>some ((),(r1.2.1,(r1.2.2.1,()))))else bif (eqI y.2.2.1.1 23)then ((c336 (y.1,(y.2.1,()))).bind fun r1=>(c330 (r1.2.2.1,r1.1)).bind fun r2=>some ((),((y.1.1,r1.2.1.2),(r2.1.1,()))))else bif (eqI y.2.2.1.1 24)then ((c336 (y.1,(y.2.1,()))).bind fun r1=>(c337 (r1.2.2.1,r1.1)).bind fun r2=>(c335 ((y.1.1,r1.2.1.2),(r2.1.1,()))).bind fun r3=>some ((),((y.1.1,r3.2.1.2),(r3.2.2.1,()))))else some ((),(y.1,(y.2.1,())))
theorem s317 (c335:F335) (c336:F336) (c308:F308) (c307:F307) (c265:F265) (c330:F330) (c337:F337) (y):TE [g335 c335,g336 c336,g308 c308,g307 c307,g265 c265,g330 c330,g337 c337] Tryz.f317 i317 o317 y=m317 c335 c336 c308 c307 c265 c330 c337 y:=by kernel_rfl
noncomputable def r317:F317:=m317 r335 r336 r308 r307 r265 r330 r337
theorem k317:KO (g317 r317):=fk (s317 r335 r336 r308 r307 r265 r330 r337) ⟨k335,k336,k308,k307,k265,k330,k337,⟨⟩⟩ (by kernel_rfl)
abbrev i276:Ts:=[.p q7, .p q8, .a q15, .v (.int .i64)]
abbrev o276:Ts:=[]
abbrev F276:=FT i276 o276
abbrev g276:=mkG 276 i276 o276
noncomputable def m276 (c315:F315) (c316:F316) (c317:F317) (c265:F265) (c266:F266) (c226:F226) (y:PTup i276):Option (PTup o276×BTup i276):=
  (c226 (y.2.2.1.1,())).bind fun r0=>
  (c265 ((wI (y.2.1.2.2.2.1+r0.1.1)),())).bind fun r1=>
  (c266 y.2.2.2).bind fun r2=>
  (c315 ((y.2.1.1,(y.2.1.2.1,(y.2.1.2.2.1,(r1.1.1,y.2.1.2.2.2.2)))),(y.2.2.1,r2.1))).bind fun r3=>
  bif (!r3.1.1)then ((c316 (r3.2.1,(y.2.2.1,()))).bind fun r4=>
   bif (!r4.1.1)then ((c317 (y.1,(r4.2.1,(y.2.2.1,())))).bind fun r5=>
    some ((),(r5.2.1,(r5.2.2.1,()))))
   else some ((),(y.1,(r4.2.1,()))))
  else some ((),(y.1,(r3.2.1,())))
theorem s276 (c315:F315) (c316:F316) (c317:F317) (c265:F265) (c266:F266) (c226:F226) (y):TE [g315 c315,g316 c316,g317 c317,g265 c265,g266 c266,g226 c226] Tryz.f276 i276 o276 y=m276 c315 c316 c317 c265 c266 c226 y:=by kernel_rfl
noncomputable def r276:F276:=m276 r315 r316 r317 r265 r266 r226
theorem k276:KO (g276 r276):=fk (s276 r315 r316 r317 r265 r266 r226) ⟨k315,k316,k317,k265,k266,k226,⟨⟩⟩ (by kernel_rfl)
abbrev i217:Ts:=[.p [.sl false .n, .sl false .i, .sl true .i, .int .i64, .int .i64, .int .i64, .int .i64, .int .i64, .bool, .bool, .bool, .bool, .int .i64, .int .i64, .int .i64, .int .i64, .int .i64, .bool, .sl true .i, .sl false .i, .int .i64, .int .i64, .int .i64, .int .i64, .int .i64, .bool, .bool, .bool, .int .i64, .bool, .int .i64, .sl false .n, .sl false .i, .sl true .i], .a q15]
abbrev o217:Ts:=[]
abbrev F217:=FT i217 o217
abbrev g217:=mkG 217 i217 o217
noncomputable def m217 (c274:F274) (c275:F275) (c276:F276) (c205:F205) (y:PTup i217):Option (PTup o217×BTup i217):=
  let a0:=y.1;let a1:=a0.2;let a2:=a1.2;let a3:=a2.2;let a4:=a3.2;let a5:=a4.2;let a6:=a5.2;let a7:=a6.2;let a8:=a7.2;let a9:=a8.2;let a10:=a9.2.2;let a11:=a10.2.2;let a12:=a11.2.2;let a13:=a12.2.2;let a14:=a13.2.2.2.2.2;let a15:=a14.2.2.2.2.2;(c205 (y.2.1,((a4.1,(a5.1,(a6.1,(a7.1,(a8.1,(a9.1,(a9.2.1,(a10.1,())))))))),()))).bind fun r0=>
  bif (eqI r0.1.1 1)then ((c274 (a0,(r0.1.2.1,()))).bind fun r1=>let d0:=r1.2;let d1:=d0.1;let d2:=d1.2;let d3:=d2.2;let d4:=d3.2;let d5:=d4.2;let d6:=d5.2;let d7:=d6.2;let d8:=d7.2;let d9:=d8.2;let d10:=d9.2;let d11:=d10.2;let d12:=d11.2;let d13:=d12.2;let d14:=d13.2;let d15:=d14.2;let d16:=d15.2;let d17:=d16.2;let d18:=d17.2;let d19:=d18.2;let d20:=d19.2;let d21:=d20.2;let d22:=d21.2;let d23:=d22.2;let d24:=d23.2.2;let d25:=d24.2.2;(c276 ((a2.1,(d4.1,())),((d5.1,(d6.1,(d7.1,(d8.1,(d9.1,(d10.1,(d11.1,(d12.1,())))))))),(y.2.1,r1.1)))).bind fun r2=>
   some ((),((a0.1,(a1.1,(r2.2.1.1,(r2.2.1.2.1,(r2.2.2.1.1,(r2.2.2.1.2.1,(r2.2.2.1.2.2.1,(r2.2.2.1.2.2.2.1,(r2.2.2.1.2.2.2.2.1,(r2.2.2.1.2.2.2.2.2.1,(r2.2.2.1.2.2.2.2.2.2.1,(r2.2.2.1.2.2.2.2.2.2.2.1,(d13.1,(d14.1,(d15.1,(d16.1,(d17.1,(d18.1,(a13.2.1,(a13.2.2.1,(d21.1,(d22.1,(d23.1,(d23.2.1,(d24.1,(d24.2.1,(d25.1,(d25.2.1,(d25.2.2.1,(d25.2.2.2.1,(d25.2.2.2.2.1,(a15.2.2.2.2.1,(a15.2.2.2.2.2.1,d25.2.2.2.2.2.2.2))))))))))))))))))))))))))))))))),())))
  else bif (eqI r0.1.1 2)then ((c275 (a0,r0.1.2)).bind fun r1=>let d0:=r1.2;let d1:=d0.1;let d2:=d1.2;let d3:=d2.2;let d4:=d3.2;let d5:=d4.2;let d6:=d5.2;let d7:=d6.2;let d8:=d7.2;let d9:=d8.2;let d10:=d9.2;let d11:=d10.2;let d12:=d11.2;let d13:=d12.2;let d14:=d13.2;let d15:=d14.2;let d16:=d15.2;let d17:=d16.2;let d18:=d17.2;let d19:=d18.2;let d20:=d19.2;let d21:=d20.2;let d22:=d21.2;let d23:=d22.2.2;let d24:=d23.2.2;(c276 ((d3.1,(d4.1,())),((d5.1,(d6.1,(d7.1,(d8.1,(d9.1,(d10.1,(d11.1,(d12.1,())))))))),(y.2.1,((0:Int),()))))).bind fun r2=>
   some ((),((a0.1,(a1.1,(r2.2.1.1,(r2.2.1.2.1,(r2.2.2.1.1,(r2.2.2.1.2.1,(r2.2.2.1.2.2.1,(r2.2.2.1.2.2.2.1,(r2.2.2.1.2.2.2.2.1,(r2.2.2.1.2.2.2.2.2.1,(r2.2.2.1.2.2.2.2.2.2.1,(r2.2.2.1.2.2.2.2.2.2.2.1,(d13.1,(d14.1,(d15.1,(d16.1,(d17.1,(d18.1,(d19.1,(a13.2.2.1,(d21.1,(d22.1,(d22.2.1,(d23.1,(d23.2.1,(d24.1,(d24.2.1,(d24.2.2.1,(d24.2.2.2.1,(d24.2.2.2.2.1,(d24.2.2.2.2.2.1,a15.2.2.2.2))))))))))))))))))))))))))))))),())))
  else (c276 ((a2.1,(a3.1,())),((a4.1,(a5.1,(a6.1,(a7.1,(a8.1,(a9.1,(a9.2.1,(a10.1,())))))))),(y.2.1,r0.1.2.2)))).bind fun r1=>
  some ((),((a0.1,(a1.1,(r1.2.1.1,(r1.2.1.2.1,(r1.2.2.1.1,(r1.2.2.1.2.1,(r1.2.2.1.2.2.1,(r1.2.2.1.2.2.2.1,(r1.2.2.1.2.2.2.2.1,(r1.2.2.1.2.2.2.2.2.1,(r1.2.2.1.2.2.2.2.2.2.1,(r1.2.2.1.2.2.2.2.2.2.2.1,a10.2)))))))))))),()))
theorem s217 (c274:F274) (c275:F275) (c276:F276) (c205:F205) (y):TE [g274 c274,g275 c275,g276 c276,g205 c205] Tryz.f217 i217 o217 y=m217 c274 c275 c276 c205 y:=by kernel_rfl
noncomputable def r217:F217:=m217 r274 r275 r276 r205
theorem k217:KO (g217 r217):=fk (s217 r274 r275 r276 r205) ⟨k274,k275,k276,k205,⟨⟩⟩ (by kernel_rfl)
end Go.Proofs.YtgeodknaigdenaaGreat.Plain
