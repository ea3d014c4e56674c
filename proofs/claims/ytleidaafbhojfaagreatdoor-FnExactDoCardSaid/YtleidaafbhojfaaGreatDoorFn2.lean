/- Plain functions that the program's functions answer as; their contracts. Printed by a program of the proofs' writer. No condition. -/
import Derived.Test.YtleidaafbhojfaaGreatDoorX
import Derived.KernelRfl
import Derived.Test.YtleidaafbhojfaaGreatDoorFn1
set_option linter.unusedVariables false
set_option linter.unusedSimpArgs false
set_option maxRecDepth 100000
namespace Go.Proofs.YtleidaafbhojfaaGreatDoor.Plain
open Go Go.Tev
abbrev i46:Ts:=[.a q0, .a q0]
abbrev o46:Ts:=[.v (.bool)]
abbrev F46:=FT i46 o46
abbrev g46:=mkG 46 i46 o46
noncomputable def m46 (c125:F125) (y:PTup i46):Option (PTup o46×BTup i46):=
  (c125 (y.1.1,y.2.1)).bind fun r0=>
  bif (!r0.1.1)then no
  else some ((true,()),())
theorem s46 (c125:F125) (y):TE [g125 c125] Tryz.f46 i46 o46 y=m46 c125 y:=by kernel_rfl
noncomputable def r46:F46:=m46 r125
theorem k46:KO (g46 r46):=fk (s46 r125) ⟨k125,⟨⟩⟩ (by kernel_rfl)
abbrev i48:Ts:=[.a q1, .a q1]
abbrev o48:Ts:=[.v (.bool)]
abbrev F48:=FT i48 o48
abbrev g48:=mkG 48 i48 o48
noncomputable def m48 (c47:F47) (y:PTup i48):Option (PTup o48×BTup i48):=
  (c47 (y.1.1,(y.2.1.1,()))).bind fun r0=>
  bif (!r0.1.1)then no
  else bif (neI y.1.2.1 y.2.1.2.1)then no
  else some ((true,()),())
theorem s48 (c47:F47) (y):TE [g47 c47] Tryz.f48 i48 o48 y=m48 c47 y:=by kernel_rfl
noncomputable def r48:F48:=m48 r47
theorem k48:KO (g48 r48):=fk (s48 r47) ⟨k47,⟨⟩⟩ (by kernel_rfl)
abbrev i49:Ts:=[.a q8, .a q8]
abbrev o49:Ts:=[.v (.bool)]
abbrev F49:=FT i49 o49
abbrev g49:=mkG 49 i49 o49
noncomputable def m49 (y:PTup i49):Option (PTup o49×BTup i49):=
  bif (neI y.1.1 y.2.1.1)then no
  else bif (neI y.1.2.1 y.2.1.2.1)then no
  else bif (neI y.1.2.2.1 y.2.1.2.2.1)then no
  else bif (neI y.1.2.2.2.1 y.2.1.2.2.2.1)then no
  else bif (!(y.1.2.2.2.2.1==y.2.1.2.2.2.2.1))then no
  else bif (!(y.1.2.2.2.2.2.1==y.2.1.2.2.2.2.2.1))then no
  else bif (!(y.1.2.2.2.2.2.2.1==y.2.1.2.2.2.2.2.2.1))then no
  else bif (!(y.1.2.2.2.2.2.2.2.1==y.2.1.2.2.2.2.2.2.2.1))then no
  else some ((true,()),())
theorem s49 (y):TE [] Tryz.f49 i49 o49 y=m49 y:=by kernel_rfl
noncomputable def r49:F49:=m49
theorem k49:KO (g49 r49):=fk (s49) trivial (by kernel_rfl)
abbrev i50:Ts:=[.a q9, .a q9]
abbrev o50:Ts:=[.v (.bool)]
abbrev F50:=FT i50 o50
abbrev g50:=mkG 50 i50 o50
noncomputable def m50 (y:PTup i50):Option (PTup o50×BTup i50):=
  bif (!(y.1.1==y.2.1.1))then no
  else bif (neI y.1.2.1 y.2.1.2.1)then no
  else some ((true,()),())
theorem s50 (y):TE [] Tryz.f50 i50 o50 y=m50 y:=by kernel_rfl
noncomputable def r50:F50:=m50
theorem k50:KO (g50 r50):=fk (s50) trivial (by kernel_rfl)
abbrev i126:Ts:=[.a q2, .a q2]
abbrev o126:Ts:=[.v (.bool)]
abbrev F126:=FT i126 o126
abbrev g126:=mkG 126 i126 o126
noncomputable def m126 (c47:F47) (y:PTup i126):Option (PTup o126×BTup i126):=
  bif (neI y.1.1 y.2.1.1)then no
  else bif (neI y.1.2.1 y.2.1.2.1)then no
  else bif (neI y.1.2.2.1 y.2.1.2.2.1)then no
  else bif (neI y.1.2.2.2.1 y.2.1.2.2.2.1)then no
  else bif (neI y.1.2.2.2.2.1 y.2.1.2.2.2.2.1)then no
  else bif (!(y.1.2.2.2.2.2.1==y.2.1.2.2.2.2.2.1))then no
  else (c47 (y.1.2.2.2.2.2.2.1,(y.2.1.2.2.2.2.2.2.1,()))).bind fun r0=>
  bif (!r0.1.1)then no
  else (c47 (y.1.2.2.2.2.2.2.2.1,y.2.1.2.2.2.2.2.2.2)).bind fun r1=>
  bif (!r1.1.1)then no
  else some ((true,()),())
theorem s126 (c47:F47) (y):TE [g47 c47] Tryz.f126 i126 o126 y=m126 c47 y:=by kernel_rfl
noncomputable def r126:F126:=m126 r47
theorem k126:KO (g126 r126):=fk (s126 r47) ⟨k47,⟨⟩⟩ (by kernel_rfl)
abbrev i271:Ts:=[.a q11, .a q11]
abbrev o271:Ts:=[.v (.bool)]
abbrev F271:=FT i271 o271
abbrev g271:=mkG 271 i271 o271
noncomputable def m271 (y:PTup i271):Option (PTup o271×BTup i271):=
  bif (neI y.1.1 y.2.1.1)then no
  else bif (neI y.1.2.1 y.2.1.2.1)then no
  else bif (neI y.1.2.2.1 y.2.1.2.2.1)then no
  else some ((true,()),())
theorem s271 (y):TE [] Tryz.f271 i271 o271 y=m271 y:=by kernel_rfl
noncomputable def r271:F271:=m271
theorem k271:KO (g271 r271):=fk (s271) trivial (by kernel_rfl)
abbrev i205:Ts:=[.v (.sl false .t), .v (.sl false .t)]
abbrev o205:Ts:=[.v (.bool)]
abbrev F205:=FT i205 o205
abbrev g205:=mkG 205 i205 o205
abbrev lc205_0:Ts:=[.v (.sl false .t), .v (.sl false .t)]
abbrev lb205_0:Ts:=[]
abbrev lv205_0:Ts:=[.v (.int .i64)]
abbrev lr205_0:Ts:=[.v (.bool)]
abbrev R205_0:=Option (Sum (PTup lv205_0) (PTup lr205_0)×BTup lb205_0)
abbrev B205_0:=PTup lb205_0→PTup lv205_0→R205_0
abbrev A205_0:=PTup lc205_0→B205_0
noncomputable def w205_0 (c271:F271) (again:B205_0) (x:PTup lc205_0) (y:PTup lb205_0) (z:PTup lv205_0):R205_0:=
  bif (ltI z.1 (lenI x.1))then (bif (leI 0 z.1)then (bif (ltI z.1 (lenI x.1))then (bif (leI 0 z.1)then (bif (ltI z.1 (lenI x.2.1))then ((c271 (((rdE .t x.1 z.1).1,((rdE .t x.1 z.1).2.1,((rdE .t x.1 z.1).2.2,()))),(((rdE .t x.2.1 z.1).1,((rdE .t x.2.1 z.1).2.1,((rdE .t x.2.1 z.1).2.2,()))),()))).bind fun r0=>
       bif (!r0.1.1)then (some ((Sum.inr (false,())),()))
       else again () ((wI (z.1+1)),()))
      else none)
     else none)
    else none)
   else none)
  else some ((Sum.inl z),())
noncomputable def e205_0 (l:A205_0):ZaV:=⟨[0,1],lc205_0,[],lb205_0,[5],lv205_0,[4],lr205_0,0,[],l⟩
noncomputable def m205 (c271:F271) (l0:A205_0) (y:PTup i205):Option (PTup o205×BTup i205):=
  bif (neI (lenI y.1) (lenI y.2.1))then no
  else (l0 y () ((0:Int),())).bind fun r0=>
  Zai r0.1 (fun r1=>some ((true,()),()))
  (fun r1=>some (r1,()))
noncomputable def E205 (c271:F271) (l0:A205_0):CEnv:=⟨⟨Tryz.prog,fnsL [g271 c271]⟩,ZaN [(4,e205_0 l0)]⟩
theorem t205_0 (c271:F271) (l0:A205_0) (again) (x y z):Zak (E205 c271 l0) (Zaf (Zae Tryz.f205) 0) (e205_0 l0) Tryz.f205.ntmps again x y z=w205_0 c271 again x y z:=by kernel_rfl
noncomputable def n205_0 (c271:F271):Nat→A205_0
  |0,_,_,_=>none
  |n+1,x,y,z=>w205_0 c271 (fun y z=>n205_0 c271 n x y z) x y z
theorem s205 (c271:F271) (l0:A205_0) (y):tevF (E205 c271 l0) Tryz.f205 i205 o205 y=m205 c271 l0 y:=by kernel_rfl
noncomputable def L205_0:A205_0:=n205_0 r271 fuel
noncomputable def r205:F205:=m205 r271 L205_0
theorem k205:KO (g205 r205):=by
  have hE: ∀g f,(E205 r271 L205_0).env.fns g=some f→Zap Tryz.prog g f:=Zat ⟨k271,⟨⟩⟩
  have h0:ZaF Tryz.prog Tryz.f205.ntmps (Zaf (Zae Tryz.f205) 0) (e205_0 L205_0):=Zbo (E:=E205 r271 L205_0) rfl hE mixed (Zab.of_list (l:=[]) (by kernel_rfl) trivial) (n205_0 r271) (fun _ _ _=>rfl) (fun n x y z=>t205_0 r271 L205_0 _ x y z) rfl
  exact ZbG (E:=E205 r271 L205_0) rfl hE mixed (by kernel_rfl) (by kernel_rfl) (Zab.of_list (l:=[(Zaf (Zae Tryz.f205) 0)]) (by kernel_rfl) (.one (by kernel_rfl) h0 trivial)) (s205 r271 L205_0)
abbrev i127:Ts:=[.a q3, .a q3]
abbrev o127:Ts:=[.v (.bool)]
abbrev F127:=FT i127 o127
abbrev g127:=mkG 127 i127 o127
noncomputable def m127 (c205:F205) (y:PTup i127):Option (PTup o127×BTup i127):=
  bif (neI y.1.1 y.2.1.1)then no
  else (c205 (y.1.2.1,y.2.1.2)).bind fun r0=>
  bif (!r0.1.1)then no
  else some ((true,()),())
theorem s127 (c205:F205) (y):TE [g205 c205] Tryz.f127 i127 o127 y=m127 c205 y:=by kernel_rfl
noncomputable def r127:F127:=m127 r205
theorem k127:KO (g127 r127):=fk (s127 r205) ⟨k205,⟨⟩⟩ (by kernel_rfl)
abbrev i51:Ts:=[.a q4, .a q4]
abbrev o51:Ts:=[.v (.bool)]
abbrev F51:=FT i51 o51
abbrev g51:=mkG 51 i51 o51
noncomputable def m51 (c125:F125) (c126:F126) (c127:F127) (y:PTup i51):Option (PTup o51×BTup i51):=
  (c126 ((y.1.1,(y.1.2.1,(y.1.2.2.1,(y.1.2.2.2.1,(y.1.2.2.2.2.1,(y.1.2.2.2.2.2.1,(y.1.2.2.2.2.2.2.1,(y.1.2.2.2.2.2.2.2.1,())))))))),((y.2.1.1,(y.2.1.2.1,(y.2.1.2.2.1,(y.2.1.2.2.2.1,(y.2.1.2.2.2.2.1,(y.2.1.2.2.2.2.2.1,(y.2.1.2.2.2.2.2.2.1,(y.2.1.2.2.2.2.2.2.2.1,())))))))),()))).bind fun r0=>
  bif (!r0.1.1)then no
  else (c127 ((y.1.2.2.2.2.2.2.2.2.1,(y.1.2.2.2.2.2.2.2.2.2.1,())),((y.2.1.2.2.2.2.2.2.2.2.1,(y.2.1.2.2.2.2.2.2.2.2.2.1,())),()))).bind fun r1=>
  bif (!r1.1.1)then no
  else (c125 (y.1.2.2.2.2.2.2.2.2.2.2.1,y.2.1.2.2.2.2.2.2.2.2.2.2)).bind fun r2=>
  bif (!r2.1.1)then no
  else some ((true,()),())
theorem s51 (c125:F125) (c126:F126) (c127:F127) (y):TE [g125 c125,g126 c126,g127 c127] Tryz.f51 i51 o51 y=m51 c125 c126 c127 y:=by kernel_rfl
noncomputable def r51:F51:=m51 r125 r126 r127
theorem k51:KO (g51 r51):=fk (s51 r125 r126 r127) ⟨k125,k126,k127,⟨⟩⟩ (by kernel_rfl)
abbrev i128:Ts:=[.a q14, .a q14]
abbrev o128:Ts:=[.v (.bool)]
abbrev F128:=FT i128 o128
abbrev g128:=mkG 128 i128 o128
noncomputable def m128 (y:PTup i128):Option (PTup o128×BTup i128):=
  bif (neI y.1.1 y.2.1.1)then no
  else bif (neI y.1.2.1 y.2.1.2.1)then no
  else bif (neI y.1.2.2.1 y.2.1.2.2.1)then no
  else bif (neI y.1.2.2.2.1 y.2.1.2.2.2.1)then no
  else bif (neI y.1.2.2.2.2.1 y.2.1.2.2.2.2.1)then no
  else bif (!(y.1.2.2.2.2.2.1==y.2.1.2.2.2.2.2.1))then no
  else bif (!(y.1.2.2.2.2.2.2.1==y.2.1.2.2.2.2.2.2.1))then no
  else some ((true,()),())
theorem s128 (y):TE [] Tryz.f128 i128 o128 y=m128 y:=by kernel_rfl
noncomputable def r128:F128:=m128
theorem k128:KO (g128 r128):=fk (s128) trivial (by kernel_rfl)
abbrev i52:Ts:=[.a q5, .a q5]
abbrev o52:Ts:=[.v (.bool)]
abbrev F52:=FT i52 o52
abbrev g52:=mkG 52 i52 o52
noncomputable def m52 (c128:F128) (c47:F47) (c127:F127) (y:PTup i52):Option (PTup o52×BTup i52):=
  (c128 ((y.1.1,(y.1.2.1,(y.1.2.2.1,(y.1.2.2.2.1,(y.1.2.2.2.2.1,(y.1.2.2.2.2.2.1,(y.1.2.2.2.2.2.2.1,()))))))),((y.2.1.1,(y.2.1.2.1,(y.2.1.2.2.1,(y.2.1.2.2.2.1,(y.2.1.2.2.2.2.1,(y.2.1.2.2.2.2.2.1,(y.2.1.2.2.2.2.2.2.1,()))))))),()))).bind fun r0=>
  bif (!r0.1.1)then no
  else (c127 ((y.1.2.2.2.2.2.2.2.1,(y.1.2.2.2.2.2.2.2.2.1,())),((y.2.1.2.2.2.2.2.2.2.1,(y.2.1.2.2.2.2.2.2.2.2.1,())),()))).bind fun r1=>
  bif (!r1.1.1)then no
  else (c47 (y.1.2.2.2.2.2.2.2.2.2.1,y.2.1.2.2.2.2.2.2.2.2.2)).bind fun r2=>
  bif (!r2.1.1)then no
  else some ((true,()),())
theorem s52 (c128:F128) (c47:F47) (c127:F127) (y):TE [g128 c128,g47 c47,g127 c127] Tryz.f52 i52 o52 y=m52 c128 c47 c127 y:=by kernel_rfl
noncomputable def r52:F52:=m52 r128 r47 r127
theorem k52:KO (g52 r52):=fk (s52 r128 r47 r127) ⟨k128,k47,k127,⟨⟩⟩ (by kernel_rfl)
abbrev i9:Ts:=[.a q6, .a q6]
abbrev o9:Ts:=[.v (.bool)]
abbrev F9:=FT i9 o9
abbrev g9:=mkG 9 i9 o9
noncomputable def m9 (c49:F49) (c46:F46) (c47:F47) (c48:F48) (c50:F50) (c51:F51) (c52:F52) (y:PTup i9):Option (PTup o9×BTup i9):=
  let a0:=y.1;let a1:=y.2;let a2:=a0.2;let a3:=a1.1;let a4:=a2.2;let a5:=a3.2;let a6:=a4.2;let a7:=a5.2;let a8:=a6.2;let a9:=a7.2;let a10:=a8.2;let a11:=a9.2;let a12:=a10.2;let a13:=a11.2;let a14:=a12.2;let a15:=a13.2;let a16:=a14.2;let a17:=a15.2;let a18:=a16.2;let a19:=a17.2;let a20:=a18.2;let a21:=a19.2;let a22:=a20.2;let a23:=a21.2;let a24:=a22.2;let a25:=a23.2;let a26:=a24.2;let a27:=a25.2;let a28:=a26.2;let a29:=a27.2;let a30:=a28.2;let a31:=a29.2;let a32:=a30.2;let a33:=a31.2;let a34:=a32.2;let a35:=a33.2;let a36:=a34.2;let a37:=a35.2;let a38:=a36.2;let a39:=a37.2;let a40:=a38.2;let a41:=a39.2;let a42:=a40.2;let a43:=a41.2;let a44:=a42.2;let a45:=a43.2;let a46:=a44.2;let a47:=a45.2;let a48:=a47.2;let a49:=a46.2.2;let a50:=a48.2.2;let a51:=a49.2.2;let a52:=a50.2.2;(c46 ((a0.1,()),((a3.1,()),()))).bind fun r0=>
  bif (!r0.1.1)then no
  else (c47 (a2.1,(a5.1,()))).bind fun r1=>
  bif (!r1.1.1)then no
  else (c48 ((a4.1,(a6.1,())),((a7.1,(a9.1,())),()))).bind fun r2=>
  bif (!r2.1.1)then no
  else (c49 ((a8.1,(a10.1,(a12.1,(a14.1,(a16.1,(a18.1,(a20.1,(a22.1,())))))))),((a11.1,(a13.1,(a15.1,(a17.1,(a19.1,(a21.1,(a23.1,(a25.1,())))))))),()))).bind fun r3=>
  bif (!r3.1.1)then no
  else (c50 ((a24.1,(a26.1,())),((a27.1,(a29.1,())),()))).bind fun r4=>
  bif (!r4.1.1)then no
  else bif (neI a28.1 a31.1)then no
  else bif (!(a30.1==a33.1))then no
  else bif (neI a32.1 a35.1)then no
  else bif (!(a34.1==a37.1))then no
  else bif (neI a36.1 a39.1)then no
  else bif (neI a38.1 a41.1)then no
  else (c47 (a40.1,(a43.1,()))).bind fun r5=>
  bif (!r5.1.1)then no
  else (c51 ((a42.1,(a44.1,(a46.1,(a46.2.1,(a49.1,(a49.2.1,(a51.1,(a51.2.1,(a51.2.2.1,(a51.2.2.2.1,(a51.2.2.2.2.1,()))))))))))),((a45.1,(a47.1,(a48.1,(a48.2.1,(a50.1,(a50.2.1,(a52.1,(a52.2.1,(a52.2.2.1,(a52.2.2.2.1,(a52.2.2.2.2.1,()))))))))))),()))).bind fun r6=>
  bif (!r6.1.1)then no
  else (c52 (a51.2.2.2.2.2,(a52.2.2.2.2.2,()))).bind fun r7=>
  bif (!r7.1.1)then no
  else some ((true,()),())
theorem s9 (c49:F49) (c46:F46) (c47:F47) (c48:F48) (c50:F50) (c51:F51) (c52:F52) (y):TE [g49 c49,g46 c46,g47 c47,g48 c48,g50 c50,g51 c51,g52 c52] Tryz.f9 i9 o9 y=m9 c49 c46 c47 c48 c50 c51 c52 y:=by kernel_rfl
noncomputable def r9:F9:=m9 r49 r46 r47 r48 r50 r51 r52
theorem k9:KO (g9 r9):=fk (s9 r49 r46 r47 r48 r50 r51 r52) ⟨k49,k46,k47,k48,k50,k51,k52,⟨⟩⟩ (by kernel_rfl)
abbrev i54:Ts:=[.v (.sl true .i), .v (.int .i64)]
abbrev o54:Ts:=[.v (.int .i64), .v (.sl true .i)]
abbrev F54:=FT i54 o54
abbrev g54 (c:F54):Nat×Tev.Fn:=(54,⟨i54,o54,c, .inp⟩)
abbrev lc54_0:Ts:=[]
abbrev lb54_0:Ts:=[]
abbrev lv54_0:Ts:=[.v (.int .i64), .v (.int .i64), .v (.sl true .i)]
abbrev lr54_0:Ts:=[]
abbrev R54_0:=Option (Sum (PTup lv54_0) (PTup lr54_0)×BTup lb54_0)
abbrev B54_0:=PTup lb54_0→PTup lv54_0→R54_0
abbrev A54_0:=PTup lc54_0→B54_0
noncomputable def w54_0 (again:B54_0) (x:PTup lc54_0) (y:PTup lb54_0) (z:PTup lv54_0):R54_0:=
  bif (ltI z.2.1 (lenI z.2.2.1))then (bif (leI 0 z.2.1)then (bif (ltI z.2.1 (lenI z.2.2.1))then (again () ((wI (z.1+1)),((wI (z.2.1+1)),((List.set z.2.2.1 (Int.toNat z.2.1) z.1),()))))
    else none)
   else none)
  else some ((Sum.inl z),())
noncomputable def e54_0 (l:A54_0):ZaV:=⟨[],lc54_0,[],lb54_0,[1,5,0],lv54_0,[],lr54_0,0,[],l⟩
noncomputable def m54 (l0:A54_0) (y:PTup i54):Option (PTup o54×BTup i54):=
  (l0 () () (y.2.1,((0:Int),(y.1,())))).bind fun r0=>
  Zai r0.1 (fun r1=>some ((r1.1,r1.2.2),()))
  (fun r1=>none)
noncomputable def E54 (l0:A54_0):CEnv:=⟨⟨Tryz.prog,fnsL []⟩,ZaN [(2,e54_0 l0)]⟩
theorem t54_0 (l0:A54_0) (again) (x y z):Zak (E54 l0) (Zaf (Zae Tryz.f54) 0) (e54_0 l0) Tryz.f54.ntmps again x y z=w54_0 again x y z:=by kernel_rfl
noncomputable def n54_0:Nat→A54_0
  |0,_,_,_=>none
  |n+1,x,y,z=>w54_0 (fun y z=>n54_0 n x y z) x y z
theorem s54 (l0:A54_0) (y):tevM (E54 l0) Tryz.f54 i54 o54 y=m54 l0 y:=by kernel_rfl
noncomputable def L54_0:A54_0:=n54_0 fuel
noncomputable def r54:F54:=m54 L54_0
theorem k54:KO (g54 r54):=by
  have hE: ∀g f,(E54 L54_0).env.fns g=some f→Zap Tryz.prog g f:=Zat trivial
  have h0:ZaF Tryz.prog Tryz.f54.ntmps (Zaf (Zae Tryz.f54) 0) (e54_0 L54_0):=Zbo (E:=E54 L54_0) rfl hE mixed (Zab.of_list (l:=[]) (by kernel_rfl) trivial) (n54_0) (fun _ _ _=>rfl) (fun n x y z=>t54_0 L54_0 _ x y z) rfl
  exact ZhK (E:=E54 L54_0) rfl hE mixed (by kernel_rfl) (by kernel_rfl) (Zab.of_list (l:=[(Zaf (Zae Tryz.f54) 0)]) (by kernel_rfl) (.one (by kernel_rfl) h0 trivial)) (s54 L54_0)
abbrev i129:Ts:=[.v (.sl true .n), .v (.int .i64)]
abbrev o129:Ts:=[.v (.int .i64), .v (.sl true .n)]
abbrev F129:=FT i129 o129
abbrev g129 (c:F129):Nat×Tev.Fn:=(129,⟨i129,o129,c, .inp⟩)
abbrev lc129_0:Ts:=[]
abbrev lb129_0:Ts:=[]
abbrev lv129_0:Ts:=[.v (.int .i64), .v (.int .i64), .v (.sl true .n)]
abbrev lr129_0:Ts:=[]
abbrev R129_0:=Option (Sum (PTup lv129_0) (PTup lr129_0)×BTup lb129_0)
abbrev B129_0:=PTup lb129_0→PTup lv129_0→R129_0
abbrev A129_0:=PTup lc129_0→B129_0
noncomputable def w129_0 (c54:F54) (again:B129_0) (x:PTup lc129_0) (y:PTup lb129_0) (z:PTup lv129_0):R129_0:=
  bif (ltI z.2.1 (lenI z.2.2.1))then (bif (leI 0 z.2.1)then (bif (ltI z.2.1 (lenI z.2.2.1))then ((c54 ((rdE .n z.2.2.1 z.2.1),(z.1,()))).bind fun r0=>
     again () (r0.1.1,((wI (z.2.1+1)),((List.set z.2.2.1 (Int.toNat z.2.1) r0.1.2.1),()))))
    else none)
   else none)
  else some ((Sum.inl z),())
noncomputable def e129_0 (l:A129_0):ZaV:=⟨[],lc129_0,[],lb129_0,[1,5,0],lv129_0,[],lr129_0,0,[],l⟩
noncomputable def m129 (c54:F54) (l0:A129_0) (y:PTup i129):Option (PTup o129×BTup i129):=
  (l0 () () (y.2.1,((0:Int),(y.1,())))).bind fun r0=>
  Zai r0.1 (fun r1=>some ((r1.1,r1.2.2),()))
  (fun r1=>none)
noncomputable def E129 (c54:F54) (l0:A129_0):CEnv:=⟨⟨Tryz.prog,fnsL [g54 c54]⟩,ZaN [(2,e129_0 l0)]⟩
theorem t129_0 (c54:F54) (l0:A129_0) (again) (x y z):Zak (E129 c54 l0) (Zaf (Zae Tryz.f129) 0) (e129_0 l0) Tryz.f129.ntmps again x y z=w129_0 c54 again x y z:=by kernel_rfl
noncomputable def n129_0 (c54:F54):Nat→A129_0
  |0,_,_,_=>none
  |n+1,x,y,z=>w129_0 c54 (fun y z=>n129_0 c54 n x y z) x y z
theorem s129 (c54:F54) (l0:A129_0) (y):tevM (E129 c54 l0) Tryz.f129 i129 o129 y=m129 c54 l0 y:=by kernel_rfl
noncomputable def L129_0:A129_0:=n129_0 r54 fuel
noncomputable def r129:F129:=m129 r54 L129_0
theorem k129:KO (g129 r129):=by
  have hE: ∀g f,(E129 r54 L129_0).env.fns g=some f→Zap Tryz.prog g f:=Zat ⟨k54,⟨⟩⟩
  have h0:ZaF Tryz.prog Tryz.f129.ntmps (Zaf (Zae Tryz.f129) 0) (e129_0 L129_0):=Zbo (E:=E129 r54 L129_0) rfl hE mixed (Zab.of_list (l:=[]) (by kernel_rfl) trivial) (n129_0 r54) (fun _ _ _=>rfl) (fun n x y z=>t129_0 r54 L129_0 _ x y z) rfl
  exact ZhK (E:=E129 r54 L129_0) rfl hE mixed (by kernel_rfl) (by kernel_rfl) (Zab.of_list (l:=[(Zaf (Zae Tryz.f129) 0)]) (by kernel_rfl) (.one (by kernel_rfl) h0 trivial)) (s129 r54 L129_0)
abbrev i53:Ts:=[.a [.sl true .n], .v (.int .i64)]
abbrev o53:Ts:=[.v (.int .i64), .a [.sl true .n]]
abbrev F53:=FT i53 o53
abbrev g53 (c:F53):Nat×Tev.Fn:=(53,⟨i53,o53,c, .inp⟩)
noncomputable def m53 (c129:F129) (y:PTup i53):Option (PTup o53×BTup i53):=
  (c129 (y.1.1,y.2)).bind fun r0=>
  some ((r0.1.1,(r0.1.2,())),())
noncomputable def E53 (c129:F129):=mkE [g129 c129]
theorem s53 (c129:F129) (y):tevM (E53 c129) Tryz.f53 i53 o53 y=m53 c129 y:=by kernel_rfl
noncomputable def r53:F53:=m53 r129
theorem k53:KO (g53 r53):=by
  exact ZhK (E:=E53 r129) rfl (Zat ⟨k129,⟨⟩⟩) mixed (by kernel_rfl) (by kernel_rfl) (Zab.of_list (l:=[]) (by kernel_rfl) trivial) (s53 r129)
abbrev i55:Ts:=[.a q7, .v (.int .i64)]
abbrev o55:Ts:=[.v (.int .i64), .a q7]
abbrev F55:=FT i55 o55
abbrev g55 (c:F55):Nat×Tev.Fn:=(55,⟨i55,o55,c, .inp⟩)
noncomputable def m55 (c54:F54) (y:PTup i55):Option (PTup o55×BTup i55):=
  (c54 (y.1.1,y.2)).bind fun r0=>
  some ((r0.1.1,((r0.1.2.1,y.1.2),())),())
noncomputable def E55 (c54:F54):=mkE [g54 c54]
theorem s55 (c54:F54) (y):tevM (E55 c54) Tryz.f55 i55 o55 y=m55 c54 y:=by kernel_rfl
noncomputable def r55:F55:=m55 r54
theorem k55:KO (g55 r55):=by
  exact ZhK (E:=E55 r54) rfl (Zat ⟨k54,⟨⟩⟩) mixed (by kernel_rfl) (by kernel_rfl) (Zab.of_list (l:=[]) (by kernel_rfl) trivial) (s55 r54)
abbrev i130:Ts:=[.a q10, .v (.int .i64)]
abbrev o130:Ts:=[.v (.int .i64), .a q10]
abbrev F130:=FT i130 o130
abbrev g130 (c:F130):Nat×Tev.Fn:=(130,⟨i130,o130,c, .inp⟩)
noncomputable def m130 (c54:F54) (y:PTup i130):Option (PTup o130×BTup i130):=
  (c54 (y.1.2.2.2.2.2.2.1,y.2)).bind fun r0=>
  (c54 (y.1.2.2.2.2.2.2.2.1,(r0.1.1,()))).bind fun r1=>
  some ((r1.1.1,((y.1.1,(y.1.2.1,(y.1.2.2.1,(y.1.2.2.2.1,(y.1.2.2.2.2.1,(y.1.2.2.2.2.2.1,(r0.1.2.1,r1.1.2))))))),())),())
noncomputable def E130 (c54:F54):=mkE [g54 c54]
theorem s130 (c54:F54) (y):tevM (E130 c54) Tryz.f130 i130 o130 y=m130 c54 y:=by kernel_rfl
noncomputable def r130:F130:=m130 r54
theorem k130:KO (g130 r130):=by
  exact ZhK (E:=E130 r54) rfl (Zat ⟨k54,⟨⟩⟩) mixed (by kernel_rfl) (by kernel_rfl) (Zab.of_list (l:=[]) (by kernel_rfl) trivial) (s130 r54)
abbrev i206:Ts:=[.v (.sl true .t), .v (.int .i64)]
abbrev o206:Ts:=[.v (.int .i64), .v (.sl true .t)]
abbrev F206:=FT i206 o206
abbrev g206 (c:F206):Nat×Tev.Fn:=(206,⟨i206,o206,c, .inp⟩)
abbrev lc206_0:Ts:=[]
abbrev lb206_0:Ts:=[]
abbrev lv206_0:Ts:=[.v (.int .i64), .v (.int .i64), .v (.sl true .t)]
abbrev lr206_0:Ts:=[]
abbrev R206_0:=Option (Sum (PTup lv206_0) (PTup lr206_0)×BTup lb206_0)
abbrev B206_0:=PTup lb206_0→PTup lv206_0→R206_0
abbrev A206_0:=PTup lc206_0→B206_0
noncomputable def w206_0 (again:B206_0) (x:PTup lc206_0) (y:PTup lb206_0) (z:PTup lv206_0):R206_0:=
  bif (ltI z.2.1 (lenI z.2.2.1))then (bif (leI 0 z.2.1)then (bif (ltI z.2.1 (lenI z.2.2.1))then (bif (leI 0 z.2.1)then (bif (ltI z.2.1 (lenI (List.set z.2.2.1 (Int.toNat z.2.1) (setT (rdE .t z.2.2.1 z.2.1) z.1 ((0:Nat)+(0:Nat))))))then (bif (leI 0 z.2.1)then (bif (ltI z.2.1 (lenI (List.set (List.set z.2.2.1 (Int.toNat z.2.1) (setT (rdE .t z.2.2.1 z.2.1) z.1 ((0:Nat)+(0:Nat)))) (Int.toNat z.2.1) (setT (rdE .t (List.set z.2.2.1 (Int.toNat z.2.1) (setT (rdE .t z.2.2.1 z.2.1) z.1 ((0:Nat)+(0:Nat)))) z.2.1) (wI (z.1+1)) ((0:Nat)+(1:Nat))))))then (again () ((wI ((wI ((wI (z.1+1))+1))+1)),((wI (z.2.1+1)),((List.set (List.set (List.set z.2.2.1 (Int.toNat z.2.1) (setT (rdE .t z.2.2.1 z.2.1) z.1 ((0:Nat)+(0:Nat)))) (Int.toNat z.2.1) (setT (rdE .t (List.set z.2.2.1 (Int.toNat z.2.1) (setT (rdE .t z.2.2.1 z.2.1) z.1 ((0:Nat)+(0:Nat)))) z.2.1) (wI (z.1+1)) ((0:Nat)+(1:Nat)))) (Int.toNat z.2.1) (setT (rdE .t (List.set (List.set z.2.2.1 (Int.toNat z.2.1) (setT (rdE .t z.2.2.1 z.2.1) z.1 ((0:Nat)+(0:Nat)))) (Int.toNat z.2.1) (setT (rdE .t (List.set z.2.2.1 (Int.toNat z.2.1) (setT (rdE .t z.2.2.1 z.2.1) z.1 ((0:Nat)+(0:Nat)))) z.2.1) (wI (z.1+1)) ((0:Nat)+(1:Nat)))) z.2.1) (wI ((wI (z.1+1))+1)) ((0:Nat)+(2:Nat)))),()))))
        else none)
       else none)
      else none)
     else none)
    else none)
   else none)
  else some ((Sum.inl z),())
noncomputable def e206_0 (l:A206_0):ZaV:=⟨[],lc206_0,[],lb206_0,[1,5,0],lv206_0,[],lr206_0,0,[],l⟩
noncomputable def m206 (l0:A206_0) (y:PTup i206):Option (PTup o206×BTup i206):=
  (l0 () () (y.2.1,((0:Int),(y.1,())))).bind fun r0=>
  Zai r0.1 (fun r1=>some ((r1.1,r1.2.2),()))
  (fun r1=>none)
noncomputable def E206 (l0:A206_0):CEnv:=⟨⟨Tryz.prog,fnsL []⟩,ZaN [(2,e206_0 l0)]⟩
theorem t206_0 (l0:A206_0) (again) (x y z):Zak (E206 l0) (Zaf (Zae Tryz.f206) 0) (e206_0 l0) Tryz.f206.ntmps again x y z=w206_0 again x y z:=by kernel_rfl
noncomputable def n206_0:Nat→A206_0
  |0,_,_,_=>none
  |n+1,x,y,z=>w206_0 (fun y z=>n206_0 n x y z) x y z
theorem s206 (l0:A206_0) (y):tevM (E206 l0) Tryz.f206 i206 o206 y=m206 l0 y:=by kernel_rfl
noncomputable def L206_0:A206_0:=n206_0 fuel
noncomputable def r206:F206:=m206 L206_0
theorem k206:KO (g206 r206):=by
  have hE: ∀g f,(E206 L206_0).env.fns g=some f→Zap Tryz.prog g f:=Zat trivial
  have h0:ZaF Tryz.prog Tryz.f206.ntmps (Zaf (Zae Tryz.f206) 0) (e206_0 L206_0):=Zbo (E:=E206 L206_0) rfl hE mixed (Zab.of_list (l:=[]) (by kernel_rfl) trivial) (n206_0) (fun _ _ _=>rfl) (fun n x y z=>t206_0 L206_0 _ x y z) rfl
  exact ZhK (E:=E206 L206_0) rfl hE mixed (by kernel_rfl) (by kernel_rfl) (Zab.of_list (l:=[(Zaf (Zae Tryz.f206) 0)]) (by kernel_rfl) (.one (by kernel_rfl) h0 trivial)) (s206 L206_0)
abbrev i131:Ts:=[.a q12, .v (.int .i64)]
abbrev o131:Ts:=[.v (.int .i64), .a q12]
abbrev F131:=FT i131 o131
abbrev g131 (c:F131):Nat×Tev.Fn:=(131,⟨i131,o131,c, .inp⟩)
noncomputable def m131 (c206:F206) (y:PTup i131):Option (PTup o131×BTup i131):=
  (c206 (y.1.2.1,y.2)).bind fun r0=>
  some ((r0.1.1,((y.1.1,r0.1.2),())),())
noncomputable def E131 (c206:F206):=mkE [g206 c206]
theorem s131 (c206:F206) (y):tevM (E131 c206) Tryz.f131 i131 o131 y=m131 c206 y:=by kernel_rfl
noncomputable def r131:F131:=m131 r206
theorem k131:KO (g131 r131):=by
  exact ZhK (E:=E131 r206) rfl (Zat ⟨k206,⟨⟩⟩) mixed (by kernel_rfl) (by kernel_rfl) (Zab.of_list (l:=[]) (by kernel_rfl) trivial) (s131 r206)
abbrev i56:Ts:=[.a q13, .v (.int .i64)]
abbrev o56:Ts:=[.v (.int .i64), .a q13]
abbrev F56:=FT i56 o56
abbrev g56 (c:F56):Nat×Tev.Fn:=(56,⟨i56,o56,c, .inp⟩)
noncomputable def m56 (c129:F129) (c130:F130) (c131:F131) (y:PTup i56):Option (PTup o56×BTup i56):=
  (c130 ((y.1.1,(y.1.2.1,(y.1.2.2.1,(y.1.2.2.2.1,(y.1.2.2.2.2.1,(y.1.2.2.2.2.2.1,(y.1.2.2.2.2.2.2.1,(y.1.2.2.2.2.2.2.2.1,())))))))),y.2)).bind fun r0=>
  (c131 ((y.1.2.2.2.2.2.2.2.2.1,(y.1.2.2.2.2.2.2.2.2.2.1,())),(r0.1.1,()))).bind fun r1=>
  (c129 (y.1.2.2.2.2.2.2.2.2.2.2.1,(r1.1.1,()))).bind fun r2=>
  some ((r2.1.1,((y.1.1,(y.1.2.1,(y.1.2.2.1,(y.1.2.2.2.1,(y.1.2.2.2.2.1,(y.1.2.2.2.2.2.1,(r0.1.2.1.2.2.2.2.2.2.1,(r0.1.2.1.2.2.2.2.2.2.2.1,(y.1.2.2.2.2.2.2.2.2.1,(r1.1.2.1.2.1,r2.1.2)))))))))),())),())
noncomputable def E56 (c129:F129) (c130:F130) (c131:F131):=mkE [g129 c129,g130 c130,g131 c131]
theorem s56 (c129:F129) (c130:F130) (c131:F131) (y):tevM (E56 c129 c130 c131) Tryz.f56 i56 o56 y=m56 c129 c130 c131 y:=by kernel_rfl
noncomputable def r56:F56:=m56 r129 r130 r131
theorem k56:KO (g56 r56):=by
  exact ZhK (E:=E56 r129 r130 r131) rfl (Zat ⟨k129,k130,k131,⟨⟩⟩) mixed (by kernel_rfl) (by kernel_rfl) (Zab.of_list (l:=[]) (by kernel_rfl) trivial) (s56 r129 r130 r131)
abbrev i57:Ts:=[.a q15, .v (.int .i64)]
abbrev o57:Ts:=[.v (.int .i64), .a q15]
abbrev F57:=FT i57 o57
abbrev g57 (c:F57):Nat×Tev.Fn:=(57,⟨i57,o57,c, .inp⟩)
noncomputable def m57 (c54:F54) (c131:F131) (y:PTup i57):Option (PTup o57×BTup i57):=
  (c131 ((y.1.2.2.2.2.2.2.2.1,(y.1.2.2.2.2.2.2.2.2.1,())),y.2)).bind fun r0=>
  (c54 (y.1.2.2.2.2.2.2.2.2.2.1,(r0.1.1,()))).bind fun r1=>
  some ((r1.1.1,((y.1.1,(y.1.2.1,(y.1.2.2.1,(y.1.2.2.2.1,(y.1.2.2.2.2.1,(y.1.2.2.2.2.2.1,(y.1.2.2.2.2.2.2.1,(y.1.2.2.2.2.2.2.2.1,(r0.1.2.1.2.1,r1.1.2))))))))),())),())
noncomputable def E57 (c54:F54) (c131:F131):=mkE [g54 c54,g131 c131]
theorem s57 (c54:F54) (c131:F131) (y):tevM (E57 c54 c131) Tryz.f57 i57 o57 y=m57 c54 c131 y:=by kernel_rfl
noncomputable def r57:F57:=m57 r54 r131
theorem k57:KO (g57 r57):=by
  exact ZhK (E:=E57 r54 r131) rfl (Zat ⟨k54,k131,⟨⟩⟩) mixed (by kernel_rfl) (by kernel_rfl) (Zab.of_list (l:=[]) (by kernel_rfl) trivial) (s57 r54 r131)
abbrev i10:Ts:=[.a q16, .v (.int .i64)]
abbrev o10:Ts:=[.v (.int .i64), .a q16]
abbrev F10:=FT i10 o10
abbrev g10 (c:F10):Nat×Tev.Fn:=(10,⟨i10,o10,c, .inp⟩)
noncomputable def m10 (c53:F53) (c54:F54) (c55:F55) (c56:F56) (c57:F57) (y:PTup i10):Option (PTup o10×BTup i10):=
  let a0:=y.1;let a1:=a0.2;let a2:=a1.2;let a3:=a2.2;let a4:=a3.2;let a5:=a4.2;let a6:=a5.2;let a7:=a6.2;let a8:=a7.2;let a9:=a8.2;let a10:=a9.2;let a11:=a10.2;let a12:=a11.2;let a13:=a12.2;let a14:=a13.2;let a15:=a14.2;let a16:=a15.2;let a17:=a16.2;let a18:=a17.2;let a19:=a18.2;let a20:=a19.2;let a21:=a20.2;let a22:=a21.2;let a23:=a22.2;let a24:=a23.2;let a25:=a24.2;let a26:=a25.2;let a27:=a26.2;let a28:=a27.2;let a29:=a28.2;let a30:=a29.2;let a31:=a30.2;let a32:=a31.2.2;let a33:=a32.2.2.2;(c53 ((a0.1,()),y.2)).bind fun r0=>
  (c54 (a1.1,(r0.1.1,()))).bind fun r1=>
  (c55 ((a2.1,(a3.1,())),(r1.1.1,()))).bind fun r2=>
  (c54 (a20.1,(r2.1.1,()))).bind fun r3=>
  (c56 ((a21.1,(a22.1,(a23.1,(a24.1,(a25.1,(a26.1,(a27.1,(a28.1,(a29.1,(a30.1,(a31.1,()))))))))))),(r3.1.1,()))).bind fun r4=>
  (c57 (a31.2,(r4.1.1,()))).bind fun r5=>
  some ((r5.1.1,((r0.1.2.1.1,(r1.1.2.1,(r2.1.2.1.1,(a3.1,(a4.1,(a5.1,(a6.1,(a7.1,(a8.1,(a9.1,(a10.1,(a11.1,(a12.1,(a13.1,(a14.1,(a15.1,(a16.1,(a17.1,(a18.1,(a19.1,(r3.1.2.1,(a21.1,(a22.1,(a23.1,(a24.1,(a25.1,(a26.1,(r4.1.2.1.2.2.2.2.2.2.1,(r4.1.2.1.2.2.2.2.2.2.2.1,(a29.1,(r4.1.2.1.2.2.2.2.2.2.2.2.2.1,(r4.1.2.1.2.2.2.2.2.2.2.2.2.2.1,(a31.2.1,(a32.1,(a32.2.1,(a32.2.2.1,(a33.1,(a33.2.1,(a33.2.2.1,(a33.2.2.2.1,r5.1.2.1.2.2.2.2.2.2.2.2)))))))))))))))))))))))))))))))))))))))),())),())
noncomputable def E10 (c53:F53) (c54:F54) (c55:F55) (c56:F56) (c57:F57):=mkE [g53 c53,g54 c54,g55 c55,g56 c56,g57 c57]
theorem s10 (c53:F53) (c54:F54) (c55:F55) (c56:F56) (c57:F57) (y):tevM (E10 c53 c54 c55 c56 c57) Tryz.f10 i10 o10 y=m10 c53 c54 c55 c56 c57 y:=by kernel_rfl
noncomputable def r10:F10:=m10 r53 r54 r55 r56 r57
theorem k10:KO (g10 r10):=by
  exact ZhK (E:=E10 r53 r54 r55 r56 r57) rfl (Zat ⟨k53,k54,k55,k56,k57,⟨⟩⟩) mixed (by kernel_rfl) (by kernel_rfl) (Zab.of_list (l:=[]) (by kernel_rfl) trivial) (s10 r53 r54 r55 r56 r57)
abbrev i59:Ts:=[.v (.sl false .i), .v (.int .i64)]
abbrev o59:Ts:=[.v (.int .i64)]
abbrev F59:=FT i59 o59
abbrev g59:=mkG 59 i59 o59
abbrev lc59_0:Ts:=[.v (.sl false .i)]
abbrev lb59_0:Ts:=[]
abbrev lv59_0:Ts:=[.v (.int .i64), .v (.int .i64)]
abbrev lr59_0:Ts:=[.v (.int .i64)]
abbrev R59_0:=Option (Sum (PTup lv59_0) (PTup lr59_0)×BTup lb59_0)
abbrev B59_0:=PTup lb59_0→PTup lv59_0→R59_0
abbrev A59_0:=PTup lc59_0→B59_0
noncomputable def w59_0 (again:B59_0) (x:PTup lc59_0) (y:PTup lb59_0) (z:PTup lv59_0):R59_0:=
  bif (ltI z.2.1 (lenI x.1))then (bif (leI 0 z.2.1)then (bif (ltI z.2.1 (lenI x.1))then (bif (neI (rdE .i x.1 z.2.1) z.1)then (some ((Sum.inr ((-(1:Int)),())),()))
     else again () ((wI (z.1+1)),((wI (z.2.1+1)),())))
    else none)
   else none)
  else some ((Sum.inl z),())
noncomputable def e59_0 (l:A59_0):ZaV:=⟨[0],lc59_0,[],lb59_0,[1,5],lv59_0,[4],lr59_0,0,[],l⟩
noncomputable def m59 (l0:A59_0) (y:PTup i59):Option (PTup o59×BTup i59):=
  (l0 (y.1,()) () (y.2.1,((0:Int),()))).bind fun r0=>
  Zai r0.1 (fun r1=>some ((r1.1,()),()))
  (fun r1=>some (r1,()))
noncomputable def E59 (l0:A59_0):CEnv:=⟨⟨Tryz.prog,fnsL []⟩,ZaN [(2,e59_0 l0)]⟩
theorem t59_0 (l0:A59_0) (again) (x y z):Zak (E59 l0) (Zaf (Zae Tryz.f59) 0) (e59_0 l0) Tryz.f59.ntmps again x y z=w59_0 again x y z:=by kernel_rfl
noncomputable def n59_0:Nat→A59_0
  |0,_,_,_=>none
  |n+1,x,y,z=>w59_0 (fun y z=>n59_0 n x y z) x y z
theorem s59 (l0:A59_0) (y):tevF (E59 l0) Tryz.f59 i59 o59 y=m59 l0 y:=by kernel_rfl
noncomputable def L59_0:A59_0:=n59_0 fuel
noncomputable def r59:F59:=m59 L59_0
theorem k59:KO (g59 r59):=by
  have hE: ∀g f,(E59 L59_0).env.fns g=some f→Zap Tryz.prog g f:=Zat trivial
  have h0:ZaF Tryz.prog Tryz.f59.ntmps (Zaf (Zae Tryz.f59) 0) (e59_0 L59_0):=Zbo (E:=E59 L59_0) rfl hE mixed (Zab.of_list (l:=[]) (by kernel_rfl) trivial) (n59_0) (fun _ _ _=>rfl) (fun n x y z=>t59_0 L59_0 _ x y z) rfl
  exact ZbG (E:=E59 L59_0) rfl hE mixed (by kernel_rfl) (by kernel_rfl) (Zab.of_list (l:=[(Zaf (Zae Tryz.f59) 0)]) (by kernel_rfl) (.one (by kernel_rfl) h0 trivial)) (s59 L59_0)
abbrev i132:Ts:=[.v (.sl false .n), .v (.int .i64)]
abbrev o132:Ts:=[.v (.int .i64)]
abbrev F132:=FT i132 o132
abbrev g132:=mkG 132 i132 o132
abbrev lc132_0:Ts:=[.v (.sl false .n)]
abbrev lb132_0:Ts:=[]
abbrev lv132_0:Ts:=[.v (.int .i64), .v (.int .i64)]
abbrev lr132_0:Ts:=[.v (.int .i64)]
abbrev R132_0:=Option (Sum (PTup lv132_0) (PTup lr132_0)×BTup lb132_0)
abbrev B132_0:=PTup lb132_0→PTup lv132_0→R132_0
abbrev A132_0:=PTup lc132_0→B132_0
noncomputable def w132_0 (c59:F59) (again:B132_0) (x:PTup lc132_0) (y:PTup lb132_0) (z:PTup lv132_0):R132_0:=
  bif (ltI z.2.1 (lenI x.1))then (bif (leI 0 z.2.1)then (bif (ltI z.2.1 (lenI x.1))then ((c59 ((rdE .n x.1 z.2.1),(z.1,()))).bind fun r0=>
     bif (ltI r0.1.1 0)then (some ((Sum.inr ((-(1:Int)),())),()))
     else again () (r0.1.1,((wI (z.2.1+1)),())))
    else none)
   else none)
  else some ((Sum.inl z),())
noncomputable def e132_0 (l:A132_0):ZaV:=⟨[0],lc132_0,[],lb132_0,[1,5],lv132_0,[4],lr132_0,0,[],l⟩
noncomputable def m132 (c59:F59) (l0:A132_0) (y:PTup i132):Option (PTup o132×BTup i132):=
  (l0 (y.1,()) () (y.2.1,((0:Int),()))).bind fun r0=>
  Zai r0.1 (fun r1=>some ((r1.1,()),()))
  (fun r1=>some (r1,()))
noncomputable def E132 (c59:F59) (l0:A132_0):CEnv:=⟨⟨Tryz.prog,fnsL [g59 c59]⟩,ZaN [(2,e132_0 l0)]⟩
theorem t132_0 (c59:F59) (l0:A132_0) (again) (x y z):Zak (E132 c59 l0) (Zaf (Zae Tryz.f132) 0) (e132_0 l0) Tryz.f132.ntmps again x y z=w132_0 c59 again x y z:=by kernel_rfl
noncomputable def n132_0 (c59:F59):Nat→A132_0
  |0,_,_,_=>none
  |n+1,x,y,z=>w132_0 c59 (fun y z=>n132_0 c59 n x y z) x y z
theorem s132 (c59:F59) (l0:A132_0) (y):tevF (E132 c59 l0) Tryz.f132 i132 o132 y=m132 c59 l0 y:=by kernel_rfl
noncomputable def L132_0:A132_0:=n132_0 r59 fuel
noncomputable def r132:F132:=m132 r59 L132_0
theorem k132:KO (g132 r132):=by
  have hE: ∀g f,(E132 r59 L132_0).env.fns g=some f→Zap Tryz.prog g f:=Zat ⟨k59,⟨⟩⟩
  have h0:ZaF Tryz.prog Tryz.f132.ntmps (Zaf (Zae Tryz.f132) 0) (e132_0 L132_0):=Zbo (E:=E132 r59 L132_0) rfl hE mixed (Zab.of_list (l:=[]) (by kernel_rfl) trivial) (n132_0 r59) (fun _ _ _=>rfl) (fun n x y z=>t132_0 r59 L132_0 _ x y z) rfl
  exact ZbG (E:=E132 r59 L132_0) rfl hE mixed (by kernel_rfl) (by kernel_rfl) (Zab.of_list (l:=[(Zaf (Zae Tryz.f132) 0)]) (by kernel_rfl) (.one (by kernel_rfl) h0 trivial)) (s132 r59 L132_0)
abbrev i58:Ts:=[.a q0, .v (.int .i64)]
abbrev o58:Ts:=[.v (.int .i64)]
abbrev F58:=FT i58 o58
abbrev g58:=mkG 58 i58 o58
noncomputable def m58 (c132:F132) (y:PTup i58):Option (PTup o58×BTup i58):=
  (c132 (y.1.1,y.2)).bind fun r0=>
  bif (ltI r0.1.1 0)then (some (((-(1:Int)),()),()))
  else some (r0.1,())
theorem s58 (c132:F132) (y):TE [g132 c132] Tryz.f58 i58 o58 y=m58 c132 y:=by kernel_rfl
noncomputable def r58:F58:=m58 r132
theorem k58:KO (g58 r58):=fk (s58 r132) ⟨k132,⟨⟩⟩ (by kernel_rfl)
abbrev i60:Ts:=[.a q1, .v (.int .i64)]
abbrev o60:Ts:=[.v (.int .i64)]
abbrev F60:=FT i60 o60
abbrev g60:=mkG 60 i60 o60
noncomputable def m60 (c59:F59) (y:PTup i60):Option (PTup o60×BTup i60):=
  (c59 (y.1.1,y.2)).bind fun r0=>
  bif (ltI r0.1.1 0)then (some (((-(1:Int)),()),()))
  else some (r0.1,())
theorem s60 (c59:F59) (y):TE [g59 c59] Tryz.f60 i60 o60 y=m60 c59 y:=by kernel_rfl
noncomputable def r60:F60:=m60 r59
theorem k60:KO (g60 r60):=fk (s60 r59) ⟨k59,⟨⟩⟩ (by kernel_rfl)
abbrev i133:Ts:=[.a q2, .v (.int .i64)]
abbrev o133:Ts:=[.v (.int .i64)]
abbrev F133:=FT i133 o133
abbrev g133:=mkG 133 i133 o133
noncomputable def m133 (c59:F59) (y:PTup i133):Option (PTup o133×BTup i133):=
  (c59 (y.1.2.2.2.2.2.2.1,y.2)).bind fun r0=>
  bif (ltI r0.1.1 0)then (some (((-(1:Int)),()),()))
  else (c59 (y.1.2.2.2.2.2.2.2.1,r0.1)).bind fun r1=>
  bif (ltI r1.1.1 0)then (some (((-(1:Int)),()),()))
  else some (r1.1,())
theorem s133 (c59:F59) (y):TE [g59 c59] Tryz.f133 i133 o133 y=m133 c59 y:=by kernel_rfl
noncomputable def r133:F133:=m133 r59
theorem k133:KO (g133 r133):=fk (s133 r59) ⟨k59,⟨⟩⟩ (by kernel_rfl)
abbrev i207:Ts:=[.v (.sl false .t), .v (.int .i64)]
abbrev o207:Ts:=[.v (.int .i64)]
abbrev F207:=FT i207 o207
abbrev g207:=mkG 207 i207 o207
abbrev lc207_0:Ts:=[.v (.sl false .t)]
abbrev lb207_0:Ts:=[]
abbrev lv207_0:Ts:=[.v (.int .i64), .v (.int .i64)]
abbrev lr207_0:Ts:=[.v (.int .i64)]
abbrev R207_0:=Option (Sum (PTup lv207_0) (PTup lr207_0)×BTup lb207_0)
abbrev B207_0:=PTup lb207_0→PTup lv207_0→R207_0
abbrev A207_0:=PTup lc207_0→B207_0
noncomputable def w207_0 (again:B207_0) (x:PTup lc207_0) (y:PTup lb207_0) (z:PTup lv207_0):R207_0:=
  bif (ltI z.2.1 (lenI x.1))then (bif (leI 0 z.2.1)then (bif (ltI z.2.1 (lenI x.1))then (bif (neI (rdE .t x.1 z.2.1).1 z.1)then (some ((Sum.inr ((-(1:Int)),())),()))
     else bif (leI 0 z.2.1)then (bif (ltI z.2.1 (lenI x.1))then (bif (neI (rdE .t x.1 z.2.1).2.1 (wI (z.1+1)))then (some ((Sum.inr ((-(1:Int)),())),()))
       else bif (leI 0 z.2.1)then (bif (ltI z.2.1 (lenI x.1))then (bif (neI (rdE .t x.1 z.2.1).2.2 (wI ((wI (z.1+1))+1)))then (some ((Sum.inr ((-(1:Int)),())),()))
         else again () ((wI ((wI ((wI (z.1+1))+1))+1)),((wI (z.2.1+1)),())))
        else none)
       else none)
      else none)
     else none)
    else none)
   else none)
  else some ((Sum.inl z),())
noncomputable def e207_0 (l:A207_0):ZaV:=⟨[0],lc207_0,[],lb207_0,[1,5],lv207_0,[4],lr207_0,0,[],l⟩
noncomputable def m207 (l0:A207_0) (y:PTup i207):Option (PTup o207×BTup i207):=
  (l0 (y.1,()) () (y.2.1,((0:Int),()))).bind fun r0=>
  Zai r0.1 (fun r1=>some ((r1.1,()),()))
  (fun r1=>some (r1,()))
noncomputable def E207 (l0:A207_0):CEnv:=⟨⟨Tryz.prog,fnsL []⟩,ZaN [(2,e207_0 l0)]⟩
theorem t207_0 (l0:A207_0) (again) (x y z):Zak (E207 l0) (Zaf (Zae Tryz.f207) 0) (e207_0 l0) Tryz.f207.ntmps again x y z=w207_0 again x y z:=by kernel_rfl
noncomputable def n207_0:Nat→A207_0
  |0,_,_,_=>none
  |n+1,x,y,z=>w207_0 (fun y z=>n207_0 n x y z) x y z
theorem s207 (l0:A207_0) (y):tevF (E207 l0) Tryz.f207 i207 o207 y=m207 l0 y:=by kernel_rfl
noncomputable def L207_0:A207_0:=n207_0 fuel
noncomputable def r207:F207:=m207 L207_0
theorem k207:KO (g207 r207):=by
  have hE: ∀g f,(E207 L207_0).env.fns g=some f→Zap Tryz.prog g f:=Zat trivial
  have h0:ZaF Tryz.prog Tryz.f207.ntmps (Zaf (Zae Tryz.f207) 0) (e207_0 L207_0):=Zbo (E:=E207 L207_0) rfl hE mixed (Zab.of_list (l:=[]) (by kernel_rfl) trivial) (n207_0) (fun _ _ _=>rfl) (fun n x y z=>t207_0 L207_0 _ x y z) rfl
  exact ZbG (E:=E207 L207_0) rfl hE mixed (by kernel_rfl) (by kernel_rfl) (Zab.of_list (l:=[(Zaf (Zae Tryz.f207) 0)]) (by kernel_rfl) (.one (by kernel_rfl) h0 trivial)) (s207 L207_0)
abbrev i134:Ts:=[.a q3, .v (.int .i64)]
abbrev o134:Ts:=[.v (.int .i64)]
abbrev F134:=FT i134 o134
abbrev g134:=mkG 134 i134 o134
noncomputable def m134 (c207:F207) (y:PTup i134):Option (PTup o134×BTup i134):=
  (c207 (y.1.2.1,y.2)).bind fun r0=>
  bif (ltI r0.1.1 0)then (some (((-(1:Int)),()),()))
  else some (r0.1,())
theorem s134 (c207:F207) (y):TE [g207 c207] Tryz.f134 i134 o134 y=m134 c207 y:=by kernel_rfl
noncomputable def r134:F134:=m134 r207
theorem k134:KO (g134 r134):=fk (s134 r207) ⟨k207,⟨⟩⟩ (by kernel_rfl)
abbrev i61:Ts:=[.a q4, .v (.int .i64)]
abbrev o61:Ts:=[.v (.int .i64)]
abbrev F61:=FT i61 o61
abbrev g61:=mkG 61 i61 o61
noncomputable def m61 (c132:F132) (c133:F133) (c134:F134) (y:PTup i61):Option (PTup o61×BTup i61):=
  (c133 ((y.1.1,(y.1.2.1,(y.1.2.2.1,(y.1.2.2.2.1,(y.1.2.2.2.2.1,(y.1.2.2.2.2.2.1,(y.1.2.2.2.2.2.2.1,(y.1.2.2.2.2.2.2.2.1,())))))))),y.2)).bind fun r0=>
  bif (ltI r0.1.1 0)then (some (((-(1:Int)),()),()))
  else (c134 ((y.1.2.2.2.2.2.2.2.2.1,(y.1.2.2.2.2.2.2.2.2.2.1,())),r0.1)).bind fun r1=>
  bif (ltI r1.1.1 0)then (some (((-(1:Int)),()),()))
  else (c132 (y.1.2.2.2.2.2.2.2.2.2.2.1,r1.1)).bind fun r2=>
  bif (ltI r2.1.1 0)then (some (((-(1:Int)),()),()))
  else some (r2.1,())
theorem s61 (c132:F132) (c133:F133) (c134:F134) (y):TE [g132 c132,g133 c133,g134 c134] Tryz.f61 i61 o61 y=m61 c132 c133 c134 y:=by kernel_rfl
noncomputable def r61:F61:=m61 r132 r133 r134
theorem k61:KO (g61 r61):=fk (s61 r132 r133 r134) ⟨k132,k133,k134,⟨⟩⟩ (by kernel_rfl)
abbrev i62:Ts:=[.a q5, .v (.int .i64)]
abbrev o62:Ts:=[.v (.int .i64)]
abbrev F62:=FT i62 o62
abbrev g62:=mkG 62 i62 o62
noncomputable def m62 (c59:F59) (c134:F134) (y:PTup i62):Option (PTup o62×BTup i62):=
  (c134 ((y.1.2.2.2.2.2.2.2.1,(y.1.2.2.2.2.2.2.2.2.1,())),y.2)).bind fun r0=>
  bif (ltI r0.1.1 0)then (some (((-(1:Int)),()),()))
  else (c59 (y.1.2.2.2.2.2.2.2.2.2.1,r0.1)).bind fun r1=>
  bif (ltI r1.1.1 0)then (some (((-(1:Int)),()),()))
  else some (r1.1,())
theorem s62 (c59:F59) (c134:F134) (y):TE [g59 c59,g134 c134] Tryz.f62 i62 o62 y=m62 c59 c134 y:=by kernel_rfl
noncomputable def r62:F62:=m62 r59 r134
theorem k62:KO (g62 r62):=fk (s62 r59 r134) ⟨k59,k134,⟨⟩⟩ (by kernel_rfl)
abbrev i11:Ts:=[.a q6, .v (.int .i64)]
abbrev o11:Ts:=[.v (.int .i64)]
abbrev F11:=FT i11 o11
abbrev g11:=mkG 11 i11 o11
noncomputable def m11 (c58:F58) (c59:F59) (c60:F60) (c61:F61) (c62:F62) (y:PTup i11):Option (PTup o11×BTup i11):=
  let a0:=y.1;let a1:=a0.2;let a2:=a1.2;let a3:=a2.2;let a4:=a3.2;let a5:=a4.2;let a6:=a5.2;let a7:=a6.2;let a8:=a7.2;let a9:=a8.2;let a10:=a9.2.2;let a11:=a10.2;let a12:=a11.2;let a13:=a12.2;let a14:=a13.2;let a15:=a14.2;let a16:=a15.2;let a17:=a16.2;let a18:=a17.2;let a19:=a18.2;let a20:=a19.2;let a21:=a20.2;let a22:=a21.2;let a23:=a22.2.2;let a24:=a23.2.2;(c58 ((a0.1,()),y.2)).bind fun r0=>
  bif (ltI r0.1.1 0)then (some (((-(1:Int)),()),()))
  else (c59 (a1.1,r0.1)).bind fun r1=>
  bif (ltI r1.1.1 0)then (some (((-(1:Int)),()),()))
  else (c60 ((a2.1,(a3.1,())),r1.1)).bind fun r2=>
  bif (ltI r2.1.1 0)then (some (((-(1:Int)),()),()))
  else (c59 (a19.1,r2.1)).bind fun r3=>
  bif (ltI r3.1.1 0)then (some (((-(1:Int)),()),()))
  else (c61 ((a20.1,(a21.1,(a22.1,(a22.2.1,(a23.1,(a23.2.1,(a24.1,(a24.2.1,(a24.2.2.1,(a24.2.2.2.1,(a24.2.2.2.2.1,()))))))))))),r3.1)).bind fun r4=>
  bif (ltI r4.1.1 0)then (some (((-(1:Int)),()),()))
  else (c62 (a24.2.2.2.2.2,r4.1)).bind fun r5=>
  bif (ltI r5.1.1 0)then (some (((-(1:Int)),()),()))
  else some (r5.1,())
theorem s11 (c58:F58) (c59:F59) (c60:F60) (c61:F61) (c62:F62) (y):TE [g58 c58,g59 c59,g60 c60,g61 c61,g62 c62] Tryz.f11 i11 o11 y=m11 c58 c59 c60 c61 c62 y:=by kernel_rfl
noncomputable def r11:F11:=m11 r58 r59 r60 r61 r62
theorem k11:KO (g11 r11):=fk (s11 r58 r59 r60 r61 r62) ⟨k58,k59,k60,k61,k62,⟨⟩⟩ (by kernel_rfl)
abbrev i3:Ts:=[.a q6, .v (.str)]
abbrev o3:Ts:=[.v (.bool)]
abbrev F3:=FT i3 o3
abbrev g3:=mkG 3 i3 o3
noncomputable def m3 (c8:F8) (c9:F9) (c11:F11) (c10:F10) (c5:F5) (c7:F7) (c6:F6) (y:PTup i3):Option (PTup o3×BTup i3):=
  bif (ltI 1048576 ((((ByteArray.size y.2.1):Nat)):Int))then (some ((true,()),()))
  else (c5 (y.1,((1048576:Int),()))).bind fun r0=>
  bif (ltI r0.1.1 0)then (some ((true,()),()))
  else (c7 (y.1,())).bind fun r1=>
  (c6 (r1.1.1,y.2)).bind fun r2=>
  (c7 (y.1,())).bind fun r3=>
  (c8 (r3.1.1,y.2)).bind fun r4=>let h0:=r4.1;let h1:=h0.1;let h2:=h1.2;let h3:=h2.2;let h4:=h3.2;let h5:=h4.2;let h6:=h5.2;let h7:=h6.2;let h8:=h7.2;let h9:=h8.2;let h10:=h9.2;let h11:=h10.2;let h12:=h11.2;let h13:=h12.2;let h14:=h13.2;let h15:=h14.2;let h16:=h15.2;let h17:=h16.2;let h18:=h17.2;let h19:=h18.2;let h20:=h19.2;let h21:=h20.2;let h22:=h21.2;let h23:=h22.2;let h24:=h23.2;let h25:=h24.2;let h26:=h25.2;let h27:=h26.2;let h28:=h27.2;let h29:=h28.2;let h30:=h29.2;let h31:=h30.2;let h32:=h31.2;let h33:=h32.2;let h34:=h33.2;let h35:=h34.2;let h36:=h35.2;let h37:=h36.2.2;(c9 (h1,(r2.1.1,()))).bind fun r5=>
  bif (!r5.1.1)then no
  else bif (!((ByteArray.toList h0.2.1)==(ByteArray.toList r2.1.2.1)))then no
  else (c7 (y.1,())).bind fun r6=>
  (c9 (r3.1.1,(r6.1.1,()))).bind fun r7=>
  bif (!r7.1.1)then no
  else (c10 (r3.1.1,((1:Int),()))).bind fun r8=>
  bif (ltI r8.1.1 0)then no
  else (c9 (h1,(r2.1.1,()))).bind fun r9=>
  bif (!r9.1.1)then no
  else bif (!((ByteArray.toList h0.2.1)==(ByteArray.toList r2.1.2.1)))then no
  else (c10 (h1,((1:Int),()))).bind fun r10=>let u0:=r10.1;let u1:=u0.2;let u2:=u1.1;let u3:=u2.2;let u4:=u3.2;let u5:=u4.2;let u6:=u5.2;let u7:=u6.2;let u8:=u7.2;let u9:=u8.2;let u10:=u9.2.2;let u11:=u10.2;let u12:=u11.2;let u13:=u12.2;let u14:=u13.2;let u15:=u14.2;let u16:=u15.2;let u17:=u16.2;let u18:=u17.2;let u19:=u18.2;let u20:=u19.2;let u21:=u20.2;let u22:=u21.2;let u23:=u22.2;let u24:=u23.2;let u25:=u24.2;let u26:=u25.2;let u27:=u26.2;let u28:=u27.2;let u29:=u28.2.2;let u30:=u29.2.2.2.2.2.2.2.2.2;(c11 ((u2.1,(u3.1,(u4.1,(h4.1,(h5.1,(h6.1,(h7.1,(h8.1,(h9.1,(h10.1,(h11.1,(h12.1,(h13.1,(h14.1,(h15.1,(h16.1,(h17.1,(h18.1,(h19.1,(h20.1,(u21.1,(h22.1,(h23.1,(h24.1,(h25.1,(h26.1,(h27.1,(u28.1,(u28.2.1,(h30.1,(u29.2.1,(u29.2.2.1,(h33.1,(h34.1,(h35.1,(h36.1,(h36.2.1,(h37.1,(h37.2.1,(h37.2.2.1,u30.2.2)))))))))))))))))))))))))))))))))))))))),((1:Int),()))).bind fun r11=>
  bif (ltI r11.1.1 0)then no
  else bif (neI r11.1.1 u0.1)then no
  else (c7 (y.1,())).bind fun r12=>
  (c8 (r12.1.1,y.2)).bind fun r13=>
  (c9 (r13.1.1,(r2.1.1,()))).bind fun r14=>
  bif (!r14.1.1)then no
  else bif (!((ByteArray.toList r13.1.2.1)==(ByteArray.toList r2.1.2.1)))then no
  else (c11 ((u2.1,(u3.1,(u4.1,(h4.1,(h5.1,(h6.1,(h7.1,(h8.1,(h9.1,(h10.1,(h11.1,(h12.1,(h13.1,(h14.1,(h15.1,(h16.1,(h17.1,(h18.1,(h19.1,(h20.1,(u21.1,(h22.1,(h23.1,(h24.1,(h25.1,(h26.1,(h27.1,(u28.1,(u28.2.1,(h30.1,(u29.2.1,(u29.2.2.1,(h33.1,(h34.1,(h35.1,(h36.1,(h36.2.1,(h37.1,(h37.2.1,(h37.2.2.1,u30.2.2)))))))))))))))))))))))))))))))))))))))),((1:Int),()))).bind fun r15=>
  bif (ltI r15.1.1 0)then no
  else bif (neI r15.1.1 u0.1)then no
  else some ((true,()),())
theorem s3 (c8:F8) (c9:F9) (c11:F11) (c10:F10) (c5:F5) (c7:F7) (c6:F6) (y):TE [g8 c8,g9 c9,g11 c11,g10 c10,g5 c5,g7 c7,g6 c6] Tryz.f3 i3 o3 y=m3 c8 c9 c11 c10 c5 c7 c6 y:=by kernel_rfl
noncomputable def r3:F3:=m3 r8 r9 r11 r10 r5 r7 r6
theorem k3:KO (g3 r3):=fk (s3 r8 r9 r11 r10 r5 r7 r6) ⟨k8,k9,k11,k10,k5,k7,k6,⟨⟩⟩ (by kernel_rfl)
end Go.Proofs.YtleidaafbhojfaaGreatDoor.Plain
