/- Plain functions that the program's functions answer as; their contracts. Printed by a program of the proofs' writer. No condition. -/
import Derived.Test.YtgpifihakjdfeaaGreatW5
import Derived.KernelRfl
import Derived.Test.YtgpifihakjdfeaaGreatFn0
set_option linter.unusedVariables false
set_option linter.unusedSimpArgs false
set_option maxRecDepth 100000
namespace Go.Proofs.YtgpifihakjdfeaaGreat.Plain
open Go Go.Tev
abbrev i84:Ts:=[.p q21]
abbrev o84:Ts:=[.v (.bool)]
abbrev R84:=Option (PTup o84×BTup i84)
abbrev F84:=PTup i84→R84
abbrev g84:=mkG 84 i84 o84
abbrev lc84_0:Ts:=[.v (.int .i64)]
abbrev lb84_0:Ts:=[.p q20]
abbrev lv84_0:Ts:=[.v (.int .i64)]
abbrev lr84_0:Ts:=[]
abbrev R84_0:=Option (Sum (PTup lv84_0) (PTup lr84_0)×BTup lb84_0)
abbrev B84_0:=PTup lb84_0→PTup lv84_0→R84_0
abbrev A84_0:=PTup lc84_0→B84_0
noncomputable def w84_0 (c151:F151) (c152:F152) (c153:F153) (c150:F150) (c149:F149) (again:B84_0) (x:PTup lc84_0) (y:PTup lb84_0) (z:PTup lv84_0):R84_0:=
  bif (ltI z.1 x.1)then ((c153 (y.1,())).bind fun r0=>let b0:=r0.2;let b1:=b0.1;let b2:=b1.2;let b3:=b2.2;let b4:=b3.2;let b5:=b4.2;let b6:=b5.2;let b7:=b6.2;let b8:=b7.2;let b9:=b8.2;let b10:=b9.2;let b11:=b10.2;let b12:=b11.2;let b13:=b12.2;let b14:=b13.2;let b15:=b14.2;let b16:=b15.2;let b17:=b16.2;let b18:=b17.2;let b19:=b18.2;let b20:=b19.2;let b21:=b20.2;let b22:=b21.2;let b23:=b22.2;let b24:=b23.2;let b25:=b24.2.2;let b26:=b25.2.2;again ((y.1.1,(y.1.2.1,(y.1.2.2.1,(b4.1,(b5.1,(b6.1,(b7.1,(b8.1,(b9.1,(b10.1,(b11.1,(b12.1,(b13.1,(b14.1,(b15.1,(b16.1,(b17.1,(b18.1,(y.1.2.2.2.2.2.2.2.2.2.2.2.2.2.2.2.2.2.2.1,(b20.1,(b21.1,(b22.1,(b23.1,(b24.1,(b24.2.1,(b25.1,(b25.2.1,(b26.1,(b26.2.1,(b26.2.2.1,(b26.2.2.2.1,(b26.2.2.2.2.1,(b26.2.2.2.2.2.1,y.1.2.2.2.2.2.2.2.2.2.2.2.2.2.2.2.2.2.2.2.2.2.2.2.2.2.2.2.2.2.2.2.2.2))))))))))))))))))))))))))))))))),()) ((wI (z.1+1)),()))
  else some ((Sum.inl z),(y.1,()))
noncomputable def e84_0 (l:A84_0):LoopE:=⟨[68],lc84_0,[0],lb84_0,[69],lv84_0,[],lr84_0,1,[],l⟩
noncomputable def m84 (c151:F151) (c152:F152) (c153:F153) (c150:F150) (c149:F149) (l0:A84_0) (y:PTup i84):R84:=
  let a0:=y.1;let a1:=a0.1;let a2:=a0.2;let a3:=a2.1;let a4:=a2.2;let a5:=a4.2;let a6:=a5.2;let a7:=a6.2;let a8:=a7.2;let a9:=a8.2;let a10:=a9.2;let a11:=a10.2;let a12:=a11.2;let a13:=a12.2;let a14:=a13.2;let a15:=a14.2;let a16:=a15.2;let a17:=a16.2;let a18:=a17.2;let a19:=a18.2;let a20:=a19.2;let a21:=a20.1;let a22:=a20.2;let a23:=a22.1;let a24:=a22.2;let a25:=a24.2;let a26:=a25.2;let a27:=a26.2;let a28:=a27.2;let a29:=a28.2;let a30:=a29.2;let a31:=a30.2;let a32:=a31.2;let a33:=a32.2;let a34:=a33.2;let a35:=a34.2;let a36:=a35.2;let a37:=a36.2;let X0:R84:=(c151 ((a1,(a3,(a4.1,(a5.1,(a6.1,(a7.1,(a8.1,(a9.1,(a10.1,(a11.1,(a12.1,(a13.1,(a14.1,(a15.1,(a16.1,(a17.1,(a18.1,(a19.1,(a21,(a23,(a24.1,(a25.1,(a26.1,(a27.1,(a28.1,(a29.1,(a30.1,(a31.1,(a32.1,(false,a34)))))))))))))))))))))))))))))),((65530:Int),()))).bind fun r2=>let f0:=r2.2;let f1:=f0.1;let f2:=f1.2;let f3:=f2.2;let f4:=f3.2;let f5:=f4.2;let f6:=f5.2;let f7:=f6.2;let f8:=f7.2;let f9:=f8.2;let f10:=f9.2;let f11:=f10.2;let f12:=f11.2;let f13:=f12.2;let f14:=f13.2;let f15:=f14.2;let f16:=f15.2;let f17:=f16.2;let f18:=f17.2;let f19:=f18.2;let f20:=f19.2;let f21:=f20.2;let f22:=f21.2;let f23:=f22.2.2;let f24:=f23.2.2;(l0 ((7:Int),()) ((a1,(a3,(f3.1,(f4.1,(f5.1,(f6.1,(f7.1,(f8.1,(f9.1,(f10.1,(f11.1,(f12.1,(f13.1,(f14.1,(f15.1,(f16.1,(f17.1,(f18.1,(a21,(a23,(f21.1,(f22.1,(f22.2.1,(f23.1,(f23.2.1,(f24.1,(f24.2.1,(f24.2.2.1,(f24.2.2.2.1,(f24.2.2.2.2.1,(f24.2.2.2.2.2.1,a35))))))))))))))))))))))))))))))),()) ((0:Int),())).bind fun r3=>let g0:=r3.2;let g1:=g0.1;let g2:=g1.2;let g3:=g2.2;let g4:=g3.2;let g5:=g4.2;let g6:=g5.2;let g7:=g6.2;let g8:=g7.2;let g9:=g8.2;let g10:=g9.2;let g11:=g10.2;let g12:=g11.2;let g13:=g12.2;let g14:=g13.2;let g15:=g14.2;let g16:=g15.2;let g17:=g16.2;let g18:=g17.2;let g19:=g18.2;let g20:=g19.2;let g21:=g20.2;let g22:=g21.2;let g23:=g22.2;let g24:=g23.2;let g25:=g24.2;let g26:=g25.2;let g27:=g26.2;let g28:=g27.2;let g29:=g28.2;let g30:=g29.2.2;sumElim r3.1 (fun r4=>some ((true,()),((a1,(a3,(f3.1,(g4.1,(g5.1,(g6.1,(g7.1,(g8.1,(g9.1,(g10.1,(g11.1,(g12.1,(g13.1,(g14.1,(g15.1,(g16.1,(g17.1,(g18.1,(a21,(g20.1,(g21.1,(g22.1,(g23.1,(g24.1,(g25.1,(g26.1,(g27.1,(g28.1,(g29.1,(g29.2.1,((wI (g30.1+1)),(g30.2.1,(g30.2.2.1,a37))))))))))))))))))))))))))))))))),()))) (fun r4=>some ((false,()),((a1,(a3,(f3.1,(g4.1,(g5.1,(g6.1,(g7.1,(g8.1,(g9.1,(g10.1,(g11.1,(g12.1,(g13.1,(g14.1,(g15.1,(g16.1,(g17.1,(g18.1,(a21,(g20.1,(g21.1,(g22.1,(g23.1,(g24.1,(g25.1,(g26.1,(g27.1,(g28.1,(g29.1,(g29.2.1,(g30.1,(g30.2.1,(g30.2.2.1,a37))))))))))))))))))))))))))))))))),())));let X1:R84:=(c151 (a0,((65534:Int),()))).bind fun r2=>let f0:=r2.2;let f1:=f0.1;let f2:=f1.2;let f3:=f2.2;let f4:=f3.2;let f5:=f4.2;let f6:=f5.2;let f7:=f6.2;let f8:=f7.2;let f9:=f8.2;let f10:=f9.2;let f11:=f10.2;let f12:=f11.2;let f13:=f12.2;let f14:=f13.2;let f15:=f14.2;let f16:=f15.2;let f17:=f16.2;let f18:=f17.2;let f19:=f18.2;let f20:=f19.2;let f21:=f20.2;let f22:=f21.2;let f23:=f22.2.2;let f24:=f23.2.2;(l0 ((7:Int),()) ((a1,(a3,(f3.1,(f4.1,(f5.1,(f6.1,(f7.1,(f8.1,(f9.1,(f10.1,(f11.1,(f12.1,(f13.1,(f14.1,(f15.1,(f16.1,(f17.1,(f18.1,(a21,(a23,(f21.1,(f22.1,(f22.2.1,(f23.1,(f23.2.1,(f24.1,(f24.2.1,(f24.2.2.1,(f24.2.2.2.1,(f24.2.2.2.2.1,(f24.2.2.2.2.2.1,a35))))))))))))))))))))))))))))))),()) ((0:Int),())).bind fun r3=>let g0:=r3.2;let g1:=g0.1;let g2:=g1.2;let g3:=g2.2;let g4:=g3.2;let g5:=g4.2;let g6:=g5.2;let g7:=g6.2;let g8:=g7.2;let g9:=g8.2;let g10:=g9.2;let g11:=g10.2;let g12:=g11.2;let g13:=g12.2;let g14:=g13.2;let g15:=g14.2;let g16:=g15.2;let g17:=g16.2;let g18:=g17.2;let g19:=g18.2;let g20:=g19.2;let g21:=g20.2;let g22:=g21.2;let g23:=g22.2;let g24:=g23.2;let g25:=g24.2;let g26:=g25.2;let g27:=g26.2;let g28:=g27.2;let g29:=g28.2;let g30:=g29.2.2;sumElim r3.1 (fun r4=>some ((true,()),((a1,(a3,(f3.1,(g4.1,(g5.1,(g6.1,(g7.1,(g8.1,(g9.1,(g10.1,(g11.1,(g12.1,(g13.1,(g14.1,(g15.1,(g16.1,(g17.1,(g18.1,(a21,(g20.1,(g21.1,(g22.1,(g23.1,(g24.1,(g25.1,(g26.1,(g27.1,(g28.1,(g29.1,(g29.2.1,((wI (g30.1+1)),(g30.2.1,(g30.2.2.1,a37))))))))))))))))))))))))))))))))),()))) (fun r4=>some ((false,()),((a1,(a3,(f3.1,(g4.1,(g5.1,(g6.1,(g7.1,(g8.1,(g9.1,(g10.1,(g11.1,(g12.1,(g13.1,(g14.1,(g15.1,(g16.1,(g17.1,(g18.1,(a21,(g20.1,(g21.1,(g22.1,(g23.1,(g24.1,(g25.1,(g26.1,(g27.1,(g28.1,(g29.1,(g29.2.1,(g30.1,(g30.2.1,(g30.2.2.1,a37))))))))))))))))))))))))))))))))),())));bif a33.1 then ((c149 ((a1,()),((a4.1,(a5.1,())),(a9.1,())))).bind fun r0=>(c150 (r0.1.1.1,())).bind fun r1=>bif (ltI 20000 (wI (a14.1+7)))then (some ((false,()),(a0,())))else bif a33.1 then X0 else X1)else bif a30.1 then ((c149 ((a1,()),((a4.1,(a5.1,())),(a9.1,())))).bind fun r0=>(c150 (r0.1.1.1,())).bind fun r1=>bif (!a13.1)then (bif (ltI 20000 (wI (a14.1+7)))then (some ((false,()),(a0,())))else bif a33.1 then X0 else bif (!a13.1)then X1 else (c152 (a0,(r0.1.1,()))).bind fun r2=>let f0:=r2.2;let f1:=f0.1;let f2:=f1.2;let f3:=f2.2;let f4:=f3.2;let f5:=f4.2;let f6:=f5.2;let f7:=f6.2;let f8:=f7.2;let f9:=f8.2;let f10:=f9.2;let f11:=f10.2;let f12:=f11.2;let f13:=f12.2;let f14:=f13.2;let f15:=f14.2;let f16:=f15.2;let f17:=f16.2;let f18:=f17.2;let f19:=f18.2;let f20:=f19.2;let f21:=f20.2;let f22:=f21.2;let f23:=f22.2;let f24:=f23.2;let f25:=f24.2;let f26:=f25.2.2;let f27:=f26.2.2;let f28:=f27.2.2.2.2.2;(l0 ((7:Int),()) ((a1,(a3,(f3.1,(f4.1,(f5.1,(f6.1,(f7.1,(f8.1,(f9.1,(f10.1,(f11.1,(f12.1,(f13.1,(f14.1,(f15.1,(f16.1,(f17.1,(f18.1,(f19.1,(a23,(f21.1,(f22.1,(f23.1,(f24.1,(f25.1,(f25.2.1,(f26.1,(f26.2.1,(f27.1,(f27.2.1,(f27.2.2.1,(a35.1,(a36.1,f28))))))))))))))))))))))))))))))))),()) ((0:Int),())).bind fun r3=>let g0:=r3.2;let g1:=g0.1;let g2:=g1.2;let g3:=g2.2;let g4:=g3.2;let g5:=g4.2;let g6:=g5.2;let g7:=g6.2;let g8:=g7.2;let g9:=g8.2;let g10:=g9.2;let g11:=g10.2;let g12:=g11.2;let g13:=g12.2;let g14:=g13.2;let g15:=g14.2;let g16:=g15.2;let g17:=g16.2;let g18:=g17.2;let g19:=g18.2;let g20:=g19.2;let g21:=g20.2;let g22:=g21.2;let g23:=g22.2;let g24:=g23.2;let g25:=g24.2;let g26:=g25.2;let g27:=g26.2;let g28:=g27.2;let g29:=g28.2;let g30:=g29.2.2;sumElim r3.1 (fun r4=>some ((true,()),((a1,(a3,(f3.1,(g4.1,(g5.1,(g6.1,(g7.1,(g8.1,(g9.1,(g10.1,(g11.1,(g12.1,(g13.1,(g14.1,(g15.1,(g16.1,(g17.1,(g18.1,(f19.1,(g20.1,(g21.1,(g22.1,(g23.1,(g24.1,(g25.1,(g26.1,(g27.1,(g28.1,(g29.1,(g29.2.1,((wI (g30.1+1)),(g30.2.1,(g30.2.2.1,f28))))))))))))))))))))))))))))))))),()))) (fun r4=>some ((false,()),((a1,(a3,(f3.1,(g4.1,(g5.1,(g6.1,(g7.1,(g8.1,(g9.1,(g10.1,(g11.1,(g12.1,(g13.1,(g14.1,(g15.1,(g16.1,(g17.1,(g18.1,(f19.1,(g20.1,(g21.1,(g22.1,(g23.1,(g24.1,(g25.1,(g26.1,(g27.1,(g28.1,(g29.1,(g29.2.1,(g30.1,(g30.2.1,(g30.2.2.1,f28))))))))))))))))))))))))))))))))),()))))else bif (ltI 20000 (wI (a14.1+r1.1.1)))then (some ((false,()),(a0,())))else bif a33.1 then ((c151 ((a1,(a3,(a4.1,(a5.1,(a6.1,(a7.1,(a8.1,(a9.1,(a10.1,(a11.1,(a12.1,(a13.1,(a14.1,(a15.1,(a16.1,(a17.1,(a18.1,(a19.1,(a21,(a23,(a24.1,(a25.1,(a26.1,(a27.1,(a28.1,(a29.1,(a30.1,(a31.1,(a32.1,(false,a34)))))))))))))))))))))))))))))),((65530:Int),()))).bind fun r2=>let f0:=r2.2;let f1:=f0.1;let f2:=f1.2;let f3:=f2.2;let f4:=f3.2;let f5:=f4.2;let f6:=f5.2;let f7:=f6.2;let f8:=f7.2;let f9:=f8.2;let f10:=f9.2;let f11:=f10.2;let f12:=f11.2;let f13:=f12.2;let f14:=f13.2;let f15:=f14.2;let f16:=f15.2;let f17:=f16.2;let f18:=f17.2;let f19:=f18.2;let f20:=f19.2;let f21:=f20.2;let f22:=f21.2;let f23:=f22.2.2;let f24:=f23.2.2;(l0 r1.1 ((a1,(a3,(f3.1,(f4.1,(f5.1,(f6.1,(f7.1,(f8.1,(f9.1,(f10.1,(f11.1,(f12.1,(f13.1,(f14.1,(f15.1,(f16.1,(f17.1,(f18.1,(a21,(a23,(f21.1,(f22.1,(f22.2.1,(f23.1,(f23.2.1,(f24.1,(f24.2.1,(f24.2.2.1,(f24.2.2.2.1,(f24.2.2.2.2.1,(f24.2.2.2.2.2.1,a35))))))))))))))))))))))))))))))),()) ((0:Int),())).bind fun r3=>let g0:=r3.2;let g1:=g0.1;let g2:=g1.2;let g3:=g2.2;let g4:=g3.2;let g5:=g4.2;let g6:=g5.2;let g7:=g6.2;let g8:=g7.2;let g9:=g8.2;let g10:=g9.2;let g11:=g10.2;let g12:=g11.2;let g13:=g12.2;let g14:=g13.2;let g15:=g14.2;let g16:=g15.2;let g17:=g16.2;let g18:=g17.2;let g19:=g18.2;let g20:=g19.2;let g21:=g20.2;let g22:=g21.2;let g23:=g22.2;let g24:=g23.2;let g25:=g24.2;let g26:=g25.2;let g27:=g26.2;let g28:=g27.2;let g29:=g28.2;let g30:=g29.2.2;sumElim r3.1 (fun r4=>some ((true,()),((a1,(a3,(f3.1,(g4.1,(g5.1,(g6.1,(g7.1,(g8.1,(g9.1,(g10.1,(g11.1,(g12.1,(g13.1,(g14.1,(g15.1,(g16.1,(g17.1,(g18.1,(a21,(g20.1,(g21.1,(g22.1,(g23.1,(g24.1,(g25.1,(g26.1,(g27.1,(g28.1,(g29.1,(g29.2.1,((wI (g30.1+1)),(g30.2.1,(g30.2.2.1,a37))))))))))))))))))))))))))))))))),()))) (fun r4=>some ((false,()),((a1,(a3,(f3.1,(g4.1,(g5.1,(g6.1,(g7.1,(g8.1,(g9.1,(g10.1,(g11.1,(g12.1,(g13.1,(g14.1,(g15.1,(g16.1,(g17.1,(g18.1,(a21,(g20.1,(g21.1,(g22.1,(g23.1,(g24.1,(g25.1,(g26.1,(g27.1,(g28.1,(g29.1,(g29.2.1,(g30.1,(g30.2.1,(g30.2.2.1,a37))))))))))))))))))))))))))))))))),()))))else bif (!a13.1)then ((c151 (a0,((65534:Int),()))).bind fun r2=>let f0:=r2.2;let f1:=f0.1;let f2:=f1.2;let f3:=f2.2;let f4:=f3.2;let f5:=f4.2;let f6:=f5.2;let f7:=f6.2;let f8:=f7.2;let f9:=f8.2;let f10:=f9.2;let f11:=f10.2;let f12:=f11.2;let f13:=f12.2;let f14:=f13.2;let f15:=f14.2;let f16:=f15.2;let f17:=f16.2;let f18:=f17.2;let f19:=f18.2;let f20:=f19.2;let f21:=f20.2;let f22:=f21.2;let f23:=f22.2.2;let f24:=f23.2.2;(l0 r1.1 ((a1,(a3,(f3.1,(f4.1,(f5.1,(f6.1,(f7.1,(f8.1,(f9.1,(f10.1,(f11.1,(f12.1,(f13.1,(f14.1,(f15.1,(f16.1,(f17.1,(f18.1,(a21,(a23,(f21.1,(f22.1,(f22.2.1,(f23.1,(f23.2.1,(f24.1,(f24.2.1,(f24.2.2.1,(f24.2.2.2.1,(f24.2.2.2.2.1,(f24.2.2.2.2.2.1,a35))))))))))))))))))))))))))))))),()) ((0:Int),())).bind fun r3=>let g0:=r3.2;let g1:=g0.1;let g2:=g1.2;let g3:=g2.2;let g4:=g3.2;let g5:=g4.2;let g6:=g5.2;let g7:=g6.2;let g8:=g7.2;let g9:=g8.2;let g10:=g9.2;let g11:=g10.2;let g12:=g11.2;let g13:=g12.2;let g14:=g13.2;let g15:=g14.2;let g16:=g15.2;let g17:=g16.2;let g18:=g17.2;let g19:=g18.2;let g20:=g19.2;let g21:=g20.2;let g22:=g21.2;let g23:=g22.2;let g24:=g23.2;let g25:=g24.2;let g26:=g25.2;let g27:=g26.2;let g28:=g27.2;let g29:=g28.2;let g30:=g29.2.2;sumElim r3.1 (fun r4=>some ((true,()),((a1,(a3,(f3.1,(g4.1,(g5.1,(g6.1,(g7.1,(g8.1,(g9.1,(g10.1,(g11.1,(g12.1,(g13.1,(g14.1,(g15.1,(g16.1,(g17.1,(g18.1,(a21,(g20.1,(g21.1,(g22.1,(g23.1,(g24.1,(g25.1,(g26.1,(g27.1,(g28.1,(g29.1,(g29.2.1,((wI (g30.1+1)),(g30.2.1,(g30.2.2.1,a37))))))))))))))))))))))))))))))))),()))) (fun r4=>some ((false,()),((a1,(a3,(f3.1,(g4.1,(g5.1,(g6.1,(g7.1,(g8.1,(g9.1,(g10.1,(g11.1,(g12.1,(g13.1,(g14.1,(g15.1,(g16.1,(g17.1,(g18.1,(a21,(g20.1,(g21.1,(g22.1,(g23.1,(g24.1,(g25.1,(g26.1,(g27.1,(g28.1,(g29.1,(g29.2.1,(g30.1,(g30.2.1,(g30.2.2.1,a37))))))))))))))))))))))))))))))))),()))))else (c152 (a0,(r0.1.1,()))).bind fun r2=>let f0:=r2.2;let f1:=f0.1;let f2:=f1.2;let f3:=f2.2;let f4:=f3.2;let f5:=f4.2;let f6:=f5.2;let f7:=f6.2;let f8:=f7.2;let f9:=f8.2;let f10:=f9.2;let f11:=f10.2;let f12:=f11.2;let f13:=f12.2;let f14:=f13.2;let f15:=f14.2;let f16:=f15.2;let f17:=f16.2;let f18:=f17.2;let f19:=f18.2;let f20:=f19.2;let f21:=f20.2;let f22:=f21.2;let f23:=f22.2;let f24:=f23.2;let f25:=f24.2;let f26:=f25.2.2;let f27:=f26.2.2;let f28:=f27.2.2.2.2.2;(l0 r1.1 ((a1,(a3,(f3.1,(f4.1,(f5.1,(f6.1,(f7.1,(f8.1,(f9.1,(f10.1,(f11.1,(f12.1,(f13.1,(f14.1,(f15.1,(f16.1,(f17.1,(f18.1,(f19.1,(a23,(f21.1,(f22.1,(f23.1,(f24.1,(f25.1,(f25.2.1,(f26.1,(f26.2.1,(f27.1,(f27.2.1,(f27.2.2.1,(a35.1,(a36.1,f28))))))))))))))))))))))))))))))))),()) ((0:Int),())).bind fun r3=>let g0:=r3.2;let g1:=g0.1;let g2:=g1.2;let g3:=g2.2;let g4:=g3.2;let g5:=g4.2;let g6:=g5.2;let g7:=g6.2;let g8:=g7.2;let g9:=g8.2;let g10:=g9.2;let g11:=g10.2;let g12:=g11.2;let g13:=g12.2;let g14:=g13.2;let g15:=g14.2;let g16:=g15.2;let g17:=g16.2;let g18:=g17.2;let g19:=g18.2;let g20:=g19.2;let g21:=g20.2;let g22:=g21.2;let g23:=g22.2;let g24:=g23.2;let g25:=g24.2;let g26:=g25.2;let g27:=g26.2;let g28:=g27.2;let g29:=g28.2;let g30:=g29.2.2;sumElim r3.1 (fun r4=>some ((true,()),((a1,(a3,(f3.1,(g4.1,(g5.1,(g6.1,(g7.1,(g8.1,(g9.1,(g10.1,(g11.1,(g12.1,(g13.1,(g14.1,(g15.1,(g16.1,(g17.1,(g18.1,(f19.1,(g20.1,(g21.1,(g22.1,(g23.1,(g24.1,(g25.1,(g26.1,(g27.1,(g28.1,(g29.1,(g29.2.1,((wI (g30.1+1)),(g30.2.1,(g30.2.2.1,f28))))))))))))))))))))))))))))))))),()))) (fun r4=>some ((false,()),((a1,(a3,(f3.1,(g4.1,(g5.1,(g6.1,(g7.1,(g8.1,(g9.1,(g10.1,(g11.1,(g12.1,(g13.1,(g14.1,(g15.1,(g16.1,(g17.1,(g18.1,(f19.1,(g20.1,(g21.1,(g22.1,(g23.1,(g24.1,(g25.1,(g26.1,(g27.1,(g28.1,(g29.1,(g29.2.1,(g30.1,(g30.2.1,(g30.2.2.1,f28))))))))))))))))))))))))))))))))),()))))else (c149 ((a1,()),((a4.1,(a5.1,())),(a9.1,())))).bind fun r0=>(c150 (r0.1.1.1,())).bind fun r1=>bif (ltI 20000 (wI (a14.1+r1.1.1)))then (some ((false,()),(a0,())))else bif a33.1 then ((c151 ((a1,(a3,(a4.1,(a5.1,(a6.1,(a7.1,(a8.1,(a9.1,(a10.1,(a11.1,(a12.1,(a13.1,(a14.1,(a15.1,(a16.1,(a17.1,(a18.1,(a19.1,(a21,(a23,(a24.1,(a25.1,(a26.1,(a27.1,(a28.1,(a29.1,(a30.1,(a31.1,(a32.1,(false,a34)))))))))))))))))))))))))))))),((65530:Int),()))).bind fun r2=>let f0:=r2.2;let f1:=f0.1;let f2:=f1.2;let f3:=f2.2;let f4:=f3.2;let f5:=f4.2;let f6:=f5.2;let f7:=f6.2;let f8:=f7.2;let f9:=f8.2;let f10:=f9.2;let f11:=f10.2;let f12:=f11.2;let f13:=f12.2;let f14:=f13.2;let f15:=f14.2;let f16:=f15.2;let f17:=f16.2;let f18:=f17.2;let f19:=f18.2;let f20:=f19.2;let f21:=f20.2;let f22:=f21.2;let f23:=f22.2.2;let f24:=f23.2.2;(l0 r1.1 ((a1,(a3,(f3.1,(f4.1,(f5.1,(f6.1,(f7.1,(f8.1,(f9.1,(f10.1,(f11.1,(f12.1,(f13.1,(f14.1,(f15.1,(f16.1,(f17.1,(f18.1,(a21,(a23,(f21.1,(f22.1,(f22.2.1,(f23.1,(f23.2.1,(f24.1,(f24.2.1,(f24.2.2.1,(f24.2.2.2.1,(f24.2.2.2.2.1,(f24.2.2.2.2.2.1,a35))))))))))))))))))))))))))))))),()) ((0:Int),())).bind fun r3=>let g0:=r3.2;let g1:=g0.1;let g2:=g1.2;let g3:=g2.2;let g4:=g3.2;let g5:=g4.2;let g6:=g5.2;let g7:=g6.2;let g8:=g7.2;let g9:=g8.2;let g10:=g9.2;let g11:=g10.2;let g12:=g11.2;let g13:=g12.2;let g14:=g13.2;let g15:=g14.2;let g16:=g15.2;let g17:=g16.2;let g18:=g17.2;let g19:=g18.2;let g20:=g19.2;let g21:=g20.2;let g22:=g21.2;let g23:=g22.2;let g24:=g23.2;let g25:=g24.2;let g26:=g25.2;let g27:=g26.2;let g28:=g27.2;let g29:=g28.2;let g30:=g29.2.2;sumElim r3.1 (fun r4=>some ((true,()),((a1,(a3,(f3.1,(g4.1,(g5.1,(g6.1,(g7.1,(g8.1,(g9.1,(g10.1,(g11.1,(g12.1,(g13.1,(g14.1,(g15.1,(g16.1,(g17.1,(g18.1,(a21,(g20.1,(g21.1,(g22.1,(g23.1,(g24.1,(g25.1,(g26.1,(g27.1,(g28.1,(g29.1,(g29.2.1,((wI (g30.1+1)),(g30.2.1,(g30.2.2.1,a37))))))))))))))))))))))))))))))))),()))) (fun r4=>some ((false,()),((a1,(a3,(f3.1,(g4.1,(g5.1,(g6.1,(g7.1,(g8.1,(g9.1,(g10.1,(g11.1,(g12.1,(g13.1,(g14.1,(g15.1,(g16.1,(g17.1,(g18.1,(a21,(g20.1,(g21.1,(g22.1,(g23.1,(g24.1,(g25.1,(g26.1,(g27.1,(g28.1,(g29.1,(g29.2.1,(g30.1,(g30.2.1,(g30.2.2.1,a37))))))))))))))))))))))))))))))))),()))))else (c152 (a0,(r0.1.1,()))).bind fun r2=>let f0:=r2.2;let f1:=f0.1;let f2:=f1.2;let f3:=f2.2;let f4:=f3.2;let f5:=f4.2;let f6:=f5.2;let f7:=f6.2;let f8:=f7.2;let f9:=f8.2;let f10:=f9.2;let f11:=f10.2;let f12:=f11.2;let f13:=f12.2;let f14:=f13.2;let f15:=f14.2;let f16:=f15.2;let f17:=f16.2;let f18:=f17.2;let f19:=f18.2;let f20:=f19.2;let f21:=f20.2;let f22:=f21.2;let f23:=f22.2;let f24:=f23.2;let f25:=f24.2;let f26:=f25.2.2;let f27:=f26.2.2;let f28:=f27.2.2.2.2.2;(l0 r1.1 ((a1,(a3,(f3.1,(f4.1,(f5.1,(f6.1,(f7.1,(f8.1,(f9.1,(f10.1,(f11.1,(f12.1,(f13.1,(f14.1,(f15.1,(f16.1,(f17.1,(f18.1,(f19.1,(a23,(f21.1,(f22.1,(f23.1,(f24.1,(f25.1,(f25.2.1,(f26.1,(f26.2.1,(f27.1,(f27.2.1,(f27.2.2.1,(a35.1,(a36.1,f28))))))))))))))))))))))))))))))))),()) ((0:Int),())).bind fun r3=>let g0:=r3.2;let g1:=g0.1;let g2:=g1.2;let g3:=g2.2;let g4:=g3.2;let g5:=g4.2;let g6:=g5.2;let g7:=g6.2;let g8:=g7.2;let g9:=g8.2;let g10:=g9.2;let g11:=g10.2;let g12:=g11.2;let g13:=g12.2;let g14:=g13.2;let g15:=g14.2;let g16:=g15.2;let g17:=g16.2;let g18:=g17.2;let g19:=g18.2;let g20:=g19.2;let g21:=g20.2;let g22:=g21.2;let g23:=g22.2;let g24:=g23.2;let g25:=g24.2;let g26:=g25.2;let g27:=g26.2;let g28:=g27.2;let g29:=g28.2;let g30:=g29.2.2;sumElim r3.1 (fun r4=>some ((true,()),((a1,(a3,(f3.1,(g4.1,(g5.1,(g6.1,(g7.1,(g8.1,(g9.1,(g10.1,(g11.1,(g12.1,(g13.1,(g14.1,(g15.1,(g16.1,(g17.1,(g18.1,(f19.1,(g20.1,(g21.1,(g22.1,(g23.1,(g24.1,(g25.1,(g26.1,(g27.1,(g28.1,(g29.1,(g29.2.1,((wI (g30.1+1)),(g30.2.1,(g30.2.2.1,f28))))))))))))))))))))))))))))))))),()))) (fun r4=>some ((false,()),((a1,(a3,(f3.1,(g4.1,(g5.1,(g6.1,(g7.1,(g8.1,(g9.1,(g10.1,(g11.1,(g12.1,(g13.1,(g14.1,(g15.1,(g16.1,(g17.1,(g18.1,(f19.1,(g20.1,(g21.1,(g22.1,(g23.1,(g24.1,(g25.1,(g26.1,(g27.1,(g28.1,(g29.1,(g29.2.1,(g30.1,(g30.2.1,(g30.2.2.1,f28))))))))))))))))))))))))))))))))),())))
noncomputable def E84 (c151:F151) (c152:F152) (c153:F153) (c150:F150) (c149:F149) (l0:A84_0):CEnv:=⟨⟨Tryz.prog,fnsL [g151 c151,g152 c152,g153 c153,g150 c150,g149 c149]⟩,loopsL [(15,e84_0 l0)]⟩
theorem t84_0 (c151:F151) (c152:F152) (c153:F153) (c150:F150) (c149:F149) (l0:A84_0) (again) (x y z):loopRound (E84 c151 c152 c153 c150 c149 l0) (loopAt (bodyOf Tryz.f84) 0) (e84_0 l0) Tryz.f84.ntmps again x y z=w84_0 c151 c152 c153 c150 c149 again x y z:=by kernel_rfl
noncomputable def n84_0 (c151:F151) (c152:F152) (c153:F153) (c150:F150) (c149:F149):Nat→A84_0
  |0,_,_,_=>none
  |n+1,x,y,z=>w84_0 c151 c152 c153 c150 c149 (fun y z=>n84_0 c151 c152 c153 c150 c149 n x y z) x y z
theorem s84 (c151:F151) (c152:F152) (c153:F153) (c150:F150) (c149:F149) (l0:A84_0) (y):tevF (E84 c151 c152 c153 c150 c149 l0) Tryz.f84 i84 o84 y=m84 c151 c152 c153 c150 c149 l0 y:=by kernel_rfl
noncomputable def L84_0:A84_0:=n84_0 r151 r152 r153 r150 r149 fuel
noncomputable def r84:F84:=m84 r151 r152 r153 r150 r149 L84_0
theorem k84:KO (g84 r84):=by
  have hE: ∀g f,(E84 r151 r152 r153 r150 r149 L84_0).env.fns g=some f→CallOk Tryz.prog g f:=fnsL_ok ⟨k151,k152,k153,k150,k149,⟨⟩⟩
  have h0:LoopOk Tryz.prog Tryz.f84.ntmps (loopAt (bodyOf Tryz.f84) 0) (e84_0 L84_0):=lp_ok (E:=E84 r151 r152 r153 r150 r149 L84_0) rfl hE mixed (AllLoops.of_list (l:=[]) (by kernel_rfl) trivial) (n84_0 r151 r152 r153 r150 r149) (fun _ _ _=>rfl) (fun n x y z=>t84_0 r151 r152 r153 r150 r149 L84_0 _ x y z) rfl
  exact fn_ok (E:=E84 r151 r152 r153 r150 r149 L84_0) rfl hE mixed (by kernel_rfl) (by kernel_rfl) (AllLoops.of_list (l:=[(loopAt (bodyOf Tryz.f84) 0)]) (by kernel_rfl) (.one (by kernel_rfl) h0 trivial)) (s84 r151 r152 r153 r150 r149 L84_0)
abbrev i25:Ts:=[.a q18, .v (.int .i64)]
abbrev o25:Ts:=[.a q19, .v (.int .i64)]
abbrev R25:=Option (PTup o25×BTup i25)
abbrev F25:=PTup i25→R25
abbrev g25:=mkG 25 i25 o25
abbrev lc25_0:Ts:=[.v (.int .i64)]
abbrev lb25_0:Ts:=[.p q21]
abbrev lv25_0:Ts:=[.v (.int .i64)]
abbrev lr25_0:Ts:=[]
abbrev R25_0:=Option (Sum (PTup lv25_0) (PTup lr25_0)×BTup lb25_0)
abbrev B25_0:=PTup lb25_0→PTup lv25_0→R25_0
abbrev A25_0:=PTup lc25_0→B25_0
noncomputable def w25_0 (c84:F84) (c49:F49) (c83:F83) (again:B25_0) (x:PTup lc25_0) (y:PTup lb25_0) (z:PTup lv25_0):R25_0:=
  bif (ltI z.1 (mnI x.1 (3000:Int)))then ((c84 (y.1,())).bind fun r0=>
   bif (!r0.1.1)then (some ((Sum.inl z),((y.1.1,(y.1.2.1,r0.2.1.2.2)),())))
   else again ((y.1.1,(y.1.2.1,r0.2.1.2.2)),()) ((wI (z.1+1)),()))
  else some ((Sum.inl z),(y.1,()))
noncomputable def e25_0 (l:A25_0):LoopE:=⟨[1],lc25_0,[6],lb25_0,[7],lv25_0,[],lr25_0,0,[],l⟩
noncomputable def m25 (c84:F84) (c49:F49) (c83:F83) (l0:A25_0) (y:PTup i25):R25:=
  let X0:R25:=some ((([],([],([],((0:Int),((0:Int),((0:Int),((0:Int),((0:Int),(false,(false,(false,(false,((0:Int),((0:Int),((0:Int),((0:Int),((0:Int),(false,([],([],((0:Int),((0:Int),((0:Int),((0:Int),((0:Int),(false,(false,(false,((0:Int),(false,((0:Int),([],([],([],())))))))))))))))))))))))))))))))))),((0:Int),())),());(c49 (y.1,())).bind fun r0=>bif (!r0.1.1)then X0 else (c83 (y.1,())).bind fun r1=>(l0 y.2 (r1.1.1,()) ((0:Int),())).bind fun r2=>sumElim r2.1 (fun r3=>some (((r1.1.1.1,(r1.1.1.2.1,r2.2.1.2.2)),r3),())) (fun r3=>X0)
noncomputable def E25 (c84:F84) (c49:F49) (c83:F83) (l0:A25_0):CEnv:=⟨⟨Tryz.prog,fnsL [g84 c84,g49 c49,g83 c83]⟩,loopsL [(5,e25_0 l0)]⟩
theorem t25_0 (c84:F84) (c49:F49) (c83:F83) (l0:A25_0) (again) (x y z):loopRound (E25 c84 c49 c83 l0) (loopAt (bodyOf Tryz.f25) 0) (e25_0 l0) Tryz.f25.ntmps again x y z=w25_0 c84 c49 c83 again x y z:=by kernel_rfl
noncomputable def n25_0 (c84:F84) (c49:F49) (c83:F83):Nat→A25_0
  |0,_,_,_=>none
  |n+1,x,y,z=>w25_0 c84 c49 c83 (fun y z=>n25_0 c84 c49 c83 n x y z) x y z
theorem s25 (c84:F84) (c49:F49) (c83:F83) (l0:A25_0) (y):tevF (E25 c84 c49 c83 l0) Tryz.f25 i25 o25 y=m25 c84 c49 c83 l0 y:=by kernel_rfl
noncomputable def L25_0:A25_0:=n25_0 r84 r49 r83 fuel
noncomputable def r25:F25:=m25 r84 r49 r83 L25_0
theorem k25:KO (g25 r25):=by
  have hE: ∀g f,(E25 r84 r49 r83 L25_0).env.fns g=some f→CallOk Tryz.prog g f:=fnsL_ok ⟨k84,k49,k83,⟨⟩⟩
  have h0:LoopOk Tryz.prog Tryz.f25.ntmps (loopAt (bodyOf Tryz.f25) 0) (e25_0 L25_0):=lp_ok (E:=E25 r84 r49 r83 L25_0) rfl hE mixed (AllLoops.of_list (l:=[]) (by kernel_rfl) trivial) (n25_0 r84 r49 r83) (fun _ _ _=>rfl) (fun n x y z=>t25_0 r84 r49 r83 L25_0 _ x y z) rfl
  exact fn_ok (E:=E25 r84 r49 r83 L25_0) rfl hE mixed (by kernel_rfl) (by kernel_rfl) (AllLoops.of_list (l:=[(loopAt (bodyOf Tryz.f25) 0)]) (by kernel_rfl) (.one (by kernel_rfl) h0 trivial)) (s25 r84 r49 r83 L25_0)
abbrev i17:Ts:=[.a q12]
abbrev o17:Ts:=[.a q19]
abbrev F17:=FT i17 o17
abbrev g17:=mkG 17 i17 o17
noncomputable def m17 (c24:F24) (c25:F25) (c73:F73) (y:PTup i17):Option (PTup o17×BTup i17):=
  (c73 (y.1,())).bind fun r0=>
  bif (!r0.1.1)then (some ((([],([],([],((0:Int),((0:Int),((0:Int),((0:Int),((0:Int),(false,(false,(false,(false,((0:Int),((0:Int),((0:Int),((0:Int),((0:Int),(false,([],([],((0:Int),((0:Int),((0:Int),((0:Int),((0:Int),(false,(false,(false,((0:Int),(false,((0:Int),([],([],([],())))))))))))))))))))))))))))))))))),()),()))
  else (c24 ((y.1.1,()),(y.1.2.1,()))).bind fun r1=>
  (c25 (r1.1.1,(y.1.2.2.2.2.2.2.2.2.2.2.2.2.2.2.2.2.2.2.2.1,()))).bind fun r2=>
  some ((r2.1.1,()),())
theorem s17 (c24:F24) (c25:F25) (c73:F73) (y):TE [g24 c24,g25 c25,g73 c73] Tryz.f17 i17 o17 y=m17 c24 c25 c73 y:=by kernel_rfl
noncomputable def r17:F17:=m17 r24 r25 r73
theorem k17:KO (g17 r17):=fk (s17 r24 r25 r73) ⟨k24,k25,k73,⟨⟩⟩ (by kernel_rfl)
abbrev i20:Ts:=[.a q12]
abbrev o20:Ts:=[.a [.sl true .n, .sl true .i, .sl true .i]]
abbrev F20:=FT i20 o20
abbrev g20:=mkG 20 i20 o20
noncomputable def m20 (c74:F74) (c75:F75) (y:PTup i20):Option (PTup o20×BTup i20):=
  (c74 (y.1.2.2.2.2.2.2.2.2.2.2.2.2.2.2.2.2.2.2.2.2.2.2.2.2.2.2.2.2.2.2.2.1,())).bind fun r0=>
  (c75 y.1.2.2.2.2.2.2.2.2.2.2.2.2.2.2.2.2.2.2.2.2.2.2.2.2.2.2.2.2.2.2.2.2.2.2.2.2.2.2.2.2.2).bind fun r1=>
  (c75 (y.1.2.2.2.2.2.2.2.2.2.2.2.2.2.2.2.2.2.2.2.2.1,())).bind fun r2=>
  some (((r0.1.1,(r1.1.1,r2.1)),()),())
theorem s20 (c74:F74) (c75:F75) (y):TE [g74 c74,g75 c75] Tryz.f20 i20 o20 y=m20 c74 c75 y:=by kernel_rfl
noncomputable def r20:F20:=m20 r74 r75
theorem k20:KO (g20 r20):=fk (s20 r74 r75) ⟨k74,k75,⟨⟩⟩ (by kernel_rfl)
abbrev i77:Ts:=[.v (.sl false .i), .v (.sl false .i)]
abbrev o77:Ts:=[.v (.bool)]
abbrev F77:=FT i77 o77
abbrev g77:=mkG 77 i77 o77
abbrev lc77_0:Ts:=[.v (.sl false .i), .v (.sl false .i), .v (.int .i64)]
abbrev lb77_0:Ts:=[]
abbrev lv77_0:Ts:=[.v (.int .i64)]
abbrev lr77_0:Ts:=[.v (.bool)]
abbrev R77_0:=Option (Sum (PTup lv77_0) (PTup lr77_0)×BTup lb77_0)
abbrev B77_0:=PTup lb77_0→PTup lv77_0→R77_0
abbrev A77_0:=PTup lc77_0→B77_0
noncomputable def w77_0 (again:B77_0) (x:PTup lc77_0) (y:PTup lb77_0) (z:PTup lv77_0):R77_0:=
  bif (ltI z.1 x.2.2.1)then (bif (leI 0 z.1)then (bif (ltI z.1 (lenI x.1))then (bif (leI 0 z.1)then (bif (ltI z.1 (lenI x.2.1))then (bif (neI (rdE .i x.1 z.1) (rdE .i x.2.1 z.1))then (some ((Sum.inr (false,())),()))
       else again () ((wI (z.1+1)),()))
      else none)
     else none)
    else none)
   else none)
  else some ((Sum.inl z),())
noncomputable def e77_0 (l:A77_0):LoopE:=⟨[0,1,12],lc77_0,[],lb77_0,[13],lv77_0,[4],lr77_0,0,[],l⟩
noncomputable def m77 (l0:A77_0) (y:PTup i77):Option (PTup o77×BTup i77):=
  bif (neI (lenI y.1) (lenI y.2.1))then no
  else (l0 (y.1,(y.2.1,((lenI y.1),()))) () ((0:Int),())).bind fun r0=>
  sumElim r0.1 (fun r1=>some ((true,()),()))
  (fun r1=>some (r1,()))
noncomputable def E77 (l0:A77_0):CEnv:=⟨⟨Tryz.prog,fnsL []⟩,loopsL [(4,e77_0 l0)]⟩
theorem t77_0 (l0:A77_0) (again) (x y z):loopRound (E77 l0) (loopAt (bodyOf Tryz.f77) 0) (e77_0 l0) Tryz.f77.ntmps again x y z=w77_0 again x y z:=by kernel_rfl
noncomputable def n77_0:Nat→A77_0
  |0,_,_,_=>none
  |n+1,x,y,z=>w77_0 (fun y z=>n77_0 n x y z) x y z
theorem s77 (l0:A77_0) (y):tevF (E77 l0) Tryz.f77 i77 o77 y=m77 l0 y:=by kernel_rfl
noncomputable def L77_0:A77_0:=n77_0 fuel
noncomputable def r77:F77:=m77 L77_0
theorem k77:KO (g77 r77):=by
  have hE: ∀g f,(E77 L77_0).env.fns g=some f→CallOk Tryz.prog g f:=fnsL_ok trivial
  have h0:LoopOk Tryz.prog Tryz.f77.ntmps (loopAt (bodyOf Tryz.f77) 0) (e77_0 L77_0):=lp_ok (E:=E77 L77_0) rfl hE mixed (AllLoops.of_list (l:=[]) (by kernel_rfl) trivial) (n77_0) (fun _ _ _=>rfl) (fun n x y z=>t77_0 L77_0 _ x y z) rfl
  exact fn_ok (E:=E77 L77_0) rfl hE mixed (by kernel_rfl) (by kernel_rfl) (AllLoops.of_list (l:=[(loopAt (bodyOf Tryz.f77) 0)]) (by kernel_rfl) (.one (by kernel_rfl) h0 trivial)) (s77 L77_0)
abbrev i89:Ts:=[.v (.sl false .i), .v (.sl false .i)]
abbrev o89:Ts:=[.v (.bool)]
abbrev F89:=FT i89 o89
abbrev g89:=mkG 89 i89 o89
noncomputable def m89 (c77:F77) (y:PTup i89):Option (PTup o89×BTup i89):=
  (c77 y).bind fun r0=>
  some (r0.1,())
theorem s89 (c77:F77) (y):TE [g77 c77] Tryz.f89 i89 o89 y=m89 c77 y:=by kernel_rfl
noncomputable def r89:F89:=m89 r77
theorem k89:KO (g89 r89):=fk (s89 r77) ⟨k77,⟨⟩⟩ (by kernel_rfl)
abbrev i88:Ts:=[.v (.sl false .n), .v (.sl false .n), .v (.fn 89)]
abbrev o88:Ts:=[.v (.bool)]
abbrev F88:=FT i88 o88
abbrev g88:=mkG 88 i88 o88
abbrev lc88_0:Ts:=[.v (.sl false .n), .v (.fn 89), .v (.sl false .n), .v (.int .i64)]
abbrev lb88_0:Ts:=[]
abbrev lv88_0:Ts:=[.v (.int .i64)]
abbrev lr88_0:Ts:=[.v (.bool)]
abbrev R88_0:=Option (Sum (PTup lv88_0) (PTup lr88_0)×BTup lb88_0)
abbrev B88_0:=PTup lb88_0→PTup lv88_0→R88_0
abbrev A88_0:=PTup lc88_0→B88_0
noncomputable def w88_0 (c89:F89) (again:B88_0) (x:PTup lc88_0) (y:PTup lb88_0) (z:PTup lv88_0):R88_0:=
  bif (ltI z.1 x.2.2.2.1)then (bif (leI 0 z.1)then (bif (ltI z.1 (lenI x.2.2.1))then (bif (leI 0 z.1)then (bif (ltI z.1 (lenI x.1))then ((c89 ((rdE .n x.2.2.1 z.1),((rdE .n x.1 z.1),()))).bind fun r0=>
       bif (!r0.1.1)then (some ((Sum.inr (false,())),()))
       else again () ((wI (z.1+1)),()))
      else none)
     else none)
    else none)
   else none)
  else some ((Sum.inl z),())
noncomputable def e88_0 (l:A88_0):LoopE:=⟨[1,2,15,16],lc88_0,[],lb88_0,[17],lv88_0,[6],lr88_0,0,[],l⟩
noncomputable def m88 (c89:F89) (l0:A88_0) (y:PTup i88):Option (PTup o88×BTup i88):=
  bif (neI (lenI y.1) (lenI y.2.1))then no
  else (l0 (y.2.1,((),(y.1,((lenI y.1),())))) () ((0:Int),())).bind fun r0=>
  sumElim r0.1 (fun r1=>some ((true,()),()))
  (fun r1=>some (r1,()))
noncomputable def E88 (c89:F89) (l0:A88_0):CEnv:=⟨⟨Tryz.prog,fnsL [g89 c89]⟩,loopsL [(4,e88_0 l0)]⟩
theorem t88_0 (c89:F89) (l0:A88_0) (again) (x y z):loopRound (E88 c89 l0) (loopAt (bodyOf Tryz.f88) 0) (e88_0 l0) Tryz.f88.ntmps again x y z=w88_0 c89 again x y z:=by kernel_rfl
noncomputable def n88_0 (c89:F89):Nat→A88_0
  |0,_,_,_=>none
  |n+1,x,y,z=>w88_0 c89 (fun y z=>n88_0 c89 n x y z) x y z
theorem s88 (c89:F89) (l0:A88_0) (y):tevF (E88 c89 l0) Tryz.f88 i88 o88 y=m88 c89 l0 y:=by kernel_rfl
noncomputable def L88_0:A88_0:=n88_0 r89 fuel
noncomputable def r88:F88:=m88 r89 L88_0
theorem k88:KO (g88 r88):=by
  have hE: ∀g f,(E88 r89 L88_0).env.fns g=some f→CallOk Tryz.prog g f:=fnsL_ok ⟨k89,⟨⟩⟩
  have h0:LoopOk Tryz.prog Tryz.f88.ntmps (loopAt (bodyOf Tryz.f88) 0) (e88_0 L88_0):=lp_ok (E:=E88 r89 L88_0) rfl hE mixed (AllLoops.of_list (l:=[]) (by kernel_rfl) trivial) (n88_0 r89) (fun _ _ _=>rfl) (fun n x y z=>t88_0 r89 L88_0 _ x y z) rfl
  exact fn_ok (E:=E88 r89 L88_0) rfl hE mixed (by kernel_rfl) (by kernel_rfl) (AllLoops.of_list (l:=[(loopAt (bodyOf Tryz.f88) 0)]) (by kernel_rfl) (.one (by kernel_rfl) h0 trivial)) (s88 r89 L88_0)
abbrev i29:Ts:=[.a q22, .a q22]
abbrev o29:Ts:=[.v (.bool)]
abbrev F29:=FT i29 o29
abbrev g29:=mkG 29 i29 o29
noncomputable def m29 (c88:F88) (c77:F77) (y:PTup i29):Option (PTup o29×BTup i29):=
  (c88 (y.1.1,(y.2.1.1,((),())))).bind fun r0=>
  bif r0.1.1 then ((c77 (y.1.2.1,(y.2.1.2.1,()))).bind fun r1=>
   bif r1.1.1 then ((c77 (y.1.2.2.1,y.2.1.2.2)).bind fun r2=>
    some (r2.1,()))
   else no)
  else no
theorem s29 (c88:F88) (c77:F77) (y):TE [g88 c88,g77 c77] Tryz.f29 i29 o29 y=m29 c88 c77 y:=by kernel_rfl
noncomputable def r29:F29:=m29 r88 r77
theorem k29:KO (g29 r29):=fk (s29 r88 r77) ⟨k88,k77,⟨⟩⟩ (by kernel_rfl)
abbrev i19:Ts:=[.a q22, .a q22]
abbrev o19:Ts:=[.v (.bool)]
abbrev F19:=FT i19 o19
abbrev g19:=mkG 19 i19 o19
noncomputable def m19 (c29:F29) (y:PTup i19):Option (PTup o19×BTup i19):=
  bif (ltI (lenI y.2.1.1) (lenI y.1.1))then no
  else bif (ltI (lenI y.2.1.2.1) (lenI y.1.2.1))then no
  else bif (ltI (lenI y.2.1.2.2.1) (lenI y.1.2.2.1))then no
  else bif (leI (lenI y.1.1) (lenI y.2.1.1))then (bif (leI (lenI y.1.2.1) (lenI y.2.1.2.1))then (bif (leI (lenI y.1.2.2.1) (lenI y.2.1.2.2.1))then ((c29 (y.1,(((List.take (Int.toNat (lenI y.1.1)) y.2.1.1),((List.take (Int.toNat (lenI y.1.2.1)) y.2.1.2.1),((List.take (Int.toNat (lenI y.1.2.2.1)) y.2.1.2.2.1),()))),()))).bind fun r0=>
     some (r0.1,()))
    else none)
   else none)
  else none
theorem s19 (c29:F29) (y):TE [g29 c29] Tryz.f19 i19 o19 y=m19 c29 y:=by kernel_rfl
noncomputable def r19:F19:=m19 r29
theorem k19:KO (g19 r19):=fk (s19 r29) ⟨k29,⟨⟩⟩ (by kernel_rfl)
abbrev i76:Ts:=[.a q4, .a q4]
abbrev o76:Ts:=[.v (.bool)]
abbrev F76:=FT i76 o76
abbrev g76:=mkG 76 i76 o76
noncomputable def m76 (c77:F77) (y:PTup i76):Option (PTup o76×BTup i76):=
  bif (eqI y.1.2.1 y.2.1.2.1)then ((c77 (y.1.1,(y.2.1.1,()))).bind fun r0=>
   some (r0.1,()))
  else no
theorem s76 (c77:F77) (y):TE [g77 c77] Tryz.f76 i76 o76 y=m76 c77 y:=by kernel_rfl
noncomputable def r76:F76:=m76 r77
theorem k76:KO (g76 r76):=fk (s76 r77) ⟨k77,⟨⟩⟩ (by kernel_rfl)
abbrev i21:Ts:=[.a q12]
abbrev o21:Ts:=[.v (.bool)]
abbrev F21:=FT i21 o21
abbrev g21:=mkG 21 i21 o21
noncomputable def m21 (c17:F17) (c73:F73) (c76:F76) (c77:F77) (y:PTup i21):Option (PTup o21×BTup i21):=
  (c73 (y.1,())).bind fun r0=>
  bif (!r0.1.1)then no
  else (c17 (y.1,())).bind fun r1=>
  bif ((eqI y.1.2.2.2.2.1 r1.1.1.2.2.2.2.1)&&((eqI y.1.2.2.2.2.2.1 r1.1.1.2.2.2.2.2.1)&&((eqI y.1.2.2.2.2.2.2.1 r1.1.1.2.2.2.2.2.2.1)&&((eqI y.1.2.2.2.2.2.2.2.1 r1.1.1.2.2.2.2.2.2.2.1)&&((y.1.2.2.2.2.2.2.2.2.1==r1.1.1.2.2.2.2.2.2.2.2.1)&&((y.1.2.2.2.2.2.2.2.2.2.1==r1.1.1.2.2.2.2.2.2.2.2.2.1)&&((y.1.2.2.2.2.2.2.2.2.2.2.1==r1.1.1.2.2.2.2.2.2.2.2.2.2.1)&&((y.1.2.2.2.2.2.2.2.2.2.2.2.1==r1.1.1.2.2.2.2.2.2.2.2.2.2.2.1)&&true))))))))then (bif ((y.1.2.2.2.2.2.2.2.2.2.2.2.2.1==r1.1.1.2.2.2.2.2.2.2.2.2.2.2.2.2.2.2.2.2.2.2.2.2.2.2.2.2.2.2.1)&&((eqI y.1.2.2.2.2.2.2.2.2.2.2.2.2.2.1 r1.1.1.2.2.2.2.2.2.2.2.2.2.2.2.2.2.2.2.2.2.2.2.2.2.2.2.2.2.2.2.1)&&true))then (bif (y.1.2.2.2.2.2.2.2.2.2.2.2.2.2.2.2.1==r1.1.1.2.2.2.2.2.2.2.2.2.2.2.2.2.2.2.2.2.2.2.2.2.2.2.2.2.2.2.2.2.1)then (bif (eqI y.1.2.2.2.2.2.2.2.2.2.2.2.2.2.2.1 r1.1.1.2.2.2.2.2.2.2.2.2.2.2.2.1)then ((c76 ((y.1.2.2.1,(y.1.2.2.2.1,())),((r1.1.1.2.2.1,(r1.1.1.2.2.2.1,())),()))).bind fun r2=>
      bif r2.1.1 then ((c77 (y.1.2.2.2.2.2.2.2.2.2.2.2.2.2.2.2.2.2.2.2.2.1,r1.1.1.2.2.2.2.2.2.2.2.2.2.2.2.2.2.2.2.2.2.2.2.2.2.2.2.2.2.2.2.2.2.2.2.2)).bind fun r3=>
       some (r3.1,()))
      else no)
     else no)
    else no)
   else no)
  else no
theorem s21 (c17:F17) (c73:F73) (c76:F76) (c77:F77) (y):TE [g17 c17,g73 c73,g76 c76,g77 c77] Tryz.f21 i21 o21 y=m21 c17 c73 c76 c77 y:=by kernel_rfl
noncomputable def r21:F21:=m21 r17 r73 r76 r77
theorem k21:KO (g21 r21):=fk (s21 r17 r73 r76 r77) ⟨k17,k73,k76,k77,⟨⟩⟩ (by kernel_rfl)
abbrev i22:Ts:=[.a q12]
abbrev o22:Ts:=[.v (.bool)]
abbrev F22:=FT i22 o22
abbrev g22:=mkG 22 i22 o22
noncomputable def m22 (c19:F19) (c20:F20) (c17:F17) (c73:F73) (y:PTup i22):Option (PTup o22×BTup i22):=
  (c73 (y.1,())).bind fun r0=>
  bif r0.1.1 then ((c20 (y.1,())).bind fun r1=>
   (c17 (y.1,())).bind fun r2=>
   (c19 (r1.1.1,(r2.1.1.2.2.2.2.2.2.2.2.2.2.2.2.2.2.2.2.2.2.2.2.2.2.2.2.2.2.2.2.2.2.2,()))).bind fun r3=>
   some (r3.1,()))
  else no
theorem s22 (c19:F19) (c20:F20) (c17:F17) (c73:F73) (y):TE [g19 c19,g20 c20,g17 c17,g73 c73] Tryz.f22 i22 o22 y=m22 c19 c20 c17 c73 y:=by kernel_rfl
noncomputable def r22:F22:=m22 r19 r20 r17 r73
theorem k22:KO (g22 r22):=fk (s22 r19 r20 r17 r73) ⟨k19,k20,k17,k73,⟨⟩⟩ (by kernel_rfl)
abbrev i145:Ts:=[.p q14, .v (.int .i64)]
abbrev o145:Ts:=[]
abbrev F145:=FT i145 o145
abbrev g145:=mkG 145 i145 o145
abbrev lc145_0:Ts:=[.v (.int .i64)]
abbrev lb145_0:Ts:=[.p q14]
abbrev lv145_0:Ts:=[]
abbrev lr145_0:Ts:=[]
abbrev R145_0:=Option (Sum (PTup lv145_0) (PTup lr145_0)×BTup lb145_0)
abbrev B145_0:=PTup lb145_0→PTup lv145_0→R145_0
abbrev A145_0:=PTup lc145_0→B145_0
noncomputable def w145_0 (c134:F134) (again:B145_0) (x:PTup lc145_0) (y:PTup lb145_0) (z:PTup lv145_0):R145_0:=
  (c134 (y.1,x)).bind fun r0=>
  bif r0.1.1 then (again (r0.2.1,()) ())
  else some ((Sum.inl ()),(r0.2.1,()))
noncomputable def e145_0 (l:A145_0):LoopE:=⟨[1],lc145_0,[0],lb145_0,[],lv145_0,[],lr145_0,0,[],l⟩
noncomputable def m145 (c134:F134) (l0:A145_0) (y:PTup i145):Option (PTup o145×BTup i145):=
  (l0 y.2 (y.1,()) ()).bind fun r0=>
  sumElim r0.1 (fun r1=>some ((),(r0.2.1,())))
  (fun r1=>some ((),(r0.2.1,())))
noncomputable def E145 (c134:F134) (l0:A145_0):CEnv:=⟨⟨Tryz.prog,fnsL [g134 c134]⟩,loopsL [(0,e145_0 l0)]⟩
theorem t145_0 (c134:F134) (l0:A145_0) (again) (x y z):loopRound (E145 c134 l0) (loopAt (bodyOf Tryz.f145) 0) (e145_0 l0) Tryz.f145.ntmps again x y z=w145_0 c134 again x y z:=by kernel_rfl
noncomputable def n145_0 (c134:F134):Nat→A145_0
  |0,_,_,_=>none
  |n+1,x,y,z=>w145_0 c134 (fun y z=>n145_0 c134 n x y z) x y z
theorem s145 (c134:F134) (l0:A145_0) (y):tevF (E145 c134 l0) Tryz.f145 i145 o145 y=m145 c134 l0 y:=by kernel_rfl
noncomputable def L145_0:A145_0:=n145_0 r134 fuel
noncomputable def r145:F145:=m145 r134 L145_0
theorem k145:KO (g145 r145):=by
  have hE: ∀g f,(E145 r134 L145_0).env.fns g=some f→CallOk Tryz.prog g f:=fnsL_ok ⟨k134,⟨⟩⟩
  have h0:LoopOk Tryz.prog Tryz.f145.ntmps (loopAt (bodyOf Tryz.f145) 0) (e145_0 L145_0):=lp_ok (E:=E145 r134 L145_0) rfl hE mixed (AllLoops.of_list (l:=[]) (by kernel_rfl) trivial) (n145_0 r134) (fun _ _ _=>rfl) (fun n x y z=>t145_0 r134 L145_0 _ x y z) rfl
  exact fn_ok (E:=E145 r134 L145_0) rfl hE mixed (by kernel_rfl) (by kernel_rfl) (AllLoops.of_list (l:=[(loopAt (bodyOf Tryz.f145) 0)]) (by kernel_rfl) (.one (by kernel_rfl) h0 trivial)) (s145 r134 L145_0)
abbrev i146:Ts:=[.p q15, .v (.int .i64)]
abbrev o146:Ts:=[]
abbrev F146:=FT i146 o146
abbrev g146:=mkG 146 i146 o146
abbrev lc146_0:Ts:=[.v (.int .i64)]
abbrev lb146_0:Ts:=[.p q15]
abbrev lv146_0:Ts:=[]
abbrev lr146_0:Ts:=[]
abbrev R146_0:=Option (Sum (PTup lv146_0) (PTup lr146_0)×BTup lb146_0)
abbrev B146_0:=PTup lb146_0→PTup lv146_0→R146_0
abbrev A146_0:=PTup lc146_0→B146_0
noncomputable def w146_0 (c135:F135) (again:B146_0) (x:PTup lc146_0) (y:PTup lb146_0) (z:PTup lv146_0):R146_0:=
  (c135 (y.1,x)).bind fun r0=>
  bif r0.1.1 then (again (r0.2.1,()) ())
  else some ((Sum.inl ()),(r0.2.1,()))
noncomputable def e146_0 (l:A146_0):LoopE:=⟨[1],lc146_0,[0],lb146_0,[],lv146_0,[],lr146_0,0,[],l⟩
noncomputable def m146 (c135:F135) (l0:A146_0) (y:PTup i146):Option (PTup o146×BTup i146):=
  (l0 y.2 (y.1,()) ()).bind fun r0=>
  sumElim r0.1 (fun r1=>some ((),(r0.2.1,())))
  (fun r1=>some ((),(r0.2.1,())))
noncomputable def E146 (c135:F135) (l0:A146_0):CEnv:=⟨⟨Tryz.prog,fnsL [g135 c135]⟩,loopsL [(0,e146_0 l0)]⟩
theorem t146_0 (c135:F135) (l0:A146_0) (again) (x y z):loopRound (E146 c135 l0) (loopAt (bodyOf Tryz.f146) 0) (e146_0 l0) Tryz.f146.ntmps again x y z=w146_0 c135 again x y z:=by kernel_rfl
noncomputable def n146_0 (c135:F135):Nat→A146_0
  |0,_,_,_=>none
  |n+1,x,y,z=>w146_0 c135 (fun y z=>n146_0 c135 n x y z) x y z
theorem s146 (c135:F135) (l0:A146_0) (y):tevF (E146 c135 l0) Tryz.f146 i146 o146 y=m146 c135 l0 y:=by kernel_rfl
noncomputable def L146_0:A146_0:=n146_0 r135 fuel
noncomputable def r146:F146:=m146 r135 L146_0
theorem k146:KO (g146 r146):=by
  have hE: ∀g f,(E146 r135 L146_0).env.fns g=some f→CallOk Tryz.prog g f:=fnsL_ok ⟨k135,⟨⟩⟩
  have h0:LoopOk Tryz.prog Tryz.f146.ntmps (loopAt (bodyOf Tryz.f146) 0) (e146_0 L146_0):=lp_ok (E:=E146 r135 L146_0) rfl hE mixed (AllLoops.of_list (l:=[]) (by kernel_rfl) trivial) (n146_0 r135) (fun _ _ _=>rfl) (fun n x y z=>t146_0 r135 L146_0 _ x y z) rfl
  exact fn_ok (E:=E146 r135 L146_0) rfl hE mixed (by kernel_rfl) (by kernel_rfl) (AllLoops.of_list (l:=[(loopAt (bodyOf Tryz.f146) 0)]) (by kernel_rfl) (.one (by kernel_rfl) h0 trivial)) (s146 r135 L146_0)
abbrev i78:Ts:=[.p [.sl false .n, .sl false .i, .sl false .i, .int .i64, .int .i64, .int .i64, .int .i64, .int .i64, .bool, .bool, .bool, .bool, .bool, .int .i64, .int .i64, .bool, .int .i64, .bool, .int .i64, .int .i64, .sl false .i, .int .i64, .int .i64, .int .i64, .int .i64, .int .i64, .bool, .sl true .i, .sl true .i, .int .i64, .sl true .t, .sl true .n, .int .i64, .int .i64, .int .i64, .int .i64, .int .i64, .bool, .bool, .int .i64, .sl true .t, .sl true .i]]
abbrev o78:Ts:=[]
abbrev F78:=FT i78 o78
abbrev g78:=mkG 78 i78 o78
noncomputable def m78 (c145:F145) (c146:F146) (y:PTup i78):Option (PTup o78×BTup i78):=
  let a0:=y.1;let a1:=a0.2;let a2:=a1.2;let a3:=a2.2;let a4:=a3.2;let a5:=a4.2;let a6:=a5.2;let a7:=a6.2;let a8:=a7.2;let a9:=a8.2;let a10:=a9.2;let a11:=a10.2;let a12:=a11.2;let a13:=a12.2;let a14:=a13.2;let a15:=a14.2;let a16:=a15.2;let a17:=a16.2;let a18:=a17.2;let a19:=a18.2;let a20:=a19.2;let a21:=a20.2;let a22:=a21.2;let a23:=a22.2;let a24:=a23.2.2;let a25:=a24.2.2;(c145 ((a21.1,(a22.1,(a23.1,(a23.2.1,(a24.1,(a24.2.1,(a25.1,(a25.2.1,(a25.2.2.1,(a25.2.2.2.1,(a25.2.2.2.2.1,()))))))))))),(a14.1,()))).bind fun r0=>
  (c146 (a25.2.2.2.2.2,(a14.1,()))).bind fun r1=>
  some ((),((a0.1,(a1.1,(a2.1,(a3.1,(a4.1,(a5.1,(a6.1,(a7.1,(a8.1,(a9.1,(a10.1,(a11.1,(a12.1,(a13.1,(a14.1,(a15.1,(a16.1,(a17.1,(a18.1,(a19.1,(a20.1,(r0.2.1.1,(r0.2.1.2.1,(r0.2.1.2.2.1,(r0.2.1.2.2.2.1,(r0.2.1.2.2.2.2.1,(r0.2.1.2.2.2.2.2.1,(r0.2.1.2.2.2.2.2.2.1,(r0.2.1.2.2.2.2.2.2.2.1,(r0.2.1.2.2.2.2.2.2.2.2.1,(r0.2.1.2.2.2.2.2.2.2.2.2.1,(r0.2.1.2.2.2.2.2.2.2.2.2.2.1,r1.2.1)))))))))))))))))))))))))))))))),()))
theorem s78 (c145:F145) (c146:F146) (y):TE [g145 c145,g146 c146] Tryz.f78 i78 o78 y=m78 c145 c146 y:=by kernel_rfl
noncomputable def r78:F78:=m78 r145 r146
theorem k78:KO (g78 r78):=fk (s78 r145 r146) ⟨k145,k146,⟨⟩⟩ (by kernel_rfl)
abbrev i23:Ts:=[.a q12]
abbrev o23:Ts:=[.a q13]
abbrev F23:=FT i23 o23
abbrev g23:=mkG 23 i23 o23
noncomputable def m23 (c78:F78) (c16:F16) (c58:F58) (y:PTup i23):Option (PTup o23×BTup i23):=
  (c58 (y.1,())).bind fun r0=>
  (c16 (y.1,())).bind fun r1=>
  bif r1.1.1 then ((c78 (r0.1.1,())).bind fun r2=>let f0:=r2.2;let f1:=f0.1;let f2:=f1.2;let f3:=f2.2;let f4:=f3.2;let f5:=f4.2;let f6:=f5.2;let f7:=f6.2;let f8:=f7.2;let f9:=f8.2;let f10:=f9.2.2;let f11:=f10.2;let f12:=f11.2.2;let f13:=f12.2.2;some (((r0.1.1.1,(r0.1.1.2.1,(r0.1.1.2.2.1,(f4.1,(f5.1,(f6.1,(f7.1,(f8.1,(f9.1,(f9.2.1,(f10.1,(f11.1,(f11.2.1,(f12.1,(f12.2.1,(f13.1,(f13.2.1,(f13.2.2.1,(f13.2.2.2.1,(f13.2.2.2.2.1,(r0.1.1.2.2.2.2.2.2.2.2.2.2.2.2.2.2.2.2.2.2.2.2.1,f13.2.2.2.2.2.2))))))))))))))))))))),()),()))
  else some ((r0.1.1,()),())
theorem s23 (c78:F78) (c16:F16) (c58:F58) (y):TE [g78 c78,g16 c16,g58 c58] Tryz.f23 i23 o23 y=m23 c78 c16 c58 y:=by kernel_rfl
noncomputable def r23:F23:=m23 r78 r16 r58
theorem k23:KO (g23 r23):=fk (s23 r78 r16 r58) ⟨k78,k16,k58,⟨⟩⟩ (by kernel_rfl)
abbrev i27:Ts:=[.a q12]
abbrev o27:Ts:=[.a q19]
abbrev R27:=Option (PTup o27×BTup i27)
abbrev F27:=PTup i27→R27
abbrev g27:=mkG 27 i27 o27
noncomputable def m27 (c86:F86) (c87:F87) (c20:F20) (c16:F16) (c58:F58) (y:PTup i27):R27:=
  let a0:=y.1;let a1:=a0.2;let a2:=a1.2;let a3:=a2.2;let a4:=a3.2;let a5:=a4.2;let a6:=a5.2;let a7:=a6.2;let a8:=a7.2;let a9:=a8.2;let a10:=a9.2.2;let a11:=a10.2;let a12:=a11.2;let a13:=a12.2.2;let a14:=a13.2.2;let a15:=a14.2.2;let a16:=a15.2.2;let a17:=a16.2.2;let a18:=a17.2.2;let a19:=a18.2.2;let a20:=a19.2.2;let a21:=a20.2.2;let a22:=a21.2.2;let X0:R27:=some ((([],([],([],((0:Int),((0:Int),((0:Int),((0:Int),((0:Int),(false,(false,(false,(false,((0:Int),((0:Int),((0:Int),((0:Int),((0:Int),(false,([],([],((0:Int),((0:Int),((0:Int),((0:Int),((0:Int),(false,(false,(false,((0:Int),(false,((0:Int),([],([],([],())))))))))))))))))))))))))))))))))),()),());(c16 (a0,())).bind fun r0=>bif (!r0.1.1)then X0 else (c86 (a0,())).bind fun r1=>bif (!r1.1.1)then X0 else (c87 (a0,())).bind fun r2=>bif (!r2.1.1)then X0 else (c58 (a0,())).bind fun r3=>(c20 (r3.1.1,())).bind fun r4=>some (((r3.1.1.1,(r3.1.1.2.1,(r3.1.1.2.2.1,(r3.1.1.2.2.2.1,(a4.1,(a5.1,(a6.1,(a7.1,(a8.1,(a9.1,(a9.2.1,(a10.1,(r3.1.1.2.2.2.2.2.2.2.2.2.2.2.2.2.2.2.2.2.2.2.2.2.1,(r3.1.1.2.2.2.2.2.2.2.2.2.2.2.2.2.2.2.2.2.2.2.2.2.2.1,(r3.1.1.2.2.2.2.2.2.2.2.2.2.2.2.2.2.2.2.2.2.2.2.2.2.2.1,(r3.1.1.2.2.2.2.2.2.2.2.2.2.2.2.2.2.2.2.2.2.2.2.2.2.2.2.1,(r3.1.1.2.2.2.2.2.2.2.2.2.2.2.2.2.2.2.2.2.2.2.2.2.2.2.2.2.1,(r3.1.1.2.2.2.2.2.2.2.2.2.2.2.2.2.2.2.2.2.2.2.2.2.2.2.2.2.2.1,(r3.1.1.2.2.2.2.2.2.2.2.2.2.2.2.2.2.2.2.2.2.2.2.2.2.2.2.2.2.2.1,(r3.1.1.2.2.2.2.2.2.2.2.2.2.2.2.2.2.2.2.2.2.2.2.2.2.2.2.2.2.2.2.1,(a21.2.1,(a22.1,(a22.2.1,(a22.2.2.1,(a22.2.2.2.1,(a22.2.2.2.2.1,(a22.2.2.2.2.2.1,(a11.1,(a12.1,(a13.1,(a15.1,r4.1.1))))))))))))))))))))))))))))))),()),())
theorem s27 (c86:F86) (c87:F87) (c20:F20) (c16:F16) (c58:F58) (y):TE [g86 c86,g87 c87,g20 c20,g16 c16,g58 c58] Tryz.f27 i27 o27 y=m27 c86 c87 c20 c16 c58 y:=by kernel_rfl
noncomputable def r27:F27:=m27 r86 r87 r20 r16 r58
theorem k27:KO (g27 r27):=fk (s27 r86 r87 r20 r16 r58) ⟨k86,k87,k20,k16,k58,⟨⟩⟩ (by kernel_rfl)
abbrev i85:Ts:=[.a q7, .a q7]
abbrev o85:Ts:=[.v (.bool)]
abbrev F85:=FT i85 o85
abbrev g85:=mkG 85 i85 o85
noncomputable def m85 (c77:F77) (y:PTup i85):Option (PTup o85×BTup i85):=
  bif (eqI y.1.1 y.2.1.1)then (bif (eqI y.1.2.1 y.2.1.2.1)then (bif (eqI y.1.2.2.1 y.2.1.2.2.1)then (bif (eqI y.1.2.2.2.1 y.2.1.2.2.2.1)then (bif (eqI y.1.2.2.2.2.1 y.2.1.2.2.2.2.1)then (bif (y.1.2.2.2.2.2.1==y.2.1.2.2.2.2.2.1)then ((c77 (y.1.2.2.2.2.2.2.1,(y.2.1.2.2.2.2.2.2.1,()))).bind fun r0=>
        bif r0.1.1 then ((c77 (y.1.2.2.2.2.2.2.2.1,y.2.1.2.2.2.2.2.2.2)).bind fun r1=>
         some (r1.1,()))
        else no)
       else no)
      else no)
     else no)
    else no)
   else no)
  else no
theorem s85 (c77:F77) (y):TE [g77 c77] Tryz.f85 i85 o85 y=m85 c77 y:=by kernel_rfl
noncomputable def r85:F85:=m85 r77
theorem k85:KO (g85 r85):=fk (s85 r77) ⟨k77,⟨⟩⟩ (by kernel_rfl)
abbrev i26:Ts:=[.a q18, .a q18]
abbrev o26:Ts:=[.v (.bool)]
abbrev F26:=FT i26 o26
abbrev g26:=mkG 26 i26 o26
noncomputable def m26 (c29:F29) (c76:F76) (c85:F85) (y:PTup i26):Option (PTup o26×BTup i26):=
  let a0:=y.1;let a1:=y.2;let a2:=a0.2;let a3:=a1.1;let a4:=a2.2;let a5:=a3.2;let a6:=a4.2;let a7:=a5.2;let a8:=a6.2;let a9:=a7.2;let a10:=a8.2;let a11:=a9.2;let a12:=a10.2;let a13:=a11.2;let a14:=a12.2;let a15:=a13.2;let a16:=a14.2;let a17:=a15.2;let a18:=a16.2;let a19:=a17.2;let a20:=a18.2;let a21:=a19.2;let a22:=a20.2;let a23:=a21.2;let a24:=a22.2;let a25:=a23.2;let a26:=a24.2;let a27:=a25.2;let a28:=a26.2;let a29:=a27.2;let a30:=a28.2;let a31:=a29.2;let a32:=a30.2;let a33:=a31.2;let a34:=a32.2;let a35:=a33.2;let a36:=a34.2;let a37:=a35.2;let a38:=a36.2;let a39:=a37.2;let a40:=a38.2;let a41:=a39.2;let a42:=a40.2;let a43:=a41.2;let a44:=a42.2;let a45:=a43.2;let a46:=a45.2;let a47:=a44.2.2;let a48:=a46.2.2;let a49:=a47.2.2;let a50:=a48.2.2;bif ((eqI a8.1 a11.1)&&((eqI a10.1 a13.1)&&((eqI a12.1 a15.1)&&((eqI a14.1 a17.1)&&((a16.1==a19.1)&&((a18.1==a21.1)&&((a20.1==a23.1)&&((a22.1==a25.1)&&true))))))))then (bif ((eqI a40.1 a43.1)&&((eqI a42.1 a45.1)&&((eqI a44.1 a46.1)&&((eqI a44.2.1 a46.2.1)&&((eqI a47.1 a48.1)&&((a47.2.1==a48.2.1)&&((a49.1==a50.1)&&true)))))))then (bif ((a49.2.1==a50.2.1)&&((eqI a49.2.2.1 a50.2.2.1)&&true))then (bif (a49.2.2.2.1==a50.2.2.2.1)then (bif (eqI a49.2.2.2.2.1 a50.2.2.2.2.1)then ((c76 ((a4.1,(a6.1,())),((a7.1,(a9.1,())),()))).bind fun r0=>
       bif r0.1.1 then ((c85 ((a24.1,(a26.1,(a28.1,(a30.1,(a32.1,(a34.1,(a36.1,(a38.1,())))))))),((a27.1,(a29.1,(a31.1,(a33.1,(a35.1,(a37.1,(a39.1,(a41.1,())))))))),()))).bind fun r1=>
        bif r1.1.1 then ((c29 (a49.2.2.2.2.2,(a50.2.2.2.2.2,()))).bind fun r2=>
         some (r2.1,()))
        else no)
       else no)
      else no)
     else no)
    else no)
   else no)
  else no
theorem s26 (c29:F29) (c76:F76) (c85:F85) (y):TE [g29 c29,g76 c76,g85 c85] Tryz.f26 i26 o26 y=m26 c29 c76 c85 y:=by kernel_rfl
noncomputable def r26:F26:=m26 r29 r76 r85
theorem k26:KO (g26 r26):=fk (s26 r29 r76 r85) ⟨k29,k76,k85,⟨⟩⟩ (by kernel_rfl)
abbrev i28:Ts:=[.a q12]
abbrev o28:Ts:=[.v (.bool)]
abbrev F28:=FT i28 o28
abbrev g28:=mkG 28 i28 o28
noncomputable def m28 (c27:F27) (c23:F23) (c26:F26) (c17:F17) (c73:F73) (y:PTup i28):Option (PTup o28×BTup i28):=
  (c73 (y.1,())).bind fun r0=>
  bif r0.1.1 then ((c23 (y.1,())).bind fun r1=>
   (c27 (r1.1.1,())).bind fun r2=>
   (c17 (y.1,())).bind fun r3=>
   (c26 (r2.1.1,(r3.1.1,()))).bind fun r4=>
   some (r4.1,()))
  else no
theorem s28 (c27:F27) (c23:F23) (c26:F26) (c17:F17) (c73:F73) (y):TE [g27 c27,g23 c23,g26 c26,g17 c17,g73 c73] Tryz.f28 i28 o28 y=m28 c27 c23 c26 c17 c73 y:=by kernel_rfl
noncomputable def r28:F28:=m28 r27 r23 r26 r17 r73
theorem k28:KO (g28 r28):=fk (s28 r27 r23 r26 r17 r73) ⟨k27,k23,k26,k17,k73,⟨⟩⟩ (by kernel_rfl)
abbrev i43:Ts:=[.a q18]
abbrev o43:Ts:=[.v (.bool)]
abbrev F43:=FT i43 o43
abbrev g43:=mkG 43 i43 o43
noncomputable def m43 (c114:F114) (c112:F112) (c111:F111) (c110:F110) (c113:F113) (c117:F117) (c116:F116) (c115:F115) (y:PTup i43):Option (PTup o43×BTup i43):=
  let a0:=y.1;let a1:=a0.2;let a2:=a1.2;let a3:=a2.2;let a4:=a3.2;let a5:=a4.2;let a6:=a5.2;let a7:=a6.2;let a8:=a7.2;let a9:=a8.2;let a10:=a9.2;let a11:=a10.2;let a12:=a11.2;let a13:=a12.2;let a14:=a13.2;let a15:=a14.2;let a16:=a15.2;let a17:=a16.2;let a18:=a17.2;let a19:=a18.2;let a20:=a19.2;let a21:=a20.2;let a22:=a21.2.2;let a23:=a22.2.2;let a24:=a23.2.2.2;(c110 (a1.1,())).bind fun r0=>
  bif r0.1.1 then ((c111 ((a0.1,()),((a2.1,(a3.1,())),()))).bind fun r1=>
   bif r1.1.1 then ((c112 ((a4.1,(a5.1,(a6.1,(a7.1,(a8.1,(a9.1,(a10.1,(a11.1,())))))))),())).bind fun r2=>
    bif r2.1.1 then ((c113 ((a12.1,(a13.1,(a14.1,(a15.1,(a16.1,(a17.1,(a18.1,(a19.1,())))))))),())).bind fun r3=>
     bif r3.1.1 then ((c114 ((a20.1,(a21.1,(a21.2.1,(a22.1,(a22.2.1,(a23.1,(a23.2.1,()))))))),())).bind fun r4=>
      bif r4.1.1 then ((c115 (a24.1,())).bind fun r5=>
       bif r5.1.1 then (bif (eqI a12.1 a20.1)then ((c116 (a24.2.2.1,((0:Int),(a12.1,())))).bind fun r6=>
         bif r6.1.1 then ((c117 (a24.2.2.2.1,(a12.1,()))).bind fun r7=>
          bif r7.1.1 then (some (((eqI (lenI a24.2.2.2.2.1) (wI (Int.tdiv a12.1 16))),()),()))
          else no)
         else no)
        else no)
       else no)
      else no)
     else no)
    else no)
   else no)
  else no
theorem s43 (c114:F114) (c112:F112) (c111:F111) (c110:F110) (c113:F113) (c117:F117) (c116:F116) (c115:F115) (y):TE [g114 c114,g112 c112,g111 c111,g110 c110,g113 c113,g117 c117,g116 c116,g115 c115] Tryz.f43 i43 o43 y=m43 c114 c112 c111 c110 c113 c117 c116 c115 y:=by kernel_rfl
noncomputable def r43:F43:=m43 r114 r112 r111 r110 r113 r117 r116 r115
theorem k43:KO (g43 r43):=fk (s43 r114 r112 r111 r110 r113 r117 r116 r115) ⟨k114,k112,k111,k110,k113,k117,k116,k115,⟨⟩⟩ (by kernel_rfl)
abbrev i48:Ts:=[.a q2, .v (.sl false .i)]
abbrev o48:Ts:=[.a q19, .v (.bool)]
abbrev F48:=FT i48 o48
abbrev g48:=mkG 48 i48 o48
noncomputable def m48 (c103:F103) (c43:F43) (c102:F102) (c104:F104) (c101:F101) (y:PTup i48):Option (PTup o48×BTup i48):=
  (c101 (y.1,())).bind fun r0=>
  bif (leN (0+(List.length y.2.1)) (E.most .i))then ((c102 ()).bind fun r1=>
   (c103 (y.1,())).bind fun r2=>
   (c104 ()).bind fun r3=>
   (c43 ((r0.1.1.1,(([]++y.2.1),(r1.1.1.1,(r1.1.1.2.1,(r2.1.1.1,(r2.1.1.2.1,(r2.1.1.2.2.1,(r2.1.1.2.2.2.1,(r2.1.1.2.2.2.2.1,(r2.1.1.2.2.2.2.2.1,(r2.1.1.2.2.2.2.2.2.1,(r2.1.1.2.2.2.2.2.2.2.1,(r3.1.1.1,(r3.1.1.2.1,(r3.1.1.2.2.1,(r3.1.1.2.2.2.1,(r3.1.1.2.2.2.2.1,(r3.1.1.2.2.2.2.2.1,(r3.1.1.2.2.2.2.2.2.1,(r3.1.1.2.2.2.2.2.2.2.1,((0:Int),((0:Int),((0:Int),((0:Int),((0:Int),(false,(false,(false,((0:Int),(false,((0:Int),([],([],([],())))))))))))))))))))))))))))))))))),())).bind fun r4=>
   bif (!r4.1.1)then (some ((([],([],([],((0:Int),((0:Int),((0:Int),((0:Int),((0:Int),(false,(false,(false,(false,((0:Int),((0:Int),((0:Int),((0:Int),((0:Int),(false,([],([],((0:Int),((0:Int),((0:Int),((0:Int),((0:Int),(false,(false,(false,((0:Int),(false,((0:Int),([],([],([],())))))))))))))))))))))))))))))))))),(false,())),()))
   else some (((r0.1.1.1,(([]++y.2.1),(r1.1.1.1,(r1.1.1.2.1,(r2.1.1.1,(r2.1.1.2.1,(r2.1.1.2.2.1,(r2.1.1.2.2.2.1,(r2.1.1.2.2.2.2.1,(r2.1.1.2.2.2.2.2.1,(r2.1.1.2.2.2.2.2.2.1,(r2.1.1.2.2.2.2.2.2.2.1,(r3.1.1.1,(r3.1.1.2.1,(r3.1.1.2.2.1,(r3.1.1.2.2.2.1,(r3.1.1.2.2.2.2.1,(r3.1.1.2.2.2.2.2.1,(r3.1.1.2.2.2.2.2.2.1,(r3.1.1.2.2.2.2.2.2.2.1,((0:Int),((0:Int),((0:Int),((0:Int),((0:Int),(false,(false,(false,((0:Int),(false,((0:Int),([],([],([],())))))))))))))))))))))))))))))))))),(true,())),()))
  else none
theorem s48 (c103:F103) (c43:F43) (c102:F102) (c104:F104) (c101:F101) (y):TE [g103 c103,g43 c43,g102 c102,g104 c104,g101 c101] Tryz.f48 i48 o48 y=m48 c103 c43 c102 c104 c101 y:=by kernel_rfl
noncomputable def r48:F48:=m48 r103 r43 r102 r104 r101
theorem k48:KO (g48 r48):=fk (s48 r103 r43 r102 r104 r101) ⟨k103,k43,k102,k104,k101,⟨⟩⟩ (by kernel_rfl)
abbrev i97:Ts:=[.p q0]
abbrev o97:Ts:=[.a q1]
abbrev F97:=FT i97 o97
abbrev g97:=mkG 97 i97 o97
noncomputable def m97 (c57:F57) (c160:F160) (c129:F129) (y:PTup i97):Option (PTup o97×BTup i97):=
  (c129 (y.1,())).bind fun r0=>
  (c57 ((y.1.1,r0.2.1.2),((15:Int),()))).bind fun r1=>
  bif (eqI r1.1.1 0)then (bif (ltI 0 (lenI r0.1.1.1))then (bif (leI 1 (lenI (rdE .n r0.1.1.1 (0:Int))))then (bif (ltI 0 (lenI r0.1.1.1))then (bif (leI 1 (lenI (rdE .n r0.1.1.1 (0:Int))))then (some ((((List.set r0.1.1.1 (Int.toNat (0:Int)) (List.drop (Int.toNat (1:Int)) (rdE .n r0.1.1.1 (0:Int)))),()),()),((y.1.1,r1.2.1.2),())))
      else none)
     else none)
    else none)
   else none)
  else bif (eqI r1.1.1 1)then (bif (ltI 0 (lenI r0.1.1.1))then ((c160 ((y.1.1,r1.2.1.2),(((-(1:Int))::((256:Int)::[])),()))).bind fun r2=>
    bif (ltI 3 (lenI (rdE .n r0.1.1.1 (0:Int))))then (some ((((List.set r0.1.1.1 (Int.toNat (0:Int)) (List.set (rdE .n r0.1.1.1 (0:Int)) (Int.toNat (3:Int)) r2.1.1)),()),()),((y.1.1,r2.2.1.2),())))
    else none)
   else none)
  else bif (eqI r1.1.1 2)then (some ((([],()),()),((y.1.1,r1.2.1.2),())))
  else some ((r0.1.1,()),((y.1.1,r1.2.1.2),()))
theorem s97 (c57:F57) (c160:F160) (c129:F129) (y):TE [g57 c57,g160 c160,g129 c129] Tryz.f97 i97 o97 y=m97 c57 c160 c129 y:=by kernel_rfl
noncomputable def r97:F97:=m97 r57 r160 r129
theorem k97:KO (g97 r97):=fk (s97 r57 r160 r129) ⟨k57,k160,k129,⟨⟩⟩ (by kernel_rfl)
abbrev i98:Ts:=[.p q0]
abbrev o98:Ts:=[.v (.sl true .i)]
abbrev F98:=FT i98 o98
abbrev g98:=mkG 98 i98 o98
abbrev lc98_0:Ts:=[]
abbrev lb98_0:Ts:=[.p q0]
abbrev lv98_0:Ts:=[.v (.sl true .i), .v (.int .i64)]
abbrev lr98_0:Ts:=[]
abbrev R98_0:=Option (Sum (PTup lv98_0) (PTup lr98_0)×BTup lb98_0)
abbrev B98_0:=PTup lb98_0→PTup lv98_0→R98_0
abbrev A98_0:=PTup lc98_0→B98_0
noncomputable def w98_0 (c57:F57) (c161:F161) (c160:F160) (again:B98_0) (x:PTup lc98_0) (y:PTup lb98_0) (z:PTup lv98_0):R98_0:=
  (c57 (y.1,((5:Int),()))).bind fun r0=>
  bif (ltI z.2.1 r0.1.1)then ((c57 ((y.1.1,r0.2.1.2),((256:Int),()))).bind fun r1=>
   bif (leN ((List.length z.1)+(List.length (r1.1.1::[]))) (E.most .i))then (again ((y.1.1,r1.2.1.2),()) ((z.1++(r1.1.1::[])),((wI (z.2.1+1)),())))
   else none)
  else some ((Sum.inl z),((y.1.1,r0.2.1.2),()))
noncomputable def e98_0 (l:A98_0):LoopE:=⟨[],lc98_0,[0],lb98_0,[3,4],lv98_0,[],lr98_0,0,[],l⟩
noncomputable def m98 (c57:F57) (c161:F161) (c160:F160) (l0:A98_0) (y:PTup i98):Option (PTup o98×BTup i98):=
  (l0 () (y.1,()) ([],((0:Int),()))).bind fun r0=>
  sumElim r0.1 (fun r1=>(c161 ((y.1.1,r0.2.1.2),((30:Int),()))).bind fun r2=>
   bif r2.1.1 then ((c160 ((y.1.1,r2.2.1.2),(((-(1:Int))::((256:Int)::[])),()))).bind fun r3=>
    bif (leN ((List.length r1.1)+(List.length (r3.1.1::[]))) (E.most .i))then ((c161 ((y.1.1,r3.2.1.2),((40:Int),()))).bind fun r4=>
     bif r4.1.1 then ((c57 ((y.1.1,r4.2.1.2),((2:Int),()))).bind fun r5=>
      bif (leI 0 (wI ((20:Int)+r5.1.1)))then (bif (leN (Int.toNat (wI ((20:Int)+r5.1.1))) (E.most .i))then (some (((List.replicate (Int.toNat (wI ((20:Int)+r5.1.1))) (0:Int)),()),((y.1.1,r5.2.1.2),())))
       else none)
      else none)
     else some (((r1.1++(r3.1.1::[])),()),((y.1.1,r4.2.1.2),())))
    else none)
   else (c161 ((y.1.1,r2.2.1.2),((40:Int),()))).bind fun r3=>
   bif r3.1.1 then ((c57 ((y.1.1,r3.2.1.2),((2:Int),()))).bind fun r4=>
    bif (leI 0 (wI ((20:Int)+r4.1.1)))then (bif (leN (Int.toNat (wI ((20:Int)+r4.1.1))) (E.most .i))then (some (((List.replicate (Int.toNat (wI ((20:Int)+r4.1.1))) (0:Int)),()),((y.1.1,r4.2.1.2),())))
     else none)
    else none)
   else some ((r1.1,()),((y.1.1,r3.2.1.2),())))
  (fun r1=>some (([],()),((y.1.1,r0.2.1.2),())))
noncomputable def E98 (c57:F57) (c161:F161) (c160:F160) (l0:A98_0):CEnv:=⟨⟨Tryz.prog,fnsL [g57 c57,g161 c161,g160 c160]⟩,loopsL [(3,e98_0 l0)]⟩
theorem t98_0 (c57:F57) (c161:F161) (c160:F160) (l0:A98_0) (again) (x y z):loopRound (E98 c57 c161 c160 l0) (loopAt (bodyOf Tryz.f98) 0) (e98_0 l0) Tryz.f98.ntmps again x y z=w98_0 c57 c161 c160 again x y z:=by kernel_rfl
noncomputable def n98_0 (c57:F57) (c161:F161) (c160:F160):Nat→A98_0
  |0,_,_,_=>none
  |n+1,x,y,z=>w98_0 c57 c161 c160 (fun y z=>n98_0 c57 c161 c160 n x y z) x y z
theorem s98 (c57:F57) (c161:F161) (c160:F160) (l0:A98_0) (y):tevF (E98 c57 c161 c160 l0) Tryz.f98 i98 o98 y=m98 c57 c161 c160 l0 y:=by kernel_rfl
noncomputable def L98_0:A98_0:=n98_0 r57 r161 r160 fuel
noncomputable def r98:F98:=m98 r57 r161 r160 L98_0
theorem k98:KO (g98 r98):=by
  have hE: ∀g f,(E98 r57 r161 r160 L98_0).env.fns g=some f→CallOk Tryz.prog g f:=fnsL_ok ⟨k57,k161,k160,⟨⟩⟩
  have h0:LoopOk Tryz.prog Tryz.f98.ntmps (loopAt (bodyOf Tryz.f98) 0) (e98_0 L98_0):=lp_ok (E:=E98 r57 r161 r160 L98_0) rfl hE mixed (AllLoops.of_list (l:=[]) (by kernel_rfl) trivial) (n98_0 r57 r161 r160) (fun _ _ _=>rfl) (fun n x y z=>t98_0 r57 r161 r160 L98_0 _ x y z) rfl
  exact fn_ok (E:=E98 r57 r161 r160 L98_0) rfl hE mixed (by kernel_rfl) (by kernel_rfl) (AllLoops.of_list (l:=[(loopAt (bodyOf Tryz.f98) 0)]) (by kernel_rfl) (.one (by kernel_rfl) h0 trivial)) (s98 r57 r161 r160 L98_0)
abbrev i35:Ts:=[.v (.sl false .b)]
abbrev o35:Ts:=[.a q1, .v (.sl true .i), .v (.int .i64)]
abbrev F35:=FT i35 o35
abbrev g35:=mkG 35 i35 o35
noncomputable def m35 (c98:F98) (c57:F57) (c54:F54) (c97:F97) (y:PTup i35):Option (PTup o35×BTup i35):=
  (c54 y).bind fun r0=>
  (c97 (r0.1.1,())).bind fun r1=>
  (c98 ((r0.1.1.1,r1.2.1.2),())).bind fun r2=>
  (c57 ((r0.1.1.1,r2.2.1.2),((19:Int),()))).bind fun r3=>
  some ((r1.1.1,(r2.1.1,((wI (r3.1.1-1)),()))),())
theorem s35 (c98:F98) (c57:F57) (c54:F54) (c97:F97) (y):TE [g98 c98,g57 c57,g54 c54,g97 c97] Tryz.f35 i35 o35 y=m35 c98 c57 c54 c97 y:=by kernel_rfl
noncomputable def r35:F35:=m35 r98 r57 r54 r97
theorem k35:KO (g35 r35):=fk (s35 r98 r57 r54 r97) ⟨k98,k57,k54,k97,⟨⟩⟩ (by kernel_rfl)
abbrev i99:Ts:=[.v (.int .i64)]
abbrev o99:Ts:=[.a [.int .i64, .sl true .t], .v (.bool)]
abbrev F99:=FT i99 o99
abbrev g99:=mkG 99 i99 o99
noncomputable def m99 (c162:F162) (y:PTup i99):Option (PTup o99×BTup i99):=
  (c162 ((y.1,([],())),())).bind fun r0=>
  bif (!r0.1.1)then (some ((((0:Int),([],())),(false,())),()))
  else some (((y.1,([],())),(true,())),())
theorem s99 (c162:F162) (y):TE [g162 c162] Tryz.f99 i99 o99 y=m99 c162 y:=by kernel_rfl
noncomputable def r99:F99:=m99 r162
theorem k99:KO (g99 r99):=fk (s99 r162) ⟨k162,⟨⟩⟩ (by kernel_rfl)
abbrev i36:Ts:=[.a q2, .v (.sl false .i), .v (.int .i64)]
abbrev o36:Ts:=[.a q13, .v (.bool)]
abbrev R36:=Option (PTup o36×BTup i36)
abbrev F36:=PTup i36→R36
abbrev g36:=mkG 36 i36 o36
noncomputable def m36 (c81:F81) (c80:F80) (c82:F82) (c99:F99) (c16:F16) (c79:F79) (c75:F75) (c100:F100) (y:PTup i36):R36:=
  let X0:R36:=some ((([],([],([],((0:Int),((0:Int),((0:Int),((0:Int),((0:Int),(false,(false,(false,(false,(false,((0:Int),((0:Int),(false,((0:Int),(false,((0:Int),((0:Int),([],((0:Int),((0:Int),((0:Int),((0:Int),((0:Int),(false,([],([],((0:Int),([],([],((0:Int),((0:Int),((0:Int),((0:Int),((0:Int),(false,(false,((0:Int),([],([],())))))))))))))))))))))))))))))))))))))))))),(false,())),());(c99 y.2.2).bind fun r0=>(c79 (y.1,())).bind fun r1=>(c75 (y.2.1,())).bind fun r2=>(c80 ()).bind fun r3=>(c81 (y.1,())).bind fun r4=>(c82 ()).bind fun r5=>(c100 (r0.1.1,())).bind fun r6=>(c100 (r0.1.1,())).bind fun r7=>bif (!r0.1.2.1)then X0 else (c16 ((r1.1.1.1,(r2.1.1,(r3.1.1.1,(r3.1.1.2.1,(r4.1.1.1,(r4.1.1.2.1,(r4.1.1.2.2.1,(r4.1.1.2.2.2.1,(r4.1.1.2.2.2.2.1,(r4.1.1.2.2.2.2.2.1,(r4.1.1.2.2.2.2.2.2.1,(r4.1.1.2.2.2.2.2.2.2.1,(false,((0:Int),((0:Int),(false,((0:Int),(false,((0:Int),((0:Int),([],(r5.1.1.1,(r5.1.1.2.1,(r5.1.1.2.2.1,(r5.1.1.2.2.2.1,(r5.1.1.2.2.2.2.1,(r5.1.1.2.2.2.2.2.1,(r5.1.1.2.2.2.2.2.2.1,(r5.1.1.2.2.2.2.2.2.2.1,(r6.1.1.1,(r6.1.1.2.1,([],((0:Int),((0:Int),((0:Int),((0:Int),((0:Int),(false,(false,(r7.1.1.1,(r7.1.1.2.1,([],())))))))))))))))))))))))))))))))))))))))))),())).bind fun r8=>bif (!r8.1.1)then X0 else some (((r1.1.1.1,(r2.1.1,(r3.1.1.1,(r3.1.1.2.1,(r4.1.1.1,(r4.1.1.2.1,(r4.1.1.2.2.1,(r4.1.1.2.2.2.1,(r4.1.1.2.2.2.2.1,(r4.1.1.2.2.2.2.2.1,(r4.1.1.2.2.2.2.2.2.1,(r4.1.1.2.2.2.2.2.2.2.1,(false,((0:Int),((0:Int),(false,((0:Int),(false,((0:Int),((0:Int),([],(r5.1.1.1,(r5.1.1.2.1,(r5.1.1.2.2.1,(r5.1.1.2.2.2.1,(r5.1.1.2.2.2.2.1,(r5.1.1.2.2.2.2.2.1,(r5.1.1.2.2.2.2.2.2.1,(r5.1.1.2.2.2.2.2.2.2.1,(r6.1.1.1,(r6.1.1.2.1,([],((0:Int),((0:Int),((0:Int),((0:Int),((0:Int),(false,(false,(r7.1.1.1,(r7.1.1.2.1,([],())))))))))))))))))))))))))))))))))))))))))),(true,())),())
theorem s36 (c81:F81) (c80:F80) (c82:F82) (c99:F99) (c16:F16) (c79:F79) (c75:F75) (c100:F100) (y):TE [g81 c81,g80 c80,g82 c82,g99 c99,g16 c16,g79 c79,g75 c75,g100 c100] Tryz.f36 i36 o36 y=m36 c81 c80 c82 c99 c16 c79 c75 c100 y:=by kernel_rfl
noncomputable def r36:F36:=m36 r81 r80 r82 r99 r16 r79 r75 r100
theorem k36:KO (g36 r36):=fk (s36 r81 r80 r82 r99 r16 r79 r75 r100) ⟨k81,k80,k82,k99,k16,k79,k75,k100,⟨⟩⟩ (by kernel_rfl)
abbrev i50:Ts:=[.a q12, .v (.int .i64)]
abbrev o50:Ts:=[.a q13, .v (.bool)]
abbrev F50:=FT i50 o50
abbrev g50:=mkG 50 i50 o50
noncomputable def m50 (c59:F59) (c16:F16) (c58:F58) (y:PTup i50):Option (PTup o50×BTup i50):=
  (c16 (y.1,())).bind fun r0=>
  bif (!r0.1.1)then (some ((([],([],([],((0:Int),((0:Int),((0:Int),((0:Int),((0:Int),(false,(false,(false,(false,(false,((0:Int),((0:Int),(false,((0:Int),(false,((0:Int),((0:Int),([],((0:Int),((0:Int),((0:Int),((0:Int),((0:Int),(false,([],([],((0:Int),([],([],((0:Int),((0:Int),((0:Int),((0:Int),((0:Int),(false,(false,((0:Int),([],([],())))))))))))))))))))))))))))))))))))))))))),(false,())),()))
  else (c58 (y.1,())).bind fun r1=>
  (c59 (r1.1.1,y.2)).bind fun r2=>
  some (((r1.1.1.1,(r1.1.1.2.1,r2.2.1.2.2)),r2.1),())
theorem s50 (c59:F59) (c16:F16) (c58:F58) (y):TE [g59 c59,g16 c16,g58 c58] Tryz.f50 i50 o50 y=m50 c59 c16 c58 y:=by kernel_rfl
noncomputable def r50:F50:=m50 r59 r16 r58
theorem k50:KO (g50 r50):=fk (s50 r59 r16 r58) ⟨k59,k16,k58,⟨⟩⟩ (by kernel_rfl)
abbrev i52:Ts:=[.a q12]
abbrev o52:Ts:=[.v (.sl true .i)]
abbrev F52:=FT i52 o52
abbrev g52:=mkG 52 i52 o52
abbrev lc52_0:Ts:=[]
abbrev lb52_0:Ts:=[.p q12]
abbrev lv52_0:Ts:=[.v (.sl true .i), .v (.int .i64)]
abbrev lr52_0:Ts:=[]
abbrev R52_0:=Option (Sum (PTup lv52_0) (PTup lr52_0)×BTup lb52_0)
abbrev B52_0:=PTup lb52_0→PTup lv52_0→R52_0
abbrev A52_0:=PTup lc52_0→B52_0
noncomputable def w52_0 (c50:F50) (again:B52_0) (x:PTup lc52_0) (y:PTup lb52_0) (z:PTup lv52_0):R52_0:=
  bif (leI z.2.1 2)then ((c50 (y.1,z.2)).bind fun r0=>
   bif r0.1.2.1 then (bif (leN ((List.length z.1)+(List.length (z.2.1::[]))) (E.most .i))then (again (y.1,()) ((z.1++(z.2.1::[])),((wI (z.2.1+1)),())))
    else none)
   else again (y.1,()) (z.1,((wI (z.2.1+1)),())))
  else some ((Sum.inl z),(y.1,()))
noncomputable def e52_0 (l:A52_0):LoopE:=⟨[],lc52_0,[1],lb52_0,[3,4],lv52_0,[],lr52_0,0,[],l⟩
noncomputable def m52 (c50:F50) (l0:A52_0) (y:PTup i52):Option (PTup o52×BTup i52):=
  (l0 () (y.1,()) ([],((0:Int),()))).bind fun r0=>
  sumElim r0.1 (fun r1=>some ((r1.1,()),()))
  (fun r1=>some (([],()),()))
noncomputable def E52 (c50:F50) (l0:A52_0):CEnv:=⟨⟨Tryz.prog,fnsL [g50 c50]⟩,loopsL [(3,e52_0 l0)]⟩
theorem t52_0 (c50:F50) (l0:A52_0) (again) (x y z):loopRound (E52 c50 l0) (loopAt (bodyOf Tryz.f52) 0) (e52_0 l0) Tryz.f52.ntmps again x y z=w52_0 c50 again x y z:=by kernel_rfl
noncomputable def n52_0 (c50:F50):Nat→A52_0
  |0,_,_,_=>none
  |n+1,x,y,z=>w52_0 c50 (fun y z=>n52_0 c50 n x y z) x y z
theorem s52 (c50:F50) (l0:A52_0) (y):tevF (E52 c50 l0) Tryz.f52 i52 o52 y=m52 c50 l0 y:=by kernel_rfl
noncomputable def L52_0:A52_0:=n52_0 r50 fuel
noncomputable def r52:F52:=m52 r50 L52_0
theorem k52:KO (g52 r52):=by
  have hE: ∀g f,(E52 r50 L52_0).env.fns g=some f→CallOk Tryz.prog g f:=fnsL_ok ⟨k50,⟨⟩⟩
  have h0:LoopOk Tryz.prog Tryz.f52.ntmps (loopAt (bodyOf Tryz.f52) 0) (e52_0 L52_0):=lp_ok (E:=E52 r50 L52_0) rfl hE mixed (AllLoops.of_list (l:=[]) (by kernel_rfl) trivial) (n52_0 r50) (fun _ _ _=>rfl) (fun n x y z=>t52_0 r50 L52_0 _ x y z) rfl
  exact fn_ok (E:=E52 r50 L52_0) rfl hE mixed (by kernel_rfl) (by kernel_rfl) (AllLoops.of_list (l:=[(loopAt (bodyOf Tryz.f52) 0)]) (by kernel_rfl) (.one (by kernel_rfl) h0 trivial)) (s52 r50 L52_0)
abbrev i128:Ts:=[.a q12]
abbrev o128:Ts:=[.v (.int .i64)]
abbrev F128:=FT i128 o128
abbrev g128:=mkG 128 i128 o128
noncomputable def m128 (c165:F165) (c16:F16) (y:PTup i128):Option (PTup o128×BTup i128):=
  (c16 (y.1,())).bind fun r0=>
  bif (!r0.1.1)then (some (((6:Int),()),()))
  else (c165 (y.1,())).bind fun r1=>
  some (r1.1,())
theorem s128 (c165:F165) (c16:F16) (y):TE [g165 c165,g16 c16] Tryz.f128 i128 o128 y=m128 c165 c16 y:=by kernel_rfl
noncomputable def r128:F128:=m128 r165 r16
theorem k128:KO (g128 r128):=fk (s128 r165 r16) ⟨k165,k16,⟨⟩⟩ (by kernel_rfl)
abbrev i53:Ts:=[.a q12]
abbrev o53:Ts:=[.v (.bool)]
abbrev F53:=FT i53 o53
abbrev g53:=mkG 53 i53 o53
noncomputable def m53 (c52:F52) (c23:F23) (c16:F16) (c128:F128) (y:PTup i53):Option (PTup o53×BTup i53):=
  (c16 (y.1,())).bind fun r0=>
  bif r0.1.1 then ((c52 (y.1,())).bind fun r1=>
   bif (ltI 0 (lenI r1.1.1))then (some ((true,()),()))
   else (c23 (y.1,())).bind fun r2=>
   (c128 (r2.1.1,())).bind fun r3=>
   some (((eqI r3.1.1 5),()),()))
  else no
theorem s53 (c52:F52) (c23:F23) (c16:F16) (c128:F128) (y):TE [g52 c52,g23 c23,g16 c16,g128 c128] Tryz.f53 i53 o53 y=m53 c52 c23 c16 c128 y:=by kernel_rfl
noncomputable def r53:F53:=m53 r52 r23 r16 r128
theorem k53:KO (g53 r53):=fk (s53 r52 r23 r16 r128) ⟨k52,k23,k16,k128,⟨⟩⟩ (by kernel_rfl)
abbrev i47:Ts:=[.a q12]
abbrev o47:Ts:=[.v (.bool)]
abbrev F47:=FT i47 o47
abbrev g47:=mkG 47 i47 o47
noncomputable def m47 (c53:F53) (c21:F21) (c28:F28) (c22:F22) (y:PTup i47):Option (PTup o47×BTup i47):=
  (c21 (y.1,())).bind fun r0=>
  bif r0.1.1 then ((c22 (y.1,())).bind fun r1=>
   bif r1.1.1 then ((c28 (y.1,())).bind fun r2=>
    bif r2.1.1 then ((c53 (y.1,())).bind fun r3=>
     some (r3.1,()))
    else no)
   else no)
  else no
theorem s47 (c53:F53) (c21:F21) (c28:F28) (c22:F22) (y):TE [g53 c53,g21 c21,g28 c28,g22 c22] Tryz.f47 i47 o47 y=m47 c53 c21 c28 c22 y:=by kernel_rfl
noncomputable def r47:F47:=m47 r53 r21 r28 r22
theorem k47:KO (g47 r47):=fk (s47 r53 r21 r28 r22) ⟨k53,k21,k28,k22,⟨⟩⟩ (by kernel_rfl)
abbrev i9:Ts:=[.v (.sl false .b)]
abbrev o9:Ts:=[.v (.bool)]
abbrev F9:=FT i9 o9
abbrev g9:=mkG 9 i9 o9
noncomputable def m9 (c27:F27) (c47:F47) (c24:F24) (c49:F49) (c26:F26) (c36:F36) (c12:F12) (c35:F35) (c48:F48) (c37:F37) (y:PTup i9):Option (PTup o9×BTup i9):=
  (c12 y).bind fun r0=>
  bif r0.1.1 then (some ((true,()),()))
  else (c35 y).bind fun r1=>
  (c36 r1.1).bind fun r2=>
  (c37 r1.1).bind fun r3=>
  (c24 (r1.1.1,(r1.1.2.1,()))).bind fun r4=>
  (c48 (r1.1.1,(r1.1.2.1,()))).bind fun r5=>
  bif (!(r2.1.2.1==r3.1.2.1))then no
  else bif (!(r4.1.2.1==r5.1.2.1))then no
  else bif (!r2.1.2.1)then (some (((eqI (lenI r2.1.1.2.2.1) 0),()),()))
  else bif r4.1.2.1 then ((c27 (r2.1.1,())).bind fun r6=>
   (c26 (r6.1.1,(r4.1.1,()))).bind fun r7=>
   bif r7.1.1 then ((c49 (r4.1.1,())).bind fun r8=>
    bif r8.1.1 then (bif (eqI r2.1.1.2.2.2.2.2.2.2.2.2.2.2.2.2.2.1 0)then ((c47 (r2.1.1,())).bind fun r9=>
      some (r9.1,()))
     else no)
    else no)
   else no)
  else no
theorem s9 (c27:F27) (c47:F47) (c24:F24) (c49:F49) (c26:F26) (c36:F36) (c12:F12) (c35:F35) (c48:F48) (c37:F37) (y):TE [g27 c27,g47 c47,g24 c24,g49 c49,g26 c26,g36 c36,g12 c12,g35 c35,g48 c48,g37 c37] Tryz.f9 i9 o9 y=m9 c27 c47 c24 c49 c26 c36 c12 c35 c48 c37 y:=by kernel_rfl
noncomputable def r9:F9:=m9 r27 r47 r24 r49 r26 r36 r12 r35 r48 r37
theorem k9:KO (g9 r9):=fk (s9 r27 r47 r24 r49 r26 r36 r12 r35 r48 r37) ⟨k27,k47,k24,k49,k26,k36,k12,k35,k48,k37,⟨⟩⟩ (by kernel_rfl)
end Go.Proofs.YtgpifihakjdfeaaGreat.Plain
