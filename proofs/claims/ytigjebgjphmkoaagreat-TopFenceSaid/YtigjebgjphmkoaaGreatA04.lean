import Derived.Test.YtigjebgjphmkoaaGreatA03
set_option linter.unusedVariables false
set_option linter.unusedSimpArgs false
namespace Go.Proofs.YtigjebgjphmkoaaGreat
open Tryz
section
open Go Go.Kx Go.Proofs Go.Kx.Au Go.Kx.W
set_option maxRecDepth 20000
set_option maxHeartbeats 20000000
instance SX {p0 p1 H Q}:ae prog 44 (om p0 p1 H Q) [VI p0,VI p1] H (λv H'=>∃ r0,v=VI r0/\Q r0 H'):=aR (om.eq_1 ..) func44 ntmps44
instance OE {p0 p1 H Q}:ae prog 12 (gq p0 p1 H Q) [VI p0,VI p1] H (λv H'=>∃ r0,v=VI r0/\Q r0 H'):=aR (gq.eq_1 ..) func12 ntmps12
instance QU {p0 H Q}:ae prog 5 (nj p0 H Q) [VI p0] H (λv H'=>∃ r0,v= .agg (fZ r0).toArray/\Q r0 H'):=aR (nj.eq_1 ..) func5 ntmps5
instance XR {p0 p1 p2 H Q}:ae prog 99 (fQ p0 p1 p2 H Q) [VI p0,VI p1,VI p2] H (λv H'=>∃ r0,v= .bool r0/\Q r0 H'):=aR (fQ.eq_1 ..) func99 ntmps99
instance Zk {p0 H Q}:ae prog 54 (qt p0 H Q) [.agg (fZ p0).toArray] H (λv H'=>∃ r0 r1,v= .tuple #[.pointer r0,VI r1]/\Q r0 r1 H'):=aR (qt.eq_1 ..) func54 ntmps54
instance YO {p0 p1 H Q}:ae prog 55 (yR p0 p1 H Q) [VI p0,VI p1] H (λv H'=>∃ r0,v= .pointer r0/\Q r0 H'):=aR (yR.eq_1 ..) func55 ntmps55
instance geom_up_s {p0 p1 H Q}:ae prog 235 (Az p0 p1 H Q) [VI p0,VI p1] H (λv H'=>∃ r0,v=VI r0/\Q r0 H'):=aR (Az.eq_1 ..) func235 ntmps235
instance Mq {p0 H Q}:ae prog 158 (fA p0 H Q) [.pointer p0] H (λv H'=>∃ r0,v=VI r0/\Q r0 H'):=aR (fA.eq_1 ..) func158 ntmps158
instance QV {p0 H Q}:ae prog 195 (dF p0 H Q) [.pointer p0] H (λv H'=>∃ r0,v= .agg (fZ r0).toArray/\Q r0 H'):=aR (dF.eq_1 ..) func195 ntmps195
instance SY {p0 H Q}:ae prog 159 (eU p0 H Q) [.pointer p0] H (λv H'=>∃ r0,v=VI r0/\Q r0 H'):=aR (eU.eq_1 ..) func159 ntmps159
instance TW {p0 H Q}:ae prog 100 (lJ p0 H Q) [.pointer p0] H (λv H'=>∃ r0,v=VI r0/\Q r0 H'):=aR (lJ.eq_1 ..) func100 ntmps100
instance Pb {p0 H Q}:ae prog 57 (jS p0 H Q) [.pointer p0] H (λv H'=>∃ r0,v=VI r0/\Q r0 H'):=aR (jS.eq_1 ..) func57 ntmps57
instance ZE {p0 H Q}:ae prog 56 (xm p0 H Q) [VI p0] H (λv H'=>∃ r0 r1,v= .tuple #[.pointer r0,VI r1]/\Q r0 r1 H'):=aR (xm.eq_1 ..) func56 ntmps56
instance OF {p0 H Q}:ae prog 160 (jw p0 H Q) [.pointer p0] H (λv H'=>∃ r0,v=VI r0/\Q r0 H'):=aR (jw.eq_1 ..) func160 ntmps160
instance TX {p0 p1 H Q}:ae prog 278 (qM p0 p1 H Q) [.pointer p0,VI p1] H (λv H'=>∃ r0,v= .bool r0/\Q r0 H'):=aR (qM.eq_1 ..) func278 ntmps278
instance Ix {p0 H Q}:ae prog 106 (cC p0 H Q) [Sl.v p0] H (λv H'=>∃ r0,v=Sl.v r0/\Q r0 H'):=aR (cC.eq_1 ..) func106 ntmps106
instance SZ {p0 p1 H Q}:ae prog 225 (gm p0 p1 H Q) [.pointer p0,VI p1] H (λv H'=>∃ r0 r1,v= .tuple #[Sl.v r0,VI r1]/\Q r0 r1 H'):=aR (gm.eq_1 ..) func225 ntmps225
instance WJ {p0 H Q}:ae prog 161 (sw p0 H Q) [.pointer p0] H (λv H'=>∃ r0 r1,v= .tuple #[.agg (uE r0).toArray,VI r1]/\Q r0 r1 H'):=aR (sw.eq_1 ..) func161 ntmps161
instance Zl {p0 H Q}:ae prog 145 (mj p0 H Q) [Sl.v p0] H (λv H'=>∃ r0,v= .pointer r0/\Q r0 H'):=aR (mj.eq_1 ..) func145 ntmps145
instance WK {p0 H Q}:ae prog 148 (kN p0 H Q) [.pointer p0] H (λv H'=>∃ r0,v=VI r0/\Q r0 H'):=aR (kN.eq_1 ..) func148 ntmps148
instance WL {p0 p1 H Q}:ae prog 146 (ft p0 p1 H Q) [.pointer p0,VI p1] H (λv H'=>∃ r0 r1,v= .tuple #[Sl.v r0,.bool r1]/\Q r0 r1 H'):=aR (ft.eq_1 ..) func146 ntmps146
instance Zm {p0 H Q}:ae prog 228 (zJ p0 H Q) [VI p0] H (λv H'=>∃ r0,v= .bool r0/\Q r0 H'):=aR (zJ.eq_1 ..) func228 ntmps228
instance XS {p0 p1 H Q}:ae prog 147 (cA p0 p1 H Q) [.pointer p0,VI p1] H (λv H'=>∃ r0 r1,v= .tuple #[VI r0,.bool r1]/\Q r0 r1 H'):=aR (cA.eq_1 ..) func147 ntmps147
end
end Go.Proofs.YtigjebgjphmkoaaGreat
