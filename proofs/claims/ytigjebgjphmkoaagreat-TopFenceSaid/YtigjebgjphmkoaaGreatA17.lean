import Derived.Test.YtigjebgjphmkoaaGreatA04
import Derived.Test.YtigjebgjphmkoaaGreatA05
import Derived.Test.YtigjebgjphmkoaaGreatA10
import Derived.Test.YtigjebgjphmkoaaGreatA12
import Derived.Test.YtigjebgjphmkoaaGreatA14
import Derived.Test.YtigjebgjphmkoaaGreatA15
import Derived.Test.YtigjebgjphmkoaaGreatA16
set_option linter.unusedVariables false
set_option linter.unusedSimpArgs false
namespace Go.Proofs.YtigjebgjphmkoaaGreat
open Tryz
section
open Go Go.Kx Go.Proofs Go.Kx.Au Go.Kx.W
set_option maxRecDepth 20000
set_option maxHeartbeats 20000000
instance Pr {p0 H Q}:ae prog 107 (pt p0 H Q) [.pointer p0] H (λv H'=>∃ r0,v=r0/\Q r0 H'):=aR (pt.eq_1 ..) func107 ntmps107
instance WX {p0 H Q}:ae prog 109 (ny p0 H Q) [.agg (bS p0).toArray] H (λv H'=>∃ r0 r1,v= .tuple #[Sl.v r0,VI r1]/\Q r0 r1 H'):=aR (ny.eq_1 ..) func109 ntmps109
instance Ps {p0 H Q}:ae prog 65 (pv p0 H Q) [.pointer p0] H (λv H'=>∃ r0,v=Sl.v r0/\Q r0 H'):=rR (pv.eq_1 ..) func65 ntmps65
instance Tf {p0 p1 H Q}:ae prog 64 (qQ p0 p1 H Q) [.pointer p0,Sl.v p1] H (λv H'=>∃ r0,v=VI r0/\Q r0 H'):=aR (qQ.eq_1 ..) func64 ntmps64
instance VT {p0 H Q}:ae prog 114 (rV p0 H Q) [.pointer p0] H (λv H'=>∃ r0,v=VI r0/\Q r0 H'):=aR (rV.eq_1 ..) func114 ntmps114
instance VU {p0 p1 H Q}:ae prog 185 (yE p0 p1 H Q) [.pointer p0,VI p1] H (λv H'=>∃ r0,v= .bool r0/\Q r0 H'):=aR (yE.eq_1 ..) func185 ntmps185
instance FY {p0 p1 p2 H Q}:ae prog 186 (iY p0 p1 p2 H Q) [Sl.v p0,VI p1,VI p2] H (λv H'=>∃ r0,v=Sl.v r0/\Q r0 H'):=aR (iY.eq_1 ..) func186 ntmps186
instance Th {p0 p1 H Q}:ae prog 115 (tk p0 p1 H Q) [.pointer p0,VI p1] H (λv H'=>∃ r0 r1,v= .tuple #[Sl.v r0,.bool r1]/\Q r0 r1 H'):=aR (tk.eq_1 ..) func115 ntmps115
instance VV {p0 p1 H Q}:ae prog 110 (rW p0 p1 H Q) [.pointer p0,VI p1] H (λv H'=>∃ r0 r1,v= .tuple #[Sl.v r0,.bool r1]/\Q r0 r1 H'):=aR (rW.eq_1 ..) func110 ntmps110
instance WY {p0 H Q}:ae prog 91 (tB p0 H Q) [Sl.v p0] H (λv H'=>∃ r0 r1,v= .tuple #[.agg (bS r0).toArray,VI r1]/\Q r0 r1 H'):=aR (tB.eq_1 ..) func91 ntmps91
instance Qk {p0 H Q}:ae prog 122 (oA p0 H Q) [.pointer p0] H (λv H'=>∃ r0,v= .pointer r0/\Q r0 H'):=aR (oA.eq_1 ..) func122 ntmps122
instance Ti {p0 H Q}:ae prog 88 (iL p0 H Q) [.pointer p0] H (λv H'=>∃ r0,v= .bool r0/\Q r0 H'):=aR (iL.eq_1 ..) func88 ntmps88
instance Le {p0 H Q}:ae prog 92 (jz p0 H Q) [.pointer p0] H (λv H'=>∃ r0,v=VI r0/\Q r0 H'):=aR (jz.eq_1 ..) func92 ntmps92
instance JE {p0 p1 H Q}:ae prog 93 (lB p0 p1 H Q) [.pointer p0,.agg (bS p1).toArray] H (λv H'=>∃ r0,v= .bool r0/\Q r0 H'):=aR (lB.eq_1 ..) func93 ntmps93
instance Ql {p0 p1 p2 H Q}:ae prog 89 (jt p0 p1 p2 H Q) [.pointer p0,VI p1,Sl.v p2] H (λv H'=>v= .tuple #[]/\Q H'):=aR (jt.eq_1 ..) func89 ntmps89
instance Qm {p0 p1 p2 H Q}:ae prog 81 (ir p0 p1 p2 H Q) [.pointer p0,VI p1,.bool p2] H (λv H'=>∃ r0,v=VI r0/\Q r0 H'):=aR (ir.eq_1 ..) func81 ntmps81
instance Pu {p0 H Q}:ae prog 197 (mv p0 H Q) [.pointer p0] H (λv H'=>∃ r0,v= .agg (ag r0).toArray/\Q r0 H'):=aR (mv.eq_1 ..) func197 ntmps197
end
end Go.Proofs.YtigjebgjphmkoaaGreat
