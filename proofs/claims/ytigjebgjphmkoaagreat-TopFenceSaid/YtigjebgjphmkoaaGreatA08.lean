import Derived.Test.YtigjebgjphmkoaaGreatA04
import Derived.Test.YtigjebgjphmkoaaGreatA05
import Derived.Test.YtigjebgjphmkoaaGreatA06
import Derived.Test.YtigjebgjphmkoaaGreatA07
set_option linter.unusedVariables false
set_option linter.unusedSimpArgs false
namespace Go.Proofs.YtigjebgjphmkoaaGreat
open Tryz
section
open Go Go.Kx Go.Proofs Go.Kx.Au Go.Kx.W
set_option maxRecDepth 20000
set_option maxHeartbeats 20000000
instance WS {p0 p1 p2 H Q}:ae prog 101 (v9 p0 p1 p2 H Q) [.pointer p0,.agg (fZ p1).toArray,VI p2] H (λv H'=>∃ r0 r1,v= .tuple #[VI r0,VI r1]/\Q r0 r1 H'):=aR (v9.eq_1 ..) func101 ntmps101
instance WT {p0 p1 p2 H Q}:ae prog 58 (wA p0 p1 p2 H Q) [.pointer p0,.agg (fZ p1).toArray,VI p2] H (λv H'=>∃ r0,v=VI r0/\Q r0 H'):=aR (wA.eq_1 ..) func58 ntmps58
instance VH {p0 p1 H Q}:ae prog 293 (rT p0 p1 H Q) [.pointer p0,Sl.v p1] H (λv H'=>∃ r0 r1,v= .tuple #[.agg (bI r0).toArray,VI r1]/\Q r0 r1 H'):=aR (rT.eq_1 ..) func293 ntmps293
instance VJ {p0 p1 p2 H Q}:ae prog 244 (um p0 p1 p2 H Q) [.pointer p0,Sl.v p1,Sl.v p2] H (λv H'=>∃ r0 r1 a,v= .tuple #[.agg (bI r0).toArray,VI r1,VI a]/\Q r0 r1 a H'):=aR (um.eq_1 ..) func244 ntmps244
instance ZH {p0 H Q}:ae prog 246 (z6 p0 H Q) [VI p0] H (λv H'=>∃ r0,v= .pointer r0/\Q r0 H'):=aR (z6.eq_1 ..) func246 ntmps246
instance XZ {p0 H Q}:ae prog 247 (xK p0 H Q) [Sl.v p0] H (λv H'=>∃ r0 r1,v= .tuple #[Sl.v r0,VI r1]/\Q r0 r1 H'):=aR (xK.eq_1 ..) func247 ntmps247
instance Pe {p0 p1 H Q}:ae prog 137 (cv p0 p1 H Q) [.pointer p0,.bool p1] H (λv H'=>∃ r0,v= .pointer r0/\Q r0 H'):=aR (cv.eq_1 ..) func137 ntmps137
end
end Go.Proofs.YtigjebgjphmkoaaGreat
