import Derived.Test.YtigjebgjphmkoaaGreatA04
import Derived.Test.YtigjebgjphmkoaaGreatA08
import Derived.Test.YtigjebgjphmkoaaGreatA13
import Derived.Test.YtigjebgjphmkoaaGreatA14
import Derived.Test.YtigjebgjphmkoaaGreatA15
import Derived.Test.YtigjebgjphmkoaaGreatA16
import Derived.Test.YtigjebgjphmkoaaGreatA18
import Derived.Test.YtigjebgjphmkoaaGreatA19
import Derived.Test.YtigjebgjphmkoaaGreatA20
import Derived.Test.YtigjebgjphmkoaaGreatA21
set_option linter.unusedVariables false
set_option linter.unusedSimpArgs false
namespace Go.Proofs.YtigjebgjphmkoaaGreat
open Tryz
section
open Go Go.Kx Go.Proofs Go.Kx.Au Go.Kx.W
set_option maxRecDepth 20000
set_option maxHeartbeats 20000000
instance VW {p0 p1 p2 H Q}:ae prog 190 (mo p0 p1 p2 H Q) [VI p0,VI p1,VI p2] H (λv H'=>∃ r0,v= .bool r0/\Q r0 H'):=aR (mo.eq_1 ..) func190 ntmps190
instance P5 {p0 p1 H Q}:ae prog 194 (qA p0 p1 H Q) [.pointer p0,VI p1] H (λv H'=>∃ r0,v=VI r0/\Q r0 H'):=aR (qA.eq_1 ..) func194 ntmps194
instance YZ {p0 p1 H Q}:ae prog 193 (yZ p0 p1 H Q) [VI p0,VI p1] H (λv H'=>∃ r0,v=VI r0/\Q r0 H'):=aR (yZ.eq_1 ..) func193 ntmps193
instance WZ {p0 p1 p2 H Q}:ae prog 192 (wD p0 p1 p2 H Q) [VI p0,VI p1,VI p2] H (λv H'=>∃ r0,v=VI r0/\Q r0 H'):=aR (wD.eq_1 ..) func192 ntmps192
instance VX {p0 p1 H Q}:ae prog 196 (uu p0 p1 H Q) [.agg (fZ p0).toArray,.agg (fZ p1).toArray] H (λv H'=>∃ r0,v= .bool r0/\Q r0 H'):=aR (uu.eq_1 ..) func196 ntmps196
instance Xn {p0 p1 p2 H Q}:ae prog 119 (xO p0 p1 p2 H Q) [.pointer p0,.pointer p1,VI p2] H (λv H'=>∃ r0 r1,v= .tuple #[VI r0,.bool r1]/\Q r0 r1 H'):=rR (xO.eq_1 ..) func119 ntmps119
instance Xo {p0 H Q}:ae prog 130 (AZ p0 H Q) [.pointer p0] H (λv H'=>∃ r0,v= .bool r0/\Q r0 H'):=aR (AZ.eq_1 ..) func130 ntmps130
instance Xp {p0 H Q}:ae prog 72 (Aa p0 H Q) [.pointer p0] H (λv H'=>∃ r0 r1,v= .tuple #[VI r0,VI r1]/\Q r0 r1 H'):=aR (Aa.eq_1 ..) func72 ntmps72
instance P6 {p0 H Q}:ae prog 33 (mw p0 H Q) [.pointer p0] H (λv H'=>∃ r0 r1,v= .tuple #[VI r0,VI r1]/\Q r0 r1 H'):=aR (mw.eq_1 ..) func33 ntmps33
instance Bz {p0 H Q}:ae prog 135 (dz p0 H Q) [Sl.v p0] H (λv H'=>∃ r0,v=Sl.v r0/\Q r0 H'):=aR (dz.eq_1 ..) func135 ntmps135
instance I3 {p0 H Q}:ae prog 136 (kQ p0 H Q) [Sl.v p0] H (λv H'=>∃ r0,v=Sl.v r0/\Q r0 H'):=aR (kQ.eq_1 ..) func136 ntmps136
instance Qu {p0 p1 H Q}:ae prog 77 (oD p0 p1 H Q) [.pointer p0,Sl.v p1] H (λv H'=>∃ r0,v= .pointer r0/\Q r0 H'):=aR (oD.eq_1 ..) func77 ntmps77
instance Lk {p0 p1 H Q}:ae prog 39 (mU p0 p1 H Q) [.pointer p0,.agg (b9 p1).toArray] H (λv H'=>∃ r0,v= .agg (dx r0).toArray/\Q r0 H'):=aR (mU.eq_1 ..) func39 ntmps39
instance Sq {p0 p1 H Q}:ae prog 83 (sV p0 p1 H Q) [.pointer p0,VI p1] H (λv H'=>∃ r0 r1,v= .tuple #[VI r0,.bool r1]/\Q r0 r1 H'):=aR (sV.eq_1 ..) func83 ntmps83
instance OZ {p0 p1 H Q}:ae prog 142 (tD p0 p1 H Q) [.pointer p0,VI p1] H (λv H'=>∃ r0 r1,v= .tuple #[Sl.v r0,VI r1]/\Q r0 r1 H'):=aR (tD.eq_1 ..) func142 ntmps142
instance P7 {p0 p1 H Q}:ae prog 84 (uG p0 p1 H Q) [.pointer p0,VI p1] H (λv H'=>∃ r0 r1,v= .tuple #[Sl.v r0,VI r1]/\Q r0 r1 H'):=aR (uG.eq_1 ..) func84 ntmps84
end
end Go.Proofs.YtigjebgjphmkoaaGreat
