import Derived.Test.YtigjebgjphmkoaaGreatA04
import Derived.Test.YtigjebgjphmkoaaGreatA07
import Derived.Test.YtigjebgjphmkoaaGreatA08
import Derived.Test.YtigjebgjphmkoaaGreatA09
import Derived.Test.YtigjebgjphmkoaaGreatA11
import Derived.Test.YtigjebgjphmkoaaGreatA13
import Derived.Test.YtigjebgjphmkoaaGreatA14
set_option linter.unusedVariables false
set_option linter.unusedSimpArgs false
namespace Go.Proofs.YtigjebgjphmkoaaGreat
open Tryz
section
open Go Go.Kx Go.Proofs Go.Kx.Au Go.Kx.W
set_option maxRecDepth 20000
set_option maxHeartbeats 20000000
instance YV {p0 H Q}:ae prog 102 (yX p0 H Q) [.pointer p0] H (λv H'=>∃ r0 r1,v= .tuple #[.pointer r0,VI r1]/\Q r0 r1 H'):=aR (yX.eq_1 ..) func102 ntmps102
instance M0 {p0 H Q}:ae prog 79 (oO p0 H Q) [.pointer p0] H (λv H'=>∃ r0,v=VI r0/\Q r0 H'):=rR (oO.eq_1 ..) func79 ntmps79
instance OM {p0 H Q}:ae prog 40 (eI p0 H Q) [.pointer p0] H (λv H'=>∃ r0,v= .agg (dB r0).toArray/\Q r0 H'):=rR (eI.eq_1 ..) func40 ntmps40
instance Pn {p0 p1 H Q}:ae prog 177 (pr p0 p1 H Q) [VI p0,VI p1] H (λv H'=>∃ r0,v= .pointer r0/\Q r0 H'):=aR (pr.eq_1 ..) func177 ntmps177
instance Xl {p0 p1 H Q}:ae prog 103 (AY p0 p1 H Q) [.pointer p0,VI p1] H (λv H'=>∃ r0,v= .pointer r0/\Q r0 H'):=aR (AY.eq_1 ..) func103 ntmps103
instance YW {p0 p1 H Q}:ae prog 59 (wB p0 p1 H Q) [.pointer p0,VI p1] H (λv H'=>∃ r0 r1,v= .tuple #[.pointer r0,VI r1]/\Q r0 r1 H'):=aR (wB.eq_1 ..) func59 ntmps59
instance Xm {p0 p1 H Q}:ae prog 21 (xN p0 p1 H Q) [.agg (fZ p0).toArray,VI p1] H (λv H'=>∃ r0 r1,v= .tuple #[.pointer r0,VI r1]/\Q r0 r1 H'):=aR (xN.eq_1 ..) func21 ntmps21
instance Lc {p0 H Q}:ae prog 8 (ff p0 H Q) [.pointer p0] H (λv H'=>∃ r0,v= .pointer r0/\Q r0 H'):=aR (ff.eq_1 ..) func8 ntmps8
instance Lu {p0 H Q}:ae prog 22 (nG p0 H Q) [.pointer p0] H (λv H'=>∃ r0,v= .pointer r0/\Q r0 H'):=aR (nG.eq_1 ..) func22 ntmps22
instance Jm {p0 H Q}:ae prog 23 (lY p0 H Q) [.pointer p0] H (λv H'=>∃ r0,v= .pointer r0/\Q r0 H'):=aR (lY.eq_1 ..) func23 ntmps23
instance ON {p0 H Q}:ae prog 24 (ov p0 H Q) [.pointer p0] H (λv H'=>∃ r0,v= .pointer r0/\Q r0 H'):=aR (ov.eq_1 ..) func24 ntmps24
instance Lv {p0 H Q}:ae prog 25 (nH p0 H Q) [.pointer p0] H (λv H'=>∃ r0,v= .pointer r0/\Q r0 H'):=aR (nH.eq_1 ..) func25 ntmps25
instance Sk {p0 H Q}:ae prog 42 (sT p0 H Q) [.pointer p0] H (λv H'=>∃ r0,v= .pointer r0/\Q r0 H'):=aR (sT.eq_1 ..) func42 ntmps42
instance Ld {p0 H Q}:ae prog 43 (qP p0 H Q) [.pointer p0] H (λv H'=>∃ r0,v= .pointer r0/\Q r0 H'):=aR (qP.eq_1 ..) func43 ntmps43
instance Po {p0 H Q}:ae prog 11 (fE p0 H Q) [.pointer p0] H (λv H'=>∃ r0,v= .pointer r0/\Q r0 H'):=aR (fE.eq_1 ..) func11 ntmps11
instance Pp {p0 H Q}:ae prog 26 (kf p0 H Q) [.pointer p0] H (λv H'=>∃ r0,v= .pointer r0/\Q r0 H'):=aR (kf.eq_1 ..) func26 ntmps26
instance Pq {p0 H Q}:ae prog 27 (kg p0 H Q) [.pointer p0] H (λv H'=>∃ r0,v= .pointer r0/\Q r0 H'):=aR (kg.eq_1 ..) func27 ntmps27
instance Qi {p0 H Q}:ae prog 28 (nv p0 H Q) [.pointer p0] H (λv H'=>∃ r0,v= .pointer r0/\Q r0 H'):=aR (nv.eq_1 ..) func28 ntmps28
instance Qj {p0 p1 H Q}:ae prog 6 (nw p0 p1 H Q) [.agg (fZ p0).toArray,VI p1] H (λv H'=>∃ r0 r1,v= .tuple #[.pointer r0,.bool r1]/\Q r0 r1 H'):=aR (nw.eq_1 ..) func6 ntmps6
instance YX {p0 H Q}:ae prog 229 (yY p0 H Q) [.agg (bS p0).toArray] H (λv H'=>∃ r0,v= .agg (bS r0).toArray/\Q r0 H'):=aR (yY.eq_1 ..) func229 ntmps229
end
end Go.Proofs.YtigjebgjphmkoaaGreat
