import Derived.Test.YtigjebgjphmkoaaGreatA04
import Derived.Test.YtigjebgjphmkoaaGreatA06
import Derived.Test.YtigjebgjphmkoaaGreatA07
import Derived.Test.YtigjebgjphmkoaaGreatA12
import Derived.Test.YtigjebgjphmkoaaGreatA13
import Derived.Test.YtigjebgjphmkoaaGreatA15
import Derived.Test.YtigjebgjphmkoaaGreatA16
import Derived.Test.YtigjebgjphmkoaaGreatA17
import Derived.Test.YtigjebgjphmkoaaGreatA18
set_option linter.unusedVariables false
set_option linter.unusedSimpArgs false
namespace Go.Proofs.YtigjebgjphmkoaaGreat
open Tryz
section
open Go Go.Kx Go.Proofs Go.Kx.Au Go.Kx.W
set_option maxRecDepth 20000
set_option maxHeartbeats 20000000
instance OS {p0 p1 H Q}:ae prog 127 (oy p0 p1 H Q) [.pointer p0,.agg (uE p1).toArray] H (λv H'=>∃ r0,v=VI r0/\Q r0 H'):=aR (oy.eq_1 ..) func127 ntmps127
instance Jn {p0 H Q}:ae prog 71 (je p0 H Q) [.pointer p0] H (λv H'=>∃ r0 r1,v= .tuple #[Sl.v r0,VI r1]/\Q r0 r1 H'):=aR (je.eq_1 ..) func71 ntmps71
instance Py {p0 p1 p2 H Q}:ae prog 51 (kh p0 p1 p2 H Q) [.pointer p0,VI p1,VI p2] H (λv H'=>∃ r0,v=VI r0/\Q r0 H'):=aR (kh.eq_1 ..) func51 ntmps51
instance G7 {p0 p1 H Q}:ae prog 150 (jl p0 p1 H Q) [.pointer p0,VI p1] H (λv H'=>v= .tuple #[]/\Q H'):=aR (jl.eq_1 ..) func150 ntmps150
instance Jo {p0 H Q}:ae prog 98 (iM p0 H Q) [.pointer p0] H (λv H'=>∃ r0 r1,v= .tuple #[Sl.v r0,VI r1]/\Q r0 r1 H'):=aR (iM.eq_1 ..) func98 ntmps98
instance Lj {p0 p1 H Q}:ae prog 94 (mN p0 p1 H Q) [.pointer p0,VI p1] H (λv H'=>∃ r0 r1,v= .tuple #[Sl.v r0,VI r1]/\Q r0 r1 H'):=aR (mN.eq_1 ..) func94 ntmps94
instance Zu {p0 H Q}:ae prog 95 (By p0 H Q) [.agg (bS p0).toArray] H (λv H'=>∃ r0 r1,v= .tuple #[.agg (b9 r0).toArray,.bool r1]/\Q r0 r1 H'):=aR (By.eq_1 ..) func95 ntmps95
instance JF {p0 p1 H Q}:ae prog 153 (fm p0 p1 H Q) [.pointer p0,VI p1] H (λv H'=>∃ r0,v= .pointer r0/\Q r0 H'):=aR (fm.eq_1 ..) func153 ntmps153
instance Iz {p0 p1 p2 H Q}:ae prog 96 (kO p0 p1 p2 H Q) [.pointer p0,VI p1,.agg (b9 p2).toArray] H (λv H'=>∃ r0,v=VI r0/\Q r0 H'):=aR (kO.eq_1 ..) func96 ntmps96
instance Hh {p0 H Q}:ae prog 154 (fN p0 H Q) [.pointer p0] H (λv H'=>∃ r0 r1,v= .tuple #[.agg (b9 r0).toArray,.bool r1]/\Q r0 r1 H'):=aR (fN.eq_1 ..) func154 ntmps154
instance Sm {p0 p1 p2 H Q}:ae prog 82 (mO p0 p1 p2 H Q) [.pointer p0,VI p1,VI p2] H (λv H'=>∃ r0,v= .bool r0/\Q r0 H'):=aR (mO.eq_1 ..) func82 ntmps82
instance Pz {p0 H Q}:ae prog 134 (pz p0 H Q) [.pointer p0] H (λv H'=>∃ r0,v=VI r0/\Q r0 H'):=aR (pz.eq_1 ..) func134 ntmps134
end
end Go.Proofs.YtigjebgjphmkoaaGreat
