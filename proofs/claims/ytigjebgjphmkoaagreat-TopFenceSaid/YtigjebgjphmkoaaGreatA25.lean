import Derived.Test.YtigjebgjphmkoaaGreatA04
import Derived.Test.YtigjebgjphmkoaaGreatA15
import Derived.Test.YtigjebgjphmkoaaGreatA18
import Derived.Test.YtigjebgjphmkoaaGreatA21
import Derived.Test.YtigjebgjphmkoaaGreatA23
import Derived.Test.YtigjebgjphmkoaaGreatA24
set_option linter.unusedVariables false
set_option linter.unusedSimpArgs false
namespace Go.Proofs.YtigjebgjphmkoaaGreat
open Tryz
section
open Go Go.Kx Go.Proofs Go.Kx.Au Go.Kx.W
set_option maxRecDepth 20000
set_option maxHeartbeats 20000000
instance BD {p0 p1 H Q}:ae prog 3 (sJ p0 p1 H Q) [VI p0,Sl.v p1] H (λv H'=>∃ r0,v= .bool r0/\Q r0 H'):=aR (sJ.eq_1 ..) func3 ntmps3
end
end Go.Proofs.YtigjebgjphmkoaaGreat
