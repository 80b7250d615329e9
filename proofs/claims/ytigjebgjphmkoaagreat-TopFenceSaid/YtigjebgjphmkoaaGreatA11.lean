import Derived.Test.YtigjebgjphmkoaaGreatA04
import Derived.Test.YtigjebgjphmkoaaGreatA05
import Derived.Test.YtigjebgjphmkoaaGreatA10
set_option linter.unusedVariables false
set_option linter.unusedSimpArgs false
namespace Go.Proofs.YtigjebgjphmkoaaGreat
open Tryz
section
open Go Go.Kx Go.Proofs Go.Kx.Au Go.Kx.W
set_option maxRecDepth 20000
set_option maxHeartbeats 20000000
instance Zr {p0 H Q}:ae prog 218 (vE p0 H Q) [.agg (dG p0).toArray] H (λv H'=>∃ r0,v= .bool r0/\Q r0 H'):=aR (vE.eq_1 ..) func218 ntmps218
instance Xg {p0 H Q}:ae prog 310 (rk p0 H Q) [Sl.v p0] H (λv H'=>∃ r0 r1,v= .tuple #[Sl.v r0,VI r1]/\Q r0 r1 H'):=aR (rk.eq_1 ..) func310 ntmps310
instance Xh {p0 H Q}:ae prog 334 (xM p0 H Q) [Sl.v p0] H (λv H'=>∃ r0 r1,v= .tuple #[Sl.v r0,VI r1]/\Q r0 r1 H'):=aR (xM.eq_1 ..) func334 ntmps334
instance Xi {p0 H Q}:ae prog 201 (pT p0 H Q) [.agg (dG p0).toArray] H (λv H'=>∃ r0,v= .bool r0/\Q r0 H'):=aR (pT.eq_1 ..) func201 ntmps201
instance YS {p0 H Q}:ae prog 309 (yU p0 H Q) [.agg (cT p0).toArray] H (λv H'=>∃ r0,v= .bool r0/\Q r0 H'):=aR (yU.eq_1 ..) func309 ntmps309
instance JD {p0 p1 H Q}:ae prog 332 (jO p0 p1 H Q) [Sl.v p0,VI p1] H (λv H'=>∃ r0,v=Sl.v r0/\Q r0 H'):=aR (jO.eq_1 ..) func332 ntmps332
instance Hf {p0 H Q}:ae prog 311 (kE p0 H Q) [Sl.v p0] H (λv H'=>∃ r0,v=Sl.v r0/\Q r0 H'):=aR (kE.eq_1 ..) func311 ntmps311
instance VM {p0 H Q}:ae prog 274 (ob p0 H Q) [.agg (cT p0).toArray] H (λv H'=>∃ r0 r1 a,v= .tuple #[Sl.v r0,VI r1,VI a]/\Q r0 r1 a H'):=aR (ob.eq_1 ..) func274 ntmps274
instance Xj {p0 H Q}:ae prog 257 (pU p0 H Q) [.agg (cT p0).toArray] H (λv H'=>∃ r0 r1,v= .tuple #[VI r0,.bool r1]/\Q r0 r1 H'):=aR (pU.eq_1 ..) func257 ntmps257
instance VN {p0 H Q}:ae prog 299 (rU p0 H Q) [.pointer p0] H (λv H'=>∃ r0,v= .agg (ag r0).toArray/\Q r0 H'):=aR (rU.eq_1 ..) func299 ntmps299
instance Te {p0 p1 p2 H Q}:ae prog 298 (ti p0 p1 p2 H Q) [.pointer p0,.agg (cT p1).toArray,.agg (ag p2).toArray] H (λv H'=>∃ r0 r1,v= .tuple #[.agg (ag r0).toArray,.bool r1]/\Q r0 r1 H'):=aR (ti.eq_1 ..) func298 ntmps298
instance Zs {H Q}:ae prog 60 (zM H Q) [] H (λv H'=>∃ r0,v= .pointer r0/\Q r0 H'):=aR (zM.eq_1 ..) func60 ntmps60
end
end Go.Proofs.YtigjebgjphmkoaaGreat
