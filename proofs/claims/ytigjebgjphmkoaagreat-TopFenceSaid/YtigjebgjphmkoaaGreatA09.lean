import Derived.Test.YtigjebgjphmkoaaGreatA04
import Derived.Test.YtigjebgjphmkoaaGreatA06
import Derived.Test.YtigjebgjphmkoaaGreatA07
import Derived.Test.YtigjebgjphmkoaaGreatA08
set_option linter.unusedVariables false
set_option linter.unusedSimpArgs false
namespace Go.Proofs.YtigjebgjphmkoaaGreat
open Tryz
section
open Go Go.Kx Go.Proofs Go.Kx.Au Go.Kx.W
set_option maxRecDepth 20000
set_option maxHeartbeats 20000000
instance ZI {p0 p1 H Q}:ae prog 245 (xo p0 p1 H Q) [.pointer p0,Sl.v p1] H (λv H'=>∃ r0,v= .pointer r0/\Q r0 H'):=aR (xo.eq_1 ..) func245 ntmps245
instance Ms {p0 H Q}:ae prog 172 (oL p0 H Q) [.pointer p0] H (λv H'=>∃ r0,v=VI r0/\Q r0 H'):=aR (oL.eq_1 ..) func172 ntmps172
instance OH {p0 p1 H Q}:ae prog 314 (lx p0 p1 H Q) [.pointer p0,VI p1] H (λv H'=>∃ r0,v=Sl.v r0/\Q r0 H'):=aR (lx.eq_1 ..) func314 ntmps314
instance Jl {p0 H Q}:ae prog 208 (df p0 H Q) [Sl.v p0] H (λv H'=>∃ r0,v=Sl.v r0/\Q r0 H'):=aR (df.eq_1 ..) func208 ntmps208
instance Lr {p0 p1 H Q}:ae prog 277 (jG p0 p1 H Q) [.pointer p0,VI p1] H (λv H'=>∃ r0,v=Sl.v r0/\Q r0 H'):=aR (jG.eq_1 ..) func277 ntmps277
instance QZ {p0 p1 p2 H Q}:ae prog 211 (ns p0 p1 p2 H Q) [.pointer p0,.bool p1,VI p2] H (λv H'=>∃ r0,v=Sl.v r0/\Q r0 H'):=aR (ns.eq_1 ..) func211 ntmps211
instance Sb {p0 p1 H Q}:ae prog 226 (ot p0 p1 H Q) [.pointer p0,VI p1] H (λv H'=>∃ r0 r1 a,v= .tuple #[VI r0,VI r1,.bool a]/\Q r0 r1 a H'):=aR (ot.eq_1 ..) func226 ntmps226
instance Pf {p0 p1 H Q}:ae prog 250 (pj p0 p1 H Q) [.pointer p0,VI p1] H (λv H'=>∃ r0,v= .bool r0/\Q r0 H'):=aR (pj.eq_1 ..) func250 ntmps250
theorem zw {p0 c0 H Q} (h:vS p0 c0 H Q):fU prog 249 #[VI p0,.pointer (some c0)] H λv H'=>∃ r0,v= .bool r0/\Q r0 H':=by
 unfold vS at h
 exact F func249 rfl ntmps249<|R<|q (aB rfl)<|z<|R<|y h λd b h=>q (a de rfl b)<|q (mI rfl)<|c1 (cb h) (cu h) rfl λe c h=>q (qj rfl)<|q (aB rfl)<|z<|E1 rfl rfl h
instance Ls {p0 p1 p2 H Q}:ae prog 296 (jH p0 p1 p2 H Q) [.pointer p0,VI p1,Sl.v p2] H (λv H'=>∃ r0,v= .bool r0/\Q r0 H'):=aR (jH.eq_1 ..) func296 ntmps296
instance Qa {p0 p1 p2 p3 H Q}:ae prog 251 (qu p0 p1 p2 p3 H Q) [.pointer p0,.bool p1,VI p2,Sl.v p3] H (λv H'=>∃ r0,v= .bool r0/\Q r0 H'):=aR (qu.eq_1 ..) func251 ntmps251
instance OI {p0 p1 p2 H Q}:ae prog 173 (ly p0 p1 p2 H Q) [.pointer p0,.bool p1,Sl.v p2] H (λv H'=>∃ r0,v=VI r0/\Q r0 H'):=aR (ly.eq_1 ..) func173 ntmps173
instance ZJ {p0 p1 p2 H Q}:ae prog 252 (z7 p0 p1 p2 H Q) [.pointer p0,.pointer p1,.agg (ag p2).toArray] H (λv H'=>∃ r0,v= .pointer r0/\Q r0 H'):=aR (z7.eq_1 ..) func252 ntmps252
end
end Go.Proofs.YtigjebgjphmkoaaGreat
