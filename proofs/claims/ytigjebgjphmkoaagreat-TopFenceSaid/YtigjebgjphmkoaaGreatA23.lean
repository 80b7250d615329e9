import Derived.Test.YtigjebgjphmkoaaGreatA04
import Derived.Test.YtigjebgjphmkoaaGreatA15
import Derived.Test.YtigjebgjphmkoaaGreatA16
import Derived.Test.YtigjebgjphmkoaaGreatA17
import Derived.Test.YtigjebgjphmkoaaGreatA18
import Derived.Test.YtigjebgjphmkoaaGreatA19
import Derived.Test.YtigjebgjphmkoaaGreatA21
import Derived.Test.YtigjebgjphmkoaaGreatA22
set_option linter.unusedVariables false
set_option linter.unusedSimpArgs false
namespace Go.Proofs.YtigjebgjphmkoaaGreat
open Tryz
section
open Go Go.Kx Go.Proofs Go.Kx.Au Go.Kx.W
set_option maxRecDepth 20000
set_option maxHeartbeats 20000000
instance Oa {p0 p1 H Q}:ae prog 7 (iw p0 p1 H Q) [.pointer p0,.agg (b9 p1).toArray] H (λv H'=>∃ r0,v= .agg (dx r0).toArray/\Q r0 H'):=aR (iw.eq_1 ..) func7 ntmps7
instance NH {p0 p1 H Q}:ae prog 18 (oR p0 p1 H Q) [.pointer p0,Sl.v p1] H (λv H'=>∃ r0,v=Sl.v r0/\Q r0 H'):=aR (oR.eq_1 ..) func18 ntmps18
instance Qv {p0 p1 H Q}:ae prog 41 (lS p0 p1 H Q) [.pointer p0,VI p1] H (λv H'=>∃ r0 r1,v= .tuple #[Sl.v r0,VI r1]/\Q r0 r1 H'):=aR (lS.eq_1 ..) func41 ntmps41
instance Qw {p0 p1 H Q}:ae prog 19 (rE p0 p1 H Q) [.pointer p0,VI p1] H (λv H'=>∃ r0 r1,v= .tuple #[Sl.v r0,VI r1]/\Q r0 r1 H'):=aR (rE.eq_1 ..) func19 ntmps19
instance P8 {p0 H Q}:ae prog 15 (my p0 H Q) [VI p0] H (λv H'=>∃ r0,v=Sl.v r0/\Q r0 H'):=aR (my.eq_1 ..) func15 ntmps15
instance P9 {p0 p1 H Q}:ae prog 53 (uH p0 p1 H Q) [Sl.v p0,Sl.v p1] H (λv H'=>∃ r0,v= .bool r0/\Q r0 H'):=aR (uH.eq_1 ..) func53 ntmps53
instance Oc {p0 p1 H Q}:ae prog 20 (mD p0 p1 H Q) [Sl.v p0,Sl.v p1] H (λv H'=>∃ r0,v= .bool r0/\Q r0 H'):=aR (mD.eq_1 ..) func20 ntmps20
instance Qx {H Q}:ae prog 4 (oE H Q) [] H (λv H'=>∃ r0,v= .bool r0/\Q r0 H'):=aR (oE.eq_1 ..) func4 ntmps4
instance Od {p0 p1 H Q}:ae prog 10 (mE p0 p1 H Q) [.pointer p0,VI p1] H (λv H'=>∃ r0 r1,v= .tuple #[Sl.v r0,.bool r1]/\Q r0 r1 H'):=aR (mE.eq_1 ..) func10 ntmps10
instance Oe {p0 p1 p2 H Q}:ae prog 85 (dU p0 p1 p2 H Q) [VI p0,VI p1,VI p2] H (λv H'=>∃ r0,v= .bool r0/\Q r0 H'):=aR (dU.eq_1 ..) func85 ntmps85
instance Of {p0 H Q}:ae prog 46 (pC p0 H Q) [VI p0] H (λv H'=>∃ r0,v= .pointer r0/\Q r0 H'):=aR (pC.eq_1 ..) func46 ntmps46
instance NI {p0 p1 H Q}:ae prog 47 (lH p0 p1 H Q) [.pointer p0,Sl.v p1] H (λv H'=>∃ r0,v= .bool r0/\Q r0 H'):=aR (lH.eq_1 ..) func47 ntmps47
instance Qy {p0 H Q}:ae prog 86 (rF p0 H Q) [VI p0] H (λv H'=>∃ r0,v=VI r0/\Q r0 H'):=aR (rF.eq_1 ..) func86 ntmps86
instance Qz {p0 p1 H Q}:ae prog 87 (vF p0 p1 H Q) [VI p0,Sl.v p1] H (λv H'=>∃ r0,v=VI r0/\Q r0 H'):=aR (vF.eq_1 ..) func87 ntmps87
instance Sr {p0 H Q}:ae prog 50 (sW p0 H Q) [Sl.v p0] H (λv H'=>∃ r0,v=VI r0/\Q r0 H'):=aR (sW.eq_1 ..) func50 ntmps50
theorem Ew {p0 H Q} (h:BA p0 H Q):fU prog 302 #[.agg (dG p0).toArray] H λv H'=>∃ r0,v= .bool r0/\Q r0 H':=by
 unfold BA at h
 exact F func302 rfl ntmps302<|R<|od<|xd (cs:=(dG p0)) rfl rfl λa1 d b=>gY (h a1 d b) λh=>q (aB rfl)<|z<|R<|q (f qK rfl)<|y h λe c h=>q (a de rfl c)<|q (I7 rfl rfl)<|q (aB rfl)<|z<|E1 rfl rfl h
theorem EN {p0 H Q} (h:z9 p0 H Q):fU prog 317 #[VI p0] H λv H'=>∃ r0,v= .bool r0/\Q r0 H':=by
 unfold z9 at h
 refine F func317 rfl ntmps317<|R<|q (aB rfl)<|z<|R<|q (mI rfl)<|q (Dt rfl rfl)<|q (mB rfl)<|?_
 refine En 3 (λe (s2:Bool)=>e 8=VB s2) h ?_ ?_<;>clear h
 ·intro s2 f e h d
  have c:=d
  exact q (aB c)<|z<|E1 rfl rfl h
 ·intro g b h
  refine J h (λa h=>?_) λa h=>?_
  ·exact w a (mI rfl)<|w a (Dt rfl rfl)<|q (jB a rfl rfl)<|b (p0 != 1) _ _ h (by exact rfl)
  ·exact o a<|o a<|q (nB a rfl rfl)<|b false _ _ h (by exact rfl)
end
end Go.Proofs.YtigjebgjphmkoaaGreat
