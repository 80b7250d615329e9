import Derived.Test.YtigjebgjphmkoaaGreatA23
set_option linter.unusedVariables false
set_option linter.unusedSimpArgs false
namespace Go.Proofs.YtigjebgjphmkoaaGreat
open Tryz
section
open Go Go.Kx Go.Proofs Go.Kx.Au Go.Kx.W
set_option maxRecDepth 20000
set_option maxHeartbeats 20000000
instance Ll {p0 H Q}:ae prog 45 (mW p0 H Q) [.agg (bS p0).toArray] H (λv H'=>∃ r0,v= .bool r0/\Q r0 H'):=aR (mW.eq_1 ..) func45 ntmps45
instance NJ {p0 p1 p2 H Q}:ae prog 48 (gM p0 p1 p2 H Q) [.pointer p0,VI p1,Sl.v p2] H (λv H'=>∃ r0,v= .bool r0/\Q r0 H'):=aR (gM.eq_1 ..) func48 ntmps48
instance NK {p0 p1 p2 H Q}:ae prog 49 (sI p0 p1 p2 H Q) [.pointer p0,VI p1,VI p2] H (λv H'=>v= .tuple #[]/\Q H'):=aR (sI.eq_1 ..) func49 ntmps49
instance JG {p0 H Q}:ae prog 13 (fp p0 H Q) [.agg (bS p0).toArray] H (λv H'=>∃ r0 r1,v= .tuple #[Sl.v r0,VI r1]/\Q r0 r1 H'):=aR (fp.eq_1 ..) func13 ntmps13
instance NL {p0 p1 H Q}:ae prog 17 (oS p0 p1 H Q) [Sl.v p0,Sl.v p1] H (λv H'=>∃ r0,v= .bool r0/\Q r0 H'):=aR (oS.eq_1 ..) func17 ntmps17
theorem BC {p0 H Q} (h:wg p0 H Q):fU prog 316 #[.agg (dx p0).toArray] H λv H'=>∃ r0,v= .bool r0/\Q r0 H':=by
 unfold wg at h
 exact F func316 rfl ntmps316<|R<|od<|xd (cs:=(dx p0)) rfl rfl λa1 d b=>gY (h a1 d b) λh=>q (aB rfl)<|z<|R<|q (f qK rfl)<|y h λe c h=>q (a de rfl c)<|q (I7 rfl rfl)<|q (aB rfl)<|z<|E1 rfl rfl h
end
end Go.Proofs.YtigjebgjphmkoaaGreat
