import Derived.Test.YtigjebgjphmkoaaGreatA04
set_option linter.unusedVariables false
set_option linter.unusedSimpArgs false
namespace Go.Proofs.YtigjebgjphmkoaaGreat
open Tryz
section
open Go Go.Kx Go.Proofs Go.Kx.Au Go.Kx.W
set_option maxRecDepth 20000
set_option maxHeartbeats 20000000
instance ZF {p0 H Q}:ae prog 237 (z5 p0 H Q) [.agg (ag p0).toArray] H (λv H'=>∃ r0,v= .bool r0/\Q r0 H'):=aR (z5.eq_1 ..) func237 ntmps237
instance row_New_s {p0 H Q}:ae prog 179 (ri p0 H Q) [VI p0] H (λv H'=>∃ r0,v= .pointer r0/\Q r0 H'):=aR (ri.eq_1 ..) func179 ntmps179
instance XT {p0 p1 p2 H Q}:ae prog 180 (cM p0 p1 p2 H Q) [.pointer p0,VI p1,Sl.v p2] H (λv H'=>∃ r0,v= .bool r0/\Q r0 H'):=aR (cM.eq_1 ..) func180 ntmps180
instance U9 {p0 H Q}:ae prog 183 (iB p0 H Q) [.pointer p0] H (λv H'=>∃ r0,v=Sl.v r0/\Q r0 H'):=aR (iB.eq_1 ..) func183 ntmps183
instance crc_add_s {p0 p1 H Q}:ae prog 303 (Dz p0 p1 H Q) [.int .u32 p0,Sl.v p1] H (λv H'=>∃ r0,v= .int .u32 r0/\Q r0 H'):=aR (Dz.eq_1 ..) func303 ntmps303
instance crc_Sum_s {p0 H Q}:ae prog 263 (yi p0 H Q) [Sl.v p0] H (λv H'=>∃ r0,v=VI r0/\Q r0 H'):=aR (yi.eq_1 ..) func263 ntmps263
instance Zn {p0 H Q}:ae prog 182 (nk p0 H Q) [Sl.v p0] H (λv H'=>∃ r0,v=Sl.v r0/\Q r0 H'):=aR (nk.eq_1 ..) func182 ntmps182
instance WN {p0 H Q}:ae prog 163 (nq p0 H Q) [.agg (ag p0).toArray] H (λv H'=>∃ r0 r1,v= .tuple #[Sl.v r0,VI r1]/\Q r0 r1 H'):=aR (nq.eq_1 ..) func163 ntmps163
instance XU {p0 p1 H Q}:ae prog 149 (jA p0 p1 H Q) [Sl.v p0,Sl.v p1] H (λv H'=>∃ r0,v= .bool r0/\Q r0 H'):=aR (jA.eq_1 ..) func149 ntmps149
instance WO {p0 H Q}:ae prog 236 (sx p0 H Q) [Sl.v p0] H (λv H'=>∃ r0 r1,v= .tuple #[.agg (ag r0).toArray,VI r1]/\Q r0 r1 H'):=aR (sx.eq_1 ..) func236 ntmps236
instance WQ {p0 p1 H Q}:ae prog 162 (sy p0 p1 H Q) [Sl.v p0,Sl.v p1] H (λv H'=>∃ r0 r1 a,v= .tuple #[.agg (ag r0).toArray,VI r1,VI a]/\Q r0 r1 a H'):=aR (sy.eq_1 ..) func162 ntmps162
instance XV {p0 p1 H Q}:ae prog 165 (xJ p0 p1 H Q) [.pointer p0,VI p1] H (λv H'=>∃ r0,v= .agg (bI r0).toArray/\Q r0 H'):=aR (xJ.eq_1 ..) func165 ntmps165
instance VC {p0 p1 p2 H Q}:ae prog 290 (jC p0 p1 p2 H Q) [VI p0,VI p1,VI p2] H (λv H'=>∃ r0,v= .bool r0/\Q r0 H'):=aR (jC.eq_1 ..) func290 ntmps290
instance TY {p0 H Q}:ae prog 287 (th p0 H Q) [.agg (bI p0).toArray] H (λv H'=>∃ r0,v= .bool r0/\Q r0 H'):=aR (th.eq_1 ..) func287 ntmps287
instance VD {p0 p1 H Q}:ae prog 269 (mm p0 p1 H Q) [.pointer p0,VI p1] H (λv H'=>∃ r0,v= .bool r0/\Q r0 H'):=aR (mm.eq_1 ..) func269 ntmps269
instance YP {p0 p1 H Q}:ae prog 318 (Fo p0 p1 H Q) [.int .u32 p0,.int .u32 p1] H (λv H'=>∃ r0 r1,v= .tuple #[.int .u32 r0,.int .u32 r1]/\Q r0 r1 H'):=aR (Fo.eq_1 ..) func318 ntmps318
end
end Go.Proofs.YtigjebgjphmkoaaGreat
