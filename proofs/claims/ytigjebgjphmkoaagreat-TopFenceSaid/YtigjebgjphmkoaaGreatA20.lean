import Derived.Test.YtigjebgjphmkoaaGreatA04
import Derived.Test.YtigjebgjphmkoaaGreatA10
import Derived.Test.YtigjebgjphmkoaaGreatA11
import Derived.Test.YtigjebgjphmkoaaGreatA13
import Derived.Test.YtigjebgjphmkoaaGreatA14
import Derived.Test.YtigjebgjphmkoaaGreatA17
import Derived.Test.YtigjebgjphmkoaaGreatA18
import Derived.Test.YtigjebgjphmkoaaGreatA19
set_option linter.unusedVariables false
set_option linter.unusedSimpArgs false
namespace Go.Proofs.YtigjebgjphmkoaaGreat
open Tryz
section
open Go Go.Kx Go.Proofs Go.Kx.Au Go.Kx.W
set_option maxRecDepth 20000
set_option maxHeartbeats 20000000
instance OT {p0 p1 p2 p3 H Q}:ae prog 281 (mC p0 p1 p2 p3 H Q) [.pointer p0,VI p1,VI p2,VI p3] H (λv H'=>∃ r0,v= .bool r0/\Q r0 H'):=aR (mC.eq_1 ..) func281 ntmps281
instance DG {p0 p1 H Q}:ae prog 315 (fG p0 p1 H Q) [Sl.v p0,p1] H (λv H'=>∃ r0,v=VI r0/\Q r0 H'):=⟨λh=>by
 unfold fG at h
 refine F func315 rfl ntmps315<|R<|q (aI rfl)<|z<|s<|R<|q (mS rfl)<|q (vt underlying206 rfl (Cn rfl))<|q (mI rfl)<|z<|b<|?_
 refine As (λm (s1:Int)=>m 0=Sl.v p0/\m 1=p1/\m 7=VI (p0.len:Int)/\m 8=VI s1) h ⟨rfl,rfl,rfl,rfl⟩ ?_
 clear h
 intro m s1 u j n h d
 obtain⟨e,f,g,a⟩:=n
 refine R<|q (xE a g)<|z<|s<|J h (λi h=>?_) λi h=>?_
 ·refine C i rfl<|K<|s<|b<|R<|q (mI a)<|q (aI rfl)<|z<|R<|q (mu f)<|q (mS e)<|q (mI rfl)<|y h λw k h=>q (xF Ax k rfl rfl)<|y h λx l h=>q (A vQ rfl l)<|od<|Bn rfl rfl h λp o h=>?_
  obtain⟨t,rfl,h⟩:=h
  refine z<|J h (λc h=>?_) λc h=>?_
  ·exact C c rfl<|R<|q (mI rfl)<|q (aI rfl)<|z<|E1 rfl rfl h
  ·exact N c rfl<|K<|B<|r<|q (sO a rfl)<|q (mI rfl)<|z<|d _ _ _ h ⟨e,f,g,rfl⟩
 ·exact N i rfl<|X rfl<|R<|q (aI rfl)<|z<|E1 rfl rfl h
 ,iU func315 rfl rfl⟩
instance Qp {p0 p1 H Q}:ae prog 282 (rA p0 p1 H Q) [.pointer p0,.bool p1] H (λv H'=>∃ r0 r1,v= .tuple #[VI r0,.bool r1]/\Q r0 r1 H'):=aR (rA.eq_1 ..) func282 ntmps282
instance OU {p0 p1 H Q}:ae prog 283 (oz p0 p1 H Q) [.pointer p0,VI p1] H (λv H'=>∃ r0,v=VI r0/\Q r0 H'):=aR (oz.eq_1 ..) func283 ntmps283
instance OV {p0 p1 p2 H Q}:ae prog 219 (o0 p0 p1 p2 H Q) [.pointer p0,VI p1,.bool p2] H (λv H'=>∃ r0,v=VI r0/\Q r0 H'):=aR (o0.eq_1 ..) func219 ntmps219
instance NC {p0 H Q}:ae prog 220 (lG p0 H Q) [.pointer p0] H (λv H'=>∃ r0,v=VI r0/\Q r0 H'):=aR (lG.eq_1 ..) func220 ntmps220
instance P3 {p0 p1 p2 p3 H Q}:ae prog 131 (ki p0 p1 p2 p3 H Q) [.pointer p0,.agg (dG p1).toArray,Sl.v p2,.bool p3] H (λv H'=>∃ r0 r1,v= .tuple #[VI r0,VI r1]/\Q r0 r1 H'):=aR (ki.eq_1 ..) func131 ntmps131
instance P4 {p0 p1 p2 H Q}:ae prog 232 (py p0 p1 p2 H Q) [.pointer p0,VI p1,Sl.v p2] H (λv H'=>∃ r0,v=VI r0/\Q r0 H'):=aR (py.eq_1 ..) func232 ntmps232
instance Qq {p0 p1 p2 H Q}:ae prog 233 (rB p0 p1 p2 H Q) [.pointer p0,VI p1,VI p2] H (λv H'=>∃ r0,v=VI r0/\Q r0 H'):=aR (rB.eq_1 ..) func233 ntmps233
instance Qr {p0 p1 H Q}:ae prog 234 (rC p0 p1 H Q) [.pointer p0,VI p1] H (λv H'=>∃ r0,v=VI r0/\Q r0 H'):=aR (rC.eq_1 ..) func234 ntmps234
instance Lw {p0 p1 H Q}:ae prog 155 (nI p0 p1 H Q) [.pointer p0,.agg (b9 p1).toArray] H (λv H'=>∃ r0,v=VI r0/\Q r0 H'):=aR (nI.eq_1 ..) func155 ntmps155
instance I1 {p0 H Q}:ae prog 156 (iv p0 H Q) [.pointer p0] H (λv H'=>∃ r0,v= .bool r0/\Q r0 H'):=aR (iv.eq_1 ..) func156 ntmps156
instance Fq {p0 H Q}:ae prog 184 (lR p0 H Q) [Sl.v p0] H (λv H'=>∃ r0,v=Sl.v r0/\Q r0 H'):=aR (lR.eq_1 ..) func184 ntmps184
end
end Go.Proofs.YtigjebgjphmkoaaGreat
