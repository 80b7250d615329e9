import Derived.Test.YtigjebgjphmkoaaGreatA04
import Derived.Test.YtigjebgjphmkoaaGreatA05
set_option linter.unusedVariables false
set_option linter.unusedSimpArgs false
namespace Go.Proofs.YtigjebgjphmkoaaGreat
open Tryz
section
open Go Go.Kx Go.Proofs Go.Kx.Au Go.Kx.W
set_option maxRecDepth 20000
set_option maxHeartbeats 20000000
instance Zp {p0 p1 p2 H Q}:ae prog 268 (Bv p0 p1 p2 H Q) [.pointer p0,.pointer p1,.agg (ag p2).toArray] H (λv H'=>∃ r0,v= .pointer r0/\Q r0 H'):=aR (Bv.eq_1 ..) func268 ntmps268
instance VK {p0 p1 H Q}:ae prog 200 (gO p0 p1 H Q) [.pointer p0,VI p1] H (λv H'=>∃ r0,v=VI r0/\Q r0 H'):=aR (gO.eq_1 ..) func200 ntmps200
instance Tc {p0 p1 H Q}:ae prog 323 (lM p0 p1 H Q) [.pointer p0,VI p1] H (λv H'=>∃ r0 r1,v= .tuple #[Sl.v r0,.bool r1]/\Q r0 r1 H'):=aR (lM.eq_1 ..) func323 ntmps323
instance Xa {p0 p1 p2 H Q}:ae prog 328 (pS p0 p1 p2 H Q) [VI p0,VI p1,VI p2] H (λv H'=>∃ r0,v= .bool r0/\Q r0 H'):=aR (pS.eq_1 ..) func328 ntmps328
instance Zq {p0 H Q}:ae prog 308 (Bw p0 H Q) [.agg (dG p0).toArray] H (λv H'=>∃ r0,v= .bool r0/\Q r0 H'):=aR (Bw.eq_1 ..) func308 ntmps308
instance Xb {p0 H Q}:ae prog 273 (rj p0 H Q) [.agg (dG p0).toArray] H (λv H'=>∃ r0 r1,v= .tuple #[Sl.v r0,VI r1]/\Q r0 r1 H'):=aR (rj.eq_1 ..) func273 ntmps273
instance Xc {p0 H Q}:ae prog 324 (uT p0 H Q) [Sl.v p0] H (λv H'=>∃ r0 r1,v= .tuple #[.agg (dG r0).toArray,VI r1]/\Q r0 r1 H'):=aR (uT.eq_1 ..) func324 ntmps324
instance ZK {p0 p1 H Q}:ae prog 325 (z8 p0 p1 H Q) [Sl.v p0,.agg (ag p1).toArray] H (λv H'=>∃ r0,v= .bool r0/\Q r0 H'):=aR (z8.eq_1 ..) func325 ntmps325
instance Sd {p0 H Q}:ae prog 306 (sP p0 H Q) [.pointer p0] H (λv H'=>∃ r0 r1,v= .tuple #[.agg (ag r0).toArray,.bool r1]/\Q r0 r1 H'):=aR (sP.eq_1 ..) func306 ntmps306
instance VL {p0 p1 p2 H Q}:ae prog 329 (kl p0 p1 p2 H Q) [VI p0,VI p1,VI p2] H (λv H'=>∃ r0,v= .bool r0/\Q r0 H'):=aR (kl.eq_1 ..) func329 ntmps329
instance Td {p0 H Q}:ae prog 333 (qO p0 H Q) [.pointer p0] H (λv H'=>∃ r0 r1 a,v= .tuple #[VI r0,VI r1,.bool a]/\Q r0 r1 a H'):=aR (qO.eq_1 ..) func333 ntmps333
instance Xd {p0 H Q}:ae prog 326 (xL p0 H Q) [Sl.v p0] H (λv H'=>∃ r0,v=VI r0/\Q r0 H'):=aR (xL.eq_1 ..) func326 ntmps326
instance Xe {p0 p1 p2 H Q}:ae prog 280 (nN p0 p1 p2 H Q) [VI p0,VI p1,VI p2] H (λv H'=>∃ r0,v= .bool r0/\Q r0 H'):=aR (nN.eq_1 ..) func280 ntmps280
instance EM {p0 p1 H Q}:ae prog 335 (gz p0 p1 H Q) [Sl.v p0,p1] H (λv H'=>∃ r0,v=VI r0/\Q r0 H'):=⟨λh=>by
 unfold gz at h
 refine F func335 rfl ntmps335<|R<|q (aI rfl)<|z<|s<|R<|q (mS rfl)<|q (vt underlying44 rfl (Cn rfl))<|q (mI rfl)<|z<|b<|?_
 refine As (λn (s1:Int)=>n 0=Sl.v p0/\n 1=p1/\n 7=VI (p0.len:Int)/\n 8=VI s1) h ⟨rfl,rfl,rfl,rfl⟩ ?_
 clear h
 intro n s1 w k o h e
 obtain⟨f,g,i,c⟩:=o
 refine R<|q (xE c i)<|z<|s<|J h (λj h=>?_) λj h=>?_
 ·refine C j rfl<|K<|s<|b<|R<|q (mI c)<|q (aI rfl)<|z<|R<|q (mu g)<|q (mS f)<|q (mI rfl)<|y h λx l h=>q (xF Ax l rfl rfl)<|y h λA m h=>q (a de rfl m)<|od<|Bn rfl rfl h λt p h=>?_
  obtain⟨u,rfl,h⟩:=h
  refine z<|J h (λd h=>?_) λd h=>?_
  ·exact C d rfl<|R<|q (mI rfl)<|q (aI rfl)<|z<|E1 rfl rfl h
  ·exact N d rfl<|K<|B<|r<|q (sO c rfl)<|q (mI rfl)<|z<|e _ _ _ h ⟨f,g,i,rfl⟩
 ·exact N j rfl<|X rfl<|R<|q (aI rfl)<|z<|E1 rfl rfl h
 ,iU func335 rfl rfl⟩
instance C0 {p0 p1 H Q}:ae prog 330 (eY p0 p1 H Q) [Sl.v p0,p1] H (λv H'=>∃ r0,v= .bool r0/\Q r0 H'):=aR (eY.eq_1 ..) func330 ntmps330
instance Xf {p0 p1 H Q}:ae prog 181 (uU p0 p1 H Q) [.pointer p0,Sl.v p1] H (λv H'=>∃ r0,v= .bool r0/\Q r0 H'):=aR (uU.eq_1 ..) func181 ntmps181
instance Cy {p0 p1 H Q}:ae prog 301 (fu p0 p1 H Q) [Sl.v p0,p1] H (λv H'=>∃ r0,v=VI r0/\Q r0 H'):=⟨λh=>by
 unfold fu at h
 refine F func301 rfl ntmps301<|R<|q (aI rfl)<|z<|s<|R<|q (mS rfl)<|q (vt underlying271 rfl (Cn rfl))<|q (mI rfl)<|z<|b<|?_
 refine As (λm (s1:Int)=>m 0=Sl.v p0/\m 1=p1/\m 7=VI (p0.len:Int)/\m 8=VI s1) h ⟨rfl,rfl,rfl,rfl⟩ ?_
 clear h
 intro m s1 u j n h d
 obtain⟨e,f,g,a⟩:=n
 refine R<|q (xE a g)<|z<|s<|J h (λi h=>?_) λi h=>?_
 ·refine C i rfl<|K<|s<|b<|R<|q (mI a)<|q (aI rfl)<|z<|R<|q (mu f)<|q (mS e)<|q (mI rfl)<|y h λw k h=>q (xF Ax k rfl rfl)<|y h λx l h=>q (A vQ rfl l)<|od<|Bn rfl rfl h λp o h=>?_
  obtain⟨t,rfl,h⟩:=h
  refine z<|J h (λc h=>?_) λc h=>?_
  ·exact C c rfl<|R<|q (mI rfl)<|q (aI rfl)<|z<|E1 rfl rfl h
  ·exact N c rfl<|K<|B<|r<|q (sO a rfl)<|q (mI rfl)<|z<|d _ _ _ h ⟨e,f,g,rfl⟩
 ·exact N i rfl<|X rfl<|R<|q (aI rfl)<|z<|E1 rfl rfl h
 ,iU func301 rfl rfl⟩
end
end Go.Proofs.YtigjebgjphmkoaaGreat
