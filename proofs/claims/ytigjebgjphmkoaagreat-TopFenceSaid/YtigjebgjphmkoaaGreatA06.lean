import Derived.Test.YtigjebgjphmkoaaGreatA04
import Derived.Test.YtigjebgjphmkoaaGreatA05
set_option linter.unusedVariables false
set_option linter.unusedSimpArgs false
namespace Go.Proofs.YtigjebgjphmkoaaGreat
open Tryz
section
open Go Go.Kx Go.Proofs Go.Kx.Au Go.Kx.W
set_option maxRecDepth 20000
set_option maxHeartbeats 20000000
instance VE {p0 p1 H Q}:ae prog 288 (rS p0 p1 H Q) [.pointer p0,.agg (ag p1).toArray] H (λv H'=>∃ r0,v= .bool r0/\Q r0 H'):=aR (rS.eq_1 ..) func288 ntmps288
instance G6 {p0 p1 H Q}:ae prog 295 (iC p0 p1 H Q) [Sl.v p0,p1] H (λv H'=>∃ r0,v=VI r0/\Q r0 H'):=⟨λh=>by
 unfold iC at h
 refine F func295 rfl ntmps295<|R<|q (aI rfl)<|z<|s<|R<|q (mS rfl)<|q (vt underlying36 rfl (Cn rfl))<|q (mI rfl)<|z<|b<|?_
 refine As (λn (s1:Int)=>n 0=Sl.v p0/\n 1=p1/\n 7=VI (p0.len:Int)/\n 8=VI s1) h ⟨rfl,rfl,rfl,rfl⟩ ?_
 clear h
 intro n s1 w k o h e
 obtain⟨f,g,i,c⟩:=o
 refine R<|q (xE c i)<|z<|s<|J h (λj h=>?_) λj h=>?_
 ·refine C j rfl<|K<|s<|b<|R<|q (mI c)<|q (aI rfl)<|z<|R<|q (mu g)<|q (mS f)<|q (mI rfl)<|y h λx l h=>q (xF Ax l rfl rfl)<|y h λA m h=>q (a de rfl m)<|od<|Bn rfl rfl h λt p h=>?_
  obtain⟨u,rfl,h⟩:=h
  refine z<|J h (λd h=>?_) λd h=>?_
  ·exact C d rfl<|R<|q (mI rfl)<|q (aI rfl)<|z<|E1 rfl rfl h
  ·exact N d rfl<|K<|B<|r<|q (sO c rfl)<|q (mI rfl)<|z<|e _ _ _ h ⟨f,g,i,rfl⟩
 ·exact N j rfl<|X rfl<|R<|q (aI rfl)<|z<|E1 rfl rfl h
 ,iU func295 rfl rfl⟩
instance FX {p0 p1 H Q}:ae prog 248 (dM p0 p1 H Q) [Sl.v p0,p1] H (λv H'=>∃ r0,v= .bool r0/\Q r0 H'):=aR (dM.eq_1 ..) func248 ntmps248
instance WR {p0 p1 H Q}:ae prog 289 (tA p0 p1 H Q) [Sl.v p0,VI p1] H (λv H'=>∃ r0,v= .bool r0/\Q r0 H'):=aR (tA.eq_1 ..) func289 ntmps289
instance YQ {p0 p1 H Q}:ae prog 238 (yS p0 p1 H Q) [.pointer p0,.agg (bI p1).toArray] H (λv H'=>∃ r0,v= .bool r0/\Q r0 H'):=aR (yS.eq_1 ..) func238 ntmps238
instance XW {p0 H Q}:ae prog 239 (uR p0 H Q) [Sl.v p0] H (λv H'=>∃ r0,v=VI r0/\Q r0 H'):=aR (uR.eq_1 ..) func239 ntmps239
instance VF {p0 p1 H Q}:ae prog 164 (mn p0 p1 H Q) [.pointer p0,.agg (bI p1).toArray] H (λv H'=>∃ r0 r1,v= .tuple #[Sl.v r0,VI r1]/\Q r0 r1 H'):=aR (mn.eq_1 ..) func164 ntmps164
instance YR {p0 p1 H Q}:ae prog 319 (yT p0 p1 H Q) [.int .u64 p0,.int .u64 p1] H (λv H'=>∃ r0 r1,v= .tuple #[.int .u64 r0,.int .u64 r1]/\Q r0 r1 H'):=aR (yT.eq_1 ..) func319 ntmps319
instance Zo {p0 p1 H Q}:ae prog 291 (zL p0 p1 H Q) [.int .u64 p0,.int .u64 p1] H (λv H'=>∃ r0 r1,v= .tuple #[.int .u64 r0,.int .u64 r1]/\Q r0 r1 H'):=aR (zL.eq_1 ..) func291 ntmps291
instance JC {p0 p1 H Q}:ae prog 241 (gw p0 p1 H Q) [Sl.v p0,VI p1] H (λv H'=>∃ r0,v=Sl.v r0/\Q r0 H'):=aR (gw.eq_1 ..) func241 ntmps241
instance XX {p0 H Q}:ae prog 210 (pR p0 H Q) [Sl.v p0] H (λv H'=>∃ r0 r1,v= .tuple #[Sl.v r0,VI r1]/\Q r0 r1 H'):=aR (pR.eq_1 ..) func210 ntmps210
instance TZ {p0 p1 p2 p3 H Q}:ae prog 213 (lK p0 p1 p2 p3 H Q) [.pointer p0,.bool p1,VI p2,VI p3] H (λv H'=>∃ r0,v=VI r0/\Q r0 H'):=aR (lK.eq_1 ..) func213 ntmps213
end
end Go.Proofs.YtigjebgjphmkoaaGreat
