import Derived.Test.YtigjebgjphmkoaaGreatA06
import Derived.Test.YtigjebgjphmkoaaGreatA07
import Derived.Test.YtigjebgjphmkoaaGreatA08
import Derived.Test.YtigjebgjphmkoaaGreatA09
import Derived.Test.YtigjebgjphmkoaaGreatA10
import Derived.Test.YtigjebgjphmkoaaGreatA11
import Derived.Test.YtigjebgjphmkoaaGreatA13
import Derived.Test.YtigjebgjphmkoaaGreatA15
import Derived.Test.YtigjebgjphmkoaaGreatA17
set_option linter.unusedVariables false
set_option linter.unusedSimpArgs false
namespace Go.Proofs.YtigjebgjphmkoaaGreat
open Tryz
section
open Go Go.Kx Go.Proofs Go.Kx.Au Go.Kx.W
set_option maxRecDepth 20000
set_option maxHeartbeats 20000000
instance M9 {p0 H Q}:ae prog 206 (lE p0 H Q) [.pointer p0] H (λv H'=>∃ r0,v=VI r0/\Q r0 H'):=aR (lE.eq_1 ..) func206 ntmps206
instance NA {p0 p1 p2 H Q}:ae prog 207 (lF p0 p1 p2 H Q) [.pointer p0,Sl.v p1,Sl.v p2] H (λv H'=>∃ r0,v=VI r0/\Q r0 H'):=rR (lF.eq_1 ..) func207 ntmps207
instance OQ {p0 H Q}:ae prog 124 (iu p0 H Q) [.pointer p0] H (λv H'=>∃ r0,v=VI r0/\Q r0 H'):=aR (iu.eq_1 ..) func124 ntmps124
theorem yF {γ:Type} (c0:Addr) (Y:List Value->γ->PH->(Nat->γ->PH->Prop)->Prop) (g:γ) (H:PH) (Q:Nat->γ->PH->Prop) (h:oB c0 Y g H Q):
 iX prog (.func (.func 312) #[] #[.pointer (some c0)]) Y g H Q:=by
 unfold oB at h
 refine lu (fi:=[]) (ca:=[.pointer (some c0)]) WH func312 rfl ntmps312 (Nat.le_of_ble_eq_true rfl) λlz Tk hd hy =>?_
 generalize ab:Value.func (.yield lz) #[] #[]=yv
 intro D M v hB p
 refine R<|y h λx1 aa h=>q (a de rfl aa)<|c1 (cb h) (cu h) rfl λy4 H3 h=>q (mI rfl)<|z<|b<|si (g:=(0,g)) (λs5=>s5.2) (λu (s5:Int×(Nat×γ))=>u 0=yv/\u 1= .pointer (some c0)/\u 5=VI y4/\u 6=VI s5.1) v hB p h ⟨rfl,rfl,rfl,rfl⟩ rfl<|?_
 clear h
 intro u s5 H8 Z O h t
 obtain⟨j,k,l,e⟩:=O
 intro D M v hB p
 refine R<|q (xE e l)<|z<|s<|J h (λx h=>?_) λx h=>?_
 ·refine C x rfl<|K<|s<|b<|R<|q (mI e)<|q (aI rfl)<|z<|R<|y h λah T h=>q (a de k T)<|y h λae P h=>q (n P rfl)<|q (f qK rfl)<|y h λai U h=>q (a de rfl U)<|q (mI rfl)<|y h λaf S h=>q (xF Ax S rfl rfl)<|y h λaj V h=>q (a de rfl V)<|q (mB rfl)<|?_
  refine xj (TT:=λqz:Nat×γ=>Tk qz.1 qz.2) (M:=M) 5 (λd=>d.2) (λu (d:Bool×(Nat×γ))=>u 0=yv/\u 1=VA c0/\u 5=VI y4/\u 6=VI s5.1/\u 21=VB d.1) h ?_ ?_<;>clear h
  ·intro d ac u h O
   obtain⟨E,F,G,I,i⟩:=O
   refine z<|J h (λm h=>?_) λm h=>?_
   ·exact C m i<|Go.qo (g:=d.2) v hB p ⟨.inl rfl,_,(il results312),h⟩
   ·exact N m i<|K<|B<|r<|q (sO I rfl)<|q (mI rfl)<|z<|t (IntKind.wrap .i64 (s5.1+1),d.2) _ _ h (by exact⟨E,F,G,rfl⟩) _ _ v hB p
  ·intro ag A h
   refine J h (λc h=>?_) λc h=>?_
   ·refine w c (mu j)<|w c (mI rfl)<|?_
    refine zB (nc rfl rfl rfl c) rfl (by decide) (oh (q:=s5.2) hy p (Eq.trans rfl ab.symm) rfl h λL ad h=>?_)
    exact w c (qj rfl)<|q (jB c rfl rfl)<|A (!(L.1==0),L) _ _ h (by exact⟨j,k,l,e,rfl⟩)
   ·exact o c<|o c<|o c<|o c<|q (nB c rfl rfl)<|A (false,s5.2) _ _ h (by exact⟨j,k,l,e,rfl⟩)
 ·exact N x rfl<|X rfl<|Go.vv (g:=s5.2) v hB p ⟨.inr rfl,_,(il results312),h⟩
instance Lf {p0 H Q}:ae prog 276 (qR p0 H Q) [.pointer p0] H (λv H'=>∃ r0,v=r0/\Q r0 H'):=aR (qR.eq_1 ..) func276 ntmps276
instance Pv {p0 p1 H Q}:ae prog 209 (uF p0 p1 H Q) [.pointer p0,.bool p1] H (λv H'=>∃ r0,v=r0/\Q r0 H'):=aR (uF.eq_1 ..) func209 ntmps209
instance Pw {p0 p1 H Q}:ae prog 125 (pw p0 p1 H Q) [.pointer p0,.bool p1] H (λv H'=>∃ r0 r1,v= .tuple #[Sl.v r0,VI r1]/\Q r0 r1 H'):=rR (pw.eq_1 ..) func125 ntmps125
instance Ev {p0 H Q}:ae prog 279 (iQ p0 H Q) [Sl.v p0] H (λv H'=>∃ r0,v=Sl.v r0/\Q r0 H'):=aR (iQ.eq_1 ..) func279 ntmps279
instance Qn {p0 p1 H Q}:ae prog 217 (oC p0 p1 H Q) [.pointer p0,VI p1] H (λv H'=>∃ r0,v= .bool r0/\Q r0 H'):=aR (oC.eq_1 ..) func217 ntmps217
instance Qo {p0 p1 H Q}:ae prog 215 (qy p0 p1 H Q) [.pointer p0,.bool p1] H (λv H'=>∃ r0,v=Sl.v r0/\Q r0 H'):=aR (qy.eq_1 ..) func215 ntmps215
instance Lh {p0 H Q}:ae prog 216 (mM p0 H Q) [.pointer p0] H (λv H'=>v= .tuple #[]/\Q H'):=aR (mM.eq_1 ..) func216 ntmps216
instance Px {p0 H Q}:ae prog 128 (px p0 H Q) [.pointer p0] H (λv H'=>v= .tuple #[]/\Q H'):=aR (px.eq_1 ..) func128 ntmps128
instance NB {p0 H Q}:ae prog 129 (oQ p0 H Q) [.pointer p0] H (λv H'=>∃ r0,v=Sl.v r0/\Q r0 H'):=aR (oQ.eq_1 ..) func129 ntmps129
instance Hg {p0 H Q}:ae prog 152 (gG p0 H Q) [.pointer p0] H (λv H'=>∃ r0,v= .bool r0/\Q r0 H'):=aR (gG.eq_1 ..) func152 ntmps152
instance OR {p0 H Q}:ae prog 9 (fv p0 H Q) [.pointer p0] H (λv H'=>∃ r0,v= .agg (dB r0).toArray/\Q r0 H'):=aR (fv.eq_1 ..) func9 ntmps9
end
end Go.Proofs.YtigjebgjphmkoaaGreat
