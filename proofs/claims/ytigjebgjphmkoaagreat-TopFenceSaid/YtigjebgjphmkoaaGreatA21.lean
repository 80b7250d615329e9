import Derived.Test.YtigjebgjphmkoaaGreatA13
import Derived.Test.YtigjebgjphmkoaaGreatA15
import Derived.Test.YtigjebgjphmkoaaGreatA16
import Derived.Test.YtigjebgjphmkoaaGreatA17
import Derived.Test.YtigjebgjphmkoaaGreatA18
import Derived.Test.YtigjebgjphmkoaaGreatA19
import Derived.Test.YtigjebgjphmkoaaGreatA20
set_option linter.unusedVariables false
set_option linter.unusedSimpArgs false
namespace Go.Proofs.YtigjebgjphmkoaaGreat
open Tryz
section
open Go Go.Kx Go.Proofs Go.Kx.Au Go.Kx.W
set_option maxRecDepth 20000
set_option maxHeartbeats 20000000
instance I2 {p0 H Q}:ae prog 157 (kP p0 H Q) [.pointer p0] H (λv H'=>∃ r0 r1,v= .tuple #[.agg (b9 r0).toArray,.bool r1]/\Q r0 r1 H'):=aR (kP.eq_1 ..) func157 ntmps157
instance OW {p0 H Q}:ae prog 97 (pA p0 H Q) [.pointer p0] H (λv H'=>∃ r0 r1,v= .tuple #[Sl.v r0,VI r1]/\Q r0 r1 H'):=aR (pA.eq_1 ..) func97 ntmps97
instance Lx {p0 p1 H Q}:ae prog 52 (jI p0 p1 H Q) [.pointer p0,Sl.v p1] H (λv H'=>∃ r0 r1,v= .tuple #[Sl.v r0,VI r1]/\Q r0 r1 H'):=aR (jI.eq_1 ..) func52 ntmps52
instance Qs {p0 p1 H Q}:ae prog 16 (lQ p0 p1 H Q) [.pointer p0,Sl.v p1] H (λv H'=>∃ r0 r1,v= .tuple #[Sl.v r0,VI r1]/\Q r0 r1 H'):=aR (lQ.eq_1 ..) func16 ntmps16
instance Ly {p0 p1 H Q}:ae prog 67 (nJ p0 p1 H Q) [.pointer p0,VI p1] H (λv H'=>∃ r0,v= .agg (dx r0).toArray/\Q r0 H'):=aR (nJ.eq_1 ..) func67 ntmps67
instance OX {p0 p1 H Q}:ae prog 111 (pB p0 p1 H Q) [.pointer p0,Sl.v p1] H (λv H'=>∃ r0,v=VI r0/\Q r0 H'):=aR (pB.eq_1 ..) func111 ntmps111
instance ND {p0 H Q}:ae prog 112 (sG p0 H Q) [.pointer p0] H (λv H'=>∃ r0,v=VI r0/\Q r0 H'):=aR (sG.eq_1 ..) func112 ntmps112
instance NF {p0 p1 H Q}:ae prog 68 (sH p0 p1 H Q) [.pointer p0,VI p1] H (λv H'=>∃ r0,v= .agg (dx r0).toArray/\Q r0 H'):=aR (sH.eq_1 ..) func68 ntmps68
instance Jp {p0 p1 H Q}:ae prog 29 (fR p0 p1 H Q) [.pointer p0,.agg (b9 p1).toArray] H (λv H'=>∃ r0 r1,v= .tuple #[.agg (dx r0).toArray,.bool r1]/\Q r0 r1 H'):=aR (fR.eq_1 ..) func29 ntmps29
instance ZN {p0 H Q}:ae prog 118 (DF p0 H Q) [.pointer p0] H (λv H'=>∃ r0,v= .bool r0/\Q r0 H'):=aR (DF.eq_1 ..) func118 ntmps118
instance Sp {p0 H Q}:ae prog 120 (sU p0 H Q) [.pointer p0] H (λv H'=>∃ r0,v= .agg (ag r0).toArray/\Q r0 H'):=aR (sU.eq_1 ..) func120 ntmps120
theorem zx {γ:Type} (c0:Addr) (Y:List Value->γ->PH->(Nat->γ->PH->Prop)->Prop) (g:γ) (H:PH) (Q:Nat->γ->PH->Prop) (h:qS c0 Y g H Q):
 iX prog (.func (.func 266) #[] #[.pointer (some c0)]) Y g H Q:=by
 unfold qS at h
 refine lu (fi:=[]) (ca:=[.pointer (some c0)]) WI func266 rfl ntmps266 (Nat.le_of_ble_eq_true rfl) λlz Tk hd hy =>?_
 generalize af:Value.func (.yield lz) #[] #[]=yv
 intro D M v hB m
 refine s<|R<|y h λx1 ac h=>q (a de rfl ac)<|q (At underlying73 rfl rfl)<|z<|J h (λF h=>?_) λF h=>?_
 ·exact C F rfl<|Go.qo (g:=(0,g)) v hB m ⟨.inl rfl,_,(il results266),h⟩
 ·refine N F rfl<|K<|R<|y h λx4 ad h=>q (a de rfl ad)<|y h λa6 ab h=>q (n ab rfl)<|q (f qK rfl)<|y h λx8 ae h=>q (a de rfl ae)<|q (vt underlying206 rfl (Cn rfl))<|q (mI rfl)<|z<|b<|si (g:=(0,g)) (λcr=>cr.2) (λx (cr:Int×(Nat×γ))=>x 0=yv/\x 1= .pointer (some c0)/\x 10=VI (x8.len:Int)/\x 11=VI cr.1) v hB m h ⟨rfl,rfl,rfl,rfl⟩ rfl<|?_
  clear h
  intro x cr ag aa P h p
  obtain⟨j,k,e,d⟩:=P
  intro D M v hB m
  refine R<|q (xE d e)<|z<|s<|J h (λt h=>?_) λt h=>?_
  ·refine C t rfl<|K<|s<|b<|R<|q (mI d)<|q (aI rfl)<|z<|R<|y h λam U h=>q (a de k U)<|y h λaj S h=>q (n S rfl)<|q (f qK rfl)<|y h λan V h=>q (a de rfl V)<|q (mI rfl)<|y h λak T h=>q (xF Ax T rfl rfl)<|q (f qK rfl)<|y h λao Z h=>q (a de rfl Z)<|q (I7 rfl rfl)<|q (mB rfl)<|?_
   refine xj (TT:=λqz:Nat×γ=>Tk qz.1 qz.2) (M:=M) 5 (λi=>i.2) (λx (i:Bool×(Nat×γ))=>x 0=yv/\x 1=VA c0/\x 10=VI (x8.len:Int)/\x 11=VI cr.1/\x 28=VB i.1) h ?_ ?_<;>clear h
   ·intro i ah x h P
    obtain⟨I,L,A,E,l⟩:=P
    refine z<|J h (λu h=>?_) λu h=>?_
    ·exact C u l<|Go.qo (g:=i.2) v hB m ⟨.inl rfl,_,(il results266),h⟩
    ·exact N u l<|K<|B<|r<|q (sO E rfl)<|q (mI rfl)<|z<|p (IntKind.wrap .i64 (cr.1+1),i.2) _ _ h (by exact⟨I,L,A,rfl⟩) _ _ v hB m
   ·intro al G h
    refine J h (λc h=>?_) λc h=>?_
    ·refine w c (mu j)<|w c (mI rfl)<|?_
     refine zB (nc rfl rfl rfl c) rfl (by decide) (oh (q:=cr.2) hy m (Eq.trans rfl af.symm) rfl h λO ai h=>?_)
     exact w c (qj rfl)<|q (jB c rfl rfl)<|G (!(O.1==0),O) _ _ h (by exact⟨j,k,e,d,rfl⟩)
    ·exact o c<|o c<|o c<|o c<|q (nB c rfl rfl)<|G (false,cr.2) _ _ h (by exact⟨j,k,e,d,rfl⟩)
  ·exact N t rfl<|X rfl<|Go.vv (g:=cr.2) v hB m ⟨.inr rfl,_,(il results266),h⟩
instance OY {p0 H Q}:ae prog 188 (tC p0 H Q) [.pointer p0] H (λv H'=>∃ r0,v=r0/\Q r0 H'):=aR (tC.eq_1 ..) func188 ntmps188
instance Qt {p0 p1 H Q}:ae prog 189 (rD p0 p1 H Q) [.pointer p0,VI p1] H (λv H'=>∃ r0,v=VI r0/\Q r0 H'):=aR (rD.eq_1 ..) func189 ntmps189
instance Tj {p0 H Q}:ae prog 191 (tn p0 H Q) [.pointer p0] H (λv H'=>∃ r0,v=VI r0/\Q r0 H'):=aR (tn.eq_1 ..) func191 ntmps191
instance NG {p0 p1 H Q}:ae prog 14 (iO p0 p1 H Q) [.pointer p0,VI p1] H (λv H'=>∃ r0,v=VI r0/\Q r0 H'):=aR (iO.eq_1 ..) func14 ntmps14
end
end Go.Proofs.YtigjebgjphmkoaaGreat
