import Derived.Test.YtigjebgjphmkoaaGreatA04
import Derived.Test.YtigjebgjphmkoaaGreatA05
import Derived.Test.YtigjebgjphmkoaaGreatA14
import Derived.Test.YtigjebgjphmkoaaGreatA15
set_option linter.unusedVariables false
set_option linter.unusedSimpArgs false
namespace Go.Proofs.YtigjebgjphmkoaaGreat
open Tryz
section
open Go Go.Kx Go.Proofs Go.Kx.Au Go.Kx.W
set_option maxRecDepth 20000
set_option maxHeartbeats 20000000
instance WU {p0 H Q}:ae prog 35 (wC p0 H Q) [VI p0] H (λv H'=>∃ r0,v=Sl.v r0/\Q r0 H'):=aR (wC.eq_1 ..) func35 ntmps35
instance WV {p0 p1 p2 H Q}:ae prog 230 (dy p0 p1 p2 H Q) [VI p0,VI p1,VI p2] H (λv H'=>∃ r0,v= .bool r0/\Q r0 H'):=aR (dy.eq_1 ..) func230 ntmps230
instance YY {p0 p1 H Q}:ae prog 231 (tj p0 p1 H Q) [.agg (bS p0).toArray,.agg (bS p1).toArray] H (λv H'=>∃ r0,v= .bool r0/\Q r0 H'):=aR (tj.eq_1 ..) func231 ntmps231
instance ZM {p0 H Q}:ae prog 151 (vT p0 H Q) [.agg (bS p0).toArray] H (λv H'=>∃ r0,v= .bool r0/\Q r0 H'):=aR (vT.eq_1 ..) func151 ntmps151
instance Zt {p0 p1 p2 H Q}:ae prog 108 (zN p0 p1 p2 H Q) [VI p0,VI p1,.agg (b9 p2).toArray] H (λv H'=>∃ r0 r1,v= .tuple #[.agg (bS r0).toArray,.bool r1]/\Q r0 r1 H'):=aR (zN.eq_1 ..) func108 ntmps108
instance OO {p0 p1 H Q}:ae prog 104 (jy p0 p1 H Q) [.pointer p0,.agg (b9 p1).toArray] H (λv H'=>∃ r0,v=VI r0/\Q r0 H'):=aR (jy.eq_1 ..) func104 ntmps104
instance M6 {p0 p1 p2 H Q}:ae prog 61 (oP p0 p1 p2 H Q) [.pointer p0,VI p1,Sl.v p2] H (λv H'=>∃ r0,v=VI r0/\Q r0 H'):=aR (oP.eq_1 ..) func61 ntmps61
instance WW {p0 p1 H Q}:ae prog 31 (fF p0 p1 H Q) [VI p0,VI p1] H (λv H'=>∃ r0,v= .agg (dx r0).toArray/\Q r0 H'):=aR (fF.eq_1 ..) func31 ntmps31
instance M8 {p0 H Q}:ae prog 105 (sF p0 H Q) [.pointer p0] H (λv H'=>∃ r0,v=VI r0/\Q r0 H'):=aR (sF.eq_1 ..) func105 ntmps105
instance OP {p0 H Q}:ae prog 63 (ow p0 H Q) [.pointer p0] H (λv H'=>∃ r0,v=VI r0/\Q r0 H'):=aR (ow.eq_1 ..) func63 ntmps63
theorem Ab {γ:Type} (c0:Addr) (Y:List Value->γ->PH->(Nat->γ->PH->Prop)->Prop) (g:γ) (H:PH) (Q:Nat->γ->PH->Prop) (h:qx c0 Y g H Q):
 iX prog (.func (.func 178) #[] #[.pointer (some c0)]) Y g H Q:=by
 unfold qx at h
 refine lu (fi:=[]) (ca:=[.pointer (some c0)]) WG func178 rfl ntmps178 (Nat.le_of_ble_eq_true rfl) λlz Tk hd hy =>?_
 generalize ae:Value.func (.yield lz) #[] #[]=yv
 intro D M t hB j
 refine s<|R<|y h λx1 ab h=>q (a de rfl ab)<|q (At underlying69 rfl rfl)<|z<|J h (λu h=>?_) λu h=>?_
 ·exact C u rfl<|Go.qo (g:=(0,g)) t hB j ⟨.inl rfl,_,(il results178),h⟩
 ·refine N u rfl<|K<|R<|y h λx4 ac h=>q (a de rfl ac)<|y h λa6 aa h=>q (n aa rfl)<|q (f qK rfl)<|y h λx8 ad h=>q (a de rfl ad)<|q (sO rfl rfl)<|q (aI rfl)<|z<|R<|y h λak I h=>q (a de rfl I)<|y h λai E h=>q (n E rfl)<|q (f qK rfl)<|y h λx L h=>q (a de rfl L)<|q (vt underlying159 rfl (Cn rfl))<|q (mI rfl)<|z<|b<|si (g:=(0,g)) (λd=>d.2) (λU (d:Int×(Nat×γ))=>U 0=yv/\U 3=VI (IntKind.wrap .i64 (x8+1))/\U 16=Sl.v x/\U 17=VI (x.len:Int)/\U 18=VI d.1) t hB j h ⟨rfl,rfl,rfl,rfl,rfl⟩ rfl<|?_
  clear h
  intro U d af T hE h k
  obtain⟨o,p,e,i,c⟩:=hE
  intro D M t hB j
  refine R<|q (xE c i)<|z<|s<|J h (λl h=>?_) λl h=>?_
  ·refine C l rfl<|K<|s<|b<|R<|q (mI c)<|y h λaj F h=>q (xF Ax F e c)<|y h λal O h=>q (A vQ rfl O)<|od<|uL xZ rfl λZ V G=>gY (h Z V G) λh=>q (aI rfl)<|st h sv rfl rfl λ_ h=>z<|R<|q (f qK rfl)<|y h λam P h=>q (a de rfl P)<|c1 (cb h) (cu h) rfl λao ag h=>q (f qK rfl)<|st h sv rfl rfl λ_ h=>z<|R<|q (mu o)<|q (mI p)<|q (mI rfl)<|q (sO rfl rfl)<|y h λan S h=>q (A vQ rfl S)<|od<|oh (q:=d.2) hy j (Eq.trans rfl ae.symm) rfl h λw ah h=>q (qj rfl)<|z<|J h (λm h=>?_) λm h=>?_
   ·exact C m rfl<|Go.qo (g:=w) t hB j ⟨.inl rfl,_,(il results178),h⟩
   ·exact N m rfl<|K<|B<|r<|q (sO c rfl)<|q (mI rfl)<|z<|k (IntKind.wrap .i64 (d.1+1),w) _ _ h (by exact⟨o,p,e,i,rfl⟩) _ _ t hB j
  ·exact N l rfl<|X rfl<|Go.vv (g:=d.2) t hB j ⟨.inr rfl,_,(il results178),h⟩
end
end Go.Proofs.YtigjebgjphmkoaaGreat
