import Derived.Test.YtigjebgjphmkoaaGreatA05
import Derived.Test.YtigjebgjphmkoaaGreatA06
import Derived.Test.YtigjebgjphmkoaaGreatA07
import Derived.Test.YtigjebgjphmkoaaGreatA08
import Derived.Test.YtigjebgjphmkoaaGreatA09
import Derived.Test.YtigjebgjphmkoaaGreatA10
import Derived.Test.YtigjebgjphmkoaaGreatA11
import Derived.Test.YtigjebgjphmkoaaGreatA12
import Derived.Test.YtigjebgjphmkoaaGreatA13
set_option linter.unusedVariables false
set_option linter.unusedSimpArgs false
namespace Go.Proofs.YtigjebgjphmkoaaGreat
open Tryz
section
open Go Go.Kx Go.Proofs Go.Kx.Au Go.Kx.W
set_option maxRecDepth 20000
set_option maxHeartbeats 20000000
instance Lt {p0 H Q}:ae prog 174 (nF p0 H Q) [.pointer p0] H (λv H'=>∃ r0,v=VI r0/\Q r0 H'):=rR (nF.eq_1 ..) func174 ntmps174
theorem vU {γ:Type} (c0:Addr) (Y:List Value->γ->PH->(Nat->γ->PH->Prop)->Prop) (g:γ) (H:PH) (Q:Nat->γ->PH->Prop) (h:∀X,sE c0 X Y g H Q):
 iX prog (.func (.func 139) #[] #[.pointer (some c0)]) Y g H Q:=by
 unfold sE at h
 refine lu (fi:=[]) (ca:=[.pointer (some c0)]) WE func139 rfl ntmps139 (Nat.le_of_ble_eq_true rfl) λlz Tk hd hy=>gY (h (.func (.yield lz) #[] #[])) λh=>?_
 generalize T:Value.func (.yield lz) #[] #[]=X at h ⊢
 have an:X.cells=[X].toArray:=by rw[←T];rfl
 intro D M l hB j
 refine R<|od<|xd (cs:=[X]) rfl an λa1 H2 al=>gY (h a1 H2 al) λh=>z<|R<|y h λx4 am h=>q (a de rfl am)<|c1 (cb h) (cu h) rfl λy7 H6 h=>vD rfl (by decide) (cb h) (cu h) rfl<|?_
 rintro y9 H8 ⟨_,rfl,h⟩
 refine z<|b<|?_
 refine DD (g:=(0,g)) (c1:=.ret) h rfl hd rfl l hB j trivial ?_ ?_ ?_<;>clear h
 ·rintro _ U aq aK ⟨ao,aE,rfl,h⟩
  refine⟨rfl,λlp Bx rz hr=>?_⟩
  clear l hB j
  intro D M l hB j
  refine R<|q (aI rfl)<|z<|r<|q (aI rfl)<|z<|Et (g:=U) hr hB j λM hB j =>?_
  have l:Mk (some lp) D M:=trivial
  refine b<|R<|y h λaF ag h=>q (a de rfl ag)<|y h λaz ad h=>q (n ad rfl)<|q (f qK rfl)<|y h λaG ah h=>q (a de rfl ah)<|q (mI rfl)<|c2 (cb h) (cu h) rfl λap aL ar h=>q (mT rfl)<|q (e rfl rfl)<|q (e rfl rfl)<|q (aI rfl)<|q (aB rfl)<|z<|R<|q (mI rfl)<|q (N1 rfl rfl)<|q (mB rfl)<|?_
  refine xj (TT:=λs:Nat×γ=>Tk s.1 s.2) (M:=M) 6 (λk=>k.2) (λE (k:Bool×(Nat×γ))=>E 2=VA a1/\E 3=VI ao/\E 5=VI ap/\E 29=VB k.1) h ?_ ?_<;>clear h
  ·intro k au E h L
   obtain⟨Z,aa,A,F⟩:=L
   refine q (mB F)<|?_
   refine xj (TT:=λs:Nat×γ=>Tk s.1 s.2) (M:=M) 10 (λm=>m.2) (λE (m:Bool×(Nat×γ))=>E 40=VB m.1) h ?_ ?_<;>clear h
   ·intro m av E h L
    have p:=L
    refine z<|J h (λx h=>?_) λx h=>?_
    ·exact C x p<|Go.qo (g:=m.2) l hB j ⟨1,⟨0,rfl,rfl⟩,h⟩
    ·exact N x p<|K<|B<|Go.vv (g:=m.2) l hB j ⟨0,rfl,h⟩
   ·intro aC P h
    refine J h (λi h=>?_) λi h=>?_
    ·exact o i<|o i<|o i<|u<|u<|u<|u<|u<|o i<|q (jB i rfl rfl)<|P (true,k.2) _ _ h (by exact rfl)
    ·refine w i (mI A)<|w i (N1 rfl rfl)<|w i (mB rfl)<|?_
     refine xj (TT:=λs:Nat×γ=>Tk s.1 s.2) (M:=M) 6 (λv=>v.2) (λE (v:Bool×(Nat×γ))=>E 30=VB k.1/\E 39=VB v.1) h ?_ ?_<;>clear h
     ·intro v aw E h L
      obtain⟨G,I⟩:=L
      exact q (nB i G I)<|P v _ _ h (by exact rfl)
     ·intro aD S h
      refine J h (λd h=>?_) λd h=>?_
      ·refine y h λaH ai h=>w d (a de Z ai)<|w d (mI aa)<|w d (mI A)<|t h λae h=>?_
       refine zB (nc rfl rfl rfl d) rfl (by decide) (oh (q:=k.2) hy j (Eq.trans (Eq.trans rfl ae) T.symm) rfl h λab ax h=>?_)
       exact w d (qj rfl)<|w i (jB d rfl rfl)<|S (!(ab.1==0),ab) _ _ h (by exact⟨rfl,rfl⟩)
      ·exact o d<|o d<|o d<|o d<|o d<|w i (nB d rfl rfl)<|S (false,k.2) _ _ h (by exact⟨rfl,rfl⟩)
  ·intro aA O h
   refine J h (λc h=>?_) λc h=>?_
   ·refine y h λaJ aj h=>w c (a de rfl aj)<|w c (mI rfl)<|w c (mI rfl)<|t h λaf h=>?_
    refine zB (nc rfl rfl rfl c) rfl (by decide) (oh (q:=U) hy j (Eq.trans (Eq.trans rfl af) T.symm) rfl h λac ay h=>?_)
    exact w c (qj rfl)<|q (jB c rfl rfl)<|O (!(ac.1==0),ac) _ _ h (by exact⟨rfl,rfl,rfl,rfl⟩)
   ·exact o c<|o c<|o c<|o c<|o c<|q (nB c rfl rfl)<|O (false,U) _ _ h (by exact⟨rfl,rfl,rfl,rfl⟩)
 ·intro V ak h
  intro D M l hB j
  exact B<|Go.vv (g:=V) l hB j ⟨.inr rfl,_,(il results139),h⟩
 ·intro V ak h
  intro D M l hB j
  exact Go.qo (g:=V) l hB j ⟨.inl rfl,_,(il results139),h⟩
instance Qg {p0 H Q}:ae prog 80 (nu p0 H Q) [.pointer p0] H (λv H'=>∃ r0,v=r0/\Q r0 H'):=aR (nu.eq_1 ..) func80 ntmps80
instance Sj {p0 p1 p2 H Q}:ae prog 143 (mJ p0 p1 p2 H Q) [.pointer p0,VI p1,VI p2] H (λv H'=>∃ r0,v= .bool r0/\Q r0 H'):=aR (mJ.eq_1 ..) func143 ntmps143
instance YT {p0 p1 p2 p3 H Q}:ae prog 261 (yV p0 p1 p2 p3 H Q) [.pointer p0,.pointer p1,.pointer p2,.agg (ag p3).toArray] H (λv H'=>∃ r0,v= .pointer r0/\Q r0 H'):=aR (yV.eq_1 ..) func261 ntmps261
instance Pk {p0 p1 H Q}:ae prog 262 (pq p0 p1 H Q) [.pointer p0,VI p1] H (λv H'=>∃ r0,v=VI r0/\Q r0 H'):=aR (pq.eq_1 ..) func262 ntmps262
instance Mz {p0 H Q}:ae prog 175 (oN p0 H Q) [.pointer p0] H (λv H'=>∃ r0 r1,v= .tuple #[.pointer r0,VI r1]/\Q r0 r1 H'):=rR (oN.eq_1 ..) func175 ntmps175
instance YU {p0 p1 p2 p3 p4 p5 a b H Q}:ae prog 176 (yW p0 p1 p2 p3 p4 p5 a b H Q) [.pointer p0,.pointer p1,.pointer p2,.pointer p3,.pointer p4,VI p5,.agg (bI a).toArray,.agg (dB b).toArray] H (λv H'=>∃ r0,v= .pointer r0/\Q r0 H'):=aR (yW.eq_1 ..) func176 ntmps176
instance Qh {p0 H Q}:ae prog 78 (lP p0 H Q) [.pointer p0] H (λv H'=>∃ r0,v=VI r0/\Q r0 H'):=aR (lP.eq_1 ..) func78 ntmps78
instance Xk {p0 p1 H Q}:ae prog 74 (uV p0 p1 H Q) [VI p0,VI p1] H (λv H'=>∃ r0,v=VI r0/\Q r0 H'):=aR (uV.eq_1 ..) func74 ntmps74
end
end Go.Proofs.YtigjebgjphmkoaaGreat
