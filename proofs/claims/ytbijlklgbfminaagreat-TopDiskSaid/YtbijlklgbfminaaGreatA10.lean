import Derived.Test.YtbijlklgbfminaaGreatA09
set_option linter.unusedVariables false
set_option linter.unusedSimpArgs false
namespace Go.Proofs.YtbijlklgbfminaaGreat
section
open Go Go.Kx Go.Proofs Go.Kx.Au Go.Kx.W
set_option maxRecDepth 20000
set_option maxHeartbeats 2000000
instance TR {p0 H Q}:aj Tryz.prog 40 (tO p0 H Q) [.agg ([VI p0.1,VI p0.2.1,VI p0.2.2.1,VI p0.2.2.2.1,VI p0.2.2.2.2.1,VI p0.2.2.2.2.2.1,VI p0.2.2.2.2.2.2.1,Sl.v p0.2.2.2.2.2.2.2]:List Value).toArray] H (λv H'=>∃ a,v= .bool a/\Q a H'):=aT (tO.eq_1 ..) Tryz.func40 Tryz.ntmps40
instance Ib {p0 H Q}:aj Tryz.prog 226 (qV p0 H Q) [.pointer p0] H (λv H'=>∃ a,v=VI a/\Q a H'):=aT (qV.eq_1 ..) Tryz.func226 Tryz.ntmps226
instance Pb {p0 H Q}:aj Tryz.prog 232 (qF p0 H Q) [.pointer p0] H (λv H'=>∃ a,v=VI a/\Q a H'):=aT (qF.eq_1 ..) Tryz.func232 Tryz.ntmps232
instance Pc {p0 p1 H Q}:aj Tryz.prog 273 (vW p0 p1 H Q) [.pointer p0,VI p1] H (λv H'=>∃ a,v= .bool a/\Q a H'):=aT (vW.eq_1 ..) Tryz.func273 Tryz.ntmps273
instance Cd {p0 p1 p2 H Q}:aj Tryz.prog 274 (gZ p0 p1 p2 H Q) [Sl.v p0,VI p1,VI p2] H (λv H'=>∃ a,v=Sl.v a/\Q a H'):=aT (gZ.eq_1 ..) Tryz.func274 Tryz.ntmps274
instance OE {p0 p1 H Q}:aj Tryz.prog 233 (rn p0 p1 H Q) [.pointer p0,VI p1] H (λv H'=>∃ a b,v= .tuple #[Sl.v a,.bool b]/\Q a b H'):=aT (rn.eq_1 ..) Tryz.func233 Tryz.ntmps233
instance FK {p0 p1 H Q}:aj Tryz.prog 102 (jw p0 p1 H Q) [.pointer p0,.agg ([VI p1.1,VI p1.2.1,VI p1.2.2.1,VI p1.2.2.2.1,VI p1.2.2.2.2.1,VI p1.2.2.2.2.2.1,VI p1.2.2.2.2.2.2.1,Sl.v p1.2.2.2.2.2.2.2]:List Value).toArray] H (λv H'=>∃ a,v= .bool a/\Q a H'):=aT (jw.eq_1 ..) Tryz.func102 Tryz.ntmps102
instance EU {p0 H Q}:aj Tryz.prog 183 (gR p0 H Q) [.pointer p0] H (λv H'=>∃ a,v= .bool a/\Q a H'):=aT (gR.eq_1 ..) Tryz.func183 Tryz.ntmps183
instance FL {p0 p1 H Q}:aj Tryz.prog 184 (fE p0 p1 H Q) [.pointer p0,VI p1] H (λv H'=>∃ a,v= .pointer a/\Q a H'):=aT (fE.eq_1 ..) Tryz.func184 Tryz.ntmps184
instance E9 {p0 p1 p2 H Q}:aj Tryz.prog 105 (jT p0 p1 p2 H Q) [.pointer p0,VI p1,.agg ([VI p2.1,VI p2.2.1,VI p2.2.2.1,VI p2.2.2.2.1,Sl.v p2.2.2.2.2]:List Value).toArray] H (λv H'=>∃ a,v=VI a/\Q a H'):=aT (jT.eq_1 ..) Tryz.func105 Tryz.ntmps105
instance EV {p0 H Q}:aj Tryz.prog 185 (eF p0 H Q) [.pointer p0] H (λv H'=>∃ a b,v= .tuple #[.agg ([VI a.1,VI a.2.1,VI a.2.2.1,VI a.2.2.2.1,Sl.v a.2.2.2.2]:List Value).toArray,.bool b]/\Q a b H'):=aT (eF.eq_1 ..) Tryz.func185 Tryz.ntmps185
instance NV {p0 p1 p2 H Q}:aj Tryz.prog 112 (nJ p0 p1 p2 H Q) [.pointer p0,VI p1,VI p2] H (λv H'=>∃ a,v= .bool a/\Q a H'):=aT (nJ.eq_1 ..) Tryz.func112 Tryz.ntmps112
instance FA {p0 H Q}:aj Tryz.prog 187 (gn p0 H Q) [.pointer p0] H (λv H'=>∃ a,v= .bool a/\Q a H'):=aT (gn.eq_1 ..) Tryz.func187 Tryz.ntmps187
theorem vX {γ:Type} (c0:Addr) (Y:List Value->γ->PH->(Nat->γ->PH->Prop)->Prop) (g:γ) (H:PH) (Q:Nat->γ->PH->Prop) (h:mU c0 Y g H Q):
 iH Tryz.prog (.func (.func 321) #[] #[.pointer (some c0)]) Y g H Q:=by
 unfold mU at h
 refine kX (fi:=[]) (ca:=[.pointer (some c0)]) QY Tryz.func321 rfl Tryz.ntmps321 (Nat.le_of_ble_eq_true rfl) λlz Tk hd hy =>?_
 generalize ac:Value.func (.yield lz) #[] #[]=yv
 intro D M x v p
 refine R<|y h λx1 ab h=>q (a aR rfl ab)<|c1 (cb h) (cu h) rfl λy4 H3 h=>q (mI rfl)<|z<|b<|qu (g:=(0,g)) (λs5=>s5.2) (λu (s5:Int×(Nat×γ))=>u 0=yv/\u 1= .pointer (some c0)/\u 5=VI y4/\u 6=VI s5.1) x v p h ⟨rfl,rfl,rfl,rfl⟩ rfl<|?_
 clear h
 intro u s5 H8 aa P h t
 obtain⟨j,k,l,e⟩:=P
 intro D M x v p
 refine R<|q (jO e l)<|z<|s<|J h (λA h=>?_) λA h=>?_
 ·refine C A rfl<|K<|s<|b<|R<|q (mI e)<|q (aI rfl)<|z<|R<|y h λai U h=>q (a aR k U)<|y h λaf S h=>q (n S rfl)<|q (f bB rfl)<|y h λaj V h=>q (a aR rfl V)<|q (mI rfl)<|y h λag T h=>q (kj dB T rfl rfl)<|y h λak Z h=>q (a aR rfl Z)<|q (mB rfl)<|?_
  refine vC (TT:=λqz:Nat×γ=>Tk qz.1 qz.2) (M:=M) 5 (λd=>d.2) (λu (d:Bool×(Nat×γ))=>u 0=yv/\u 1=VA c0/\u 5=VI y4/\u 6=VI s5.1/\u 21=VB d.1) h ?_ ?_<;>clear h
  ·intro d ad u h P
   obtain⟨F,G,I,L,i⟩:=P
   refine z<|J h (λm h=>?_) λm h=>?_
   ·exact C m i<|Go.fP (g:=d.2) x v p ⟨.inl rfl,_,(iC Tryz.results321),h⟩
   ·exact N m i<|K<|B<|r<|q (de L rfl)<|q (mI rfl)<|z<|t (IntKind.wrap .i64 (s5.1+1),d.2) _ _ h (by exact⟨F,G,I,rfl⟩) _ _ x v p
  ·intro ah E h
   refine J h (λc h=>?_) λc h=>?_
   ·refine w c (lI j)<|w c (mI rfl)<|?_
    refine wg (jP rfl rfl rfl c) rfl (by decide) (nD (q:=s5.2) hy p (Eq.trans rfl ac.symm) rfl h λO ae h=>?_)
    exact w c (jH rfl)<|q (jB c rfl rfl)<|E (!(O.1==0),O) _ _ h (by exact⟨j,k,l,e,rfl⟩)
   ·exact o c<|o c<|o c<|o c<|q (nB c rfl rfl)<|E (false,s5.2) _ _ h (by exact⟨j,k,l,e,rfl⟩)
 ·exact N A rfl<|X rfl<|Go.gP (g:=s5.2) x v p ⟨.inr rfl,_,(iC Tryz.results321),h⟩
instance HM {p0 H Q}:aj Tryz.prog 309 (ou p0 H Q) [.pointer p0] H (λv H'=>∃ a,v=a/\Q a H'):=aT (ou.eq_1 ..) Tryz.func309 Tryz.ntmps309
instance K3 {p0 H Q}:aj Tryz.prog 284 (lK p0 H Q) [.pointer p0] H (λv H'=>∃ a,v= .agg ([VI a.1,VI a.2.1,VI a.2.2.1,VI a.2.2.2.1,VI a.2.2.2.2]:List Value).toArray/\Q a H'):=aT (lK.eq_1 ..) Tryz.func284 Tryz.ntmps284
instance By {p0 H Q}:aj Tryz.prog 310 (gS p0 H Q) [Sl.v p0] H (λv H'=>∃ a,v=Sl.v a/\Q a H'):=aT (gS.eq_1 ..) Tryz.func310 Tryz.ntmps310
instance Lv {p0 p1 H Q}:aj Tryz.prog 294 (mV p0 p1 H Q) [.pointer p0,VI p1] H (λv H'=>∃ a,v= .bool a/\Q a H'):=aT (mV.eq_1 ..) Tryz.func294 Tryz.ntmps294
instance Lw {p0 p1 H Q}:aj Tryz.prog 292 (pb p0 p1 H Q) [.pointer p0,.bool p1] H (λv H'=>∃ a,v=Sl.v a/\Q a H'):=aT (pb.eq_1 ..) Tryz.func292 Tryz.ntmps292
instance HN {p0 H Q}:aj Tryz.prog 293 (ko p0 H Q) [.pointer p0] H (λv H'=>v= .tuple #[]/\Q H'):=aT (ko.eq_1 ..) Tryz.func293 Tryz.ntmps293
instance K4 {p0 H Q}:aj Tryz.prog 244 (oL p0 H Q) [.pointer p0] H (λv H'=>v= .tuple #[]/\Q H'):=aT (oL.eq_1 ..) Tryz.func244 Tryz.ntmps244
instance Ic {p0 H Q}:aj Tryz.prog 245 (mo p0 H Q) [.pointer p0] H (λv H'=>∃ a,v=Sl.v a/\Q a H'):=aT (mo.eq_1 ..) Tryz.func245 Tryz.ntmps245
instance NW {p0 H Q}:aj Tryz.prog 238 (qh p0 H Q) [.pointer p0] H (λv H'=>∃ a,v= .agg ([VI a.1,VI a.2.1,VI a.2.2.1,VI a.2.2.2.1,VI a.2.2.2.2]:List Value).toArray/\Q a H'):=aT (qh.eq_1 ..) Tryz.func238 Tryz.ntmps238
instance NX {p0 p1 H Q}:aj Tryz.prog 113 (qi p0 p1 H Q) [.pointer p0,VI p1] H (λv H'=>∃ a b,v= .tuple #[VI a,.bool b]/\Q a b H'):=aT (qi.eq_1 ..) Tryz.func113 Tryz.ntmps113
instance Jo {p0 p1 p2 H Q}:aj Tryz.prog 59 (rG p0 p1 p2 H Q) [VI p0,VI p1,VI p2] H (λv H'=>∃ a,v= .bool a/\Q a H'):=aT (rG.eq_1 ..) Tryz.func59 Tryz.ntmps59
instance OF {p0 p1 H Q}:aj Tryz.prog 117 (ow p0 p1 H Q) [VI p0,VI p1] H (λv H'=>∃ a,v=VI a/\Q a H'):=aT (ow.eq_1 ..) Tryz.func117 Tryz.ntmps117
instance HO {p0 H Q}:aj Tryz.prog 60 (oy p0 H Q) [.agg ([VI p0.1,VI p0.2.1,VI p0.2.2]:List Value).toArray] H (λv H'=>∃ a,v=VI a/\Q a H'):=aT (oy.eq_1 ..) Tryz.func60 Tryz.ntmps60
instance K5 {p0 H Q}:aj Tryz.prog 61 (sL p0 H Q) [.agg ([VI p0.1,VI p0.2.1,VI p0.2.2]:List Value).toArray] H (λv H'=>∃ a,v=VI a/\Q a H'):=aT (sL.eq_1 ..) Tryz.func61 Tryz.ntmps61
instance K6 {p0 p1 H Q}:aj Tryz.prog 33 (sM p0 p1 H Q) [.agg ([VI p0.1,VI p0.2.1,VI p0.2.2]:List Value).toArray,VI p1] H (λv H'=>∃ a,v=VI a/\Q a H'):=aT (sM.eq_1 ..) Tryz.func33 Tryz.ntmps33
theorem Bz {p0 H Q} (h:yX p0 H Q):dv Tryz.prog 224 #[.agg ([VI p0.1,VI p0.2.1,VI p0.2.2.1,VI p0.2.2.2]:List Value).toArray] H λv H'=>∃ d,v= .bool d/\Q d H':=by
 unfold yX at h
 exact F Tryz.func224 rfl Tryz.ntmps224<|R<|od<|cE (cs:=[VI p0.1,VI p0.2.1,VI p0.2.2.1,VI p0.2.2.2]) rfl rfl λa1 e b=>gY (h a1 e b) λh=>q (aB rfl)<|z<|R<|q (f bB rfl)<|y h λg c h=>q (a aR rfl c)<|q (xN rfl rfl)<|q (aB rfl)<|z<|E1 rfl rfl h
theorem Cv {p0 H Q} (h:zx p0 H Q):dv Tryz.prog 328 #[Sl.v p0] H λv H'=>∃ a,v= .bool a/\Q a H':=by
 unfold zx at h
 exact F Tryz.func328 rfl Tryz.ntmps328<|R<|q (aB rfl)<|z<|R<|q (mS rfl)<|q (ju Tryz.underlying44 rfl (qo rfl))<|q (eP rfl rfl)<|q (aB rfl)<|z<|E1 rfl rfl h
end
end Go.Proofs.YtbijlklgbfminaaGreat
