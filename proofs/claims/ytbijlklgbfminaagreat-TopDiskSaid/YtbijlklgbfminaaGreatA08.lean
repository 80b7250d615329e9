import Derived.Test.YtbijlklgbfminaaGreatA07
set_option linter.unusedVariables false
set_option linter.unusedSimpArgs false
namespace Go.Proofs.YtbijlklgbfminaaGreat
section
open Go Go.Kx Go.Proofs Go.Kx.Au Go.Kx.W
set_option maxRecDepth 20000
set_option maxHeartbeats 2000000
instance Tv {p0 H Q}:aj Tryz.prog 214 (tD p0 H Q) [.agg ([VI p0.1,VI p0.2.1,VI p0.2.2.1,VI p0.2.2.2]:List Value).toArray] H (λv H'=>∃ a,v= .bool a/\Q a H'):=aT (tD.eq_1 ..) Tryz.func214 Tryz.ntmps214
instance RW {p0 H Q}:aj Tryz.prog 319 (qN p0 H Q) [Sl.v p0] H (λv H'=>∃ a b,v= .tuple #[Sl.v a,VI b]/\Q a b H'):=aT (qN.eq_1 ..) Tryz.func319 Tryz.ntmps319
instance RX {p0 H Q}:aj Tryz.prog 146 (nt p0 H Q) [.agg ([VI p0.1,VI p0.2.1,VI p0.2.2.1,VI p0.2.2.2]:List Value).toArray] H (λv H'=>∃ a,v= .bool a/\Q a H'):=aT (nt.eq_1 ..) Tryz.func146 Tryz.ntmps146
instance BT {p0 p1 H Q}:aj Tryz.prog 330 (fw p0 p1 H Q) [Sl.v p0,p1] H (λv H'=>∃ n,v=VI n/\Q n H'):=⟨λh=>by
 unfold fw at h
 refine F Tryz.func330 rfl Tryz.ntmps330<|R<|q (aI rfl)<|z<|s<|R<|q (mS rfl)<|q (ju Tryz.underlying192 rfl (qo rfl))<|q (mI rfl)<|z<|b<|?_
 refine qK (λo (s1:Int)=>o 0=Sl.v p0/\o 1=p1/\o 7=VI (p0.len:Int)/\o 8=VI s1) h ⟨rfl,rfl,rfl,rfl⟩ ?_
 clear h
 intro o s1 x k p h e
 obtain⟨f,g,i,c⟩:=p
 refine R<|q (jO c i)<|z<|s<|J h (λj h=>?_) λj h=>?_
 ·refine C j rfl<|K<|s<|b<|R<|q (mI c)<|q (aI rfl)<|z<|R<|q (lI g)<|q (mS f)<|q (mI rfl)<|y h λA l h=>q (kj dB l rfl rfl)<|y h λD m h=>q (a aR rfl m)<|od<|zC rfl rfl h λu t h=>?_
  obtain⟨w,rfl,h⟩:=h
  refine z<|J h (λd h=>?_) λd h=>?_
  ·exact C d rfl<|R<|q (mI rfl)<|q (aI rfl)<|z<|E1 rfl rfl h
  ·exact N d rfl<|K<|B<|r<|q (de c rfl)<|q (mI rfl)<|z<|e _ _ _ h ⟨f,g,i,rfl⟩
 ·exact N j rfl<|X rfl<|R<|q (aI rfl)<|z<|E1 rfl rfl h
 ,cP Tryz.func330 rfl rfl⟩
instance z7 {p0 p1 H Q}:aj Tryz.prog 327 (di p0 p1 H Q) [Sl.v p0,p1] H (λv H'=>∃ a,v= .bool a/\Q a H'):=aT (di.eq_1 ..) Tryz.func327 Tryz.ntmps327
instance RY {p0 p1 H Q}:aj Tryz.prog 43 (sU p0 p1 H Q) [.pointer p0,Sl.v p1] H (λv H'=>∃ a,v= .bool a/\Q a H'):=aT (sU.eq_1 ..) Tryz.func43 Tryz.ntmps43
instance Fo {p0 H Q}:aj Tryz.prog 26 (kW p0 H Q) [.pointer p0] H (λv H'=>∃ a,v= .pointer a/\Q a H'):=aT (kW.eq_1 ..) Tryz.func26 Tryz.ntmps26
instance HV {p0 H Q}:aj Tryz.prog 28 (lZ p0 H Q) [.pointer p0] H (λv H'=>∃ a,v= .pointer a/\Q a H'):=aT (lZ.eq_1 ..) Tryz.func28 Tryz.ntmps28
instance Lt {p0 H Q}:aj Tryz.prog 32 (mM p0 H Q) [.pointer p0] H (λv H'=>∃ a,v= .pointer a/\Q a H'):=aT (mM.eq_1 ..) Tryz.func32 Tryz.ntmps32
instance RZ {p0 p1 H Q}:aj Tryz.prog 171 (sV p0 p1 H Q) [VI p0,VI p1] H (λv H'=>∃ a,v=VI a/\Q a H'):=aT (sV.eq_1 ..) Tryz.func171 Tryz.ntmps171
instance Qf {p0 H Q}:aj Tryz.prog 89 (tj p0 H Q) [VI p0] H (λv H'=>∃ a,v=Sl.v a/\Q a H'):=aT (tj.eq_1 ..) Tryz.func89 Tryz.ntmps89
instance Qg {p0 p1 H Q}:aj Tryz.prog 84 (dw p0 p1 H Q) [VI p0,VI p1] H (λv H'=>∃ a,v= .agg ([VI a.1,VI a.2]:List Value).toArray/\Q a H'):=aT (dw.eq_1 ..) Tryz.func84 Tryz.ntmps84
theorem yJ {γ:Type} (c0:Addr) (Y:List Value->γ->PH->(Nat->γ->PH->Prop)->Prop) (g:γ) (H:PH) (Q:Nat->γ->PH->Prop) (h:pX c0 Y g H Q):
 iH Tryz.prog (.func (.func 271) #[] #[.pointer (some c0)]) Y g H Q:=by
 unfold pX at h
 refine kX (fi:=[]) (ca:=[.pointer (some c0)]) QX Tryz.func271 rfl Tryz.ntmps271 (Nat.le_of_ble_eq_true rfl) λlz Tk hd hy =>?_
 generalize af:Value.func (.yield lz) #[] #[]=yv
 intro D M u t j
 refine s<|R<|y h λx1 ac h=>q (a aR rfl ac)<|q (je Tryz.underlying72 rfl rfl)<|z<|J h (λw h=>?_) λw h=>?_
 ·exact C w rfl<|Go.fP (g:=(0,g)) u t j ⟨.inl rfl,_,(iC Tryz.results271),h⟩
 ·refine N w rfl<|K<|R<|y h λx4 ad h=>q (a aR rfl ad)<|y h λa6 ab h=>q (n ab rfl)<|q (f bB rfl)<|y h λx8 ae h=>q (a aR rfl ae)<|q (de rfl rfl)<|q (aI rfl)<|z<|R<|y h λal L h=>q (a aR rfl L)<|y h λaj F h=>q (n F rfl)<|q (f bB rfl)<|y h λE O h=>q (a aR rfl O)<|q (ju Tryz.underlying189 rfl (qo rfl))<|q (mI rfl)<|z<|b<|qu (g:=(0,g)) (λd=>d.2) (λV (d:Int×(Nat×γ))=>V 0=yv/\V 3=VI (IntKind.wrap .i64 (x8+1))/\V 16=Sl.v E/\V 17=VI (E.len:Int)/\V 18=VI d.1) u t j h ⟨rfl,rfl,rfl,rfl,rfl⟩ rfl<|?_
  clear h
  intro V d ag U hE h k
  obtain⟨o,p,e,i,c⟩:=hE
  intro D M u t j
  refine R<|q (jO c i)<|z<|s<|J h (λl h=>?_) λl h=>?_
  ·refine C l rfl<|K<|s<|b<|R<|q (mI c)<|y h λak G h=>q (kj dB G e c)<|y h λam P h=>q (A eY rfl P)<|od<|cT xZ rfl λaa Z I=>gY (h aa Z I) λh=>q (aI rfl)<|st h bq rfl rfl λ_ h=>z<|R<|q (f bB rfl)<|y h λan S h=>q (a aR rfl S)<|c1 (cb h) (cu h) rfl λap ah h=>q (f bB rfl)<|st h bq rfl rfl λ_ h=>z<|R<|q (lI o)<|q (mI p)<|q (mI rfl)<|q (de rfl rfl)<|y h λao T h=>q (A eY rfl T)<|od<|nD (q:=d.2) hy j (Eq.trans rfl af.symm) rfl h λx ai h=>q (jH rfl)<|z<|J h (λm h=>?_) λm h=>?_
   ·exact C m rfl<|Go.fP (g:=x) u t j ⟨.inl rfl,_,(iC Tryz.results271),h⟩
   ·exact N m rfl<|K<|B<|r<|q (de c rfl)<|q (mI rfl)<|z<|k (IntKind.wrap .i64 (d.1+1),x) _ _ h (by exact⟨o,p,e,i,rfl⟩) _ _ u t j
  ·exact N l rfl<|X rfl<|Go.gP (g:=d.2) u t j ⟨.inr rfl,_,(iC Tryz.results271),h⟩
instance Kw {p0 H Q}:aj Tryz.prog 227 (oG p0 H Q) [.pointer p0] H (λv H'=>∃ a,v=a/\Q a H'):=aT (oG.eq_1 ..) Tryz.func227 Tryz.ntmps227
instance OD {p0 p1 H Q}:aj Tryz.prog 160 (ot p0 p1 H Q) [.pointer p0,Sl.v p1] H (λv H'=>∃ a,v=VI a/\Q a H'):=aT (ot.eq_1 ..) Tryz.func160 Tryz.ntmps160
instance Cu {p0 H Q}:aj Tryz.prog 272 (iA p0 H Q) [Sl.v p0] H (λv H'=>∃ a,v=Sl.v a/\Q a H'):=aT (iA.eq_1 ..) Tryz.func272 Tryz.ntmps272
instance zM {p0 H Q}:aj Tryz.prog 49 (dI p0 H Q) [Sl.v p0] H (λv H'=>∃ a,v=Sl.v a/\Q a H'):=aT (dI.eq_1 ..) Tryz.func49 Tryz.ntmps49
instance E8 {p0 H Q}:aj Tryz.prog 50 (jW p0 H Q) [Sl.v p0] H (λv H'=>∃ a,v=Sl.v a/\Q a H'):=aT (jW.eq_1 ..) Tryz.func50 Tryz.ntmps50
instance Lu {p0 p1 H Q}:aj Tryz.prog 20 (il p0 p1 H Q) [.pointer p0,Sl.v p1] H (λv H'=>∃ a,v= .pointer a/\Q a H'):=aT (il.eq_1 ..) Tryz.func20 Tryz.ntmps20
instance Ky {p0 H Q}:aj Tryz.prog 24 (lM p0 H Q) [VI p0] H (λv H'=>∃ a,v=Sl.v a/\Q a H'):=aT (lM.eq_1 ..) Tryz.func24 Tryz.ntmps24
instance Kz {p0 p1 H Q}:aj Tryz.prog 52 (sK p0 p1 H Q) [Sl.v p0,Sl.v p1] H (λv H'=>∃ a,v= .bool a/\Q a H'):=aT (sK.eq_1 ..) Tryz.func52 Tryz.ntmps52
instance Jk {p0 p1 H Q}:aj Tryz.prog 22 (kg p0 p1 H Q) [Sl.v p0,Sl.v p1] H (λv H'=>∃ a,v= .bool a/\Q a H'):=aT (kg.eq_1 ..) Tryz.func22 Tryz.ntmps22
theorem BU {p0 H Q} (h:xY p0 H Q):dv Tryz.prog 256 #[VI p0] H λv H'=>∃ d,v= .bool d/\Q d H':=by
 unfold xY at h
 refine F Tryz.func256 rfl Tryz.ntmps256<|R<|q (aB rfl)<|z<|R<|q (mI rfl)<|q (eP rfl rfl)<|q (mB rfl)<|?_
 refine cS 3 (λf (s2:Bool)=>f 8=VB s2) h ?_ ?_<;>clear h
 ·intro s2 g f h e
  have c:=e
  exact q (aB c)<|z<|E1 rfl rfl h
 ·intro i b h
  refine J h (λa h=>?_) λa h=>?_
  ·exact w a (mI rfl)<|w a (eP rfl rfl)<|q (jB a rfl rfl)<|b (p0 != 1) _ _ h (by exact rfl)
  ·exact o a<|o a<|q (nB a rfl rfl)<|b false _ _ h (by exact rfl)
end
end Go.Proofs.YtbijlklgbfminaaGreat
