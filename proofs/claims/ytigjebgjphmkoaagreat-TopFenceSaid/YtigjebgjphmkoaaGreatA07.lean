import Derived.Test.YtigjebgjphmkoaaGreatA04
import Derived.Test.YtigjebgjphmkoaaGreatA05
import Derived.Test.YtigjebgjphmkoaaGreatA06
set_option linter.unusedVariables false
set_option linter.unusedSimpArgs false
namespace Go.Proofs.YtigjebgjphmkoaaGreat
open Tryz
section
open Go Go.Kx Go.Proofs Go.Kx.Au Go.Kx.W
set_option maxRecDepth 20000
set_option maxHeartbeats 20000000
instance XY {p0 p1 H Q}:ae prog 167 (uS p0 p1 H Q) [.pointer p0,.bool p1] H (λv H'=>∃ r0,v=Sl.v r0/\Q r0 H'):=aR (uS.eq_1 ..) func167 ntmps167
instance Cz {p0 p1 H Q}:ae prog 240 (eW p0 p1 H Q) [Sl.v p0,VI p1] H (λv H'=>∃ r0,v=Sl.v r0/\Q r0 H'):=aR (eW.eq_1 ..) func240 ntmps240
instance Ct {p0 H Q}:ae prog 166 (fk p0 H Q) [Sl.v p0] H (λv H'=>∃ r0,v=Sl.v r0/\Q r0 H'):=aR (fk.eq_1 ..) func166 ntmps166
instance QW {p0 p1 H Q}:ae prog 168 (jr p0 p1 H Q) [.pointer p0,VI p1] H (λv H'=>∃ r0,v=VI r0/\Q r0 H'):=aR (jr.eq_1 ..) func168 ntmps168
instance Sa {p0 p1 H Q}:ae prog 169 (mH p0 p1 H Q) [.pointer p0,VI p1] H (λv H'=>∃ r0,v=VI r0/\Q r0 H'):=aR (mH.eq_1 ..) func169 ntmps169
theorem kR {γ:Type} (c0:Addr) (c1:Addr) (Y:List Value->γ->PH->(Nat->γ->PH->Prop)->Prop) (g:γ) (H:PH) (Q:Nat->γ->PH->Prop) (h:lL c0 c1 Y g H Q):
 iX prog (.func (.func 292) #[] #[.pointer (some c0),.pointer (some c1)]) Y g H Q:=by
 unfold lL at h
 refine lu (fi:=[]) (ca:=[.pointer (some c0),.pointer (some c1)]) WA func292 rfl ntmps292 (Nat.le_of_ble_eq_true rfl) λlz Tk hd U =>?_
 generalize I:Value.func (.yield lz) #[] #[]=yv
 intro D M l hB i
 refine R<|q (aI rfl)<|z<|b<|si (g:=(0,g)) (λs1=>s1.2) (λS (s1:Int×(Nat×γ))=>S 0=yv/\S 1= .pointer (some c0)/\S 2= .pointer (some c1)/\S 4=VI s1.1) l hB i h ⟨rfl,rfl,rfl,rfl⟩ rfl<|?_
 clear h
 intro S s1 H4 E T h j
 obtain⟨k,d,e,c⟩:=T
 intro D M l hB i
 refine s<|R<|q (mI c)<|y h λx5 F h=>q (a de d F)<|q (vt underlying50 rfl (Cn rfl))<|q (xE rfl rfl)<|z<|J h (λm h=>?_) λm h=>?_
 ·refine C m rfl<|K<|s<|b<|s<|dr Jg<|y h λP G h=>pl 0 rfl (a de e G)<|y h λab w h=>pl 1 rfl (a de d w)<|p 2 rfl (mI c)<|y h λn t h=>p 3 rfl (V (Sl.v n) (Ux Ax t rfl ⟨_,rfl⟩ rfl))<|p 4 rfl (vt underlying50 rfl (Cn rfl))<|p 5 rfl (V (VI (if(n.len:Int)<P then(n.len:Int) else P)) (QA rfl))<|p 6 rfl (aI rfl)<|Z<|R<|q (mu k)<|y h λac x h=>q (a de d x)<|q (mI c)<|q (mI c)<|q (mI rfl)<|q (sO rfl rfl)<|q (mI c)<|q (mI rfl)<|q (sO rfl rfl)<|y h λL u h=>q (V (Sl.v L) (QQ Ax u rfl ⟨_,rfl⟩ ⟨_,rfl⟩ ⟨_,rfl⟩))<|od<|oh (q:=s1.2) U i (Eq.trans rfl I.symm) rfl h λo aa h=>q (qj rfl)<|z<|J h (λf h=>?_) λf h=>?_
  ·exact C f rfl<|Go.qo (g:=o) l hB i ⟨.inl rfl,_,(il results292),h⟩
  ·exact N f rfl<|K<|B<|r<|q (mI c)<|y h λO A h=>q (a de e A)<|q (sO rfl rfl)<|q (aI rfl)<|z<|j (IntKind.wrap .i64 (s1.1+O),o) _ _ h (by exact⟨k,d,e,rfl⟩) _ _ l hB i
 ·exact N m rfl<|X rfl<|Go.vv (g:=s1.2) l hB i ⟨.inr rfl,_,(il results292),h⟩
instance Iy {p0 p1 H Q}:ae prog 242 (gT p0 p1 H Q) [Sl.v p0,VI p1] H (λv H'=>∃ r0,v=r0/\Q r0 H'):=aR (gT.eq_1 ..) func242 ntmps242
instance Ta {p0 H Q}:ae prog 214 (qN p0 H Q) [.pointer p0] H (λv H'=>∃ r0,v=VI r0/\Q r0 H'):=aR (qN.eq_1 ..) func214 ntmps214
instance QX {p0 p1 p2 H Q}:ae prog 212 (gB p0 p1 p2 H Q) [.pointer p0,VI p1,Sl.v p2] H (λv H'=>∃ r0,v=VI r0/\Q r0 H'):=⟨λh=>by
 unfold gB at h
 refine F func212 rfl ntmps212<|R<|q (aI rfl)<|z<|s<|R<|q (mP rfl)<|q (mI rfl)<|c1 (cb h) (cu h) rfl λy2 H1 h=>q (qj rfl)<|q (mB rfl)<|?_
 refine En 4 (λρ (s4:Bool)=>ρ 0=VP p0/\ρ 1=VI p1/\ρ 2=Sl.v p2/\ρ 16=VB s4) h ?_ ?_<;>clear h
 ·intro s4 H6 ρ h hE
  obtain⟨c,i,j,e⟩:=hE
  refine z<|J h (λk h=>?_) λk h=>?_
  ·exact C k e<|R<|q (aI rfl)<|z<|E1 rfl rfl h
  ·refine N k e<|K<|s<|R<|q (mP c)<|c1 (cb h) (cu h) rfl λax H9 h=>q (aI rfl)<|z<|R<|q (mI rfl)<|q (Dt rfl rfl)<|z<|J h (λd h=>?_) λd h=>?_
   ·exact C d rfl<|R<|q (mI rfl)<|q (aI rfl)<|z<|E1 rfl rfl h
   ·refine N d rfl<|K<|s<|dr Jg<|p 0 rfl (mP c)<|p 1 rfl (mP c)<|y h λao G h=>p 2 rfl (n G rfl)<|p 3 rfl (f qK rfl)<|y h λav Y h=>pl 4 rfl (a de rfl Y)<|p 5 rfl (mI i)<|p 6 rfl (mS j)<|?_
    obtain⟨l,af,I,h⟩:=h
    refine p 7 rfl (V (.pointer (some af)) (U2 xAr l I rfl))<|y h λg aa h=>pl 8 rfl (A vQ rfl aa)<|t h λT h=>p 9 rfl (V (.agg (sB [[VI p1],g]:List Value).toArray) (N6 (ps:=[(0,VI p1),(1,.agg (g:List Value).toArray)]) xPl xZ rfl rfl (.cons rfl rfl rfl (.cons T rfl rfl (.nil rfl)))))<|po 10 rfl<|t h λU h=>Uz (ps:=[(0,.agg (sB [[VI p1],g]:List Value).toArray)]) (zs:=bp) (cs:=sB [sB [[VI p1],g]]) Ax xZ rfl rfl (by decide) (by decide) rfl (QH (.cons U rfl rfl (.nil rfl)) rfl) λah ad S=>gY (h ah ad S) λh=>t h λX h=>re (rl [9,10]<|rr rfl rfl (a de rfl X)<|rfl)<|po 11 rfl<|HW (zs:=bp) (Ax (t:=126)) xBy (by decide) xZ rfl rfl (by decide) rfl rfl underlying126 rfl h λau an h=>re (rl [11]<|rfl)<|y h λap L h=>p 12 rfl (n L rfl)<|p 13 rfl (f qK rfl)<|po 14 rfl<|dS h sv rfl rfl λ_ h=>re rfl<|Z<|s<|dr Jg<|p 0 rfl (mP c)<|y h λaq M h=>p 1 rfl (n M rfl)<|p 2 rfl (f qK rfl)<|y h λaw ab h=>pl 3 rfl (a de rfl ab)<|p 4 rfl (mI i)<|p 5 rfl (mS j)<|?_
    obtain⟨m,ag,O,h⟩:=h
    refine p 6 rfl (V (.pointer (some ag)) (U2 xAr m O rfl))<|y h λai ac h=>pl 7 rfl (A vQ rfl ac)<|y h λar P h=>p 8 rfl (xF Ax P rfl rfl)<|po 9 rfl<|?_
    obtain⟨B,aj,am,ak,al,r,u,x,D,h⟩:=h
    exact El (vs:=ai) sv (Xy rfl r) rfl rfl B D u x<|re (rl [9]<|rl [9]<|rfl)<|Z<|R<|q (aI rfl)<|z<|E1 rfl rfl h
 ·intro j5 E h
  refine J h (λb h=>?_) λb h=>?_
  ·exact o b<|o b<|o b<|q (jB b rfl rfl)<|E true _ _ h (by exact⟨rfl,rfl,rfl,rfl⟩)
  ·exact w b (mS rfl)<|w b (vt underlying50 rfl (Cn rfl))<|w b (Dt rfl rfl)<|q (nB b rfl rfl)<|E ((p2.len:Int) != 64) _ _ h (by exact⟨rfl,rfl,rfl,rfl⟩)
 ,iU func212 rfl rfl⟩
instance ZG {p0 p1 p2 H Q}:ae prog 170 (xn p0 p1 p2 H Q) [.pointer p0,VI p1,Sl.v p2] H (λv H'=>∃ r0,v=VI r0/\Q r0 H'):=rR (xn.eq_1 ..) func170 ntmps170
instance QY {p0 H Q}:ae prog 126 (gC p0 H Q) [.pointer p0] H (λv H'=>∃ r0,v=VI r0/\Q r0 H'):=aR (gC.eq_1 ..) func126 ntmps126
instance OG {p0 H Q}:ae prog 171 (oq p0 H Q) [.pointer p0] H (λv H'=>∃ r0,v=VI r0/\Q r0 H'):=aR (oq.eq_1 ..) func171 ntmps171
instance Pc {p0 p1 p2 H Q}:ae prog 243 (pf p0 p1 p2 H Q) [.pointer p0,VI p1,VI p2] H (λv H'=>∃ r0 r1,v= .tuple #[Sl.v r0,VI r1]/\Q r0 r1 H'):=aR (pf.eq_1 ..) func243 ntmps243
instance Pd {p0 p1 H Q}:ae prog 320 (cW p0 p1 H Q) [.agg ([.pointer p0]:List Value).toArray,VI p1] H (λv H'=>∃ r0,v=VI r0/\Q r0 H'):=aR (cW.eq_1 ..) func320 ntmps320
instance Mr {p0 p1 H Q}:ae prog 321 (lD p0 p1 H Q) [.agg ([.pointer p0]:List Value).toArray,VI p1] H (λv H'=>∃ r0,v=Sl.v r0/\Q r0 H'):=aR (lD.eq_1 ..) func321 ntmps321
instance VG {p0 p1 p2 H Q}:ae prog 294 (oa p0 p1 p2 H Q) [VI p0,VI p1,VI p2] H (λv H'=>∃ r0,v= .pointer r0/\Q r0 H'):=aR (oa.eq_1 ..) func294 ntmps294
instance Lb {p0 H Q}:ae prog 313 (jx p0 H Q) [.pointer p0] H (λv H'=>∃ r0,v=VI r0/\Q r0 H'):=aR (jx.eq_1 ..) func313 ntmps313
end
end Go.Proofs.YtigjebgjphmkoaaGreat
