import Derived.Test.YtbijlklgbfminaaGreatA05
set_option linter.unusedVariables false
set_option linter.unusedSimpArgs false
namespace Go.Proofs.YtbijlklgbfminaaGreat
section
open Go Go.Kx Go.Proofs Go.Kx.Au Go.Kx.W
set_option maxRecDepth 20000
set_option maxHeartbeats 2000000
instance Ks {p0 H Q}:aj Tryz.prog 30 (ji p0 H Q) [.pointer p0] H (λv H'=>∃ a,v= .pointer a/\Q a H'):=aT (ji.eq_1 ..) Tryz.func30 Tryz.ntmps30
instance Lm {p0 H Q}:aj Tryz.prog 179 (mO p0 H Q) [.pointer p0] H (λv H'=>∃ a,v= .pointer a/\Q a H'):=aT (mO.eq_1 ..) Tryz.func179 Tryz.ntmps179
instance N6 {p0 H Q}:aj Tryz.prog 180 (gJ p0 H Q) [.pointer p0] H (λv H'=>∃ a,v= .bool a/\Q a H'):=aT (gJ.eq_1 ..) Tryz.func180 Tryz.ntmps180
instance Ln {p0 p1 p2 H Q}:aj Tryz.prog 111 (ij p0 p1 p2 H Q) [.pointer p0,VI p1,.bool p2] H (λv H'=>∃ a,v=VI a/\Q a H'):=aT (ij.eq_1 ..) Tryz.func111 Tryz.ntmps111
instance PT {p0 p1 H Q}:aj Tryz.prog 296 (jm p0 p1 H Q) [VI p0,VI p1] H (λv H'=>∃ a,v=VI a/\Q a H'):=aT (jm.eq_1 ..) Tryz.func296 Tryz.ntmps296
instance Jh {p0 p1 p2 p3 H Q}:aj Tryz.prog 311 (ke p0 p1 p2 p3 H Q) [.pointer p0,VI p1,VI p2,VI p3] H (λv H'=>∃ a,v= .bool a/\Q a H'):=aT (ke.eq_1 ..) Tryz.func311 Tryz.ntmps311
instance AM {p0 p1 H Q}:aj Tryz.prog 322 (dx p0 p1 H Q) [Sl.v p0,p1] H (λv H'=>∃ m,v=VI m/\Q m H'):=⟨λh=>by
 unfold dx at h
 refine F Tryz.func322 rfl Tryz.ntmps322<|R<|q (aI rfl)<|z<|s<|R<|q (mS rfl)<|q (ju Tryz.underlying137 rfl (qo rfl))<|q (mI rfl)<|z<|b<|?_
 refine qK (λn (s1:Int)=>n 0=Sl.v p0/\n 1=p1/\n 7=VI (p0.len:Int)/\n 8=VI s1) h ⟨rfl,rfl,rfl,rfl⟩ ?_
 clear h
 intro n s1 w j o h d
 obtain⟨e,f,g,a⟩:=o
 refine R<|q (jO a g)<|z<|s<|J h (λi h=>?_) λi h=>?_
 ·refine C i rfl<|K<|s<|b<|R<|q (mI a)<|q (aI rfl)<|z<|R<|q (lI f)<|q (mS e)<|q (mI rfl)<|y h λx k h=>q (kj dB k rfl rfl)<|y h λD l h=>q (A eY rfl l)<|od<|zC rfl rfl h λt p h=>?_
  obtain⟨u,rfl,h⟩:=h
  refine z<|J h (λc h=>?_) λc h=>?_
  ·exact C c rfl<|R<|q (mI rfl)<|q (aI rfl)<|z<|E1 rfl rfl h
  ·exact N c rfl<|K<|B<|r<|q (de a rfl)<|q (mI rfl)<|z<|d _ _ _ h ⟨e,f,g,rfl⟩
 ·exact N i rfl<|X rfl<|R<|q (aI rfl)<|z<|E1 rfl rfl h
 ,cP Tryz.func322 rfl rfl⟩
instance Lo {p0 p1 H Q}:aj Tryz.prog 312 (pY p0 p1 H Q) [.pointer p0,.bool p1] H (λv H'=>∃ a b,v= .tuple #[VI a,.bool b]/\Q a b H'):=aT (pY.eq_1 ..) Tryz.func312 Tryz.ntmps312
instance IV {p0 H Q}:aj Tryz.prog 230 (mm p0 H Q) [.pointer p0] H (λv H'=>∃ a,v=VI a/\Q a H'):=aT (mm.eq_1 ..) Tryz.func230 Tryz.ntmps230
instance TO {p0 H Q}:aj Tryz.prog 236 (AL p0 H Q) [.pointer p0] H (λv H'=>∃ a,v= .bool a/\Q a H'):=aT (AL.eq_1 ..) Tryz.func236 Tryz.ntmps236
theorem xL {γ:Type} (c0:Addr) (Y:List Value->γ->PH->(Nat->γ->PH->Prop)->Prop) (g:γ) (H:PH) (Q:Nat->γ->PH->Prop) (h:ov c0 Y g H Q):
 iH Tryz.prog (.func (.func 305) #[] #[.pointer (some c0)]) Y g H Q:=by
 unfold ov at h
 refine kX (fi:=[]) (ca:=[.pointer (some c0)]) QZ Tryz.func305 rfl Tryz.ntmps305 (Nat.le_of_ble_eq_true rfl) λlz Tk hd hy =>?_
 generalize ag:Value.func (.yield lz) #[] #[]=yv
 intro D M x v m
 refine s<|R<|y h λx1 ad h=>q (a aR rfl ad)<|q (je Tryz.underlying78 rfl rfl)<|z<|J h (λG h=>?_) λG h=>?_
 ·exact C G rfl<|Go.fP (g:=(0,g)) x v m ⟨.inl rfl,_,(iC Tryz.results305),h⟩
 ·refine N G rfl<|K<|R<|y h λx4 ae h=>q (a aR rfl ae)<|y h λa6 ac h=>q (n ac rfl)<|q (f bB rfl)<|y h λx8 af h=>q (a aR rfl af)<|q (ju Tryz.underlying137 rfl (qo rfl))<|q (mI rfl)<|z<|b<|qu (g:=(0,g)) (λcX=>cX.2) (λA (cX:Int×(Nat×γ))=>A 0=yv/\A 1= .pointer (some c0)/\A 10=VI (x8.len:Int)/\A 11=VI cX.1) x v m h ⟨rfl,rfl,rfl,rfl⟩ rfl<|?_
  clear h
  intro A cX ah ab S h p
  obtain⟨j,k,e,d⟩:=S
  intro D M x v m
  refine R<|q (jO d e)<|z<|s<|J h (λt h=>?_) λt h=>?_
  ·refine C t rfl<|K<|s<|b<|R<|q (mI d)<|q (aI rfl)<|z<|R<|y h λan V h=>q (a aR k V)<|y h λak T h=>q (n T rfl)<|q (f bB rfl)<|y h λao Z h=>q (a aR rfl Z)<|q (mI rfl)<|y h λal U h=>q (kj dB U rfl rfl)<|q (f bB rfl)<|y h λap aa h=>q (a aR rfl aa)<|q (xN rfl rfl)<|q (mB rfl)<|?_
   refine vC (TT:=λqz:Nat×γ=>Tk qz.1 qz.2) (M:=M) 5 (λi=>i.2) (λA (i:Bool×(Nat×γ))=>A 0=yv/\A 1=VA c0/\A 10=VI (x8.len:Int)/\A 11=VI cX.1/\A 28=VB i.1) h ?_ ?_<;>clear h
   ·intro i ai A h S
    obtain⟨L,O,E,F,l⟩:=S
    refine z<|J h (λu h=>?_) λu h=>?_
    ·exact C u l<|Go.fP (g:=i.2) x v m ⟨.inl rfl,_,(iC Tryz.results305),h⟩
    ·exact N u l<|K<|B<|r<|q (de F rfl)<|q (mI rfl)<|z<|p (IntKind.wrap .i64 (cX.1+1),i.2) _ _ h (by exact⟨L,O,E,rfl⟩) _ _ x v m
   ·intro am I h
    refine J h (λc h=>?_) λc h=>?_
    ·refine w c (lI j)<|w c (mI rfl)<|?_
     refine wg (jP rfl rfl rfl c) rfl (by decide) (nD (q:=cX.2) hy m (Eq.trans rfl ag.symm) rfl h λP aj h=>?_)
     exact w c (jH rfl)<|q (jB c rfl rfl)<|I (!(P.1==0),P) _ _ h (by exact⟨j,k,e,d,rfl⟩)
    ·exact o c<|o c<|o c<|o c<|q (nB c rfl rfl)<|I (false,cX.2) _ _ h (by exact⟨j,k,e,d,rfl⟩)
  ·exact N t rfl<|X rfl<|Go.gP (g:=cX.2) x v m ⟨.inr rfl,_,(iC Tryz.results305),h⟩
instance Ji {p0 H Q}:aj Tryz.prog 276 (rE p0 H Q) [.pointer p0] H (λv H'=>∃ a,v=a/\Q a H'):=aT (rE.eq_1 ..) Tryz.func276 Tryz.ntmps276
instance Lp {p0 p1 H Q}:aj Tryz.prog 277 (pc p0 p1 H Q) [.pointer p0,VI p1] H (λv H'=>∃ a,v=VI a/\Q a H'):=aT (pc.eq_1 ..) Tryz.func277 Tryz.ntmps277
instance N7 {p0 H Q}:aj Tryz.prog 279 (rq p0 H Q) [.pointer p0] H (λv H'=>∃ a,v=VI a/\Q a H'):=aT (rq.eq_1 ..) Tryz.func279 Tryz.ntmps279
instance PU {p0 p1 p2 H Q}:aj Tryz.prog 278 (lE p0 p1 p2 H Q) [VI p0,VI p1,VI p2] H (λv H'=>∃ a,v= .bool a/\Q a H'):=aT (lE.eq_1 ..) Tryz.func278 Tryz.ntmps278
instance Kt {p0 p1 H Q}:aj Tryz.prog 282 (oM p0 p1 H Q) [.pointer p0,VI p1] H (λv H'=>∃ a,v=VI a/\Q a H'):=aT (oM.eq_1 ..) Tryz.func282 Tryz.ntmps282
instance SM {p0 p1 H Q}:aj Tryz.prog 281 (wA p0 p1 H Q) [VI p0,VI p1] H (λv H'=>∃ a,v=VI a/\Q a H'):=aT (wA.eq_1 ..) Tryz.func281 Tryz.ntmps281
instance Qb {p0 p1 p2 H Q}:aj Tryz.prog 280 (tk p0 p1 p2 H Q) [VI p0,VI p1,VI p2] H (λv H'=>∃ a,v=VI a/\Q a H'):=aT (tk.eq_1 ..) Tryz.func280 Tryz.ntmps280
instance PV {p0 p1 H Q}:aj Tryz.prog 283 (sw p0 p1 H Q) [.agg ([VI p0.1,VI p0.2.1,VI p0.2.2]:List Value).toArray,.agg ([VI p1.1,VI p1.2.1,VI p1.2.2]:List Value).toArray] H (λv H'=>∃ a,v= .bool a/\Q a H'):=aT (sw.eq_1 ..) Tryz.func283 Tryz.ntmps283
instance RQ {p0 p1 p2 H Q}:aj Tryz.prog 237 (uk p0 p1 p2 H Q) [.pointer p0,.pointer p1,VI p2] H (λv H'=>∃ r0 r1,v= .tuple #[VI r0,.bool r1]/\Q r0 r1 H'):=⟨λh=>by
 unfold uk at h
 refine fZ Tryz.func237 rfl Tryz.ntmps237 (Nat.le_of_ble_eq_true rfl)<|?_
 intro D M k e f
 refine R<|od<|cE (cs:=[.pointer p0]) rfl rfl λa1 H2 bp=>gY (h a1 H2 bp) λh=>od<|cE (cs:=[.pointer p1]) rfl rfl λa4 H5 br=>gY (h a4 H5 br) λh=>od<|cE (cs:=[VI p2]) rfl rfl λa7 H8 bs=>gY (h a7 H8 bs) λh=>q (aI rfl)<|q (aB rfl)<|z<|R<|od<|cT xZ rfl λY bi aX=>gY (h Y bi aX) λh=>z<|R<|od<|cT xZ rfl λaa bj aY=>gY (h aa bj aY) λh=>st h bq rfl rfl λ_ h=>z<|s<|R<|y h λb9 a0 h=>q (a aR rfl a0)<|q (je Tryz.underlying82 rfl rfl)<|q (mB rfl)<|?_
 refine cS 3 (λG (aS:Bool)=>G 3=VA a1/\G 4=VA a4/\G 5=VA a7/\G 8=VA Y/\G 9=VA aa/\G 18=VB aS) h ?_ ?_<;>clear h
 ·intro aS bR G h hE
  obtain⟨c,n,m,i,j,I⟩:=hE
  refine z<|J h (λS h=>?_) λS h=>?_
  ·exact C S I<|R<|q (aI rfl)<|q (aB rfl)<|z<|Go.fP (g:=()) k e f ⟨.inl rfl,_,(ir Tryz.results237 rfl rfl),⟨_,_,rfl,h⟩⟩
  ·refine N S I<|K<|s<|R<|y h λca a2 h=>q (a aR n a2)<|gL rfl (by decide) (cb h) (cu h) rfl<|?_
   rintro cl bS ⟨_,rfl,h⟩
   refine z<|b<|?_
   refine nE (g:=()) h rfl (λ_ _ _ h=>h) rfl k e f trivial ?_ ?_<;>clear h
   ·rintro _ b8 bT cm ⟨O,rfl,h⟩
    refine⟨rfl,λlp Bx rz hr=>?_⟩
    clear k e f
    intro D M k e f
    refine r<|q (aI rfl)<|z<|jQ (g:=()) hr e f λM e f =>?_
    have k:Mk (some lp) D M:=trivial
    refine b<|R<|y h λcc a3 h=>q (a aR n a3)<|q (mI rfl)<|c1 (cb h) (cu h) rfl λP bU h=>q (aI rfl)<|z<|s<|R<|q (mI rfl)<|y h λcd a5 h=>q (a aR c a5)<|c1 (cb h) (cu h) rfl λcn bV h=>c1 (cb h) (cu h) rfl λco bW h=>q (jH rfl)<|z<|J h (λT h=>?_) λT h=>?_
    ·exact C T rfl<|X rfl<|Go.gP (g:=()) k e f ⟨0,rfl,h⟩
    ·refine N T rfl<|K<|s<|?_
     refine nk 1 (λ_=>()) (λG (aw:Addr)=>G 8= .pointer (some Y)/\G 9= .pointer (some aa)/\G 12= .pointer (some aw)) e h ?_ ?_<;>clear h
     ·intro aw bX G h hE
      obtain⟨E,F,u⟩:=hE
      intro D M k e f
      refine R<|y h λce a6 h=>q (a aR F a6)<|q (jH rfl)<|q (mB rfl)<|?_
      refine cS 4 (λG (aT:Bool)=>G 8=VA Y/\G 9=VA aa/\G 12=VA aw/\G 50=VB aT) h ?_ ?_<;>clear h
      ·intro aT bY G h hE
       obtain⟨ax,ay,ae,L⟩:=hE
       refine z<|J h (λU h=>?_) λU h=>?_
       ·exact C U L<|r<|y h λcf a8 h=>q (A eY ae a8)<|st h bq ax rfl λ_ h=>st h bq ay rfl λ_ h=>z<|B<|Go.gP (g:=()) k e f ⟨0,rfl,h⟩
       ·exact N U L<|K<|B<|Go.gP (g:=()) k e f ⟨0,rfl,h⟩
      ·intro b7 ak h
       refine J h (λd h=>?_) λd h=>?_
       ·exact o d<|o d<|o d<|q (jB d rfl rfl)<|ak true _ _ h (by exact⟨E,F,u,rfl⟩)
       ·exact y h λcg a9 h=>w d (A eY u a9)<|y h λch ba h=>w d (A eY E ba)<|k1 d (cb h) (cu h) rfl λbt bZ h=>q (nB d rfl rfl)<|ak bt _ _ h (by exact⟨E,F,u,rfl⟩)
     ·intro b6 x h
      refine dr gz<|p 0 rfl (mI rfl)<|y h λci ar h=>pl 1 rfl (a aR m ar)<|y h λcj au h=>pl 2 rfl (a aR n au)<|p 3 rfl (mI rfl)<|y h λck av h=>pl 6 rfl (a aR c av)<|p 11 rfl (mI rfl)<|p 12 rfl (mI rfl)<|?_
      refine dN (R:=[4,14]) (by decide+kernel) ⟨?_,?_,trivial⟩
      ·refine bM (S2:=6239) rfl (by decide+kernel) (by decide) rfl ?_
       refine d1 (cb h) (cu h) rfl λcp b0 h=>t h λal h=>t h λam h=>re (rr rfl rfl (a aR c al)<|rl [4]<|rr rfl rfl (a aR m am)<|rfl)<|?_
       refine dN (R:=[5,14]) (by decide+kernel) ⟨?_,?_,trivial⟩
       ·refine bM (S2:=6271) rfl (by decide+kernel) (by decide) rfl ?_
        refine d1 (cb h) (cu h) rfl λcq b1 h=>t h λan h=>re (rr rfl rfl (a aR c an)<|rl [5]<|rfl)<|?_
        refine dN (R:=[7,14]) (by decide+kernel) ⟨?_,?_,trivial⟩
        ·refine bM (S2:=6399) rfl (by decide+kernel) (by decide) rfl ?_
         refine d1 (cb h) (cu h) rfl λbu b2 h=>re (rl [7]<|rfl)<|p 8 rfl (V (VI bu.2.2) (uO IS aR rfl rfl))<|p 9 rfl (uc rfl rfl)<|?_
         refine dN (R:=[10,14]) (by decide+kernel) ⟨?_,?_,trivial⟩
         ·refine bM (S2:=8191) rfl (by decide+kernel) (by decide) rfl ?_
          exact d1 (cb h) (cu h) rfl λbv b3 h=>re rfl<|p 13 rfl (uQ (cs:=[VI bv,VI P,VI O]) tK xZ rfl rfl (by kernel_rfl))<|po 14 rfl<|cT xZ rfl λaP bk aZ=>gY (h aP bk aZ) λh=>re rfl<|po 15 rfl<|dS h bq rfl rfl λ_ h=>re rfl<|Z<|x aP _ _ h (by exact⟨i,j,rfl⟩) _ _ k e f
         ·refine bM (S2:=23551) rfl (by decide+kernel) (by decide) rfl ?_
          refine oY xZ rfl λbl aQ bx az aL=>?_
          refine re rfl<|po 10 rfl<|d1 (cb h) (cu h) rfl λbw b4 h=>re rfl<|p 13 rfl (uQ (cs:=[VI bw,VI P,VI O]) tK xZ rfl rfl (by kernel_rfl))<|?_
          refine cJ az λaC=>?_
          exact gY (h aQ _ ⟨bl,aC,aL,rfl⟩) λh=>po 15 rfl<|dS h bq rfl rfl λ_ h=>re rfl<|Z<|x aQ _ _ h (by exact⟨i,j,rfl⟩) _ _ k e f
        ·refine bM (S2:=22655) rfl (by decide+kernel) (by decide) rfl ?_
         refine oY xZ rfl λaU ab bm af ao=>?_
         refine re (rr rfl rfl (a aR c an)<|rfl)<|po 7 rfl<|d1 (cb h) (cu h) rfl λbc bz h=>re (rl [7]<|rfl)<|p 8 rfl (V (VI bc.2.2) (uO IS aR rfl rfl))<|p 9 rfl (uc rfl rfl)<|po 10 rfl<|d1 (cb h) (cu h) rfl λbd bA h=>re rfl<|p 13 rfl (uQ (cs:=[VI bd,VI P,VI O]) tK xZ rfl rfl (by kernel_rfl))<|?_
         refine cJ af λaD=>?_
         exact gY (h ab _ ⟨aU,aD,ao,rfl⟩) λh=>po 15 rfl<|dS h bq rfl rfl λ_ h=>re rfl<|Z<|x ab _ _ h (by exact⟨i,j,rfl⟩) _ _ k e f
       ·refine bM (S2:=22623) rfl (by decide+kernel) (by decide) rfl ?_
        refine oY xZ rfl λaV ac bn ag ap=>?_
        refine re (rr rfl rfl (a aR c al)<|rr rfl rfl (a aR m am)<|rfl)<|po 5 rfl<|d1 (cb h) (cu h) rfl λbO bB h=>t h λaG h=>re (rr rfl rfl (a aR c aG)<|rl [5]<|rfl)<|po 7 rfl<|d1 (cb h) (cu h) rfl λbe bC h=>re (rl [7]<|rfl)<|p 8 rfl (V (VI be.2.2) (uO IS aR rfl rfl))<|p 9 rfl (uc rfl rfl)<|po 10 rfl<|d1 (cb h) (cu h) rfl λbf bD h=>re rfl<|p 13 rfl (uQ (cs:=[VI bf,VI P,VI O]) tK xZ rfl rfl (by kernel_rfl))<|?_
        refine cJ ag λaE=>?_
        exact gY (h ac _ ⟨aV,aE,ap,rfl⟩) λh=>po 15 rfl<|dS h bq rfl rfl λ_ h=>re rfl<|Z<|x ac _ _ h (by exact⟨i,j,rfl⟩) _ _ k e f
      ·refine bM (S2:=22607) rfl (by decide+kernel) (by decide) rfl ?_
       refine oY xZ rfl λaW ad bo ah aq=>?_
       refine re (rr rfl rfl (a aR c av)<|rr rfl rfl (a aR n au)<|rr rfl rfl (a aR m ar)<|rfl)<|po 4 rfl<|d1 (cb h) (cu h) rfl λbP bE h=>t h λaH h=>t h λaJ h=>re (rr rfl rfl (a aR c aH)<|rl [4]<|rr rfl rfl (a aR m aJ)<|rfl)<|po 5 rfl<|d1 (cb h) (cu h) rfl λbQ bF h=>t h λaK h=>re (rr rfl rfl (a aR c aK)<|rl [5]<|rfl)<|po 7 rfl<|d1 (cb h) (cu h) rfl λbg bG h=>re (rl [7]<|rfl)<|p 8 rfl (V (VI bg.2.2) (uO IS aR rfl rfl))<|p 9 rfl (uc rfl rfl)<|po 10 rfl<|d1 (cb h) (cu h) rfl λbh bH h=>re rfl<|p 13 rfl (uQ (cs:=[VI bh,VI P,VI O]) tK xZ rfl rfl (by kernel_rfl))<|?_
       refine cJ ah λaF=>?_
       exact gY (h ad _ ⟨aW,aF,aq,rfl⟩) λh=>po 15 rfl<|dS h bq rfl rfl λ_ h=>re rfl<|Z<|x ad _ _ h (by exact⟨i,j,rfl⟩) _ _ k e f
   ·intro bK bI h
    intro D M k e f
    exact B<|s<|dr gz<|y h λbJ aA h=>p 0 rfl (m9 tK aA i rfl)<|y h λbL aM h=>pl 1 rfl (a aR rfl aM)<|y h λbN aN h=>pl 2 rfl (a aR j aN)<|p 3 rfl (aI rfl)<|p 4 rfl (aB rfl)<|Z<|Go.fP (g:=()) k e f ⟨.inl rfl,_,(ir Tryz.results237 rfl rfl),⟨_,_,rfl,h⟩⟩
 ·intro b5 ai h
  refine J h (λl h=>?_) λl h=>?_
  ·exact o l<|o l<|q (jB l rfl rfl)<|ai true _ _ h (by exact⟨rfl,rfl,rfl,rfl,rfl,rfl⟩)
  ·exact y h λbb aO h=>w l (a aR rfl aO)<|w l (je Tryz.underlying78 rfl rfl)<|q (nB l rfl rfl)<|ai (Option.isNone bb) _ _ h (by exact⟨rfl,rfl,rfl,rfl,rfl,rfl⟩)
 ,cP Tryz.func237 rfl rfl⟩
theorem yY {p0 H Q} (h:uL p0 H Q):dv Tryz.prog 323 #[.agg ([VI p0.1,VI p0.2]:List Value).toArray] H λv H'=>∃ d,v= .bool d/\Q d H':=by
 unfold uL at h
 exact F Tryz.func323 rfl Tryz.ntmps323<|R<|od<|cE (cs:=[VI p0.1,VI p0.2]) rfl rfl λa1 e b=>gY (h a1 e b) λh=>q (aB rfl)<|z<|R<|q (f bB rfl)<|y h λg c h=>q (a aR rfl c)<|q (xN rfl rfl)<|q (aB rfl)<|z<|E1 rfl rfl h
end
end Go.Proofs.YtbijlklgbfminaaGreat
