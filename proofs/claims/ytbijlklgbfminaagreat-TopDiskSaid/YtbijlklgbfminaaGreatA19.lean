import Derived.Test.YtbijlklgbfminaaGreatA18
set_option linter.unusedVariables false
set_option linter.unusedSimpArgs false
namespace Go.Proofs.YtbijlklgbfminaaGreat
section
open Go Go.Kx Go.Proofs Go.Kx.Au Go.Kx.W
set_option maxRecDepth 20000
set_option maxHeartbeats 2000000
instance Iq {p0 H Q}:aj Tryz.prog 76 (mf p0 H Q) [.pointer p0] H (λv H'=>∃ r0,v=VI r0/\Q r0 H'):=⟨λh=>by
 unfold mf at h
 refine F Tryz.func76 rfl Tryz.ntmps76<|R<|q (aI rfl)<|z<|R<|od<|cT xZ rfl λa1 H2 aH=>gY (h a1 H2 aH) λh=>z<|s<|R<|q (mI rfl)<|z<|b<|?_
 refine qK (λM (s4:Int)=>M 0=VP p0/\M 3=VA a1/\M 10=VI s4) h ⟨rfl,rfl,rfl⟩ ?_
 clear h
 intro M s4 H7 aF hE h u
 obtain⟨g,j,i⟩:=hE
 refine R<|q (jO i rfl)<|z<|s<|J h (λx h=>?_) λx h=>?_
 ·refine C x rfl<|K<|s<|b<|R<|q (mI i)<|q (aI rfl)<|z<|s<|dr gz<|p 0 rfl (mP g)<|p 1 rfl (mP g)<|y h λa9 ab h=>p 2 rfl (n ab rfl)<|p 3 rfl (f bB rfl)<|y h λbl ar h=>pl 4 rfl (a aR rfl ar)<|p 5 rfl (mI rfl)<|p 7 rfl (mP g)<|y h λa7 ac h=>p 8 rfl (n ac rfl)<|p 9 rfl (f bB rfl)<|y h λbm au h=>pl 10 rfl (a aR rfl au)<|po 6 rfl<|d1 (cb h) (cu h) rfl λbv aY h=>t h λap h=>re (rr rfl rfl (a aR rfl ap)<|rl [6]<|rfl)<|po 11 rfl<|d1 (cb h) (cu h) rfl λbw aZ h=>re (rl [11]<|rfl)<|po 12 rfl<|d2 (cb h) (cu h) rfl λbx bz a0 h=>re rfl<|p 13 rfl (mT rfl)<|p 14 rfl (e rfl rfl)<|p 15 rfl (e rfl rfl)<|p 16 rfl (aS rfl)<|p 17 rfl (aI rfl)<|Z<|s<|R<|q (mI rfl)<|q (eP rfl rfl)<|z<|J h (λk h=>?_) λk h=>?_
  ·exact C k rfl<|R<|q (mI rfl)<|q (aI rfl)<|z<|E1 rfl rfl h
  ·exact N k rfl<|K<|r<|q (mI rfl)<|q (mS rfl)<|y h λa8 ad h=>q (m9 tK ad j rfl)<|st h bq rfl rfl λ_ h=>z<|B<|r<|q (de i rfl)<|q (mI rfl)<|z<|u _ _ _ h ⟨g,j,rfl⟩
 ·refine N x rfl<|X rfl<|s<|?_
  refine rW 1 (λM (o:Addr×Int×Int)=>M 0=VP p0/\M 7=VA (o.1)/\M 8=VI o.2.1/\M 9=VI o.2.2) h ?_ ?_<;>clear h
  ·intro o a2 M h hE
   obtain⟨d,c,O,m⟩:=hE
   refine s<|R<|q (mI m)<|q (eP rfl rfl)<|z<|J h (λl h=>?_) λl h=>?_
   ·exact C l rfl<|R<|q (mI m)<|q (aI rfl)<|z<|E1 rfl rfl h
   ·exact N l rfl<|K<|R<|q (mP d)<|q (mP d)<|y h λbn av h=>q (A eY c av)<|q (mI O)<|y h λba ae h=>q (n ae rfl)<|q (f bB rfl)<|st h bq rfl rfl λ_ h=>y h λbb af h=>q (n af rfl)<|q (f bB rfl)<|st h bq rfl rfl λ_ h=>z<|R<|q (mP d)<|q (f bB c)<|y h λaJ aw h=>q (a aR rfl aw)<|q (f bB c)<|y h λaK ax h=>q (a aR rfl ax)<|q (f bB c)<|y h λaL ay h=>q (a aR rfl ay)<|q (f bB c)<|y h λaM az h=>q (a aR rfl az)<|q (f bB c)<|y h λaN aA h=>q (a aR rfl aA)<|q (f bB c)<|y h λaO aB h=>q (a aR rfl aB)<|q (cH (cs:=[VI aJ,VI aK,VI aL,VI aM,VI aN,VI 0,VI aO,VI 0,VI 0,VI 0]) iv xZ rfl rfl (by kernel_rfl))<|y h λbc ag h=>q (n ag rfl)<|q (f bB rfl)<|st h bq rfl rfl λ_ h=>z<|s<|dr gz<|p 0 rfl (mP d)<|p 1 rfl (mP d)<|p 2 rfl (mP d)<|y h λbd ah h=>p 3 rfl (n ah rfl)<|p 4 rfl (f bB rfl)<|y h λbo aC h=>pl 5 rfl (a aR rfl aC)<|p 6 rfl (f bB c)<|y h λbp aD h=>pl 7 rfl (a aR rfl aD)<|p 9 rfl (mP d)<|y h λbe ai h=>p 10 rfl (n ai rfl)<|p 11 rfl (f bB rfl)<|y h λbr aE h=>pl 12 rfl (a aR rfl aE)<|po 8 rfl<|d1 (cb h) (cu h) rfl λbA a3 h=>t h λaq h=>re (rr rfl rfl (a aR rfl aq)<|rl [8]<|rl [8]<|rfl)<|po 13 rfl<|d1 (cb h) (cu h) rfl λaP a4 h=>re (rl [13]<|rfl)<|p 14 rfl (V (VI aP.1) (uO IS aR rfl rfl))<|po 15 rfl<|d1 (cb h) (cu h) rfl λbC a5 h=>re rfl<|y h λbf ak h=>p 16 rfl (n ak rfl)<|p 17 rfl (f bB rfl)<|po 18 rfl<|dS h bq rfl rfl λ_ h=>re rfl<|y h λbg al h=>p 19 rfl (n al rfl)<|p 20 rfl (f bB rfl)<|po 21 rfl<|dS h bq rfl rfl λ_ h=>re rfl<|Z<|R<|q (aI rfl)<|z<|E1 rfl rfl h
  ·intro bk D h
   refine dr gz<|p 0 rfl (mP g)<|y h λbh am h=>p 1 rfl (n am rfl)<|p 2 rfl (f bB rfl)<|y h λbs G h=>pl 3 rfl (a aR rfl G)<|y h λbi an h=>p 4 rfl (m9 tK an j rfl)<|y h λbt I h=>pl 5 rfl (a aR rfl I)<|y h λbj ao h=>p 6 rfl (m9 tK ao j rfl)<|y h λbu L h=>pl 7 rfl (a aR rfl L)<|?_
   refine dN (R:=[8,13]) (by decide+kernel) ⟨?_,?_,trivial⟩
   ·refine bM (S2:=511) rfl (by decide+kernel) (by decide) rfl ?_
    refine tC (cb h) (cu h) rfl<|?_
    rintro _ a6 ⟨bD,aT,aU,rfl,h⟩
    exact re (rl [8]<|rl [8]<|rl [8]<|rfl)<|p 9 rfl (mT rfl)<|p 10 rfl (e rfl rfl)<|p 11 rfl (e rfl rfl)<|p 12 rfl (e rfl rfl)<|po 13 rfl<|cT xZ rfl λU T P=>gY (h U T P) λh=>re rfl<|po 14 rfl<|dS h bq rfl rfl λ_ h=>re rfl<|p 15 rfl (aI rfl)<|p 16 rfl (aI rfl)<|Z<|D _ _ _ h ⟨g,rfl,rfl,rfl⟩
   ·refine bM (S2:=8447) rfl (by decide+kernel) (by decide) rfl ?_
    refine oY xZ rfl λaa Y aG w E=>?_
    refine re (rr rfl rfl (a aR rfl L)<|rr rfl rfl (a aR rfl I)<|rr rfl rfl (a aR rfl G)<|rfl)<|po 8 rfl<|tC (cb h) (cu h) rfl<|?_
    rintro _ aQ ⟨aV,aW,aX,rfl,h⟩
    refine re (rl [8]<|rl [8]<|rl [8]<|rfl)<|p 9 rfl (mT rfl)<|p 10 rfl (e rfl rfl)<|p 11 rfl (e rfl rfl)<|p 12 rfl (e rfl rfl)<|?_
    refine cJ w λS=>?_
    exact gY (h Y _ ⟨aa,S,E,rfl⟩) λh=>po 14 rfl<|dS h bq rfl rfl λ_ h=>re rfl<|p 15 rfl (aI rfl)<|p 16 rfl (aI rfl)<|Z<|D _ _ _ h ⟨g,rfl,rfl,rfl⟩
 ,cP Tryz.func76 rfl rfl⟩
theorem xM {p0 c0 H Q} (h:tM p0 c0 H Q):dv Tryz.prog 139 #[VI p0,.pointer (some c0)] H λv H'=>∃ c,v= .bool c/\Q c H':=by
 unfold tM at h
 exact F Tryz.func139 rfl Tryz.ntmps139<|R<|q (aB rfl)<|z<|R<|y h λe b h=>q (a aR rfl b)<|q (mI rfl)<|c1 (cb h) (cu h) rfl λf d h=>q (jH rfl)<|q (aB rfl)<|z<|E1 rfl rfl h
instance Jy {p0 p1 p2 H Q}:aj Tryz.prog 77 (kZ p0 p1 p2 H Q) [.pointer p0,.bool p1,Sl.v p2] H (λv H'=>∃ a,v=VI a/\Q a H'):=aT (kZ.eq_1 ..) Tryz.func77 Tryz.ntmps77
instance Nb {p0 H Q}:aj Tryz.prog 263 (qb p0 H Q) [.pointer p0] H (λv H'=>∃ a b,v= .tuple #[.agg ([VI a.1,VI a.2.1,VI a.2.2.1,VI a.2.2.2.1,VI a.2.2.2.2]:List Value).toArray,.bool b]/\Q a b H'):=aT (qb.eq_1 ..) Tryz.func263 Tryz.ntmps263
end
end Go.Proofs.YtbijlklgbfminaaGreat
