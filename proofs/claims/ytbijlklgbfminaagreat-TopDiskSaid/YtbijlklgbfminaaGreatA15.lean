import Derived.Test.YtbijlklgbfminaaGreatA14
set_option linter.unusedVariables false
set_option linter.unusedSimpArgs false
namespace Go.Proofs.YtbijlklgbfminaaGreat
section
open Go Go.Kx Go.Proofs Go.Kx.Au Go.Kx.W
set_option maxRecDepth 20000
set_option maxHeartbeats 2000000
instance Pj {p0 p1 p2 H Q}:aj Tryz.prog 201 (mz p0 p1 p2 H Q) [VI p0,VI p1,VI p2] H (λv H'=>∃ r0,v= .pointer r0/\Q r0 H'):=⟨λh=>by
 unfold mz at h
 refine F Tryz.func201 rfl Tryz.ntmps201<|R<|q (aP rfl)<|z<|s<|R<|q (mI rfl)<|q (jO rfl rfl)<|q (mB rfl)<|?_
 refine cS 3 (λg (s2:Bool)=>g 0=VI p0/\g 1=VI p1/\g 2=VI p2/\g 12=VB s2) h ?_ ?_<;>clear h
 ·intro s2 H4 g h y
  obtain⟨u,i,x,I⟩:=y
  refine q (mB I)<|?_
  refine cS 3 (λg (s7:Bool)=>g 0=VI p0/\g 1=VI p1/\g 2=VI p2/\g 16=VB s7) h ?_ ?_<;>clear h
  ·intro s7 H9 g h y
   obtain⟨l,d,m,r⟩:=y
   refine q (mB r)<|?_
   refine cS 3 (λg (U:Bool)=>g 0=VI p0/\g 1=VI p1/\g 2=VI p2/\g 20=VB U) h ?_ ?_<;>clear h
   ·intro U aB g h y
    obtain⟨n,e,G,f⟩:=y
    refine z<|J h (λj h=>?_) λj h=>?_
    ·exact C j f<|R<|q (aP rfl)<|z<|E1 rfl rfl h
    ·refine N j f<|K<|s<|dr gz<|p 0 rfl (mI G)<|p 2 rfl (mI n)<|p 4 rfl (mI e)<|p 5 rfl (mI n)<|p 6 rfl (mI e)<|p 7 rfl (de rfl rfl)<|p 8 rfl (uc rfl rfl)<|p 9 rfl (mI e)<|t h λai h=>p 10 rfl (JS ai rfl rfl)<|t h λk h=>?_
     refine dN (R:=[1,11]) (by decide+kernel) ⟨?_,?_,trivial⟩
     ·refine bM (S2:=2039) rfl (by decide+kernel) (by decide) rfl ?_
      refine nA (ps:=[(0,VI p2)]) (zs:=[VI 0]) (cs:=[VI p2]) dB xZ rfl rfl (by decide) (by decide) rfl rfl λax ak aa=>gY (h ax ak aa) λh=>re rfl<|?_
      refine dN (R:=[3,11]) (by decide+kernel) ⟨?_,?_,trivial⟩
      ·refine bM (S2:=2047) rfl (by decide+kernel) (by decide) rfl ?_
       exact d1 (cb h) (cu h) rfl λV aC h=>re rfl<|po 11 rfl<|lW (zs:=[.bool false]) dB jL (by decide) xZ rfl rfl (by decide) rfl rfl k λB al ab=>gY (h B al ab) λh=>re rfl<|p 12 rfl (cH (cs:=[Sl.v V,VI p1,Sl.v B]) iv xZ rfl rfl (by kernel_rfl))<|po 13 rfl<|cE (cs:=[Sl.v V,VI p1,Sl.v B]) rfl rfl λaq am ac=>gY (h aq am ac) λh=>re rfl<|p 14 rfl (aP rfl)<|Z<|E1 rfl rfl h
      ·refine bM (S2:=4087) rfl (by decide+kernel) (by decide) rfl ?_
       refine qq (zs:=[.bool false]) dB jL (by decide) xZ rfl rfl (by decide) rfl rfl k λav D az L O=>?_
       refine re rfl<|po 3 rfl<|d1 (cb h) (cu h) rfl λX aD h=>re rfl<|?_
       refine cJ L λag=>?_
       exact gY (h D _ ⟨av,ag,O,rfl⟩) λh=>p 12 rfl (cH (cs:=[Sl.v X,VI p1,Sl.v D]) iv xZ rfl rfl (by kernel_rfl))<|po 13 rfl<|cE (cs:=[Sl.v X,VI p1,Sl.v D]) rfl rfl λar an ad=>gY (h ar an ad) λh=>re rfl<|p 14 rfl (aP rfl)<|Z<|E1 rfl rfl h
     ·refine bM (S2:=4085) rfl (by decide+kernel) (by decide) rfl ?_
      refine qq (zs:=[.bool false]) dB jL (by decide) xZ rfl rfl (by decide) rfl rfl k λaw E aA M P=>?_
      refine re rfl<|po 1 rfl<|nA (ps:=[(0,VI p2)]) (zs:=[VI 0]) (cs:=[VI p2]) dB xZ rfl rfl (by decide) (by decide) rfl rfl λay ao ae=>gY (h ay ao ae) λh=>re rfl<|po 3 rfl<|d1 (cb h) (cu h) rfl λY aE h=>re rfl<|?_
      refine cJ M λah=>?_
      exact gY (h E _ ⟨aw,ah,P,rfl⟩) λh=>p 12 rfl (cH (cs:=[Sl.v Y,VI p1,Sl.v E]) iv xZ rfl rfl (by kernel_rfl))<|po 13 rfl<|cE (cs:=[Sl.v Y,VI p1,Sl.v E]) rfl rfl λau ap af=>gY (h au ap af) λh=>re rfl<|p 14 rfl (aP rfl)<|Z<|E1 rfl rfl h
   ·intro aF A h
    refine J h (λa h=>?_) λa h=>?_
    ·exact o a<|o a<|q (jB a rfl rfl)<|A true _ _ h (by exact⟨l,d,m,rfl⟩)
    ·exact w a (mI d)<|w a (pM rfl rfl)<|q (nB a rfl rfl)<|A (decide (65536<p1)) _ _ h (by exact⟨l,d,m,rfl⟩)
  ·intro j8 T h
   refine J h (λc h=>?_) λc h=>?_
   ·exact o c<|o c<|q (jB c rfl rfl)<|T true _ _ h (by exact⟨u,i,x,rfl⟩)
   ·exact w c (mI i)<|w c (jO rfl rfl)<|q (nB c rfl rfl)<|T (decide (p1< 1)) _ _ h (by exact⟨u,i,x,rfl⟩)
 ·intro j3 S h
  refine J h (λb h=>?_) λb h=>?_
  ·exact o b<|o b<|q (jB b rfl rfl)<|S true _ _ h (by exact⟨rfl,rfl,rfl,rfl⟩)
  ·exact w b (mI rfl)<|w b (pM rfl rfl)<|q (nB b rfl rfl)<|S (decide (65536<p0)) _ _ h (by exact⟨rfl,rfl,rfl,rfl⟩)
 ,cP Tryz.func201 rfl rfl⟩
instance TU {p0 H Q}:aj Tryz.prog 135 (xV p0 H Q) [VI p0] H (λv H'=>∃ a,v= .pointer a/\Q a H'):=aT (xV.eq_1 ..) Tryz.func135 Tryz.ntmps135
instance TV {p0 p1 p2 H Q}:aj Tryz.prog 265 (rC p0 p1 p2 H Q) [.pointer p0,VI p1,VI p2] H (λv H'=>∃ a,v=VI a/\Q a H'):=aT (rC.eq_1 ..) Tryz.func265 Tryz.ntmps265
instance Jr {p0 H Q}:aj Tryz.prog 212 (ka p0 H Q) [.pointer p0] H (λv H'=>∃ G,v=Sl.v G/\Q G H'):=⟨λh=>by
 unfold ka at h
 refine fZ Tryz.func212 rfl Tryz.ntmps212 (Nat.le_of_ble_eq_true rfl)<|?_
 intro D M e d c
 refine R<|od<|cE (cs:=[.pointer p0]) rfl rfl λa1 L A=>gY (h a1 L A) λh=>od<|cT xZ rfl λP O E=>gY (h P O E) λh=>z<|s<|R<|y h λx7 F h=>q (a aR rfl F)<|c1 (cb h) (cu h) rfl λam H9 h=>gL rfl (by decide) (cb h) (cu h) rfl<|?_
 rintro an U ⟨_,rfl,h⟩
 refine z<|b<|?_
 refine nE (g:=()) h rfl (λ_ _ _ h=>h) rfl e d c trivial ?_ ?_<;>clear h
 ·rintro _ ab V ao ⟨ae,af,rfl,h⟩
  refine⟨rfl,λT Bx rz S=>?_⟩
  clear e d c
  intro D M e d c
  refine r<|q (aI rfl)<|z<|jQ (g:=()) S d c λM d c =>?_
  have e:Mk (some T) D M:=trivial
  refine b<|R<|y h λag m h=>q (a aR rfl m)<|y h λaa k h=>q (n k rfl)<|q (f bB rfl)<|y h λah o h=>q (a aR rfl o)<|q (mI rfl)<|c1 (cb h) (cu h) rfl λj X h=>q (aI rfl)<|z<|R<|q (mI rfl)<|q (pM rfl rfl)<|z<|J h (λi h=>?_) λi h=>?_
  ·exact C i rfl<|r<|y h λai p h=>q (a aR rfl p)<|q (mI rfl)<|od<|nA (ps:=[(0,VI j)]) (zs:=[VI 0]) (cs:=[VI j]) dB xZ rfl rfl (by decide) (by decide) rfl rfl λI x l=>gY (h I x l) λh=>od<|iu (zs:=[VI 0]) (dB (t:=23)) jL (by decide) xZ rfl rfl (by decide) rfl rfl Tryz.underlying23 rfl h λad Y h=>st h bq rfl rfl λ_ h=>z<|B<|Go.gP (g:=()) e d c ⟨0,rfl,h⟩
  ·exact N i rfl<|K<|B<|Go.gP (g:=()) e d c ⟨0,rfl,h⟩
 ·intro ac Z h
  intro D M e d c
  exact B<|R<|y h λak u h=>q (a aR rfl u)<|st h bq rfl rfl λ_ h=>z<|y h λal w h=>Go.fP (g:=()) e d c ⟨.inl rfl,_,(mw Tryz.results212 (lv aR rfl w)),⟨_,rfl,h⟩⟩
 ,cP Tryz.func212 rfl rfl⟩
instance Il {p0 H Q}:aj Tryz.prog 144 (iN p0 H Q) [.pointer p0] H (λv H'=>v= .tuple #[]/\Q H'):=aT (iN.eq_1 ..) Tryz.func144 Tryz.ntmps144
instance NY {p0 p1 p2 p3 H Q}:aj Tryz.prog 267 (qd p0 p1 p2 p3 H Q) [.pointer p0,.bool p1,VI p2,VI p3] H (λv H'=>∃ a b,v= .tuple #[VI a,.bool b]/\Q a b H'):=aT (qd.eq_1 ..) Tryz.func267 Tryz.ntmps267
instance K7 {p0 p1 p2 H Q}:aj Tryz.prog 215 (oD p0 p1 p2 H Q) [.pointer p0,VI p1,VI p2] H (λv H'=>∃ a b,v= .tuple #[VI a,.bool b]/\Q a b H'):=aT (oD.eq_1 ..) Tryz.func215 Tryz.ntmps215
instance Js {p0 H Q}:aj Tryz.prog 217 (kb p0 H Q) [.pointer p0] H (λv H'=>∃ V,v=Sl.v V/\Q V H'):=⟨λh=>by
 unfold kb at h
 refine fZ Tryz.func217 rfl Tryz.ntmps217 (Nat.le_of_ble_eq_true rfl)<|?_
 intro D M e c d
 refine R<|od<|cE (cs:=[.pointer p0]) rfl rfl λa1 H2 S=>gY (h a1 H2 S) λh=>od<|cT xZ rfl λP H5 T=>gY (h P H5 T) λh=>z<|s<|R<|y h λx7 U h=>q (a aR rfl U)<|c1 (cb h) (cu h) rfl λaA H9 h=>gL rfl (by decide) (cb h) (cu h) rfl<|?_
 rintro aB ac ⟨_,rfl,h⟩
 refine z<|b<|?_
 refine nE (g:=()) h rfl (λ_ _ _ h=>h) rfl e c d trivial ?_ ?_<;>clear h
 ·rintro _ an ad aC ⟨aa,aq,rfl,h⟩
  refine⟨rfl,λlp Bx rz hr=>?_⟩
  clear e c d
  intro D M e c d
  refine R<|q (aI rfl)<|z<|r<|q (aI rfl)<|z<|jQ (g:=()) hr c d λM c d =>?_
  have e:Mk (some lp) D M:=trivial
  refine b<|s<|R<|q (mI rfl)<|q (xN rfl rfl)<|z<|J h (λi h=>?_) λi h=>?_
  ·exact C i rfl<|X rfl<|Go.gP (g:=()) e c d ⟨0,rfl,h⟩
  ·refine N i rfl<|K<|s<|R<|y h λar x h=>q (a aR rfl x)<|y h λak p h=>q (n p rfl)<|q (f bB rfl)<|y h λau A h=>q (a aR rfl A)<|q (mI rfl)<|q (mI rfl)<|c1 (cb h) (cu h) rfl λo ae h=>q (aI rfl)<|z<|R<|q (mI rfl)<|q (pM rfl rfl)<|z<|?_
   refine nk 1 (λ_=>()) (λρ (Z:Unit)=>ρ 1= .pointer (some a1)/\ρ 2= .pointer (some P)/\ρ 3=VI aa) c h ?_ ?_<;>clear h
   ·intro Z af ρ h hE
    obtain⟨l,ab,m⟩:=hE
    intro D M e c d
    exact r<|y h λav E h=>q (a aR l E)<|y h λal u h=>q (n u rfl)<|q (f bB rfl)<|y h λaw F h=>q (a aR rfl F)<|q (mI m)<|c1 (cb h) (cu h) rfl λaD ag h=>z<|B<|Go.gP (g:=()) e c d ⟨0,rfl,h⟩
   ·intro am k h
    refine J h (λj h=>?_) λj h=>?_
    ·exact C j rfl<|r<|y h λax G h=>q (a aR rfl G)<|q (mI rfl)<|od<|nA (ps:=[(0,VI o)]) (zs:=[VI 0]) (cs:=[VI o]) dB xZ rfl rfl (by decide) (by decide) rfl rfl λY O w=>gY (h Y O w) λh=>od<|iu (zs:=[VI 0]) (dB (t:=23)) jL (by decide) xZ rfl rfl (by decide) rfl rfl Tryz.underlying23 rfl h λap ah h=>st h bq rfl rfl λ_ h=>z<|k () _ _ h (by exact⟨rfl,rfl,rfl⟩) _ _ e c d
    ·exact N j rfl<|K<|k () _ _ h (by exact⟨rfl,rfl,rfl⟩) _ _ e c d
 ·intro ao ai h
  intro D M e c d
  exact B<|R<|y h λay I h=>q (a aR rfl I)<|st h bq rfl rfl λ_ h=>z<|y h λaz L h=>Go.fP (g:=()) e c d ⟨.inl rfl,_,(mw Tryz.results217 (lv aR rfl L)),⟨_,rfl,h⟩⟩
 ,cP Tryz.func217 rfl rfl⟩
instance FB {p0 H Q}:aj Tryz.prog 188 (jU p0 H Q) [.pointer p0] H (λv H'=>∃ a b,v= .tuple #[.agg ([VI a.1,VI a.2.1,VI a.2.2.1,VI a.2.2.2.1,Sl.v a.2.2.2.2]:List Value).toArray,.bool b]/\Q a b H'):=aT (jU.eq_1 ..) Tryz.func188 Tryz.ntmps188
instance Jt {p0 p1 H Q}:aj Tryz.prog 243 (nO p0 p1 H Q) [.pointer p0,.agg ([Sl.v p1.1,Sl.v p1.2]:List Value).toArray] H (λv H'=>∃ r0,v=VI r0/\Q r0 H'):=⟨λh=>by
 unfold nO at h
 refine F Tryz.func243 rfl Tryz.ntmps243<|R<|od<|cE (cs:=[Sl.v p1.1,Sl.v p1.2]) rfl rfl λa1 H2 az=>gY (h a1 H2 az) λh=>q (aI rfl)<|z<|s<|dr gz<|p 0 rfl (mP rfl)<|y h λa4 ax h=>p 1 rfl (n ax rfl)<|p 2 rfl (f bB rfl)<|y h λx6 aA h=>pl 3 rfl (a aR rfl aA)<|p 4 rfl (mP rfl)<|y h λa8 ay h=>p 5 rfl (n ay rfl)<|p 6 rfl (f bB rfl)<|p 7 rfl (f bB rfl)<|y h λaB ag h=>pl 8 rfl (a aR rfl ag)<|p 9 rfl (de rfl rfl)<|p 10 rfl (mP rfl)<|y h λaT g h=>p 11 rfl (n g rfl)<|p 12 rfl (f bB rfl)<|p 13 rfl (f bB rfl)<|y h λaC ah h=>pl 14 rfl (a aR rfl ah)<|p 15 rfl (mP rfl)<|y h λaU i h=>p 16 rfl (n i rfl)<|p 17 rfl (f bB rfl)<|p 18 rfl (f bB rfl)<|y h λaD ai h=>pl 19 rfl (a aR rfl ai)<|p 20 rfl (mP rfl)<|y h λaV j h=>p 21 rfl (n j rfl)<|p 22 rfl (f bB rfl)<|p 23 rfl (f bB rfl)<|y h λaE ak h=>pl 24 rfl (a aR rfl ak)<|p 25 rfl (mP rfl)<|y h λaW k h=>p 26 rfl (n k rfl)<|p 27 rfl (f bB rfl)<|p 28 rfl (f bB rfl)<|y h λaF al h=>pl 29 rfl (a aR rfl al)<|p 30 rfl (mP rfl)<|y h λaX l h=>p 31 rfl (n l rfl)<|p 32 rfl (f bB rfl)<|p 33 rfl (f bB rfl)<|y h λaG am h=>pl 34 rfl (a aR rfl am)<|p 35 rfl (mP rfl)<|y h λaY m h=>p 36 rfl (n m rfl)<|p 37 rfl (f bB rfl)<|y h λa9 an h=>pl 38 rfl (a aR rfl an)<|y h λaZ o h=>p 40 rfl (m9 tK o rfl rfl)<|y h λaH ao h=>pl 41 rfl (a aR rfl ao)<|y h λa0 r h=>p 42 rfl (m9 tK r rfl rfl)<|y h λaJ ap h=>pl 43 rfl (a aR rfl ap)<|p 44 rfl (mP rfl)<|y h λa2 u h=>p 45 rfl (n u rfl)<|p 46 rfl (f bB rfl)<|y h λba aq h=>pl 47 rfl (a aR rfl aq)<|po 39 rfl<|d1 (cb h) (cu h) rfl λb aL h=>t h λD h=>t h λE h=>t h λG h=>t h λI h=>t h λL h=>t h λM h=>t h λO h=>t h λP h=>t h λS h=>t h λT h=>re (rr rfl rfl (a aR rfl D)<|rr rfl rfl (a aR rfl E)<|rr rfl rfl (a aR rfl G)<|rl [39]<|rr rfl rfl (a aR rfl I)<|rr rfl rfl (a aR rfl L)<|rr rfl rfl (a aR rfl M)<|rr rfl rfl (a aR rfl O)<|rr rfl rfl (a aR rfl P)<|rr rfl rfl (a aR rfl S)<|rr rfl rfl (a aR rfl T)<|rfl)<|po 48 rfl<|d1 (cb h) (cu h) rfl λaK aM h=>t h λU h=>t h λV h=>t h λX h=>t h λY h=>t h λaa h=>t h λab h=>t h λac h=>t h λad h=>t h λae h=>re (rl [48]<|rr rfl rfl (a aR rfl U)<|rr rfl rfl (a aR rfl V)<|rr rfl rfl (a aR rfl X)<|rr rfl rfl (a aR rfl Y)<|rr rfl rfl (a aR rfl aa)<|rr rfl rfl (a aR rfl ab)<|rr rfl rfl (a aR rfl ac)<|rr rfl rfl (a aR rfl ad)<|rr rfl rfl (a aR rfl ae)<|rfl)<|p 49 rfl (cH (cs:=[VI (IntKind.wrap .i64 (aB+1)),VI aC,VI aD,VI aE,VI aF,VI aG,VI b.1,VI b.2.1,VI b.2.2.1,VI b.2.2.2.1,VI b.2.2.2.2,Sl.v aH,Sl.v aJ,Sl.v aK]) iv xZ rfl rfl (by kernel_rfl))<|po 50 rfl<|d2 (cb h) (cu h) rfl λbf bg aN h=>re (rl [49,50]<|rl [49,50]<|rl [49,50]<|rl [49,50]<|rl [49,50]<|rl [49,50]<|rl [49,50]<|rl [9,49,50]<|rl [50]<|rfl)<|p 51 rfl (mT rfl)<|p 52 rfl (e rfl rfl)<|p 53 rfl (e rfl rfl)<|p 54 rfl (aS rfl)<|p 55 rfl (aI rfl)<|Z<|s<|R<|q (mI rfl)<|q (eP rfl rfl)<|z<|J h (λc h=>?_) λc h=>?_
 ·exact C c rfl<|R<|q (mI rfl)<|q (aI rfl)<|z<|E1 rfl rfl h
 ·refine N c rfl<|K<|s<|s<|dr gz<|p 0 rfl (mP rfl)<|y h λa3 w h=>p 1 rfl (n w rfl)<|p 2 rfl (f bB rfl)<|y h λbb ar h=>pl 3 rfl (a aR rfl ar)<|p 4 rfl (mP rfl)<|y h λa5 x h=>p 5 rfl (n x rfl)<|p 6 rfl (f bB rfl)<|y h λbc au h=>pl 7 rfl (a aR rfl au)<|p 8 rfl (mP rfl)<|y h λa6 A h=>p 9 rfl (n A rfl)<|p 10 rfl (f bB rfl)<|y h λbd av h=>pl 11 rfl (a aR rfl av)<|p 12 rfl (uc rfl rfl)<|p 14 rfl (mS rfl)<|po 13 rfl<|d1 (cb h) (cu h) rfl λbh aO h=>t h λaf h=>re (rl [12,13]<|rl [13]<|rr rfl rfl (a aR rfl af)<|rfl)<|po 15 rfl<|d1 (cb h) (cu h) rfl λbi aP h=>re (rl [15]<|rfl)<|p 16 rfl (aI rfl)<|Z<|R<|q (mI rfl)<|q (eP rfl rfl)<|z<|J h (λd h=>?_) λd h=>?_
  ·exact C d rfl<|R<|q (mI rfl)<|q (aI rfl)<|z<|E1 rfl rfl h
  ·exact N d rfl<|K<|R<|q (mP rfl)<|y h λa7 B h=>q (n B rfl)<|q (f bB rfl)<|y h λbe aw h=>q (a aR rfl aw)<|c1 (cb h) (cu h) rfl λbj aQ h=>q (aI rfl)<|z<|E1 rfl rfl h
 ,cP Tryz.func243 rfl rfl⟩
instance Io {p0 H Q}:aj Tryz.prog 8 (kC p0 H Q) [.agg ([VI p0.1,VI p0.2.1,VI p0.2.2]:List Value).toArray] H (λv H'=>∃ a,v=VI a/\Q a H'):=aT (kC.eq_1 ..) Tryz.func8 Tryz.ntmps8
instance OG {p0 p1 H Q}:aj Tryz.prog 12 (lx p0 p1 H Q) [.agg ([VI p0.1,VI p0.2.1,VI p0.2.2.1,VI p0.2.2.2.1,Sl.v p0.2.2.2.2]:List Value).toArray,VI p1] H (λv H'=>∃ a b,v= .tuple #[.agg ([VI a.1,VI a.2.1,VI a.2.2.1,VI a.2.2.2.1,Sl.v a.2.2.2.2]:List Value).toArray,.bool b]/\Q a b H'):=aT (lx.eq_1 ..) Tryz.func12 Tryz.ntmps12
end
end Go.Proofs.YtbijlklgbfminaaGreat
