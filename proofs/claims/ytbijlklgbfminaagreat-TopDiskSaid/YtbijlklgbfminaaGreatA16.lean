import Derived.Test.YtbijlklgbfminaaGreatA15
set_option linter.unusedVariables false
set_option linter.unusedSimpArgs false
namespace Go.Proofs.YtbijlklgbfminaaGreat
section
open Go Go.Kx Go.Proofs Go.Kx.Au Go.Kx.W
set_option maxRecDepth 20000
set_option maxHeartbeats 2000000
instance K8 {p0 H Q}:aj Tryz.prog 56 (iF p0 H Q) [.pointer p0] H (λv H'=>∃ a,v=VI a/\Q a H'):=aT (iF.eq_1 ..) Tryz.func56 Tryz.ntmps56
instance Rj {p0 H Q}:aj Tryz.prog 125 (nq p0 H Q) [Sl.v p0] H (λv H'=>∃ a b,v= .tuple #[Sl.v a,VI b]/\Q a b H'):=aT (nq.eq_1 ..) Tryz.func125 Tryz.ntmps125
instance Rk {p0 p1 H Q}:aj Tryz.prog 69 (sS p0 p1 H Q) [.pointer p0,.bool p1] H (λv H'=>∃ a,v=Sl.v a/\Q a H'):=aT (sS.eq_1 ..) Tryz.func69 Tryz.ntmps69
instance Rl {p0 H Q}:aj Tryz.prog 136 (ug p0 H Q) [Sl.v p0] H (λv H'=>∃ a b,v= .tuple #[Sl.v a,VI b]/\Q a b H'):=aT (ug.eq_1 ..) Tryz.func136 Tryz.ntmps136
instance Ly {p0 p1 p2 H Q}:aj Tryz.prog 137 (mH p0 p1 p2 H Q) [.pointer p0,.bool p1,VI p2] H (λv H'=>∃ a,v=Sl.v a/\Q a H'):=aT (mH.eq_1 ..) Tryz.func137 Tryz.ntmps137
instance NZ {p0 p1 H Q}:aj Tryz.prog 204 (nG p0 p1 H Q) [.pointer p0,VI p1] H (λv H'=>∃ a b c,v= .tuple #[VI a,VI b,.bool c]/\Q a b c H'):=aT (nG.eq_1 ..) Tryz.func204 Tryz.ntmps204
instance K9 {p0 p1 H Q}:aj Tryz.prog 140 (oC p0 p1 H Q) [.pointer p0,VI p1] H (λv H'=>∃ a,v= .bool a/\Q a H'):=aT (oC.eq_1 ..) Tryz.func140 Tryz.ntmps140
instance Lz {p0 p1 p2 p3 H Q}:aj Tryz.prog 141 (pV p0 p1 p2 p3 H Q) [.pointer p0,.bool p1,VI p2,Sl.v p3] H (λv H'=>∃ a,v= .bool a/\Q a H'):=aT (pV.eq_1 ..) Tryz.func141 Tryz.ntmps141
instance Na {p0 p1 p2 H Q}:aj Tryz.prog 153 (km p0 p1 p2 H Q) [.pointer p0,VI p1,VI p2] H (λv H'=>∃ a,v= .bool a/\Q a H'):=aT (km.eq_1 ..) Tryz.func153 Tryz.ntmps153
instance SV {p0 p1 p2 p3 H Q}:aj Tryz.prog 154 (vv p0 p1 p2 p3 H Q) [.pointer p0,.pointer p1,.pointer p2,.agg ([VI p3.1,VI p3.2.1,VI p3.2.2.1,VI p3.2.2.2.1,VI p3.2.2.2.2]:List Value).toArray] H (λv H'=>∃ a,v= .pointer a/\Q a H'):=aT (vv.eq_1 ..) Tryz.func154 Tryz.ntmps154
instance Tz {p0 p1 p2 H Q}:aj Tryz.prog 14 (uT p0 p1 p2 H Q) [VI p0,VI p1,.agg ([VI p2.1,VI p2.2.1,VI p2.2.2.1,VI p2.2.2.2.1,Sl.v p2.2.2.2.2]:List Value).toArray] H (λv H'=>∃ i r1,v= .tuple #[.agg ([VI i.1,VI i.2.1,VI i.2.2.1,VI i.2.2.2.1,VI i.2.2.2.2.1,VI i.2.2.2.2.2.1,VI i.2.2.2.2.2.2.1,Sl.v i.2.2.2.2.2.2.2]:List Value).toArray,.bool r1]/\Q i r1 H'):=⟨λh=>by
 unfold uT at h
 refine F Tryz.func14 rfl Tryz.ntmps14<|R<|od<|cE (cs:=[VI p2.1,VI p2.2.1,VI p2.2.2.1,VI p2.2.2.2.1,Sl.v p2.2.2.2.2]) rfl rfl λa1 H2 aG=>gY (h a1 H2 aG) λh=>od<|cT xZ rfl λO H5 aH=>gY (h O H5 aH) λh=>q (aB rfl)<|z<|s<|?_
 refine rW 1 (λn (U:Addr)=>n 6=VA O/\n 8=VA U) h ?_ ?_<;>clear h
 ·intro U H9 n h u
  obtain⟨l,d⟩:=u
  refine s<|R<|y h λaZ av h=>q (A eY d av)<|c1 (cb h) (cu h) rfl λa6 aS h=>q (jH rfl)<|q (mB rfl)<|?_
  refine cS 4 (λn (X:Bool)=>n 6=VA O/\n 8=VA U/\n 30=VB X) h ?_ ?_<;>clear h
  ·intro X aT n h u
   obtain⟨m,g,r⟩:=u
   refine q (mB r)<|?_
   refine cS 4 (λn (Y:Bool)=>n 6=VA O/\n 8=VA U/\n 35=VB Y) h ?_ ?_<;>clear h
   ·intro Y aU n h u
    obtain⟨e,P,j⟩:=u
    refine z<|J h (λk h=>?_) λk h=>?_
    ·exact C k j<|R<|q (cH (cs:=[VI 0,VI 0,VI 0,VI 0,VI 0,VI 0,VI 0,Sl.v Sl.nil]) iv xZ rfl rfl (by kernel_rfl))<|st h bq e rfl λ_ h=>q (aB rfl)<|z<|y h λa0 aw h=>E (yR rfl (pQ eY e aw) (qt rfl)) ⟨_,_,rfl,h⟩
    ·exact N k j<|K<|R<|y h λa2 ax h=>q (A eY P ax)<|st h bq e rfl λ_ h=>q (aB rfl)<|z<|y h λa3 ay h=>E (yR rfl (pQ eY e ay) (qt rfl)) ⟨_,_,rfl,h⟩
   ·intro aY B h
    refine J h (λc h=>?_) λc h=>?_
    ·exact o c<|o c<|o c<|q (jB c rfl rfl)<|B true _ _ h (by exact⟨m,g,rfl⟩)
    ·exact w c (f bB g)<|y h λaI az h=>w c (a aR rfl az)<|w c (xN rfl rfl)<|q (nB c rfl rfl)<|B (aI==9) _ _ h (by exact⟨m,g,rfl⟩)
  ·intro aX x h
   refine J h (λb h=>?_) λb h=>?_
   ·exact o b<|o b<|o b<|q (jB b rfl rfl)<|x true _ _ h (by exact⟨l,d,rfl⟩)
   ·exact w b (f bB d)<|y h λaJ aA h=>w b (a aR rfl aA)<|w b (xN rfl rfl)<|q (nB b rfl rfl)<|x (aJ==8) _ _ h (by exact⟨l,d,rfl⟩)
 ·intro j8 V h
  refine dr gz<|p 0 rfl (f bB rfl)<|y h λaa D h=>pl 1 rfl (a aR rfl D)<|p 2 rfl (mI rfl)<|p 3 rfl (mI rfl)<|p 4 rfl (f bB rfl)<|y h λab G h=>pl 5 rfl (a aR rfl G)<|p 6 rfl (f bB rfl)<|y h λac I h=>pl 7 rfl (a aR rfl I)<|p 8 rfl (f bB rfl)<|y h λad L h=>pl 9 rfl (a aR rfl L)<|p 10 rfl (f bB rfl)<|y h λa5 M h=>pl 11 rfl (a aR rfl M)<|?_
  refine dN (R:=[12,14]) (by decide+kernel) ⟨?_,?_,trivial⟩
  ·refine bM (S2:=8191) rfl (by decide+kernel) (by decide) rfl ?_
   exact d1 (cb h) (cu h) rfl λaK aV h=>t h λag h=>t h λah h=>t h λai h=>t h λak h=>re (rl [12]<|rr rfl rfl (a aR rfl ag)<|rr rfl rfl (a aR rfl ah)<|rr rfl rfl (a aR rfl ai)<|rr rfl rfl (a aR rfl ak)<|rfl)<|p 13 rfl (cH (cs:=[VI aa,VI p0,VI p1,VI ab,VI ac,VI ad,VI 0,Sl.v aK]) iv xZ rfl rfl (by kernel_rfl))<|po 14 rfl<|cT xZ rfl λaD aC ae=>gY (h aD aC ae) λh=>t h λal h=>t h λam h=>t h λan h=>t h λao h=>re (rr rfl rfl (a aR rfl al)<|rr rfl rfl (a aR rfl am)<|rr rfl rfl (a aR rfl an)<|rr rfl rfl (a aR rfl ao)<|rfl)<|po 15 rfl<|dS h bq rfl rfl λ_ h=>re (rl [15]<|rl [15]<|rl [15]<|rl [15]<|rfl)<|Z<|V _ _ _ h ⟨rfl,rfl⟩
  ·refine bM (S2:=20479) rfl (by decide+kernel) (by decide) rfl ?_
   refine oY xZ rfl λaF aE aM S T=>?_
   refine re (rr rfl rfl (a aR rfl M)<|rr rfl rfl (a aR rfl L)<|rr rfl rfl (a aR rfl I)<|rr rfl rfl (a aR rfl G)<|rr rfl rfl (a aR rfl D)<|rfl)<|po 12 rfl<|d1 (cb h) (cu h) rfl λaL aW h=>t h λap h=>t h λaq h=>t h λar h=>t h λau h=>re (rl [12]<|rr rfl rfl (a aR rfl ap)<|rr rfl rfl (a aR rfl aq)<|rr rfl rfl (a aR rfl ar)<|rr rfl rfl (a aR rfl au)<|rfl)<|p 13 rfl (cH (cs:=[VI aa,VI p0,VI p1,VI ab,VI ac,VI ad,VI 0,Sl.v aL]) iv xZ rfl rfl (by kernel_rfl))<|?_
   refine cJ S λaf=>?_
   exact gY (h aE _ ⟨aF,af,T,rfl⟩) λh=>t h λaN h=>t h λaO h=>t h λaP h=>t h λaQ h=>po 15 rfl<|dS h bq rfl rfl λ_ h=>re (rl [15]<|rl [15]<|rl [15]<|rl [15]<|rfl)<|Z<|V _ _ _ h ⟨rfl,rfl⟩
 ,cP Tryz.func14 rfl rfl⟩
instance Ju {p0 p1 H Q}:aj Tryz.prog 225 (iz p0 p1 H Q) [.pointer p0,.agg ([VI p1.1,VI p1.2.1,VI p1.2.2.1,VI p1.2.2.2.1,Sl.v p1.2.2.2.2]:List Value).toArray] H (λv H'=>∃ r0,v=VI r0/\Q r0 H'):=⟨λh=>by
 unfold iz at h
 refine F Tryz.func225 rfl Tryz.ntmps225<|R<|od<|cE (cs:=[VI p1.1,VI p1.2.1,VI p1.2.2.1,VI p1.2.2.2.1,Sl.v p1.2.2.2.2]) rfl rfl λa1 H2 al=>gY (h a1 H2 al) λh=>q (aI rfl)<|z<|s<|R<|q (mP rfl)<|q (je Tryz.underlying72 rfl rfl)<|z<|J h (λj h=>?_) λj h=>?_
 ·exact C j rfl<|R<|q (aI rfl)<|z<|E1 rfl rfl h
 ·refine N j rfl<|K<|s<|?_
  refine rW 1 (λρ (s5:Addr×Bool)=>ρ 0=VP p0/\ρ 3=VA a1/\ρ 5=VA (s5.1)/\ρ 6=VB s5.2) h ?_ ?_<;>clear h
  ·intro s5 H7 ρ h hE
   obtain⟨d,i,x,D⟩:=hE
   refine s<|b<|R<|q (mB D)<|q (jH rfl)<|q (aB rfl)<|z<|J h (λk h=>?_) λk h=>?_
   ·exact C k rfl<|R<|q (aI rfl)<|z<|E1 rfl rfl h
   ·refine N k rfl<|s<|dr gz<|p 0 rfl (mP d)<|y h λar E h=>p 1 rfl (n E rfl)<|p 2 rfl (f bB rfl)<|y h λaD Y h=>pl 3 rfl (a aR rfl Y)<|p 4 rfl (mP d)<|y h λau G h=>p 5 rfl (n G rfl)<|p 6 rfl (f bB rfl)<|y h λaE aa h=>pl 7 rfl (a aR rfl aa)<|p 8 rfl (uc rfl rfl)<|p 9 rfl (PC rfl rfl)<|p 10 rfl (aB rfl)<|Z<|J h (λg h=>?_) λg h=>?_
    ·exact C g rfl<|R<|q (aI rfl)<|z<|E1 rfl rfl h
    ·exact N g rfl<|K<|B<|R<|q (f bB x)<|y h λaF ab h=>q (a aR rfl ab)<|q (f bB i)<|st h bq rfl rfl λ_ h=>z<|s<|dr gz<|p 0 rfl (mP d)<|p 1 rfl (mP d)<|y h λav I h=>p 2 rfl (n I rfl)<|p 3 rfl (f bB rfl)<|y h λaG ac h=>pl 4 rfl (a aR rfl ac)<|y h λc ad h=>pl 5 rfl (A eY i ad)<|po 6 rfl<|nA (ps:=[(0,.agg ([VI c.1,VI c.2.1,VI c.2.2.1,VI c.2.2.2.1,Sl.v c.2.2.2.2]:List Value).toArray)]) (zs:=[VI 0,VI 0,VI 0,VI 0,.slice none 0 0]) (cs:=[VI c.1,VI c.2.1,VI c.2.2.1,VI c.2.2.2.1,Sl.v c.2.2.2.2]) dB xZ rfl rfl (by decide) (by decide) rfl (nC (tot:=5) (css:=[[VI c.1,VI c.2.1,VI c.2.2.1,VI c.2.2.2.1,Sl.v c.2.2.2.2]]) (.cons rfl rfl rfl (.nil rfl)) rfl) λam af T=>gY (h am af T) λh=>t h λX h=>re (rl [6]<|rr rfl rfl (a aR rfl X)<|rfl)<|po 7 rfl<|iu (zs:=[VI 0,VI 0,VI 0,VI 0,.slice none 0 0]) (dB (t:=189)) jL (by decide) xZ rfl rfl (by decide) rfl rfl Tryz.underlying189 rfl h λaC ao h=>re (rl [7]<|rfl)<|y h λaw L h=>p 8 rfl (n L rfl)<|p 9 rfl (f bB rfl)<|po 10 rfl<|dS h bq rfl rfl λ_ h=>re rfl<|Z<|R<|q (mP d)<|y h λax M h=>q (n M rfl)<|q (f bB rfl)<|y h λaH ae h=>q (a aR rfl ae)<|q (de rfl rfl)<|y h λay O h=>q (n O rfl)<|q (f bB rfl)<|st h bq rfl rfl λ_ h=>z<|R<|q (aI rfl)<|z<|E1 rfl rfl h
  ·intro j6 w h
   refine dr gz<|p 0 rfl (mP rfl)<|y h λaz P h=>p 1 rfl (n P rfl)<|p 2 rfl (f bB rfl)<|y h λaJ l h=>pl 3 rfl (a aR rfl l)<|p 4 rfl (mP rfl)<|y h λaA S h=>p 5 rfl (n S rfl)<|p 6 rfl (f bB rfl)<|y h λaK m h=>pl 7 rfl (a aR rfl m)<|p 8 rfl (de rfl rfl)<|y h λaL o h=>pl 9 rfl (A eY rfl o)<|?_
   refine dN (R:=[10,14]) (by decide+kernel) ⟨?_,?_,trivial⟩
   ·refine bM (S2:=2047) rfl (by decide+kernel) (by decide) rfl ?_
    exact d2 (cb h) (cu h) rfl λaM aN ap h=>re (rl [10]<|rl [8,10]<|rl [10]<|rfl)<|p 11 rfl (mT rfl)<|p 12 rfl (e rfl rfl)<|p 13 rfl (e rfl rfl)<|po 14 rfl<|cT xZ rfl λah ag U=>gY (h ah ag U) λh=>re rfl<|po 15 rfl<|dS h bq rfl rfl λ_ h=>re rfl<|p 16 rfl (aB rfl)<|Z<|w _ _ _ h ⟨rfl,rfl,rfl,rfl⟩
   ·refine bM (S2:=17407) rfl (by decide+kernel) (by decide) rfl ?_
    refine oY xZ rfl λak ai an r u=>?_
    refine re (rr rfl rfl (A eY rfl o)<|rr rfl rfl (a aR rfl m)<|rr rfl rfl (a aR rfl l)<|rfl)<|po 10 rfl<|d2 (cb h) (cu h) rfl λaO aP aq h=>re (rl [10]<|rl [8,10]<|rl [10]<|rfl)<|p 11 rfl (mT rfl)<|p 12 rfl (e rfl rfl)<|p 13 rfl (e rfl rfl)<|?_
    refine cJ r λV=>?_
    exact gY (h ai _ ⟨ak,V,u,rfl⟩) λh=>po 15 rfl<|dS h bq rfl rfl λ_ h=>re rfl<|p 16 rfl (aB rfl)<|Z<|w _ _ _ h ⟨rfl,rfl,rfl,rfl⟩
 ,cP Tryz.func225 rfl rfl⟩
instance Ip {p0 p1 p2 H Q}:aj Tryz.prog 157 (mj p0 p1 p2 H Q) [.pointer p0,VI p1,Sl.v p2] H (λv H'=>∃ a,v=VI a/\Q a H'):=aT (mj.eq_1 ..) Tryz.func157 Tryz.ntmps157
instance Jv {p0 H Q}:aj Tryz.prog 159 (nI p0 H Q) [.pointer p0] H (λv H'=>∃ a,v=VI a/\Q a H'):=aT (nI.eq_1 ..) Tryz.func159 Tryz.ntmps159
instance Ql {p0 H Q}:aj Tryz.prog 15 (kc p0 H Q) [.agg ([VI p0.1,VI p0.2.1,VI p0.2.2.1,VI p0.2.2.2.1,VI p0.2.2.2.2.1,VI p0.2.2.2.2.2.1,VI p0.2.2.2.2.2.2.1,Sl.v p0.2.2.2.2.2.2.2]:List Value).toArray] H (λv H'=>∃ a b,v= .tuple #[Sl.v a,VI b]/\Q a b H'):=aT (kc.eq_1 ..) Tryz.func15 Tryz.ntmps15
instance LA {p0 H Q}:aj Tryz.prog 161 (oH p0 H Q) [.pointer p0] H (λv H'=>∃ r0,v=Sl.v r0/\Q r0 H'):=⟨λh=>by
 unfold oH at h
 refine fZ Tryz.func161 rfl Tryz.ntmps161 (Nat.le_of_ble_eq_true rfl)<|?_
 intro D M j d i
 refine R<|od<|cE (cs:=[.pointer p0]) rfl rfl λa1 H2 aE=>gY (h a1 H2 aE) λh=>od<|cT xZ rfl λa4 H5 aF=>gY (h a4 H5 aF) λh=>z<|s<|R<|y h λx7 aG h=>q (a aR rfl aG)<|gL rfl (by decide) (cb h) (cu h) rfl<|?_
 rintro bk H9 ⟨_,rfl,h⟩
 refine z<|b<|?_
 refine nE (g:=()) h rfl (λ_ _ _ h=>h) rfl j d i trivial ?_ ?_<;>clear h
 ·rintro _ a2 aL bl ⟨aJ,a6,rfl,h⟩
  refine⟨rfl,λlp Bx rz hr=>?_⟩
  clear j d i
  intro D M j d i
  refine R<|q (aI rfl)<|z<|r<|od<|cT xZ rfl λY az ak=>gY (h Y az ak) λh=>st h bq rfl rfl λ_ h=>z<|jQ (g:=()) hr d i λM d i =>?_
  have j:Mk (some lp) D M:=trivial
  refine b<|s<|s<|dr gz<|p 0 rfl (mI rfl)<|y h λa7 ao h=>pl 1 rfl (a aR rfl ao)<|y h λaV af h=>p 2 rfl (n af rfl)<|p 3 rfl (f bB rfl)<|y h λa8 ap h=>pl 4 rfl (a aR rfl ap)<|p 5 rfl (PB rfl rfl)<|p 6 rfl (mB rfl)<|?_
  refine xT 524287 [15,12,11,8,4,1] (λL (ac:Bool)=>L 1=VA a1/\L 2=VA a4/\L 3=VI aJ/\L 4=VA Y/\L 31=VB ac) h ?_ ?_<;>clear h
  ·intro ac aM L h hE
   obtain⟨m,o,P,u,k⟩:=hE
   refine Z<|J h (λl h=>?_) λl h=>?_
   ·exact C l k<|X rfl<|Go.gP (g:=()) j d i ⟨0,rfl,h⟩
   ·refine N l k<|K<|s<|?_
    refine nk 1 (λ_=>()) (λL (ad:Addr)=>L 2= .pointer (some a4)/\L 5= .pointer (some ad)) d h ?_ ?_<;>clear h
    ·intro ad aN L h hE
     obtain⟨w,S⟩:=hE
     intro D M j d i
     exact R<|y h λa9 aq h=>q (A eY S aq)<|c2 (cb h) (cu h) rfl λae bm aO h=>q (mT rfl)<|q (e rfl rfl)<|q (e rfl rfl)<|q (aS rfl)<|q (aI rfl)<|z<|r<|y h λba ar h=>q (a aR w ar)<|q (mS rfl)<|od<|nA (ps:=[(0,Sl.v ae)]) (zs:=[.slice none 0 0]) (cs:=[Sl.v ae]) dB xZ rfl rfl (by decide) (by decide) rfl rfl λaH aA al=>gY (h aH aA al) λh=>od<|iu (zs:=[.slice none 0 0]) (dB (t:=192)) jL (by decide) xZ rfl rfl (by decide) rfl rfl Tryz.underlying192 rfl h λa5 aP h=>st h bq w rfl λ_ h=>z<|B<|Go.gP (g:=()) j d i ⟨0,rfl,h⟩
    ·intro a0 E h
     refine dr gz<|y h λbb F h=>pl 0 rfl (a aR m F)<|y h λaW ag h=>p 1 rfl (n ag rfl)<|p 2 rfl (f bB rfl)<|y h λbc G h=>pl 3 rfl (a aR rfl G)<|p 4 rfl (mI P)<|y h λbd I h=>pl 5 rfl (A eY u I)<|?_
     refine dN (R:=[6,10]) (by decide+kernel) ⟨?_,?_,trivial⟩
     ·refine bM (S2:=127) rfl (by decide+kernel) (by decide) rfl ?_
      exact d2 (cb h) (cu h) rfl λbn bo aQ h=>re (rl [6]<|rl [6]<|rl [1,2,3,6]<|rfl)<|p 7 rfl (mT rfl)<|p 8 rfl (e rfl rfl)<|p 9 rfl (e rfl rfl)<|po 10 rfl<|cT xZ rfl λaa aC am=>gY (h aa aC am) λh=>re rfl<|po 11 rfl<|dS h bq rfl rfl λ_ h=>re rfl<|p 12 rfl (aB rfl)<|Z<|E aa _ _ h (by exact⟨o,rfl⟩) _ _ j d i
     ·refine bM (S2:=1087) rfl (by decide+kernel) (by decide) rfl ?_
      refine oY xZ rfl λaD ab aK T U=>?_
      refine re (rr rfl rfl (A eY u I)<|rr rfl rfl (a aR rfl G)<|rr rfl rfl (a aR m F)<|rfl)<|po 6 rfl<|d2 (cb h) (cu h) rfl λbp br aT h=>re (rl [6]<|rl [6]<|rl [1,2,3,6]<|rfl)<|p 7 rfl (mT rfl)<|p 8 rfl (e rfl rfl)<|p 9 rfl (e rfl rfl)<|?_
      refine cJ T λan=>?_
      exact gY (h ab _ ⟨aD,an,U,rfl⟩) λh=>po 11 rfl<|dS h bq rfl rfl λ_ h=>re rfl<|p 12 rfl (aB rfl)<|Z<|E ab _ _ h (by exact⟨o,rfl⟩) _ _ j d i
  ·intro aZ x h
   refine J h (λc h=>?_) λc h=>?_
   ·exact O 7 rfl c<|O 8 rfl c<|O 9 rfl c<|O 10 rfl c<|O 11 rfl c<|O 12 rfl c<|O 13 rfl c<|O 14 rfl c<|O 15 rfl c<|O 16 rfl c<|O 17 rfl c<|p 18 rfl (jB c rfl rfl)<|ud (L2:=[15,12,11,8,4,1]) (by decide)<|x _ _ _ h ⟨rfl,rfl,rfl,rfl,rfl⟩
   ·exact pw 7 rfl c (mI rfl)<|y h λbe au h=>pL 8 rfl c (a aR rfl au)<|y h λaX ah h=>pw 9 rfl c (n ah rfl)<|pw 10 rfl c (f bB rfl)<|y h λbf av h=>pL 11 rfl c (a aR rfl av)<|y h λbg aw h=>pL 12 rfl c (a aR rfl aw)<|y h λaY ai h=>pw 13 rfl c (n ai rfl)<|pw 14 rfl c (f bB rfl)<|y h λbh ax h=>pL 15 rfl c (a aR rfl ax)<|pw 16 rfl c (de rfl rfl)<|pw 17 rfl c (pM rfl rfl)<|p 18 rfl (nB c rfl rfl)<|x _ _ _ h ⟨rfl,rfl,rfl,rfl,rfl⟩
 ·intro a3 aU h
  intro D M j d i
  exact B<|R<|y h λbi ay h=>q (a aR rfl ay)<|st h bq rfl rfl λ_ h=>z<|y h λbj V h=>Go.fP (g:=()) j d i ⟨.inl rfl,_,(mw Tryz.results161 (lv aR rfl V)),⟨_,rfl,h⟩⟩
 ,cP Tryz.func161 rfl rfl⟩
instance Pk {p0 p1 H Q}:aj Tryz.prog 228 (qG p0 p1 H Q) [.pointer p0,VI p1] H (λv H'=>∃ a b,v= .tuple #[Sl.v a,.bool b]/\Q a b H'):=aT (qG.eq_1 ..) Tryz.func228 Tryz.ntmps228
instance Qm {p0 H Q}:aj Tryz.prog 100 (rD p0 H Q) [Sl.v p0] H (λv H'=>∃ a b,v= .tuple #[.agg ([VI a.1,VI a.2.1,VI a.2.2.1,VI a.2.2.2.1,VI a.2.2.2.2.1,VI a.2.2.2.2.2.1,VI a.2.2.2.2.2.2.1,Sl.v a.2.2.2.2.2.2.2]:List Value).toArray,VI b]/\Q a b H'):=aT (rD.eq_1 ..) Tryz.func100 Tryz.ntmps100
end
end Go.Proofs.YtbijlklgbfminaaGreat
