import Derived.Test.YtbijlklgbfminaaGreatA17
set_option linter.unusedVariables false
set_option linter.unusedSimpArgs false
namespace Go.Proofs.YtbijlklgbfminaaGreat
section
open Go Go.Kx Go.Proofs Go.Kx.Au Go.Kx.W
set_option maxRecDepth 20000
set_option maxHeartbeats 2000000
instance Qn {p0 p1 p2 H Q}:aj Tryz.prog 34 (ti p0 p1 p2 H Q) [.pointer p0,.agg ([VI p1.1,VI p1.2.1,VI p1.2.2]:List Value).toArray,VI p2] H (λv H'=>∃ r0 r1,v= .tuple #[VI r0,VI r1]/\Q r0 r1 H'):=⟨λh=>by
 unfold ti at h
 refine F Tryz.func34 rfl Tryz.ntmps34<|R<|od<|cE (cs:=[VI p1.1,VI p1.2.1,VI p1.2.2]) rfl rfl λa1 H2 ca=>gY (h a1 H2 ca) λh=>q (aI rfl)<|q (aI rfl)<|z<|R<|y h λx4 cc h=>q (A eY rfl cc)<|c2 (cb h) (cu h) rfl λy7 y8 H6 h=>q (mT rfl)<|q (e rfl rfl)<|q (e rfl rfl)<|q (aP rfl)<|q (aI rfl)<|z<|s<|R<|q (mP rfl)<|q (je Tryz.underlying31 rfl rfl)<|q (mB rfl)<|?_
 refine cS 3 (λm (cX:Bool)=>m 0=VP p0/\m 2=VI p2/\m 4=VA a1/\m 8=VP y7/\m 29=VB cX) h ?_ ?_<;>clear h
 ·intro cX cF m h M
  obtain⟨ax,T,ay,az,aM⟩:=M
  refine q (mB aM)<|?_
  refine cS 3 (λm (bj:Bool)=>m 0=VP p0/\m 2=VI p2/\m 4=VA a1/\m 8=VP y7/\m 33=VB bj) h ?_ ?_<;>clear h
  ·intro bj cG m h M
   obtain⟨aA,U,aB,aC,aN⟩:=M
   refine q (mB aN)<|?_
   refine cS 3 (λm (bk:Bool)=>m 0=VP p0/\m 2=VI p2/\m 4=VA a1/\m 8=VP y7/\m 37=VB bk) h ?_ ?_<;>clear h
   ·intro bk cI m h M
    obtain⟨V,aD,aE,Y,aO⟩:=M
    refine q (mB aO)<|?_
    refine cS 6 (λm (bl:Bool)=>m 0=VP p0/\m 2=VI p2/\m 4=VA a1/\m 8=VP y7/\m 44=VB bl) h ?_ ?_<;>clear h
    ·intro bl cK m h M
     obtain⟨n,aZ,a0,i,ak⟩:=M
     refine z<|J h (λar h=>?_) λar h=>?_
     ·exact C ar ak<|R<|q (aI rfl)<|q (aI rfl)<|z<|E (ir rfl rfl rfl) ⟨_,_,rfl,h⟩
     ·refine N ar ak<|K<|R<|q (mP n)<|c2 (cb h) (cu h) rfl λdg dh cL h=>q (mT rfl)<|q (e rfl rfl)<|q (e rfl rfl)<|od<|cT xZ rfl λb6 b1 bC=>gY (h b6 b1 bC) λh=>st h bq rfl rfl λ_ h=>q (aI rfl)<|z<|s<|R<|q (mI rfl)<|q (eP rfl rfl)<|z<|J h (λau h=>?_) λau h=>?_
      ·exact C au rfl<|R<|q (mI rfl)<|q (aI rfl)<|q (aI rfl)<|z<|E (ir rfl rfl rfl) ⟨_,_,rfl,h⟩
      ·refine N au rfl<|K<|R<|y h λc5 bz h=>q (m9 tK bz rfl rfl)<|y h λdd bI h=>q (a aR rfl bI)<|y h λc6 bA h=>q (m9 tK bA rfl rfl)<|y h λdf bJ h=>q (a aR rfl bJ)<|c3 (cb h) (cu h) rfl λdi dj dk cM h=>q (mT rfl)<|q (e rfl rfl)<|q (e rfl rfl)<|q (e rfl rfl)<|od<|cT xZ rfl λb7 b2 bD=>gY (h b7 b2 bD) λh=>st h bq rfl rfl λ_ h=>q (aI rfl)<|q (aI rfl)<|z<|R<|q (f bB rfl)<|y h λbm bK h=>q (a aR rfl bK)<|q (de rfl rfl)<|q (aI rfl)<|z<|R<|y h λaY bL h=>q (A eY a0 bL)<|q (mI aZ)<|q (mI rfl)<|q (cH (cs:=[VI aY.1,VI aY.2.1,VI aY.2.2,VI p2,VI (IntKind.wrap .i64 (bm+1))]) iv xZ rfl rfl (by kernel_rfl))<|c2 (cb h) (cu h) rfl λc dl cN h=>q (mT rfl)<|q (e rfl rfl)<|q (e rfl rfl)<|q (aS rfl)<|q (aI rfl)<|z<|s<|R<|q (mI rfl)<|q (eP rfl rfl)<|z<|J h (λav h=>?_) λav h=>?_
       ·exact C av rfl<|R<|q (mI rfl)<|q (aI rfl)<|q (aI rfl)<|z<|E (ir rfl rfl rfl) ⟨_,_,rfl,h⟩
       ·refine N av rfl<|K<|R<|q (mP i)<|q (mP i)<|q (mI rfl)<|c1 (cb h) (cu h) rfl λdm cO h=>c2 (cb h) (cu h) rfl λaG dn cQ h=>q (mT rfl)<|q (e rfl rfl)<|q (e rfl rfl)<|q (aS rfl)<|q (aI rfl)<|z<|s<|R<|q (mI rfl)<|q (eP rfl rfl)<|z<|J h (λaw h=>?_) λaw h=>?_
        ·exact C aw rfl<|R<|q (mI rfl)<|q (aI rfl)<|q (aI rfl)<|z<|E (ir rfl rfl rfl) ⟨_,_,rfl,h⟩
        ·refine N aw rfl<|K<|R<|q (mP i)<|c1 (cb h) (cu h) rfl λbn cR h=>q (mP i)<|c1 (cb h) (cu h) rfl λbo cU h=>od<|nA (ps:=[(0,Sl.v bn),(1,Sl.v bo)]) (zs:=[.slice none 0 0]) (cs:=[Sl.v bn,Sl.v bo]) dB xZ rfl rfl (by decide) (by decide) rfl rfl λcd b3 bE=>gY (h cd b3 bE) λh=>c1 (cb h) (cu h) rfl λdp cV h=>q (aS rfl)<|z<|R<|q (mS rfl)<|q (mP i)<|c1 (cb h) (cu h) rfl λaH cW h=>q (mS rfl)<|q (cH (cs:=[VI aH,Sl.v aG]) iv xZ rfl rfl (by kernel_rfl))<|q (mP i)<|c1 (cb h) (cu h) rfl λaJ cY h=>q (mP i)<|c1 (cb h) (cu h) rfl λdq cZ h=>q (FE rfl rfl)<|t h λbH h=>od<|lW (zs:=[.int .u8 0]) dB jL (by decide) xZ rfl rfl (by decide) rfl rfl bH λap b4 bF=>gY (h ap b4 bF) λh=>q (cH (cs:=[VI aJ,Sl.v ap]) iv xZ rfl rfl (by kernel_rfl))<|od<|nA (ps:=[(0,.agg ([VI aH,Sl.v aG]:List Value).toArray),(1,.agg ([VI aJ,Sl.v ap]:List Value).toArray)]) (zs:=[VI 0,.slice none 0 0]) (cs:=[VI aH,Sl.v aG,VI aJ,Sl.v ap]) dB xZ rfl rfl (by decide) (by decide) rfl (nC (tot:=4) (css:=[[VI aH,Sl.v aG],[VI aJ,Sl.v ap]]) (.cons rfl rfl rfl (.cons rfl rfl rfl (.nil rfl))) rfl) λce b5 bG=>gY (h ce b5 bG) λh=>od<|iu (zs:=[VI 0,.slice none 0 0]) (dB (t:=141)) jL (by decide) xZ rfl rfl (by decide) rfl rfl Tryz.underlying141 rfl h λdc c0 h=>q (aS rfl)<|z<|s<|?_
         refine rW 1 (λm (aF:Sl)=>m 0=VP p0/\m 6=VI (IntKind.wrap .i64 (bm+1))/\m 15=Sl.v aF) h ?_ ?_<;>clear h
         ·intro aF c4 m h M
          obtain⟨a2,a3,aQ⟩:=M
          refine s<|R<|q (mS aQ)<|q (ju Tryz.underlying141 rfl (qo rfl))<|q (mI rfl)<|z<|b<|?_
          refine qK (λm (aX:Int×Int)=>m 0=VP p0/\m 6=VI aX.1/\m 123=Sl.v aF/\m 124=VI (aF.len:Int)/\m 125=VI aX.2) h ⟨a2,a3,rfl,rfl,rfl⟩ ?_
          clear h
          intro m aX cf b0 M h aq
          obtain⟨G,ai,I,L,u⟩:=M
          refine R<|q (jO u L)<|z<|s<|J h (λaa h=>?_) λaa h=>?_
          ·refine C aa rfl<|K<|s<|b<|R<|y h λcy a4 h=>q (kj dB a4 I u)<|y h λcz bg h=>q (A eY rfl bg)<|od<|cT xZ rfl λbx bp a5=>gY (h bx bp a5) λh=>st h bq rfl rfl λ_ h=>z<|R<|q (mP G)<|q (f bB rfl)<|y h λcA bh h=>q (a aR rfl bh)<|q (f bB rfl)<|y h λcB bi h=>q (a aR rfl bi)<|c1 (cb h) (cu h) rfl λcC cg h=>q (aI rfl)<|z<|R<|q (mI rfl)<|q (eP rfl rfl)<|z<|J h (λab h=>?_) λab h=>?_
           ·exact C ab rfl<|R<|q (mI rfl)<|q (aI rfl)<|q (aI rfl)<|z<|E (ir rfl rfl rfl) ⟨_,_,rfl,h⟩
           ·exact N ab rfl<|K<|B<|r<|q (de u rfl)<|q (mI rfl)<|z<|aq _ _ _ h ⟨G,ai,I,L,rfl⟩
          ·exact N aa rfl<|X rfl<|R<|q (mI ai)<|q (mP G)<|c1 (cb h) (cu h) rfl λcD ch h=>q (aI rfl)<|q (aI rfl)<|z<|E (ir rfl rfl rfl) ⟨_,_,rfl,h⟩
         ·intro db P h
          refine dr gz<|p 0 rfl (mS rfl)<|p 1 rfl (mP i)<|p 2 rfl (mI rfl)<|p 3 rfl (FF (by decide) rfl rfl)<|p 4 rfl (uc rfl rfl)<|p 8 rfl (mP i)<|p 9 rfl (mI rfl)<|p 10 rfl (FF (by decide) rfl rfl)<|p 12 rfl (mS rfl)<|t h λac h=>?_
          refine dN (R:=[5,6]) (by decide+kernel) ⟨?_,?_,trivial⟩
          ·refine bM (S2:=5951) rfl (by decide+kernel) (by decide) rfl ?_
           refine d1 (cb h) (cu h) rfl λg ci h=>re rfl<|?_
           refine dN (R:=[6,11]) (by decide+kernel) ⟨?_,?_,trivial⟩
           ·refine bM (S2:=6015) rfl (by decide+kernel) (by decide) rfl ?_
            refine qq (zs:=[.int .u8 0]) dB jL (by decide) xZ rfl rfl (by decide) rfl rfl ac λaK j b8 al an=>?_
            refine re rfl<|?_
            refine dN (R:=[7,11]) (by decide+kernel) ⟨?_,?_,trivial⟩
            ·refine bM (S2:=6143) rfl (by decide+kernel) (by decide) rfl ?_
             refine bP.do (cH (ps:=[(0,VI g),(1,Sl.v j)]) (cs:=[VI g,Sl.v j]) iv xZ rfl rfl rfl) ⟨_,rfl,?_⟩
             refine po 11 rfl<|d1 (cb h) (cu h) rfl λad cj h=>re rfl<|p 13 rfl (cH (cs:=[VI ad,Sl.v c]) iv xZ rfl rfl (by kernel_rfl))<|?_
             refine cJ al λbc=>?_
             refine gY (h j _ ⟨aK,bc,an,rfl⟩) λh=>po 14 rfl<|nA (ps:=[(0,.agg ([VI g,Sl.v j]:List Value).toArray),(1,.agg ([VI ad,Sl.v c]:List Value).toArray)]) (zs:=[VI 0,.slice none 0 0]) (cs:=[VI g,Sl.v j,VI ad,Sl.v c]) dB xZ rfl rfl (by decide) (by decide) rfl (nC (tot:=4) (css:=[[VI g,Sl.v j],[VI ad,Sl.v c]]) (.cons rfl rfl rfl (.cons rfl rfl rfl (.nil rfl))) rfl) λbN br a6=>gY (h bN br a6) λh=>re rfl<|po 15 rfl<|iu (zs:=[VI 0,.slice none 0 0]) (dB (t:=141)) jL (by decide) xZ rfl rfl (by decide) rfl rfl Tryz.underlying141 rfl h λbO ck h=>re rfl<|po 16 rfl<|?_
             refine bP.do (v:=Sl.v bO) (nc rfl) ⟨_,rfl,?_⟩
             exact Z<|P _ _ _ h ⟨n,rfl,rfl⟩
            ·refine bM (S2:=8063) rfl (by decide+kernel) (by decide) rfl ?_
             refine d1 (cb h) (cu h) rfl λae cl h=>re rfl<|p 13 rfl (cH (cs:=[VI ae,Sl.v c]) iv xZ rfl rfl (by kernel_rfl))<|?_
             refine cJ al λbd=>?_
             refine gY (h j _ ⟨aK,bd,an,rfl⟩) λh=>p 7 rfl (cH (cs:=[VI g,Sl.v j]) iv xZ rfl rfl (by kernel_rfl))<|po 14 rfl<|nA (ps:=[(0,.agg ([VI g,Sl.v j]:List Value).toArray),(1,.agg ([VI ae,Sl.v c]:List Value).toArray)]) (zs:=[VI 0,.slice none 0 0]) (cs:=[VI g,Sl.v j,VI ae,Sl.v c]) dB xZ rfl rfl (by decide) (by decide) rfl (nC (tot:=4) (css:=[[VI g,Sl.v j],[VI ae,Sl.v c]]) (.cons rfl rfl rfl (.cons rfl rfl rfl (.nil rfl))) rfl) λbQ bs a7=>gY (h bQ bs a7) λh=>re rfl<|po 15 rfl<|iu (zs:=[VI 0,.slice none 0 0]) (dB (t:=141)) jL (by decide) xZ rfl rfl (by decide) rfl rfl Tryz.underlying141 rfl h λbR cm h=>re rfl<|po 16 rfl<|?_
             refine bP.do (v:=Sl.v bR) (nc rfl) ⟨_,rfl,?_⟩
             exact Z<|P _ _ _ h ⟨n,rfl,rfl⟩
           ·refine bM (S2:=7999) rfl (by decide+kernel) (by decide) rfl ?_
            refine d1 (cb h) (cu h) rfl λaf cn h=>re rfl<|p 13 rfl (cH (cs:=[VI af,Sl.v c]) iv xZ rfl rfl (by kernel_rfl))<|po 6 rfl<|lW (zs:=[.int .u8 0]) dB jL (by decide) xZ rfl rfl (by decide) rfl rfl ac λS bt a8=>gY (h S bt a8) λh=>re rfl<|p 7 rfl (cH (cs:=[VI g,Sl.v S]) iv xZ rfl rfl (by kernel_rfl))<|po 14 rfl<|nA (ps:=[(0,.agg ([VI g,Sl.v S]:List Value).toArray),(1,.agg ([VI af,Sl.v c]:List Value).toArray)]) (zs:=[VI 0,.slice none 0 0]) (cs:=[VI g,Sl.v S,VI af,Sl.v c]) dB xZ rfl rfl (by decide) (by decide) rfl (nC (tot:=4) (css:=[[VI g,Sl.v S],[VI af,Sl.v c]]) (.cons rfl rfl rfl (.cons rfl rfl rfl (.nil rfl))) rfl) λbS bu a9=>gY (h bS bu a9) λh=>re rfl<|po 15 rfl<|iu (zs:=[VI 0,.slice none 0 0]) (dB (t:=141)) jL (by decide) xZ rfl rfl (by decide) rfl rfl Tryz.underlying141 rfl h λbT co h=>re rfl<|po 16 rfl<|?_
            refine bP.do (v:=Sl.v bT) (nc rfl) ⟨_,rfl,?_⟩
            exact Z<|P _ _ _ h ⟨n,rfl,rfl⟩
          ·refine bM (S2:=5983) rfl (by decide+kernel) (by decide) rfl ?_
           refine qq (zs:=[.int .u8 0]) dB jL (by decide) xZ rfl rfl (by decide) rfl rfl ac λaL k b9 am ao=>?_
           refine re rfl<|po 5 rfl<|d1 (cb h) (cu h) rfl λl cp h=>re rfl<|?_
           refine dN (R:=[7,11]) (by decide+kernel) ⟨?_,?_,trivial⟩
           ·refine bM (S2:=6143) rfl (by decide+kernel) (by decide) rfl ?_
            refine bP.do (cH (ps:=[(0,VI l),(1,Sl.v k)]) (cs:=[VI l,Sl.v k]) iv xZ rfl rfl rfl) ⟨_,rfl,?_⟩
            refine po 11 rfl<|d1 (cb h) (cu h) rfl λag cq h=>re rfl<|p 13 rfl (cH (cs:=[VI ag,Sl.v c]) iv xZ rfl rfl (by kernel_rfl))<|?_
            refine cJ am λbe=>?_
            refine gY (h k _ ⟨aL,be,ao,rfl⟩) λh=>po 14 rfl<|nA (ps:=[(0,.agg ([VI l,Sl.v k]:List Value).toArray),(1,.agg ([VI ag,Sl.v c]:List Value).toArray)]) (zs:=[VI 0,.slice none 0 0]) (cs:=[VI l,Sl.v k,VI ag,Sl.v c]) dB xZ rfl rfl (by decide) (by decide) rfl (nC (tot:=4) (css:=[[VI l,Sl.v k],[VI ag,Sl.v c]]) (.cons rfl rfl rfl (.cons rfl rfl rfl (.nil rfl))) rfl) λbU bv ba=>gY (h bU bv ba) λh=>re rfl<|po 15 rfl<|iu (zs:=[VI 0,.slice none 0 0]) (dB (t:=141)) jL (by decide) xZ rfl rfl (by decide) rfl rfl Tryz.underlying141 rfl h λbV cr h=>re rfl<|po 16 rfl<|?_
            refine bP.do (v:=Sl.v bV) (nc rfl) ⟨_,rfl,?_⟩
            exact Z<|P _ _ _ h ⟨n,rfl,rfl⟩
           ·refine bM (S2:=8063) rfl (by decide+kernel) (by decide) rfl ?_
            refine d1 (cb h) (cu h) rfl λah ct h=>re rfl<|p 13 rfl (cH (cs:=[VI ah,Sl.v c]) iv xZ rfl rfl (by kernel_rfl))<|?_
            refine cJ am λbf=>?_
            refine gY (h k _ ⟨aL,bf,ao,rfl⟩) λh=>p 7 rfl (cH (cs:=[VI l,Sl.v k]) iv xZ rfl rfl (by kernel_rfl))<|po 14 rfl<|nA (ps:=[(0,.agg ([VI l,Sl.v k]:List Value).toArray),(1,.agg ([VI ah,Sl.v c]:List Value).toArray)]) (zs:=[VI 0,.slice none 0 0]) (cs:=[VI l,Sl.v k,VI ah,Sl.v c]) dB xZ rfl rfl (by decide) (by decide) rfl (nC (tot:=4) (css:=[[VI l,Sl.v k],[VI ah,Sl.v c]]) (.cons rfl rfl rfl (.cons rfl rfl rfl (.nil rfl))) rfl) λbW bw bb=>gY (h bW bw bb) λh=>re rfl<|po 15 rfl<|iu (zs:=[VI 0,.slice none 0 0]) (dB (t:=141)) jL (by decide) xZ rfl rfl (by decide) rfl rfl Tryz.underlying141 rfl h λbX cv h=>re rfl<|po 16 rfl<|?_
            refine bP.do (v:=Sl.v bX) (nc rfl) ⟨_,rfl,?_⟩
            exact Z<|P _ _ _ h ⟨n,rfl,rfl⟩
    ·intro da aW h
     refine J h (λd h=>?_) λd h=>?_
     ·exact o d<|o d<|o d<|o d<|o d<|q (jB d rfl rfl)<|aW true _ _ h (by exact⟨V,aD,aE,Y,rfl⟩)
     ·exact w d (mP V)<|k1 d (cb h) (cu h) rfl λbY cw h=>w d (mP Y)<|k1 d (cb h) (cu h) rfl λbZ cx h=>w d (jO rfl rfl)<|q (nB d rfl rfl)<|aW (decide (bY<bZ)) _ _ h (by exact⟨V,aD,aE,Y,rfl⟩)
   ·intro c9 aV h
    refine J h (λD h=>?_) λD h=>?_
    ·exact o D<|o D<|q (jB D rfl rfl)<|aV true _ _ h (by exact⟨aA,U,aB,aC,rfl⟩)
    ·exact w D (mI U)<|w D (pM rfl rfl)<|q (nB D rfl rfl)<|aV (decide (2147483647<p2)) _ _ h (by exact⟨aA,U,aB,aC,rfl⟩)
  ·intro c8 aU h
   refine J h (λx h=>?_) λx h=>?_
   ·exact o x<|o x<|q (jB x rfl rfl)<|aU true _ _ h (by exact⟨ax,T,ay,az,rfl⟩)
   ·exact w x (mI T)<|w x (jO rfl rfl)<|q (nB x rfl rfl)<|aU (decide (p2< 0)) _ _ h (by exact⟨ax,T,ay,az,rfl⟩)
 ·intro c7 aT h
  refine J h (λO h=>?_) λO h=>?_
  ·exact o O<|o O<|q (jB O rfl rfl)<|aT true _ _ h (by exact⟨rfl,rfl,rfl,rfl,rfl⟩)
  ·exact w O (mI rfl)<|w O (eP rfl rfl)<|q (nB O rfl rfl)<|aT (y8 != 0) _ _ h (by exact⟨rfl,rfl,rfl,rfl,rfl⟩)
 ,cP Tryz.func34 rfl rfl⟩
instance Qo {p0 p1 p2 H Q}:aj Tryz.prog 9 (rB p0 p1 p2 H Q) [.pointer p0,.agg ([VI p1.1,VI p1.2.1,VI p1.2.2]:List Value).toArray,VI p2] H (λv H'=>∃ a,v=VI a/\Q a H'):=aT (rB.eq_1 ..) Tryz.func9 Tryz.ntmps9
instance Jx {p0 H Q}:aj Tryz.prog 75 (nF p0 H Q) [.pointer p0] H (λv H'=>∃ a,v=VI a/\Q a H'):=aT (nF.eq_1 ..) Tryz.func75 Tryz.ntmps75
instance Pn {p0 p1 p2 H Q}:aj Tryz.prog 133 (si p0 p1 p2 H Q) [.pointer p0,Sl.v p1,Sl.v p2] H (λv H'=>∃ a b c,v= .tuple #[.agg ([VI a.1,VI a.2.1,VI a.2.2.1,VI a.2.2.2.1,VI a.2.2.2.2.1,VI a.2.2.2.2.2.1,VI a.2.2.2.2.2.2.1,VI a.2.2.2.2.2.2.2.1,VI a.2.2.2.2.2.2.2.2.1,VI a.2.2.2.2.2.2.2.2.2.1,VI a.2.2.2.2.2.2.2.2.2.2.1,Sl.v a.2.2.2.2.2.2.2.2.2.2.2.1,Sl.v a.2.2.2.2.2.2.2.2.2.2.2.2.1,Sl.v a.2.2.2.2.2.2.2.2.2.2.2.2.2]:List Value).toArray,VI b,VI c]/\Q a b c H'):=aT (si.eq_1 ..) Tryz.func133 Tryz.ntmps133
end
end Go.Proofs.YtbijlklgbfminaaGreat
