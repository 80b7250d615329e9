import Derived.Test.YtbijlklgbfminaaGreatA04
set_option linter.unusedVariables false
set_option linter.unusedSimpArgs false
namespace Go.Proofs.YtbijlklgbfminaaGreat
section
open Go Go.Kx Go.Proofs Go.Kx.Au Go.Kx.W
set_option maxRecDepth 20000
set_option maxHeartbeats 2000000
instance RM {p0 p1 p2 H Q}:aj Tryz.prog 115 (eK p0 p1 p2 H Q) [VI p0,VI p1,VI p2] H (λv H'=>∃ a,v= .bool a/\Q a H'):=aT (eK.eq_1 ..) Tryz.func115 Tryz.ntmps115
instance Tp {p0 H Q}:aj Tryz.prog 54 (pU p0 H Q) [.agg ([VI p0.1,VI p0.2.1,VI p0.2.2]:List Value).toArray] H (λv H'=>∃ a b,v= .tuple #[.pointer a,VI b]/\Q a b H'):=aT (pU.eq_1 ..) Tryz.func54 Tryz.ntmps54
instance SL {p0 p1 H Q}:aj Tryz.prog 55 (vo p0 p1 H Q) [VI p0,VI p1] H (λv H'=>∃ a,v= .pointer a/\Q a H'):=aT (vo.eq_1 ..) Tryz.func55 Tryz.ntmps55
instance Ub {p0 p1 H Q}:aj Tryz.prog 128 (yW p0 p1 H Q) [VI p0,VI p1] H (λv H'=>∃ a,v=VI a/\Q a H'):=aT (yW.eq_1 ..) Tryz.func128 Tryz.ntmps128
instance IU {p0 H Q}:aj Tryz.prog 71 (dq p0 H Q) [.pointer p0] H (λv H'=>∃ a,v=VI a/\Q a H'):=aT (dq.eq_1 ..) Tryz.func71 Tryz.ntmps71
instance Lg {p0 H Q}:aj Tryz.prog 123 (cU p0 H Q) [.pointer p0] H (λv H'=>∃ a,v= .agg ([VI a.1,VI a.2.1,VI a.2.2]:List Value).toArray/\Q a H'):=aT (cU.eq_1 ..) Tryz.func123 Tryz.ntmps123
instance NM {p0 H Q}:aj Tryz.prog 122 (dg p0 H Q) [.pointer p0] H (λv H'=>∃ a,v=VI a/\Q a H'):=aT (dg.eq_1 ..) Tryz.func122 Tryz.ntmps122
instance N3 {p0 H Q}:aj Tryz.prog 116 (kH p0 H Q) [.pointer p0] H (λv H'=>∃ a,v=VI a/\Q a H'):=aT (kH.eq_1 ..) Tryz.func116 Tryz.ntmps116
instance Jg {p0 H Q}:aj Tryz.prog 62 (iw p0 H Q) [.pointer p0] H (λv H'=>∃ a,v=VI a/\Q a H'):=aT (iw.eq_1 ..) Tryz.func62 Tryz.ntmps62
instance TL {p0 H Q}:aj Tryz.prog 119 (xU p0 H Q) [.agg ([VI p0.1,VI p0.2.1,VI p0.2.2.1,VI p0.2.2.2.1,VI p0.2.2.2.2]:List Value).toArray] H (λv H'=>∃ a,v= .bool a/\Q a H'):=aT (xU.eq_1 ..) Tryz.func119 Tryz.ntmps119
instance Uc {p0 p1 H Q}:aj Tryz.prog 175 (BF p0 p1 H Q) [.int .u32 p0,Sl.v p1] H (λv H'=>∃ a,v= .int .u32 a/\Q a H'):=aT (BF.eq_1 ..) Tryz.func175 Tryz.ntmps175
instance Ud {p0 H Q}:aj Tryz.prog 99 (wO p0 H Q) [Sl.v p0] H (λv H'=>∃ a,v=VI a/\Q a H'):=aT (wO.eq_1 ..) Tryz.func99 Tryz.ntmps99
instance Tq {p0 H Q}:aj Tryz.prog 44 (mF p0 H Q) [Sl.v p0] H (λv H'=>∃ a,v=Sl.v a/\Q a H'):=aT (mF.eq_1 ..) Tryz.func44 Tryz.ntmps44
instance RN {p0 p1 H Q}:aj Tryz.prog 67 (uf p0 p1 H Q) [.pointer p0,VI p1] H (λv H'=>∃ a,v= .agg ([VI a.1,VI a.2.1,VI a.2.2.1,VI a.2.2.2.1,VI a.2.2.2.2.1,VI a.2.2.2.2.2.1,VI a.2.2.2.2.2.2.1,VI a.2.2.2.2.2.2.2.1,VI a.2.2.2.2.2.2.2.2.1,VI a.2.2.2.2.2.2.2.2.2.1,VI a.2.2.2.2.2.2.2.2.2.2.1,Sl.v a.2.2.2.2.2.2.2.2.2.2.2.1,Sl.v a.2.2.2.2.2.2.2.2.2.2.2.2.1,Sl.v a.2.2.2.2.2.2.2.2.2.2.2.2.2]:List Value).toArray/\Q a H'):=aT (uf.eq_1 ..) Tryz.func67 Tryz.ntmps67
instance PO {p0 p1 H Q}:aj Tryz.prog 213 (lC p0 p1 H Q) [.pointer p0,VI p1] H (λv H'=>∃ a,v= .bool a/\Q a H'):=aT (lC.eq_1 ..) Tryz.func213 Tryz.ntmps213
instance PQ {p0 p1 H Q}:aj Tryz.prog 195 (qC p0 p1 H Q) [.pointer p0,.agg ([VI p1.1,VI p1.2.1,VI p1.2.2.1,VI p1.2.2.2.1,VI p1.2.2.2.2]:List Value).toArray] H (λv H'=>∃ a,v= .bool a/\Q a H'):=aT (qC.eq_1 ..) Tryz.func195 Tryz.ntmps195
instance Du {p0 p1 H Q}:aj Tryz.prog 203 (gA p0 p1 H Q) [Sl.v p0,p1] H (λv H'=>∃ n,v=VI n/\Q n H'):=⟨λh=>by
 unfold gA at h
 refine F Tryz.func203 rfl Tryz.ntmps203<|R<|q (aI rfl)<|z<|s<|R<|q (mS rfl)<|q (ju Tryz.underlying23 rfl (qo rfl))<|q (mI rfl)<|z<|b<|?_
 refine qK (λo (s1:Int)=>o 0=Sl.v p0/\o 1=p1/\o 7=VI (p0.len:Int)/\o 8=VI s1) h ⟨rfl,rfl,rfl,rfl⟩ ?_
 clear h
 intro o s1 x k p h e
 obtain⟨f,g,i,c⟩:=p
 refine R<|q (jO c i)<|z<|s<|J h (λj h=>?_) λj h=>?_
 ·refine C j rfl<|K<|s<|b<|R<|q (mI c)<|q (aI rfl)<|z<|R<|q (lI g)<|q (mS f)<|q (mI rfl)<|y h λA l h=>q (kj dB l rfl rfl)<|y h λD m h=>q (a aR rfl m)<|od<|zC rfl rfl h λu t h=>?_
  obtain⟨w,rfl,h⟩:=h
  refine z<|J h (λd h=>?_) λd h=>?_
  ·exact C d rfl<|R<|q (mI rfl)<|q (aI rfl)<|z<|E1 rfl rfl h
  ·exact N d rfl<|K<|B<|r<|q (de c rfl)<|q (mI rfl)<|z<|e _ _ _ h ⟨f,g,i,rfl⟩
 ·exact N j rfl<|X rfl<|R<|q (aI rfl)<|z<|E1 rfl rfl h
 ,cP Tryz.func203 rfl rfl⟩
instance Cc {p0 p1 H Q}:aj Tryz.prog 138 (cg p0 p1 H Q) [Sl.v p0,p1] H (λv H'=>∃ a,v= .bool a/\Q a H'):=aT (cg.eq_1 ..) Tryz.func138 Tryz.ntmps138
instance Qa {p0 p1 H Q}:aj Tryz.prog 196 (rA p0 p1 H Q) [Sl.v p0,VI p1] H (λv H'=>∃ a,v= .bool a/\Q a H'):=aT (rA.eq_1 ..) Tryz.func196 Tryz.ntmps196
instance N4 {p0 p1 p2 p3 H Q}:aj Tryz.prog 127 (kI p0 p1 p2 p3 H Q) [.pointer p0,.bool p1,VI p2,VI p3] H (λv H'=>∃ a,v=VI a/\Q a H'):=aT (kI.eq_1 ..) Tryz.func127 Tryz.ntmps127
instance z6 {p0 p1 H Q}:aj Tryz.prog 124 (dh p0 p1 H Q) [Sl.v p0,VI p1] H (λv H'=>∃ a,v=Sl.v a/\Q a H'):=aT (dh.eq_1 ..) Tryz.func124 Tryz.ntmps124
instance zy {p0 H Q}:aj Tryz.prog 68 (fC p0 H Q) [Sl.v p0] H (λv H'=>∃ a,v=Sl.v a/\Q a H'):=aT (fC.eq_1 ..) Tryz.func68 Tryz.ntmps68
instance Lh {p0 p1 H Q}:aj Tryz.prog 70 (ig p0 p1 H Q) [.pointer p0,VI p1] H (λv H'=>∃ a,v=VI a/\Q a H'):=aT (ig.eq_1 ..) Tryz.func70 Tryz.ntmps70
instance NN {p0 p1 H Q}:aj Tryz.prog 72 (kl p0 p1 H Q) [.pointer p0,VI p1] H (λv H'=>∃ a,v=VI a/\Q a H'):=aT (kl.eq_1 ..) Tryz.func72 Tryz.ntmps72
instance TM {p0 p1 H Q}:aj Tryz.prog 134 (vI p0 p1 H Q) [.pointer p0,Sl.v p1] H (λv H'=>∃ r0,v= .pointer r0/\Q r0 H'):=⟨λh=>by
 unfold vI at h
 refine F Tryz.func134 rfl Tryz.ntmps134<|R<|q (aP rfl)<|z<|R<|q (mP rfl)<|c1 (cb h) (cu h) rfl λY H1 h=>q (V (VI Y.2.1) (uO IS aR rfl rfl))<|q (aI rfl)<|z<|s<|R<|q (mP rfl)<|q (je Tryz.underlying82 rfl rfl)<|q (mB rfl)<|?_
 refine cS 10 (λc (s4:Bool)=>c 0=VP p0/\c 1=Sl.v p1/\c 5=VI Y.2.1/\c 24=VB s4) h ?_ ?_<;>clear h
 ·intro s4 H6 c h l
  obtain⟨a2,au,a3,al⟩:=l
  refine z<|J h (λax h=>?_) λax h=>?_
  ·exact C ax al<|R<|q (aP rfl)<|z<|E1 rfl rfl h
  ·refine N ax al<|K<|s<|R<|q (mS au)<|q (ju Tryz.underlying137 rfl (qo rfl))<|q (mI rfl)<|z<|b<|?_
   refine qK (λc (s9:Int)=>c 0=VP p0/\c 1=Sl.v p1/\c 5=VI Y.2.1/\c 25=Sl.v p1/\c 26=VI (p1.len:Int)/\c 27=VI s9) h ⟨a2,au,a3,rfl,rfl,rfl⟩ ?_
   clear h
   intro c s9 bz bj l h aa
   obtain⟨G,m,x,D,E,k⟩:=l
   refine R<|q (jO k E)<|z<|s<|J h (λab h=>?_) λab h=>?_
   ·refine C ab rfl<|K<|s<|b<|R<|y h λbH a4 h=>q (kj dB a4 D k)<|y h λbP bd h=>q (A eY rfl bd)<|od<|cT xZ rfl λam bk a6=>gY (h am bk a6) λh=>st h bq rfl rfl λ_ h=>z<|R<|q (f bB rfl)<|y h λbQ be h=>q (a aR rfl be)<|q (jO rfl rfl)<|q (mB rfl)<|?_
    refine cS 4 (λc (aY:Bool)=>c 0=VP p0/\c 1=Sl.v p1/\c 5=VI Y.2.1/\c 7=VA am/\c 25=Sl.v p1/\c 26=VI (p1.len:Int)/\c 27=VI s9/\c 38=VB aY) h ?_ ?_<;>clear h
    ·intro aY bA c h l
     obtain⟨ad,ae,af,I,L,M,O,an⟩:=l
     refine q (mB an)<|?_
     refine cS 4 (λc (aZ:Bool)=>c 0=VP p0/\c 1=Sl.v p1/\c 5=VI Y.2.1/\c 7=VA am/\c 25=Sl.v p1/\c 26=VI (p1.len:Int)/\c 27=VI s9/\c 43=VB aZ) h ?_ ?_<;>clear h
     ·intro aZ bC c h l
      obtain⟨ag,ah,ai,aL,P,S,T,ao⟩:=l
      refine q (mB ao)<|?_
      refine cS 4 (λc (a0:Bool)=>c 0=VP p0/\c 1=Sl.v p1/\c 5=VI Y.2.1/\c 25=Sl.v p1/\c 26=VI (p1.len:Int)/\c 27=VI s9/\c 48=VB a0) h ?_ ?_<;>clear h
      ·intro a0 bD c h l
       obtain⟨aM,aN,aO,ap,aq,ar,U⟩:=l
       refine z<|J h (λac h=>?_) λac h=>?_
       ·exact C ac U<|R<|q (aP rfl)<|z<|E1 rfl rfl h
       ·exact N ac U<|K<|B<|r<|q (de ar rfl)<|q (mI rfl)<|z<|aa _ _ _ h ⟨aM,aN,aO,ap,aq,rfl⟩
      ·intro bL aA h
       refine J h (λj h=>?_) λj h=>?_
       ·exact o j<|o j<|o j<|q (jB j rfl rfl)<|aA true _ _ h (by exact⟨ag,ah,ai,P,S,T,rfl⟩)
       ·exact w j (f bB aL)<|y h λbu bf h=>w j (a aR rfl bf)<|w j (pM rfl rfl)<|q (nB j rfl rfl)<|aA (decide (2147483647<bu)) _ _ h (by exact⟨ag,ah,ai,P,S,T,rfl⟩)
     ·intro bK az h
      refine J h (λi h=>?_) λi h=>?_
      ·exact o i<|o i<|o i<|q (jB i rfl rfl)<|az true _ _ h (by exact⟨ad,ae,af,I,L,M,O,rfl⟩)
      ·exact w i (f bB I)<|y h λbv bg h=>w i (a aR rfl bg)<|w i (jO rfl rfl)<|q (nB i rfl rfl)<|az (decide (bv< 0)) _ _ h (by exact⟨ad,ae,af,I,L,M,O,rfl⟩)
    ·intro bJ ay h
     refine J h (λg h=>?_) λg h=>?_
     ·exact o g<|o g<|o g<|q (jB g rfl rfl)<|ay true _ _ h (by exact⟨G,m,x,rfl,D,E,k,rfl⟩)
     ·exact w g (f bB rfl)<|y h λbw bh h=>w g (a aR rfl bh)<|w g (pM rfl rfl)<|q (nB g rfl rfl)<|ay (decide (2<bw)) _ _ h (by exact⟨G,m,x,rfl,D,E,k,rfl⟩)
   ·refine N ab rfl<|X rfl<|s<|?_
    refine rW 1 (λc (a1:Option Addr)=>c 1=Sl.v p1/\c 8=VP a1) h ?_ ?_<;>clear h
    ·intro a1 bE c h l
     obtain⟨aQ,ak⟩:=l
     exact R<|q (mP ak)<|y h λbI a5 h=>q (n a5 rfl)<|q (f bB rfl)<|y h λbR bi h=>q (a aR rfl bi)<|q (mS aQ)<|od<|IG (dB (t:=137)) rfl rfl h λbS bF h=>z<|R<|q (mP ak)<|q (aP rfl)<|z<|E1 rfl rfl h
    ·intro bN aB h
     refine dr gz<|p 0 rfl (mP G)<|p 1 rfl (mI x)<|p 3 rfl (mI x)<|t h λaD h=>t h λaE h=>?_
     refine dN (R:=[2,4]) (by decide+kernel) ⟨?_,?_,trivial⟩
     ·refine bM (S2:=15) rfl (by decide+kernel) (by decide) rfl ?_
      exact lW (zs:=[VI 0,VI 0]) dB jL (by decide) xZ rfl rfl (by decide) rfl rfl aD λaF bl a7=>gY (h aF bl a7) λh=>re rfl<|po 4 rfl<|lW (zs:=[VI 0]) dB jL (by decide) xZ rfl rfl (by decide) rfl rfl aE λaG bm a8=>gY (h aG bm a8) λh=>re rfl<|p 5 rfl (cH (cs:=[.pointer p0,Sl.v aF,Sl.v aG]) iv xZ rfl rfl (by kernel_rfl))<|po 6 rfl<|cE (cs:=[.pointer p0,Sl.v aF,Sl.v aG]) rfl rfl λbr bn a9=>gY (h br bn a9) λh=>re rfl<|p 7 rfl (aP rfl)<|Z<|aB _ _ _ h ⟨m,rfl⟩
     ·refine bM (S2:=27) rfl (by decide+kernel) (by decide) rfl ?_
      refine qq (zs:=[VI 0]) dB jL (by decide) xZ rfl rfl (by decide) rfl rfl aE λbt aH bx aV aW=>?_
      refine re rfl<|po 2 rfl<|lW (zs:=[VI 0,VI 0]) dB jL (by decide) xZ rfl rfl (by decide) rfl rfl aD λaJ bo ba=>gY (h aJ bo ba) λh=>re rfl<|?_
      refine cJ aV λbc=>?_
      exact gY (h aH _ ⟨bt,bc,aW,rfl⟩) λh=>p 5 rfl (cH (cs:=[.pointer p0,Sl.v aJ,Sl.v aH]) iv xZ rfl rfl (by kernel_rfl))<|po 6 rfl<|cE (cs:=[.pointer p0,Sl.v aJ,Sl.v aH]) rfl rfl λbs bp bb=>gY (h bs bp bb) λh=>re rfl<|p 7 rfl (aP rfl)<|Z<|aB _ _ _ h ⟨m,rfl⟩
 ·intro j5 aX h
  refine J h (λe h=>?_) λe h=>?_
  ·exact o e<|o e<|o e<|o e<|u<|u<|u<|u<|o e<|q (jB e rfl rfl)<|aX true _ _ h (by exact⟨rfl,rfl,rfl,rfl⟩)
  ·refine w e (mS rfl)<|w e (ju Tryz.underlying137 rfl (qo rfl))<|w e (eP rfl rfl)<|w e (mB rfl)<|?_
   refine cS 5 (λc (aK:Bool)=>c 0=VP p0/\c 1=Sl.v p1/\c 5=VI Y.2.1/\c 14=VB (Option.isNone p0)/\c 23=VB aK) h ?_ ?_<;>clear h
   ·intro aK bG c h l
    obtain⟨aS,aT,aU,av,aw⟩:=l
    exact q (nB e av aw)<|aX aK _ _ h (by exact⟨aS,aT,aU,rfl⟩)
   ·intro bO aC h
    refine J h (λd h=>?_) λd h=>?_
    ·exact w d (mS rfl)<|w d (ju Tryz.underlying137 rfl (qo rfl))<|w d (mI rfl)<|w d (eP rfl rfl)<|w e (jB d rfl rfl)<|aC ((p1.len:Int) != Y.2.1) _ _ h (by exact⟨rfl,rfl,rfl,rfl,rfl⟩)
    ·exact o d<|o d<|o d<|o d<|w e (nB d rfl rfl)<|aC false _ _ h (by exact⟨rfl,rfl,rfl,rfl,rfl⟩)
 ,cP Tryz.func134 rfl rfl⟩
instance TN {p0 p1 p2 H Q}:aj Tryz.prog 142 (xW p0 p1 p2 H Q) [.pointer p0,.pointer p1,.agg ([VI p2.1,VI p2.2.1,VI p2.2.2.1,VI p2.2.2.2.1,VI p2.2.2.2.2]:List Value).toArray] H (λv H'=>∃ a,v= .pointer a/\Q a H'):=aT (xW.eq_1 ..) Tryz.func142 Tryz.ntmps142
instance RO {p0 p1 p2 H Q}:aj Tryz.prog 326 (ns p0 p1 p2 H Q) [VI p0,VI p1,VI p2] H (λv H'=>∃ a,v= .bool a/\Q a H'):=aT (ns.eq_1 ..) Tryz.func326 Tryz.ntmps326
instance Tr {p0 H Q}:aj Tryz.prog 317 (zJ p0 H Q) [.agg ([VI p0.1,VI p0.2.1,VI p0.2.2.1,VI p0.2.2.2]:List Value).toArray] H (λv H'=>∃ a,v= .bool a/\Q a H'):=aT (zJ.eq_1 ..) Tryz.func317 Tryz.ntmps317
instance z5 {p0 p1 H Q}:aj Tryz.prog 223 (fJ p0 p1 H Q) [Sl.v p0,p1] H (λv H'=>∃ m,v=VI m/\Q m H'):=⟨λh=>by
 unfold fJ at h
 refine F Tryz.func223 rfl Tryz.ntmps223<|R<|q (aI rfl)<|z<|s<|R<|q (mS rfl)<|q (ju Tryz.underlying226 rfl (qo rfl))<|q (mI rfl)<|z<|b<|?_
 refine qK (λn (s1:Int)=>n 0=Sl.v p0/\n 1=p1/\n 7=VI (p0.len:Int)/\n 8=VI s1) h ⟨rfl,rfl,rfl,rfl⟩ ?_
 clear h
 intro n s1 w j o h d
 obtain⟨e,f,g,a⟩:=o
 refine R<|q (jO a g)<|z<|s<|J h (λi h=>?_) λi h=>?_
 ·refine C i rfl<|K<|s<|b<|R<|q (mI a)<|q (aI rfl)<|z<|R<|q (lI f)<|q (mS e)<|q (mI rfl)<|y h λx k h=>q (kj dB k rfl rfl)<|y h λD l h=>q (A eY rfl l)<|od<|zC rfl rfl h λt p h=>?_
  obtain⟨u,rfl,h⟩:=h
  refine z<|J h (λc h=>?_) λc h=>?_
  ·exact C c rfl<|R<|q (mI rfl)<|q (aI rfl)<|z<|E1 rfl rfl h
  ·exact N c rfl<|K<|B<|r<|q (de a rfl)<|q (mI rfl)<|z<|d _ _ _ h ⟨e,f,g,rfl⟩
 ·exact N i rfl<|X rfl<|R<|q (aI rfl)<|z<|E1 rfl rfl h
 ,cP Tryz.func223 rfl rfl⟩
instance RP {p0 H Q}:aj Tryz.prog 149 (nu p0 H Q) [.agg ([VI p0.1,VI p0.2.1,VI p0.2.2.1,Sl.v p0.2.2.2.1,Sl.v p0.2.2.2.2]:List Value).toArray] H (λv H'=>∃ a b,v= .tuple #[VI a,.bool b]/\Q a b H'):=aT (nu.eq_1 ..) Tryz.func149 Tryz.ntmps149
instance N5 {p0 p1 p2 H Q}:aj Tryz.prog 209 (ri p0 p1 p2 H Q) [.pointer p0,.agg ([VI p1.1,VI p1.2.1,VI p1.2.2.1,Sl.v p1.2.2.2.1,Sl.v p1.2.2.2.2]:List Value).toArray,.agg ([VI p2.1,VI p2.2.1,VI p2.2.2.1,VI p2.2.2.2.1,VI p2.2.2.2.2]:List Value).toArray] H (λv H'=>∃ a b,v= .tuple #[.agg ([VI a.1,VI a.2.1,VI a.2.2.1,VI a.2.2.2.1,VI a.2.2.2.2]:List Value).toArray,.bool b]/\Q a b H'):=aT (ri.eq_1 ..) Tryz.func209 Tryz.ntmps209
instance PS {p0 H Q}:aj Tryz.prog 211 (sv p0 H Q) [.pointer p0] H (λv H'=>∃ a,v=VI a/\Q a H'):=aT (sv.eq_1 ..) Tryz.func211 Tryz.ntmps211
instance NO {p0 p1 H Q}:aj Tryz.prog 222 (gQ p0 p1 H Q) [.pointer p0,VI p1] H (λv H'=>∃ a,v= .bool a/\Q a H'):=aT (gQ.eq_1 ..) Tryz.func222 Tryz.ntmps222
instance Lj {p0 p1 H Q}:aj Tryz.prog 221 (kL p0 p1 H Q) [.pointer p0,VI p1] H (λv H'=>∃ a,v= .bool a/\Q a H'):=aT (kL.eq_1 ..) Tryz.func221 Tryz.ntmps221
instance Kp {p0 p1 p2 H Q}:aj Tryz.prog 148 (jh p0 p1 p2 H Q) [.pointer p0,VI p1,VI p2] H (λv H'=>v= .tuple #[]/\Q H'):=aT (jh.eq_1 ..) Tryz.func148 Tryz.ntmps148
instance Lk {p0 p1 H Q}:aj Tryz.prog 150 (kM p0 p1 H Q) [.pointer p0,VI p1] H (λv H'=>v= .tuple #[]/\Q H'):=aT (kM.eq_1 ..) Tryz.func150 Tryz.ntmps150
instance Kq {p0 p1 H Q}:aj Tryz.prog 155 (oE p0 p1 H Q) [.pointer p0,VI p1] H (λv H'=>∃ a,v=VI a/\Q a H'):=aT (oE.eq_1 ..) Tryz.func155 Tryz.ntmps155
instance Ll {p0 H Q}:aj Tryz.prog 108 (kN p0 H Q) [.pointer p0] H (λv H'=>∃ a,v=VI a/\Q a H'):=aT (kN.eq_1 ..) Tryz.func108 Tryz.ntmps108
instance Ts {H Q}:aj Tryz.prog 57 (wo H Q) [] H (λv H'=>∃ a,v= .pointer a/\Q a H'):=aT (wo.eq_1 ..) Tryz.func57 Tryz.ntmps57
instance HU {p0 H Q}:aj Tryz.prog 19 (jS p0 H Q) [.pointer p0] H (λv H'=>∃ a,v= .pointer a/\Q a H'):=aT (jS.eq_1 ..) Tryz.func19 Tryz.ntmps19
instance NP {p0 H Q}:aj Tryz.prog 46 (qg p0 H Q) [.pointer p0] H (λv H'=>∃ a,v= .pointer a/\Q a H'):=aT (qg.eq_1 ..) Tryz.func46 Tryz.ntmps46
instance HJ {p0 H Q}:aj Tryz.prog 58 (oq p0 H Q) [.pointer p0] H (λv H'=>∃ a,v= .pointer a/\Q a H'):=aT (oq.eq_1 ..) Tryz.func58 Tryz.ntmps58
instance Kr {p0 H Q}:aj Tryz.prog 29 (fX p0 H Q) [.pointer p0] H (λv H'=>∃ a,v= .pointer a/\Q a H'):=aT (fX.eq_1 ..) Tryz.func29 Tryz.ntmps29
end
end Go.Proofs.YtbijlklgbfminaaGreat
