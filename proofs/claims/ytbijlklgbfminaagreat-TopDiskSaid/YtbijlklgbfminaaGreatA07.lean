import Derived.Test.YtbijlklgbfminaaGreatA06
set_option linter.unusedVariables false
set_option linter.unusedSimpArgs false
namespace Go.Proofs.YtbijlklgbfminaaGreat
section
open Go Go.Kx Go.Proofs Go.Kx.Au Go.Kx.W
set_option maxRecDepth 20000
set_option maxHeartbeats 2000000
instance NQ {p0 p1 H Q}:aj Tryz.prog 37 (qa p0 p1 H Q) [VI p0,VI p1] H (λv H'=>∃ a,v=VI a/\Q a H'):=aT (qa.eq_1 ..) Tryz.func37 Tryz.ntmps37
instance Jj {p0 p1 H Q}:aj Tryz.prog 11 (fp p0 p1 H Q) [VI p0,VI p1] H (λv H'=>∃ a,v=VI a/\Q a H'):=aT (fp.eq_1 ..) Tryz.func11 Tryz.ntmps11
instance Lq {p0 H Q}:aj Tryz.prog 5 (mE p0 H Q) [VI p0] H (λv H'=>∃ a,v= .agg ([VI a.1,VI a.2.1,VI a.2.2]:List Value).toArray/\Q a H'):=aT (mE.eq_1 ..) Tryz.func5 Tryz.ntmps5
instance TP {p0 H Q}:aj Tryz.prog 7 (tL p0 H Q) [VI p0] H (λv H'=>∃ r0 r1,v= .tuple #[.pointer r0,VI r1]/\Q r0 r1 H'):=⟨λh=>by
 unfold tL at h
 refine F Tryz.func7 rfl Tryz.ntmps7<|R<|q (aP rfl)<|q (aI rfl)<|z<|s<|R<|q (mI rfl)<|q (jO rfl rfl)<|q (mB rfl)<|?_
 refine cS 3 (λρ (s2:Bool)=>ρ 0=VI p0/\ρ 9=VB s2) h ?_ ?_<;>clear h
 ·intro s2 H4 ρ h hE
  obtain⟨j,r⟩:=hE
  refine z<|J h (λu h=>?_) λu h=>?_
  ·exact C u r<|R<|q (aP rfl)<|q (aI rfl)<|z<|E (ir rfl rfl rfl) ⟨_,_,rfl,h⟩
  ·refine N u r<|K<|s<|dr gz<|p 0 rfl (mI j)<|p 2 rfl (mI j)<|p 4 rfl (mI j)<|t h λe h=>t h λf h=>t h λg h=>?_
   refine dN (R:=[1,3,5]) (by decide+kernel) ⟨?_,?_,?_,trivial⟩
   ·refine bM (S2:=23) rfl (by decide+kernel) (by decide) rfl ?_
    refine lW (zs:=(List.replicate 64 (.int .u8 0))) dB jL (by decide) xZ rfl rfl (by decide) rfl rfl e λi aD ad=>gY (h i aD ad) λh=>re rfl<|?_
    refine dN (R:=[3,5]) (by decide+kernel) ⟨?_,?_,trivial⟩
    ·refine bM (S2:=31) rfl (by decide+kernel) (by decide) rfl ?_
     exact lW (zs:=(List.replicate 64 (.int .u8 0))) dB jL (by decide) xZ rfl rfl (by decide) rfl rfl f λx aE ae=>gY (h x aE ae) λh=>re rfl<|po 5 rfl<|lW (zs:=[.bool false]) dB jL (by decide) xZ rfl rfl (by decide) rfl rfl g λy aF af=>gY (h y aF af) λh=>re rfl<|p 6 rfl (cH (cs:=[Sl.v i,Sl.v x,Sl.v Sl.nil,Sl.v y,VI (-1),VI 0,.bool false]) iv xZ rfl rfl (by kernel_rfl))<|po 7 rfl<|cE (cs:=[Sl.v i,Sl.v x,Sl.v Sl.nil,Sl.v y,VI (-1),VI 0,.bool false]) rfl rfl λaV aG ag=>gY (h aV aG ag) λh=>re rfl<|p 8 rfl (aP rfl)<|p 9 rfl (aI rfl)<|Z<|E (ir rfl rfl rfl) ⟨_,_,rfl,h⟩
    ·refine bM (S2:=55) rfl (by decide+kernel) (by decide) rfl ?_
     refine qq (zs:=[.bool false]) dB jL (by decide) xZ rfl rfl (by decide) rfl rfl g λa1 A a4 T V=>?_
     refine re rfl<|po 3 rfl<|lW (zs:=(List.replicate 64 (.int .u8 0))) dB jL (by decide) xZ rfl rfl (by decide) rfl rfl f λB aH ah=>gY (h B aH ah) λh=>re rfl<|?_
     refine cJ T λaw=>?_
     exact gY (h A _ ⟨a1,aw,V,rfl⟩) λh=>p 6 rfl (cH (cs:=[Sl.v i,Sl.v B,Sl.v Sl.nil,Sl.v A,VI (-1),VI 0,.bool false]) iv xZ rfl rfl (by kernel_rfl))<|po 7 rfl<|cE (cs:=[Sl.v i,Sl.v B,Sl.v Sl.nil,Sl.v A,VI (-1),VI 0,.bool false]) rfl rfl λaW aJ ai=>gY (h aW aJ ai) λh=>re rfl<|p 8 rfl (aP rfl)<|p 9 rfl (aI rfl)<|Z<|E (ir rfl rfl rfl) ⟨_,_,rfl,h⟩
   ·refine bM (S2:=29) rfl (by decide+kernel) (by decide) rfl ?_
    refine qq (zs:=(List.replicate 64 (.int .u8 0))) dB jL (by decide) xZ rfl rfl (by decide) rfl rfl f λaa c a5 k m=>?_
    refine re rfl<|?_
    refine dN (R:=[1,5]) (by decide+kernel) ⟨?_,?_,trivial⟩
    ·refine bM (S2:=31) rfl (by decide+kernel) (by decide) rfl ?_
     refine lW (zs:=(List.replicate 64 (.int .u8 0))) dB jL (by decide) xZ rfl rfl (by decide) rfl rfl e λD aK ak=>gY (h D aK ak) λh=>re rfl<|?_
     refine cJ k λax=>?_
     exact gY (h c _ ⟨aa,ax,m,rfl⟩) λh=>po 5 rfl<|lW (zs:=[.bool false]) dB jL (by decide) xZ rfl rfl (by decide) rfl rfl g λG aL al=>gY (h G aL al) λh=>re rfl<|p 6 rfl (cH (cs:=[Sl.v D,Sl.v c,Sl.v Sl.nil,Sl.v G,VI (-1),VI 0,.bool false]) iv xZ rfl rfl (by kernel_rfl))<|po 7 rfl<|cE (cs:=[Sl.v D,Sl.v c,Sl.v Sl.nil,Sl.v G,VI (-1),VI 0,.bool false]) rfl rfl λaX aM am=>gY (h aX aM am) λh=>re rfl<|p 8 rfl (aP rfl)<|p 9 rfl (aI rfl)<|Z<|E (ir rfl rfl rfl) ⟨_,_,rfl,h⟩
    ·refine bM (S2:=61) rfl (by decide+kernel) (by decide) rfl ?_
     refine qq (zs:=[.bool false]) dB jL (by decide) xZ rfl rfl (by decide) rfl rfl g λa2 I a6 a X=>?_
     refine re rfl<|po 1 rfl<|lW (zs:=(List.replicate 64 (.int .u8 0))) dB jL (by decide) xZ rfl rfl (by decide) rfl rfl e λL aN an=>gY (h L aN an) λh=>re rfl<|?_
     refine Fb (Ne.symm (Fa a).1) k λay=>?_
     have a:=(Fa a).2
     refine gY (h c _ ⟨aa,ay,m,rfl⟩) λh=>?_
     refine cJ a λaz=>?_
     exact gY (h I _ ⟨a2,az,X,rfl⟩) λh=>p 6 rfl (cH (cs:=[Sl.v L,Sl.v c,Sl.v Sl.nil,Sl.v I,VI (-1),VI 0,.bool false]) iv xZ rfl rfl (by kernel_rfl))<|po 7 rfl<|cE (cs:=[Sl.v L,Sl.v c,Sl.v Sl.nil,Sl.v I,VI (-1),VI 0,.bool false]) rfl rfl λaY aO ao=>gY (h aY aO ao) λh=>re rfl<|p 8 rfl (aP rfl)<|p 9 rfl (aI rfl)<|Z<|E (ir rfl rfl rfl) ⟨_,_,rfl,h⟩
   ·refine bM (S2:=53) rfl (by decide+kernel) (by decide) rfl ?_
    refine qq (zs:=[.bool false]) dB jL (by decide) xZ rfl rfl (by decide) rfl rfl g λab d a7 l n=>?_
    refine re rfl<|?_
    refine dN (R:=[1,3]) (by decide+kernel) ⟨?_,?_,trivial⟩
    ·refine bM (S2:=55) rfl (by decide+kernel) (by decide) rfl ?_
     refine lW (zs:=(List.replicate 64 (.int .u8 0))) dB jL (by decide) xZ rfl rfl (by decide) rfl rfl e λM aQ ap=>gY (h M aQ ap) λh=>re rfl<|po 3 rfl<|lW (zs:=(List.replicate 64 (.int .u8 0))) dB jL (by decide) xZ rfl rfl (by decide) rfl rfl f λO aR aq=>gY (h O aR aq) λh=>re rfl<|?_
     refine cJ l λaA=>?_
     exact gY (h d _ ⟨ab,aA,n,rfl⟩) λh=>p 6 rfl (cH (cs:=[Sl.v M,Sl.v O,Sl.v Sl.nil,Sl.v d,VI (-1),VI 0,.bool false]) iv xZ rfl rfl (by kernel_rfl))<|po 7 rfl<|cE (cs:=[Sl.v M,Sl.v O,Sl.v Sl.nil,Sl.v d,VI (-1),VI 0,.bool false]) rfl rfl λaZ aS ar=>gY (h aZ aS ar) λh=>re rfl<|p 8 rfl (aP rfl)<|p 9 rfl (aI rfl)<|Z<|E (ir rfl rfl rfl) ⟨_,_,rfl,h⟩
    ·refine bM (S2:=61) rfl (by decide+kernel) (by decide) rfl ?_
     refine qq (zs:=(List.replicate 64 (.int .u8 0))) dB jL (by decide) xZ rfl rfl (by decide) rfl rfl f λa3 P a8 U Y=>?_
     refine re rfl<|po 1 rfl<|lW (zs:=(List.replicate 64 (.int .u8 0))) dB jL (by decide) xZ rfl rfl (by decide) rfl rfl e λS aT au=>gY (h S aT au) λh=>re rfl<|?_
     refine cJ U λaB=>?_
     refine gY (h P _ ⟨a3,aB,Y,rfl⟩) λh=>?_
     refine cJ l λaC=>?_
     exact gY (h d _ ⟨ab,aC,n,rfl⟩) λh=>p 6 rfl (cH (cs:=[Sl.v S,Sl.v P,Sl.v Sl.nil,Sl.v d,VI (-1),VI 0,.bool false]) iv xZ rfl rfl (by kernel_rfl))<|po 7 rfl<|cE (cs:=[Sl.v S,Sl.v P,Sl.v Sl.nil,Sl.v d,VI (-1),VI 0,.bool false]) rfl rfl λa0 aU av=>gY (h a0 aU av) λh=>re rfl<|p 8 rfl (aP rfl)<|p 9 rfl (aI rfl)<|Z<|E (ir rfl rfl rfl) ⟨_,_,rfl,h⟩
 ·intro j3 ac h
  refine J h (λb h=>?_) λb h=>?_
  ·exact o b<|o b<|q (jB b rfl rfl)<|ac true _ _ h (by exact⟨rfl,rfl⟩)
  ·exact w b (mI rfl)<|w b (pM rfl rfl)<|q (nB b rfl rfl)<|ac (decide (4096<p0)) _ _ h (by exact⟨rfl,rfl⟩)
 ,cP Tryz.func7 rfl rfl⟩
instance N8 {p0 p1 H Q}:aj Tryz.prog 51 (og p0 p1 H Q) [.pointer p0,VI p1] H (λv H'=>∃ a,v= .bool a/\Q a H'):=aT (og.eq_1 ..) Tryz.func51 Tryz.ntmps51
instance E6 {p0 H Q}:aj Tryz.prog 39 (bc p0 H Q) [Sl.v p0] H (λv H'=>∃ a,v=Sl.v a/\Q a H'):=aT (bc.eq_1 ..) Tryz.func39 Tryz.ntmps39
instance NR {p0 p1 H Q}:aj Tryz.prog 21 (eQ p0 p1 H Q) [.pointer p0,VI p1] H (λv H'=>∃ a b,v= .tuple #[Sl.v a,VI b]/\Q a b H'):=aT (eQ.eq_1 ..) Tryz.func21 Tryz.ntmps21
instance Qc {p0 H Q}:aj Tryz.prog 63 (qw p0 H Q) [.pointer p0] H (λv H'=>∃ a b,v= .tuple #[.agg ([Sl.v a.1,Sl.v a.2]:List Value).toArray,VI b]/\Q a b H'):=aT (qw.eq_1 ..) Tryz.func63 Tryz.ntmps63
instance Tt {p0 H Q}:aj Tryz.prog 176 (lB p0 H Q) [Sl.v p0] H (λv H'=>∃ a,v= .pointer a/\Q a H'):=aT (lB.eq_1 ..) Tryz.func176 Tryz.ntmps176
instance Qd {p0 H Q}:aj Tryz.prog 98 (jR p0 H Q) [.pointer p0] H (λv H'=>∃ a,v=VI a/\Q a H'):=aT (jR.eq_1 ..) Tryz.func98 Tryz.ntmps98
instance Qe {p0 p1 H Q}:aj Tryz.prog 177 (fI p0 p1 H Q) [.pointer p0,VI p1] H (λv H'=>∃ a b,v= .tuple #[Sl.v a,.bool b]/\Q a b H'):=aT (fI.eq_1 ..) Tryz.func177 Tryz.ntmps177
instance Tu {p0 H Q}:aj Tryz.prog 97 (wk p0 H Q) [VI p0] H (λv H'=>∃ a,v= .bool a/\Q a H'):=aT (wk.eq_1 ..) Tryz.func97 Tryz.ntmps97
instance RR {p0 p1 H Q}:aj Tryz.prog 178 (ba p0 p1 H Q) [.pointer p0,VI p1] H (λv H'=>∃ a b,v= .tuple #[VI a,.bool b]/\Q a b H'):=aT (ba.eq_1 ..) Tryz.func178 Tryz.ntmps178
instance Ue {p0 H Q}:aj Tryz.prog 41 (qL p0 H Q) [VI p0] H (λv H'=>∃ a,v= .pointer a/\Q a H'):=aT (qL.eq_1 ..) Tryz.func41 Tryz.ntmps41
instance RS {p0 p1 p2 H Q}:aj Tryz.prog 42 (bt p0 p1 p2 H Q) [.pointer p0,VI p1,Sl.v p2] H (λv H'=>∃ a,v= .bool a/\Q a H'):=aT (bt.eq_1 ..) Tryz.func42 Tryz.ntmps42
instance PW {p0 H Q}:aj Tryz.prog 45 (fy p0 H Q) [.pointer p0] H (λv H'=>∃ a,v=Sl.v a/\Q a H'):=aT (fy.eq_1 ..) Tryz.func45 Tryz.ntmps45
instance PX {p0 p1 p2 H Q}:aj Tryz.prog 197 (gy p0 p1 p2 H Q) [VI p0,VI p1,VI p2] H (λv H'=>∃ a,v= .bool a/\Q a H'):=aT (gy.eq_1 ..) Tryz.func197 Tryz.ntmps197
instance N9 {p0 H Q}:aj Tryz.prog 194 (rh p0 H Q) [.agg ([VI p0.1,VI p0.2.1,VI p0.2.2.1,VI p0.2.2.2.1,VI p0.2.2.2.2.1,VI p0.2.2.2.2.2.1,VI p0.2.2.2.2.2.2.1,VI p0.2.2.2.2.2.2.2.1,VI p0.2.2.2.2.2.2.2.2.1,VI p0.2.2.2.2.2.2.2.2.2.1,VI p0.2.2.2.2.2.2.2.2.2.2.1,Sl.v p0.2.2.2.2.2.2.2.2.2.2.2.1,Sl.v p0.2.2.2.2.2.2.2.2.2.2.2.2.1,Sl.v p0.2.2.2.2.2.2.2.2.2.2.2.2.2]:List Value).toArray] H (λv H'=>∃ a,v= .bool a/\Q a H'):=aT (rh.eq_1 ..) Tryz.func194 Tryz.ntmps194
instance RT {p0 H Q}:aj Tryz.prog 121 (sR p0 H Q) [Sl.v p0] H (λv H'=>∃ a,v=VI a/\Q a H'):=aT (sR.eq_1 ..) Tryz.func121 Tryz.ntmps121
theorem jX {γ:Type} (c0:Addr) (c1:Addr) (Y:List Value->γ->PH->(Nat->γ->PH->Prop)->Prop) (g:γ) (H:PH) (Q:Nat->γ->PH->Prop) (h:kJ c0 c1 Y g H Q):
 iH Tryz.prog (.func (.func 199) #[] #[.pointer (some c0),.pointer (some c1)]) Y g H Q:=by
 unfold kJ at h
 refine kX (fi:=[]) (ca:=[.pointer (some c0),.pointer (some c1)]) QS Tryz.func199 rfl Tryz.ntmps199 (Nat.le_of_ble_eq_true rfl) λlz Tk hd hy =>?_
 generalize L:Value.func (.yield lz) #[] #[]=yv
 intro D M m l i
 refine R<|q (aI rfl)<|z<|b<|qu (g:=(0,g)) (λs1=>s1.2) (λT (s1:Int×(Nat×γ))=>T 0=yv/\T 1= .pointer (some c0)/\T 2= .pointer (some c1)/\T 4=VI s1.1) m l i h ⟨rfl,rfl,rfl,rfl⟩ rfl<|?_
 clear h
 intro T s1 H4 F U h j
 obtain⟨k,d,e,c⟩:=U
 intro D M m l i
 refine s<|R<|q (mI c)<|y h λx5 G h=>q (a aR d G)<|q (ju Tryz.underlying44 rfl (qo rfl))<|q (jO rfl rfl)<|z<|J h (λn h=>?_) λn h=>?_
 ·refine C n rfl<|K<|s<|b<|s<|dr gz<|y h λS I h=>pl 0 rfl (a aR e I)<|y h λab x h=>pl 1 rfl (a aR d x)<|p 2 rfl (mI c)<|y h λo u h=>p 3 rfl (V (Sl.v o) (JV dB u rfl ⟨_,rfl⟩ rfl))<|p 4 rfl (ju Tryz.underlying44 rfl (qo rfl))<|p 5 rfl (V (VI (if(o.len:Int)<S then(o.len:Int) else S)) (LM rfl))<|p 6 rfl (aI rfl)<|Z<|R<|q (lI k)<|y h λac A h=>q (a aR d A)<|q (mI c)<|q (mI c)<|q (mI rfl)<|q (de rfl rfl)<|q (mI c)<|q (mI rfl)<|q (de rfl rfl)<|y h λO w h=>q (V (Sl.v O) (La dB w rfl ⟨_,rfl⟩ ⟨_,rfl⟩ ⟨_,rfl⟩))<|od<|nD (q:=s1.2) hy i (Eq.trans rfl L.symm) rfl h λt aa h=>q (jH rfl)<|z<|J h (λf h=>?_) λf h=>?_
  ·exact C f rfl<|Go.fP (g:=t) m l i ⟨.inl rfl,_,(iC Tryz.results199),h⟩
  ·exact N f rfl<|K<|B<|r<|q (mI c)<|y h λP E h=>q (a aR e E)<|q (de rfl rfl)<|q (aI rfl)<|z<|j (IntKind.wrap .i64 (s1.1+P),t) _ _ h (by exact⟨k,d,e,rfl⟩) _ _ m l i
 ·exact N n rfl<|X rfl<|Go.gP (g:=s1.2) m l i ⟨.inr rfl,_,(iC Tryz.results199),h⟩
instance E7 {p0 p1 H Q}:aj Tryz.prog 129 (fg p0 p1 H Q) [Sl.v p0,VI p1] H (λv H'=>∃ a,v=a/\Q a H'):=aT (fg.eq_1 ..) Tryz.func129 Tryz.ntmps129
instance OA {p0 H Q}:aj Tryz.prog 131 (oh p0 H Q) [.pointer p0] H (λv H'=>∃ a,v=VI a/\Q a H'):=aT (oh.eq_1 ..) Tryz.func131 Tryz.ntmps131
instance Lr {p0 p1 p2 H Q}:aj Tryz.prog 130 (fQ p0 p1 p2 H Q) [.pointer p0,VI p1,Sl.v p2] H (λv H'=>∃ r0,v=VI r0/\Q r0 H'):=⟨λh=>by
 unfold fQ at h
 refine F Tryz.func130 rfl Tryz.ntmps130<|R<|q (aI rfl)<|z<|s<|R<|q (mP rfl)<|q (mI rfl)<|c1 (cb h) (cu h) rfl λy2 H1 h=>q (jH rfl)<|q (mB rfl)<|?_
 refine cS 4 (λρ (s4:Bool)=>ρ 0=VP p0/\ρ 1=VI p1/\ρ 2=Sl.v p2/\ρ 16=VB s4) h ?_ ?_<;>clear h
 ·intro s4 H6 ρ h hE
  obtain⟨c,i,j,e⟩:=hE
  refine z<|J h (λk h=>?_) λk h=>?_
  ·exact C k e<|R<|q (aI rfl)<|z<|E1 rfl rfl h
  ·refine N k e<|K<|s<|R<|q (mP c)<|c1 (cb h) (cu h) rfl λax H9 h=>q (aI rfl)<|z<|R<|q (mI rfl)<|q (eP rfl rfl)<|z<|J h (λd h=>?_) λd h=>?_
   ·exact C d rfl<|R<|q (mI rfl)<|q (aI rfl)<|z<|E1 rfl rfl h
   ·refine N d rfl<|K<|s<|dr gz<|p 0 rfl (mP c)<|p 1 rfl (mP c)<|y h λao G h=>p 2 rfl (n G rfl)<|p 3 rfl (f bB rfl)<|y h λav Y h=>pl 4 rfl (a aR rfl Y)<|p 5 rfl (mI i)<|p 6 rfl (mS j)<|?_
    obtain⟨l,ae,I,h⟩:=h
    refine p 7 rfl (V (.pointer (some ae)) (PF tK l I rfl))<|y h λg aa h=>pl 8 rfl (A eY rfl aa)<|t h λT h=>p 9 rfl (V (.agg (pR [[VI p1],g]:List Value).toArray) (JZ (ps:=[(0,VI p1),(1,.agg (g:List Value).toArray)]) iv xZ rfl rfl (.cons rfl rfl rfl (.cons T rfl rfl (.nil rfl)))))<|po 10 rfl<|t h λU h=>nA (ps:=[(0,.agg (pR [[VI p1],g]:List Value).toArray)]) (zs:=[VI 0,.int .u8 0,.int .u8 0,.int .u8 0,.int .u8 0,.int .u8 0,.int .u8 0,.int .u8 0,.int .u8 0,.int .u8 0,.int .u8 0,.int .u8 0,.int .u8 0,.int .u8 0,.int .u8 0,.int .u8 0,.int .u8 0,.int .u8 0,.int .u8 0,.int .u8 0,.int .u8 0,.int .u8 0,.int .u8 0,.int .u8 0,.int .u8 0,.int .u8 0,.int .u8 0,.int .u8 0,.int .u8 0,.int .u8 0,.int .u8 0,.int .u8 0,.int .u8 0,.int .u8 0,.int .u8 0,.int .u8 0,.int .u8 0,.int .u8 0,.int .u8 0,.int .u8 0,.int .u8 0,.int .u8 0,.int .u8 0,.int .u8 0,.int .u8 0,.int .u8 0,.int .u8 0,.int .u8 0,.int .u8 0,.int .u8 0,.int .u8 0,.int .u8 0,.int .u8 0,.int .u8 0,.int .u8 0,.int .u8 0,.int .u8 0,.int .u8 0,.int .u8 0,.int .u8 0,.int .u8 0,.int .u8 0,.int .u8 0,.int .u8 0,.int .u8 0]) (cs:=pR [pR [[VI p1],g]]) dB xZ rfl rfl (by decide) (by decide) rfl (nC (.cons U rfl rfl (.nil rfl)) rfl) λag ad S=>gY (h ag ad S) λh=>t h λX h=>re (rl [9,10]<|rr rfl rfl (a aR rfl X)<|rfl)<|po 11 rfl<|iu (zs:=[VI 0,.int .u8 0,.int .u8 0,.int .u8 0,.int .u8 0,.int .u8 0,.int .u8 0,.int .u8 0,.int .u8 0,.int .u8 0,.int .u8 0,.int .u8 0,.int .u8 0,.int .u8 0,.int .u8 0,.int .u8 0,.int .u8 0,.int .u8 0,.int .u8 0,.int .u8 0,.int .u8 0,.int .u8 0,.int .u8 0,.int .u8 0,.int .u8 0,.int .u8 0,.int .u8 0,.int .u8 0,.int .u8 0,.int .u8 0,.int .u8 0,.int .u8 0,.int .u8 0,.int .u8 0,.int .u8 0,.int .u8 0,.int .u8 0,.int .u8 0,.int .u8 0,.int .u8 0,.int .u8 0,.int .u8 0,.int .u8 0,.int .u8 0,.int .u8 0,.int .u8 0,.int .u8 0,.int .u8 0,.int .u8 0,.int .u8 0,.int .u8 0,.int .u8 0,.int .u8 0,.int .u8 0,.int .u8 0,.int .u8 0,.int .u8 0,.int .u8 0,.int .u8 0,.int .u8 0,.int .u8 0,.int .u8 0,.int .u8 0,.int .u8 0,.int .u8 0]) (dB (t:=86)) jL (by decide) xZ rfl rfl (by decide) rfl rfl Tryz.underlying86 rfl h λau an h=>re (rl [11]<|rfl)<|y h λap L h=>p 12 rfl (n L rfl)<|p 13 rfl (f bB rfl)<|po 14 rfl<|dS h bq rfl rfl λ_ h=>re rfl<|Z<|s<|dr gz<|p 0 rfl (mP c)<|y h λaq M h=>p 1 rfl (n M rfl)<|p 2 rfl (f bB rfl)<|y h λaw ab h=>pl 3 rfl (a aR rfl ab)<|p 4 rfl (mI i)<|p 5 rfl (mS j)<|?_
    obtain⟨m,af,O,h⟩:=h
    refine p 6 rfl (V (.pointer (some af)) (PF tK m O rfl))<|y h λah ac h=>pl 7 rfl (A eY rfl ac)<|y h λar P h=>p 8 rfl (kj dB P rfl rfl)<|po 9 rfl<|?_
    obtain⟨B,ai,am,ak,al,r,u,x,D,h⟩:=h
    exact Br (vs:=ah) bq (Rv rfl r) rfl rfl B D u x<|re (rl [9]<|rl [9]<|rfl)<|Z<|R<|q (aI rfl)<|z<|E1 rfl rfl h
 ·intro j5 E h
  refine J h (λb h=>?_) λb h=>?_
  ·exact o b<|o b<|o b<|q (jB b rfl rfl)<|E true _ _ h (by exact⟨rfl,rfl,rfl,rfl⟩)
  ·exact w b (mS rfl)<|w b (ju Tryz.underlying44 rfl (qo rfl))<|w b (eP rfl rfl)<|q (nB b rfl rfl)<|E ((p2.len:Int) != 64) _ _ h (by exact⟨rfl,rfl,rfl,rfl⟩)
 ,cP Tryz.func130 rfl rfl⟩
instance TQ {p0 p1 p2 H Q}:aj Tryz.prog 73 (vH p0 p1 p2 H Q) [.pointer p0,VI p1,Sl.v p2] H (λv H'=>∃ w,v=VI w/\Q w H'):=⟨λh=>by
 unfold vH at h
 refine fZ Tryz.func73 rfl Tryz.ntmps73 (Nat.le_of_ble_eq_true rfl)<|?_
 intro D M e d c
 refine R<|od<|cE (cs:=[.pointer p0]) rfl rfl λa1 x o=>gY (h a1 x o) λh=>od<|cE (cs:=[VI p1]) rfl rfl λF A p=>gY (h F A p) λh=>od<|cT xZ rfl λG E t=>gY (h G E t) λh=>z<|s<|R<|q (mS rfl)<|gL rfl (by decide) (cb h) (cu h) rfl<|?_
 rintro ab O ⟨_,rfl,h⟩
 refine z<|b<|?_
 refine vD (g:=()) (c1:=.ret) h rfl (λ_ _ _ h=>h) rfl e d c trivial ?_ ?_ ?_<;>clear h
 ·rintro _ T P ac ⟨U,rfl,h⟩
  refine⟨rfl,λL Bx rz I=>?_⟩
  clear e d c
  intro D M e d c
  refine r<|q (aS rfl)<|z<|jQ (g:=()) I d c λM d c =>?_
  have e:Mk (some L) D M:=trivial
  refine b<|s<|R<|y h λV i h=>q (a aR rfl i)<|y h λX j h=>q (a aR rfl j)<|q (mS rfl)<|c1 (cb h) (cu h) rfl λad S h=>q (aI rfl)<|z<|R<|q (mI rfl)<|q (eP rfl rfl)<|z<|J h (λf h=>?_) λf h=>?_
  ·exact C f rfl<|R<|q (mI rfl)<|st h bq rfl rfl λ_ h=>z<|Go.fP (g:=()) e d c ⟨1,⟨0,rfl,rfl⟩,h⟩
  ·exact N f rfl<|K<|r<|y h λY k h=>q (a aR rfl k)<|q (de rfl rfl)<|st h bq rfl rfl λ_ h=>z<|B<|Go.gP (g:=()) e d c ⟨0,rfl,h⟩
 ·intro u n h
  intro D M e d c
  exact B<|R<|st h bq rfl rfl λ_ h=>z<|y h λZ l h=>Go.fP (g:=()) e d c ⟨.inl rfl,_,(mw Tryz.results73 (lv aR rfl l)),⟨_,rfl,h⟩⟩
 ·intro u n h
  intro D M e d c
  exact y h λaa m h=>Go.fP (g:=()) e d c ⟨.inl rfl,_,(mw Tryz.results73 (lv aR rfl m)),⟨_,rfl,h⟩⟩
 ,cP Tryz.func73 rfl rfl⟩
instance Ls {p0 H Q}:aj Tryz.prog 74 (fR p0 H Q) [.pointer p0] H (λv H'=>∃ a,v=VI a/\Q a H'):=aT (fR.eq_1 ..) Tryz.func74 Tryz.ntmps74
instance Ku {p0 p1 p2 H Q}:aj Tryz.prog 132 (oB p0 p1 p2 H Q) [.pointer p0,VI p1,VI p2] H (λv H'=>∃ a b,v= .tuple #[Sl.v a,VI b]/\Q a b H'):=aT (oB.eq_1 ..) Tryz.func132 Tryz.ntmps132
instance Kv {p0 p1 H Q}:aj Tryz.prog 259 (cF p0 p1 H Q) [.agg ([.pointer p0]:List Value).toArray,VI p1] H (λv H'=>∃ a,v=VI a/\Q a H'):=aT (cF.eq_1 ..) Tryz.func259 Tryz.ntmps259
instance OB {p0 p1 H Q}:aj Tryz.prog 298 (kK p0 p1 H Q) [.pointer p0,VI p1] H (λv H'=>∃ a b,v= .tuple #[Sl.v a,.bool b]/\Q a b H'):=aT (kK.eq_1 ..) Tryz.func298 Tryz.ntmps298
instance PY {p0 p1 p2 H Q}:aj Tryz.prog 324 (jl p0 p1 p2 H Q) [VI p0,VI p1,VI p2] H (λv H'=>∃ a,v= .bool a/\Q a H'):=aT (jl.eq_1 ..) Tryz.func324 Tryz.ntmps324
instance OC {p0 H Q}:aj Tryz.prog 314 (om p0 H Q) [.pointer p0] H (λv H'=>∃ a b c,v= .tuple #[VI a,VI b,.bool c]/\Q a b c H'):=aT (om.eq_1 ..) Tryz.func314 Tryz.ntmps314
instance RU {p0 p1 p2 H Q}:aj Tryz.prog 266 (ll p0 p1 p2 H Q) [VI p0,VI p1,VI p2] H (λv H'=>∃ a,v= .bool a/\Q a H'):=aT (ll.eq_1 ..) Tryz.func266 Tryz.ntmps266
end
end Go.Proofs.YtbijlklgbfminaaGreat
