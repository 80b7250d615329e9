import Derived.Test.YtbijlklgbfminaaGreatA10
set_option linter.unusedVariables false
set_option linter.unusedSimpArgs false
namespace Go.Proofs.YtbijlklgbfminaaGreat
section
open Go Go.Kx Go.Proofs Go.Kx.Au Go.Kx.W
set_option maxRecDepth 20000
set_option maxHeartbeats 2000000
instance Pd {p0 p1 H Q}:aj Tryz.prog 145 (fb p0 p1 H Q) [.pointer p0,VI p1] H (λv H'=>∃ a,v=VI a/\Q a H'):=aT (fb.eq_1 ..) Tryz.func145 Tryz.ntmps145
instance Rb {p0 H Q}:aj Tryz.prog 307 (qM p0 H Q) [.agg ([VI p0.1,VI p0.2.1,VI p0.2.2.1,VI p0.2.2.2]:List Value).toArray] H (λv H'=>∃ a b,v= .tuple #[Sl.v a,VI b]/\Q a b H'):=aT (qM.eq_1 ..) Tryz.func307 Tryz.ntmps307
instance Rd {p0 H Q}:aj Tryz.prog 299 (sT p0 H Q) [Sl.v p0] H (λv H'=>∃ a b,v= .tuple #[.agg ([VI a.1,VI a.2.1,VI a.2.2.1,VI a.2.2.2]:List Value).toArray,VI b]/\Q a b H'):=aT (sT.eq_1 ..) Tryz.func299 Tryz.ntmps299
instance TS {p0 p1 H Q}:aj Tryz.prog 300 (xX p0 p1 H Q) [Sl.v p0,.agg ([VI p1.1,VI p1.2.1,VI p1.2.2.1,VI p1.2.2.2.1,VI p1.2.2.2.2]:List Value).toArray] H (λv H'=>∃ a,v= .bool a/\Q a H'):=aT (xX.eq_1 ..) Tryz.func300 Tryz.ntmps300
instance Rf {p0 H Q}:aj Tryz.prog 301 (uh p0 H Q) [Sl.v p0] H (λv H'=>∃ a,v=VI a/\Q a H'):=aT (uh.eq_1 ..) Tryz.func301 Tryz.ntmps301
instance Rh {p0 H Q}:aj Tryz.prog 315 (ui p0 H Q) [Sl.v p0] H (λv H'=>∃ a b,v= .tuple #[Sl.v a,VI b]/\Q a b H'):=aT (ui.eq_1 ..) Tryz.func315 Tryz.ntmps315
instance SS {p0 H Q}:aj Tryz.prog 318 (vu p0 H Q) [.agg ([VI p0.1,VI p0.2.1,VI p0.2.2.1,Sl.v p0.2.2.2.1,Sl.v p0.2.2.2.2]:List Value).toArray] H (λv H'=>∃ a,v= .bool a/\Q a H'):=aT (vu.eq_1 ..) Tryz.func318 Tryz.ntmps318
instance Pe {p0 H Q}:aj Tryz.prog 308 (m7 p0 H Q) [.agg ([VI p0.1,VI p0.2.1,VI p0.2.2.1,Sl.v p0.2.2.2.1,Sl.v p0.2.2.2.2]:List Value).toArray] H (λv H'=>∃ a b c,v= .tuple #[Sl.v a,VI b,VI c]/\Q a b c H'):=aT (m7.eq_1 ..) Tryz.func308 Tryz.ntmps308
instance Pf {p0 H Q}:aj Tryz.prog 302 (sk p0 H Q) [Sl.v p0] H (λv H'=>∃ I r1 r2,v= .tuple #[.agg ([VI I.1,VI I.2.1,VI I.2.2.1,Sl.v I.2.2.2.1,Sl.v I.2.2.2.2]:List Value).toArray,VI r1,VI r2]/\Q I r1 r2 H'):=⟨λh=>by
 unfold sk at h
 refine fZ Tryz.func302 rfl Tryz.ntmps302 (Nat.le_of_ble_eq_true rfl)<|?_
 intro D M m l k
 refine R<|od<|cT xZ rfl λa1 H2 ap=>gY (h a1 H2 ap) λh=>q (aI rfl)<|q (aI rfl)<|z<|R<|q (mS rfl)<|c1 (cb h) (cu h) rfl λy5 H4 h=>q (aP rfl)<|z<|R<|q (mP rfl)<|c3 (cb h) (cu h) rfl λy7 y8 y9 H6 h=>q (mT rfl)<|q (e rfl rfl)<|q (e rfl rfl)<|q (e rfl rfl)<|q (aI rfl)<|q (aI rfl)<|q (aB rfl)<|z<|s<|R<|q (mB rfl)<|q (jH rfl)<|q (mB rfl)<|?_
 refine cS 7 (λP (X:Bool)=>P 0=Sl.v p0/\P 2=VA a1/\P 5=VP y5/\P 6=VI y7/\P 30=VB X) h ?_ ?_<;>clear h
 ·intro X aw P h hE
  obtain⟨n,c,S,T,u⟩:=hE
  refine z<|J h (λE h=>?_) λE h=>?_
  ·exact C E u<|R<|q (cH (cs:=[VI 0,VI 0,VI 0,Sl.v Sl.nil,Sl.v Sl.nil]) iv xZ rfl rfl (by kernel_rfl))<|st h bq c rfl λ_ h=>q (aI rfl)<|q (aI rfl)<|z<|y h λaV af h=>Go.fP (g:=()) m l k ⟨.inl rfl,_,(yS Tryz.results302 (pQ eY c af) (qt rfl) (qt rfl)),⟨_,_,_,rfl,h⟩⟩
  ·refine N E u<|K<|R<|q (mP S)<|q (mI T)<|q (FE rfl rfl)<|c2 (cb h) (cu h) rfl λa4 a5 ax h=>q (mT rfl)<|q (e rfl rfl)<|q (e rfl rfl)<|q (aS rfl)<|q (aB rfl)<|z<|s<|R<|q (mS rfl)<|c2 (cb h) (cu h) rfl λa6 a7 ay h=>q (mT rfl)<|q (e rfl rfl)<|q (e rfl rfl)<|q (f bB c)<|st h bq rfl rfl λ_ h=>q (aI rfl)<|z<|R<|q (mI rfl)<|q (eP rfl rfl)<|z<|J h (λF h=>?_) λF h=>?_
   ·exact C F rfl<|R<|q (cH (cs:=[VI 0,VI 0,VI 0,Sl.v Sl.nil,Sl.v Sl.nil]) iv xZ rfl rfl (by kernel_rfl))<|st h bq c rfl λ_ h=>q (aI rfl)<|q (aI rfl)<|z<|y h λaW ag h=>Go.fP (g:=()) m l k ⟨.inl rfl,_,(yS Tryz.results302 (pQ eY c ag) (qt rfl) (qt rfl)),⟨_,_,_,rfl,h⟩⟩
   ·refine N F rfl<|K<|R<|q (mS n)<|c1 (cb h) (cu h) rfl λa8 az h=>q (aP rfl)<|z<|R<|q (mP rfl)<|c2 (cb h) (cu h) rfl λa9 ba aA h=>z<|R<|q (mP rfl)<|c2 (cb h) (cu h) rfl λbb bc aC h=>q (mT rfl)<|q (e rfl rfl)<|q (e rfl rfl)<|q (f bB c)<|st h bq rfl rfl λ_ h=>z<|R<|q (mP rfl)<|c2 (cb h) (cu h) rfl λbd be aD h=>q (mT rfl)<|q (e rfl rfl)<|q (e rfl rfl)<|q (f bB c)<|st h bq rfl rfl λ_ h=>z<|R<|q (mP rfl)<|c2 (cb h) (cu h) rfl λbf bg aE h=>q (mT rfl)<|q (e rfl rfl)<|q (e rfl rfl)<|q (f bB c)<|st h bq rfl rfl λ_ h=>z<|s<|R<|q (mS n)<|y h λaq ac h=>q (V (Sl.v aq) (JV dB ac rfl ⟨_,rfl⟩ rfl))<|gL rfl (by decide) (cb h) (cu h) rfl<|?_
    rintro bh aF ⟨_,rfl,h⟩
    refine z<|b<|?_
    refine nE (g:=()) h rfl (λ_ _ _ h=>h) rfl m l k trivial ?_ ?_<;>clear h
    ·rintro _ aQ aG bi ⟨aX,rfl,h⟩
     refine⟨rfl,λlp Bx rz hr=>?_⟩
     clear m l k
     intro D M m l k
     refine r<|q (aS rfl)<|z<|jQ (g:=()) hr l k λM l k =>?_
     have m:Mk (some lp) D M:=trivial
     exact b<|dr gz<|p 0 rfl (f bB c)<|y h λaY ah h=>pl 1 rfl (a aR rfl ah)<|p 2 rfl (mS rfl)<|po 3 rfl<|d1 (cb h) (cu h) rfl λaa aH h=>t h λad h=>re (rr rfl rfl (a aR rfl ad)<|rfl)<|po 4 rfl<|nA (ps:=[(0,Sl.v aa)]) (zs:=[.slice none 0 0]) (cs:=[Sl.v aa]) dB xZ rfl rfl (by decide) (by decide) rfl rfl λar ao ab=>gY (h ar ao ab) λh=>t h λae h=>re (rr rfl rfl (a aR rfl ae)<|rfl)<|po 5 rfl<|iu (zs:=[.slice none 0 0]) (dB (t:=192)) jL (by decide) xZ rfl rfl (by decide) rfl rfl Tryz.underlying192 rfl h λaU aJ h=>re (rl [5]<|rfl)<|p 6 rfl (f bB c)<|po 7 rfl<|dS h bq rfl rfl λ_ h=>re rfl<|Z<|B<|Go.gP (g:=()) m l k ⟨0,rfl,h⟩
    ·intro aT aK h
     intro D M m l k
     refine B<|R<|y h λaZ ai h=>q (A eY c ai)<|c3 (cb h) (cu h) rfl λbj au bk aL h=>q (mT rfl)<|q (e rfl rfl)<|q (e rfl rfl)<|q (e rfl rfl)<|q (aS rfl)<|q (aI rfl)<|q (aI rfl)<|z<|s<|R<|q (mI rfl)<|q (eP rfl rfl)<|q (mB rfl)<|?_
     refine cS 5 (λP (Y:Bool)=>P 2=VA a1/\P 3=VI au/\P 94=VB Y) h ?_ ?_<;>clear h
     ·intro Y aM P h hE
      obtain⟨j,U,x⟩:=hE
      refine z<|J h (λG h=>?_) λG h=>?_
      ·exact C G x<|R<|q (cH (cs:=[VI 0,VI 0,VI 0,Sl.v Sl.nil,Sl.v Sl.nil]) iv xZ rfl rfl (by kernel_rfl))<|st h bq j rfl λ_ h=>q (aI rfl)<|q (aI rfl)<|z<|y h λa0 ak h=>Go.fP (g:=()) m l k ⟨.inl rfl,_,(yS Tryz.results302 (pQ eY j ak) (qt rfl) (qt rfl)),⟨_,_,_,rfl,h⟩⟩
      ·exact N G x<|K<|R<|y h λa2 al h=>q (A eY j al)<|q (mI U)<|st h bq j rfl λ_ h=>q (aI rfl)<|q (aI rfl)<|z<|y h λa3 am h=>Go.fP (g:=()) m l k ⟨.inl rfl,_,(yS Tryz.results302 (pQ eY j am) (qt rfl) (qt rfl)),⟨_,_,_,rfl,h⟩⟩
     ·intro aO O h
      refine J h (λi h=>?_) λi h=>?_
      ·exact o i<|o i<|o i<|o i<|q (jB i rfl rfl)<|O true _ _ h (by exact⟨c,rfl,rfl⟩)
      ·exact w i (mS rfl)<|w i (mS n)<|k1 i (cb h) (cu h) rfl λan av h=>w i (jH rfl)<|q (nB i rfl rfl)<|O (!an) _ _ h (by exact⟨c,rfl,rfl⟩)
 ·intro aN L h
  refine J h (λd h=>?_) λd h=>?_
  ·exact o d<|o d<|o d<|o d<|o d<|o d<|q (jB d rfl rfl)<|L true _ _ h (by exact⟨rfl,rfl,rfl,rfl,rfl⟩)
  ·exact w d (mS rfl)<|w d (ju Tryz.underlying44 rfl (qo rfl))<|w d (mI rfl)<|w d (de rfl rfl)<|w d (FE rfl rfl)<|w d (eP rfl rfl)<|q (nB d rfl rfl)<|L ((p0.len:Int) != (IntKind.wrap .i64 (64*(IntKind.wrap .i64 (1+y8))))) _ _ h (by exact⟨rfl,rfl,rfl,rfl,rfl⟩)
 ,cP Tryz.func302 rfl rfl⟩
theorem tP {γ:Type} (c0:Addr) (Y:List Value->γ->PH->(Nat->γ->PH->Prop)->Prop) (g:γ) (H:PH) (Q:Nat->γ->PH->Prop) (h:∀Z,qU c0 Z Y g H Q):
 iH Tryz.prog (.func (.func 191) #[] #[.pointer (some c0)]) Y g H Q:=by
 unfold qU at h
 refine kX (fi:=[]) (ca:=[.pointer (some c0)]) QW Tryz.func191 rfl Tryz.ntmps191 (Nat.le_of_ble_eq_true rfl) λlz Tk hd hy=>gY (h (.func (.yield lz) #[] #[])) λh=>?_
 generalize U:Value.func (.yield lz) #[] #[]=Z at h ⊢
 have ao:Z.cells=[Z].toArray:=by rw[←U];rfl
 intro D M m l j
 refine R<|od<|cE (cs:=[Z]) rfl ao λa1 H2 am=>gY (h a1 H2 am) λh=>z<|R<|y h λx4 an h=>q (a aR rfl an)<|c1 (cb h) (cu h) rfl λy7 H6 h=>gL rfl (by decide) (cb h) (cu h) rfl<|?_
 rintro y9 H8 ⟨_,rfl,h⟩
 refine z<|b<|?_
 refine vD (g:=(0,g)) (c1:=.ret) h rfl hd rfl m l j trivial ?_ ?_ ?_<;>clear h
 ·rintro _ V ar aL ⟨ap,aF,rfl,h⟩
  refine⟨rfl,λlp Bx rz hr=>?_⟩
  clear m l j
  intro D M m l j
  refine R<|q (aI rfl)<|z<|r<|q (aI rfl)<|z<|jQ (g:=V) hr l j λM l j =>?_
  have m:Mk (some lp) D M:=trivial
  refine b<|R<|y h λaG ah h=>q (a aR rfl ah)<|y h λaA ae h=>q (n ae rfl)<|q (f bB rfl)<|y h λaH ai h=>q (a aR rfl ai)<|q (mI rfl)<|c2 (cb h) (cu h) rfl λaq aM au h=>q (mT rfl)<|q (e rfl rfl)<|q (e rfl rfl)<|q (aI rfl)<|q (aB rfl)<|z<|R<|q (mI rfl)<|q (pM rfl rfl)<|q (mB rfl)<|?_
  refine vC (TT:=λx:Nat×γ=>Tk x.1 x.2) (M:=M) 6 (λk=>k.2) (λF (k:Bool×(Nat×γ))=>F 2=VA a1/\F 3=VI ap/\F 5=VI aq/\F 29=VB k.1) h ?_ ?_<;>clear h
  ·intro k av F h O
   obtain⟨aa,ab,E,G⟩:=O
   refine q (mB G)<|?_
   refine vC (TT:=λx:Nat×γ=>Tk x.1 x.2) (M:=M) 10 (λp=>p.2) (λF (p:Bool×(Nat×γ))=>F 40=VB p.1) h ?_ ?_<;>clear h
   ·intro p aw F h O
    have v:=O
    refine z<|J h (λA h=>?_) λA h=>?_
    ·exact C A v<|Go.fP (g:=p.2) m l j ⟨1,⟨0,rfl,rfl⟩,h⟩
    ·exact N A v<|K<|B<|Go.gP (g:=p.2) m l j ⟨0,rfl,h⟩
   ·intro aD S h
    refine J h (λi h=>?_) λi h=>?_
    ·exact o i<|o i<|o i<|u<|u<|u<|u<|u<|o i<|q (jB i rfl rfl)<|S (true,k.2) _ _ h (by exact rfl)
    ·refine w i (mI E)<|w i (pM rfl rfl)<|w i (mB rfl)<|?_
     refine vC (TT:=λx:Nat×γ=>Tk x.1 x.2) (M:=M) 6 (λs=>s.2) (λF (s:Bool×(Nat×γ))=>F 30=VB k.1/\F 39=VB s.1) h ?_ ?_<;>clear h
     ·intro s ax F h O
      obtain⟨I,L⟩:=O
      exact q (nB i I L)<|S (s.1,s.2) _ _ h (by exact rfl)
     ·intro aE T h
      refine J h (λd h=>?_) λd h=>?_
      ·refine y h λaJ aj h=>w d (a aR aa aj)<|w d (mI ab)<|w d (mI E)<|t h λaf h=>?_
       refine wg (jP rfl rfl rfl d) rfl (by decide) (nD (q:=k.2) hy j (Eq.trans (Eq.trans rfl af) U.symm) rfl h λac ay h=>?_)
       exact w d (jH rfl)<|w i (jB d rfl rfl)<|T (!(ac.1==0),ac) _ _ h (by exact⟨rfl,rfl⟩)
      ·exact o d<|o d<|o d<|o d<|o d<|w i (nB d rfl rfl)<|T (false,k.2) _ _ h (by exact⟨rfl,rfl⟩)
  ·intro aC P h
   refine J h (λc h=>?_) λc h=>?_
   ·refine y h λaK ak h=>w c (a aR rfl ak)<|w c (mI rfl)<|w c (mI rfl)<|t h λag h=>?_
    refine wg (jP rfl rfl rfl c) rfl (by decide) (nD (q:=V) hy j (Eq.trans (Eq.trans rfl ag) U.symm) rfl h λad az h=>?_)
    exact w c (jH rfl)<|q (jB c rfl rfl)<|P (!(ad.1==0),ad) _ _ h (by exact⟨rfl,rfl,rfl,rfl⟩)
   ·exact o c<|o c<|o c<|o c<|o c<|q (nB c rfl rfl)<|P (false,V) _ _ h (by exact⟨rfl,rfl,rfl,rfl⟩)
 ·intro X al h
  intro D M m l j
  exact B<|Go.gP (g:=X) m l j ⟨.inr rfl,_,(iC Tryz.results191),h⟩
 ·intro X al h
  intro D M m l j
  exact Go.fP (g:=X) m l j ⟨.inl rfl,_,(iC Tryz.results191),h⟩
instance Lx {p0 H Q}:aj Tryz.prog 110 (mJ p0 H Q) [.pointer p0] H (λv H'=>∃ a,v=a/\Q a H'):=aT (mJ.eq_1 ..) Tryz.func110 Tryz.ntmps110
instance Ie {p0 H Q}:aj Tryz.prog 109 (mi p0 H Q) [.pointer p0] H (λv H'=>∃ m,v=VI m/\Q m H'):=⟨λh=>by
 unfold mi at h
 refine fZ Tryz.func109 rfl Tryz.ntmps109 (Nat.le_of_ble_eq_true rfl)<|?_
 intro D M e d c
 refine R<|od<|cT xZ rfl λa1 n l=>gY (h a1 n l) λh=>z<|s<|R<|q (mP rfl)<|c1 (cb h) (cu h) rfl λU O h=>gL rfl (by decide) (cb h) (cu h) rfl<|?_
 rintro V P ⟨_,rfl,h⟩
 refine z<|b<|?_
 refine nE (g:=()) h rfl (λ_ _ _ h=>h) rfl e d c trivial ?_ ?_<;>clear h
 ·rintro _ S t I ⟨x,A,rfl,h⟩
  refine⟨rfl,λp L T o=>?_⟩
  clear e d c
  intro D M e d c
  refine r<|q (aI rfl)<|z<|jQ (g:=()) o d c λM d c =>?_
  have e:Mk (some p) D M:=trivial
  refine b<|R<|q (mI rfl)<|q (eP rfl rfl)<|z<|J h (λf h=>?_) λf h=>?_
  ·exact C f rfl<|r<|y h λE i h=>q (a aR rfl i)<|q (de rfl rfl)<|st h bq rfl rfl λ_ h=>z<|B<|Go.gP (g:=()) e d c ⟨0,rfl,h⟩
  ·exact N f rfl<|K<|B<|Go.gP (g:=()) e d c ⟨0,rfl,h⟩
 ·intro w u h
  intro D M e d c
  exact B<|R<|y h λF j h=>q (a aR rfl j)<|st h bq rfl rfl λ_ h=>z<|y h λG k h=>Go.fP (g:=()) e d c ⟨.inl rfl,_,(mw Tryz.results109 (lv aR rfl k)),⟨_,rfl,h⟩⟩
 ,cP Tryz.func109 rfl rfl⟩
instance Jp {p0 H Q}:aj Tryz.prog 48 (fK p0 H Q) [.pointer p0] H (λv H'=>∃ c,v= .agg ([VI c.1,VI c.2.1,VI c.2.2.1,VI c.2.2.2.1,VI c.2.2.2.2.1,VI c.2.2.2.2.2.1,VI c.2.2.2.2.2.2.1,VI c.2.2.2.2.2.2.2.1,VI c.2.2.2.2.2.2.2.2.1,VI c.2.2.2.2.2.2.2.2.2]:List Value).toArray/\Q c H'):=⟨λh=>by
 unfold fK at h
 refine fZ Tryz.func48 rfl Tryz.ntmps48 (Nat.le_of_ble_eq_true rfl)<|?_
 intro D M i e d
 refine R<|od<|cT xZ rfl λa1 V T=>gY (h a1 V T) λh=>z<|s<|R<|q (mP rfl)<|q (je Tryz.underlying76 rfl rfl)<|z<|J h (λj h=>?_) λj h=>?_
 ·exact C j rfl<|R<|q (cH (cs:=[VI 0,VI 0,VI 0,VI 0,VI 0,VI 0,VI 0,VI 0,VI 0,VI 0]) iv xZ rfl rfl (by kernel_rfl))<|st h bq rfl rfl λ_ h=>z<|y h λx7 U h=>Go.fP (g:=()) i e d ⟨.inl rfl,_,(mw Tryz.results48 (pQ eY rfl U)),⟨_,rfl,h⟩⟩
 ·refine N j rfl<|K<|R<|q (mP rfl)<|y h λa9 k h=>q (n k rfl)<|q (f bB rfl)<|y h λal x h=>q (A eY rfl x)<|od<|cT xZ rfl λS P u=>gY (h S P u) λh=>st h bq rfl rfl λ_ h=>z<|s<|dr gz<|p 0 rfl (mP rfl)<|y h λaf l h=>p 1 rfl (n l rfl)<|p 2 rfl (f bB rfl)<|y h λam E h=>pl 3 rfl (a aR rfl E)<|p 5 rfl (mP rfl)<|y h λag m h=>p 6 rfl (n m rfl)<|p 7 rfl (f bB rfl)<|y h λan F h=>pl 8 rfl (a aR rfl F)<|po 4 rfl<|d1 (cb h) (cu h) rfl λaw aa h=>t h λw h=>re (rr rfl rfl (a aR rfl w)<|rl [4]<|rfl)<|p 10 rfl (f bB rfl)<|po 9 rfl<|d1 (cb h) (cu h) rfl λax ab h=>re (rl [9]<|rfl)<|po 11 rfl<|dS h bq rfl rfl λ_ h=>re rfl<|p 12 rfl (f bB rfl)<|po 13 rfl<|dS h bq rfl rfl λ_ h=>re rfl<|Z<|s<|R<|q (mP rfl)<|y h λah o h=>q (n o rfl)<|q (f bB rfl)<|y h λao G h=>q (a aR rfl G)<|gL rfl (by decide) (cb h) (cu h) rfl<|?_
  rintro ay ac ⟨_,rfl,h⟩
  refine z<|b<|?_
  refine nE (g:=()) h rfl (λ_ _ _ h=>h) rfl i e d trivial ?_ ?_<;>clear h
  ·rintro _ ai ad az ⟨ap,aq,rfl,h⟩
   refine⟨rfl,λY Bx rz X=>?_⟩
   clear i e d
   intro D M i e d
   refine K<|jQ (g:=()) X e d λM e d =>?_
   have i:Mk (some Y) D M:=trivial
   exact b<|r<|q (f bB rfl)<|y h λar I h=>q (a aR rfl I)<|q (de rfl rfl)<|q (f bB rfl)<|st h bq rfl rfl λ_ h=>z<|B<|Go.gP (g:=()) i e d ⟨0,rfl,h⟩
  ·intro ak ae h
   intro D M i e d
   exact B<|R<|y h λau L h=>q (A eY rfl L)<|st h bq rfl rfl λ_ h=>z<|y h λav O h=>Go.fP (g:=()) i e d ⟨.inl rfl,_,(mw Tryz.results48 (pQ eY rfl O)),⟨_,rfl,h⟩⟩
 ,cP Tryz.func48 rfl rfl⟩
instance Ty {p0 H Q}:aj Tryz.prog 104 (zL p0 H Q) [.agg ([VI p0.1,VI p0.2.1,VI p0.2.2.1,VI p0.2.2.2.1,VI p0.2.2.2.2.1,VI p0.2.2.2.2.2.1,VI p0.2.2.2.2.2.2.1,Sl.v p0.2.2.2.2.2.2.2]:List Value).toArray] H (λv H'=>∃ a b,v= .tuple #[.agg ([VI a.1,VI a.2.1,VI a.2.2.1,VI a.2.2.2.1,Sl.v a.2.2.2.2]:List Value).toArray,.bool b]/\Q a b H'):=aT (zL.eq_1 ..) Tryz.func104 Tryz.ntmps104
instance Ih {p0 H Q}:aj Tryz.prog 289 (j0 p0 H Q) [.pointer p0] H (λv H'=>∃ a,v=VI a/\Q a H'):=aT (j0.eq_1 ..) Tryz.func289 Tryz.ntmps289
end
end Go.Proofs.YtbijlklgbfminaaGreat
