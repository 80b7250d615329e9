import Derived.Test.YtbijlklgbfminaaGreatA11
set_option linter.unusedVariables false
set_option linter.unusedSimpArgs false
namespace Go.Proofs.YtbijlklgbfminaaGreat
section
open Go Go.Kx Go.Proofs Go.Kx.Au Go.Kx.W
set_option maxRecDepth 20000
set_option maxHeartbeats 2000000
instance Ii {p0 p1 p2 H Q}:aj Tryz.prog 290 (j1 p0 p1 p2 H Q) [.pointer p0,Sl.v p1,Sl.v p2] H (λv H'=>∃ r0,v=VI r0/\Q r0 H'):=⟨λh=>by
 unfold j1 at h
 refine fZ Tryz.func290 rfl Tryz.ntmps290 (Nat.le_of_ble_eq_true rfl)<|?_
 intro D M j d i
 refine R<|od<|cE (cs:=[.pointer p0]) rfl rfl λa1 H2 bf=>gY (h a1 H2 bf) λh=>od<|cT xZ rfl λa4 H5 bg=>gY (h a4 H5 bg) λh=>z<|s<|dr gz<|y h λx7 bh h=>pl 0 rfl (a aR rfl bh)<|y h λa9 aC h=>p 1 rfl (n aC rfl)<|p 2 rfl (f bB rfl)<|p 3 rfl (f bB rfl)<|y h λbj aM h=>pl 4 rfl (a aR rfl aM)<|y h λb5 aN h=>pl 5 rfl (a aR rfl aN)<|y h λbV aD h=>p 6 rfl (n aD rfl)<|p 7 rfl (f bB rfl)<|p 8 rfl (f bB rfl)<|y h λbk aO h=>pl 9 rfl (a aR rfl aO)<|y h λb6 aP h=>pl 10 rfl (a aR rfl aP)<|y h λbW aE h=>p 11 rfl (n aE rfl)<|p 12 rfl (f bB rfl)<|p 13 rfl (f bB rfl)<|y h λbl aQ h=>pl 14 rfl (a aR rfl aQ)<|p 15 rfl (mS rfl)<|p 16 rfl (mS rfl)<|p 17 rfl (cH (cs:=[VI bj,VI bk,VI bl,Sl.v p1,Sl.v p2]) iv xZ rfl rfl (by kernel_rfl))<|po 18 rfl<|tC (cb h) (cu h) rfl<|?_
 rintro _ bP ⟨bm,bn,cq,rfl,h⟩
 refine re (rl [17,18]<|rl [11,12,13,14,17,18]<|rl [17,18]<|rl [6,7,8,9,17,18]<|rl [17,18]<|rl [1,2,3,4,17,18]<|rfl)<|p 19 rfl (mT rfl)<|p 20 rfl (e rfl rfl)<|p 21 rfl (e rfl rfl)<|p 22 rfl (e rfl rfl)<|p 23 rfl (aS rfl)<|p 24 rfl (aI rfl)<|p 25 rfl (aI rfl)<|Z<|s<|R<|q (mI rfl)<|q (eP rfl rfl)<|z<|J h (λm h=>?_) λm h=>?_
 ·exact C m rfl<|R<|q (mI rfl)<|st h bq rfl rfl λ_ h=>z<|y h λb7 aT h=>Go.fP (g:=()) j d i ⟨.inl rfl,_,(mw Tryz.results290 (lv aR rfl aT)),⟨_,rfl,h⟩⟩
 ·refine N m rfl<|K<|s<|?_
  refine nk 1 (λ_=>()) (λρ (az:Addr)=>ρ 2=Sl.v p2/\ρ 3= .pointer (some a1)/\ρ 6= .pointer (some a4)/\ρ 7=Sl.v bm/\ρ 8=VI bn/\ρ 10= .pointer (some az)) d h ?_ ?_<;>clear h
  ·intro az bQ ρ h hE
   obtain⟨S,c,k,T,U,l⟩:=hE
   intro D M j d i
   refine s<|R<|q (mS T)<|gL rfl (by decide) (cb h) (cu h) rfl<|?_
   rintro cr bR ⟨_,rfl,h⟩
   refine z<|b<|?_
   refine vD (g:=()) (c1:=.ret) h rfl (λ_ _ _ h=>h) rfl j d i trivial ?_ ?_ ?_<;>clear h
   ·rintro _ b4 bS ct ⟨b8,rfl,h⟩
    refine⟨rfl,λlp Bx rz hr=>?_⟩
    clear j d i
    intro D M j d i
    refine r<|q (aS rfl)<|z<|jQ (g:=()) hr d i λM d i =>?_
    have j:Mk (some lp) D M:=trivial
    refine b<|s<|s<|dr gz<|y h λb9 aU h=>pl 0 rfl (a aR c aU)<|y h λbX aF h=>p 1 rfl (n aF rfl)<|p 2 rfl (f bB rfl)<|y h λca aV h=>pl 3 rfl (a aR rfl aV)<|y h λcc aW h=>pl 4 rfl (a aR l aW)<|p 5 rfl (mS rfl)<|po 6 rfl<|d1 (cb h) (cu h) rfl λcv bT h=>re (rl [6]<|rl [6]<|rl [1,2,3,6]<|rfl)<|p 7 rfl (aI rfl)<|Z<|R<|q (mI rfl)<|q (eP rfl rfl)<|z<|J h (λo h=>?_) λo h=>?_
    ·exact C o rfl<|R<|q (mI rfl)<|st h bq k rfl λ_ h=>z<|Go.fP (g:=()) j d i ⟨1,⟨0,rfl,rfl⟩,h⟩
    ·exact N o rfl<|K<|r<|y h λcd aX h=>q (a aR l aX)<|q (de rfl rfl)<|st h bq l rfl λ_ h=>z<|B<|Go.gP (g:=()) j d i ⟨0,rfl,h⟩
   ·intro bi bd h
    intro D M j d i
    refine B<|s<|dr gz<|y h λce aY h=>pl 0 rfl (a aR c aY)<|y h λbY aG h=>p 1 rfl (n aG rfl)<|p 2 rfl (f bB rfl)<|y h λcf aZ h=>pl 3 rfl (a aR rfl aZ)<|y h λcg a0 h=>pl 4 rfl (a aR c a0)<|y h λbZ aH h=>p 5 rfl (n aH rfl)<|p 6 rfl (f bB rfl)<|p 7 rfl (f bB rfl)<|y h λch a2 h=>pl 8 rfl (a aR rfl a2)<|y h λci a3 h=>pl 9 rfl (a aR c a3)<|y h λb0 aJ h=>p 10 rfl (n aJ rfl)<|p 11 rfl (f bB rfl)<|p 12 rfl (f bB rfl)<|y h λcj a5 h=>pl 13 rfl (a aR rfl a5)<|po 14 rfl<|tC (cb h) (cu h) rfl<|?_
    rintro _ bU ⟨rfl,h⟩
    exact re (rl [14]<|rl [10,11,12,13,14]<|rl [14]<|rl [5,6,7,8,14]<|rl [14]<|rl [1,2,3,14]<|rfl)<|Z<|s<|dr gz<|y h λck a6 h=>pl 0 rfl (a aR c a6)<|y h λcl a7 h=>pl 1 rfl (a aR c a7)<|y h λcm a8 h=>pl 2 rfl (a aR c a8)<|y h λcn ba h=>pl 3 rfl (a aR c ba)<|y h λb1 aK h=>p 4 rfl (n aK rfl)<|p 5 rfl (f bB rfl)<|p 6 rfl (f bB rfl)<|y h λco bb h=>pl 7 rfl (a aR rfl bb)<|p 8 rfl (mS S)<|p 9 rfl (ju Tryz.underlying192 rfl (qo rfl))<|y h λcp bc h=>pl 11 rfl (a aR c bc)<|y h λb2 aL h=>p 12 rfl (n aL rfl)<|p 13 rfl (f bB rfl)<|p 14 rfl (f bB rfl)<|y h λbC aw h=>pl 15 rfl (a aR rfl aw)<|p 16 rfl (de rfl rfl)<|p 17 rfl (mI U)<|po 10 rfl<|d1 (cb h) (cu h) rfl λbL br h=>t h λaf h=>t h λag h=>t h λah h=>t h λai h=>t h λak h=>re (rr rfl rfl (a aR rfl af)<|rr rfl rfl (a aR c ag)<|rl [10]<|rl [4,5,6,7,10]<|rr rfl rfl (a aR c ah)<|rr rfl rfl (a aR c ai)<|rr rfl rfl (a aR c ak)<|rfl)<|y h λbu V h=>p 18 rfl (n V rfl)<|p 19 rfl (f bB rfl)<|p 20 rfl (f bB rfl)<|po 21 rfl<|dS h bq rfl rfl λ_ h=>t h λal h=>t h λam h=>re (rl [21]<|rl [12,13,14,15,21]<|rr rfl rfl (a aR c al)<|rr rfl rfl (a aR c am)<|rl [21]<|rfl)<|y h λbv X h=>p 22 rfl (n X rfl)<|p 23 rfl (f bB rfl)<|p 24 rfl (f bB rfl)<|po 25 rfl<|dS h bq rfl rfl λ_ h=>t h λan h=>re (rr rfl rfl (a aR c an)<|rl [25]<|rfl)<|y h λbw Y h=>p 26 rfl (n Y rfl)<|p 27 rfl (f bB rfl)<|p 28 rfl (f bB rfl)<|po 29 rfl<|dS h bq rfl rfl λ_ h=>re (rl [29]<|rfl)<|Z<|R<|st h bq k rfl λ_ h=>z<|y h λbD ax h=>Go.fP (g:=()) j d i ⟨.inl rfl,_,(mw Tryz.results290 (lv aR k ax)),⟨_,rfl,h⟩⟩
   ·intro bi bd h
    intro D M j d i
    exact y h λbE ay h=>Go.fP (g:=()) j d i ⟨.inl rfl,_,(mw Tryz.results290 (lv aR k ay)),⟨_,rfl,h⟩⟩
  ·intro b3 O h
   refine dr gz<|y h λbF u h=>pl 0 rfl (a aR rfl u)<|y h λbx aa h=>p 1 rfl (n aa rfl)<|p 2 rfl (f bB rfl)<|y h λbG w h=>pl 3 rfl (a aR rfl w)<|y h λbH x h=>pl 4 rfl (a aR rfl x)<|y h λbz ab h=>p 5 rfl (n ab rfl)<|p 6 rfl (f bB rfl)<|p 7 rfl (f bB rfl)<|y h λbI A h=>pl 8 rfl (a aR rfl A)<|y h λbJ E h=>pl 10 rfl (a aR rfl E)<|y h λbA ac h=>p 11 rfl (n ac rfl)<|p 12 rfl (f bB rfl)<|p 13 rfl (f bB rfl)<|y h λbK F h=>pl 14 rfl (a aR rfl F)<|?_
   refine dN (R:=[9,16]) (by decide+kernel) ⟨?_,?_,trivial⟩
   ·refine bM (S2:=32767) rfl (by decide+kernel) (by decide) rfl ?_
    exact d1 (cb h) (cu h) rfl λbN bs h=>t h λao h=>t h λap h=>re (rr rfl rfl (a aR rfl ao)<|rr rfl rfl (a aR rfl ap)<|rl [9]<|rl [5,6,7,8,9]<|rl [9]<|rl [1,2,3,9]<|rfl)<|p 15 rfl (de rfl rfl)<|po 16 rfl<|cT xZ rfl λG aA ad=>gY (h G aA ad) λh=>t h λaq h=>t h λar h=>re (rr rfl rfl (a aR rfl aq)<|rr rfl rfl (a aR rfl ar)<|rfl)<|po 17 rfl<|dS h bq rfl rfl λ_ h=>re (rl [17]<|rl [17]<|rfl)<|Z<|O G _ _ h (by exact⟨rfl,rfl,rfl,rfl,rfl,rfl⟩) _ _ j d i
   ·refine bM (S2:=97791) rfl (by decide+kernel) (by decide) rfl ?_
    refine oY xZ rfl λaB I be L P=>?_
    refine re (rr rfl rfl (a aR rfl F)<|rr rfl rfl (a aR rfl E)<|rr rfl rfl (a aR rfl A)<|rr rfl rfl (a aR rfl x)<|rr rfl rfl (a aR rfl w)<|rr rfl rfl (a aR rfl u)<|rfl)<|po 9 rfl<|d1 (cb h) (cu h) rfl λbO bt h=>t h λau h=>t h λav h=>re (rr rfl rfl (a aR rfl au)<|rr rfl rfl (a aR rfl av)<|rl [9]<|rl [5,6,7,8,9]<|rl [9]<|rl [1,2,3,9]<|rfl)<|p 15 rfl (de rfl rfl)<|?_
    refine cJ L λae=>?_
    exact gY (h I _ ⟨aB,ae,P,rfl⟩) λh=>t h λbo h=>t h λbp h=>po 17 rfl<|dS h bq rfl rfl λ_ h=>re (rl [17]<|rl [17]<|rfl)<|Z<|O I _ _ h (by exact⟨rfl,rfl,rfl,rfl,rfl,rfl⟩) _ _ j d i
 ,cP Tryz.func290 rfl rfl⟩
instance Ij {p0 H Q}:aj Tryz.prog 255 (kA p0 H Q) [.pointer p0] H (λv H'=>∃ a,v=VI a/\Q a H'):=aT (kA.eq_1 ..) Tryz.func255 Tryz.ntmps255
instance Ri {p0 H Q}:aj Tryz.prog 246 (yH p0 H Q) [.pointer p0] H (λv H'=>∃ a,v= .bool a/\Q a H'):=aT (yH.eq_1 ..) Tryz.func246 Tryz.ntmps246
instance Jq {p0 p1 H Q}:aj Tryz.prog 193 (rF p0 p1 H Q) [.pointer p0,VI p1] H (λv H'=>∃ a b,v= .tuple #[Sl.v a,VI b]/\Q a b H'):=aT (rF.eq_1 ..) Tryz.func193 Tryz.ntmps193
end
end Go.Proofs.YtbijlklgbfminaaGreat
