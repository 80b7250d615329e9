import Derived.Test.YtbijlklgbfminaaGreatA20
set_option linter.unusedVariables false
set_option linter.unusedSimpArgs false
namespace Go.Proofs.YtbijlklgbfminaaGreat
section
open Go Go.Kx Go.Proofs Go.Kx.Au Go.Kx.W
set_option maxRecDepth 20000
set_option maxHeartbeats 2000000
theorem yZ {γ:Type} (c0:Addr) (Y:List Value->γ->PH->(Nat->γ->PH->Prop)->Prop) (g:γ) (H:PH) (Q:Nat->γ->PH->Prop) (h:qT c0 Y g H Q):
 iH Tryz.prog (.func (.func 262) #[] #[.pointer (some c0)]) Y g H Q:=by
 unfold qT at h
 refine kX (fi:=[]) (ca:=[.pointer (some c0)]) QT Tryz.func262 rfl Tryz.ntmps262 (Nat.le_of_ble_eq_true rfl) λlz Tk hd hy =>?_
 generalize an:Value.func (.yield lz) #[] #[]=yv
 intro D M l k j
 refine s<|R<|y h λx1 al h=>q (a aR rfl al)<|q (je Tryz.underlying279 rfl rfl)<|z<|J h (λv h=>?_) λv h=>?_
 ·exact C v rfl<|Go.fP (g:=(0,g)) l k j ⟨.inl rfl,_,(iC Tryz.results262),h⟩
 ·refine N v rfl<|K<|R<|y h λx4 am h=>q (a aR rfl am)<|c2 (cb h) (cu h) rfl λy7 y8 H6 h=>q (mT rfl)<|q (e rfl rfl)<|q (e rfl rfl)<|od<|cT xZ rfl λa9 ag I=>gY (h a9 ag I) λh=>st h bq rfl rfl λ_ h=>q (aB rfl)<|z<|R<|y h λay P h=>q (a aR rfl P)<|y h λaz S h=>q (A eY rfl S)<|y h λav E h=>q (n E rfl)<|q (f bB rfl)<|st h bq rfl rfl λ_ h=>z<|b<|qu (g:=(0,g)) (λi=>i.2) (λρ (i:Bool×(Nat×γ))=>ρ 0=yv/\ρ 1= .pointer (some c0)/\ρ 3= .pointer (some a9)/\ρ 4= .bool i.1) l k j h ⟨rfl,rfl,rfl,rfl⟩ rfl<|?_
  clear h
  intro ρ i ap af hE h m
  obtain⟨u,c,d,w⟩:=hE
  intro D M l k j
  refine s<|R<|q (mB w)<|z<|J h (λo h=>?_) λo h=>?_
  ·refine C o rfl<|K<|s<|b<|R<|y h λaA T h=>q (a aR c T)<|y h λaC U h=>q (A eY d U)<|c3 (cb h) (cu h) rfl λaL aM aN aq h=>q (mT rfl)<|q (e rfl rfl)<|q (e rfl rfl)<|q (e rfl rfl)<|od<|cT xZ rfl λaj ah L=>gY (h aj ah L) λh=>od<|cT xZ rfl λak ai O=>gY (h ak ai O) λh=>st h bq rfl rfl λ_ h=>st h bq rfl rfl λ_ h=>q (aB rfl)<|z<|s<|R<|q (mB rfl)<|q (jH rfl)<|z<|J h (λp h=>?_) λp h=>?_
   ·exact C p rfl<|Go.fP (g:=i.2) l k j ⟨.inl rfl,_,(iC Tryz.results262),h⟩
   ·refine N p rfl<|K<|R<|y h λaD V h=>q (a aR c V)<|y h λaE Z h=>q (A eY rfl Z)<|y h λaw F h=>q (n F rfl)<|q (f bB rfl)<|st h bq rfl rfl λ_ h=>z<|R<|y h λaF aa h=>q (A eY rfl aa)<|c2 (cb h) (cu h) rfl λaO ao ar h=>q (mT rfl)<|q (e rfl rfl)<|q (e rfl rfl)<|q (aI rfl)<|q (aB rfl)<|z<|R<|q (mB rfl)<|q (jH rfl)<|q (aB rfl)<|z<|R<|q (lI u)<|y h λaG ab h=>q (A eY d ab)<|y h λaH ac h=>q (A eY rfl ac)<|od<|nD (q:=i.2) hy j (Eq.trans rfl an.symm) rfl h λx au h=>q (jH rfl)<|z<|J h (λt h=>?_) λt h=>?_
    ·exact C t rfl<|Go.fP (g:=x) l k j ⟨.inl rfl,_,(iC Tryz.results262),h⟩
    ·exact N t rfl<|K<|B<|r<|y h λaJ ad h=>q (a aR c ad)<|y h λax G h=>q (n G rfl)<|q (f bB rfl)<|y h λaK ae h=>q (A eY rfl ae)<|st h bq d rfl λ_ h=>z<|m (!ao,x) _ _ h (by exact⟨u,c,d,rfl⟩) _ _ l k j
  ·exact N o rfl<|X rfl<|Go.gP (g:=i.2) l k j ⟨.inr rfl,_,(iC Tryz.results262),h⟩
instance L0 {p0 H Q}:aj Tryz.prog 208 (pW p0 H Q) [.pointer p0] H (λv H'=>∃ a,v=a/\Q a H'):=aT (pW.eq_1 ..) Tryz.func208 Tryz.ntmps208
theorem wq {γ:Type} (c0:Addr) (Y:List Value->γ->PH->(Nat->γ->PH->Prop)->Prop) (g:γ) (H:PH) (Q:Nat->γ->PH->Prop) (h:∀yv,nv c0 yv Y g H Q):
 iH Tryz.prog (.func (.func 206) #[] #[.pointer (some c0)]) Y g H Q:=by
 unfold nv at h
 refine kX (fi:=[]) (ca:=[.pointer (some c0)]) QU Tryz.func206 rfl Tryz.ntmps206 (Nat.le_of_ble_eq_true rfl) λlz Tk hd hy=>gY (h (.func (.yield lz) #[] #[])) λh=>?_
 generalize aL:Value.func (.yield lz) #[] #[]=yv at h ⊢
 have bt:yv.cells=[yv].toArray:=by rw[←aL];rfl
 intro D M k d i
 refine R<|od<|cE (cs:=[yv]) rfl bt λa1 H2 bp=>gY (h a1 H2 bp) λh=>z<|s<|R<|y h λx4 br h=>q (a aR rfl br)<|q (je Tryz.underlying221 rfl rfl)<|z<|J h (λaf h=>?_) λaf h=>?_
 ·exact C af rfl<|Go.fP (g:=(0,g)) k d i ⟨.inl rfl,_,(iC Tryz.results206),h⟩
 ·refine N af rfl<|K<|s<|dr gz<|y h λx7 bs h=>pl 0 rfl (a aR rfl bs)<|y h λx9 a5 h=>pl 1 rfl (a aR rfl a5)<|y h λcd a6 h=>pl 2 rfl (a aR rfl a6)<|y h λb5 aQ h=>p 3 rfl (n aQ rfl)<|p 4 rfl (f bB rfl)<|y h λce a7 h=>pl 5 rfl (A eY rfl a7)<|y h λb6 aS h=>p 6 rfl (n aS rfl)<|p 7 rfl (f bB rfl)<|po 8 rfl<|dS h bq rfl rfl λ_ h=>t h λaZ h=>re (rl [8]<|rl [8]<|rr rfl rfl (a aR rfl aZ)<|rl [8]<|rfl)<|y h λb7 aT h=>p 9 rfl (n aT rfl)<|p 10 rfl (f bB rfl)<|po 11 rfl<|dS h bq rfl rfl λ_ h=>re (rl [11]<|rfl)<|Z<|R<|od<|cT xZ rfl λbl bh aV=>gY (h bl bh aV) λh=>st h bq rfl rfl λ_ h=>z<|b<|qu (g:=(0,g)) (λo=>o.2) (λL (o:Addr×(Nat×γ))=>L 1= .pointer (some c0)/\L 2= .pointer (some a1)/\L 3= .pointer (some o.1)) k d i h ⟨rfl,rfl,rfl⟩ rfl<|?_
  clear h
  intro L o bY bg hE h G
  obtain⟨j,O,u⟩:=hE
  intro D M k d i
  refine s<|R<|y h λcf a8 h=>q (a aR u a8)<|z<|J h (λI h=>?_) λI h=>?_
  ·refine C I rfl<|K<|s<|?_
   refine nk 1 (λab=>ab) (λL (ab:(Nat×γ))=>L 1= .pointer (some c0)/\L 2= .pointer (some a1)/\L 3= .pointer (some o.1)) d h ?_ ?_<;>clear h
   ·intro ab bZ L h hE
    obtain⟨ak,al,am⟩:=hE
    intro D M k d i
    exact R<|y h λcg a9 h=>q (a aR am a9)<|z<|r<|od<|cT xZ rfl λaK bi aW=>gY (h aK bi aW) λh=>st h bq rfl rfl λ_ h=>z<|G (aK,ab) _ _ h (by exact⟨ak,al,rfl⟩) _ _ k d i
   ·intro b9 ag h
    refine b<|s<|?_
    refine nk 1 (λF=>F.2) (λL (F:Addr×(Nat×γ))=>L 1= .pointer (some c0)/\L 2= .pointer (some a1)/\L 3= .pointer (some o.1)/\L 4= .pointer (some F.1)) d h ?_ ?_<;>clear h
    ·intro F b0 L h hE
     obtain⟨c,v,l,m⟩:=hE
     intro D M k d i
     refine R<|st h bq l rfl λ_ h=>z<|s<|R<|y h λch ba h=>q (a aR m ba)<|gL rfl (by decide) (cb h) (cu h) rfl<|?_
     rintro cp b1 ⟨_,rfl,h⟩
     refine z<|b<|?_
     refine vD (g:=F.2) (c1:=.ret) h rfl hd rfl k d i trivial ?_ ?_ ?_<;>clear h
     ·rintro _ aM b2 cq ⟨ci,cj,rfl,h⟩
      refine⟨rfl,λlp Bx rz hr=>?_⟩
      clear k d i
      intro D M k d i
      refine R<|od<|cT xZ rfl λbm bj aX=>gY (h bm bj aX) λh=>st h bq rfl rfl λ_ h=>z<|r<|od<|cT xZ rfl λbn bk aY=>gY (h bn bk aY) λh=>st h bq rfl rfl λ_ h=>z<|jQ (g:=aM) hr d i λM d i =>?_
      have k:Mk (some lp) D M:=trivial
      refine b<|s<|dr gz<|y h λck bb h=>pl 0 rfl (a aR c bb)<|y h λcl bc h=>pl 1 rfl (a aR c bc)<|y h λcm bd h=>pl 2 rfl (A eY rfl bd)<|y h λcn be h=>pl 3 rfl (a aR m be)<|po 4 rfl<|d1 (cb h) (cu h) rfl λcr b3 h=>t h λa0 h=>t h λa2 h=>t h λa3 h=>re (rl [4]<|rr rfl rfl (A eY rfl a0)<|rr rfl rfl (a aR c a2)<|rr rfl rfl (a aR c a3)<|rfl)<|po 5 rfl<|d2 (cb h) (cu h) rfl λct cv b4 h=>t h λa4 h=>re (rl [5]<|rl [5]<|rr rfl rfl (a aR c a4)<|rfl)<|p 6 rfl (mT rfl)<|p 7 rfl (e rfl rfl)<|p 8 rfl (e rfl rfl)<|y h λb8 aU h=>p 9 rfl (n aU rfl)<|p 10 rfl (f bB rfl)<|po 11 rfl<|dS h bq rfl rfl λ_ h=>re (rl [11]<|rfl)<|po 12 rfl<|dS h bq l rfl λ_ h=>re rfl<|Z<|R<|y h λco bf h=>q (a aR v bf)<|y h λbG aD h=>q (A eY rfl aD)<|y h λbH aE h=>q (A eY rfl aE)<|t h λav h=>od<|nD (q:=aM) hy i (Eq.trans (Eq.trans rfl av) aL.symm) rfl h λaj bu h=>q (jH rfl)<|z<|J h (λw h=>?_) λw h=>?_
      ·exact C w rfl<|Go.fP (g:=aj) k d i ⟨1,⟨0,rfl,rfl⟩,h⟩
      ·exact N w rfl<|K<|B<|Go.gP (g:=aj) k d i ⟨0,rfl,h⟩
     ·intro E aN h
      intro D M k d i
      refine B<|R<|y h λbI aF h=>q (a aR l aF)<|q (jH rfl)<|z<|J h (λx h=>?_) λx h=>?_
      ·exact C x rfl<|dr gz<|y h λbJ aG h=>pl 0 rfl (a aR c aG)<|y h λbK aH h=>pl 1 rfl (a aR c aH)<|y h λbL aI h=>pl 2 rfl (a aR m aI)<|y h λbN aJ h=>pl 4 rfl (a aR m aJ)<|po 3 rfl<|d1 (cb h) (cu h) rfl λbU bv h=>t h λax h=>t h λay h=>t h λaz h=>re (rr rfl rfl (a aR m ax)<|rl [3]<|rr rfl rfl (a aR c ay)<|rr rfl rfl (a aR c az)<|rfl)<|po 5 rfl<|d1 (cb h) (cu h) rfl λbV bw h=>t h λaA h=>t h λaB h=>re (rl [5]<|rr rfl rfl (a aR c aA)<|rr rfl rfl (a aR c aB)<|rfl)<|y h λbA an h=>p 6 rfl (n an rfl)<|p 7 rfl (f bB rfl)<|po 8 rfl<|dS h bq rfl rfl λ_ h=>t h λaC h=>re (rr rfl rfl (a aR c aC)<|rl [8]<|rfl)<|y h λbC ao h=>p 9 rfl (n ao rfl)<|p 10 rfl (f bB rfl)<|po 11 rfl<|dS h bq rfl rfl λ_ h=>re (rl [11]<|rfl)<|Z<|B<|ag E _ _ h (by exact⟨c,v,l⟩) _ _ k d i
      ·exact N x rfl<|K<|B<|ag E _ _ h (by exact⟨c,v,l⟩) _ _ k d i
     ·intro E aN h
      intro D M k d i
      exact Go.fP (g:=E) k d i ⟨.inl rfl,_,(iC Tryz.results206),h⟩
    ·intro cc ah h
     refine dr gz<|y h λbO P h=>pl 0 rfl (a aR j P)<|y h λbD ap h=>p 1 rfl (n ap rfl)<|p 2 rfl (f bB rfl)<|y h λbP S h=>pl 3 rfl (a aR rfl S)<|y h λbQ T h=>pl 4 rfl (a aR j T)<|y h λbE aq h=>p 5 rfl (n aq rfl)<|p 6 rfl (f bB rfl)<|y h λbR U h=>pl 7 rfl (a aR rfl U)<|y h λbS V h=>pl 8 rfl (a aR j V)<|y h λbF ar h=>p 9 rfl (n ar rfl)<|p 10 rfl (f bB rfl)<|y h λbT aa h=>pl 11 rfl (A eY rfl aa)<|?_
     refine dN (R:=[12,13]) (by decide+kernel) ⟨?_,?_,trivial⟩
     ·refine bM (S2:=8191) rfl (by decide+kernel) (by decide) rfl ?_
      exact d1 (cb h) (cu h) rfl λbW bx h=>re (rl [12]<|rl [9,10,11,12]<|rl [12]<|rl [5,6,7,12]<|rl [12]<|rl [1,2,3,12]<|rfl)<|po 13 rfl<|cT xZ rfl λac aO au=>gY (h ac aO au) λh=>re rfl<|po 14 rfl<|dS h bq rfl rfl λ_ h=>re rfl<|Z<|ah (ac,o.2) _ _ h (by exact⟨j,O,u,rfl⟩) _ _ k d i
     ·refine bM (S2:=12287) rfl (by decide+kernel) (by decide) rfl ?_
      refine oY xZ rfl λaP ad bo ae ai=>?_
      refine re (rr rfl rfl (A eY rfl aa)<|rr rfl rfl (a aR j V)<|rr rfl rfl (a aR rfl U)<|rr rfl rfl (a aR j T)<|rr rfl rfl (a aR rfl S)<|rr rfl rfl (a aR j P)<|rfl)<|po 12 rfl<|d1 (cb h) (cu h) rfl λbX bz h=>re (rl [12]<|rl [9,10,11,12]<|rl [12]<|rl [5,6,7,12]<|rl [12]<|rl [1,2,3,12]<|rfl)<|?_
      refine cJ ae λaw=>?_
      exact gY (h ad _ ⟨aP,aw,ai,rfl⟩) λh=>po 14 rfl<|dS h bq rfl rfl λ_ h=>re rfl<|Z<|ah (ad,o.2) _ _ h (by exact⟨j,O,u,rfl⟩) _ _ k d i
  ·exact N I rfl<|X rfl<|Go.gP (g:=o.2) k d i ⟨.inr rfl,_,(iC Tryz.results206),h⟩
instance Ir {p0 H Q}:aj Tryz.prog 143 (mg p0 H Q) [.pointer p0] H (λv H'=>∃ a,v=a/\Q a H'):=aT (mg.eq_1 ..) Tryz.func143 Tryz.ntmps143
instance LD {p0 p1 p2 H Q}:aj Tryz.prog 147 (jg p0 p1 p2 H Q) [.pointer p0,.agg ([VI p1.1,VI p1.2.1,VI p1.2.2.1,VI p1.2.2.2]:List Value).toArray,VI p2] H (λv H'=>v= .tuple #[]/\Q H'):=aT (jg.eq_1 ..) Tryz.func147 Tryz.ntmps147
instance HY {p0 H Q}:aj Tryz.prog 78 (lY p0 H Q) [.pointer p0] H (λv H'=>∃ r0,v=VI r0/\Q r0 H'):=⟨λh=>by
 unfold lY at h
 refine fZ Tryz.func78 rfl Tryz.ntmps78 (Nat.le_of_ble_eq_true rfl)<|?_
 intro D M i c d
 refine R<|od<|cE (cs:=[.pointer p0]) rfl rfl λa1 H2 bm=>gY (h a1 H2 bm) λh=>q (aI rfl)<|z<|s<|dr gz<|y h λx4 bn h=>pl 0 rfl (a aR rfl bn)<|y h λa6 bl h=>p 1 rfl (n bl rfl)<|p 2 rfl (f bB rfl)<|y h λx8 bo h=>pl 3 rfl (a aR rfl bo)<|y h λce aX h=>pl 4 rfl (a aR rfl aX)<|y h λb5 aL h=>p 5 rfl (n aL rfl)<|p 6 rfl (f bB rfl)<|y h λcf aY h=>pl 7 rfl (a aR rfl aY)<|y h λcg aZ h=>pl 8 rfl (a aR rfl aZ)<|y h λb6 aM h=>p 9 rfl (n aM rfl)<|p 10 rfl (f bB rfl)<|p 11 rfl (f bB rfl)<|y h λch a0 h=>pl 12 rfl (A eY rfl a0)<|po 13 rfl<|d1 (cb h) (cu h) rfl λcx bX h=>re (rl [13]<|rl [9,10,11,12,13]<|rl [13]<|rl [5,6,7,13]<|rl [13]<|rl [1,2,3,13]<|rfl)<|p 14 rfl (aP rfl)<|Z<|R<|y h λci a2 h=>q (a aR rfl a2)<|y h λb7 aN h=>q (n aN rfl)<|q (f bB rfl)<|q (f bB rfl)<|q (f bB rfl)<|y h λcj a3 h=>q (a aR rfl a3)<|od<|cT xZ rfl λbk bg aS=>gY (h bk bg aS) λh=>st h bq rfl rfl λ_ h=>z<|s<|R<|q (mP rfl)<|gL rfl (by decide) (cb h) (cu h) rfl<|?_
 rintro cy bY ⟨_,rfl,h⟩
 refine z<|b<|?_
 refine nE (g:=()) h rfl (λ_ _ _ h=>h) rfl i c d trivial ?_ ?_<;>clear h
 ·rintro _ cd bZ cz ⟨ck,cl,rfl,h⟩
  refine⟨rfl,λlp Bx rz hr=>?_⟩
  clear i c d
  intro D M i c d
  refine R<|od<|cT xZ rfl λP bh aT=>gY (h P bh aT) λh=>st h bq rfl rfl λ_ h=>z<|r<|od<|cT xZ rfl λS bi aU=>gY (h S bi aU) λh=>st h bq rfl rfl λ_ h=>z<|jQ (g:=()) hr c d λM c d =>?_
  have i:Mk (some lp) D M:=trivial
  refine b<|s<|R<|q (f bB rfl)<|y h λcm a4 h=>q (a aR rfl a4)<|y h λcn a5 h=>q (a aR rfl a5)<|q (pM rfl rfl)<|z<|?_
  refine nk 1 (λ_=>()) (λk (bp:Unit)=>k 1= .pointer (some a1)/\k 2=VI 0/\k 5= .pointer (some P)/\k 6= .pointer (some S)) c h ?_ ?_<;>clear h
  ·intro bp b0 k h hE
   obtain⟨T,ak,E,U⟩:=hE
   intro D M i c d
   refine s<|dr gz<|y h λco a7 h=>pl 0 rfl (a aR T a7)<|y h λb8 aO h=>p 1 rfl (n aO rfl)<|p 2 rfl (f bB rfl)<|y h λcp a8 h=>pl 3 rfl (a aR rfl a8)<|p 4 rfl (f bB E)<|y h λcq a9 h=>pl 5 rfl (a aR rfl a9)<|p 7 rfl (f bB E)<|y h λcr ba h=>pl 8 rfl (a aR rfl ba)<|po 6 rfl<|d1 (cb h) (cu h) rfl λcA b1 h=>t h λaW h=>re (rr rfl rfl (a aR rfl aW)<|rl [6]<|rl [6]<|rl [1,2,3,6]<|rfl)<|p 9 rfl (de rfl rfl)<|p 10 rfl (aI rfl)<|Z<|s<|R<|q (f bB U)<|y h λac bb h=>q (a aR rfl bb)<|q (ju Tryz.underlying226 rfl (qo rfl))<|q (mI rfl)<|z<|b<|qu (g:=()) (λ_=>()) (λk (x:Int×Int)=>k 1= .pointer (some a1)/\k 2=VI 0/\k 5= .pointer (some P)/\k 6= .pointer (some S)/\k 7=VI x.1/\k 55=Sl.v ac/\k 56=VI (ac.len:Int)/\k 57=VI x.2) i c d h ⟨T,ak,E,U,rfl,rfl,rfl,rfl⟩ rfl<|?_
   clear h
   intro k x b2 bf hE h L
   obtain⟨l,V,m,o,Y,u,w,j⟩:=hE
   intro D M i c d
   refine R<|q (jO j w)<|z<|s<|J h (λO h=>?_) λO h=>?_
   ·refine C O rfl<|K<|s<|b<|R<|y h λb9 aQ h=>q (kj dB aQ u j)<|y h λct bc h=>q (A eY rfl bc)<|od<|cT xZ rfl λaK bj aV=>gY (h aK bj aV) λh=>st h bq rfl rfl λ_ h=>z<|s<|R<|y h λcv bd h=>q (A eY rfl bd)<|c1 (cb h) (cu h) rfl λcB b3 h=>z<|?_
    refine nk 1 (λ_=>()) (λk (ai:Int)=>k 1= .pointer (some a1)/\k 2=VI 0/\k 5= .pointer (some P)/\k 6= .pointer (some S)/\k 7=VI ai/\k 9= .pointer (some aK)/\k 55=Sl.v ac/\k 56=VI (ac.len:Int)/\k 57=VI x.2) c h ?_ ?_<;>clear h
    ·intro ai b4 k h hE
     obtain⟨aa,al,am,an,ab,ao,ad,ae,af⟩:=hE
     intro D M i c d
     exact r<|y h λcw be h=>q (a aR aa be)<|y h λbG av h=>q (A eY ao av)<|q (mI ab)<|c0 (cb h) (cu h) rfl λbr h=>z<|B<|r<|q (de af rfl)<|q (mI rfl)<|z<|L (ai,IntKind.wrap .i64 (x.2+1)) _ _ h (by exact⟨aa,al,am,an,ab,ad,ae,rfl⟩) _ _ i c d
    ·intro cc ah h
     refine J h (λF h=>?_) λF h=>?_
     ·exact C F rfl<|r<|q (mI Y)<|q (de rfl rfl)<|q (aI rfl)<|z<|ah (IntKind.wrap .i64 (x.1+1)) _ _ h (by exact⟨l,V,m,o,rfl,rfl,u,w,j⟩) _ _ i c d
     ·exact N F rfl<|K<|ah x.1 _ _ h (by exact⟨l,V,m,o,Y,rfl,u,w,j⟩) _ _ i c d
   ·refine N O rfl<|X rfl<|s<|dr gz<|y h λbH aw h=>pl 0 rfl (a aR l aw)<|y h λbC ap h=>p 1 rfl (n ap rfl)<|p 2 rfl (f bB rfl)<|y h λbI ax h=>pl 3 rfl (a aR rfl ax)<|p 4 rfl (f bB m)<|y h λbJ ay h=>pl 5 rfl (a aR rfl ay)<|p 6 rfl (f bB o)<|y h λbK az h=>pl 7 rfl (a aR rfl az)<|po 8 rfl<|tC (cb h) (cu h) rfl<|?_
    rintro _ bs ⟨rfl,h⟩
    refine re (rl [8]<|rl [8]<|rl [8]<|rl [1,2,3,8]<|rfl)<|Z<|R<|y h λbL aA h=>q (A eY o aA)<|c2 (cb h) (cu h) rfl λbT bU bt h=>q (mT rfl)<|q (e rfl rfl)<|q (e rfl rfl)<|q (aI rfl)<|q (aB rfl)<|z<|R<|q (mB rfl)<|z<|J h (λG h=>?_) λG h=>?_
    ·refine C G rfl<|dr gz<|y h λbM aC h=>pl 0 rfl (a aR l aC)<|y h λbD aq h=>p 1 rfl (n aq rfl)<|p 2 rfl (f bB rfl)<|y h λbN aD h=>pl 3 rfl (a aR rfl aD)<|p 4 rfl (f bB m)<|y h λbO aE h=>pl 5 rfl (a aR rfl aE)<|po 6 rfl<|tC (cb h) (cu h) rfl<|?_
     rintro _ bu ⟨rfl,h⟩
     exact re (rl [6]<|rl [6]<|rl [1,2,3,6]<|rfl)<|Z<|B<|Go.gP (g:=()) i c d ⟨0,rfl,h⟩
    ·exact N G rfl<|K<|B<|Go.gP (g:=()) i c d ⟨0,rfl,h⟩
  ·intro ca ag h
   refine J h (λI h=>?_) λI h=>?_
   ·exact C I rfl<|R<|q (f bB rfl)<|y h λbP aF h=>q (a aR rfl aF)<|st h bq rfl rfl λ_ h=>z<|r<|y h λbQ aG h=>q (a aR rfl aG)<|c0 (cb h) (cu h) rfl λbv h=>z<|ag () _ _ h (by exact⟨rfl,rfl,rfl,rfl⟩) _ _ i c d
   ·exact N I rfl<|K<|ag () _ _ h (by exact⟨rfl,rfl,rfl,rfl⟩) _ _ i c d
 ·intro bF bw h
  intro D M i c d
  exact B<|s<|dr gz<|y h λbR aH h=>pl 0 rfl (a aR rfl aH)<|p 1 rfl (mP rfl)<|po 2 rfl<|d1 (cb h) (cu h) rfl λbV bx h=>t h λau h=>re (rr rfl rfl (a aR rfl au)<|rfl)<|y h λbE ar h=>p 3 rfl (n ar rfl)<|p 4 rfl (f bB rfl)<|po 5 rfl<|dS h bq rfl rfl λ_ h=>re (rl [5]<|rfl)<|Z<|R<|y h λbS aJ h=>q (a aR rfl aJ)<|c0 (cb h) (cu h) rfl λbz h=>z<|R<|q (mP rfl)<|c1 (cb h) (cu h) rfl λbW bA h=>q (aI rfl)<|z<|Go.fP (g:=()) i c d ⟨.inl rfl,_,(LL Tryz.results78 rfl),⟨_,rfl,h⟩⟩
 ,cP Tryz.func78 rfl rfl⟩
instance Is {p0 H Q}:aj Tryz.prog 79 (mh p0 H Q) [.pointer p0] H (λv H'=>∃ r0 r1,v= .tuple #[.pointer r0,VI r1]/\Q r0 r1 H'):=⟨λh=>by
 unfold mh at h
 refine fZ Tryz.func79 rfl Tryz.ntmps79 (Nat.le_of_ble_eq_true rfl)<|?_
 intro D M o j m
 refine R<|od<|cE (cs:=[.pointer p0]) rfl rfl λa1 H2 bV=>gY (h a1 H2 bV) λh=>q (aP rfl)<|q (aI rfl)<|z<|s<|R<|y h λx4 bW h=>q (a aR rfl bW)<|y h λa6 bU h=>q (n bU rfl)<|q (f bB rfl)<|y h λx8 bX h=>q (a aR rfl bX)<|gL rfl (by decide) (cb h) (cu h) rfl<|?_
 rintro dI cW ⟨_,rfl,h⟩
 refine z<|b<|?_
 refine nE (g:=()) h rfl (λ_ _ _ h=>h) rfl o j m trivial ?_ ?_<;>clear h
 ·rintro _ dh cX dJ ⟨dj,dk,rfl,h⟩
  refine⟨rfl,λlp Bx rz hr=>?_⟩
  clear o j m
  intro D M o j m
  refine r<|q (aI rfl)<|z<|jQ (g:=()) hr j m λM j m =>?_
  have o:Mk (some lp) D M:=trivial
  exact b<|r<|y h λdl bs h=>q (a aR rfl bs)<|y h λc4 be h=>q (n be rfl)<|q (f bB rfl)<|y h λdm bt h=>q (a aR rfl bt)<|q (mI rfl)<|c1 (cb h) (cu h) rfl λdK cY h=>z<|B<|Go.gP (g:=()) o j m ⟨0,rfl,h⟩
 ·intro di cZ h
  intro D M o j m
  refine B<|R<|y h λdn bu h=>q (a aR rfl bu)<|y h λc5 bf h=>q (n bf rfl)<|q (f bB rfl)<|q (f bB rfl)<|y h λdp bv h=>q (a aR rfl bv)<|q (de rfl rfl)<|y h λc6 bg h=>q (n bg rfl)<|q (f bB rfl)<|q (f bB rfl)<|st h bq rfl rfl λ_ h=>z<|s<|dr gz<|y h λdq bw h=>pl 0 rfl (a aR rfl bw)<|y h λds bx h=>pl 1 rfl (a aR rfl bx)<|y h λdt bz h=>pl 2 rfl (a aR rfl bz)<|y h λc7 bh h=>p 3 rfl (n bh rfl)<|p 4 rfl (f bB rfl)<|p 5 rfl (f bB rfl)<|y h λdu bA h=>pl 6 rfl (a aR rfl bA)<|y h λdv bC h=>pl 7 rfl (a aR rfl bC)<|y h λc8 bi h=>p 8 rfl (n bi rfl)<|p 9 rfl (f bB rfl)<|p 10 rfl (f bB rfl)<|y h λdw bD h=>pl 11 rfl (a aR rfl bD)<|y h λc9 bj h=>p 12 rfl (n bj rfl)<|p 13 rfl (f bB rfl)<|p 14 rfl (f bB rfl)<|po 15 rfl<|dS h bq rfl rfl λ_ h=>t h λbr h=>re (rl [15]<|rl [8,9,10,11,15]<|rl [15]<|rl [15]<|rr rfl rfl (a aR rfl br)<|rl [15]<|rfl)<|y h λda bk h=>p 16 rfl (n bk rfl)<|p 17 rfl (f bB rfl)<|p 18 rfl (f bB rfl)<|po 19 rfl<|dS h bq rfl rfl λ_ h=>re (rl [19]<|rfl)<|Z<|s<|dr gz<|y h λdx bE h=>pl 0 rfl (a aR rfl bE)<|y h λdb bl h=>p 1 rfl (n bl rfl)<|p 2 rfl (f bB rfl)<|y h λdy bF h=>pl 3 rfl (a aR rfl bF)<|y h λdz bG h=>pl 4 rfl (a aR rfl bG)<|y h λdc bm h=>p 5 rfl (n bm rfl)<|p 6 rfl (f bB rfl)<|y h λdA bH h=>pl 7 rfl (a aR rfl bH)<|y h λdC bI h=>pl 8 rfl (a aR rfl bI)<|y h λdd bn h=>p 9 rfl (n bn rfl)<|p 10 rfl (f bB rfl)<|y h λdD bJ h=>pl 11 rfl (a aR rfl bJ)<|y h λdE bK h=>pl 12 rfl (a aR rfl bK)<|y h λdf bo h=>p 13 rfl (n bo rfl)<|p 14 rfl (f bB rfl)<|y h λdF bL h=>pl 15 rfl (A eY rfl bL)<|po 16 rfl<|d1 (cb h) (cu h) rfl λaq c0 h=>re (rl [16]<|rl [13,14,15,16]<|rl [16]<|rl [9,10,11,16]<|rl [16]<|rl [5,6,7,16]<|rl [16]<|rl [1,2,3,16]<|rfl)<|p 17 rfl (aP rfl)<|Z<|R<|y h λdG bN h=>q (a aR rfl bN)<|y h λdg bp h=>q (n bp rfl)<|q (f bB rfl)<|y h λdH bO h=>q (A eY rfl bO)<|c2 (cb h) (cu h) rfl λar dL c3 h=>q (mT rfl)<|q (e rfl rfl)<|q (e rfl rfl)<|q (aS rfl)<|q (aI rfl)<|z<|s<|s<|dr gz<|p 0 rfl (mI rfl)<|p 1 rfl (eP rfl rfl)<|p 2 rfl (mB rfl)<|?_
  refine xT 63 [] (λS (an:Bool)=>S 1=VA a1/\S 6=VP aq/\S 7=Sl.v ar/\S 81=VB an) h ?_ ?_<;>clear h
  ·intro an b2 S h hE
   obtain⟨l,F,G,ah⟩:=hE
   refine p 6 rfl (mB ah)<|?_
   refine xT 524287 [15,11,10,7] (λS (ao:Bool)=>S 1=VA a1/\S 6=VP aq/\S 7=Sl.v ar/\S 94=VB ao) h ?_ ?_<;>clear h
   ·intro ao b3 S h hE
    obtain⟨d,I,L,u⟩:=hE
    refine Z<|J h (λw h=>?_) λw h=>?_
    ·exact C w u<|R<|q (aP rfl)<|q (aI rfl)<|z<|Go.fP (g:=()) o j m ⟨.inl rfl,_,(ir Tryz.results79 rfl rfl),⟨_,_,rfl,h⟩⟩
    ·refine N w u<|K<|s<|s<|?_
     refine nk 1 (λ_=>()) (λS (ap:Int)=>S 1= .pointer (some a1)/\S 6= .pointer aq/\S 7=Sl.v ar/\S 9=VI ap) j h ?_ ?_<;>clear h
     ·intro ap b4 S h hE
      obtain⟨i,ai,ak,P⟩:=hE
      intro D M o j m
      refine R<|q (mI P)<|q (eP rfl rfl)<|z<|J h (λx h=>?_) λx h=>?_
      ·exact C x rfl<|R<|q (mI P)<|q (aP rfl)<|q (aI rfl)<|z<|Go.fP (g:=()) o j m ⟨.inl rfl,_,(ir Tryz.results79 rfl rfl),⟨_,_,rfl,h⟩⟩
      ·refine N x rfl<|K<|s<|s<|dr gz<|y h λcr aY h=>pl 0 rfl (a aR i aY)<|y h λce au h=>p 1 rfl (n au rfl)<|p 2 rfl (f bB rfl)<|y h λct aZ h=>pl 3 rfl (a aR rfl aZ)<|y h λcv a0 h=>pl 4 rfl (a aR i a0)<|y h λcf av h=>p 5 rfl (n av rfl)<|p 6 rfl (f bB rfl)<|y h λcw a2 h=>pl 7 rfl (a aR rfl a2)<|y h λcx a3 h=>pl 8 rfl (a aR i a3)<|y h λcg aw h=>p 9 rfl (n aw rfl)<|p 10 rfl (f bB rfl)<|p 11 rfl (f bB rfl)<|y h λcy a4 h=>pl 12 rfl (a aR rfl a4)<|p 13 rfl (FF (by decide) rfl rfl)<|p 15 rfl (mS ak)<|po 14 rfl<|d1 (cb h) (cu h) rfl λcQ b5 h=>t h λaG h=>t h λaH h=>re (rl [13,14]<|rl [9,10,11,12,13,14]<|rl [14]<|rl [5,6,7,14]<|rr rfl rfl (a aR rfl aG)<|rr rfl rfl (a aR i aH)<|rfl)<|po 16 rfl<|d1 (cb h) (cu h) rfl λcR b6 h=>re (rl [16]<|rl [1,2,3,16]<|rfl)<|p 17 rfl (aI rfl)<|Z<|R<|q (mI rfl)<|q (eP rfl rfl)<|z<|J h (λE h=>?_) λE h=>?_
       ·exact C E rfl<|R<|q (mI rfl)<|q (aP rfl)<|q (aI rfl)<|z<|Go.fP (g:=()) o j m ⟨.inl rfl,_,(ir Tryz.results79 rfl rfl),⟨_,_,rfl,h⟩⟩
       ·exact N E rfl<|K<|R<|q (mP ai)<|y h λcz a5 h=>q (a aR i a5)<|y h λch ax h=>q (n ax rfl)<|q (f bB rfl)<|y h λcA a7 h=>q (a aR rfl a7)<|c1 (cb h) (cu h) rfl λcS b7 h=>q (aP rfl)<|q (aI rfl)<|z<|Go.fP (g:=()) o j m ⟨.inl rfl,_,(ir Tryz.results79 rfl rfl),⟨_,_,rfl,h⟩⟩
     ·intro cq V h
      refine dr gz<|y h λcB Y h=>pl 0 rfl (a aR d Y)<|y h λci ay h=>p 1 rfl (n ay rfl)<|p 2 rfl (f bB rfl)<|y h λcC aa h=>pl 3 rfl (a aR rfl aa)<|y h λcD ab h=>pl 4 rfl (a aR d ab)<|y h λcj az h=>p 5 rfl (n az rfl)<|p 6 rfl (f bB rfl)<|y h λcF ac h=>pl 7 rfl (a aR rfl ac)<|y h λcG ad h=>pl 8 rfl (a aR d ad)<|y h λck aA h=>p 9 rfl (n aA rfl)<|p 10 rfl (f bB rfl)<|p 11 rfl (f bB rfl)<|y h λcH ae h=>pl 12 rfl (a aR rfl ae)<|y h λcI af h=>pl 14 rfl (a aR d af)<|y h λcl aB h=>p 15 rfl (n aB rfl)<|p 16 rfl (f bB rfl)<|p 17 rfl (f bB rfl)<|y h λcK ag h=>pl 18 rfl (a aR rfl ag)<|t h λX h=>?_
      refine dN (R:=[13,20]) (by decide+kernel) ⟨?_,?_,trivial⟩
      ·refine bM (S2:=524287) rfl (by decide+kernel) (by decide) rfl ?_
       exact d1 (cb h) (cu h) rfl λcT b8 h=>t h λaJ h=>t h λaK h=>t h λaL h=>t h λaM h=>re (rr rfl rfl (a aR rfl aJ)<|rr rfl rfl (a aR d aK)<|rl [13]<|rl [9,10,11,12,13]<|rl [13]<|rl [5,6,7,13]<|rr rfl rfl (a aR rfl aL)<|rr rfl rfl (a aR d aM)<|rfl)<|p 19 rfl (de rfl rfl)<|po 20 rfl<|lW (zs:=[.int .u8 0]) dB jL (by decide) xZ rfl rfl (by decide) rfl rfl X λbP bc aE=>gY (h bP bc aE) λh=>t h λaN h=>t h λaO h=>t h λaQ h=>t h λaT h=>re (rr rfl rfl (a aR rfl aN)<|rr rfl rfl (a aR d aO)<|rr rfl rfl (a aR rfl aQ)<|rr rfl rfl (a aR d aT)<|rfl)<|po 21 rfl<|d1 (cb h) (cu h) rfl λbR b9 h=>re (rl [19,21]<|rl [15,16,17,18,19,21]<|rl [21]<|rl [1,2,3,21]<|rfl)<|p 22 rfl (aI rfl)<|Z<|V bR _ _ h (by exact⟨d,I,L,rfl⟩) _ _ o j m
      ·refine bM (S2:=1564671) rfl (by decide+kernel) (by decide) rfl ?_
       refine qq (zs:=[.int .u8 0]) dB jL (by decide) xZ rfl rfl (by decide) rfl rfl X λbd bQ bT al am=>?_
       refine re (rr rfl rfl (a aR rfl ag)<|rr rfl rfl (a aR d af)<|rr rfl rfl (a aR rfl ae)<|rr rfl rfl (a aR d ad)<|rr rfl rfl (a aR rfl ac)<|rr rfl rfl (a aR d ab)<|rr rfl rfl (a aR rfl aa)<|rr rfl rfl (a aR d Y)<|rfl)<|po 13 rfl<|d1 (cb h) (cu h) rfl λcU ca h=>t h λaU h=>t h λaV h=>t h λaW h=>t h λaX h=>re (rr rfl rfl (a aR rfl aU)<|rr rfl rfl (a aR d aV)<|rl [13]<|rl [9,10,11,12,13]<|rl [13]<|rl [5,6,7,13]<|rr rfl rfl (a aR rfl aW)<|rr rfl rfl (a aR d aX)<|rfl)<|p 19 rfl (de rfl rfl)<|?_
       refine cJ al λaF=>?_
       exact gY (h bQ _ ⟨bd,aF,am,rfl⟩) λh=>t h λbY h=>t h λbZ h=>t h λb0 h=>t h λb1 h=>po 21 rfl<|d1 (cb h) (cu h) rfl λbS cc h=>re (rl [19,21]<|rl [15,16,17,18,19,21]<|rl [21]<|rl [1,2,3,21]<|rfl)<|p 22 rfl (aI rfl)<|Z<|V bS _ _ h (by exact⟨d,I,L,rfl⟩) _ _ o j m
   ·intro cp U h
    refine J h (λc h=>?_) λc h=>?_
    ·exact O 7 rfl c<|O 8 rfl c<|O 9 rfl c<|O 10 rfl c<|O 11 rfl c<|O 12 rfl c<|O 13 rfl c<|O 14 rfl c<|O 15 rfl c<|O 16 rfl c<|O 17 rfl c<|p 18 rfl (jB c rfl rfl)<|ud (L2:=[15,11,10,7]) (by decide)<|U _ _ _ h ⟨l,F,G,rfl⟩
    ·exact y h λcL a8 h=>pL 7 rfl c (a aR l a8)<|y h λcm aC h=>pw 8 rfl c (n aC rfl)<|pw 9 rfl c (f bB rfl)<|y h λcM a9 h=>pL 10 rfl c (a aR rfl a9)<|y h λcN ba h=>pL 11 rfl c (a aR l ba)<|y h λcn aD h=>pw 12 rfl c (n aD rfl)<|pw 13 rfl c (f bB rfl)<|pw 14 rfl c (f bB rfl)<|y h λcO bb h=>pL 15 rfl c (a aR rfl bb)<|pO 16 rfl (jP rfl rfl rfl c)<|d1 (cb h) (cu h) rfl λcV cd h=>re (rl [16]<|rl [12,13,14,15,16]<|rl [16]<|rl [8,9,10,16]<|rfl)<|pw 17 rfl c (eP rfl rfl)<|p 18 rfl (nB c rfl rfl)<|ud (L2:=[15,11,10,7]) (by decide)<|U _ _ _ h ⟨l,F,G,rfl⟩
  ·intro co T h
   refine J h (λk h=>?_) λk h=>?_
   ·exact O 3 rfl k<|O 4 rfl k<|p 5 rfl (jB k rfl rfl)<|T _ _ _ h ⟨rfl,rfl,rfl,rfl⟩
   ·exact pw 3 rfl k (mP rfl)<|pw 4 rfl k (je Tryz.underlying121 rfl rfl)<|p 5 rfl (nB k rfl rfl)<|T _ _ _ h ⟨rfl,rfl,rfl,rfl⟩
 ,cP Tryz.func79 rfl rfl⟩
instance SW {p0 H Q}:aj Tryz.prog 35 (vy p0 H Q) [.pointer p0] H (λv H'=>∃ a b,v= .tuple #[.pointer a,VI b]/\Q a b H'):=aT (vy.eq_1 ..) Tryz.func35 Tryz.ntmps35
instance Rm {p0 p1 H Q}:aj Tryz.prog 36 (yG p0 p1 H Q) [.pointer p0,VI p1] H (λv H'=>∃ a,v= .pointer a/\Q a H'):=aT (yG.eq_1 ..) Tryz.func36 Tryz.ntmps36
instance SX {p0 p1 H Q}:aj Tryz.prog 10 (rj p0 p1 H Q) [.pointer p0,VI p1] H (λv H'=>∃ a b,v= .tuple #[.pointer a,VI b]/\Q a b H'):=aT (rj.eq_1 ..) Tryz.func10 Tryz.ntmps10
instance Rn {p0 p1 H Q}:aj Tryz.prog 25 (uj p0 p1 H Q) [.agg ([VI p0.1,VI p0.2.1,VI p0.2.2]:List Value).toArray,VI p1] H (λv H'=>∃ a b,v= .tuple #[.pointer a,VI b]/\Q a b H'):=aT (uj.eq_1 ..) Tryz.func25 Tryz.ntmps25
instance L4 {p0 p1 H Q}:aj Tryz.prog 6 (mN p0 p1 H Q) [.agg ([VI p0.1,VI p0.2.1,VI p0.2.2]:List Value).toArray,VI p1] H (λv H'=>∃ a b,v= .tuple #[.pointer a,.bool b]/\Q a b H'):=aT (mN.eq_1 ..) Tryz.func6 Tryz.ntmps6
instance HP {p0 H Q}:aj Tryz.prog 101 (kn p0 H Q) [.pointer p0] H (λv H'=>∃ a,v=VI a/\Q a H'):=aT (kn.eq_1 ..) Tryz.func101 Tryz.ntmps101
instance Jz {p0 H Q}:aj Tryz.prog 241 (gm p0 H Q) [.pointer p0] H (λv H'=>∃ a,v=VI a/\Q a H'):=aT (gm.eq_1 ..) Tryz.func241 Tryz.ntmps241
instance J0 {p0 p1 H Q}:aj Tryz.prog 313 (nK p0 p1 H Q) [.pointer p0,VI p1] H (λv H'=>∃ a,v=VI a/\Q a H'):=aT (nK.eq_1 ..) Tryz.func313 Tryz.ntmps313
instance J1 {p0 p1 p2 H Q}:aj Tryz.prog 295 (nL p0 p1 p2 H Q) [.pointer p0,VI p1,.bool p2] H (λv H'=>∃ a,v=VI a/\Q a H'):=aT (nL.eq_1 ..) Tryz.func295 Tryz.ntmps295
end
end Go.Proofs.YtbijlklgbfminaaGreat
