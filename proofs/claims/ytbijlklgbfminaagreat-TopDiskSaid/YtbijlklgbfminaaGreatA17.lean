import Derived.Test.YtbijlklgbfminaaGreatA16
set_option linter.unusedVariables false
set_option linter.unusedSimpArgs false
namespace Go.Proofs.YtbijlklgbfminaaGreat
section
open Go Go.Kx Go.Proofs Go.Kx.Au Go.Kx.W
set_option maxRecDepth 20000
set_option maxHeartbeats 2000000
instance Jw {p0 p1 H Q}:aj Tryz.prog 229 (nN p0 p1 H Q) [.pointer p0,Sl.v p1] H (λv H'=>∃ a,v=VI a/\Q a H'):=aT (nN.eq_1 ..) Tryz.func229 Tryz.ntmps229
instance LB {p0 p1 H Q}:aj Tryz.prog 291 (sI p0 p1 H Q) [.pointer p0,.bool p1] H (λv H'=>∃ a,v=a/\Q a H'):=aT (sI.eq_1 ..) Tryz.func291 Tryz.ntmps291
instance LC {p0 p1 H Q}:aj Tryz.prog 242 (oK p0 p1 H Q) [.pointer p0,.bool p1] H (λv H'=>∃ r0 r1,v= .tuple #[Sl.v r0,VI r1]/\Q r0 r1 H'):=⟨λh=>by
 unfold oK at h
 refine fZ Tryz.func242 rfl Tryz.ntmps242 (Nat.le_of_ble_eq_true rfl)<|?_
 intro D M l c d
 refine R<|od<|cE (cs:=[.pointer p0]) rfl rfl λa1 H2 aM=>gY (h a1 H2 aM) λh=>od<|cE (cs:=[.bool p1]) rfl rfl λa4 H5 aN=>gY (h a4 H5 aN) λh=>od<|cT xZ rfl λa7 H8 aO=>gY (h a7 H8 aO) λh=>od<|cT xZ rfl λX aK al=>gY (h X aK al) λh=>z<|R<|y h λbs an h=>q (a aR rfl an)<|y h λbg ab h=>q (n ab rfl)<|q (f bB rfl)<|y h λbh ac h=>q (m9 tK ac rfl rfl)<|y h λbt ao h=>q (a aR rfl ao)<|c1 (cb h) (cu h) rfl λbO a9 h=>od<|cT xZ rfl λY aL am=>gY (h Y aL am) λh=>st h bq rfl rfl λ_ h=>z<|s<|R<|y h λbu ap h=>q (a aR rfl ap)<|z<|?_
 refine nk 1 (λ_=>()) (λρ (aP:Unit)=>ρ 2= .pointer (some a1)/\ρ 3= .pointer (some a4)/\ρ 4= .pointer (some a7)/\ρ 5= .pointer (some X)/\ρ 6= .pointer (some Y)) c h ?_ ?_<;>clear h
 ·intro aP ba ρ h hE
  obtain⟨i,o,j,k,m⟩:=hE
  intro D M l c d
  refine s<|s<|dr gz<|y h λbv aq h=>pl 0 rfl (a aR i aq)<|y h λbi ad h=>p 1 rfl (n ad rfl)<|p 2 rfl (f bB rfl)<|y h λbw ar h=>pl 3 rfl (a aR rfl ar)<|y h λbx au h=>pl 4 rfl (a aR o au)<|po 5 rfl<|tC (cb h) (cu h) rfl<|?_
  rintro bP bb ⟨_,rfl,h⟩
  refine re (rl [5]<|rl [5]<|rl [1,2,3,5]<|rfl)<|Z<|b<|?_
  refine vD (g:=()) (c1:=.ret) h rfl (λ_ _ _ h=>h) rfl l c d trivial ?_ ?_ ?_<;>clear h
  ·rintro _ br bc bQ ⟨bz,rfl,h⟩
   refine⟨rfl,λlp Bx rz hr=>?_⟩
   clear l c d
   intro D M l c d
   refine r<|q (aI rfl)<|z<|jQ (g:=()) hr c d λM c d =>?_
   have l:Mk (some lp) D M:=trivial
   refine b<|s<|dr gz<|y h λbA av h=>pl 0 rfl (a aR i av)<|y h λbj ae h=>p 1 rfl (n ae rfl)<|p 2 rfl (f bB rfl)<|y h λbC aw h=>pl 3 rfl (a aR rfl aw)<|y h λbD ax h=>pl 4 rfl (a aR o ax)<|p 5 rfl (mI rfl)<|po 6 rfl<|d1 (cb h) (cu h) rfl λbR bd h=>re (rl [6]<|rl [6]<|rl [1,2,3,6]<|rfl)<|po 7 rfl<|d2 (cb h) (cu h) rfl λbS bT be h=>re rfl<|p 8 rfl (mT rfl)<|p 9 rfl (e rfl rfl)<|p 10 rfl (e rfl rfl)<|p 11 rfl (aS rfl)<|p 12 rfl (aI rfl)<|Z<|s<|R<|q (mI rfl)<|q (eP rfl rfl)<|z<|J h (λx h=>?_) λx h=>?_
   ·exact C x rfl<|R<|q (mI rfl)<|st h bq j rfl λ_ h=>st h bq k rfl λ_ h=>z<|Go.fP (g:=()) l c d ⟨1,⟨0,rfl,rfl⟩,h⟩
   ·refine N x rfl<|K<|s<|dr gz<|y h λbE ay h=>pl 0 rfl (a aR m ay)<|p 1 rfl (mI rfl)<|y h λbF az h=>pl 2 rfl (a aR m az)<|p 3 rfl (mI rfl)<|y h λbk af h=>p 4 rfl (kj dB af rfl rfl)<|y h λbG aA h=>pl 5 rfl (a aR rfl aA)<|p 6 rfl (uc rfl rfl)<|y h λbl ag h=>p 7 rfl (kj dB ag rfl rfl)<|po 8 rfl<|dS h bq rfl rfl λ_ h=>re (rl [8]<|rl [8]<|rl [8]<|rfl)<|Z<|s<|dr gz<|y h λbH aB h=>pl 0 rfl (a aR i aB)<|y h λbm ah h=>p 1 rfl (n ah rfl)<|p 2 rfl (f bB rfl)<|y h λbI aC h=>pl 3 rfl (a aR rfl aC)<|y h λbJ aD h=>pl 4 rfl (a aR i aD)<|y h λbn ai h=>p 5 rfl (n ai rfl)<|p 6 rfl (f bB rfl)<|y h λbK aE h=>pl 7 rfl (a aR rfl aE)<|y h λbL aF h=>pl 8 rfl (a aR o aF)<|p 9 rfl (mI rfl)<|y h λbM aG h=>pl 10 rfl (a aR m aG)<|p 11 rfl (mI rfl)<|y h λbo ak h=>p 12 rfl (kj dB ak rfl rfl)<|y h λbN aH h=>pl 13 rfl (a aR rfl aH)<|p 15 rfl (mS rfl)<|po 14 rfl<|d1 (cb h) (cu h) rfl λa5 bf h=>t h λG h=>t h λI h=>re (rl [14]<|rl [12,13,14]<|rl [14]<|rl [14]<|rl [5,6,7,14]<|rr rfl rfl (a aR rfl G)<|rr rfl rfl (a aR i I)<|rfl)<|po 16 rfl<|d1 (cb h) (cu h) rfl λa6 aQ h=>re (rl [16]<|rl [1,2,3,16]<|rfl)<|p 17 rfl (aI rfl)<|Z<|R<|q (mI rfl)<|q (eP rfl rfl)<|z<|J h (λu h=>?_) λu h=>?_
    ·exact C u rfl<|R<|q (mI rfl)<|st h bq j rfl λ_ h=>st h bq k rfl λ_ h=>z<|Go.fP (g:=()) l c d ⟨1,⟨0,rfl,rfl⟩,h⟩
    ·exact N u rfl<|K<|B<|Go.gP (g:=()) l c d ⟨0,rfl,h⟩
  ·intro aJ aa h
   intro D M l c d
   exact B<|R<|y h λaW L h=>q (a aR m L)<|st h bq j rfl λ_ h=>st h bq k rfl λ_ h=>z<|y h λaX O h=>y h λaY P h=>Go.fP (g:=()) l c d ⟨.inl rfl,_,(yR Tryz.results242 (lv aR j O) (lv aR k P)),⟨_,_,rfl,h⟩⟩
  ·intro aJ aa h
   intro D M l c d
   exact y h λaZ S h=>y h λa0 T h=>Go.fP (g:=()) l c d ⟨.inl rfl,_,(yR Tryz.results242 (lv aR j S) (lv aR k T)),⟨_,_,rfl,h⟩⟩
 ·intro bp A h
  refine J h (λw h=>?_) λw h=>?_
  ·exact C w rfl<|r<|y h λa2 U h=>q (a aR rfl U)<|y h λaU E h=>q (n E rfl)<|q (f bB rfl)<|y h λaV F h=>q (m9 tK F rfl rfl)<|y h λa3 V h=>q (a aR rfl V)<|c1 (cb h) (cu h) rfl λa8 aT h=>st h bq rfl rfl λ_ h=>z<|A () _ _ h (by exact⟨rfl,rfl,rfl,rfl,rfl⟩) _ _ l c d
  ·exact N w rfl<|K<|A () _ _ h (by exact⟨rfl,rfl,rfl,rfl,rfl⟩) _ _ l c d
 ,cP Tryz.func242 rfl rfl⟩
end
end Go.Proofs.YtbijlklgbfminaaGreat
