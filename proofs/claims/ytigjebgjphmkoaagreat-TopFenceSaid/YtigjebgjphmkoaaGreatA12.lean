import Derived.Test.YtigjebgjphmkoaaGreatA04
import Derived.Test.YtigjebgjphmkoaaGreatA05
import Derived.Test.YtigjebgjphmkoaaGreatA07
import Derived.Test.YtigjebgjphmkoaaGreatA08
import Derived.Test.YtigjebgjphmkoaaGreatA10
import Derived.Test.YtigjebgjphmkoaaGreatA11
set_option linter.unusedVariables false
set_option linter.unusedSimpArgs false
namespace Go.Proofs.YtigjebgjphmkoaaGreat
open Tryz
section
open Go Go.Kx Go.Proofs Go.Kx.Au Go.Kx.W
set_option maxRecDepth 20000
set_option maxHeartbeats 20000000
instance VO {p0 H Q}:ae prog 327 (uo p0 H Q) [Sl.v p0] H (λv H'=>∃ r0 r1 a,v= .tuple #[.agg (cT r0).toArray,VI r1,VI a]/\Q r0 r1 a H'):=rR (uo.eq_1 ..) func327 ntmps327
instance VQ {p0 p1 H Q}:ae prog 307 (uq p0 p1 H Q) [.pointer p0,.agg (ag p1).toArray] H (λv H'=>∃ r0 r1 a,v= .tuple #[.agg (cT r0).toArray,.agg (ag r1).toArray,.bool a]/\Q r0 r1 a H'):=aR (uq.eq_1 ..) func307 ntmps307
theorem BB {γ:Type} (c0:Addr) (Y:List Value->γ->PH->(Nat->γ->PH->Prop)->Prop) (g:γ) (H:PH) (Q:Nat->γ->PH->Prop) (h:sD c0 Y g H Q):
 iX prog (.func (.func 305) #[] #[.pointer (some c0)]) Y g H Q:=by
 unfold sD at h
 refine lu (fi:=[]) (ca:=[.pointer (some c0)]) WB func305 rfl ntmps305 (Nat.le_of_ble_eq_true rfl) λlz Tk hd hy =>?_
 generalize am:Value.func (.yield lz) #[] #[]=yv
 intro D M k hB j
 refine s<|R<|y h λx1 ak h=>q (a de rfl ak)<|q (At underlying266 rfl rfl)<|z<|J h (λu h=>?_) λu h=>?_
 ·exact C u rfl<|Go.qo (g:=(0,g)) k hB j ⟨.inl rfl,_,(il results305),h⟩
 ·refine N u rfl<|K<|R<|y h λx4 al h=>q (a de rfl al)<|c2 (cb h) (cu h) rfl λy7 y8 H6 h=>q (mT rfl)<|q (e rfl rfl)<|q (e rfl rfl)<|od<|uL xZ rfl λa9 af G=>gY (h a9 af G) λh=>st h sv rfl rfl λ_ h=>q (aB rfl)<|z<|R<|y h λax O h=>q (a de rfl O)<|y h λay P h=>q (A vQ rfl P)<|y h λau x h=>q (n x rfl)<|q (f qK rfl)<|st h sv rfl rfl λ_ h=>z<|b<|si (g:=(0,g)) (λi=>i.2) (λρ (i:Bool×(Nat×γ))=>ρ 0=yv/\ρ 1= .pointer (some c0)/\ρ 3= .pointer (some a9)/\ρ 4= .bool i.1) k hB j h ⟨rfl,rfl,rfl,rfl⟩ rfl<|?_
  clear h
  intro ρ i ao ae hE h l
  obtain⟨t,c,d,v⟩:=hE
  intro D M k hB j
  refine s<|R<|q (mB v)<|z<|J h (λm h=>?_) λm h=>?_
  ·refine C m rfl<|K<|s<|b<|R<|y h λaz S h=>q (a de c S)<|y h λaA T h=>q (A vQ d T)<|c3 (cb h) (cu h) rfl λaK aL aM ap h=>q (mT rfl)<|q (e rfl rfl)<|q (e rfl rfl)<|q (e rfl rfl)<|od<|uL xZ rfl λai ag I=>gY (h ai ag I) λh=>od<|uL xZ rfl λaj ah L=>gY (h aj ah L) λh=>st h sv rfl rfl λ_ h=>st h sv rfl rfl λ_ h=>q (aB rfl)<|z<|s<|R<|q (mB rfl)<|q (qj rfl)<|z<|J h (λo h=>?_) λo h=>?_
   ·exact C o rfl<|Go.qo (g:=i.2) k hB j ⟨.inl rfl,_,(il results305),h⟩
   ·refine N o rfl<|K<|R<|y h λaC U h=>q (a de c U)<|y h λaD V h=>q (A vQ rfl V)<|y h λav E h=>q (n E rfl)<|q (f qK rfl)<|st h sv rfl rfl λ_ h=>z<|R<|y h λaE Z h=>q (A vQ rfl Z)<|c2 (cb h) (cu h) rfl λaN an aq h=>q (mT rfl)<|q (e rfl rfl)<|q (e rfl rfl)<|q (aI rfl)<|q (aB rfl)<|z<|R<|q (mB rfl)<|q (qj rfl)<|q (aB rfl)<|z<|R<|q (mu t)<|y h λaF aa h=>q (A vQ d aa)<|y h λaG ab h=>q (A vQ rfl ab)<|od<|oh (q:=i.2) hy j (Eq.trans rfl am.symm) rfl h λw ar h=>q (qj rfl)<|z<|J h (λp h=>?_) λp h=>?_
    ·exact C p rfl<|Go.qo (g:=w) k hB j ⟨.inl rfl,_,(il results305),h⟩
    ·exact N p rfl<|K<|B<|r<|y h λaH ac h=>q (a de c ac)<|y h λaw F h=>q (n F rfl)<|q (f qK rfl)<|y h λaJ ad h=>q (A vQ rfl ad)<|st h sv d rfl λ_ h=>z<|l (!an,w) _ _ h (by exact⟨t,c,d,rfl⟩) _ _ k hB j
  ·exact N m rfl<|X rfl<|Go.vv (g:=i.2) k hB j ⟨.inr rfl,_,(il results305),h⟩
instance Qb {p0 H Q}:ae prog 271 (qv p0 H Q) [.pointer p0] H (λv H'=>∃ r0,v=r0/\Q r0 H'):=aR (qv.eq_1 ..) func271 ntmps271
instance VR {p0 H Q}:ae prog 203 (ur p0 H Q) [.pointer p0] H (λv H'=>∃ r0,v=VI r0/\Q r0 H'):=aR (ur.eq_1 ..) func203 ntmps203
theorem zO {γ:Type} (c0:Addr) (Y:List Value->γ->PH->(Nat->γ->PH->Prop)->Prop) (g:γ) (H:PH) (Q:Nat->γ->PH->Prop) (h:∀yv,pV c0 yv Y g H Q):
 iX prog (.func (.func 297) #[] #[.pointer (some c0)]) Y g H Q:=by
 unfold pV at h
 refine lu (fi:=[]) (ca:=[.pointer (some c0)]) WC func297 rfl ntmps297 (Nat.le_of_ble_eq_true rfl) λlz Tk hd hy=>gY (h (.func (.yield lz) #[] #[])) λh=>?_
 generalize aK:Value.func (.yield lz) #[] #[]=yv at h ⊢
 have bq:yv.cells=[yv].toArray:=by rw[←aK];rfl
 intro D M j hB d
 refine R<|od<|xd (cs:=[yv]) rfl bq λa1 H2 bn=>gY (h a1 H2 bn) λh=>z<|s<|R<|y h λx4 bo h=>q (a de rfl bo)<|q (At underlying314 rfl rfl)<|z<|J h (λae h=>?_) λae h=>?_
 ·exact C ae rfl<|Go.qo (g:=(0,g)) j hB d ⟨.inl rfl,_,(il results297),h⟩
 ·refine N ae rfl<|K<|s<|dr Jg<|y h λx7 bp h=>pl 0 rfl (a de rfl bp)<|y h λx9 a3 h=>pl 1 rfl (a de rfl a3)<|y h λb6 a4 h=>pl 2 rfl (a de rfl a4)<|y h λb0 aP h=>p 3 rfl (n aP rfl)<|p 4 rfl (f qK rfl)<|y h λb7 a5 h=>pl 5 rfl (A vQ rfl a5)<|y h λb1 aQ h=>p 6 rfl (n aQ rfl)<|p 7 rfl (f qK rfl)<|po 8 rfl<|dS h sv rfl rfl λ_ h=>t h λaX h=>re (rl [8]<|rl [8]<|rr rfl rfl (a de rfl aX)<|rl [8]<|rfl)<|y h λb2 aR h=>p 9 rfl (n aR rfl)<|p 10 rfl (f qK rfl)<|po 11 rfl<|dS h sv rfl rfl λ_ h=>re (rl [11]<|rfl)<|Z<|R<|od<|uL xZ rfl λbj bf aT=>gY (h bj bf aT) λh=>st h sv rfl rfl λ_ h=>z<|b<|si (g:=(0,g)) (λm=>m.2) (λI (m:Addr×(Nat×γ))=>I 1= .pointer (some c0)/\I 2= .pointer (some a1)/\I 3= .pointer (some m.1)) j hB d h ⟨rfl,rfl,rfl⟩ rfl<|?_
  clear h
  intro I m bT be hE h F
  obtain⟨i,L,o⟩:=hE
  intro D M j hB d
  refine s<|R<|y h λb8 a6 h=>q (a de o a6)<|z<|J h (λG h=>?_) λG h=>?_
  ·refine C G rfl<|K<|s<|?_
   refine Es 1 (λaa=>aa) (λI (aa:(Nat×γ))=>I 1= .pointer (some c0)/\I 2= .pointer (some a1)/\I 3= .pointer (some m.1)) hB h ?_ ?_<;>clear h
   ·intro aa bU I h hE
    obtain⟨aj,ak,al⟩:=hE
    intro D M j hB d
    exact R<|y h λb9 a7 h=>q (a de al a7)<|z<|r<|od<|uL xZ rfl λaJ bg aU=>gY (h aJ bg aU) λh=>st h sv rfl rfl λ_ h=>z<|F (aJ,aa) _ _ h (by exact⟨aj,ak,rfl⟩) _ _ j hB d
   ·intro b4 af h
    refine b<|s<|?_
    refine Es 1 (λE=>E.2) (λI (E:Addr×(Nat×γ))=>I 1= .pointer (some c0)/\I 2= .pointer (some a1)/\I 3= .pointer (some m.1)/\I 4= .pointer (some E.1)) hB h ?_ ?_<;>clear h
    ·intro E bV I h hE
     obtain⟨c,u,k,l⟩:=hE
     intro D M j hB d
     refine R<|st h sv k rfl λ_ h=>z<|s<|R<|y h λcc a8 h=>q (a de l a8)<|vD rfl (by decide) (cb h) (cu h) rfl<|?_
     rintro ck bW ⟨_,rfl,h⟩
     refine z<|b<|?_
     refine DD (g:=E.2) (c1:=.ret) h rfl hd rfl j hB d trivial ?_ ?_ ?_<;>clear h
     ·rintro _ aL bX cl ⟨cd,ce,rfl,h⟩
      refine⟨rfl,λlp Bx rz hr=>?_⟩
      clear j hB d
      intro D M j hB d
      refine R<|od<|uL xZ rfl λbk bh aV=>gY (h bk bh aV) λh=>st h sv rfl rfl λ_ h=>z<|r<|od<|uL xZ rfl λbl bi aW=>gY (h bl bi aW) λh=>st h sv rfl rfl λ_ h=>z<|Et (g:=aL) hr hB d λM hB d =>?_
      have j:Mk (some lp) D M:=trivial
      refine b<|s<|dr Jg<|y h λcf a9 h=>pl 0 rfl (a de c a9)<|y h λcg ba h=>pl 1 rfl (a de c ba)<|y h λch bb h=>pl 2 rfl (A vQ rfl bb)<|y h λci bc h=>pl 3 rfl (a de l bc)<|po 4 rfl<|d1 (cb h) (cu h) rfl λcm bY h=>t h λaY h=>t h λaZ h=>t h λa0 h=>re (rl [4]<|rr rfl rfl (A vQ rfl aY)<|rr rfl rfl (a de c aZ)<|rr rfl rfl (a de c a0)<|rfl)<|po 5 rfl<|d2 (cb h) (cu h) rfl λcn co bZ h=>t h λa2 h=>re (rl [5]<|rl [5]<|rr rfl rfl (a de c a2)<|rfl)<|p 6 rfl (mT rfl)<|p 7 rfl (e rfl rfl)<|p 8 rfl (e rfl rfl)<|y h λb3 aS h=>p 9 rfl (n aS rfl)<|p 10 rfl (f qK rfl)<|po 11 rfl<|dS h sv rfl rfl λ_ h=>re (rl [11]<|rfl)<|po 12 rfl<|dS h sv k rfl λ_ h=>re rfl<|Z<|R<|y h λcj bd h=>q (a de u bd)<|y h λbC aC h=>q (A vQ rfl aC)<|y h λbD aD h=>q (A vQ rfl aD)<|t h λau h=>od<|oh (q:=aL) hy d (Eq.trans (Eq.trans rfl au) aK.symm) rfl h λai br h=>q (qj rfl)<|z<|J h (λv h=>?_) λv h=>?_
      ·exact C v rfl<|Go.qo (g:=ai) j hB d ⟨1,⟨0,rfl,rfl⟩,h⟩
      ·exact N v rfl<|K<|B<|Go.vv (g:=ai) j hB d ⟨0,rfl,h⟩
     ·intro x aM h
      intro D M j hB d
      refine B<|R<|y h λbE aE h=>q (a de k aE)<|q (qj rfl)<|z<|J h (λw h=>?_) λw h=>?_
      ·exact C w rfl<|dr Jg<|y h λbF aF h=>pl 0 rfl (a de c aF)<|y h λbG aG h=>pl 1 rfl (a de c aG)<|y h λbH aH h=>pl 2 rfl (a de l aH)<|y h λbI aI h=>pl 4 rfl (a de l aI)<|po 3 rfl<|d1 (cb h) (cu h) rfl λbP bs h=>t h λaw h=>t h λax h=>t h λay h=>re (rr rfl rfl (a de l aw)<|rl [3]<|rr rfl rfl (a de c ax)<|rr rfl rfl (a de c ay)<|rfl)<|po 5 rfl<|d1 (cb h) (cu h) rfl λbQ bt h=>t h λaz h=>t h λaA h=>re (rl [5]<|rr rfl rfl (a de c az)<|rr rfl rfl (a de c aA)<|rfl)<|y h λbw am h=>p 6 rfl (n am rfl)<|p 7 rfl (f qK rfl)<|po 8 rfl<|dS h sv rfl rfl λ_ h=>t h λaB h=>re (rr rfl rfl (a de c aB)<|rl [8]<|rfl)<|y h λbx an h=>p 9 rfl (n an rfl)<|p 10 rfl (f qK rfl)<|po 11 rfl<|dS h sv rfl rfl λ_ h=>re (rl [11]<|rfl)<|Z<|B<|af x _ _ h (by exact⟨c,u,k⟩) _ _ j hB d
      ·exact N w rfl<|K<|B<|af x _ _ h (by exact⟨c,u,k⟩) _ _ j hB d
     ·intro x aM h
      intro D M j hB d
      exact Go.qo (g:=x) j hB d ⟨.inl rfl,_,(il results297),h⟩
    ·intro b5 ag h
     refine dr Jg<|y h λbJ O h=>pl 0 rfl (a de i O)<|y h λbz ao h=>p 1 rfl (n ao rfl)<|p 2 rfl (f qK rfl)<|y h λbK P h=>pl 3 rfl (a de rfl P)<|y h λbL S h=>pl 4 rfl (a de i S)<|y h λbA ap h=>p 5 rfl (n ap rfl)<|p 6 rfl (f qK rfl)<|y h λbM T h=>pl 7 rfl (a de rfl T)<|y h λbN U h=>pl 8 rfl (a de i U)<|y h λbB aq h=>p 9 rfl (n aq rfl)<|p 10 rfl (f qK rfl)<|y h λbO V h=>pl 11 rfl (A vQ rfl V)<|?_
     refine xi (R:=[12,13]) (by decide+kernel) ⟨?_,?_,trivial⟩
     ·refine vO (S2:=8191) rfl (by decide+kernel) (by decide) rfl ?_
      exact d1 (cb h) (cu h) rfl λbR bu h=>re (rl [12]<|rl [9,10,11,12]<|rl [12]<|rl [5,6,7,12]<|rl [12]<|rl [1,2,3,12]<|rfl)<|po 13 rfl<|uL xZ rfl λab aN ar=>gY (h ab aN ar) λh=>re rfl<|po 14 rfl<|dS h sv rfl rfl λ_ h=>re rfl<|Z<|ag (ab,m.2) _ _ h (by exact⟨i,L,o,rfl⟩) _ _ j hB d
     ·refine vO (S2:=12287) rfl (by decide+kernel) (by decide) rfl ?_
      refine MY xZ rfl λaO ac bm ad ah=>?_
      refine re (rr rfl rfl (A vQ rfl V)<|rr rfl rfl (a de i U)<|rr rfl rfl (a de rfl T)<|rr rfl rfl (a de i S)<|rr rfl rfl (a de rfl P)<|rr rfl rfl (a de i O)<|rfl)<|po 12 rfl<|d1 (cb h) (cu h) rfl λbS bv h=>re (rl [12]<|rl [9,10,11,12]<|rl [12]<|rl [5,6,7,12]<|rl [12]<|rl [1,2,3,12]<|rfl)<|?_
      refine xH ad λav=>?_
      exact gY (h ac _ ⟨aO,av,ah,rfl⟩) λh=>po 14 rfl<|dS h sv rfl rfl λ_ h=>re rfl<|Z<|ag (ac,m.2) _ _ h (by exact⟨i,L,o,rfl⟩) _ _ j hB d
  ·exact N G rfl<|X rfl<|Go.vv (g:=m.2) j hB d ⟨.inr rfl,_,(il results297),h⟩
instance Mt {p0 H Q}:ae prog 253 (oM p0 H Q) [.pointer p0] H (λv H'=>∃ r0,v=r0/\Q r0 H'):=aR (oM.eq_1 ..) func253 ntmps253
instance Mu {p0 H Q}:ae prog 224 (jY p0 H Q) [.pointer p0] H (λv H'=>∃ r0,v=VI r0/\Q r0 H'):=aR (jY.eq_1 ..) func224 ntmps224
instance OJ {p0 H Q}:ae prog 141 (iq p0 H Q) [.pointer p0] H (λv H'=>∃ r0,v=VI r0/\Q r0 H'):=aR (iq.eq_1 ..) func141 ntmps141
theorem Fp {p0 H Q} (h:Cs p0 H Q):fU prog 331 #[Sl.v p0] H λv H'=>∃ r0,v= .bool r0/\Q r0 H':=by
 unfold Cs at h
 exact F func331 rfl ntmps331<|R<|q (aB rfl)<|z<|R<|q (mS rfl)<|q (vt underlying50 rfl (Cn rfl))<|q (Dt rfl rfl)<|q (aB rfl)<|z<|E1 rfl rfl h
end
end Go.Proofs.YtigjebgjphmkoaaGreat
