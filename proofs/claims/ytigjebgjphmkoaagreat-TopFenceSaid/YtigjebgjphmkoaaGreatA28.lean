import Derived.Test.YtigjebgjphmkoaaGreatA27
set_option linter.unusedVariables false
set_option linter.unusedSimpArgs false
namespace Go.Proofs.YtigjebgjphmkoaaGreat
open Tryz
section
namespace So
open Go Go.Kx KM Rw Ge Sc Rg Mo Ds Rc
section
variable {H B:PH} {L R:List Ob} {k n:Nat} {A:Ds.DA} {X:Ad} {W:Wt} {S:KM.St}
theorem bB.zl (h:bB k S) {m:Nat} {D:Dk} (hd:bu m D) (a:D.now.length=S.d.now.length) (hm:k<=m):bB m ({S with d:=D}:KM.St):=
 ⟨⟨h.c,hd,by show _<=(D.now.length:Int);rw[a];exact h.len,h.im,h.tb,h.p1,h.p2,⟨h.cZ.1,by have:=h.cZ.2;show S.w.p.2.2.1<=(m:Int);omega⟩,h.prev,h.ue⟩,h.lt,h.it,h.bl,h.xy,h.fit⟩
theorem Kk {N:Nat} {t:Tb} (h:iE N t):iE N ⟨iT t.l t.v,t.v⟩:=by
 refine⟨(Us.tJ _ _ _).trans h.l,h.v,h.vr,λu hu=>?_⟩
 obtain⟨i,hi⟩:=List.getElem?_of_mem hu
 rw[show iT t.l t.v=eO t.l t.v t.l.length from rfl,Us.vc] at hi
 split at hi
 ·obtain⟨y,a,rfl⟩:=Option.map_eq_some_iff.1 hi
  have:=h.us y (by grind)
  exact⟨by simp,this.2⟩
 ·exact h.us u (by grind)
theorem Kl {N:Nat} {M:Im} (h:Ig.dN N M):Ig.dN N M.clean:=⟨h.p0.clean,h.p1.clean,h.n0,h.n1,h.uD,h.FB⟩
def w9 (S:KM.St):Dk×List Int:=S.emit.bV false
def yJ (S:KM.St):Dk×List Int:=(S.emit.bJ (w9 S).1).bV true
def Al (S:KM.St):KM.St:=(S.emit.bJ (w9 S).1).bJ (yJ S).1.flush
theorem vH {S:KM.St} (a:S.emit.c=S.c) (b:S.emit.n=S.n):S.check=(({(Al S).bJ (fC (Al S) (w9 S).2 (yJ S).2) with n:={S.emit.n with gen:=S.emit.n.gen+1,slot:=1-S.emit.n.slot,lb:=(w9 S).2,lo:=(yJ S).2},m:=S.emit.m.clean,t:={S.emit.t with l:=iT S.emit.t.l S.emit.t.v}}:KM.St),Oi S.emit.t.l S.emit.t.v):=by
 unfold KM.St.check fC Al yJ w9
 dsimp only[KM.St.bJ,KM.St.mX]
 rw[a,b]
theorem tP (ok:ji k S) (f:yB S.m) (o:iF S.c S.n.lb) (p:iF S.c S.n.lo) (aG:Bool):zk k S 5 (S.bV aG):=by
 have l:=gI ok.c
 have h:=ok.c.1
 have j:((S.m.bR aG).length:Int)=bc S.c:=by
  have b:=(ok.im.bR aG).d
  have e:=ok.im.cP aG
  rw[e] at b
  have:((nP S.c.1.toNat 15:Int))=bc S.c:=by simp only[nP,bc];omega
  omega
 have a:iF S.c (if aG then S.n.lo else S.n.lb):=by grind
 have key:∀i,i<=(S.m.bR aG).length->zk k S i ((jb (S.m.bR aG) i).foldl (kZ S.c aG (S.m.cP aG) (S.m.bR aG)) (S.d,if aG then S.n.lo else S.n.lb)):=by
  intro i
  induction i with
  |zero=>intro _;exact⟨ok.dk,rfl,a⟩
  |succ i g=>
   intro hi
   have P:=g (by omega)
   cases hd:(S.m.bR aG).getD i false with
   |false=>rw[Ig.tK hd];exact⟨P.ok.mono (by omega),P.len,P.sl⟩
   |true=>
    rw[Ig.tL hd,List.foldl_append]
    exact(w8 ok P (by omega) f).1
 have:=key _ (Nat.le_refl _)
 rw[KM.St.bV,vf]
 exact⟨this.ok.mono (by omega),this.len,this.sl⟩
structure vI (S:KM.St):Prop where
 refs:yB S.m
 lb:iF S.c S.n.lb
 lo:iF S.c S.n.lo
 slot:S.n.slot=0∨S.n.slot=1
 may:fW S.c ((Al S).mX (w9 S).2 (yJ S).2)=true
theorem GZ {Q:Sl->Int->PH->Prop} (h:aA H (aC B::cD A X W S R)) (hA:A.a=X.da) (hX:mg B X S.c) (hW:gJ B W S) (ok:bB k S) (hk:k+60< 2 ^ 28) (P:vI S)
 (hQ:∀A' W' q D H',A'.a=X.da->Ext B D->gJ D W' S.check.1->gR D q S.check.2->bB (k+40) S.check.1->S.check.1.d.now.length=S.d.now.length->aA H' (aC D::cD A' X W' S.check.1 R)->Q q 0 H'):je (some X.sa) H Q:=by
 refine ve h hA ?_
 rw[qX (mode:=0) (may:=true) ok.dk.off (.inl rfl) rfl]
 refine aF rfl (aD (aU (x:=some X.wa) h 11 rfl rfl (AP h hA hX hW ok (by omega) λA1 f B1 H1 an aj G h1=>aF rfl ?_)))
 obtain⟨o1,o2,o3,o4,o5,o6,o7,o8,o9⟩:=ok.emit (by omega)
 obtain⟨p1,p2,p3,p4,p5⟩:=P
 rw[vH o4 o5] at hQ
 unfold Al yJ w9 at p5 hQ
 rw[←o4] at p2 p3 p5
 rw[←o5] at p2 p3 p4
 rw[←o6] at p1
 have N:mg B1 X S.emit.c:=by rw[o4];exact hX.ext aj
 have ah:S.emit.d.now.length=S.d.now.length:=o7
 generalize S.emit=T at h1 G o1 ah p1 p2 p3 p4 p5 hQ N
 refine bG h1 λz H2 h2=>?_
 have h2:aA H2 (aC B1::cD A1 X f T (aJ z (jQ.s2 (Sl.nil,Sl.nil))::R)):=h2.ua
 have J:zk (k+8) T 5 (T.bV false):=tP o1.toji p1 p2 p3 false
 have ai:bB (k+13) (T.bJ (T.bV false).1):=o1.zl J.ok J.len (by omega)
 have r:zk (k+13) (T.bJ (T.bV false).1) 5 ((T.bJ (T.bV false).1).bV true):=tP ai.toji p1 p2 p3 true
 generalize aq:T.bV false=r0 at*
 generalize ar:(T.bJ r0.1).bV true=r1 at*
 have aw:bB (k+18) (T.bJ r1.1):=o1.zl r.ok (r.len.trans J.len) (by omega)
 refine av 2 (λi st Hk=>st=(i:Int)/\∃A' x D,A'.a=X.da/\Ext B1 D/\(1<=i->gR D x.1 r0.2)/\(2<=i->gR D x.2 r1.2)/\aA Hk (aC D::cD A' X f (T.bJ (if i=0 then T.d else if i=1 then r0.1 else r1.1)) (aJ z (jQ.s2 x)::R)))
  ⟨rfl,A1,(Sl.nil,Sl.nil),B1,an,.refl _,λh=>absurd h (by omega),λh=>absurd h (by omega),h2⟩ ?_
 rintro i st H3 again hi ⟨rfl,A3,x,B3,M,o,I,O,Y⟩ af
 refine aM (λc1=>?_) (λc1=>?_)
 ·have ag:i< 2:=by grind
  have al:i=0∨i=1:=by omega
  rcases al with rfl|rfl
  ·refine fc (aG:=false) (S:=T) Y M (N.ext o) (G.ext o) o1.toji (by omega) p1 p2 p3 λA4 q B4 H4 F U K _ u=>?_
   rw[aq] at K u
   refine⟨_,⟨by omega,by decide,rfl⟩,?_⟩
   refine cU (j:=0) u 12 rfl (by simp) rfl λH5 s=>aF rfl ?_
   rw[bK (by omega)]
   exact af ag _ _ ⟨rfl,A4,(q,x.2),B4,F,o.trans U,λ_=>K,λh=>absurd h (by omega),s⟩
  ·refine fc (aG:=true) (S:=T.bJ r0.1) Y M (N.ext o) ((G.ext o).of rfl rfl rfl) ai.toji (by omega) p1 p2 p3 λA4 q B4 H4 F U K _ u=>?_
   rw[ar] at K u
   refine⟨_,⟨by omega,by decide,rfl⟩,?_⟩
   refine cU (j:=1) u 12 rfl (by simp) rfl λH5 s=>aF rfl ?_
   rw[bK (by omega)]
   exact af ag _ _ ⟨rfl,A4,(x.1,q),B4,F,o.trans U,λ_=>(I (by omega)).ext U,λ_=>K,s⟩
 ·have:i=2:=by simp at c1;omega
  subst this
  have Y:aA H3 (aC B3::cD A3 X f (T.bJ r1.1) (aJ z (jQ.s2 x)::R)):=Y
  have I:=I (by omega)
  have O:=O (by omega)
  have aa:=N.ext o
  have ac:bB (k+19) (T.bJ r1.1.flush):=o1.zl r.ok.flush ((iz r.ok).trans (r.len.trans J.len)) (by omega)
  refine aD (aU (x:=some X.da) Y 11 rfl rfl ?_)
  rw[←M]
  refine BK (i:=4) Y rfl r.ok (by omega) λA4 H4 F u=>aF rfl ?_
  have u:aA H4 (aC B3::cD A4 X f (T.bJ r1.1.flush) (aJ z (jQ.s2 x)::R)):=u
  refine cE (x:=x) u 12 rfl rfl rfl ?_
  have ad:fW T.c ((T.bJ r1.1.flush).mX r0.2 r1.2)=true:=p5
  obtain⟨d1,d2⟩:=Nd ac.toji ad p4
  refine Kj (lb:=r0.2) (lo:=r1.2) u (F.trans M) aa ac.toji (by omega) I O ad p4 λV B5 H5 ao C s=>aF rfl ?_
  have eD:fC ((T.bJ r0.1).bJ r1.1.flush) r0.2 r1.2=fC (T.bJ r1.1.flush) r0.2 r1.2:=rfl
  rw[eD] at hQ
  have e:bB (k+24) ({T.bJ r1.1.flush with d:=fC (T.bJ r1.1.flush) r0.2 r1.2}:KM.St):=ac.zl d1 d2 (by omega)
  have ab:=(parts ad).gen
  have ab:1<=T.n.gen+1/\T.n.gen+1<=2147483647:=ab
  generalize fC (T.bJ r1.1.flush) r0.2 r1.2=D5 at s hQ e d1 d2
  have s:aA H5 (aC B5::cD V X f (T.bJ D5) (aJ z (jQ.s2 x)::R)):=s
  refine aD (dD (x:=T.n.gen) s 11 rfl rfl (aD (aU (x:=T.n.slot) s 11 rfl rfl (cE (x:=x) s 12 rfl rfl rfl (aD ?_)))))
  rw[cK (x:=T.n.gen+1) (by omega) (by omega),cK (x:=1-T.n.slot) (by omega) (by omega)]
  refine kH (yO (some X.da) X.g (some X.ta) (some X.ia) (some X.wa) (BO ({T with n:={T.n with gen:=T.n.gen+1}}:KM.St)) T.n.slot f.lb f.lo) s 11 rfl (by simp) rfl rfl λH6 h6=>wy h6 12 rfl rfl rfl (aD ?_)
  refine cU (j:=15) h6 11 rfl (by simp) rfl λH7 h7=>wy h7 12 rfl rfl rfl (aD ?_)
  refine xS (yO (some X.da) X.g (some X.ta) (some X.ia) (some X.wa) (BO ({T with n:={T.n with gen:=T.n.gen+1}}:KM.St)) (1-T.n.slot) x.1 x.2) h7 11 rfl (by simp) rfl rfl λH8 Z=>?_
  have Z:aA H8 (aC B5::(oX V X ⟨f.kI,f.kC,f.bl,x.1,x.2⟩ ({T.bJ D5 with n:={T.n with gen:=T.n.gen+1,slot:=1-T.n.slot,lb:=r0.2,lo:=r1.2}}:KM.St)++aJ z (jQ.s2 x)::R)):=Z
  have Z:aA H8 (aC B5::cD V X ⟨f.kI,f.kC,f.bl,x.1,x.2⟩ ({T.bJ D5 with n:={T.n with gen:=T.n.gen+1,slot:=1-T.n.slot,lb:=r0.2,lo:=r1.2}}:KM.St) R):=Z.kG
  refine aD (aU (x:=some X.ia) Z 11 rfl rfl (Ig.MC (uw Z) (aa.ext C).im λH9 h9=>?_))
  have h9:aA H9 (aC B5::cD V X ⟨f.kI,f.kC,f.bl,x.1,x.2⟩ ({T.bJ D5 with n:={T.n with gen:=T.n.gen+1,slot:=1-T.n.slot,lb:=r0.2,lo:=r1.2},m:=T.m.clean}:KM.St) R):=h9
  have hN:=o1.tb.l
  have hV:=o1.tb.v
  have au:=o1.c.2.2.2.1
  refine aD (aU (x:=some X.ta) h9 11 rfl rfl (Us.KF h9 ((aa.ext C).ta) 5 6 rfl rfl (by decide) (by show T.t.v.length=T.t.l.length;rw[hN,hV]) (by show T.t.l.length<_;omega) λq ae ak=>?_))
  refine iW (show aA ae (aC B5::aS i64 q (Oi T.t.l T.t.v)::cD V X ⟨f.kI,f.kC,f.bl,x.1,x.2⟩ ({T.bJ D5 with n:={T.n with gen:=T.n.gen+1,slot:=1-T.n.slot,lb:=r0.2,lo:=r1.2},m:=T.m.clean,t:={T.t with l:=iT T.t.l T.t.v}}:KM.St) R) from ak.up) λam E K ap=>?_
  refine hQ V ⟨f.kI,f.kC,f.bl,x.1,x.2⟩ q am ae ao (aj.trans (o.trans (C.trans E))) ⟨I.ext (C.trans E),O.ext (C.trans E),G.len,λi y b hy hb=>(G.at_ i y b hy hb).ext (o.trans (C.trans E))⟩ K ?_ ?_ ap
  ·exact⟨⟨e.c,e.dk.mono (by omega),e.len,Kl e.im,Kk e.tb,e.p1,e.p2,⟨e.cZ.1,by have:=e.cZ.2;show T.w.p.2.2.1<=((k+40:Nat):Int);have h:T.w.p.2.2.1<=((k+24:Nat):Int):=this;omega⟩,e.prev,e.ue⟩,e.lt,e.it,e.bl,e.xy,e.fit⟩
  ·exact d2.trans ((iz r.ok).trans (r.len.trans (J.len.trans ah)))
theorem xA {view mode:Int} (hm:S.n.mode=1) (e:1<=view/\view<=2147483647) (b:mode=1∨mode=2) (c:S.n.view<view) (a:S.d.off=false):S.raise view mode=((S.raised view mode).check.1,0):=by
 unfold KM.St.raise
 rw[if_neg (by omega),if_neg,if_neg (by omega),a,if_neg (by simp)]
 simp only[bN,Bool.or_eq_true,Bool.not_eq_true',Bool.and_eq_false_iff,decide_eq_false_iff_not,beq_iff_eq,Bool.or_eq_false_iff,beq_eq_false_iff_ne]
 omega
theorem vg (ok:bB k S) (view mode:Int):bB k (S.raised view mode):=by
 unfold KM.St.raised
 exact bB.live (S:=({S with m:=S.m.forget.1,n:={S.n with seq:=S.n.done,view:=view,mode:=mode}}:KM.St)) (ok.same rfl rfl rfl rfl (Ig.xT ok.im _).1) _ _
theorem Ga {view mode:Int} {Q:Int->PH->Prop} (h:aA H (aC B::cD A X W S R)) (w:A.a=X.da) (p:mg B X S.c) (hW:gJ B W S) (ok:bB k S) (hk:k+60< 2 ^ 28)
 (hm:S.n.mode=1) (hv:1<=view/\view<=2147483647) (C:mode=1∨mode=2) (hg:S.n.view<view) (P:vI (S.raised view mode))
 (y:∀r t l H',r.a=X.da->Ext B l->gJ l t (S.raise view mode).1->bB (k+40) (S.raise view mode).1->(S.raise view mode).1.d.now.length=S.d.now.length->aA H' (aC l::cD r X t (S.raise view mode).1 R)->Q 0 H'):kh (some X.sa) view mode H Q:=by
 rw[xA hm hv C hg ok.dk.off] at y
 refine aF rfl (aD (dD (x:=S.n.mode) h 11 rfl rfl ?_))
 rw[hm]
 refine aF rfl (xq (b:=decide (2147483647<view)) (by simp) ?_)
 rw[decide_eq_false (show¬view< 1 by omega),decide_eq_false (show¬2147483647<view by omega)]
 refine aE (aF rfl (aE ?_))
 have fin:∀K:Prop,(aL false (Q 1 H) K->aL (mode != 1) (aL (mode != 2) (Q 1 H) K) (aL false (Q 1 H) K)):=λK Z=>by
  refine aM (λc1=>?_) (λc1=>Z)
  grind
 refine fin _ (aF rfl (aD (dD (x:=S.n.view) h 11 rfl rfl (aF (by grind) (aD (aU (x:=some X.da) h 11 rfl rfl ?_))))))
 rw[←w]
 refine CL (i:=4) h rfl ?_
 rw[ok.dk.off]
 refine aF rfl (aD (aU (x:=some X.ia) h 11 rfl rfl (Ig.uc (uw h) p.im ok.im λH1 q O=>?_)))
 obtain⟨s,e,j,f⟩:=O.wh.fz
 have e1:S.m.forget=gb S.m S.c.1.toNat:=by show gb S.m S.m.l1.length=_;rw[ok.im.n1]
 rw[←e1] at f j
 have D:Ig.dN S.c.1.toNat S.m.forget.1:=by rw[e1];exact(Ig.xT ok.im _).1
 have f:aA H1 (aC s::cD A X W ({S with m:=S.m.forget.1}:KM.St) R):=f
 have hlen:S.m.forget.2.length< 2 ^ 20:=by
  rw[e1]
  have:=(Ig.xT ok.im S.c.1.toNat).2;have:=ok.im.uD;omega
 refine vd f (p.ext e) (ok.same (T:=({S with m:=S.m.forget.1}:KM.St)) rfl rfl rfl rfl D).toji (dX.list j) hlen λH3 v=>?_
 refine aD (dD (x:=S.n.done) v 11 rfl rfl (aD ?_))
 refine kH (yO (some X.da) X.g (some X.ta) (some X.ia) (some X.wa) (S.n.mode,S.n.view,S.n.aQ,S.n.done,S.n.done,S.n.aN,S.n.gen,0,0,0) S.n.slot W.lb W.lo) v 11 rfl (by simp) rfl rfl λH4 U=>aD ?_
 refine kH (yO (some X.da) X.g (some X.ta) (some X.ia) (some X.wa) (S.n.mode,view,S.n.aQ,S.n.done,S.n.done,S.n.aN,S.n.gen,0,0,0) S.n.slot W.lb W.lo) U 11 rfl (by simp) rfl rfl λH5 V=>aD ?_
 refine kH (yO (some X.da) X.g (some X.ta) (some X.ia) (some X.wa) (mode,view,S.n.aQ,S.n.done,S.n.done,S.n.aN,S.n.gen,0,0,0) S.n.slot W.lb W.lo) V 11 rfl (by simp) rfl rfl λJ o=>?_
 have o:aA J (aC s::cD A X W (S.raised view mode) R):=o
 exact GZ o w (p.ext e) ((hW.ext e).of rfl rfl rfl) (vg ok view mode) hk P λG N q7 I M u F z _ E l7 Y=>y G N I M u (e.trans F) z E l7 Y
end
end So
end
section
namespace So
open Go Go.Kx KM Rw Ge Sc Rg Mo Ds Rc
section
variable {H B:PH} {L R:List Ob} {k n:Nat} {A:Ds.DA} {X:Ad} {W:Wt} {S:KM.St}
theorem Gb (ok:bB k S) {x n:Int} (hm:S.n.mode=1) (a:S.has x n=true) (he:(S.add (2,x,n,0) none false).2.2=0):
 S.cut true x n=(({(S.add (2,x,n,0) none false).1 with n:={(S.add (2,x,n,0) none false).1.n with seq:=(S.add (2,x,n,0) none false).1.n.seq+1},m:=((S.add (2,x,n,0) none false).1.m.cut true x n).1}:KM.St).live 0 ((S.add (2,x,n,0) none false).1.m.cut true x n).2,0):=by
 have b:=qX ok.dk.off (S:=S) (mode:=1) (may:=S.has x n) (.inr hm) a
 unfold KM.St.cut
 grind
theorem Km {M:Im} {n:Nat} (h:Ig.dN n M) (x y:Int):Ig.dN n (M.cut true x y).1:=by
 unfold Im.cut
 split
 ·have key:∀i,Ig.dN n (gZ true x M i).1:=by
   intro i
   induction i with
   |zero=>exact h
   |succ i a=>exact a.put true _ 0
  exact key _
 ·exact h
theorem Rf (ok:bB k S) (hk:k+40< 2 ^ 28) {x n:Int} (hm:S.n.mode=1) (e:S.has x n=true) (he:(S.add (2,x,n,0) none false).2.2=0) (hi:cB (2,x,n,0)=true):
 bB (k+16) (S.cut true x n).1/\(S.cut true x n).1.c=S.c/\(S.cut true x n).1.d.now.length=S.d.now.length/\(S.cut true x n).1.n={S.n with seq:=S.n.seq+1}/\(S.cut true x n).2=0:=by
 rw[Gb ok hm e he]
 have f:bM (2,x,n,0)=false:=by rw[bM,hi];rfl
 obtain⟨P,_⟩:=qY (sp:=false) ok hk hi (b:=none) (by rw[f];rfl) (by simp)
 obtain⟨o1,o2,o3,g,a⟩:=P
 generalize(S.add (2,x,n,0) none false).1=T at o1 o2 o3 g a
 refine⟨bB.live (S:=({T with n:={T.n with seq:=T.n.seq+1},m:=(T.m.cut true x n).1}:KM.St)) (o1.same rfl rfl rfl rfl (Km o1.im x n)) _ _,o2,a,by show({T.n with seq:=T.n.seq+1}:Sn)=_;rw[o3],rfl⟩
theorem UG {M:Im} {n:Nat} (h:Ig.dN n M) (x y:Int):(M.cut true x y).2.length<=64:=by
 unfold Im.cut
 split
 ·next a=>
  have key:∀i,(gZ true x M i).2.length<=i:=by
   intro i
   induction i with
   |zero=>exact Nat.le_refl 0
   |succ i e=>
    have c:∀z,(gl z).length<=1:=λz=>by unfold gl;grind
    rw[gZ]
    grind
  have d:=h.uD
  have b:=h.n0
  simp only[Im.has,Bool.and_eq_true,decide_eq_true_eq] at a
  grind
 simp
theorem O6 {b y:Int} {Q:Int->PH->Prop} (h:aA H (aC B::cD A X W S R)) (F:A.a=X.da) (o:mg B X S.c) (Z:gJ B W S) (ok:bB k S) (hk:k+40< 2 ^ 28)
 (hm:S.n.mode=1) (w:S.has b y=true) (he:(S.add (2,b,y,0) none false).2.2=0) (hi:cB (2,b,y,0)=true) (ac:0<=S.n.seq/\S.n.seq< 2 ^ 40)
 (v:∀C D r H',C.a=X.da->Ext B r->gJ r D (S.cut true b y).1->aA H' (aC r::cD C X D (S.cut true b y).1 R)->Q 0 H'):rB (some X.sa) b y H Q:=by
 have G:bM (2,b,y,0)=false:=by rw[bM,hi];rfl
 obtain⟨P,_⟩:=qY (sp:=false) ok hk hi (b:=none) (by rw[G];rfl) (by simp)
 have ab:=uf ok.toji w
 have aa:=ok.im.uD
 rw[Gb ok hm w he] at v
 refine AQ h o ok.toji (by omega) ?_
 rw[w]
 refine ve h F ?_
 rw[qX (mode:=1) ok.dk.off (.inr hm) rfl]
 refine aF rfl (aD (aU (x:=some X.wa) h 11 rfl rfl ?_))
 refine zW (i:=(2,b,y,0)) (b:=none) h F o Z ok hk hi (by simp) (by rw[G];rfl) rfl (by simp) λq d M H1 E e p t=>?_
 rw[he]
 obtain⟨o1,o2,o3,J,o5⟩:=P
 generalize(S.add (2,b,y,0) none false).2.1=at'
 generalize(S.add (2,b,y,0) none false).1=T at t p o1 o2 o3 J o5 v
 refine aF rfl (aD (dD (x:=T.n.seq) t 11 rfl rfl (aD ?_)))
 rw[cK (x:=T.n.seq+1) (by grind) (by grind)]
 refine kH (yO (some X.da) X.g (some X.ta) (some X.ia) (some X.wa) (BO ({T with n:={T.n with seq:=T.n.seq+1}}:KM.St)) T.n.slot d.lb d.lo) t 11 rfl (by simp) rfl rfl λN l=>?_
 have l:aA N (aC M::cD q X d ({T with n:={T.n with seq:=T.n.seq+1}}:KM.St) R):=l
 refine aD (aU (x:=some X.ia) l 11 rfl rfl ?_)
 have I:Ig.dN S.c.1.toNat T.m:=by rw[J];exact ok.im
 obtain⟨j,rfl⟩:∃z:Nat,y=z:=⟨y.toNat,by omega⟩
 refine Ig.Hx (uw l) (o.im.ext e) I (by omega) (by omega) (by omega) λO g V=>?_
 obtain⟨s,f,hv,u⟩:=V.wh.fz
 have u:aA O (aC s::cD q X d ({T with n:={T.n with seq:=T.n.seq+1},m:=(T.m.cut true b j).1}:KM.St) R):=u
 have K:ji (k+16) ({T with n:={T.n with seq:=T.n.seq+1},m:=(T.m.cut true b j).1}:KM.St):=(o1.same (T:=({T with n:={T.n with seq:=T.n.seq+1},m:=(T.m.cut true b j).1}:KM.St)) rfl rfl rfl rfl (Km o1.im b j)).toji
 have hlen:=UG o1.im b (j:Int)
 refine vd u (by show mg s X T.c;rw[o2];exact o.ext (e.trans f)) K (dX.list hv) (by grind) λU Y=>?_
 exact v q d s U E (e.trans f) ((p.ext f).of rfl rfl rfl) Y
end
end So
end
section
namespace Wi
open Go Go.Kx KM
abbrev M5:=Int×Int×Int×Int×Sl
abbrev c5 (x:M5):List Value:=[.int .i64 x.1,.int .i64 x.2.1,.int .i64 x.2.2.1,.int .i64 x.2.2.2.1,Sl.v x.2.2.2.2]
def eP:M5:=(0,0,0,0,Sl.nil)
def HH (x:M5×Bool):List Value:=[.int .i64 x.1.1,.int .i64 x.1.2.1,.int .i64 x.1.2.2.1,.int .i64 x.1.2.2.2.1,Sl.v x.1.2.2.2.2,.bool x.2]
theorem FG (x:M5×Bool):(HH x).length=6:=rfl
theorem cvS (x:M5×Bool):(HH x).all cg=true:=rfl
structure WM where
 size:Nat
 next:Int
 f:Int->Option M5
def zm:Option M5->M5×Bool
 |none=>(eP,false)
 |some v=>(v,true)
def WM.Am (W:WM) (n:Int):Int:=if n<W.next then 9 else if W.next+W.size<=n then 10 else if(W.f n).isSome then 9 else 0
def WM.put (W:WM) (n:Int) (v:M5):WM:=if W.Am n=0 then{W with f:=λk=>if k=n then some v else W.f k} else W
def WM.cut (W:WM):WM:={W with f:=λk=>if k=W.next then none else W.f k}
def WM.ux (W:WM):M5:=(zm (W.f W.next)).1
def WM.uy (W:WM):Bool:=(zm (W.f W.next)).2
def WM.pop (W:WM):WM:=if W.uy then{W.cut with next:=W.next+1} else W
def lf (size:Nat) (next:Int):WM:=⟨size,next,λ_=>none⟩
theorem pY {α:Type} {L:List α} {i:Nat} {O:α} (h:L[i]?=some O):L.set i O=L:=by
 apply List.ext_getElem?
 grind
structure EF (W:WM):Prop where
 pos:0<W.size
 le:W.size<=16
 n1:1<=W.next
 n2:W.next< 2 ^ 40
 out:∀n,n<W.next∨W.next+W.size<=n->W.f n=none
def xX (l:List (M5×Bool)) (W:WM):Prop:=l.length=W.size/\∀n,W.next<=n->n<W.next+W.size->l[(n%W.size).toNat]?=some (zm (W.f n))
structure uB (H:PH) (a:Addr) (s:Sl) (W:WM):Prop where
 row:aa H a [Sl.v s,.int .i64 W.next]
 vec:∃l,bj HH 6 H s l/\xX l W
 ap:¬s.has a.block
 ok:EF W
theorem uB.cq {H H':PH} {a:Addr} {s:Sl} {W:WM} (h:uB H a s W) (x:∀c o,c=a.block∨s.has c->H c=some o->H' c=some o):uB H' a s W:=
 ⟨h.row.cq (by grind),let⟨l,d,b⟩:=h.vec;⟨l,d.cq (by grind),b⟩,h.ap,h.ok⟩
def gK (a:Addr) (s:Sl) (W:WM):Ob:=⟨λH=>uB H a s W,λc=>c=a.block∨s.has c,λh x=>h.cq x,λh b=>by
 rcases b with rfl|b
 ·obtain⟨e,he⟩:=h.row.2.2;rw[he];simp
 ·obtain⟨l,d,_⟩:=h.vec;exact Dw (d.dg b)⟩
theorem Z9 {size:Nat} {next n m:Int} (o:0<size) (f:next<=n) (g:n<next+size) (j:next<=m) (l:m<next+size) (e:(n%size).toNat=(m%size).toNat):n=m:=by
 have a:=Int.emod_nonneg n (show(size:Int)≠0 by omega)
 have b:=Int.emod_nonneg m (show(size:Int)≠0 by omega)
 have c:n%size=m%size:=by omega
 have:=Int.emod_emod_of_dvd (n-m) (Int.dvd_refl (size:Int))
 have hd:(size:Int)∣n-m:=Int.dvd_of_emod_eq_zero (by rw[Int.sub_emod,c,Int.sub_self];rfl)
 obtain⟨k,hk⟩:=hd
 have d:k=0:=by
  rcases Int.lt_trichotomy k 0 with h|h|h
  ·have:(size:Int)*k<=size*(-1):=Int.mul_le_mul_of_nonneg_left (by omega) (by omega)
   omega
  ·exact h
  ·have:(size:Int)*1<=size*k:=Int.mul_le_mul_of_nonneg_left (by omega) (by omega)
   omega
 grind
theorem Vm {size:Nat} (n:Int) (c:0<size):(n%size).toNat<size:=by
 have a:=Int.emod_nonneg n (show(size:Int)≠0 by omega)
 have b:=Int.emod_lt_of_pos n (show(0:Int)<size by omega)
 omega
theorem xX.set {l:List (M5×Bool)} {W:WM} (h:xX l W) (d:0<W.size) {n:Int} (j:W.next<=n) (p:n<W.next+W.size) (o:Option M5):xX (l.set (n%W.size).toNat (zm o)) {W with f:=λk=>if k=n then o else W.f k}:=by
 refine⟨by simpa using h.1,λm b c=>?_⟩
 by_cases e:m=n
 ·subst e
  rw[List.getElem?_set_self (by rw[h.1];exact Vm _ d)];simp
 ·have:(n%W.size).toNat≠(m%W.size).toNat:=λg=>e (Z9 d j p b c g).symm
  show(l.set (n%W.size).toNat (zm o))[(m%(W.size:Int)).toNat]?=_
  rw[List.getElem?_set_ne this,h.2 m b c];simp[e]
section
variable {H:PH} {L:List Ob} {i:Nat} {a:Addr} {s:Sl} {W:WM}
theorem xz {Q:Bool->PH->Prop} (h:uB H a s W) (d:Q false H):gG (some a) H Q:=by
 obtain⟨l,c,b,_⟩:=h.vec
 refine aE (aF rfl (aD (aX (x:=s) h.row rfl ?_)))
 have:((s.len:Int)==0)=false:=by rw[c.bL,b];have:=h.ok.pos;simp;omega
 grind
theorem wz {n:Int} {Q:Option Addr->PH->Prop} (h:uB H a s W) (j:W.next<=n) (k:n<W.next+W.size) (m:∀l b,xX l W->qq HH 6 H s l (n%W.size).toNat (zm (W.f n)) b->Q (some b) H):fm (some a) n H Q:=by
 obtain⟨l,d,c,e⟩:=h.vec
 have q:=h.ok.pos
 have o:=h.ok.n1
 refine aD (aX (x:=s) h.row rfl (aD (aX (x:=s) h.row rfl ⟨by rw[d.bL,c];omega,?_⟩)))
 rw[d.bL,c,Int.tmod_eq_emod_of_nonneg (by omega)]
 have a0:=Int.emod_nonneg n (show(W.size:Int)≠0 by omega)
 have p:=Int.emod_lt_of_pos n (show(0:Int)<W.size by omega)
 refine sk d a0 (by omega) λb x el=>?_
 have g:=el.get
 rw[e n j k] at g
 cases g
 exact m l b ⟨c,e⟩ el
theorem ID {l:List (M5×Bool)} {H':PH} {b:WM} (h:aA H L) (hi:L[i]?=some (gK a s W)) (j:bj HH 6 H' s l) (e:xX l b) (f:b.next=W.next) (g:EF b) (k:wm s H H'):aA H' (L.set i (gK a s b)):=by
 have w:uB H a s W:=h.get i hi
 refine h.cR (O':=gK a s b) i hi ⟨?_,by grind,w.ap,g⟩ (λc d=>.inl d) (λc o d f=>k c o d λe=>f (.inr e))
 rw[f]
 exact w.row.cq λc o d g=>k c o g λe=>w.ap (d▸e)
theorem Ko {W:WM} (h:(W.f W.next).isSome=false):W.cut=W:=by
 have:W.f W.next=none:=by
  simp_all
 unfold WM.cut
 obtain⟨sz,nx,f⟩:=W
 simp only at this
 congr 1
 grind
theorem EF.cut {W:WM} (h:EF W):EF W.cut:=⟨h.pos,h.le,h.n1,h.n2,λn b=>by
 show(if n=W.next then none else W.f n)=none
 split
 ·rfl
 ·exact h.out n b⟩
theorem xX.new (size:Nat) (next:Int) (b:0<size):xX (List.replicate size (eP,false)) (lf size next):=⟨by simp[lf],λn _ _=>by
 have:=Vm n b
 show(List.replicate size (eP,false))[(n%(size:Int)).toNat]?=_
 rw[List.getElem?_replicate,if_pos this];rfl⟩
theorem Vn {size:Nat} {next:Int} (d:0<size) (b:size<=16) (c:1<=next) (e:next<=2147483647):EF (lf size next):=⟨d,b,c,by show next< 2 ^ 40;omega,λ_ _=>rfl⟩
end
end Wi
end
section
namespace Wi
open Go Go.Kx KM
def zn (B:PH) (m:M5) (o:nO):Prop:=m.1=o.kind/\m.2.1=o.block/\m.2.2.1=o.count/\m.2.2.2.1=o.aQ/\Bytes B m.2.2.2.2 o.data
theorem zn.ext {B b:PH} {m:M5} {o:nO} (h:zn B m o) (x:Ext B b):zn b m o:=⟨h.1,h.2.1,h.2.2.1,h.2.2.2.1,h.2.2.2.2.ext x⟩
theorem Kp (V:WM):V.uy=(V.f V.next).isSome:=by rw[WM.uy];cases V.f V.next<;>rfl
section
variable {H B:PH} {L:List Ob} {a:Addr} {s:Sl} {V:WM}
theorem AR {Q:M5->Bool->PH->Prop} (h:aA H (aC B::gK a s V::L)) (n:∀H',aA H' (aC B::gK a s V::L)->Q V.ux V.uy H'):fN (some a) H Q:=by
 refine bG h λb H1 d=>?_
 have w:uB H1 a s V:=d.get 2 rfl
 have:=w.ok.pos
 refine xz w (aF rfl (aD (aX (x:=V.next) w.row rfl (wz w (by omega) (by omega) λl k q el=>aD ?_))))
 have j:=el.cells FG
 have c0:cI H1 (k.add 0) 5=some (c5 V.ux):=by
  rw[add_zero'];exact F3 (m:=5) j (by omega)
 refine⟨V.ux,c0,aD ⟨V.uy,el.cell FG rfl,?_⟩⟩
 refine Wg d rfl rfl λe g k2=>?_
 have f:=el.cq λc o p=>k2.aG d (i:=0) rfl c o (.inr p)
 exact⟨f.cell FG rfl,V.ux,(g.get 1 rfl:aa e b _).all rfl,n e g.aq⟩
theorem UH {Q:Bool->PH->Prop} (h:aA H (aC B::gK a s V::L)) (g:∀H',aA H' (aC B::gK a s V.cut::L)->Q V.uy H'):iv (some a) H Q:=by
 refine AR h λH1 j=>bG j λb p k=>cF k rfl rfl λe f=>?_
 have d:=f.aq
 have w:uB e a s V:=d.get 1 rfl
 have:=w.ok.pos
 refine aE (aM (λc=>?_) (λc=>?_))
 ·refine aD (aX (x:=V.next) w.row rfl (wz w (by omega) (by omega) λl q m el=>aD (Me (y:=(eP,false)) FG el (cvS _) λH' o n=>?_)))
  exact g H' (ID d (i:=1) rfl o (m.set w.ok.pos (by omega) (by omega) none) rfl w.ok.cut n)
 ·refine g e ?_
  rw[Ko (by rw[←Kp];exact c)];exact d
theorem UI {Q:M5->Bool->PH->Prop} (h:aA H (aC B::gK a s V::L)) (K:V.next+1< 2 ^ 40) (J:∀H',aA H' (aC B::gK a s V.pop::L)->Q V.ux V.uy H'):kP (some a) H Q:=by
 refine bG h λj T r=>AR (L:=aJ j _::L) r.swap λH1 F=>bG F λb U G=>cF G rfl rfl λW t=>UH (L:=aJ b _::aJ j _::L) t.swap λu k=>?_
 have fin:∀d,aA d (aC B::gK a s V.pop::aJ b (c5 V.ux)::aJ j (c5 eP)::L)->aT c5 d b 5 λE=>aV d j (c5 E) λq=>aT c5 q j 5 λi=>Q (i.1,i.2.1,i.2.2.1,i.2.2.2.1,i.2.2.2.2) V.uy q:=λd z=>by
  refine⟨V.ux,(z.get 2 rfl:aa d b _).all rfl,?_⟩
  have I:aA d (aC B::aJ j (c5 eP)::gK a s V.pop::aJ b (c5 V.ux)::L):=z.perm (.cons _ ((List.Perm.cons _ (.swap _ _ _)).trans (.swap _ _ _)))
  refine cF I rfl rfl λv A=>⟨V.ux,(A.get 1 rfl:aa v j _).all rfl,?_⟩
  exact J v ((A.aq.swap).aq)
 have g:uB u a s V.cut:=k.get 1 rfl
 have w:uB H a s V:=h.get 1 rfl
 refine aE (aM (λc=>?_) (λc=>?_))
 ·have:=w.ok.n1
  refine aD (aX (x:=V.next) g.row rfl (aD (tf g.row (by simp) rfl λd r5 D=>fin d ?_)))
  rw[bC (by omega) (by omega)] at r5
  have e:V.pop={V.cut with next:=V.next+1}:=by rw[WM.pop,if_pos c]
  rw[e]
  refine k.cR (O':=gK a s {V.cut with next:=V.next+1}) 1 rfl (H':=d) ⟨r5,?_,g.ap,⟨g.ok.pos,g.ok.le,by grind,K,λn p=>?_⟩⟩ (λc m=>.inl m) (λc o m p=>D c o m λe=>p (.inl e))
  ·obtain⟨l,O,M,C⟩:=g.vec
   refine⟨l,O.cq λc o m N=>D c o N λe=>g.ap (e▸m),M,λn t k=>?_⟩
   have P:V.next+1<=n:=t
   have R:n<V.next+1+V.size:=k
   by_cases p:n<V.next+V.size
   ·exact C n (by show V.next<=n;omega) p
   ·have en:n=V.next+V.size:=by omega
    have X:=w.ok.pos
    have e1:(n%V.size).toNat=(V.next%V.size).toNat:=by simp_all
    show l[(n%V.size).toNat]?=_
    have r:V.cut.f n=V.cut.f V.next:=by
     rw[g.ok.out n (.inr (by rw[en];exact Int.le_refl _))]
     show none=(if V.next=V.next then none else V.f V.next)
     simp
    rw[e1,r]
    exact C V.next (Int.le_refl _) (by show V.next<V.next+V.size;omega)
  ·have S:n<V.next+1∨V.next+1+V.size<=n:=p
   show(if n=V.next then none else V.f n)=none
   by_cases e:n=V.next
   ·rw[if_pos e]
   ·rw[if_neg e];exact w.ok.out n (by omega)
 ·refine fin u ?_
  have y:V.uy=false:=c
  have:V.pop=V.cut:=by rw[WM.pop,if_neg (by rw[y];simp),Ko (by rw[←Kp];exact y)]
  rw[this];exact k
theorem pZ {n:Int} {v:M5} {Q:Int->PH->Prop} (h:aA H (aC B::gK a s V::L)) (j:∀H',aA H' (aC B::gK a s (V.put n v)::L)->Q (V.Am n) H'):kO (some a) n v H Q:=by
 refine bG h λb H1 g=>?_
 have w:uB H1 a s V:=g.get 2 rfl
 have d:=w.ok
 have:=d.n1;have:=d.n2;have:=d.le;have:=d.pos
 obtain⟨l,u,r,G⟩:=w.vec
 have stay:∀e,V.Am n=e->e≠0->Q e H1:=λe he q=>by
  have:V.put n v=V:=by rw[WM.put,if_neg (by rw[he];exact q)]
  have I:=j H1 (by rw[this];exact g.aq)
  grind
 refine xz w (aF rfl (aD (aX (x:=V.next) w.row rfl (aM (λc=>?_) (λc=>?_)))))
 ·exact stay 9 (by simp at c;simp[WM.Am,c]) (by decide)
 have c1:¬n<V.next:=by simpa using c
 refine aD (aX (x:=V.next) w.row rfl (aD (aX (x:=s) w.row rfl ?_)))
 rw[u.bL,r,bC (by omega) (by omega)]
 refine aM (λc=>?_) (λc=>?_)
 ·exact stay 10 (by simp at c;simp[WM.Am,c,c1]) (by decide)
 have c2:¬V.next+V.size<=n:=by simpa using c
 refine wz w (by omega) (by omega) λl2 E C el=>aD ⟨_,el.cell FG rfl,?_⟩
 refine aM (λc=>?_) (λc=>?_)
 ·have:(V.f n).isSome=true:=by
   cases hf:V.f n with
   |none=>rw[hf] at c;cases c
   |some x=>rfl
  exact stay 9 (by simp[WM.Am,c1,c2,this]) (by decide)
 have c3:V.f n=none:=by
  cases hf:V.f n with
  |none=>rfl
  |some x=>rw[hf] at c;cases c
 refine⟨v,(g.get 1 rfl:aa H1 b _).all rfl,wz w (by omega) (by omega) λJ F p o=>⟨(g.get 1 rfl:aa H1 b _).all rfl,aD (Me (y:=(v,true)) FG o (cvS _) λH' A z=>?_)⟩⟩
 have k:V.Am n=0:=by simp[WM.Am,c1,c2,c3]
 rw[k] at j
 refine j H' ?_
 rw[WM.put,if_pos k]
 have t:=p.set d.pos (n:=n) (by omega) (by omega) (some v)
 refine(ID g (i:=2) rfl A t rfl ⟨d.pos,d.le,d.n1,d.n2,λm hm=>?_⟩ z).aq
 have D:m<V.next∨V.next+V.size<=m:=hm
 have:m≠n:=(by omega)
 show(if m=n then some v else V.f m)=none
 rw[if_neg this];exact d.out m hm
theorem fO {size:Nat} {next:Int} {Q:Option Addr->PH->Prop} (h:aA H (aC B::L)) (m:1<=size) (n:size<=16) (g:1<=next) (i:next<=2147483647) (j:∀a s H',aA H' (aC B::gK a s (lf size next)::L)->Q (some a) H'):pr size next H Q:=by
 refine aE (aF (by simp;omega) (aE (aF (by simp;omega) (aE (aF (by simp;omega) (aF (by simp;omega) ?_))))))
 refine mkN (enc:=HH) (sz:=6) (x:=(eP,false)) (by omega) (by omega) λr H1 d o1 v1=>kb λa f e l f2=>?_
 have k:¬r.has a.block:=λb=>by obtain⟨o,p⟩:=v1.dg b;grind
 rw[Int.toNat_natCast] at v1
 refine j a r f (h.made ((aA.start H).new (O':=gK a r (lf size next)) (d.trans e) ⟨l,⟨_,v1.ext e,xX.new _ _ (by omega)⟩,k,Vn (by omega) (by omega) g i⟩ λc b=>?_))
 rcases b with rfl|b
 ·exact d.none f2
 ·exact o1 c b
end
end Wi
end
section
namespace Fm
open Go Go.Kx KM Rw Cr Wi
abbrev F8:=Int×Int×Int×Int×Int×Int×Int×Sl
abbrev f8 (x:F8):List Value:=[i64 x.1,i64 x.2.1,i64 x.2.2.1,i64 x.2.2.2.1,i64 x.2.2.2.2.1,i64 x.2.2.2.2.2.1,i64 x.2.2.2.2.2.2.1,Sl.v x.2.2.2.2.2.2.2]
theorem len8 (x:F8):(f8 x).length=8:=rfl
theorem cv8f (x:F8):(f8 x).all cg=true:=rfl
def AS:F8:=(0,0,0,0,0,0,0,Sl.nil)
def dL (f:oW) (s:Sl):F8:=(f.kind,f.view,f.seq,f.block,f.count,f.aQ,f.done,s)
section
variable {H B:PH} {L:List Ob} {f:oW} {s p:Sl} {b:Bs}
theorem bH {x lo hi:Int} {Q:Bool->PH->Prop} (a:Q (bN x lo hi) H):dy x lo hi H Q:=dR (b:=decide (x<=hi)) (λk=>k) a
theorem Rh {x:F8} {Q:F8->PH->Prop} (h:∀H',Ext H H'->Q (x.1,x.2.1,0,0,0,0,0,Sl.nil) H'):yY x H Q:=by
 refine dZ (.start H) λa H1 g k=>dZ g λj i c l=>aU (x:=x.1) c 2 rfl rfl (aU (x:=x.2.1) c 2 rfl rfl ?_)
 exact fb (vs:=f8 (x.1,x.2.1,0,0,0,0,0,Sl.nil)) c 1 rfl rfl rfl λe d=>cE (x:=(x.1,x.2.1,0,0,0,0,0,Sl.nil)) d 1 rfl rfl rfl (h e d.base)
def AT (x y:F8) (l m:Bs):Bool:=((((((((x.1==y.1)&&(x.2.1==y.2.1))&&(x.2.2.1==y.2.2.1))&&(x.2.2.2.1==y.2.2.2.1))&&(x.2.2.2.2.1==y.2.2.2.2.1))&&(x.2.2.2.2.2.1==y.2.2.2.2.2.1))&&(x.2.2.2.2.2.2.1==y.2.2.2.2.2.2.1))&&(l==m))
theorem Ri {x y:F8} {l m:Bs} {Q:Bool->PH->Prop} (i:Bytes H x.2.2.2.2.2.2.2 l) (j:Bytes H y.2.2.2.2.2.2.2 m) (bl:bP l) (e:bP m) (h:∀H',Ext H H'->Q (AT x y l m) H'):tj x y H Q:=by
 refine dZ (.start H) λa H1 g o=>dZ g λn d c q=>aU (x:=x.1) c 2 rfl rfl (aU (x:=y.1) c 1 rfl rfl ?_)
 refine dR (λk=>aU (x:=x.2.1) c 2 rfl rfl (aU (x:=y.2.1) c 1 rfl rfl k)) ?_
 refine dR (λk=>aU (x:=x.2.2.1) c 2 rfl rfl (aU (x:=y.2.2.1) c 1 rfl rfl k)) ?_
 refine dR (λk=>aU (x:=x.2.2.2.1) c 2 rfl rfl (aU (x:=y.2.2.2.1) c 1 rfl rfl k)) ?_
 refine dR (λk=>aU (x:=x.2.2.2.2.1) c 2 rfl rfl (aU (x:=y.2.2.2.2.1) c 1 rfl rfl k)) ?_
 refine dR (λk=>aU (x:=x.2.2.2.2.2.1) c 2 rfl rfl (aU (x:=y.2.2.2.2.2.1) c 1 rfl rfl k)) ?_
 refine dR (λk=>aU (x:=x.2.2.2.2.2.2.1) c 2 rfl rfl (aU (x:=y.2.2.2.2.2.2.1) c 1 rfl rfl k)) ?_
 refine dR (b:=l==m) (λk=>aU (x:=x.2.2.2.2.2.2.2) c 2 rfl rfl (aU (x:=y.2.2.2.2.2.2.2) c 1 rfl rfl (pG (i.ext c.base) (j.ext c.base) bl e k))) ?_
 exact h d c.base
theorem gE {Q:Bool->PH->Prop} (hs:Bytes H s f.data) (hb:bP f.data) (hQ:∀H',Ext H H'->Q (cx f) H'):vT (dL f s) H Q:=by
 refine dZ (.start H) λa H1 h1 x1=>cQ (x:=dL f s) h1 rfl rfl (Rh λH2 x2=>dZ (h1.ext x2) λn H3 h3 x3=>fb (vs:=f8 (f.kind,f.view,0,0,0,0,0,Sl.nil)) h3 1 rfl rfl rfl λH4 S=>aU (x:=f.view) S 2 rfl rfl (bH (aU (x:=f.kind) S 2 rfl rfl ?_)))
 have rest:∀(sq:Int) (w:PH),aA w [aC H,aJ n (f8 (f.kind,f.view,sq,0,0,0,0,Sl.nil)),aJ a (f8 (dL f s))]->(f.kind≠9->sq=f.seq)->(f.kind=9->sq=0)->∀K:Bool->PH->Prop,
  (∀H',Ext H H'->K (cx f) H')->∀v,v=bN f.view 1 2147483647->
  aH i64 w (a.add 2) λbl=>dy bl 1 2147483647 w λad af=>aH i64 af (a.add 3) λbn=>dy bn 0 63 af λaw d=>aH i64 d (a.add 0) λA=>
  aO (λ(be:Bool) (G:PH)=>aO (λ(Y:Bool) (O:PH)=>K Y O) λz=>aL be (aT f8 G a 8 λab=>aT f8 G n 8 λac=>tj ab ac G λae P=>z ae P) (z false G))
  λt=>aL (A==1)
   (aH i64 d (a.add 3) λbo=>aH Sl.v d (a.add 7) λau=>aV d (n.add 3) [i64 bo] λag=>ay ag (a.add 7) (Sl.v au)<|aV ag (n.add 7) [Sl.v au] λah=>
    aO (λ(bf:Bool) (ai:PH)=>aO (λ(bg:Bool) (R:PH)=>aO (λ(bh:Bool) (bc:PH)=>t bh bc) λao=>aL bg (aH Sl.v R (a.add 7) λbp=>ao ((bp.len:Int)==64) R) (ao false R)) λan=>aL bf (an aw ai) (an false ai)) λam=>aL v (am ad ah) (am false ah))
   (aL (A==2)
   (aH i64 d (a.add 3) λbq=>aH i64 d (a.add 4) λav=>aV d (n.add 3) [i64 bq] λaj=>ay aj (a.add 4) (i64 av)<|aV aj (n.add 4) [i64 av] λak=>
    aO (λ(bi:Bool) (al:PH)=>aO (λ(bj:Bool) (I:PH)=>aO (λ(bk:Bool) (bd:PH)=>t bk bd) λar=>aL bj (aH i64 I (a.add 4) λaX=>aH i64 I (a.add 3) λaY=>dy aX 1 (IntKind.wrap .i64 (64-aY)) I λa6 ax=>ar a6 ax) (ar false I)) λaq=>aL bi (aq aw al) (aq false al)) λap=>aL v (ap ad ak) (ap false ak))
   (aL (A==3)
   (aH i64 d (a.add 5) λaZ=>aV d (n.add 5) [i64 aZ] λM=>
    aO (λ(aN:Bool) (C:PH)=>aO (λ(aP:Bool) (az:PH)=>t aP az) λU=>aL aN (aH i64 C (a.add 5) λa0=>dy a0 1 2147483647 C λa7 aB=>U a7 aB) (U false C)) λT=>aL v (T ad M) (T false M))
   (aL (A==8)
   (aH i64 d (a.add 5) λa1=>aH i64 d (a.add 6) λZ=>aV d (n.add 5) [i64 a1] λN=>ay N (a.add 6) (i64 Z)<|aV N (n.add 6) [i64 Z] λD=>
    aO (λ(aR:Bool) (E:PH)=>aO (λ(aS:Bool) (u:PH)=>aO (λ(aW:Bool) (aD:PH)=>t aW aD) λX=>aL aS (aH i64 u (a.add 6) λa2=>aH i64 u (a.add 2) λa3=>dy a2 0 a3 u λa9 aF=>X a9 aF) (X false u)) λW=>aL aR (aH i64 E (a.add 5) λa4=>dy a4 0 2147483647 E λba aG=>W ba aG) (W false E)) λV=>aL v (aH i64 D (a.add 2) λa5=>dy a5 0 2147483647 D λbb aI=>V bb aI) (V false D))
   (aL (A==9) (t v d) (t false d))))):=by
  intro sq w g J aK K hK v hv
  subst hv
  refine aU (x:=f.seq) g 2 rfl rfl (bH (aU (x:=f.block) g 2 rfl rfl (bH (aU (x:=f.kind) g 2 rfl rfl (aE ?_)))))
  have fin:∀(y:F8) (m:Bs) (l:PH) (ok:Bool),aA l [aC H,aJ n (f8 y),aJ a (f8 (dL f s))]->Bytes l y.2.2.2.2.2.2.2 m->bP m->(ok&&AT (dL f s) y f.data m)=cx f->
   aO (λ(Y:Bool) (O:PH)=>K Y O) λz=>aL ok (aT f8 l a 8 λab=>aT f8 l n 8 λac=>tj ab ac l λae P=>z ae P) (z false l):=λy m l ok q hm bm e=>by
   refine Vf (b:=AT (dL f s) y f.data m) (λ_ k=>cE (x:=dL f s) q 2 rfl rfl rfl (cE (x:=y) q 1 rfl rfl rfl (Ri (hs.ext q.base) hm hb bm k))) λo x7=>?_
   rw[e];exact hK o (q.base.trans x7)
  have r:∀l,Bytes l Sl.nil []:=λ_=>cL.nil
  have ed:(f.data==[])=(f.data.length==0):=by grind
  refine aM (λc=>?_) (λc=>?_)
  ·have hk:f.kind=1:=by simpa using c
   have es:=J (by omega)
   subst es
   refine aU (x:=f.block) g 2 rfl rfl (aU (x:=s) g 2 rfl rfl (cU (j:=3) g 1 rfl (by simp) rfl λl q=>dE (q.get 2 rfl:aa l a _) rfl (cU (j:=7) q 1 rfl (by simp) rfl λo F=>?_)))
   have i:aA o [aC H,aJ n (f8 (f.kind,f.view,f.seq,f.block,0,0,0,s)),aJ a (f8 (dL f s))]:=F
   refine dR (b:=bN f.seq 1 2147483647) (λk=>k) (dR (b:=bN f.block 0 63) (λk=>k) (dR (b:=f.data.length==64) (λk=>aU (x:=s) i 2 rfl rfl ?_) ?_))
   ·have e:((s.len:Int)==64)=(f.data.length==64):=by rw[hs.bL,Bool.eq_iff_iff,beq_iff_eq,beq_iff_eq];omega
    rw[e];exact k
   ·refine fin (f.kind,f.view,f.seq,f.block,0,0,0,s) f.data o _ i (hs.ext i.base) hb ?_
    simp only[cx,AT,dL,hk,if_true,beq_self_eq_true,Bool.and_true,Bool.true_and]
    cases bN f.view 1 2147483647<;>cases bN f.seq 1 2147483647<;>cases bN f.block 0 63<;>cases(f.data.length==64)<;>simp[Bool.and_assoc]
  ·have n1:¬f.kind=1:=by simpa using c
   refine aM (λc2=>?_) (λc2=>?_)
   ·have hk:f.kind=2:=by simpa using c2
    have es:=J (by omega)
    subst es
    refine aU (x:=f.block) g 2 rfl rfl (aU (x:=f.count) g 2 rfl rfl (cU (j:=3) g 1 rfl (by simp) rfl λl q=>dE (q.get 2 rfl:aa l a _) rfl (cU (j:=4) q 1 rfl (by simp) rfl λo F=>?_)))
    have i:aA o [aC H,aJ n (f8 (f.kind,f.view,f.seq,f.block,f.count,0,0,Sl.nil)),aJ a (f8 (dL f s))]:=F
    refine dR (b:=bN f.seq 1 2147483647) (λk=>k) (dR (b:=bN f.block 0 63) (λk=>k) (Ve (b:=bN f.count 1 (64-f.block)) (λhc k=>aU (x:=f.count) i 2 rfl rfl (aU (x:=f.block) i 2 rfl rfl ?_)) ?_))
    ·simp only[Bool.and_eq_true,KM.bD] at hc
     rw[cK (by omega) (by omega)];exact bH k
    ·refine fin (f.kind,f.view,f.seq,f.block,f.count,0,0,Sl.nil) [] o _ i (r _) tw ?_
     simp only[cx,AT,dL,hk,beq_self_eq_true,Bool.and_true,Bool.true_and,ed]
     rw[if_neg (by decide),if_pos trivial]
     cases bN f.view 1 2147483647<;>cases bN f.seq 1 2147483647<;>cases bN f.block 0 63<;>cases bN f.count 1 (64-f.block)<;>simp[Bool.and_assoc]
   ·have n2:¬f.kind=2:=by simpa using c2
    refine aM (λc3=>?_) (λc3=>?_)
    ·have hk:f.kind=3:=by simpa using c3
     have es:=J (by omega)
     subst es
     refine aU (x:=f.aQ) g 2 rfl rfl (cU (j:=5) g 1 rfl (by simp) rfl λo F=>?_)
     have i:aA o [aC H,aJ n (f8 (f.kind,f.view,f.seq,0,0,f.aQ,0,Sl.nil)),aJ a (f8 (dL f s))]:=F
     refine dR (b:=bN f.seq 1 2147483647) (λk=>k) (dR (b:=bN f.aQ 1 2147483647) (λk=>aU (x:=f.aQ) i 2 rfl rfl (bH k)) ?_)
     refine fin (f.kind,f.view,f.seq,0,0,f.aQ,0,Sl.nil) [] o _ i (r _) tw ?_
     simp only[cx,AT,dL,hk,beq_self_eq_true,Bool.and_true,Bool.true_and,ed]
     rw[if_neg (by decide),if_neg (by decide),if_pos trivial]
     cases bN f.view 1 2147483647<;>cases bN f.seq 1 2147483647<;>cases bN f.aQ 1 2147483647<;>simp[Bool.and_assoc]
    ·have n3:¬f.kind=3:=by simpa using c3
     refine aM (λc8=>?_) (λc8=>?_)
     ·have hk:f.kind=8:=by simpa using c8
      have es:=J (by omega)
      subst es
      refine aU (x:=f.aQ) g 2 rfl rfl (aU (x:=f.done) g 2 rfl rfl (cU (j:=5) g 1 rfl (by simp) rfl λl q=>dE (q.get 2 rfl:aa l a _) rfl (cU (j:=6) q 1 rfl (by simp) rfl λo F=>?_)))
      have i:aA o [aC H,aJ n (f8 (f.kind,f.view,f.seq,0,0,f.aQ,f.done,Sl.nil)),aJ a (f8 (dL f s))]:=F
      refine dR (b:=bN f.seq 0 2147483647) (λk=>aU (x:=f.seq) i 2 rfl rfl (bH k)) (dR (b:=bN f.aQ 0 2147483647) (λk=>aU (x:=f.aQ) i 2 rfl rfl (bH k)) (dR (b:=bN f.done 0 f.seq) (λk=>aU (x:=f.done) i 2 rfl rfl (aU (x:=f.seq) i 2 rfl rfl (bH k))) ?_))
      refine fin (f.kind,f.view,f.seq,0,0,f.aQ,f.done,Sl.nil) [] o _ i (r _) tw ?_
      simp only[cx,AT,dL,hk,beq_self_eq_true,Bool.and_true,Bool.true_and,ed]
      rw[if_neg (by decide),if_neg (by decide),if_neg (by decide),if_pos trivial]
      cases bN f.view 1 2147483647<;>cases bN f.seq 0 2147483647<;>cases bN f.aQ 0 2147483647<;>cases bN f.done 0 f.seq<;>simp[Bool.and_assoc]
     ·have n8:¬f.kind=8:=by simpa using c8
      refine aM (λc9=>?_) (λc9=>?_)
      ·have hk:f.kind=9:=by simpa using c9
       have es:=aK hk
       subst es
       refine fin (f.kind,f.view,0,0,0,0,0,Sl.nil) [] w _ g (r _) tw ?_
       simp only[cx,AT,dL,hk,beq_self_eq_true,Bool.and_true,Bool.true_and,ed]
       rw[if_neg (by decide),if_neg (by decide),if_neg (by decide),if_neg (by decide),if_pos trivial]
      ·have n9:¬f.kind=9:=by simpa using c9
       refine fin (f.kind,f.view,sq,0,0,0,0,Sl.nil) [] w _ g (r _) tw ?_
       simp only[cx]
       rw[if_neg n1,if_neg n2,if_neg n3,if_neg n8,if_neg n9,Bool.false_and,Bool.and_false]
 refine aE (aM (λc=>aU (x:=f.seq) S 2 rfl rfl (cU (j:=2) S 1 rfl (by simp) rfl λw g=>?_)) (λc=>?_))
 ·exact rest f.seq w g (λ_=>rfl) (λh=>by rw[h] at c;cases c) Q hQ _ rfl
 ·exact rest 0 H4 S (λh=>by simp at c;exact absurd c h) (λ_=>rfl) Q hQ _ rfl
end
end Fm
end
section
namespace Fm
open Go Go.Kx KM Rw Cr Wi
section
variable {H B:PH} {L:List Ob} {f:oW} {s p:Sl} {b:Bs}
structure xQ (f:oW):Prop where
 kind:1<=f.kind/\f.kind<=9
 view:1<=f.view/\f.view<=2147483647
 seq:0<=f.seq/\f.seq<=2147483647
 block:0<=f.block/\f.block<=63
 count:0<=f.count/\f.count<=64
 aQ:0<=f.aQ/\f.aQ<=2147483647
 done:0<=f.done/\f.done<=2147483647
 data:f.data.length=64∨f.data.length=0
theorem parts (h:cx f=true):xQ f:=by
 simp only[cx,Bool.and_eq_true,KM.bD] at h
 obtain⟨i,h⟩:=h
 have z:∀{x:Int},(x==0)=true->x=0:=λh=>by simpa using h
 split at h
 ·simp only[Bool.and_eq_true,KM.bD,beq_iff_eq] at h
  obtain⟨⟨⟨⟨⟨a,b⟩,c⟩,d⟩,e⟩,g⟩:=h
  exact⟨by omega,i,by omega,b,by omega,by omega,by omega,.inl c⟩
 ·split at h
  ·simp only[Bool.and_eq_true,KM.bD,beq_iff_eq] at h
   obtain⟨⟨⟨⟨⟨a,b⟩,c⟩,d⟩,e⟩,g⟩:=h
   exact⟨by omega,i,by omega,b,by omega,by omega,by omega,.inr g⟩
  ·split at h
   ·simp only[Bool.and_eq_true,KM.bD,beq_iff_eq] at h
    obtain⟨⟨⟨⟨⟨a,b⟩,c⟩,d⟩,e⟩,g⟩:=h
    exact⟨by omega,i,by omega,by omega,by omega,by omega,by omega,.inr g⟩
   ·split at h
    ·simp only[Bool.and_eq_true,KM.bD,beq_iff_eq] at h
     obtain⟨⟨⟨⟨⟨a,b⟩,c⟩,d⟩,e⟩,g⟩:=h
     exact⟨by omega,i,by omega,by omega,by omega,by omega,by omega,.inr g⟩
    ·split at h
     ·simp only[Bool.and_eq_true,beq_iff_eq] at h
      obtain⟨⟨⟨⟨⟨a,b⟩,c⟩,d⟩,e⟩,g⟩:=h
      exact⟨by omega,i,by omega,by omega,by omega,by omega,by omega,.inr g⟩
     ·cases h
theorem rK:(jT f).length=21+f.data.length:=by simp only[jT,List.length_cons,List.length_append,bO,List.length_nil];omega
theorem FH (P:xQ f) (a:bP f.data):bP (jT f):=by
 have:=P.kind;have:=P.block;have:=P.count
 exact dt (by omega) (dt (by omega) (dt (by omega) (cO (cO (cO (cO (cO (fX _ _) (fX _ _)) (by grind)) (fX _ _)) (fX _ _)) a)))
theorem FJ (P:xQ f) (a:bP f.data):bP (cV f):=wL (FH P a)
theorem two {a b m:Int} (c:0<=a/\a<m) (d:0<=b/\b<m):∀y∈[a,b],0<=y/\y<m:=by
 grind
theorem three {a b d m:Int} (c:0<=a/\a<m) (e:0<=b/\b<m) (hd:0<=d/\d<m):∀y∈[a,b,d],0<=y/\y<m:=by
 grind
theorem wM {Q:Sl->Int->PH->Prop} (i:Bytes H s f.data) (h:bP f.data) (hm:cx f=false) (g:∀H',Ext H H'->Q Sl.nil 1 H'):ny (dL f s) H Q:=by
 refine dZ (.start H) λa H1 e c=>cQ (x:=dL f s) e rfl rfl (gE (i.ext c) h λd j=>?_)
 rw[hm]
 exact aW rfl (g d (c.trans j))
theorem fP {Q:Sl->Int->PH->Prop} (j:Bytes H s f.data) (u:bP f.data) (hm:cx f=true) (K:∀z H',aA H' [aC H,aS u8 z (cV f)]->Q z 0 H'):ny (dL f s) H Q:=by
 have P:=parts hm
 have hk:=P.kind;have hv:=P.view;have hq:=P.seq;have O:=P.block;have hc:=P.count;have he:=P.aQ;have hd:=P.done
 have R:f.data.length<=64:=by have:=P.data;omega
 refine dZ (.start H) λa H1 o M=>cQ (x:=dL f s) o rfl rfl (gE (j.ext M) u λW N=>?_)
 rw[hm]
 have r:=o.ext N
 have S:=j.bL
 refine aF rfl (ak (x:=s) r rfl ?_)
 rw[cK (x:=21+(s.len:Int)) (by omega) (by omega),cK (by omega) (by omega),show(21+(s.len:Int)+4)=((25+f.data.length:Nat):Int) by omega]
 refine Rw.fO (n:=25+f.data.length) r (by omega) λa2 y X t=>aU (x:=f.kind) t 3 rfl rfl ?_
 have v:=three (a:=75) (b:=70) (d:=f.kind) (m:=256 ^ 1) (by omega) (by omega) (by omega)
 refine oY (x:=[]) (l:=[75,70,f.kind]) t rfl rfl (by decide) v (by simp;omega) (by simp;omega) λT Y A c=>?_
 have m1:=two (a:=f.view) (b:=f.seq) (m:=256 ^ 4) (by omega) (by omega)
 refine aU (x:=f.view) c 3 rfl rfl (aU (x:=f.seq) c 3 rfl rfl (oY (l:=[f.view,f.seq]) c rfl rfl (by decide) m1 (by simp;omega) (by simp[bO];omega) λU Z C e=>?_))
 have m2:=two (a:=f.block) (b:=f.count) (m:=256 ^ 1) (by omega) (by omega)
 refine aU (x:=f.block) e 3 rfl rfl (aU (x:=f.count) e 3 rfl rfl (oY (l:=[f.block,f.count]) e rfl rfl (by decide) m2 (by simp;omega) (by simp[bO];omega) λV H6 D g=>?_))
 have m3:=two (a:=f.aQ) (b:=f.done) (m:=256 ^ 4) (by omega) (by omega)
 refine aU (x:=f.aQ) g 3 rfl rfl (aU (x:=f.done) g 3 rfl rfl (oY (l:=[f.aQ,f.done]) g rfl rfl (by decide) m3 (by simp;omega) (by simp[bO];omega) λF H7 E h=>?_))
 have w:Ext H F:=A.trans (C.trans (D.trans E))
 refine aU (x:=s) h 3 rfl rfl (Hl h (j.ext (w.trans h.base)) (by simp;omega) (by simp[bO];omega) λH8 i=>?_)
 have G:[]++[(75:Int),70,f.kind].flatMap (le 1)++[f.view,f.seq].flatMap (le 4)++[f.block,f.count].flatMap (le 1)++[f.aQ,f.done].flatMap (le 4)++f.data=jT f:=by
  rw[BG _ v,BG _ m2,jT];simp
 rw[G] at i
 have I:25+f.data.length- 1*[(75:Int),70,f.kind].length- 4*[f.view,f.seq].length- 1*[f.block,f.count].length- 4*[f.aQ,f.done].length-f.data.length=4:=by simp;omega
 rw[I] at i
 refine pF i (by rw[List.length_append,rK];simp;omega) λz H9 J=>?_
 exact xu J (by simp) (FH P u) (by rw[rK];omega) λk q=>K z k (only q w)
def m9 (b:Bs):oW:=⟨num b 2 1,num b 3 4,num b 7 4,num b 11 1,num b 12 1,num b 13 4,num b 17 4,(b.drop 21).take (b.length- 25)⟩
theorem EG (b:Bs):Af b=if cx (m9 b)&&cV (m9 b)==b then some (m9 b) else none:=rfl
theorem hG {Q:F8->Int->PH->Prop} (h:aA H (aC B::L)) (U:Bytes B p b) (hl:25<=b.length) (ai:b.length<=65536) (c:bP b)
 (hy:∀f,Af b=some f->∀s i H',Ext B i->Bytes i s f.data->bP f.data->cx f=true->aA H' (aC i::L)->Q (dL f s) 0 H') (hn:Af b=none->∀i H',Ext B i->aA H' (aC i::L)->Q AS 2 H'):tB p H Q:=by
 refine bG h λa H1 l=>pE l (U.ext l.base) (by omega) λX y H2 q=>tH (n:=2) q (by omega) (by omega) λ_ H3 Y=>?_
 refine dK (w:=1) Y (by decide) (by omega) (by omega) c λH4 Z=>cU (j:=0) Z 3 rfl (by simp) rfl λH5 h5=>?_
 refine dK (w:=4) h5 (by decide) (by omega) (by omega) c λH6 h6=>cU (j:=1) h6 3 rfl (by simp) rfl λH7 h7=>?_
 refine dK (w:=4) h7 (by decide) (by omega) (by omega) c λH8 h8=>cU (j:=2) h8 3 rfl (by simp) rfl λH9 h9=>?_
 refine dK (w:=1) h9 (by decide) (by omega) (by omega) c λaa G=>cU (j:=3) G 3 rfl (by simp) rfl λab I=>?_
 refine dK (w:=1) I (by decide) (by omega) (by omega) c λac J=>cU (j:=4) J 3 rfl (by simp) rfl λad K=>?_
 refine dK (w:=4) K (by decide) (by omega) (by omega) c λae M=>cU (j:=5) M 3 rfl (by simp) rfl λaf N=>?_
 refine dK (w:=4) N (by decide) (by omega) (by omega) c λag O=>cU (j:=6) O 3 rfl (by simp) rfl λah t=>?_
 refine vX t (by omega) (by omega) ?_
 rw[cK (by omega) (by omega),show(((b.length-(0+2+1+4+4+1+1+4+4):Nat):Int)- 4)=((b.length- 25:Nat):Int) by omega]
 refine kq t (by omega) (by omega) λz E v=>?_
 have P:aA E (aC B::aS u8 z (m9 b).data::aJ X (cells y (0+2+1+4+4+1+1+4+4+(b.length- 25)))::aS u8 y b::aJ a (f8 (num b 2 1,num b 3 4,num b 7 4,num b 11 1,num b 12 1,num b 13 4,num b 17 4,Sl.nil))::L):=
  v.perm (.cons _ ((List.Perm.cons _ (.swap _ _ _)).trans (.swap _ _ _)))
 have g:bP (m9 b).data:=wu (vG c _) _
 refine iW P λk D C A=>?_
 have R:=A.aq.aq
 refine xP (j:=7) R (by simp) rfl λF S=>?_
 have e:aA F (aC k::aJ a (f8 (dL (m9 b) z))::L):=S
 refine cQ (x:=dL (m9 b) z) e rfl rfl ?_
 have fin:∀o,aA o (aC k::aJ a (f8 (dL (m9 b) z))::L)->∀sb:Bool,(sb=true->Af b=none)->(sb=false->Af b=some (m9 b)/\cx (m9 b)=true)->
  aL sb (aV o a (f8 AS) λH1=>aT f8 H1 a 8 λy=>Q y 2 H1) (aT f8 o a 8 λy=>aV o a (f8 y) λH1=>aT f8 H1 a 8 λy=>Q y 0 H1):=λo V sb f1 f2=>by
  refine CH (x:=dL (m9 b) z) (z:=AS) (Q:=Q) V 1 rfl rfl rfl len8 cv8f (λd H1 l=>?_) (λd H1 l=>?_)
  ·have q:aA H1 (aC k::aJ a (f8 AS)::L):=l
   exact hn (f1 d) k H1 D q.aq
  ·have q:aA H1 (aC k::aJ a (f8 (dL (m9 b) z))::L):=l
   exact hy _ (f2 d).1 z k H1 D C g (f2 d).2 q.aq
 by_cases hm:cx (m9 b)=true
 ·refine fP (C.ext e.base) g hm λw m T=>?_
  have r:=e.made T
  refine aE (aF rfl (pG (r.list (enc:=u8) 1 rfl) (U.ext (D.trans r.base)) (FJ (parts hm) g) c (fin m r.aq _ (λd=>?_) (λd=>⟨?_,hm⟩))))
  ·rw[EG,if_neg (by rw[hm,Bool.true_and];simpa using d)]
  ·rw[EG,if_pos (by rw[hm,Bool.true_and];simpa using d)]
 ·have u:cx (m9 b)=false:=by grind
  exact wM (C.ext e.base) g u λm W=>aE (aW rfl (fin m (e.ext W) true (λ_=>by rw[EG,u];rfl) (by simp)))
theorem Nf {m:M5} {o:nO} {view seq:Int} {Q:F8->Bool->PH->Prop} (h:aA H (aC B::L)) (J:zn H m o) (G:bP o.data) (U:o.data.length<=2 ^ 20)
 (K:cx (jJ view seq o)=true->o.kind≠8->o.kind≠9->∀s d H',Ext B d->Bytes d s o.data->aA H' (aC d::L)->Q (dL (jJ view seq o) s) true H')
 (I:¬(cx (jJ view seq o)=true/\o.kind≠8/\o.kind≠9)->∀d H',Ext B d->aA H' (aC d::L)->Q AS false H'):zN view seq m H Q:=by
 obtain⟨mk,V,W,X,ms⟩:=m
 obtain⟨e1,e2,e3,e4,hd⟩:=J
 simp only at e1 e2 e3 e4 hd
 subst e1 e2 e3 e4
 refine dZ h λa H1 F M=>dZ F λu P e N=>aE ?_
 refine aU (x:=o.kind) e 2 rfl rfl (aU (x:=o.block) e 2 rfl rfl (aU (x:=o.count) e 2 rfl rfl (aU (x:=o.aQ) e 2 rfl rfl (aU (x:=ms) e 2 rfl rfl ?_))))
 refine kV e (hd.ext (M.trans N)) (by omega) λy D z=>iW z λl C q w=>?_
 have n:aa D a (c5 (o.kind,o.block,o.count,o.aQ,ms)):=w.get 2 rfl
 refine dE n rfl (dE n rfl (dE n rfl (dE n rfl (bG w λv E A=>?_))))
 have r5:aa E a (c5 (o.kind,o.block,o.count,o.aQ,ms)):=A.get 3 rfl
 refine dE r5 rfl (dE r5 rfl (dE r5 rfl (dE r5 rfl (cF (vs:=f8 (dL (jJ view seq o) y)) A rfl rfl λR r=>?_))))
 ·refine cQ (x:=dL (jJ view seq o) y) r rfl rfl (gE (f:=jJ view seq o) (q.ext r.base) G λS O=>?_)
  have i:=r.ext O
  refine xq (b:=o.kind==8) (λk=>ak (x:=o.kind) i rfl k) (xq (b:=o.kind==9) (λk=>ak (x:=o.kind) i rfl k) ?_)
  refine aM (λc=>?_) (λc=>?_)
  ·refine fb (vs:=f8 AS) i 2 rfl rfl rfl λg j=>cE (x:=AS) j 2 rfl rfl rfl (I (λT=>?_) l g C ?_)
   ·grind
   ·have t:aA g (aC l::aJ v _::aJ u (f8 AS)::aJ a _::L):=j
    exact t.aq.aq.aq
  ·simp at c
   refine cQ (x:=dL (jJ view seq o) y) i rfl rfl (fb (vs:=f8 (dL (jJ view seq o) y)) i 2 rfl rfl rfl λg j=>cE (x:=dL (jJ view seq o) y) j 2 rfl rfl rfl (K c.1.1 c.1.2 c.2 y l g C q ?_))
   have t:aA g (aC l::aJ v _::aJ u (f8 (dL (jJ view seq o) y))::aJ a _::L):=j
   exact t.aq.aq.aq
theorem Wy {Q:M5->Bool->PH->Prop} (h:aA H (aC B::L)) (l:Bytes H s f.data) (z:bP f.data) (hm:cx f=true) (G:f.kind≠8) (I:f.kind≠9)
 (w:∀m e H',Ext B e->zn e m (fT f)->aA H' (aC e::L)->Q m true H'):By (dL f s) H Q:=by
 have P:=parts hm
 refine dZ h λa H1 v n=>dZ v λF D g o=>cE (x:=dL f s) g 2 rfl rfl rfl (gE (l.ext (n.trans o)) z λE q=>?_)
 rw[hm]
 have c:=g.ext q
 refine aE (aF rfl (aU (x:=f.kind) c 2 rfl rfl (aE (aF (by grind) (aU (x:=f.kind) c 2 rfl rfl (aF (by grind) ?_))))))
 refine aU (x:=f.kind) c 2 rfl rfl (aU (x:=f.block) c 2 rfl rfl (aU (x:=f.count) c 2 rfl rfl (aU (x:=f.aQ) c 2 rfl rfl (aU (x:=s) c 2 rfl rfl ?_))))
 refine kV c (l.ext (n.trans (o.trans q))) (by have:=P.data;omega) λy t j=>iW j λr C A i=>?_
 have d:aa t a (f8 (dL f s)):=i.get 2 rfl
 refine dE d rfl (dE d rfl (dE d rfl (dE d rfl (cF (vs:=c5 (f.kind,f.block,f.count,f.aQ,y)) i rfl rfl λu k=>cQ (x:=(f.kind,f.block,f.count,f.aQ,y)) k rfl rfl ?_))))
 exact w _ r u C ⟨rfl,rfl,rfl,rfl,A⟩ k.aq.aq
end
end Fm
end
section
namespace Re
open Go Go.Kx KM Rw Ge Sc Rg Mo Ds Rc So Wi Fm
structure Fr where
 X:Ad
 fa:Addr
 ra:Addr
 va:Addr
 vs:Sl
structure pJ (B:PH) (F:Fr) (c:ax):Prop where
 X:mg B F.X c
 f:aa B F.fa [.pointer (some F.ra)]
 r:aa B F.ra [.pointer (some F.X.sa),.pointer (some F.va)]
theorem pJ.ext {B a:PH} {F:Fr} {c:ax} (h:pJ B F c) (x:Ext B a):pJ a F c:=⟨h.X.ext x,h.f.ext x,h.r.ext x⟩
structure uz (S:KM.St):Prop where
 mode:S.n.mode=1
 view:1<=S.n.view/\S.n.view<=2147483647
 done:0<=S.n.done/\S.n.done<=S.n.seq
 seq:S.n.seq<=2 ^ 30
 aQ:0<=S.n.aQ/\S.n.aQ<=2 ^ 30
structure Da (S:KM.St) (o:nO):Prop where
 kind:o.kind=1∨o.kind=2∨o.kind=3
 w:o.kind=1->S.has o.block 1=true/\o.data.length=64/\bP o.data/\cB (1,o.block,0,0)=true/\(S.add (1,o.block,0,0) (some o.data) false).2.2=0
 t:o.kind=2->S.has o.block o.count=true/\cB (2,o.block,o.count,0)=true/\(S.add (2,o.block,o.count,0) none false).2.2=0
 m:o.kind=3->o.aQ=S.n.aQ+1/\(S.add (3,0,0,o.aQ) none false).2.2=0
abbrev qg (A:Ds.DA) (F:Fr) (W:Wt) (S:KM.St) (V:WM) (R:List Ob):List Ob:=cD A F.X W S (gK F.va F.vs V::R)
section
variable {H B:PH} {L R:List Ob} {k n:Nat} {A:Ds.DA} {F:Fr} {W:Wt} {S:KM.St} {V:WM}
theorem BR (ok:bB k S) (hk:k+60< 2 ^ 28) (b:uz S) {o:nO} (i:Da S o):bB (k+26) (S.op o).1/\(S.op o).2=0/\(S.op o).1.c=S.c/\(S.op o).1.d.now.length=S.d.now.length/\(S.op o).1.n.seq=S.n.seq+1/\(S.op o).1.n.mode=1/\(S.op o).1.n.view=S.n.view/\
 (S.op o).1.n.aQ=S.n.aQ+o.kind/ 3/\(0<=(S.op o).1.n.done/\(S.op o).1.n.done<=(S.op o).1.n.seq)/\(S.op o).1.n.lb=S.n.lb/\(S.op o).1.n.lo=S.n.lo:=by
 have hd:=b.done
 rcases i.kind with p|l|q
 ·obtain⟨a1,f,j,r,s⟩:=i.w p
  obtain⟨l1,l2,g,a,h⟩:=Rb ok (by omega) b.mode a1 f j s r
  have e:S.op o=S.lay true o.block o.data:=by unfold KM.St.op;grind
  rw[e]
  refine⟨l1.mono (by omega),h,l2,g,by rw[a],by rw[a];exact b.mode,by rw[a],by rw[a,p];show S.n.aQ=S.n.aQ+1/ 3;omega,?_,by rw[a],by rw[a]⟩
  grind
 ·obtain⟨a1,f,j⟩:=i.t l
  obtain⟨l1,l2,g,a,h⟩:=Rf ok (by omega) b.mode a1 j f
  have e:S.op o=S.cut true o.block o.count:=by unfold KM.St.op;rw[if_neg (by omega),if_pos l]
  rw[e]
  refine⟨l1.mono (by omega),h,l2,g,by rw[a],by rw[a];exact b.mode,by rw[a],by rw[a,l];show S.n.aQ=S.n.aQ+2/ 3;omega,?_,by rw[a],by rw[a]⟩
  rw[a];exact⟨hd.1,by show S.n.done<=S.n.seq+1;omega⟩
 ·obtain⟨a1,f⟩:=i.m q
  have he:=b.aQ
  obtain⟨l1,l2,g,a,h,_⟩:=Nc ok hk b.mode a1 (by omega) f
  have e:S.op o=S.mark o.aQ:=by unfold KM.St.op;rw[if_neg (by omega),if_neg (by omega)]
  rw[e]
  refine⟨l1,h,l2,g,by rw[a],by rw[a];exact b.mode,by rw[a],by rw[a,q];show o.aQ=S.n.aQ+3/ 3;omega,?_,by rw[a],by rw[a]⟩
  rw[a];exact⟨by show 0<=S.n.seq+1;omega,Int.le_refl _⟩
theorem DY {m:M5} {o:nO} {Q:Int->PH->Prop} (h:aA H (aC B::cD A F.X W S R)) (u:A.a=F.X.da) (j:pJ B F S.c) (y:gJ B W S) (ok:bB k S) (hk:k+60< 2 ^ 28) (f:uz S) (hm:zn B m o) (l:Da S o)
 (d:∀z C p H',z.a=F.X.da->Ext B p->gJ p C (S.op o).1->aA H' (aC p::cD z F.X C (S.op o).1 R)->Q 0 H'):nI (some F.ra) m H Q:=by
 obtain⟨m1,m2,m3,m4,P⟩:=hm
 have g:0<=S.n.seq/\S.n.seq< 2 ^ 40:=by have:=f.done;have:=f.seq;omega
 refine bG h λa1 H1 b=>ak (x:=m.1) b rfl ?_
 have rr:=j.r.ext b.base
 rcases l.kind with E|G|I
 ·obtain⟨D,J,K,M,N⟩:=l.w E
  have e:S.op o=S.lay true o.block o.data:=by unfold KM.St.op;grind
  rw[e] at d
  refine aW (by grind) (aD (aX (x:=some F.X.sa) rr rfl (ak (x:=m.2.1) b rfl (ak (en:=Sl.v) (x:=m.2.2.2.2) b rfl ?_))))
  rw[m2]
  exact MF b.aq u j.X y ok (by omega) f.mode D P J K N M g d
 ·obtain⟨q,s,O⟩:=l.t G
  have e:S.op o=S.cut true o.block o.count:=by unfold KM.St.op;grind
  rw[e] at d
  refine aF (by grind) (aW (by grind) (mP.i (aD (aX (x:=some F.X.sa) rr rfl (ak (x:=m.2.1) b rfl (ak (x:=m.2.2.1) b rfl ?_))))))
  rw[m2,m3]
  exact O6 b.aq u j.X y ok (by omega) f.mode q O s g d
 ·obtain⟨q,s⟩:=l.m I
  have he:=f.aQ
  have e:S.op o=S.mark o.aQ:=by unfold KM.St.op;grind
  rw[e] at d
  refine aF (by grind) (aF (by grind) (aD (aX (x:=some F.X.sa) rr rfl (ak (x:=m.2.2.2.1) b rfl ?_))))
  rw[m4]
  exact O5 b.aq u j.X y ok hk f.mode q (by omega) s g d
theorem An {Q:Sl->Int->PH->Prop} (h:aA H (aC B::cD A F.X W S R)) (i:pJ B F S.c) (ok:bB k S) (b:uz S)
 (v:∀q d H',Ext B d->Bytes d q (cV S.nQ)->aA H' (aC d::cD A F.X W S R)->Q q 0 H'):iM (some F.ra) H Q:=by
 refine aD (aX (x:=some F.X.sa) (i.r.ext h.base) rfl (kJ h i.X ok.toji λC H1 j p=>?_))
 refine bG p λG D t=>cF (vs:=cr S.status) t rfl rfl λE a=>?_
 refine ak (x:=S.n.view) a rfl (ak (x:=S.n.seq) a rfl (ak (x:=S.n.aQ) a rfl (ak (x:=S.n.done) a rfl ?_)))
 have hm:cx S.nQ=true:=by
  have:=b.view;have:=b.done;have:=b.seq;have:=b.aQ
  have e:cx S.nQ=(bN S.n.view 1 2147483647&&(bN S.n.seq 0 2147483647&&bN S.n.aQ 0 2147483647&&bN S.n.done 0 S.n.seq&&(0:Int)==0&&(0:Int)==0&&([]:Bs).length==0)):=rfl
  rw[e]
  simp only[Bool.and_eq_true,KM.bD,beq_iff_eq,List.length_nil]
  exact⟨by omega,⟨⟨⟨⟨by omega,by omega⟩,by omega⟩,trivial⟩,trivial⟩,trivial⟩
 refine Fm.fP (f:=S.nQ) (s:=Sl.nil) .nil (λx w=>by cases w) hm λz o g=>iW (a.made g) λm l y u=>?_
 exact v z m o (j.trans l) y u.aq
end
end Re
end
section
namespace Re
open Go Go.Kx KM Rw Ge Sc Rg Mo Ds Rc So Wi Fm
section
variable {H B:PH} {L R:List Ob} {k n:Nat} {A:Ds.DA} {F:Fr} {W:Wt} {S:KM.St} {V:WM}
theorem Rj {V:WM} {n:Int} {m:M5} (h:V.f n=some m):(zm (V.f n))=(m,true):=by rw[h];rfl
theorem HE {m:M5} {o:nO} {Q:Sl->Int->PH->Prop} (h:aA H (aC B::qg A F W S V R)) (hA:A.a=F.X.da) (M:pJ B F S.c) (hW:gJ B W S) (ok:bB k S) (hk:k+60< 2 ^ 28) (G:uz S) (ak:S.n.seq+1<=2 ^ 30) (aj:S.n.aQ+1<=2 ^ 30) (hm:zn B m o) (N:Da S o)
 (hv:V.f V.next=some m) (al:∀i,i≠V.next->V.f i=none) (ah:V.next+1< 2 ^ 40)
 (hQ:∀g p q b H',g.a=F.X.da->Ext B b->gJ b p (S.op o).1->Bytes b q (cV (S.op o).1.nQ)->aA H' (aC b::qg g F p (S.op o).1 ⟨V.size,V.next+1,λ_=>none⟩ R)->Q q 0 H'):pA (some F.ra) H Q:=by
 obtain⟨p1,p2,p3,p4,p5,p6,p7,p8,p9,am,an⟩:=BR ok hk G N
 have C:V.ux=m/\V.uy=true:=by rw[WM.ux,WM.uy,Rj hv];simp
 have t:∀{b H'},Ext B b->Ext b H'->aa H' F.ra [.pointer (some F.X.sa),.pointer (some F.va)]:=λx y=>(M.r.ext x).ext y
 refine aD (aX (x:=some F.va) (t (.refl _) h.base) rfl (AR h.wh λH1 h1=>?_))
 rw[C.1,C.2]
 refine bG h1 λU H2 h2=>cF (vs:=c5 m) h2 rfl rfl λO w=>?_
 have w:aA O (aC B::cD A F.X W S (aJ U (c5 m)::gK F.va F.vs V::R)):=w.Yr
 refine av 1 (λi st T=>(i=0/\st=(U,true)/\T=O)∨(i=1/\st.2=false/\∃g p b d cs,g.a=F.X.da/\Ext B b/\gJ b p (S.op o).1/\aA T (aC b::aJ d cs::qg g F p (S.op o).1 ⟨V.size,V.next+1,λ_=>none⟩ R))) (by simp) ?_
 rintro i ⟨sa,sb⟩ H4 again hi ag af
 rcases ag with⟨rfl,e,rfl⟩|⟨rfl,e,g,p,b,d,cs,eA,xb,ad,E⟩
 ·obtain⟨rfl,rfl⟩:=Prod.mk.inj e
  refine aW rfl (cE (x:=m) w 12 rfl rfl rfl ?_)
  refine DY w hA M hW ok hk G hm N λj s l J Y D ae E=>aE (aF rfl (aF rfl (aD (aX (x:=some F.va) (t D E.base) rfl ?_))))
  have K:aA J (aC l::gK F.va F.vs V::aJ sa (c5 m)::(oX j F.X s (S.op o).1++R)):=by
   have:aA J (aC l::aJ sa (c5 m)::(oX j F.X s (S.op o).1++gK F.va F.vs V::R)):=E.wh
   exact(show aA J (aC l::((aJ sa (c5 m)::oX j F.X s (S.op o).1)++gK F.va F.vs V::R)) from this).wh
  refine UI K ah λP z=>?_
  have ep:V.pop=⟨V.size,V.next+1,λ_=>none⟩:=by
   rw[WM.pop,C.2,if_pos rfl,WM.cut]
   simp only[WM.mk.injEq,true_and]
   funext i
   by_cases e:i=V.next
   ·rw[if_pos e]
   grind
  rw[ep] at z
  refine cE (x:=m) z 2 rfl rfl rfl (bG z λd H8 h8=>cF (vs:=c5 m) h8 rfl rfl λH9 h9=>aD (aX (x:=some F.va) (t D h9.base) rfl (AR h9.swap λai ab=>?_)))
  have Z:(⟨V.size,V.next+1,λ_=>none⟩:WM).ux=Wi.eP/\(⟨V.size,V.next+1,λ_=>none⟩:WM).uy=false:=⟨rfl,rfl⟩
  rw[Z.1,Z.2]
  refine fb (vs:=c5 Wi.eP) ab 2 rfl rfl rfl λu v=>af (by omega) _ _ (.inr ⟨rfl,rfl,j,s,l,d,c5 Wi.eP,Y,D,ae,?_⟩)
  have v:aA u (aC l::gK F.va F.vs ⟨V.size,V.next+1,λ_=>none⟩::aJ d (c5 Wi.eP)::aJ sa (c5 m)::(oX j F.X s (S.op o).1++R)):=v
  have ac:aA u (aC l::aJ d (c5 Wi.eP)::aJ sa (c5 m)::(oX j F.X s (S.op o).1++gK F.va F.vs ⟨V.size,V.next+1,λ_=>none⟩::R)):=
   (show aA u (aC l::gK F.va F.vs ⟨V.size,V.next+1,λ_=>none⟩::((aJ d (c5 Wi.eP)::aJ sa (c5 m)::oX j F.X s (S.op o).1)++R)) from v).ua
  exact ac.swap.aq
 ·simp only at e;subst e
  have K:=E.aq
  refine aF rfl (An K (by rw[p3];exact M.ext xb) p1 ⟨p6,by rw[p7];exact G.view,p9,by omega,?_⟩ λq B7 P I hq z=>hQ g p q B7 P eA (xb.trans I) (ad.ext I) hq z)
  have he:=G.aQ
  rw[p8]
  rcases N.kind with h1|h2|w<;>rw[‹o.kind=_›]<;>omega
end
end Re
end
section
namespace Re
open Go Go.Kx KM Rw Ge Sc Rg Mo Ds Rc So Wi Fm
section
variable {H B:PH} {L R:List Ob} {k n:Nat} {A:Ds.DA} {F:Fr} {W:Wt} {S:KM.St} {V:WM} {f:oW}
theorem O7 {Q:Int->PH->Prop} (h:aA H (aC B::cD A F.X W S R)) (e:A.a=F.X.da) (d:pJ B F S.c) (ok:bB k S) (hm:S.n.mode=1) (m:∀b H',Ext B b->aA H' (aC b::cD A F.X W S R)->Q 0 H'):jz (some F.ra) H Q:=by
 have rr:=d.r.ext h.base
 refine aE (aF rfl (aD (aX (x:=some F.X.sa) rr rfl (DZ h ?_))))
 rw[←e]
 refine CL (i:=4) h rfl ?_
 rw[ok.dk.off]
 refine aF rfl (aD (aX (x:=some F.X.sa) rr rfl (kJ h d.X ok.toji λj H1 g l=>aF ?_ (by grind))))
 show(S.n.mode != 1)=false
 rw[hm];rfl
theorem Db {s:Sl} {Q:Bool->PH->Prop} (h:aA H (aC B::cD A F.X W S R)) (d:pJ B F S.c) (ok:bB k S) (hk:f.kind≠8) (l:f.kind=1∨f.kind=2->0<=f.block/\f.count<=64/\f.block+(if f.count< 1 then 1 else f.count)<=S.c.1.toNat) (e:∀H',aA H' (aC B::cD A F.X W S R)->Q false H'):lB (some F.ra) (dL f s) H Q:=by
 have o:=ok.im.uD
 refine bG h λa1 H1 a=>ak (x:=f.count) a rfl (ak (x:=f.kind) a rfl (aE ?_))
 refine aF (by grind) (ak (x:=f.kind) a rfl (aE ?_))
 by_cases g:f.kind=1∨f.kind=2
 ·have m:=l g
  refine aM (λ_=>mP.i ?_) (λc1=>?_)
  ·refine aE (aW rfl ?_)
   refine ak (x:=f.block) a rfl (aD (aX (x:=some F.X.sa) (d.r.ext a.base) rfl ?_))
   have b:=a.aq
   refine yg b (dc a 1 rfl rfl (Ig.nR (n:=S.c.1.toNat) (d.X.im.ext a.base) (Ig.DU (uw b) ok.im) (dc a 1 rfl rfl ?_)))
   rw[cK (x:=f.block+(if f.count< 1 then 1 else f.count)) (by split<;>omega) (by split<;>omega),decide_eq_false (by omega)]
   exact e H1 b
  ·have j:f.kind=2:=by
    grind
   refine ak (x:=f.kind) a rfl (mP.i ?_)
   rw[j]
   refine aE (aW rfl ?_)
   refine ak (x:=f.block) a rfl (aD (aX (x:=some F.X.sa) (d.r.ext a.base) rfl ?_))
   have b:=a.aq
   refine yg b (dc a 1 rfl rfl (Ig.nR (n:=S.c.1.toNat) (d.X.im.ext a.base) (Ig.DU (uw b) ok.im) (dc a 1 rfl rfl ?_)))
   rw[cK (x:=f.block+(if f.count< 1 then 1 else f.count)) (by split<;>omega) (by split<;>omega),decide_eq_false (by omega)]
   exact e H1 b
 ·refine aF (by simp;omega) (ak (x:=f.kind) a rfl (mP.i (aE (aF (by simp;omega) ?_))))
  exact e H1 a.aq
theorem Gc (hm:cx f=true) (h:f.kind=1):f.count=0:=by
 rw[cx,if_pos h] at hm
 grind
theorem kq {p:Sl} {b:Bs} {Q:Sl->Int->PH->Prop} (h:aA H (aC B::qg A F W S V R)) (hA:A.a=F.X.da) (y:pJ B F S.c) (hW:gJ B W S) (ok:bB k S) (hk:k+60< 2 ^ 28) (hn:uz S) (ag:S.n.seq+1<=2 ^ 30) (ad:S.n.aQ+1<=2 ^ 30)
 (hp:Bytes B p b) (hD:Af b=some f) (hl:25<=b.length) (ae:b.length<=65536) (hb:bP b) (hv:f.view=S.n.view) (hs:f.seq=V.next) (hE:∀i,V.f i=none) (ao:0<V.size) (ah:V.next+1< 2 ^ 40) (I:Da S (fT f))
 (hQ:∀z C q d H',z.a=F.X.da->Ext B d->gJ d C (S.op (fT f)).1->Bytes d q (cV (S.op (fT f)).1.nQ)->aA H' (aC d::qg z F C (S.op (fT f)).1 ⟨V.size,V.next+1,λ_=>none⟩ R)->Q q 0 H'):jI (some F.ra) p H Q:=by
 refine Fm.hG h hp hl ae hb (λf' J s T H1 K af ac D h1=>?_) (by grind)
 rw[hD] at J
 have ef:=Option.some.inj J
 subst ef
 have al:f.kind=1∨f.kind=2∨f.kind=3:=I.kind
 refine bG h1 λu H2 h2=>cF (vs:=f8 (dL f s)) h2 rfl rfl λY P=>aF rfl ?_
 have P:aA Y (aC T::qg A F W S V (aJ u (f8 (dL f s))::R)):=(show aA Y (aC T::aJ u (f8 (dL f s))::((oX A F.X W S++[gK F.va F.vs V])++R)) from P).ua
 refine O7 P hA (y.ext K) ok hn.mode λB4 H4 M h4=>aF rfl (cE (x:=dL f s) h4 13 rfl rfl rfl ?_)
 have l:=K.trans M
 refine Db h4 (y.ext l) ok (by omega) (λe=>by
  have am:=ok.im.uD
  rcases e with e|e
  ·have:=uf ok.toji (I.w e).1
   have an:=Gc D e
   have this:0<=f.block/\f.block+1<=S.c.1.toNat/\_:=this
   omega
  ·have:=uf ok.toji (I.t e).1
   have this:0<=f.block/\f.block+f.count<=S.c.1.toNat/\1<=f.count:=this
   omega) λH5 E=>aF rfl (aU (x:=f.kind) E 13 rfl rfl (aF ?_ ?_))
 ·grind
 refine aU (x:=f.view) E 13 rfl rfl (aD (aX (x:=some F.X.sa) ((y.r.ext l).ext E.base) rfl (kJ E ((y.ext l).X) ok.toji λB6 H6 N G=>dc G 13 rfl rfl (aF ?_ (cE (x:=dL f s) G 13 rfl rfl rfl ?_)))))
 ·show(f.view != S.n.view)=false
  rw[hv];simp
 have ai:=l.trans N
 refine Fm.Wy G (af.ext (M.trans (N.trans G.base))) ac D (by omega) (by omega) λm O H7 ak hm h7=>?_
 have o:=ai.trans ak
 refine bG h7 λg H8 h8=>cF (vs:=c5 m) h8 rfl rfl λZ v=>?_
 have v:aA Z (aC O::qg A F W S V (aJ g (c5 m)::aJ u (f8 (dL f s))::R)):=(show aA Z (aC O::aJ g (c5 m)::((oX A F.X W S++[gK F.va F.vs V])++(aJ u (f8 (dL f s))::R))) from v).ua
 refine aD (aX (x:=some F.va) ((y.r.ext o).ext v.base) rfl (aU (x:=f.seq) v 14 rfl rfl (cE (x:=m) v 13 rfl rfl rfl (pZ v.wh λU j=>?_))))
 have eE:V.Am f.seq=0:=by
  rw[WM.Am,hs,if_neg (by omega),if_neg (by omega),hE];rfl
 have ep:V.put f.seq m=⟨V.size,V.next,λi=>if i=V.next then some m else none⟩:=by
  rw[WM.put,if_pos eE,hs]
  simp only[hE]
 have j:aA U (aC O::gK F.va F.vs (V.put f.seq m)::(oX A F.X W S++(aJ g (c5 m)::aJ u (f8 (dL f s))::R))):=j
 rw[ep] at j
 rw[eE]
 refine aW rfl ?_
 refine HE (V:=⟨V.size,V.next,λi=>if i=V.next then some m else none⟩) j.ua hA (y.ext o) (hW.ext o) ok hk hn ag ad hm I (by simp) (by simp) ah λz C q d H' eA aj ab hq h'=>?_
 refine hQ z C q d H' eA (o.trans aj) ab hq ?_
 have aa:aA H' (aC d::((oX z F.X C (S.op (fT f)).1++[gK F.va F.vs ⟨V.size,V.next+1,λ_=>none⟩])++aJ g (c5 m)::aJ u (f8 (dL f s))::R)):=h'
 exact aa.kG.kG
theorem CV {p:Sl} {Q:Sl->Int->PH->Prop} (a:pJ B F S.c) (x:Ext B H) (b:jI (some F.ra) p H Q):lQ (some F.fa) p H Q:=
 aF rfl (aD (aX (x:=some F.ra) (a.f.ext x) rfl b))
theorem lh {Q:Option Addr->PH->Prop} {c:ax} (a:pJ B F c) (x:Ext B H) (b:Q (some F.X.sa) H):fE (some F.fa) H Q:=
 aF rfl (aD (aX (x:=some F.ra) (a.f.ext x) rfl (aF rfl (aD (aX (x:=some F.X.sa) (a.r.ext x) rfl b)))))
theorem qZ {Q:AM->PH->Prop} (h:aA H (aC B::cD A F.X W S R)) (j:pJ B F S.c) (ok:bB k S) (m:∀b H',Ext B b->aA H' (aC b::cD A F.X W S R)->Q S.status H'):fv (some F.fa) H Q:=by
 refine bG h λa1 H1 g=>lh j g.base ?_
 have a:aA H1 (aC B::cD A F.X W S (aJ a1 (cr m8)::R)):=g.ua
 refine kJ a j.X ok.toji λd o l a=>fb (vs:=cr S.status) a 12 rfl rfl rfl λe i=>cE (x:=S.status) i 12 rfl rfl rfl ?_
 exact m d e l (show aA e (aC d::(oX A F.X W S++aJ a1 (cr S.status)::R)) from i).kG
end
end Re
end
section
namespace Vi
open Go Go.Kx KM Ge Us
abbrev X3:=Int×Int×Int
def yK (x:X3):List Value:=[.int .i64 x.1,.int .i64 x.2.1,.int .i64 x.2.2]
def yp (live b room:Int):Prop:=(1<=room/\room<=1000)/\(0<=live/\live<=room)/\0<=b/\b<=2147483647
instance (a b c:Int):Decidable (yp a b c):=by unfold yp;infer_instance
def yq (live b room:Int):Int:=if yp live b room then(room-live)*b/(room+live) else 0
def EH (a b:X3):Bool:=if a.1≠b.1 then decide (b.1<a.1) else if a.2.1≠b.2.1 then decide (a.2.1<b.2.1) else decide (a.2.2<b.2.2)
def EI (now b:Int):Int:=if now<=b then 0 else min (now-b) 2147483647
section
variable {H:PH} {L:List Ob}
theorem xC {n low high:Int} {Q:Bool->PH->Prop} (b:Q (decide (low<=n)&&decide (n<=high)) H):mo n low high H Q:=by
 refine aE (aM (λc=>?_) (λc=>?_))
 ·grind
 grind
theorem Rk {live b room:Int} (h:yp live b room):0<=(room-live)*b/\(room-live)*b<=1000*2147483647/\0<=(room-live)*b/(room+live)/\(room-live)*b/(room+live)<=(room-live)*b:=by
 obtain⟨⟨a1,j⟩,⟨k,m⟩,e,f⟩:=h
 have d:0<=(room-live)*b:=Int.mul_nonneg (by omega) e
 have i:(room-live)*b<=1000*2147483647:=Int.mul_le_mul (by omega) f e (by decide)
 exact⟨d,i,Int.ediv_nonneg d (by omega),Int.ediv_le_self _ d⟩
theorem O8 {live b room:Int} {Q:Int->PH->Prop} (d:Q (yq live b room) H):wD live b room H Q:=by
 by_cases h:yp live b room
 ·obtain⟨n0,n1,n2,n3⟩:=Rk h
  rw[yq,if_pos h] at d
  obtain⟨⟨a1,e⟩,⟨f,i⟩,j,k⟩:=h
  refine xC (aE (aF (by simp;omega) (xC ?_)))
  have e1:(!(decide (0<=live)&&decide (live<=room)))=false:=by simp;omega
  rw[e1]
  refine aE (aF rfl (xC ?_))
  have e2:(!(decide (0<=b)&&decide (b<=2147483647)))=false:=by simp;omega
  rw[e2]
  refine aF rfl ⟨by rw[bC (by omega) (by omega)];omega,?_⟩
  rw[bC (x:=room+live) (by omega) (by omega),bC (x:=room-live) (by omega) (by omega),bC (x:=(room-live)*b) (by omega) (by omega),Int.tdiv_eq_ediv_of_nonneg n0,bC (by omega) (by omega)]
  exact d
 ·rw[yq,if_neg h] at d
  refine xC (aE (aM (λ_=>aE (aW rfl (aW rfl d))) (λc1=>xC (aE (aM (λ_=>aW rfl d) (λc2=>xC (aW ?_ d)))))))
  simp at c1 c2 ⊢
  simp only[yp] at h
  omega
theorem MG {a b:X3} {Q:Bool->PH->Prop} (m:∀H',Ext H H'->Q (EH a b) H'):uu a b H Q:=by
 refine kb λa1 H1 o r1 _=>kb λk f j n f2=>?_
 have d:aa f a1 (yK a):=r1.ext j
 have e:aa f k (yK b):=n
 have q:=m f (o.trans j)
 have i0:∀{a:Addr} {K:Addr->Prop},K (a.add 0)->iH 3 a 1 0 K:=λh=>mi (by decide) (by decide) h
 have i1:∀{a:Addr} {K:Addr->Prop},K (a.add 1)->iH 3 a 1 1 K:=λh=>mi (by decide) (by decide) h
 have i2:∀{a:Addr} {K:Addr->Prop},K (a.add 2)->iH 3 a 1 2 K:=λh=>mi (by decide) (by decide) h
 refine i0 (aX (x:=a.1) d rfl (i0 (aX (x:=b.1) e rfl (aM (λc=>?_) (λc=>?_)))))
 ·have i:a.1≠b.1:=by simpa using c
  rw[EH,if_pos i] at q
  exact i0 (aX (x:=a.1) d rfl (i0 (aX (x:=b.1) e rfl q)))
 ·have i:¬a.1≠b.1:=by simpa using c
  rw[EH,if_neg i] at q
  refine i1 (aX (x:=a.2.1) d rfl (i1 (aX (x:=b.2.1) e rfl (aE (aM (λc1=>?_) (λc1=>?_)))))
  )
  ·grind
  ·have p:¬a.2.1<b.2.1:=by grind
   refine i1 (aX (x:=a.2.1) d rfl (i1 (aX (x:=b.2.1) e rfl (aE (aM (λc2=>?_) (λc2=>?_))))))
   ·have r:a.2.1=b.2.1:=by grind
    rw[if_neg (by omega)] at q
    exact i2 (aX (x:=a.2.2) d rfl (i2 (aX (x:=b.2.2) e rfl q)))
   grind
theorem UJ {now b:Int} {Q:Int->PH->Prop} (f:0<=b) (h:now<=9223372036854775807) (e:Q (EI now b) H):yZ now b H Q:=by
 refine aM (λc=>?_) (λc=>?_)
 ·have d:now<=b:=by simpa using c
  rw[EI,if_pos d] at e;exact e
 ·have d:¬now<=b:=by simpa using c
  rw[EI,if_neg d] at e
  rw[bC (x:=now-b) (by omega) (by omega)]
  grind
end
def FK (c:ax) (l:List cJ) (v:List Int) (now:Int) (k:Nat):Option X3:=
 if((l.getD k (0,0)).1==2)&&(decide (1<=v.getD k 0)&&decide (v.getD k 0<=half c)) then some (yq (v.getD k 0) (EI now (l.getD k (0,0)).2) (c.2.2- 2),v.getD k 0,(k:Int)) else none
def iG (c:ax) (l:List cJ) (v:List Int) (now:Int):Nat->Option X3
 | 0=>none
 |k+1=>match FK c l v now k with
  |none=>iG c l v now k
  |some x=>match iG c l v now k with
   |none=>some x
   |some b=>if EH x b then some x else some b
section
variable {H:PH} {a:Addr} {g:Addr} {s t:Sl} {l:List cJ} {v:List Int} {c:ax}
theorem Ng {L:List Ob} {b:Addr} {cs vs:List Value} {K:PH->Prop} (h:aA H L) (i:Nat) (hi:L[i]?=some (aJ b cs)) (f:vs.length=cs.length) (m:vs.all cg=true) (e:∀H',aA H' (L.set i (aJ b vs))->K H'):aV H b vs K:=
 uM (h.get i hi) f m λH' r k=>e H' (h.cR (O':=aJ b vs) i hi r (λc d=>.inl d) λc o d j=>k c o d j)
theorem HI {L:List Ob} {b:Addr} {x:X3} {K:X3->Prop} (h:aA H L) (i:Nat) (hi:L[i]?=some (aJ b (yK x))) (d:K x):aT (λ(x:(Int×Int×Int))=>[.int .i64 x.1,.int .i64 x.2.1,.int .i64 x.2.2]) H b 3 K:=
 iK (x:=x) (h.get i hi:aa H b (yK x)) rfl d
theorem Rl {now:Int} {Q:Int->Bool->PH->Prop} (r:aa H a (iS (some g) s t)) (W:Gm H (some g) c) (G:bE c) (J:fM bf 2 H s l) (ht:gR H t v) (hv:v.length=l.length) (hn:l.length< 2 ^ 30) (ad:∀u:cJ,u∈l->0<=u.2) (I:now<=9223372036854775807)
 (hQ:∀H',Ext H H'->Q (((iG c l v now l.length).getD (0,0,0)).2.2) (iG c l v now l.length).isSome H'):xO (some g) (some a) now H Q:=by
 refine lW (aA.start H) λa1 H1 h1 _=>lW h1 λE H2 h2 _=>lW h2 λF H3 h3 _=>lW h3 λm H4 h4 _=>lW h4 λo H5 T _=>jF T 5 rfl rfl λH6 y=>?_
 refine eB (enc:=Value.pointer) (x:=some g) y 1 rfl (aE (aF rfl (eB (enc:=Value.pointer) (x:=some a) y 2 rfl (aF rfl (eB (enc:=Value.pointer) (x:=some a) y 2 rfl ?_)))))
 refine lW y λc0 H7 h7 _=>?_
 refine zx _ _ _ _ _ (HF (a:=a) (p:=some g) (s:=s) (t:=t) (l:=l)
  (λk _ j=>aA j [aC H,aJ a1 [.pointer (some g)],aJ E [.pointer (some a)],aJ F [.int .i64 now],aJ m (yK ((iG c l v now k).getD (0,0,0))),aJ o [.bool (iG c l v now k).isSome],aJ c0 [.pointer (some a)]]) (by omega)
  ?_ h7 ?_ ?_ ?_)
 ·intro k _ j hk
  exact⟨hk.Bq 6 rfl,r.ext hk.base,J.ext hk.base⟩
 ·intro k _ j X hk hf
  have:FK c l v now k=none:=by rw[FK,hf];rfl
  have e:iG c l v now (k+1)=iG c l v now k:=by simp only[iG,this]
  grind
 ·intro k _ j K X hk hf i ab
  have Z:bg 0 v (k:Int)=v.getD k 0:=by rfl
  have gl:bg (0,0) l (k:Int)=l.getD k (0,0):=by rfl
  refine⟨_,rfl,eB (enc:=Value.pointer) (x:=some a) hk 2 rfl (vd (r.ext hk.base) J.bL (ht.ext hk.base) hv (eB (enc:=Value.pointer) (x:=some g) hk 1 rfl (Q9 (W.ext hk.base) G (xC ?_))))⟩
  rw[Z]
  refine aM (λc1=>i () j ?_) (λc1=>?_)
  ·have w:(decide (1<=v.getD k 0)&&decide (v.getD k 0<=half c))=false:=by
    grind
   have:FK c l v now k=none:=by rw[FK,w,Bool.and_false];rfl
   have e:iG c l v now (k+1)=iG c l v now k:=by simp only[iG,this]
   grind
  ·have w:(decide (1<=v.getD k 0)&&decide (v.getD k 0<=half c))=true:=by grind
   obtain⟨x,C⟩:∃x,x=(yq (v.getD k 0) (EI now (l.getD k (0,0)).2) (c.2.2- 2),v.getD k 0,(k:Int)):=⟨_,rfl⟩
   have h:FK c l v now k=some x:=by rw[FK,hf,w,C];rfl
   have T:=G.2.2.2.2.1;have y:=G.2.2.2.2.2
   have Y:0<=(l.getD k (0,0)).2:=by
    grind
   refine aE (eB (enc:=Value.int .i64) (x:=now) hk 3 rfl (eB (enc:=Value.pointer) (x:=some a) hk 2 rfl (eB (enc:=Value.pointer) (x:=some g) hk 1 rfl (Ou (r.ext hk.base) (J.ext hk.base) ⟨hk.Bq 1 rfl,hk.Bq 3 rfl,?_⟩))))
   rw[gl]
   refine UJ Y I ⟨hk.Bq 1 rfl,mr (W.ext hk.base) λH8 x8=>?_⟩
   rw[bC (x:=c.2.2- 2) (by omega) (by omega)]
   have U:=hk.ext x8
   refine O8 (lW U λq H9 V _=>?_)
   rw[show[Value.int .i64 (yq (v.getD k 0) (EI now (l.getD k (0,0)).2) (c.2.2- 2)),.int .i64 (v.getD k 0),.int .i64 (k:Int)]=yK x by rw[C];rfl]
   refine Ng V 7 rfl rfl rfl λM B=>?_
   have n:aA M [aC H,aJ a1 [.pointer (some g)],aJ E [.pointer (some a)],aJ F [.int .i64 now],aJ m (yK ((iG c l v now k).getD (0,0,0))),aJ o [.bool (iG c l v now k).isSome],aJ c0 [.pointer (some a)],aJ q (yK x)]:=B
   clear B V U
   have put:∀d,(iG c l v now (k+1)=some x)->aA d [aC H,aJ a1 [.pointer (some g)],aJ E [.pointer (some a)],aJ F [.int .i64 now],aJ m (yK ((iG c l v now k).getD (0,0,0))),aJ o [.bool (iG c l v now k).isSome],aJ c0 [.pointer (some a)],aJ q (yK x)]->
    aT (λ(x:(Int×Int×Int))=>[.int .i64 x.1,.int .i64 x.2.1,.int .i64 x.2.2]) d q 3 λz=>aV d m ([.int .i64 z.1,.int .i64 z.2.1,.int .i64 z.2.2]) λO=>aV O o ([.bool true]) λP=>K 0 () P:=by
    intro d he f
    refine HI f 7 rfl (Ng (vs:=yK x) f 4 rfl rfl rfl λac R=>jF R 5 rfl rfl λN S=>i () N ?_)
    rw[he]
    exact S.pick [0,1,2,3,4,5,6] (by decide) rfl (by simp)
   refine eB (enc:=Value.bool) n 5 rfl (aE ?_)
   cases A:iG c l v now k with
   |none=>
    have e:iG c l v now (k+1)=some x:=by simp only[iG,h,A]
    exact aW rfl (aW rfl (by grind))
   |some b=>
    have f:=n
    rw[A] at f
    refine aF rfl (HI f 7 rfl (HI (x:=b) f 4 rfl (MG λd D=>?_)))
    refine aM (λcb=>put d ?_ (n.ext D)) (λcb=>i () d ?_)
    ·simp only[iG,h,A]
     grind
    ·have e:iG c l v now (k+1)=some b:=by
      simp only[iG,h,A]
      grind
     rw[e]
     exact(f.ext D).pick [0,1,2,3,4,5,6] (by decide) rfl (by simp)
 ·intro _ j hk
  have ra:aa j m (yK ((iG c l v now l.length).getD (0,0,0))):=hk.get 4 rfl
  exact mi (by decide) (by decide) (aX (x:=((iG c l v now l.length).getD (0,0,0)).2.2) ra rfl (eB (enc:=Value.bool) hk 5 rfl (hQ j hk.base)))
end
end Vi
end
section
namespace Re
open Go Go.Kx KM Rw Ge Sc Rg Mo Ds Rc So Wi Fm
section
variable {H B:PH} {L R:List Ob} {k n:Nat} {A:Ds.DA} {D:Dk} {F:Fr} {W:Wt} {S:KM.St} {V:WM} {f:oW}
theorem Gd {size:Nat} {Q:Option Addr->Int->PH->Prop} (h:aA H (aC B::bA A D::L)) (ok:bu k D) (hk:k+3< 2 ^ 28) (y:kU D=some S) (s:lV D=true) (Z:1<=size) (h2:size<=16) (ac:0<=S.n.seq/\S.n.seq< 2 ^ 30) (aa:1<=S.w.p.2.2.1/\S.w.p.2.2.1<=k+3) (I:fj S.c S.w.p=true)
 (hQ:∀q F W j H',q.a=A.a->q.a=F.X.da->Ext B j->pJ j F S.c->gJ j W S->bB (k+3) S->S.d.now.length=D.now.length->aA H' (aC j::qg q F W S ⟨size,S.n.seq+1,λ_=>none⟩ L)->Q (some F.fa) 0 H'):wB (some A.a) size H Q:=by
 refine aE (aF (by grind) (aF (by grind) ?_))
 refine RY h ok (by omega) y s λO X Y B1 H1 t u K z hW ab hc hd E hn C J v=>aF rfl ?_
 have hw:S.w.items=[]/\S.w.blocks=[]:=by
  obtain⟨c,id,aN,sl,rg,slot,m0,m1,l,en,f,P⟩:=CU y
  rw[P.S_];simp
 have m:bB (k+3) S:=by
  simp only[fj,Bool.and_eq_true,KM.bD] at I
  refine⟨⟨hc,hd,by rw[E];exact hn,C,J,by omega,by omega,by omega,by omega,by omega⟩,by omega,λi hi=>?_,?_,λb hb=>?_,λG=>absurd hw.1 G⟩
  ·grind
  ·grind
  grind
 refine kJ v z m.toji λB2 H2 M x=>?_
 have e:IntKind.wrap .i64 (S.status.2.2.2.1+1)=S.n.seq+1:=cK (by show -9223372036854775808<=S.n.seq+1;omega) (by show S.n.seq+1<_;omega)
 rw[e]
 refine Wi.fO x Z h2 (by omega) (by omega) λva vs H3 r=>aE (aF rfl (aF rfl ?_))
 have r:=r.ua
 refine gN r λra B4 H4 N rr h4=>gN h4 λfa T U o rf h5=>?_
 have g:=M.trans (N.trans o)
 exact hQ O ⟨X,fa,ra,va,vs⟩ Y T U t u (K.trans g) ⟨z.ext g,rf,rr.ext o⟩ (hW.ext g) m E h5
theorem rL {Q:Int->Int->PH->Prop} (h:aA H (aC B::cD A F.X W S R)) (N:A.a=F.X.da) (C:pJ B F S.c) (hW:gJ B W S) (ok:bB k S) (hk:k+60< 2 ^ 28) (P:vI S) (Y:2<cG S.check.1.t.l) (hlen:S.check.2.length< 2 ^ 30)
 (w:∀E K z H',E.a=F.X.da->Ext B z->gJ z K S.check.1->bB (k+40) S.check.1->S.check.1.d.now.length=S.d.now.length->aA H' (aC z::cD E F.X K S.check.1 R)->Q S.check.2.length 0 H'):mw (some F.fa) H Q:=by
 refine lh C h.base (aE (aF rfl (DZ h ?_)))
 rw[←N]
 refine CL (i:=4) h rfl ?_
 rw[ok.dk.off]
 refine aF rfl (GZ h N C.X hW ok hk P λG M q I H1 ac aa O hq b l1 r=>?_)
 have U:S.check.1.c=S.c:=(ok.emit (by omega)).2.2.2.1
 have e:mg I F.X S.check.1.c:=by rw[U];exact C.X.ext aa
 have w:=w G M
 have tN:=b.tb.l
 have tV:=b.tb.v
 generalize S.check.1=T at r O b l1 Y w e tN tV
 generalize S.check.2=out at hq hlen w
 refine Bk (λm st Hk=>m=0/\st=(0,0,q,0)/\Hk=H1) 0 (by grind) ?_
 rintro m st H2 again ⟨rfl,rfl,rfl⟩ _
 refine aW rfl (aE (aE (aF rfl ?_)))
 obtain⟨ga,eg,Z⟩:=id e.g
 refine IB r (fx r (Rd r λH3 o=>?_))
 have y:=e.ta
 have ad:=b.c.2.2.2.1
 rw[eg] at y ⊢
 have ab:=b.cZ
 refine Vi.Rl (y.ext o.base) (⟨ga,rfl,Z.ext o.base⟩) b.c ((o.get 6 rfl:bj Us.bf 2 H3 F.X.s T.t.l).lX Us.nL) (o.list (enc:=i64) 7 rfl) (by rw[tN,tV]) (by omega) (λu hu=>(b.tb.us u hu).2.1) (by omega) λJ x4=>?_
 have p:=o.ext x4
 have fin:∀j,aA j (aC I::cD G F.X M T R)->Q (IntKind.wrap .i64 (0+(q.len:Int))) 0 j:=λj h5=>by
  rw[hq.bL,cK (x:=0+(out.length:Int)) (by omega) (by omega),Int.zero_add]
  grind
 refine aE (aM (λcc=>?_) (λcc=>aW rfl (fin J p)))
 refine fx p ?_
 refine Us.free_spec ((e.ta).ext p.base) ((p.get 6 rfl:bj Us.bf 2 J F.X.s T.t.l).lX Us.nL) (by omega) λj x5=>?_
 rw[decide_eq_false (show¬((cG T.t.l:Int)<=2) by omega)]
 exact aW rfl (fin j (p.ext x5))
theorem Dc {view:Int} {Q:Int->PH->Prop} (h:aA H (aC B::cD A F.X W S R)) (j:A.a=F.X.da) (i:pJ B F S.c) (m:gJ B W S) (ok:bB k S) (hk:k+60< 2 ^ 28)
 (hm:S.n.mode=1) (p:1<=view/\view<=2147483647) (o:S.n.view<view) (P:vI (S.raised view 2))
 (l:∀e g b H',e.a=F.X.da->Ext B b->gJ b g (S.raise view 2).1->bB (k+40) (S.raise view 2).1->(S.raise view 2).1.d.now.length=S.d.now.length->aA H' (aC b::cD e F.X g (S.raise view 2).1 R)->Q 0 H'):iO (some F.fa) view H Q:=
 lh i h.base (Ga h j i.X m ok hk hm p (.inr rfl) o P l)
end
end Re
end
section
namespace Wi
open Go Go.Kx KM
theorem O9 {α:Type} {enc:α->List Value} {sz:Nat} {H:PH} (d:∀x,(enc x).length=sz) {s:Sl} {l:List α} {x:α} {K:PH->Prop} (q:bj enc sz H s l) (g:∀H',bj enc sz H' s (List.replicate l.length x)->wm s H H'->K H'):xf H sz (enc x) s K:=by
 rcases q with⟨rfl,rfl⟩|⟨b,sp,e,spare,rfl,f,j⟩
 ·exact .inl ⟨rfl,g H (.inl ⟨rfl,rfl⟩) λc o h _=>h⟩
 ·by_cases n:l.length=0
  ·have:l=[]:=(by grind)
   subst this
   exact .inl ⟨rfl,g H (.inr ⟨b,sp,e,spare,rfl,f,j⟩) λc o h _=>h⟩
  ·have hf:=fL d l
   have i:=fL d (List.replicate l.length x)
   rw[List.length_replicate] at i
   refine .inr (.inr ⟨n,b,0,_,e,rfl,j,by show 0+l.length*sz<=_;rw[List.length_append,hf];omega,g _ (.inr ⟨b,sp,e,spare,by rw[List.length_replicate],f,?_⟩) λc o k p=>?_⟩)
   ·simp only[PH.eH]
    have m:cN l.length (enc x)=(List.replicate l.length x).flatMap enc:=Bo
    rw[m,kK _ _ _ (by rw[List.length_append,hf,i];omega),List.take_zero,List.nil_append,Nat.zero_add,i,←hf,List.drop_left]
   ·rw[PH.al _ _ (λe=>p ⟨_,rfl,e.symm⟩)];exact k
section
variable {H B:PH} {L:List Ob} {a:Addr} {s:Sl} {V:WM}
theorem PA {n:Int} {Q:PH->Prop} (h:aA H (aC B::gK a s V::L)) (j:1<=n) (k:n<=2147483647) (m:∀H',aA H' (aC B::gK a s (lf V.size n)::L)->Q H'):jl (some a) n H Q:=by
 have w:uB H a s V:=h.get 1 rfl
 refine xz w (aE (aF rfl ?_))
 rw[decide_eq_false (show¬n< 1 by omega)]
 refine aE (aF rfl ?_)
 rw[decide_eq_false (show¬2147483647<n by omega)]
 refine aF rfl (aD (aX (x:=s) w.row rfl ?_))
 obtain⟨l,q,p⟩:=w.vec
 refine O9 (x:=(eP,false)) FG q λH1 v1 k1=>aD ?_
 have r1:aa H1 a [Sl.v s,.int .i64 V.next]:=w.row.cq λc o b f=>k1 c o f λd=>w.ap (b▸d)
 refine tf r1 (by simp) rfl λi r k2=>?_
 rw[p.1] at v1
 have ok:=Vn w.ok.pos w.ok.le j k
 refine m i (h.cR (O':=gK a s (lf V.size n)) 1 rfl ⟨r,⟨_,v1.cq λc o b f=>k2 c o f λe=>w.ap (e▸b),xX.new _ _ w.ok.pos⟩,w.ap,ok⟩ (λc b=>.inl b) λc o b g=>k2 c o (k1 c o b λd=>g (.inr d)) λe=>g (.inl e))
end
end Wi
end
section
namespace So
open Go Go.Kx KM Rw Ge Sc Rg Mo Ds Rc
section
variable {H B:PH} {L R:List Ob} {k n:Nat} {A:Ds.DA} {X:Ad} {W:Wt} {S:KM.St}
theorem IE (ok:bB k S) (hk:k+60< 2 ^ 28) {v m:Int} (hm:S.n.mode=1) (g:1<=v/\v<=2147483647) (a:m=1∨m=2) (e:S.n.view<v):
 (S.raise v m).1.c=S.c/\(S.raise v m).1.n.mode=m/\(S.raise v m).1.n.view=v/\(S.raise v m).1.n.seq=S.n.done/\(S.raise v m).1.n.done=S.n.done/\(S.raise v m).1.n.aQ=S.n.aQ:=by
 rw[xA hm g a e ok.dk.off]
 obtain⟨o1,o2,o3,b,d,h,i,j,l⟩:=(vg ok v m).emit (by omega)
 show(S.raised v m).check.1.c=S.c/\_
 rw[vH b d]
 refine⟨b,?_⟩
 show(S.raised v m).emit.n.mode=m/\(S.raised v m).emit.n.view=v/\(S.raised v m).emit.n.seq=S.n.done/\(S.raised v m).emit.n.done=S.n.done/\(S.raised v m).emit.n.aQ=S.n.aQ
 rw[d]
 exact⟨rfl,rfl,rfl,rfl,rfl⟩
theorem UK {v m:Int} {Q:Int->PH->Prop} (h:aA H (aC B::cD A X W S R)) (l:1<=v/\v<=2147483647) (i:m=1∨m=2) (j:S.n.mode≠1∨v<=S.n.view)
 (g:Q (if S.n.mode=1 then 8 else 7) H):kh (some X.sa) v m H Q:=by
 refine aF rfl (aD (dD (x:=S.n.mode) h 11 rfl rfl (aM (λc=>?_) (λc=>?_))))
 ·grind
 ·have hm:S.n.mode=1:=by simpa using c
  rw[if_pos hm] at g
  refine xq (b:=decide (2147483647<v)) (by simp) ?_
  rw[decide_eq_false (show¬v< 1 by omega),decide_eq_false (show¬2147483647<v by omega)]
  refine aE (aF rfl (aE ?_))
  have fin:∀(s:Bool) (F:Addr->Int->Prop),s=false->aL s (Q 1 H) (aP (some X.sa) λa=>aH (.int .i64) H ((a.add 5).add 1) λd=>aL (decide (v<=d)) (Q 8 H) (F a d)):=λs F e=>by
   subst e
   exact aF rfl (aD (dD (x:=S.n.view) h 11 rfl rfl (aW (by grind) g)))
  refine aM (λc1=>?_) (λc1=>fin _ _ rfl)
  exact fin _ _ (by simp at c1 ⊢; omega)
end
end So
namespace Re
open Go Go.Kx KM Rw Ge Sc Rg Mo Ds Rc So Wi Fm
section
variable {H B:PH} {L R:List Ob} {k n:Nat} {A:Ds.DA} {F:Fr} {W:Wt} {S:KM.St} {V:WM} {f:oW}
theorem PB {v:Int} {Q:Sl->Int->PH->Prop} (h:aA H (aC B::qg A F W S V R)) (hA:A.a=F.X.da) (o:pJ B F S.c) (hW:gJ B W S) (ok:bB k S) (hk:k+60< 2 ^ 28) (p:uz S) (U:1<=v/\v<=2147483647) (P:S.n.view<v->vI (S.raised v 1))
 (h8:v<S.n.view->∀b H',Ext B b->aA H' (aC b::qg A F W S V R)->Q Sl.nil 8 H')
 (h0:v=S.n.view->∀q b H',Ext B b->Bytes b q (cV S.nQ)->aA H' (aC b::qg A F W S V R)->Q q 0 H')
 (O:S.n.view<v->∀G J q b H',G.a=F.X.da->Ext B b->gJ b J (S.raise v 1).1->bB (k+40) (S.raise v 1).1->Bytes b q (cV (S.raise v 1).1.nQ)->aA H' (aC b::qg G F J (S.raise v 1).1 (lf V.size (S.n.done+1)) R)->Q q 0 H'):mN (some F.ra) v H Q:=by
 refine aD (aX (x:=some F.X.sa) (o.r.ext h.base) rfl (kJ h o.X ok.toji λB1 H1 g g1=>?_))
 refine bG g1 λa7 H2 g2=>cF (vs:=cr S.status) g2 rfl rfl λH3 z=>ak (x:=S.n.view) z rfl ?_
 have C:=z.aq
 refine aM (by grind) (λc=>ak (x:=S.n.view) z rfl (aE (aM (λc2=>?_) (λc2=>?_))))
 ·have i:S.n.view<v:=by grind
  obtain⟨n1,n2,n3,Y,n5,n6⟩:=IE ok hk p.mode U (.inl rfl) i
  refine aD (aX (x:=some F.X.sa) ((o.r.ext g).ext C.base) rfl (So.Ga C hA (o.ext g).X (hW.ext g) ok hk p.mode U (.inl rfl) i (P i) λI K B5 H5 M Z t j l5 s=>aF rfl ?_))
  have u:=g.trans Z
  have d:pJ B5 F (S.raise v 1).1.c:=by rw[n1];exact o.ext u
  generalize(S.raise v 1).1=T at n1 n2 n3 Y n5 n6 t j l5 s d O
  have hd:=p.done;have hs:=p.seq;have he:=p.aQ
  refine aD (aX (x:=some F.va) (d.r.ext s.base) rfl (aD (aX (x:=some F.X.sa) (d.r.ext s.base) rfl (kJ s d.X j.toji λB6 H6 l N=>dE ((d.r.ext l).ext N.base) rfl ?_))))
  have e:IntKind.wrap .i64 (T.status.2.2.2.1+1)=S.n.done+1:=by rw[←Y];exact cK (by show -9223372036854775808<=T.n.seq+1;omega) (by show T.n.seq+1<_;omega)
  rw[e]
  refine Wi.PA N.wh (by omega) (by omega) λH7 g7=>?_
  refine An (show aA H7 (aC B6::cD I F.X K T (gK F.va F.vs (lf V.size (S.n.done+1))::R)) from g7.ua) (d.ext l) j ⟨n2,by omega,by omega,by omega,by omega⟩ λq w y m E D=>?_
  exact O i I K q w y M (u.trans (l.trans m)) (t.ext (l.trans m)) j E D
 ·have hle:v=S.n.view:=by grind
  exact An C (o.ext g) ok p λq w y m E D=>h0 hle q w y (g.trans m) E D
theorem Yu {Q:Int->PH->Prop} (h:aA H (aC B::cD A F.X W S R)) (m:A.a=F.X.da) (j:pJ B F S.c) (ok:bB k S) (l:∀d H',Ext B d->aA H' (aC d::cD A F.X W S R)->Q (if S.n.mode=1 then 0 else 7) H'):jz (some F.ra) H Q:=by
 have rr:=j.r.ext h.base
 refine aE (aF rfl (aD (aX (x:=some F.X.sa) rr rfl (DZ h ?_))))
 rw[←m]
 refine CL (i:=4) h rfl ?_
 rw[ok.dk.off]
 refine aF rfl (aD (aX (x:=some F.X.sa) rr rfl (kJ h j.X ok.toji λe H1 b g=>aM (λc=>?_) (λc=>?_))))
 ·have:=l e H1 b g
  rw[if_neg (by have c:(S.n.mode != 1)=true:=c;simpa using c)] at this;exact this
 ·have:=l e H1 b g
  rw[if_pos (by have c:(S.n.mode != 1)=false:=c;simpa using c)] at this;exact this
theorem UL {p:Sl} {b:Bs} {Q:Sl->Int->PH->Prop} (h:aA H (aC B::qg A F W S V R)) (N:A.a=F.X.da) (t:pJ B F S.c) (hW:gJ B W S) (ok:bB k S) (hk:k+60< 2 ^ 28)
 (hp:Bytes B p b) (hD:Af b=some f) (hl:25<=b.length) (Y:b.length<=65536) (hb:bP b)
 (h7:S.n.mode≠1->∀d H',Ext B d->aA H' (aC d::qg A F W S V R)->Q Sl.nil 7 H')
 (hm:S.n.mode=1->uz S) (hv:1<=f.view/\f.view<=2147483647) (C:f.kind≠8/\(S.n.mode=1->f.kind≠9->f.view≠S.n.view)) (hc:f.kind=1∨f.kind=2->0<=f.block/\f.count<=64/\f.block+(if f.count< 1 then 1 else f.count)<=S.c.1.toNat) (P:S.n.mode=1->S.n.view<f.view->vI (S.raised f.view 1))
 (M:S.n.mode=1->(f.kind=9->f.view<S.n.view)->∀d H',Ext B d->aA H' (aC d::qg A F W S V R)->Q Sl.nil 8 H')
 (h0:S.n.mode=1->f.kind=9->f.view=S.n.view->∀q d H',Ext B d->aA H' (aC d::qg A F W S V R)->Q q 0 H')
 (h1:S.n.mode=1->f.kind=9->S.n.view<f.view->∀j l q d H',j.a=F.X.da->Ext B d->gJ d l (S.raise f.view 1).1->aA H' (aC d::qg j F l (S.raise f.view 1).1 (lf V.size (S.n.done+1)) R)->Q q 0 H'):jI (some F.ra) p H Q:=by
 refine Fm.hG h hp hl Y hb (λf' z s G H1 D af ad ac g1=>?_) (by grind)
 rw[hD] at z
 have ef:=Option.some.inj z
 subst ef
 refine bG g1 λw H2 g2=>cF (vs:=f8 (dL f s)) g2 rfl rfl λI E=>aF rfl ?_
 have E:aA I (aC G::qg A F W S V (aJ w (f8 (dL f s))::R)):=(show aA I (aC G::aJ w (f8 (dL f s))::((oX A F.X W S++[gK F.va F.vs V])++R)) from E).ua
 have out:∀{j l T v d H'},aA H' (aC d::qg j F l T v (aJ w (f8 (dL f s))::R))->aA H' (aC d::qg j F l T v R):=λ{j l T v d H'} g=>
  (show aA H' (aC d::((oX j F.X l T++[gK F.va F.vs v])++aJ w (f8 (dL f s))::R)) from g).kG
 refine Yu E N (t.ext D) ok λB4 H4 aa J=>?_
 have i:=D.trans aa
 by_cases e:S.n.mode=1
 ·rw[if_pos e]
  have hn:=hm e
  refine aF rfl (cE (x:=dL f s) J 13 rfl rfl rfl (Db J (t.ext i) ok C.1 hc λH5 m=>aF rfl (aU (x:=f.kind) m 13 rfl rfl (aM (λc=>?_) (λc=>?_)))))
  ·have y:f.kind=9:=by simpa using c
   refine aU (x:=f.view) m 13 rfl rfl (PB m N (t.ext i) (hW.ext i) ok hk hn hv (P e) (λZ d H' u o=>M e (λ_=>Z) d H' (i.trans u) (out o)) (λhe q d H' u _ o=>h0 e y he q d H' (i.trans u) (out o)) λU j l q d H' eA u O _ _ o=>h1 e y U j l q d H' eA (i.trans u) O (out o))
  ·have y:f.kind≠9:=by simpa using c
   have ae:f.view≠S.n.view:=C.2 e y
   refine aU (x:=f.view) m 13 rfl rfl (aD (aX (x:=some F.X.sa) ((t.r.ext i).ext m.base) rfl (kJ m ((t.ext i).X) ok.toji λB6 H6 ab K=>dc K 13 rfl rfl (aW ?_ (M e (by omega) B6 H6 (i.trans ab) (out K))))))
   show(f.view != S.n.view)=true
   grind
 ·rw[if_neg e]
  exact aW rfl (by grind)
end
end Re
end
section
namespace Li
open Go Go.Kx KM Rw
theorem Rm {H:PH} {s:Sl} {lo hi:Int} {K:Sl->Prop} (a:0<=lo) (b:lo<=hi) (c:hi<=s.cap) (d:s.len<=s.cap) (e:K (s.cut 1 lo.toNat hi.toNat)):kv s 1 lo hi K:=⟨_,⟨a,b,c,d,rfl⟩,e⟩
theorem Wz {H:PH} {s:Sl} {x:Sl} {l:List Sl} {Q:Sl->PH->Prop} (h:dX Sl.v H s (x::l)) (w:∀r H',dX Sl.v H' r l->wm s H H'->(∀c,r.has c->s.has c)->Q r H'):iY s 0 1 H Q:=by
 have q:=h.list
 have D:=q
 rcases h with⟨_,e⟩|⟨b,sp,e,rfl,z⟩
 ·cases e
 have hlen:(x::l).length=l.length+1:=rfl
 rw[hlen] at*
 refine⟨_,⟨by omega,by omega,by simp;omega,by simp;omega,by simp,rfl⟩,aF rfl ?_⟩
 refine Rm (H:=H) (by omega) (by omega) (by simp;omega) (by simp) ?_
 refine ni q (lo:=1) (hi:=((l.length+1:Nat):Int)) (by omega) (by omega) (by simp) λE f _=>?_
 have t:((x::l).drop (1:Int).toNat).take (((l.length+1:Nat):Int).toNat-(1:Int).toNat)=l:=by
  show(l.take _)=l
  rw[List.take_of_length_le (by simp)]
 rw[t] at f
 have a:=f.1
 have m:Sl.cut ⟨some ⟨b,0,none⟩,l.length+1,l.length+1+sp.length⟩ 1 (0:Int).toNat (0:Int).toNat=⟨some ⟨b,0,none⟩,0,l.length+1+sp.length⟩:=by
  simp only[Sl.cut,Int.toNat_zero,Nat.sub_zero,Nat.zero_mul]
  rw[if_neg (by omega)]
  simp[fV]
 rw[m]
 refine⟨l.map Sl.v,f.cells,by simp[a],by simp;exactλx _=>rfl,?_⟩
 rw[if_pos (by simp only[a];omega)]
 refine⟨b,0,_,e,rfl,z,by simp;omega,?_⟩
 have d:putAt ((x::l).map Sl.v++sp) (0+0*1) (l.map Sl.v)=l.map Sl.v++((x::l).map Sl.v++sp).drop l.length:=by
  rw[kK _ _ _ (by simp;omega)];simp
 simp only[a,Nat.zero_add] at*
 have hd:∃y:Value,((x::l).map Sl.v++sp).drop l.length=y::sp:=by
  refine⟨((x::l).map Sl.v).getD l.length default,?_⟩
  have j:l.length<((x::l).map Sl.v).length:=by simp
  rw[List.drop_append_of_le_length (by simp),List.drop_eq_getElem_cons j,List.drop_of_length_le (by simp),List.getD_eq_getElem?_getD,List.getElem?_eq_getElem j]
  rfl
 obtain⟨y,C⟩:=hd
 rw[C] at d
 have i:putAt ((x::l).map Sl.v++sp) (0*1) (l.map Sl.v)=l.map Sl.v++y::sp:=by rw[Nat.zero_mul];simpa using d
 rw[i]
 refine Rm (H:=H) (by omega) (by omega) (by simp;omega) (by simp;omega) ?_
 have g:Sl.cut ⟨some ⟨b,0,none⟩,l.length,l.length+1+sp.length⟩ 1 ((l.length:Int)).toNat (((l.length+1:Nat):Int)).toNat=⟨some ⟨b,l.length,none⟩,1,1+sp.length⟩:=by
  simp only[Sl.cut,Int.toNat_natCast]
  rw[if_neg (by omega)]
  simp[fV];omega
 rw[g]
 refine .inr (.inr ⟨by simp,b,l.length,l.map Sl.v++y::sp,e,rfl,by rw[PH.eH],by simp,?_⟩)
 have u:putAt (l.map Sl.v++y::sp) l.length (cN 1 [.slice none 0 0])=l.map Sl.v++(Sl.v Sl.nil::sp):=by
  rw[kK _ _ _ (by simp[cN])]
  simp[cN,List.take_append_of_le_length,List.drop_append,Sl.v,Sl.nil]
 rw[u]
 refine w _ _ (.inr ⟨b,Sl.v Sl.nil::sp,e,by simp;omega,by rw[PH.eH]⟩) (λc o n A=>?_) λc n=>n
 have k:c≠b:=λe=>A ⟨_,rfl,e.symm⟩
 rw[PH.al _ _ k,PH.al _ _ k];exact n
structure ij (B:PH) (bl:List Sl) (fs:List Bs):Prop where
 len:bl.length=fs.length
 at_:∀(i:Nat) (x:Sl) (b:Bs),bl[i]?=some x->fs[i]?=some b->Bytes B x b
theorem ij.ext {B c:PH} {bl:List Sl} {fs:List Bs} (h:ij B bl fs) (x:Ext B c):ij c bl fs:=⟨h.len,λi a b d e=>(h.at_ i a b d e).ext x⟩
theorem ij.snoc {B:PH} {bl:List Sl} {fs:List Bs} (h:ij B bl fs) {x:Sl} {b:Bs} (e:Bytes B x b):ij B (bl++[x]) (fs++[b]):=by
 refine⟨by simp[h.len],λi y c d a=>?_⟩
 by_cases hi:i<bl.length
 ·rw[List.getElem?_append_left hi] at d
  rw[List.getElem?_append_left (by rw[←h.len];exact hi)] at a
  exact h.at_ i y c d a
 ·rw[List.getElem?_append_right (by omega)] at d
  rw[List.getElem?_append_right (by rw[←h.len];omega)] at a
  grind
theorem ij.tail {B:PH} {x:Sl} {bl:List Sl} {b:Bs} {fs:List Bs} (h:ij B (x::bl) (b::fs)):ij B bl fs/\Bytes B x b:=⟨⟨by have:=h.len;simpa using this,λi y c d a=>h.at_ (i+1) y c d a⟩,h.at_ 0 x b rfl rfl⟩
theorem ij.nil {B:PH}:ij B [] []:=⟨rfl,by simp⟩
section
variable {H B:PH} {L R:List Ob} {ln:Addr} {s p:Sl} {bl pl:List Sl} {fs gs:List Bs}
theorem fO {Q:Option Addr->PH->Prop} (h:aA H (aC B::L)) (c:∀ln H',aA H' (aC B::aJ ln [Sl.v Sl.nil]::aS Sl.v Sl.nil []::L)->Q (some ln) H'):zM H Q:=
 bG h λa H1 b=>c a H1 (AB (enc:=Sl.v) b).swap
theorem IF {Q:Int->PH->Prop} (h:aA H (aC B::aJ ln [Sl.v s]::aS Sl.v s bl::L)) (hB:ij B bl fs) (C:cL Sl.v B p pl) (w:ij B pl gs) (N:fs.length+gs.length<=64) (A:∀b∈gs,b.length<=2 ^ 20)
 (V:∀d o a H',Ext B d->ij d a (fs++gs)->aA H' (aC d::aJ ln [Sl.v o]::aS Sl.v o a::L)->Q (fs.length+gs.length:Nat) H'):qQ (some ln) p H Q:=by
 refine aF rfl ?_
 refine av gs.length (λi st G=>st=(i:Int)/\∃d o a,Ext B d/\ij d a (fs++gs.take i)/\aA G (aC d::aJ ln [Sl.v o]::aS Sl.v o a::L)) ⟨rfl,B,s,bl,.refl _,by grind,h⟩ ?_
 rintro i st H1 again hi ⟨rfl,P,s1,f,q,m,e⟩ z
 rw[C.bL,w.len]
 have g:=m.len
 have v1:dX Sl.v H1 s1 f:=e.get 2 rfl
 refine aM (λc1=>?_) (λc1=>?_)
 ·have k:i<gs.length:=by grind
  have O:i<pl.length:=by rw[w.len];exact k
  refine aE (dm ((C.ext q).ext e.base) (by omega) (by omega) λx D=>aD (aU (enc:=Sl.v) (x:=s1) (j:=0) e 1 rfl rfl ?_))
  rw[Int.toNat_natCast] at D
  rw[v1.list.bL,g,List.length_append,List.length_take,Nat.min_eq_left (by omega)]
  have K:=w.at_ i x gs[i] D (by simp)
  have W:=A gs[i] (List.getElem_mem k)
  refine aW (by grind) (aD (aU (enc:=Sl.v) (x:=s1) (j:=0) e 1 rfl rfl ?_))
  refine Rw.kV e ((K.ext q).ext e.base) (by omega) λc S r=>iW r λy t M r=>dc (j:=0) r 1 rfl rfl ?_
  refine F0 (enc:=Sl.v) (l:=[c]) r rfl rfl λE T u=>dc (j:=0) u 2 rfl rfl ?_
  refine pe (l:=f) (ys:=[c]) u 3 rfl (u.list (enc:=Sl.v) 1 rfl) (λ_=>rfl) rfl (by rw[g];simp;omega) λn U I=>aD (cU (j:=0) I 2 rfl (by simp) rfl λF J=>?_)
  rw[bK (by omega)]
  refine z k _ _ ⟨rfl,y,n,f++[c],q.trans t,?_,(show aA F (aC y::aS Sl.v E [c]::aJ ln [Sl.v n]::aS Sl.v n (f++[c])::L) from J).aq⟩
  have:=(m.ext t).snoc M
  rw[It.gk (List.getElem?_eq_getElem k),←List.append_assoc]
  exact this
 ·have:i=gs.length:=by grind
  subst this
  refine aD (aU (enc:=Sl.v) (x:=s1) (j:=0) e 1 rfl rfl ?_)
  rw[List.take_length] at m g
  rw[v1.list.bL,g,List.length_append]
  grind
theorem zf {Q:Int->PH->Prop} (h:aA H (aC B::aJ ln [Sl.v s]::aS Sl.v s bl::L)) (hB:ij B bl fs) (a:Q fs.length H):rV (some ln) H Q:=by
 refine aF rfl (aD (aU (enc:=Sl.v) (x:=s) (j:=0) h 1 rfl rfl ?_))
 rw[(h.list (enc:=Sl.v) 2 rfl).bL,hB.len];exact a
theorem PC {b:Bs} {Q:Sl->Bool->PH->Prop} (h:aA H (aC B::aJ ln [Sl.v s]::aS Sl.v s bl::L)) (hB:ij B bl (b::fs)) (l:∀x f a H',Bytes B x b->ij B a fs->aA H' (aC B::aJ ln [Sl.v f]::aS Sl.v f a::L)->Q x true H'):tk (some ln) 0 H Q:=by
 cases bl with
 |nil=>have:=hB.len;simp at this
 |cons x bl=>
  obtain⟨m,n⟩:=hB.tail
  refine aE (aW rfl (zf h hB ?_))
  rw[decide_eq_true (show(0:Int)<((b::fs).length:Int) by simp)]
  refine aF rfl (aD (aU (enc:=Sl.v) (x:=s) (j:=0) h 1 rfl rfl (dm (h.list (enc:=Sl.v) 2 rfl) (by omega) (by simp) λy e=>?_)))
  simp at e;subst e
  have v:dX Sl.v H s (x::bl):=h.get 2 rfl
  refine aD (aU (enc:=Sl.v) (x:=s) (j:=0) h 1 rfl rfl (Wz v λr H1 v1 k1 i=>?_))
  have g:=h.cR (O':=aS Sl.v r bl) 2 rfl v1 (λc d=>.inl (i c d)) λc o d k=>k1 c o d k
  refine aD (cU (j:=0) g 1 rfl (by simp) rfl (by grind))
end
end Li
end
section
namespace Src
open Go Go.Kx KM Rw Wi Fm Li
abbrev nS (S:KM.Sc) (s:Sl):List Value:=[i64 S.view,i64 S.size,i64 S.aQ,i64 S.seq,i64 S.ld,i64 S.done,Sl.v s]
structure tQ (B:PH) (ml:List M5) (l:List nO):Prop where
 len:ml.length=l.length
 at_:∀(i:Nat) (m:M5) (o:nO),ml[i]?=some m->l[i]?=some o->zn B m o/\bP o.data/\o.data.length<=64
theorem tQ.ext {B c:PH} {ml:List M5} {l:List nO} (h:tQ B ml l) (x:Ext B c):tQ c ml l:=⟨h.len,λi a b d e=>⟨(h.at_ i a b d e).1.ext x,(h.at_ i a b d e).2⟩⟩
theorem tQ.snoc {B:PH} {ml:List M5} {l:List nO} (h:tQ B ml l) {m:M5} {o:nO} (f:zn B m o) (e:bP o.data) (d:o.data.length<=64):tQ B (ml++[m]) (l++[o]):=by
 refine⟨by simp[h.len],λi y c b a=>?_⟩
 by_cases hi:i<ml.length
 ·rw[List.getElem?_append_left hi] at b
  rw[List.getElem?_append_left (by rw[←h.len];exact hi)] at a
  exact h.at_ i y c b a
 ·rw[List.getElem?_append_right (by omega)] at b
  rw[List.getElem?_append_right (by rw[←h.len];omega)] at a
  grind
theorem PD (x:M5):(c5 x).length=5:=rfl
theorem cv5 (x:M5):(c5 x).all cg=true:=rfl
structure uJ (S:KM.Sc):Prop where
 view:1<=S.view/\S.view<=2147483647
 size:1<=S.size/\S.size<=16
 aQ:0<=S.aQ/\S.aQ<=2 ^ 30
 done:0<=S.done/\S.done<=S.ld
 ld:S.ld<=S.seq
 seq:S.seq<=2 ^ 30
 len:(S.l.length:Int)=S.seq-S.done
 GP:S.l.length< 400
section
variable {H B:PH} {L R:List Ob} {sc:Addr} {sl:Sl} {ml:List M5} {S:KM.Sc} {o:nO} {m:M5}
theorem fO {view size:Int} {Q:Option Addr->PH->Prop} (h:aA H (aC B::L)) (e:1<=view/\view<=2147483647) (d:1<=size/\size<=16) (c:∀sc H',aA H' (aC B::aJ sc (nS ⟨view,size,0,0,0,0,[]⟩ Sl.nil)::au c5 5 Sl.nil []::L)->Q (some sc) H'):yR view size H Q:=by
 refine aE (aF (by grind) ?_)
 rw[decide_eq_false (show¬2147483647<view by omega)]
 refine aE (aF rfl ?_)
 rw[decide_eq_false (show¬size< 1 by omega)]
 refine aE (aF rfl ?_)
 rw[decide_eq_false (show¬16<size by omega)]
 refine aF rfl (bG h λa H1 b=>c a H1 ?_)
 exact(aA.up (b.Bt (enc:=c5) (sz:=5))).swap
structure ug (S:KM.Sc) (o:nO):Prop where
 may:cx (jJ S.view (S.seq+1) o)=true
 k8:o.kind≠8
 k9:o.kind≠9
 room:S.seq-S.done< 399
 uY:bP o.data
 d64:o.data.length<=64
theorem IG {Q:Int->PH->Prop} (h:aA H (aC B::aJ sc (nS S sl)::au c5 5 sl ml::L)) (ok:uJ S) (y:tQ B ml S.l) (hm:zn B m o) (a:ug S o)
 (I:∀p k g H',Ext B p->tQ p g (S.l++[o])->aA H' (aC p::aJ sc (nS {S with l:=S.l++[o],seq:=S.seq+1} k)::au c5 5 k g::L)->Q 0 H'):jy (some sc) m H Q:=by
 have K:=ok.seq;have hd:=ok.done;have U:=ok.ld;have V:=ok.len;have hf:=ok.GP
 refine bG h λa1 H1 b=>aF rfl (aE (aD (aU (x:=S.view) (j:=0) b 2 rfl rfl (aD (aU (x:=S.seq) (j:=3) b 2 rfl rfl (cQ (x:=m) b rfl rfl ?_))))))
 rw[cK (x:=S.seq+1) (by omega) (by omega)]
 have t:=a.d64
 refine Fm.Nf b (hm.ext b.base) a.uY (by omega) (λ_ _ _ s q M n J D=>?_) (λz=>absurd ⟨a.may,a.k8,a.k9⟩ z)
 refine bG D λf N E=>cF (vs:=f8 (dL (jJ S.view (S.seq+1) o) s)) E rfl rfl λO e=>aF rfl ?_
 refine aD (aU (x:=S.seq) (j:=3) e 3 rfl rfl (aD (aU (x:=S.done) (j:=5) e 3 rfl rfl ?_)))
 rw[cK (x:=S.seq-S.done) (by omega) (by omega)]
 have W:=a.room
 refine aF (by grind) (aU (enc:=Sl.v) (x:=s) (j:=7) e 1 rfl rfl ?_)
 refine cU (j:=4) e 2 rfl (by simp) rfl λA c=>?_
 have c:aA A (aC q::aJ f (f8 (dL (jJ S.view (S.seq+1) o) s))::aJ a1 (c5 (m.1,m.2.1,m.2.2.1,m.2.2.2.1,s))::aJ sc (nS S sl)::au c5 5 sl ml::L):=c
 refine aD (aU (enc:=Sl.v) (x:=sl) (j:=6) c 3 rfl rfl (cE (x:=(m.1,m.2.1,m.2.2.1,m.2.2.2.1,s)) c 2 rfl rfl rfl ?_))
 refine jQ.zg (enc:=c5) (sz:=5) (l:=[(m.1,m.2.1,m.2.2.1,m.2.2.2.1,s)]) c (by simp) rfl λi C r=>dc (j:=6) r 4 rfl rfl ?_
 have v6:bj c5 5 C i [(m.1,m.2.1,m.2.2.1,m.2.2.2.1,s)]:=r.get 1 rfl
 refine uP PD (by decide) r 5 rfl (v6.cells PD (by decide)) v6.len cv5 rfl (by rw[y.len];simp;omega) λd P F=>aD (cU (j:=6) F 4 rfl (by simp) rfl λT w=>?_)
 refine aD (aU (x:=S.seq) (j:=3) w 4 rfl rfl (aD ?_))
 rw[cK (x:=S.seq+1) (by omega) (by omega)]
 refine cU (j:=3) w 4 rfl (by simp) rfl λu G=>?_
 obtain⟨m1,m2,m3,m4,X⟩:=hm
 refine I q d (ml++[(m.1,m.2.1,m.2.2.1,m.2.2.2.1,s)]) u n ((y.ext n).snoc ⟨m1,m2,m3,m4,J⟩ a.uY t) ?_
 exact(show aA u (aC q::au c5 5 i [(m.1,m.2.1,m.2.2.1,m.2.2.2.1,s)]::aJ f (f8 (dL (jJ S.view (S.seq+1) o) s))::aJ a1 (c5 (m.1,m.2.1,m.2.2.1,m.2.2.2.1,s))::aJ sc (nS {S with l:=S.l++[o],seq:=S.seq+1} d)::au c5 5 d (ml++[(m.1,m.2.1,m.2.2.1,m.2.2.2.1,s)])::L) from G).aq.aq.aq
theorem tr {b:Int} {data:Bs} {p:Sl} {Q:Int->PH->Prop} (h:aA H (aC B::aJ sc (nS S sl)::au c5 5 sl ml::L)) (ok:uJ S) (e:tQ B ml S.l) (i:Bytes B p data) (g:ug S ⟨1,b,0,0,data⟩)
 (f:∀d c a H',Ext B d->tQ d a (S.l++[⟨1,b,0,0,data⟩])->aA H' (aC d::aJ sc (nS {S with l:=S.l++[⟨1,b,0,0,data⟩],seq:=S.seq+1} c)::au c5 5 c a::L)->Q 0 H'):oP (some sc) b p H Q:=
 IG (m:=(1,b,0,0,p)) h ok e ⟨rfl,rfl,rfl,rfl,i⟩ g f
theorem Rn {Q:Int->PH->Prop} (h:aA H (aC B::aJ sc (nS S sl)::au c5 5 sl ml::L)) (ok:uJ S) (e:tQ B ml S.l) (f:ug S ⟨3,0,0,S.aQ+1,[]⟩)
 (q:∀c b a H',Ext B c->tQ c a (S.l++[⟨3,0,0,S.aQ+1,[]⟩])->aA H' (aC c::aJ sc (nS {S with l:=S.l++[⟨3,0,0,S.aQ+1,[]⟩],seq:=S.seq+1,aQ:=S.aQ+1} b)::au c5 5 b a::L)->Q 0 H'):ow (some sc) H Q:=by
 have he:=ok.aQ
 refine aF rfl (aD (aU (x:=S.aQ) (j:=2) h 1 rfl rfl ?_))
 show jy (some sc) (3,0,0,IntKind.wrap .i64 (S.aQ+1),Sl.nil) H _
 rw[cK (x:=S.aQ+1) (by omega) (by omega)]
 refine IG (m:=(3,0,0,S.aQ+1,Sl.nil)) (o:=⟨3,0,0,S.aQ+1,[]⟩) h ok e ⟨rfl,rfl,rfl,rfl,.nil⟩ f λp k i H1 n g d=>aE (aW rfl (aD (aU (x:=S.aQ) (j:=2) d 1 rfl rfl (aD ?_))))
 rw[cK (x:=S.aQ+1) (by omega) (by omega)]
 exact cU (j:=2) d 1 rfl (by simp) rfl (by grind)
end
end Src
end
end Go.Proofs.YtigjebgjphmkoaaGreat
section
namespace KM
def Gf (S:Sc) (n:Int) (o:nO):List Bs:=if n<=S.ld∨S.ld+S.size<n then[] else[cV (jJ S.view n o)]
theorem Kq (S:Sc):∀(l:List nO) (n:Int) (o:nO),rq S n (l++[o])=rq S n l++Gf S (n+l.length) o
 |[],n,o=>by
  show rq S n [o]=_
  simp only[rq,Gf,List.length_nil,Int.natCast_zero,Int.add_zero,List.nil_append]
 |x::l,n,o=>by
  rw[List.cons_append,rq,rq,Kq S l (n+1) o,List.length_cons,show n+1+(l.length:Int)=n+((l.length+1:Nat):Int) by push_cast;omega]
  grind
end KM
namespace Go.Proofs.YtigjebgjphmkoaaGreat
open Tryz
namespace Src
open Go Go.Kx KM Rw Wi Fm Li
section
variable {H B:PH} {L R:List Ob} {sc c0:Addr} {sl:Sl} {ml:List M5} {S:KM.Sc} {o:nO} {m:M5}
theorem Yv {Q:Value->PH->Prop} (h:aA H (aC B::L)) (b:∀c0 a H',Ext B a->aa a c0 [.pointer (some sc)]->aA H' (aC a::L)->Q (.func (.func 178) #[] #[.pointer (some c0)]) H'):pt (some sc) H Q:=
 gN h (by omega)
theorem UM {γ:Type} {Y:List Value->γ->PH->(Nat->γ->PH->Prop)->Prop} {g0:γ} {Q:Nat->γ->PH->Prop} (J:List nO->γ->PH->List Ob->Prop)
 (h:aA H (aC B::aJ sc (nS S sl)::au c5 5 sl ml::L)) (ok:uJ S) (y:tQ B ml S.l) (P:aa B c0 [.pointer (some sc)])
 (hJ:∀l b z A M,Ext z A->J l b z M->J l b A M) (h0:J [] g0 B L)
 (step:∀pre m o b a M k K,Ext B a->J pre b a M->S.l[pre.length]?=some o->zn a m o->bP o.data->o.data.length<=64->aA k (aC a::aJ sc (nS S sl)::au c5 5 sl ml::M)->
  (∀e t E u,Ext a t->J (pre++[o]) e t E->aA u (aC t::aJ sc (nS S sl)::au c5 5 sl ml::E)->K 0 e u)->Y [i64 (S.done+1+pre.length),.agg (c5 m).toArray] b k K)
 (fin:∀b a M k,Ext B a->J S.l b a M->aA k (aC a::aJ sc (nS S sl)::au c5 5 sl ml::M)->Q 0 b k):qx c0 Y g0 H Q:=by
 have hf:=ok.GP;have hd:=ok.done;have ha:=ok.ld;have hs:=ok.seq
 have r0:=P.ext h.base
 refine az (x:=some sc) r0 (aF rfl (az (x:=some sc) r0 (aD (aU (x:=S.done) (j:=5) h 1 rfl rfl (az (x:=some sc) r0 (aD (aU (enc:=Sl.v) (x:=sl) (j:=6) h 1 rfl rfl ?_)))))))
 refine av S.l.length (λi st Hk=>∃b a M,st=((i:Int),(0,b))/\Ext B a/\J (S.l.take i) b a M/\aA Hk (aC a::aJ sc (nS S sl)::au c5 5 sl ml::M)) ⟨g0,B,L,rfl,.refl _,h0,h⟩ ?_
 rintro i st H1 again hi ⟨b,a,M,rfl,n,hj,G⟩ N
 have v1:bj c5 5 H1 sl ml:=G.get 2 rfl
 rw[v1.bL,y.len]
 refine aM (λc1=>?_) (λc1=>?_)
 ·have d:i<S.l.length:=by grind
  have ac:i<ml.length:=by rw[y.len];exact d
  refine su (v1.lX PD) (by omega) (by simp;omega) λab m hm T=>⟨m,T,?_⟩
  simp only[Int.toNat_natCast] at hm
  obtain⟨V,O,I⟩:=y.at_ i m S.l[i] hm (List.getElem?_eq_getElem d)
  have c:=V.ext n
  refine bG G λF k h2=>cF (vs:=c5 m) h2 rfl rfl λu w=>ak (en:=Sl.v) (x:=m.2.2.2.2) w rfl ?_
  refine Rw.kV w (c.2.2.2.2.ext w.base) (by omega) λq H4 h4=>iW h4 λC p hy h5=>xP h5 (by simp) rfl λD r=>?_
  have r:aA D (aC C::aJ F (c5 (m.1,m.2.1,m.2.2.1,m.2.2.2.1,q))::aJ sc (nS S sl)::au c5 5 sl ml::M):=r
  refine cQ (x:=(m.1,m.2.1,m.2.2.1,m.2.2.2.1,q)) r rfl rfl ⟨rfl,?_⟩
  rw[cK (x:=S.done+1) (by omega) (by omega),cK (x:=S.done+1+(i:Int)) (by omega) (by omega)]
  have W:(S.l.take i).length=i:=by grind
  have:=step (S.l.take i) (m.1,m.2.1,m.2.2.1,m.2.2.2.1,q) S.l[i] b C M D (λj g H'=>(λf s=>aL (!(f.1==0)) (Q f.1 f.2 s) (again (IntKind.wrap .i64 ((i:Int)+1),f) s)) (j,g) H') (n.trans p) (hJ _ _ _ _ _ p hj) (by rw[W];exact List.getElem?_eq_getElem d) ⟨c.1,c.2.1,c.2.2.1,c.2.2.2.1,hy⟩ O I r.aq λe Z M7 H7 X U h7=>by
   refine aF rfl ?_
   rw[bK (by omega)]
   refine N d _ _ ⟨e,Z,M7,rfl,n.trans (p.trans X),?_,h7⟩
   rw[It.gk (List.getElem?_eq_getElem d)];exact U
  grind
 grind
def Gg (S:KM.Sc):Prop:=∀(i:Nat) (o:nO),S.l[i]?=some o->cx (jJ S.view (S.done+1+(i:Int)) o)=true/\o.kind≠8/\o.kind≠9
theorem rM {Q:Sl->PH->Prop} (h:aA H (aC B::aJ sc (nS S sl)::au c5 5 sl ml::L)) (ok:uJ S) (hO:tQ B ml S.l) (ah:Gg S)
 (hQ:∀q bl c H',Ext B c->cL Sl.v c q bl->ij c bl S.out->aA H' (aC c::aJ sc (nS S sl)::au c5 5 sl ml::L)->Q q H'):pv (some sc) H Q:=by
 have hf:=ok.GP;have hd:=ok.done;have ha:=ok.ld;have hs:=ok.seq;have hz:=ok.size;have ap:=ok.len
 refine gN h λa1 B1 H1 ak r1 U=>bG U λe H2 w=>?_
 refine az (x:=some sc) (r1.ext w.base) (Yv w λc0 B3 H3 O rc p=>?_)
 have p:aA H3 (aC B3::aJ sc (nS S sl)::au c5 5 sl ml::aJ e [Sl.v Sl.nil]::aS Sl.v Sl.nil []::L):=by
  have k:=AB (enc:=Sl.v) p
  exact aA.KO (X:=[aS Sl.v Sl.nil [],aJ e [Sl.v Sl.nil],aJ sc (nS S sl),au c5 5 sl ml]) (Y:=[aJ sc (nS S sl),au c5 5 sl ml,aJ e [Sl.v Sl.nil],aS Sl.v Sl.nil []]) k 4 [2,3,1,0] rfl (by decide) rfl
 have J:=ak.trans O
 refine Ab c0 _ _ _ _ (UM (λpre _ c N=>∃s bl,ij c bl (rq S (S.done+1) pre)/\bl.length<=pre.length/\N=aJ e [Sl.v s]::aS Sl.v s bl::L) p ok (hO.ext J) rc
  (λl _ A' c M x ⟨s,bl,U,w,p⟩=>⟨s,bl,U.ext x,w,p⟩) ⟨Sl.nil,[],.nil,Nat.le_refl _,rfl⟩ ?_ ?_)
 ·rintro pre m o _ B4 M H4 K u ⟨s,bl,hB,af,rfl⟩ ho ag G ao k g
  obtain⟨I,ar,av⟩:=ah _ _ ho
  have aw:pre.length<S.l.length:=(by grind)
  have i:=O.trans u
  have es:=Kq S pre (S.done+1) o
  refine⟨_,m,rfl,bG k λD H5 y=>cF (vs:=c5 m) y rfl rfl λH6 a=>az (x:=some sc) ((r1.ext i).ext a.base) (aD (aU (x:=S.ld) (j:=4) a 2 rfl rfl ?_))⟩
  have ae:∀{c H'} {X:List Ob},aA H' (aC c::aJ D (c5 m)::X)->aA H' (aC c::X):=λh=>h.aq
  generalize hn:S.done+1+(pre.length:Int)=n at es I ⊢
  refine xq (b:=decide (S.ld+S.size<n)) (λkk=>?_) ?_
  ·refine az (x:=some sc) ((r1.ext i).ext a.base) (aD (aU (x:=S.ld) (j:=4) a 2 rfl rfl (az (x:=some sc) ((r1.ext i).ext a.base) (aD (aU (x:=S.size) (j:=1) a 2 rfl rfl ?_)))))
   rw[cK (x:=S.ld+S.size) (by omega) (by omega)];exact kk
  ·refine aM (λc1=>?_) (λc1=>aE ?_)
   ·refine g () B4 _ H6 (.refl _) ⟨s,bl,?_,by simp;omega,rfl⟩ (ae a)
    rw[es,Gf,if_pos (by simpa using c1),List.append_nil];exact hB
   ·refine az (x:=some sc) ((r1.ext i).ext a.base) (aD (aU (x:=S.view) (j:=0) a 2 rfl rfl (cQ (x:=m) a rfl rfl ?_)))
    refine Fm.Nf a (ag.ext a.base) G (by omega) (λ_ _ _ z B7 H7 T ai W=>?_) (by grind)
    refine bG W λab H8 h8=>cF (vs:=f8 (dL (jJ S.view n o) z)) h8 rfl rfl λH9 Z=>cQ (x:=dL (jJ S.view n o) z) Z rfl rfl ?_
    refine Fm.fP (f:=jJ S.view n o) (ai.ext Z.base) G I λd al V=>iW (Z.made V) λA t aa E=>?_
    refine eB (enc:=Sl.v) (x:=s) E 5 rfl (F0 (enc:=Sl.v) (l:=[d]) E rfl rfl λaj am F=>?_)
    refine pe (l:=bl) (ys:=[d]) F 7 rfl (F.list (enc:=Sl.v) 1 rfl) (λ_=>rfl) rfl (by simp;omega) λr an ac=>jF ac 6 rfl rfl λC ad=>?_
    refine g () A _ C (T.trans t) ⟨r,bl++[d],?_,by simp;omega,rfl⟩ (show aA C (aC A::aS Sl.v aj [d]::aJ ab (f8 (dL (jJ S.view n o) z))::aJ D (c5 m)::aJ sc (nS S sl)::au c5 5 sl ml::aJ e [Sl.v r]::aS Sl.v r (bl++[d])::L) from ad).aq.aq.aq
    rw[es,Gf,if_neg (by simpa using c1)]
    exact(hB.ext (T.trans t)).snoc aa
 ·rintro _ B4 M H4 u ⟨s,bl,hB,af,rfl⟩ k
  refine eB (enc:=Sl.v) (x:=s) k 3 rfl (jF k 3 rfl rfl λH5 y=>eB (enc:=Sl.v) (x:=s) y 3 rfl ?_)
  have a:=aA.KO (X:=[aJ sc (nS S sl),au c5 5 sl ml,aJ e [Sl.v s],aS Sl.v s bl]) (Y:=[aS Sl.v s bl,aJ e [Sl.v s],aJ sc (nS S sl),au c5 5 sl ml]) y 4 [3,2,0,1] rfl (by decide) rfl
  exact iW a λB6 P hv W=>hQ s bl B6 H5 (J.trans (u.trans P)) hv (hB.ext P) W.aq
end
end Src
end Go.Proofs.YtigjebgjphmkoaaGreat
end
namespace Go.Proofs.YtigjebgjphmkoaaGreat
open Tryz
section
namespace Src
open Go Go.Kx KM Rw Wi Fm Li
theorem aAK {α:Type} {enc:α->List Value} {sz:Nat} {H:PH} {s:Sl} {l:List α} {lo:Nat} {K:Sl->Prop} (h:fM enc sz H s l) (k:lo<=l.length) (c:∀r,fM enc sz H r (l.drop lo)->K r):kv s sz lo (s.len:Int) K:=by
 have n:=h.1
 have e:=h.2.1
 refine⟨_,⟨by omega,by omega,by omega,e,rfl⟩,c _ ⟨?_,?_,?_⟩⟩
 ·simp only[Sl.cut,List.length_drop,Int.toNat_natCast];omega
 ·simp only[Sl.cut,Int.toNat_natCast];omega
 ·intro i x hi
  rw[List.getElem?_drop] at hi
  obtain⟨a,d,b,g⟩:=h.2.2 _ _ hi
  have j:=(List.getElem?_eq_some_iff.1 hi).1
  refine⟨a.add (lo*sz),?_,?_,?_⟩
  ·simp only[Sl.cut,d,Int.toNat_natCast]
   grind
  ·rw[vC _ _ b]
  ·rw[TA _ _ _ b,←Nat.add_mul];exact g
section
variable {H B:PH} {L R:List Ob} {sc c0:Addr} {sl:Sl} {ml:List M5} {S:KM.Sc} {o:nO} {m:M5} {f:oW}
theorem tQ.drop {B:PH} {ml:List M5} {l:List nO} (h:tQ B ml l) (n:Nat):tQ B (ml.drop n) (l.drop n):=
 ⟨by simp[h.len],λi m o hm a=>h.at_ (n+i) m o (by grind) (by grind)⟩
theorem aAL {s:Sl} {l:List M5} {Q:Sl->PH->Prop} (b:fM c5 5 H s l) (c:l.length<=1000) (a:∀r H',aA H' [aC H,au c5 5 r l]->Q r H'):lR s H Q:=
 TP PD (by decide) b cv5 rfl (by omega) a
def aAJ (S:KM.Sc) (f:oW):KM.Sc:={S with l:=S.l.drop (max S.done f.done-S.done).toNat,done:=max S.done f.done,ld:=max (max S.done f.done) f.seq}
theorem kq {p:Sl} {b:Bs} {Q:Int->PH->Prop} (h:aA H (aC B::aJ sc (nS S sl)::au c5 5 sl ml::L)) (ok:uJ S) (t:tQ B ml S.l)
 (Z:Bytes B p b) (T:Af b=some f) (V:25<=b.length) (C:b.length<=65536) (U:bP b) (hk:f.kind=8) (hv:f.view=S.view) (ae:f.seq<=S.seq) (ab:f.done<=S.seq)
 (A:∀k g e H',Ext B k->tQ k e (aAJ S f).l->aA H' (aC k::aJ sc (nS (aAJ S f) g)::au c5 5 g e::L)->Q 0 H'):pB (some sc) p H Q:=by
 have hf:=ok.GP;have hd:=ok.done;have ha:=ok.ld;have hs:=ok.seq;have ac:=ok.len
 refine aF rfl (Fm.hG h Z V C U (λf' d s n H1 i ad aa W J=>?_) (by grind))
 rw[T] at d
 have I:=Option.some.inj d
 subst I
 refine bG J λr H2 K=>cF (vs:=f8 (dL f s)) K rfl rfl λF c=>aF rfl ?_
 refine ak (x:=f.kind) c rfl (aF (by rw[hk];rfl) (ak (x:=f.view) c rfl (aD (aU (x:=S.view) (j:=0) c 2 rfl rfl (aF (by rw[hv];simp) ?_)))))
 refine ak (x:=f.seq) c rfl (aD (aU (x:=S.seq) (j:=3) c 2 rfl rfl (aF (by grind) ?_)))
 refine aD (aU (x:=S.done) (j:=5) c 2 rfl rfl (ak (x:=f.done) c rfl (aD (aU (enc:=Sl.v) (x:=sl) (j:=6) c 2 rfl rfl (aD (aU (x:=S.done) (j:=5) c 2 rfl rfl ?_))))))
 have e1:(if S.done<f.done then f.done else S.done)=max S.done f.done:=by omega
 rw[e1]
 have E:S.done<=max S.done f.done/\max S.done f.done<=S.seq:=by omega
 generalize D:max S.done f.done=md at E ⊢
 rw[cK (x:=md-S.done) (by omega) (by omega)]
 have v3:bj c5 5 F sl ml:=c.get 3 rfl
 have en:md-S.done=((md-S.done).toNat:Int):=by omega
 rw[en]
 refine aAK (v3.lX PD) (by rw[t.len];omega) λaf hr=>?_
 refine aAL hr (by simp;have:=t.len;omega) λa H4 w=>?_
 have M:=c.made w
 refine aD (cU (j:=6) M 3 rfl (by simp) rfl λH5 y=>aU (x:=f.seq) (j:=2) y 2 rfl rfl (aD (cU (j:=5) y 3 rfl (by simp) rfl λH6 z=>dc (j:=2) z 2 rfl rfl (aD ?_))))
 have e2:(if md<f.seq then f.seq else md)=max md f.seq:=by omega
 rw[e2]
 refine cU (j:=4) z 3 rfl (by simp) rfl λq N=>?_
 have G:aAJ S f={S with l:=S.l.drop (md-S.done).toNat,done:=md,ld:=max md f.seq}:=by unfold aAJ;rw[D]
 rw[G] at A
 have O:aA q (aC n::aJ r (f8 (dL f s))::aJ sc (nS {S with l:=S.l.drop (md-S.done).toNat,done:=md,ld:=max md f.seq} a)::au c5 5 sl ml::au c5 5 a (ml.drop (md-S.done).toNat)::L):=
  aA.KO (X:=[au c5 5 a (ml.drop (md-S.done).toNat),aJ r (f8 (dL f s)),aJ sc (nS {S with l:=S.l.drop (md-S.done).toNat,done:=md,ld:=max md f.seq} a),au c5 5 sl ml]) (Y:=[aJ r (f8 (dL f s)),aJ sc (nS {S with l:=S.l.drop (md-S.done).toNat,done:=md,ld:=max md f.seq} a),au c5 5 sl ml,au c5 5 a (ml.drop (md-S.done).toNat)]) N 4 [1,2,3,0] rfl (by decide) rfl
 have P:=O.aq
 have u:aA q (aC n::au c5 5 sl ml::aJ sc (nS {S with l:=S.l.drop (md-S.done).toNat,done:=md,ld:=max md f.seq} a)::au c5 5 a (ml.drop (md-S.done).toNat)::L):=P.swap
 exact A n a (ml.drop (md-S.done).toNat) q i ((t.ext i).drop _) u.aq
end
end Src
end
section
namespace Ma
open Go Go.Kx KM Rw Wi Fm Li Src
section
variable {H B:PH} {L R:List Ob}
theorem Nh (x:Int) {n:Int} (c:0<n):(Int.tmod x n=x%n∨Int.tmod x n+n=x%n)/\0<=x%n/\x%n<n:=by
 have d:=Int.tmod_eq_emod (a:=x) (b:=n)
 have e:=Int.emod_nonneg x (by omega:n≠0)
 have f:=Int.emod_lt_of_pos x c
 grind
theorem Kr {x m:Int} {Q:Int->PH->Prop} (hm:0<m) (c:m< 2 ^ 62) (b:Q (x%m) H):om x m H Q:=by
 obtain⟨h,f,g⟩:=Nh x hm
 refine⟨by omega,aE (aM (λa=>?_) (λa=>?_))⟩
 ·have d:x.tmod m< 0:=by simpa using a
  have e:x.tmod m+m=x%m:=by omega
  rw[cK (by omega) (by omega),e];exact b
 grind
theorem rL {x m:Int} {Q:Int->PH->Prop} (hm:0<m) (a:m< 2 ^ 62) (b:Q (x%m) H):gq x m H Q:=Kr hm a b
theorem IH {x n:Int} {Q:Int->PH->Prop} (b:0<n) (d:n< 2 ^ 60) (h:Q (x%n) H):uV x n H Q:=by
 obtain⟨c,f,g⟩:=Nh x b
 refine⟨by omega,by omega,?_⟩
 have a:0<=Int.tmod x n+n/\Int.tmod x n+n< 2*n:=by omega
 rw[cK (x:=Int.tmod x n+n) (by omega) (by omega),Int.tmod_eq_emod_of_nonneg a.1]
 have e:(Int.tmod x n+n)%n=x%n:=by
  rcases c with e|e
  ·simp_all
  simp_all
 grind
theorem tR {n e:Int} {Q:Int×Int->PH->Prop} (h:aA H (aC B::L)) (i:∀H',aA H' (aC B::L)->Q (e,if e=0 then n else 0) H'):fF n e H Q:=by
 refine bG h λa1 H1 g=>aE ?_
 have fin:∀v,v=(if e=0 then n else 0)->aV H1 a1 [i64 e,i64 v] λa=>aT (λ(x:(Int×Int))=>[i64 x.1,i64 x.2]) a a1 2 λd=>Q d a:=λv j=>by
  refine cF (vs:=[i64 e,i64 v]) g rfl rfl λf b=>cQ (x:=(e,v)) b rfl rfl ?_
  rw[j];exact i f b.aq
 refine aM (λc=>fin 0 ?_) (λc=>fin n ?_)
 ·grind
 grind
def pK (x:Int) (k:Nat):Bs:=(List.range k).map λ(i:Nat)=>(x% 256+(i:Int))% 256
theorem II (x:Int) {k:Nat} (hk:k< 64):(pK x k++List.replicate (64-k) 0).set k ((x% 256+(k:Int))% 256)=pK x (k+1)++List.replicate (64-(k+1)) 0:=by
 have b:(pK x k).length=k:=by simp[pK]
 obtain⟨m,em⟩:∃m,64-k=m+1:=⟨63-k,by omega⟩
 have a:64-(k+1)=m:=by omega
 rw[em,a,List.set_append_right _ _ (by omega),b,Nat.sub_self,List.replicate_succ,List.set_cons_zero]
 simp[pK,List.range_succ]
theorem CW (x:Int):bP (iJ x):=λy a=>by
 simp only[iJ,List.mem_map] at a
 omega
theorem JJ {x:Int}:IntKind.wrap .u8 x=x% 256:=by
 rfl
theorem Ro {x:Int} {Q:Sl->PH->Prop} (h:aA H (aC B::L)) (p:∀r d H',Ext B d->Bytes d r (iJ x)->aA H' (aC d::L)->Q r H'):wC x H Q:=by
 refine Ez (enc:=u8) (x:=(0:Int)) h (by omega) (by decide) λr H1 f=>?_
 have f:aA H1 (aC B::aS u8 r (pK x 0++List.replicate (64- 0) 0)::L):=f
 refine av 64 (λk st l=>st=(k:Int)/\aA l (aC B::aS u8 r (pK x k++List.replicate (64-k) 0)::L)) ⟨rfl,f⟩ ?_
 rintro k st n again hk ⟨rfl,a⟩ i
 have j:(r.len:Int)=64:=by
  rw[(a.list (enc:=u8) 1 rfl).bL];simp[pK];omega
 rw[j]
 refine aM (λc=>?_) (λc=>?_)
 ·have b:k< 64:=by grind
  refine IH (by decide) (by decide) ?_
  have q:=(by omega)
  have m:=(by omega)
  rw[cK (x:=x% 256+(k:Int)) (by omega) (by omega),JJ]
  refine uk a 1 rfl (by omega) (by simp[pK];omega) rfl λo g=>?_
  rw[bK (by omega)]
  refine i b _ _ ⟨rfl,?_⟩
  rw[Int.toNat_natCast,II x b] at g
  exact g
 ·have:k=64:=by grind
  subst this
  have e:pK x 64++List.replicate (64- 64) 0=iJ x:=by rfl
  rw[e] at a
  exact iW a (by grind)
theorem Gh {x:Int} {Q:Sl->PH->Prop} (h:aA H (aC B::L)) (o:∀r b H',Ext B b->Bytes b r (iJ x)->aA H' (aC b::L)->Q r H'):my x H Q:=by
 refine Ez (enc:=u8) (x:=(0:Int)) h (by omega) (by decide) λr H1 d=>?_
 have d:aA H1 (aC B::aS u8 r (pK x 0++List.replicate (64- 0) 0)::L):=d
 refine av 64 (λk st j=>st=(k:Int)/\aA j (aC B::aS u8 r (pK x k++List.replicate (64-k) 0)::L)) ⟨rfl,d⟩ ?_
 rintro k st m again hk ⟨rfl,f⟩ i
 refine aM (λc=>?_) (λc=>?_)
 ·have a:k< 64:=by grind
  refine rL (by decide) (by decide) ?_
  have p:=(by omega)
  have l:=(by omega)
  rw[cK (x:=x% 256+(k:Int)) (by omega) (by omega)]
  refine rL (by decide) (by decide) ?_
  rw[JJ,Int.emod_emod_of_dvd _ (Int.dvd_refl 256)]
  refine uk f 1 rfl (by omega) (by simp[pK];omega) rfl λn g=>?_
  rw[bK (by omega)]
  refine i a _ _ ⟨rfl,?_⟩
  rw[Int.toNat_natCast,II x a] at g
  exact g
 ·have:k=64:=by grind
  subst this
  have e:pK x 64++List.replicate (64- 64) 0=iJ x:=by rfl
  rw[e] at f
  exact iW f (by grind)
theorem Ef {p q:Sl} {x y:Bs} {Q:Bool->PH->Prop} (d:Bytes H p x) (f:Bytes H q y) (o:x.length< 2 ^ 40) (n:Q (x==y) H):mD p q H Q:=by
 refine aM (λc=>?_) (λc=>?_)
 ·rw[d.bL,f.bL] at c
  have e:(x==y)=false:=by
   grind
  grind
 ·rw[d.bL,f.bL] at c
  have m:x.length=y.length:=by grind
  refine av x.length (λk st l=>st=(k:Int)/\l=H/\x.take k=y.take k) (by grind) ?_
  rintro k st H1 again hk ⟨rfl,rfl,he⟩ h
  rw[d.bL]
  refine aM (λc2=>?_) (λc2=>?_)
  ·have j:k<x.length:=by grind
   refine dm d (by omega) (by omega) λa g=>dm f (by omega) (by omega) λb i=>?_
   rw[Int.toNat_natCast] at g i
   refine aM (λc3=>?_) (λc3=>?_)
   ·have e:(x==y)=false:=by
     grind
    grind
   ·have e:a=b:=by grind
    subst e
    rw[bK (by omega)]
    exact h j _ _ ⟨rfl,rfl,by rw[It.gk g,It.gk i,he]⟩
  grind
end
end Ma
end
section
namespace Ma
open Go Go.Kx KM Rw Wi Fm Li Src So Re
structure uh where
 F:Fr
 ma:Addr
 sc:Addr
 up:Addr
 dn:Addr
 size:Int
structure vh where
 W:Wt
 sl:Sl
 ml:List M5
 us:Sl
 ub:List Sl
 ds:Sl
 db:List Sl
structure qh where
 S:KM.St
 V:WM
 s:KM.Sc
 up:List Bs
 dn:List Bs
abbrev Rp (M:uh):List Value:=[i64 M.size,.pointer (some M.F.X.da),.pointer (some M.F.fa),.pointer (some M.sc),.pointer (some M.up),.pointer (some M.dn)]
abbrev m1 (A:Ds.DA) (M:uh) (w:vh) (x:qh):List Ob:=oX A M.F.X w.W x.S++[gK M.F.va M.F.vs x.V,aJ M.ma (Rp M)]
abbrev m2 (M:uh) (w:vh) (x:qh):List Ob:=[aJ M.sc (nS x.s w.sl),au c5 5 w.sl w.ml]
abbrev m3 (M:uh) (w:vh):List Ob:=[aJ M.up [Sl.v w.us],aS Sl.v w.us w.ub]
abbrev m4 (M:uh) (w:vh):List Ob:=[aJ M.dn [Sl.v w.ds],aS Sl.v w.ds w.db]
abbrev fy (A:Ds.DA) (M:uh) (w:vh) (x:qh) (R:List Ob):List Ob:=m1 A M w x++(m2 M w x++(m3 M w++(m4 M w++R)))
structure ui (B:PH) (M:uh) (w:vh) (x:qh):Prop where
 fr:pJ B M.F x.S.c
 wt:gJ B w.W x.S
 ops:tQ B w.ml x.s.l
 up:ij B w.ub x.up
 dn:ij B w.db x.dn
 sz:M.size=(x.V.size:Int)
theorem ui.ext {B a:PH} {M:uh} {w:vh} {x:qh} (h:ui B M w x) (e:Ext B a):ui a M w x:=⟨h.fr.ext e,h.wt.ext e,h.ops.ext e,h.up.ext e,h.dn.ext e,h.sz⟩
section
variable {H B:PH} {L R:List Ob} {A:Ds.DA} {M:uh} {w:vh} {x:qh} {k:Nat}
theorem Ks (h:aA H (aC B::fy A M w x R)):aA H (aC B::(m2 M w x++(m1 A M w x++(m3 M w++(m4 M w++R))))):=h.pull
theorem Kt (h:aA H (aC B::(m2 M w x++(m1 A M w x++(m3 M w++(m4 M w++R)))))):aA H (aC B::fy A M w x R):=h.pull
theorem Vo (h:aA H (aC B::fy A M w x R)):aA H (aC B::(m3 M w++((m1 A M w x++m2 M w x)++(m4 M w++R)))):=aA.pull (X:=m1 A M w x++m2 M w x) (by grind)
theorem Vp (h:aA H (aC B::(m3 M w++((m1 A M w x++m2 M w x)++(m4 M w++R))))):aA H (aC B::fy A M w x R):=by
 have:=h.pull
 grind
theorem aAA (h:aA H (aC B::fy A M w x R)):aA H (aC B::(m4 M w++((m1 A M w x++(m2 M w x++m3 M w))++R))):=aA.pull (X:=m1 A M w x++(m2 M w x++m3 M w)) (by grind)
theorem aAB (h:aA H (aC B::(m4 M w++((m1 A M w x++(m2 M w x++m3 M w))++R)))):aA H (aC B::fy A M w x R):=by
 have:=h.pull
 grind
theorem JK:fy A M w x R=(m1 A M w x++m2 M w x++m3 M w++m4 M w)++R:=by rfl
theorem tmp {O:Ob} (h:aA H (aC B::O::fy A M w x R)):aA H (aC B::fy A M w x (O::R)):=by
 rw[JK] at h ⊢; exact h.ua
theorem PE {O:Ob} (h:aA H (aC B::fy A M w x (O::R))):aA H (aC B::fy A M w x R):=by
 rw[JK] at h ⊢; exact h.kG
theorem rM {a:Addr} {v:List Value} {Q:Int×Int->PH->Prop} {y:Int×Int} (h:aA H (aC B::fy A M w x (aJ a v::R))) (g:v.length=2) (f:∀H',aA H' (aC B::fy A M w x R)->Q y H'):
 aV H a [i64 y.1,i64 y.2] λb=>aT (λ(x:(Int×Int))=>[i64 x.1,i64 x.2]) b a 2 λd=>Q d b:=
 fb (vs:=[i64 y.1,i64 y.2]) h 20 rfl (by simp[g]) rfl λe c=>cE (x:=y) c 20 rfl rfl rfl (f e (PE (O:=aJ a [i64 y.1,i64 y.2]) c))
abbrev e5 (e:Int×Int×Int×Int×Sl):List Value:=[i64 e.1,i64 e.2.1,i64 e.2.2.1,i64 e.2.2.2.1,Sl.v e.2.2.2.2]
theorem UN {b y:Int} {Q:Int×Int->Bool->PH->Prop} (h:aA H (aC B::fy A M w x R)) (hB:ui B M w x) (ok:uJ x.s) (G:ug x.s ⟨1,b,0,0,iJ y⟩)
 (F:∀w' i H',Ext B i->ui i M w' {x with s:={x.s with l:=x.s.l++[⟨1,b,0,0,iJ y⟩],seq:=x.s.seq+1}}->aA H' (aC i::fy A M w' {x with s:={x.s with l:=x.s.l++[⟨1,b,0,0,iJ y⟩],seq:=x.s.seq+1}} R)->Q (0,0) true H'):fR (some M.ma) (1,b,0,y,Sl.nil) H Q:=by
 refine gN h λa1 J H1 g r1 z=>bG z λv N c=>?_
 have c:=tmp c
 refine aX (x:=(1:Int)) (r1.ext c.base) rfl (aW rfl (aD (aU (x:=some M.sc) (j:=3) c 13 rfl rfl (aX (x:=b) (r1.ext c.base) rfl (aX (x:=y) (r1.ext c.base) rfl ?_)))))
 refine Ro c λr K O f I m=>dE ((r1.ext f).ext m.base) rfl (dc (j:=3) m 13 rfl rfl ?_)
 refine Src.tr (Ks m) ok (hB.ops.ext (g.trans f)) I G λo e d t q E C=>?_
 have p:=g.trans (f.trans q)
 have n:aA t (aC o::fy A M {w with sl:=e,ml:=d} {x with s:={x.s with l:=x.s.l++[⟨1,b,0,0,iJ y⟩],seq:=x.s.seq+1}} (aJ v [i64 0,i64 0]::R)):=Kt (w:={w with sl:=e,ml:=d}) (x:={x with s:={x.s with l:=x.s.l++[⟨1,b,0,0,iJ y⟩],seq:=x.s.seq+1}}) C
 refine tR n λP n=>rM n rfl λu D=>F {w with sl:=e,ml:=d} o u p ?_ D
 have a:=hB.ext p
 exact⟨a.fr,a.wt,E,a.up,a.dn,a.sz⟩
theorem UO {b c d:Int} {q:Sl} {Q:Int×Int->Bool->PH->Prop} (h:aA H (aC B::fy A M w x R)) (hB:ui B M w x) (ok:uJ x.s) (F:ug x.s ⟨3,0,0,x.s.aQ+1,[]⟩)
 (E:∀w' m H',Ext B m->ui m M w' {x with s:={x.s with l:=x.s.l++[⟨3,0,0,x.s.aQ+1,[]⟩],seq:=x.s.seq+1,aQ:=x.s.aQ+1}}->aA H' (aC m::fy A M w' {x with s:={x.s with l:=x.s.l++[⟨3,0,0,x.s.aQ+1,[]⟩],seq:=x.s.seq+1,aQ:=x.s.aQ+1}} R)->Q (0,0) true H'):fR (some M.ma) (3,b,c,d,q) H Q:=by
 refine gN h λa1 G H1 i r1 y=>bG y λv I e=>?_
 have e:=tmp e
 refine aX (x:=(3:Int)) (r1.ext e.base) rfl (aF rfl (aF rfl (aW rfl (aD (aU (x:=some M.sc) (j:=3) e 13 rfl rfl ?_)))))
 refine Src.Rn (Ks e) ok (hB.ops.ext i) F λo g f t r D z=>?_
 have p:=i.trans r
 have n:aA t (aC o::fy A M {w with sl:=g,ml:=f} {x with s:={x.s with l:=x.s.l++[⟨3,0,0,x.s.aQ+1,[]⟩],seq:=x.s.seq+1,aQ:=x.s.aQ+1}} (aJ v [i64 0,i64 0]::R)):=Kt (w:={w with sl:=g,ml:=f}) (x:={x with s:={x.s with l:=x.s.l++[⟨3,0,0,x.s.aQ+1,[]⟩],seq:=x.s.seq+1,aQ:=x.s.aQ+1}}) z
 refine tR n λJ n=>rM n rfl λu C=>E {w with sl:=g,ml:=f} o u p ?_ C
 have a:=hB.ext p
 exact⟨a.fr,a.wt,D,a.up,a.dn,a.sz⟩
theorem UP {b c d:Int} {q:Sl} {Q:Int×Int->Bool->PH->Prop} (h:aA H (aC B::fy A M w x R)) (hB:ui B M w x) (ok:uJ x.s) (T:Gg x.s) (t:x.up.length+x.s.out.length<=64) (u:∀f∈x.s.out,f.length<=2 ^ 20)
 (O:∀w' o H',Ext B o->ui o M w' {x with up:=x.up++x.s.out}->aA H' (aC o::fy A M w' {x with up:=x.up++x.s.out} R)->Q ((0:Int),((x.up.length+x.s.out.length:Nat):Int)) true H'):fR (some M.ma) (4,b,c,d,q) H Q:=by
 refine gN h λa1 U H1 l r1 F=>bG F λr V e=>?_
 have e:=tmp e
 refine aX (x:=(4:Int)) (r1.ext e.base) rfl (aF rfl (aF rfl (aF rfl (aW rfl (aD (aU (x:=some M.up) (j:=4) e 13 rfl rfl (aD (aU (x:=some M.sc) (j:=3) e 13 rfl rfl ?_))))))))
 refine Src.rM (Ks e) ok (hB.ops.ext l) T λq bl z C n S N m=>?_
 have m:aA C (aC z::fy A M w x (aJ r [i64 0,i64 0]::R)):=Kt m
 refine dc (j:=4) m 13 rfl rfl ?_
 refine Li.IF (Vo m) (hB.up.ext (l.trans n)) S N t u λp i g D y P G=>?_
 have v:=l.trans (n.trans y)
 have I:aA D (aC p::fy A M {w with us:=i,ub:=g} {x with up:=x.up++x.s.out} (aJ r [i64 0,i64 0]::R)):=Vp (w:={w with us:=i,ub:=g}) (x:={x with up:=x.up++x.s.out}) G
 refine tR I λW J=>rM J rfl λE K=>O {w with us:=i,ub:=g} p E v ?_ K
 have a:=hB.ext v
 exact⟨a.fr,a.wt,a.ops,P,a.dn,a.sz⟩
end
end Ma
end
section
namespace Ma
open Go Go.Kx KM Rw Wi Fm Li Src So Re
section
variable {H B:PH} {L R:List Ob} {A:Ds.DA} {M:uh} {w:vh} {x:qh} {k:Nat} {f:oW} {b:Bs} {fs:List Bs}
theorem PF {ln:Addr} {s:Sl} {bl:List Sl} {Q:Sl->Bool->PH->Prop} (h:aA H (aC B::aJ ln [Sl.v s]::aS Sl.v s bl::L)) (hB:ij B bl (b::fs)) (g:fs.length< 2 ^ 30)
 (d:∀y c a H',Bytes B y b->ij B a fs->aA H' (aC B::aJ ln [Sl.v c]::aS Sl.v c a::L)->Q y true H'):rW (some ln) 0 H Q:=by
 refine zf h hB ?_
 have e:(if((b::fs).length:Int)< 1 then 1 else((b::fs).length:Int))=((b::fs).length:Int):=rfl
 rw[e]
 refine IH (by simp) (by grind) ?_
 rw[Int.zero_emod]
 exact PC h hB d
theorem CX (f:oW):25<=(cV f).length:=by rw[cV,ko,rK];omega
structure BS (k:Nat) (x:qh) (f:oW) (b:Bs):Prop where
 ok:bB k x.S
 hk:k+60< 2 ^ 28
 num:uz x.S
 sq:x.S.n.seq+1<=2 ^ 30
 ep:x.S.n.aQ+1<=2 ^ 30
 dec:Af b=some f
 l1:25<=b.length
 l2:b.length<=65536
 uY:bP b
 view:f.view=x.S.n.view
 seq:f.seq=x.V.next
 none_:∀i,x.V.f i=none
 size:0<x.V.size
 next:x.V.next+1< 2 ^ 40
 op:Da x.S (fT f)
abbrev FL (x:qh) (f:oW):qh:={x with S:=(x.S.op (fT f)).1,V:=⟨x.V.size,x.V.next+1,λ_=>none⟩}
theorem vA (h:aA H (aC B::fy A M w x R)):aA H (aC B::qg A M.F w.W x.S x.V (aJ M.ma (Rp M)::(m2 M w x++(m3 M w++(m4 M w++R))))):=h
theorem kq {Q:Int×Int->PH->Prop} (h:aA H (aC B::fy A M w x R)) (hA:A.a=M.F.X.da) (hB:ui B M w x) (C:BS k x f b) (hu:x.up=b::fs) (ac:x.dn.length+1<=64) (am:fs.length< 2 ^ 30)
 (hQ:∀V w' P H',V.a=M.F.X.da->Ext B P->ui P M w' {FL x f with up:=fs,dn:=x.dn++[cV (x.S.op (fT f)).1.nQ]}->aA H' (aC P::fy V M w' {FL x f with up:=fs,dn:=x.dn++[cV (x.S.op (fT f)).1.nQ]} R)->Q (0,(x.S.op (fT f)).1.n.seq) H'):nJ (some M.ma) 0 H Q:=by
 obtain⟨ok,hk,hn,ak,ai,hD,hl,aj,ah,hv,hs,hE,al,an,ho⟩:=C
 obtain⟨p1,p2,p3,p4,p5,p6,p7,p8,p9,ap,aq⟩:=BR ok hk hn ho
 refine bG h λa1 H1 z=>?_
 have z:=tmp z
 refine aD (aU (x:=some M.up) (j:=4) z 13 rfl rfl ?_)
 have J:=hB.up
 rw[hu] at J
 refine PF (Vo z) J am λy e d H2 G hU h2=>aF rfl ?_
 have D:aA H2 (aC B::fy A M {w with us:=e,ub:=d} {x with up:=fs} (aJ a1 [i64 0,i64 0]::R)):=Vp (w:={w with us:=e,ub:=d}) (x:={x with up:=fs}) h2
 refine aD (aU (x:=some M.F.fa) (j:=2) D 13 rfl rfl (aF rfl (aD (aU (x:=some M.F.fa) (j:=2) D 13 rfl rfl ?_))))
 refine CV hB.fr D.base (Re.kq (vA D) hA hB.fr hB.wt ok hk hn ak ai G hD hl aj ah hv hs hE al an ho λu s q B4 H4 ab K af hq E=>?_)
 have E:aA H4 (aC B4::fy u M {w with W:=s,us:=e,ub:=d} {FL x f with up:=fs} (aJ a1 [i64 0,i64 0]::R)):=E
 have ao:0<(q.len:Int):=by
  rw[hq.bL]
  exact Int.ofNat_lt.2 (Nat.lt_of_lt_of_le (by decide) (CX (x.S.op (fT f)).1.nQ))
 have ad:=hB.ext K
 refine aE (aW (by grind) (aD (aU (x:=some M.dn) (j:=5) E 13 rfl rfl ?_)))
 refine rY (enc:=Sl.v) (l:=[q]) E rfl rfl λar B5 H5 r hr h5=>?_
 have ag:(cV (x.S.op (fT f)).1.nQ).length<=2 ^ 20:=by rw[cV,ko,rK];show 21+0+4<=_;omega
 refine Li.IF (gs:=[cV (x.S.op (fT f)).1.nQ]) (aAA h5) (ad.dn.ext r) hr ⟨rfl,λi y c G hc=>?_⟩ ac (λg hg=>by have:=List.mem_singleton.1 hg;subst this;exact ag) λY p o H6 N ae h6=>?_
 ·have e0:i=0:=by grind
  subst e0
  simp at G hc;subst G;subst hc
  exact hq.ext r
 have U:=K.trans (r.trans N)
 have h7:aA H6 (aC Y::fy u M {w with W:=s,us:=e,ub:=d,ds:=p,db:=o} {FL x f with up:=fs,dn:=x.dn++[cV (x.S.op (fT f)).1.nQ]} (aJ a1 [i64 0,i64 0]::R)):=aAB (w:={w with W:=s,us:=e,ub:=d,ds:=p,db:=o}) (x:={FL x f with up:=fs,dn:=x.dn++[cV (x.S.op (fT f)).1.nQ]}) h6
 have t:=hB.ext U
 have hF:pJ Y M.F (x.S.op (fT f)).1.c:=by rw[p3];exact t.fr
 refine aD (aU (x:=some M.F.fa) (j:=2) h7 13 rfl rfl (qZ (vA h7) hF p1 λZ H8 m T=>?_))
 have T:aA H8 (aC Z::fy u M {w with W:=s,us:=e,ub:=d,ds:=p,db:=o} {FL x f with up:=fs,dn:=x.dn++[cV (x.S.op (fT f)).1.nQ]} (aJ a1 [i64 0,i64 0]::R)):=T
 refine tR T λH9 h9=>fb (vs:=[i64 0,i64 (x.S.op (fT f)).1.n.seq]) h9 20 rfl rfl rfl λaa I=>cE (x:=((0:Int),(x.S.op (fT f)).1.n.seq)) I 20 rfl rfl rfl ?_
 refine hQ u {w with W:=s,us:=e,ub:=d,ds:=p,db:=o} Z aa ab (U.trans m) ?_ (PE (O:=aJ a1 [i64 0,i64 (x.S.op (fT f)).1.n.seq]) I)
 exact⟨hF.ext m,af.ext (r.trans (N.trans m)),t.ops.ext m,hU.ext (U.trans m),ae.ext m,t.sz⟩
end
end Ma
end
section
namespace Ma
open Go Go.Kx KM Rw Wi Fm Li Src So Re
abbrev E5:=Int×Int×Int×Int×Sl
def zo (e:E5) (x h:qh) (y:Int×Int):Prop:=∀(A:Ds.DA) (M:uh) (w:vh) (B H:PH) (R:List Ob) (Q:Int×Int->PH->Prop),aA H (aC B::fy A M w x R)->A.a=M.F.X.da->ui B M w x->
 (∀g c w' d H',c.ma=M.ma->g.a=c.F.X.da->Ext B d->ui d c w' h->aA H' (aC d::fy g c w' h R)->Q y H')->iw (some M.ma) e H Q
def Rq (e:E5) (x h:qh) (y:Int×Int):Prop:=∀(A:Ds.DA) (M:uh) (w:vh) (B H:PH) (R:List Ob) (Q:Int×Int->Bool->PH->Prop),aA H (aC B::fy A M w x R)->A.a=M.F.X.da->ui B M w x->
 (∀g c w' d H',c.ma=M.ma->g.a=c.F.X.da->Ext B d->ui d c w' h->aA H' (aC d::fy g c w' h R)->Q y true H')->fR (some M.ma) e H Q
theorem tS {e:E5} {x i:qh} {y:Int×Int} (h:Rq e x i y):zo e x i y:=by
 intro A M w B H R Q D z hB C
 refine gN D λa1 m H1 a r1 t=>bG t λq n c=>aF rfl (iK (enc:=e5) (x:=e) (r1.ext c.base) rfl ?_)
 refine h A M w m n (aJ q [i64 0,i64 0]::R) _ (tmp c) z (hB.ext a) λj p w' l H' r eA E g s=>?_
 refine bG s λF G u=>cF (vs:=[i64 y.1,i64 y.2]) u rfl rfl λI d=>aW rfl (cQ (x:=y) d rfl rfl (rM d.aq rfl λo v=>C j p w' l o r eA (a.trans E) g v))
section
variable {x:qh} {k:Nat} {f:oW} {b:Bs} {fs:List Bs}
theorem IJ {b y:Int} (ok:uJ x.s) (a:ug x.s ⟨1,b,0,0,iJ y⟩):Rq (1,b,0,y,Sl.nil) x {x with s:={x.s with l:=x.s.l++[⟨1,b,0,0,iJ y⟩],seq:=x.s.seq+1}} (0,0):=
 λA M w B H R Q c d hB e=>UN c hB ok a (by grind)
theorem UQ {b c d:Int} {q:Sl} (ok:uJ x.s) (a:ug x.s ⟨3,0,0,x.s.aQ+1,[]⟩):Rq (3,b,c,d,q) x {x with s:={x.s with l:=x.s.l++[⟨3,0,0,x.s.aQ+1,[]⟩],seq:=x.s.seq+1,aQ:=x.s.aQ+1}} (0,0):=
 λA M w B H R Q e g hB h=>UO e hB ok a (by grind)
theorem UR {b c d:Int} {q:Sl} (ok:uJ x.s) (h:Gg x.s) (a:x.up.length+x.s.out.length<=64) (g:∀f∈x.s.out,f.length<=2 ^ 20):Rq (4,b,c,d,q) x {x with up:=x.up++x.s.out} ((0:Int),((x.up.length+x.s.out.length:Nat):Int)):=
 λA M w B H R Q n l hB m=>UP n hB ok h a g λw' i H' o e j=>m A M w' i H' rfl l o e j
theorem FM {c d:Int} {q:Sl} (C:BS k x f b) (hu:x.up=b::fs) (g:x.dn.length+1<=64) (i:fs.length< 2 ^ 30):Rq (6,0,c,d,q) x {FL x f with up:=fs,dn:=x.dn++[cV (x.S.op (fT f)).1.nQ]} ((0:Int),(x.S.op (fT f)).1.n.seq):=by
 intro A M w B H R Q u s hB t
 refine gN u λa1 z H1 e r1 p=>bG p λE D a=>?_
 have a:=tmp a
 refine aX (x:=(6:Int)) (r1.ext a.base) rfl (aF rfl (aF rfl (aF rfl (aF rfl (aF rfl (aW rfl (aX (x:=(0:Int)) (r1.ext a.base) rfl ?_)))))))
 exact kq a s (hB.ext e) C hu g i λj w' l H' eA v h o=>rM (y:=((0:Int),(x.S.op (fT f)).1.n.seq)) o rfl λm r=>t j M w' l m rfl eA (e.trans v) h r
end
abbrev yL (y:Int×Int):List Value:=[i64 y.1,i64 y.2]
theorem US (y:Int×Int):(yL y).length=2:=rfl
theorem cvA (y:Int×Int):(yL y).all cg=true:=rfl
theorem UT {A:Ds.DA} {M:uh} {w:vh} {B H:PH} {R:List Ob} {p:Sl} {es:List E5} {ys:List (Int×Int)} (xs:Nat->qh) {Q:Sl->PH->Prop} (h:aA H (aC B::fy A M w (xs 0) R)) (hA:A.a=M.F.X.da) (hB:ui B M w (xs 0)) (W:fM e5 5 B p es) (U:ys.length=es.length) (hn:es.length<=1000)
 (hd:∀(i:Nat) (e:E5) (y:Int×Int),es[i]?=some e->ys[i]?=some y->zo e (xs i) (xs (i+1)) y)
 (hQ:∀n c w' q d H',c.ma=M.ma->n.a=c.F.X.da->Ext B d->ui d c w' (xs es.length)->fM yL 2 d q ys->aA H' (aC d::fy n c w' (xs es.length) R)->Q q H'):oR (some M.ma) p H Q:=by
 refine av es.length (λi st Hk=>st.2=(i:Int)/\∃n c w' d,c.ma=M.ma/\n.a=c.F.X.da/\Ext B d/\ui d c w' (xs i)/\aA Hk (aC d::fy n c w' (xs i) (au yL 2 st.1 (ys.take i)::R))) ⟨rfl,A,M,w,B,rfl,hA,.refl _,hB,?_⟩ ?_
 ·have g:=aA.up (h.Bt (enc:=yL) (sz:=2))
  exact tmp g
 rintro i ⟨st,_⟩ H1 again hi ⟨N,C,j,m,G,o,t,s,u,g⟩ S
 simp only at N g;subst N
 rw[W.bL]
 refine aM (λc1=>?_) (λc1=>?_)
 ·have V:i<es.length:=by grind
  refine aE (su ((W.ext s).ext g.base) (by omega) (by omega) λab e he T=>⟨e,T,?_⟩)
  rw[Int.toNat_natCast] at he
  have Y:ys[i]?=some ys[i]:=(by simp)
  refine bG g λac H2 D=>cF (vs:=e5 e) D rfl rfl λH3 r=>aW rfl (cQ (x:=e) r rfl rfl ?_)
  rw[←o]
  refine hd i e ys[i] he Y C j m G H3 _ _ r.aq t u λE J w4 I H4 L K aa P h4=>?_
  refine jQ.zg (enc:=yL) (sz:=2) (l:=[ys[i]]) h4 (by simp) rfl λv H5 O=>?_
  have v5:bj yL 2 H5 v [ys[i]]:=O.get 1 rfl
  have hlen:(ys.take i).length=i:=by rw[List.length_take];omega
  refine uP US (by decide) O 21 rfl (v5.cells US (by decide)) v5.len cvA rfl (by rw[hlen];simp;omega) λZ H6 h6=>?_
  rw[bK (by omega)]
  refine S V _ _ ⟨rfl,E,J,w4,I,L.trans o,K,s.trans aa,P,?_⟩
  rw[It.gk Y]
  exact(show aA H6 (aC I::au yL 2 v [ys[i]]::fy E J w4 (xs (i+1)) (au yL 2 Z (ys.take i++[ys[i]])::R)) from h6).aq
 ·have:i=es.length:=by grind
  subst this
  rw[←U,List.take_length] at g
  have D:aA H1 (aC G::((m1 C j m (xs es.length)++m2 j m (xs es.length)++m3 j m++m4 j m)++au yL 2 st ys::R)):=by rw[←JK,←U];exact g
  obtain⟨B2,z,hv,r⟩:=D.wh.fz
  rw[←JK] at r
  exact hQ C j m st B2 H1 o t (s.trans z) (u.ext z) (hv.lX US) r
end Ma
end
end Go.Proofs.YtigjebgjphmkoaaGreat
section
namespace KM
theorem MH {m:List Int} {st:List iR×Bool} {k:Nat} {w:Int×iR} (h:∀b∈st.1,bP b.1) (hw:bP w.2.1):(oF m st k w).1.length=st.1.length/\∀b∈(oF m st k w).1,bP b.1:=by
 have d:∀c:iR,bP c.1->∀b∈st.1.set w.1.toNat c,bP b.1:=λc g b f=>by
  grind
 unfold oF
 split
 ·exact⟨by simp,d _ hw⟩
 ·split
  ·refine⟨by simp,d _ λx a=>?_⟩
   have a:x∈w.2.1.take (gW m k/ 3).toNat++(st.1.getD w.1.toNat rH).1.drop (gW m k/ 3).toNat:=a
   rcases List.mem_append.1 a with a|a
   ·grind
   ·have a:=List.mem_of_mem_drop a
    rw[List.getD] at a
    cases e:st.1[w.1.toNat]? with
    |none=>rw[e] at a;exact DL x a
    |some b=>grind
  grind
theorem Gi {m:List Int} {safe:List iR} {held:List (Int×iR)} (h:∀b∈safe,bP b.1) (a:∀w∈held,bP w.2.1):∀k,(dv m safe held k).1.length=safe.length/\∀b∈(dv m safe held k).1,bP b.1
 | 0=>⟨rfl,h⟩
 |k+1=>by
  obtain⟨i1,i2⟩:=Gi h a k
  rw[dv]
  cases hk:held[k]? with
  |none=>exact⟨i1,i2⟩
  |some w=>
   have:=MH (m:=m) (k:=k) i2 (a w (List.mem_of_getElem? hk))
   grind
theorem bu.jL {k:Nat} {D:Dk} (h:bu k D) (m:List Int):bu 0 (D.jL m)/\(D.jL m).now.length=D.now.length:=by
 obtain⟨i1,i2⟩:=Gi (m:=m) h.bs h.bh D.held.length
 have a:(dv m D.safe D.held D.held.length).1.length=D.now.length:=i1.trans h.safe
 refine⟨⟨rfl,rfl,⟨Int.le_refl 0,by show(0:Int)<=((0:Nat):Int);omega⟩,Nat.le_refl 0,λw hw=>(by cases hw),?_,rfl,?_,h.nf,i2,i2,λw hw=>(by cases hw)⟩,a⟩
 ·show(dv m D.safe D.held D.held.length).1.length<=4096;rw[a];exact h.now
 ·show D.dq.length=(dv m D.safe D.held D.held.length).1.length;rw[a];exact h.dq
end KM
end
namespace Go.Proofs.YtigjebgjphmkoaaGreat
open Tryz
section
namespace Ma
open Go Go.Kx KM Rw Wi Fm Li Src So Re Ds
section
variable {H B:PH} {L R:List Ob} {A:DA} {M:uh} {w:vh} {x:qh} {k:Nat}
theorem W0 {e:E5} {Q:Int×Int->Bool->PH->Prop} (h:aA H (aC B::L)) (hk:e.1=12∨e.1=13∨e.1=18) (f:∀H',aA H' (aC B::L)->Q (0,0) false H'):fR (some M.ma) e H Q:=by
 refine bG h λa1 H1 d=>bG d λi g a=>aU (x:=e.1) (j:=0) a 2 rfl rfl ?_
 have ne:∀n:Int,n≠12->n≠13->n≠18->(e.1==n)=false:=(by grind)
 refine aF (by grind) (aF (by grind) (aF (by grind) (aF (by grind) (aF (by grind) (aF (by grind) (aF (by grind) ?_))))))
 refine aE (aF (by grind) (aF (by grind) ?_))
 rw[ne 9 (by decide) (by decide) (by decide)]
 exact aF rfl (cF (vs:=[i64 0,i64 0]) a rfl rfl λc b=>cQ (x:=((0:Int),(0:Int))) b rfl rfl (f c b.aq.aq))
theorem FN {e:E5} {Q:Int×Int->PH->Prop} (W:aA H (aC B::fy A M w x R)) (hk:e.1=12∨e.1=13∨e.1=18)
 (V:∀a1 b d c H1,Ext B c->aa c a1 (e5 e)->aA H1 (aC c::fy A M w x (aJ d [i64 0,i64 0]::aJ b [i64 0,i64 0]::R))->
  aH (.int .i64) H1 (a1.add 0) λa=>aL (a==10) False (aL (a==11) False (aL (a==12)
   (aP (some M.ma) λs=>aH .pointer H1 (s.add 2) λv=>mw v H1 λJ K n=>fF J K n λj o=>aV o b [i64 j.1,i64 j.2] λf=>aT (λ(x:(Int×Int))=>[i64 x.1,i64 x.2]) f b 2 λy=>Q y f)
   (aL (a==13)
   (aP (some M.ma) λt=>aH .pointer H1 (t.add 2) λz=>aH (.int .i64) H1 (a1.add 1) λC=>iO z C H1 λN p=>fF 0 N p λl q=>aV q b [i64 l.1,i64 l.2] λg=>aT (λ(x:(Int×Int))=>[i64 x.1,i64 x.2]) g b 2 λD=>Q D g)
   (aL (a==14) False (aL (a==15) False (aL (a==16) False (aL (a==17) False (aL (a==18)
   (aT e5 H1 a1 5 λE=>mU (some M.ma) E H1 λm r=>aV r b [i64 m.1,i64 m.2] λh=>aT (λ(x:(Int×Int))=>[i64 x.1,i64 x.2]) h b 2 λF=>Q F h)
   (aV H1 b [i64 1,i64 0] λi=>aT (λ(x:(Int×Int))=>[i64 x.1,i64 x.2]) i b 2 λG=>Q G i)))))))))):iw (some M.ma) e H Q:=by
 refine gN W λa1 c H1 I r1 P=>bG P λb X u=>aF rfl (iK (enc:=e5) (x:=e) (r1.ext u.base) rfl ?_)
 refine W0 (tmp u) hk λY S=>bG S λd Z T=>cF (vs:=[i64 0,i64 0]) T rfl rfl λO U=>aF rfl ?_
 exact V a1 b d c O I r1 (tmp U)
theorem UU {c b:Addr} {v g:List Value} {Q:Int×Int->PH->Prop} {y:Int×Int} (h:aA H (aC B::fy A M w x (aJ c g::aJ b v::R))) (f:v.length=2) (e:∀H',aA H' (aC B::fy A M w x R)->Q y H'):
 aV H b [i64 y.1,i64 y.2] λa=>aT (λ(x:(Int×Int))=>[i64 x.1,i64 x.2]) a b 2 λd=>Q d a:=rM (PE h) f e
theorem Rs {b c d:Int} {q:Sl} (ok:bB k x.S) (hk:k+60< 2 ^ 28) (P:vI x.S) (v:2<cG x.S.check.1.t.l) (hlen:x.S.check.2.length< 2 ^ 30):zo (12,b,c,d,q) x {x with S:=x.S.check.1} ((0:Int),(x.S.check.2.length:Int)):=by
 intro A M w B H R Q K I hB J
 refine FN K (.inl rfl) λa1 D p O H1 f r1 i=>aX (x:=(12:Int)) (r1.ext i.base) rfl (aF rfl (aF rfl (aW rfl (aD (aU (x:=some M.F.fa) (j:=2) i 13 rfl rfl ?_)))))
 have e:=hB.ext f
 refine Re.rL (vA i) I e.fr e.wt ok hk P v hlen λn o h z r g s N l2 m=>?_
 have m:aA z (aC h::fy n M {w with W:=o} {x with S:=x.S.check.1} (aJ p [i64 0,i64 0]::aJ D [i64 0,i64 0]::R)):=m
 refine tR m λT E=>UU (y:=((0:Int),(x.S.check.2.length:Int))) E rfl λC G=>J n M {w with W:=o} h C rfl r (f.trans g) ?_ G
 have u:x.S.check.1.c=x.S.c:=(ok.emit (by omega)).2.2.2.1
 have a:=e.ext g
 exact⟨by show pJ h M.F x.S.check.1.c;rw[u];exact a.fr,s,a.ops,a.up,a.dn,a.sz⟩
theorem MI {view c d:Int} {q:Sl} (ok:bB k x.S) (hk:k+60< 2 ^ 28) (hm:x.S.n.mode=1) (u:1<=view/\view<=2147483647) (t:x.S.n.view<view) (P:vI (x.S.raised view 2)):zo (13,view,c,d,q) x {x with S:=(x.S.raise view 2).1} ((0:Int),(0:Int)):=by
 intro A M w B H R Q J G hB I
 refine FN J (by simp) λa1 C o N H1 f r1 e=>aX (x:=(13:Int)) (r1.ext e.base) rfl (aF rfl (aF rfl (aF rfl (aW rfl (aD (aU (x:=some M.F.fa) (j:=2) e 13 rfl rfl (aX (x:=view) (r1.ext e.base) rfl ?_)))))))
 have b:=hB.ext f
 refine Dc (vA e) G b.fr b.wt ok hk hm u t P λl m h v p g r K l2 i=>?_
 have i:aA v (aC h::fy l M {w with W:=m} {x with S:=(x.S.raise view 2).1} (aJ o [i64 0,i64 0]::aJ C [i64 0,i64 0]::R)):=i
 refine tR i λO D=>UU (y:=((0:Int),(0:Int))) D rfl λz E=>I l M {w with W:=m} h z rfl p (f.trans g) ?_ E
 have s:(x.S.raise view 2).1.c=x.S.c:=by
  rw[xA hm u (.inr rfl) t ok.dk.off]
  exact((vg ok view 2).emit (by omega)).2.2.2.1
 have a:=b.ext g
 exact⟨by show pJ h M.F (x.S.raise view 2).1.c;rw[s];exact a.fr,r,a.ops,a.up,a.dn,a.sz⟩
end
end Ma
end
section
namespace Ma
open Go Go.Kx KM Rw Wi Fm Li Src So Re Ds
section
variable {H B:PH} {L R:List Ob} {A:DA} {M:uh} {w:vh} {x:qh} {k:Nat}
theorem IK {T:KM.St} {b d:Int} {kk:Nat} (ok:bB k x.S) (hk:k< 2 ^ 28) (ai:kk+3< 2 ^ 28) (hS:kU (x.S.d.jL [])=some T) (N:lV (x.S.d.jL [])=true) (al:1<=x.V.size) (am:x.V.size<=16) (ak:0<=T.n.seq/\T.n.seq< 2 ^ 30) (O:1<=T.w.p.2.2.1/\T.w.p.2.2.1<=kk+3) (aj:fj T.c T.w.p=true):
 zo (18,b,0,d,Sl.nil) x {x with S:=T,V:=⟨x.V.size,T.n.seq+1,λ_=>none⟩} ((0:Int),T.n.aQ):=by
 intro A M w B H R Q hs hA hB hQ
 refine FN hs (by simp) λa1 t g B1 H1 G r1 K=>aX (x:=(18:Int)) (r1.ext K.base) rfl (aF rfl (aF rfl (aF rfl (aF rfl (aF rfl (aF rfl (aF rfl (aF rfl (aW rfl (iK (enc:=e5) (x:=(18,b,0,d,Sl.nil)) (r1.ext K.base) rfl ?_))))))))))
 have C:=hB.ext G
 obtain⟨aa,au⟩:=ok.dk.jL []
 have aw:=jQ.oI ok.c
 have ax:=Ge.qT ok.c
 have hlen:=ok.len
 refine gN K λb1 P H2 ao rb h2=>bG h2 λu H3 i=>?_
 have i:=tmp i
 refine aD (aU (x:=some M.F.X.da) (j:=1) i 13 rfl rfl (aX (enc:=Sl.v) (x:=Sl.nil) (rb.ext i.base) rfl ?_))
 have dd:eF H3 A x.S.d:=i.get 5 rfl
 rw[←hA]
 refine We (m:=[]) dd (bu.small ok.dk (by omega)) (by omega) .nil λo H4 ag=>aD ?_
 have h4:=i.made ag
 refine cU (j:=1) h4 14 rfl (by simp) rfl λZ l=>aX (x:=(0:Int)) (rb.ext (l:aA Z (aC P::_)).base) rfl (aE (aF rfl ?_))
 have l:aA Z (aC P::bA o (x.S.d.jL [])::(oX A M.F.X w.W x.S++[gK M.F.va M.F.vs x.V,aJ M.ma [i64 M.size,.pointer (some o.a),.pointer (some M.F.fa),.pointer (some M.sc),.pointer (some M.up),.pointer (some M.dn)]]++(m2 M w x++(m3 M w++(m4 M w++(aJ u [i64 0,i64 0]::aJ g [i64 0,i64 0]::aJ t [i64 0,i64 0]::R)))))):=l
 refine aD (aU (x:=some o.a) (j:=1) l 14 rfl rfl (aD (aU (x:=M.size) (j:=0) l 14 rfl rfl ?_)))
 rw[C.sz]
 refine Gd (k:=kk) l (aa.mono (by omega)) ai hS N al am ak O aj λq e r I H6 av J ap D ah an l6 h6=>aD ?_
 have E:=ao.trans ap
 refine cU (j:=2) h6 25 rfl (by simp) rfl λH7 h7=>?_
 have ab:o.a=e.X.da:=(by grind)
 have h8:aA H7 (aC I::((oX q e.X r T++[gK e.va e.vs ⟨x.V.size,T.n.seq+1,λ_=>none⟩])++((oX A M.F.X w.W x.S++[gK M.F.va M.F.vs x.V])++(aJ M.ma [i64 M.size,.pointer (some o.a),.pointer (some e.fa),.pointer (some M.sc),.pointer (some M.up),.pointer (some M.dn)]::(m2 M w x++(m3 M w++(m4 M w++(aJ u [i64 0,i64 0]::aJ g [i64 0,i64 0]::aJ t [i64 0,i64 0]::R)))))))):=h7
 have h9:=h8.sub (List.Sublist.cons_cons (aC I) (List.Sublist.append (List.Sublist.refl (oX q e.X r T++[gK e.va e.vs ⟨x.V.size,T.n.seq+1,λ_=>none⟩])) (List.sublist_append_right (oX A M.F.X w.W x.S++[gK M.F.va M.F.vs x.V]) _)))
 rw[ab] at h9
 have ac:aA H7 (aC I::fy q ⟨e,M.ma,M.sc,M.up,M.dn,M.size⟩ {w with W:=r} {x with S:=T,V:=⟨x.V.size,T.n.seq+1,λ_=>none⟩} (aJ u [i64 0,i64 0]::aJ g [i64 0,i64 0]::aJ t [i64 0,i64 0]::R)):=h9
 refine qZ (vA ac) D an λz U f s=>?_
 have s:aA U (aC z::fy q ⟨e,M.ma,M.sc,M.up,M.dn,M.size⟩ {w with W:=r} {x with S:=T,V:=⟨x.V.size,T.n.seq+1,λ_=>none⟩} (aJ u [i64 0,i64 0]::aJ g [i64 0,i64 0]::aJ t [i64 0,i64 0]::R)):=s
 refine tR s λaq ad=>rM (y:=((0:Int),T.n.aQ)) ad rfl λar ae=>UU (y:=((0:Int),T.n.aQ)) ae rfl λY af=>?_
 have h:=C.ext (E.trans f)
 exact hQ q ⟨e,M.ma,M.sc,M.up,M.dn,M.size⟩ {w with W:=r} z Y rfl J (G.trans (E.trans f)) ⟨D.ext f,ah.ext f,h.ops,h.up,h.dn,h.sz⟩ af
end
end Ma
end
end Go.Proofs.YtigjebgjphmkoaaGreat
section
namespace KM
def fD (c:ax):Dk:=ya c 1 (fresh (all c).toNat)
def PG (S:St) (cZ:Int):Bool:=(bN S.n.seq 0 1000&&bN S.w.p.2.2.1 1 cZ)&&fj S.c S.w.p
def Ku (c:ax):Bool:=dA c 1 (cj (fresh (all c).toNat)+1)&&(lV (fD c)&&match kU (fD c) with|some S=>PG S 60&&S.c==c|none=>false)
end KM
namespace Go.Proofs.YtigjebgjphmkoaaGreat
open Tryz
namespace Ma
open Go Go.Kx KM Rw Wi Fm Li Src So Re Ds
section
variable {H B:PH} {L R:List Ob} {A:DA} {M:uh} {w:vh} {x:qh} {k:Nat} {c:ax}
theorem Yw {n:Nat} {Q:Option Addr->Int->PH->Prop} (h:aA H (aC B::L)) (b:1<=n) (e:n<=4096) (g:∀A H',aA H' (aC B::bA A (fresh n)::L)->Q (some A.a) 0 H'):xm n H Q:=
 Ds.fO b e λA H' x d f=>g A H' (show aA H' (aC B::(L++[bA A (fresh n)])) from h.new (O':=bA A (fresh n)) x d f).up
theorem Kv {n:Nat} (h:n<=4096):bu 0 (fresh n):=
 ⟨rfl,rfl,⟨Int.le_refl 0,by show(0:Int)<=((0:Nat):Int);omega⟩,Nat.le_refl 0,λw hw=>(by cases hw),by simpa[fresh] using h,by simp[fresh],by simp[fresh],λf hf=>(List.mem_replicate.1 hf).2,λb a=>by rw[(List.mem_replicate.1 a).2];exact DL,λb a=>by rw[(List.mem_replicate.1 a).2];exact DL,λw hw=>(by cases hw)⟩
theorem IL {c:ax} (h:Ku c=true):dA c 1 (cj (fresh (all c).toNat)+1)=true/\lV (fD c)=true/\∃S,kU (fD c)=some S/\(0<=S.n.seq/\S.n.seq<=1000)/\(1<=S.w.p.2.2.1/\S.w.p.2.2.1<=60)/\fj S.c S.w.p=true/\S.c=c:=by
 unfold Ku at h
 simp only[Bool.and_eq_true] at h
 obtain⟨b,d,a⟩:=h
 refine⟨b,d,?_⟩
 generalize kU (fD c)=o at a
 cases o with
 |none=>cases a
 |some S=>
  simp only[PG,Bool.and_eq_true,KM.bD,beq_iff_eq] at a
  exact⟨S,rfl,a.1.1.1,a.1.1.2,a.1.2,a.2⟩
abbrev x0 (S:KM.St) (size:Nat):qh:=⟨S,⟨size,S.n.seq+1,λ_=>none⟩,⟨1,size,0,0,0,0,[]⟩,[],[]⟩
theorem Rt {size:Nat} {S:KM.St} {Q:Option Addr->Int->PH->Prop} (h:aA H (aC B::L)) (f:bE c) (P:1<=size) (T:size<=16) (h0:Ku c=true) (K:kU (fD c)=some S)
 (hQ:∀A M w p H',Ext B p->A.a=M.F.X.da->ui p M w (x0 S size)->bB 63 S->S.d.now.length=(all c).toNat->aA H' (aC p::fy A M w (x0 S size) L)->Q (some M.ma) 0 H'):xN c size H Q:=by
 obtain⟨hm,s,S',l,ah,ac,O,ae⟩:=IL h0
 rw[K] at l
 have e:=Option.some.inj l
 subst e
 have af:=Sc.qV f
 have ab:=jQ.oI f
 have ag:=Ge.qT f
 refine gN h λa1 B1 H1 W r1 z=>iK (enc:=Ge.zZ) (x:=c) (r1.ext z.base) rfl (Ge.T7 (c:=c) z f λg B2 H2 m hg h2=>?_)
 refine Src.fO h2 (by omega) (by omega) λsc H3 G=>aE (aF rfl (aF rfl (Ge.CG (hg.ext G.base) f λH4 x4=>?_)))
 have h4:=G.ext x4
 have en:all c=(((all c).toNat:Nat):Int):=by omega
 rw[en]
 refine Yw h4 (by omega) (by omega) λA5 H5 I=>aF rfl (iK (enc:=Ge.zZ) (x:=c) ((r1.ext m).ext I.base) rfl ?_)
 refine jQ.L9 (c:=c) (k:=0) (D:=fresh (all c).toNat) (id:=1) I (Kv (by omega)) (by decide) f hm (by simp[fresh];omega) λA6 B6 H6 u Z U l6 h6=>aF rfl ?_
 rw[←u]
 refine Gd (k:=60) (D:=fD c) h6 U (by decide) K s P T (by omega) (by omega) O λo b q t H7 ad r aa J N V l7 h7=>aF rfl ?_
 refine Li.fO h7 λup H8 h8=>Li.fO h8 λdn H9 h9=>bG h9 λma i j=>?_
 have y:A6.a=b.X.da:=(by grind)
 rw[y] at j
 have C:aA i (aC t::(([aJ ma (Rp ⟨b,ma,sc,up,dn,(size:Int)⟩),aJ dn [Sl.v Sl.nil],aS Sl.v Sl.nil [],aJ up [Sl.v Sl.nil],aS Sl.v Sl.nil []]++oX o b.X q S++[gK b.va b.vs ⟨size,S.n.seq+1,λ_=>none⟩,aJ sc (nS ⟨1,size,0,0,0,0,[]⟩ Sl.nil),au c5 5 Sl.nil []])++L)):=j
 have E:=aA.KO (Y:=oX o b.X q S++[gK b.va b.vs ⟨size,S.n.seq+1,λ_=>none⟩,aJ ma (Rp ⟨b,ma,sc,up,dn,(size:Int)⟩),aJ sc (nS ⟨1,size,0,0,0,0,[]⟩ Sl.nil),au c5 5 Sl.nil [],aJ up [Sl.v Sl.nil],aS Sl.v Sl.nil [],aJ dn [Sl.v Sl.nil],aS Sl.v Sl.nil []]) C 19 [5,6,7,8,9,10,11,12,13,14,15,16,0,17,18,3,4,1,2] rfl (by decide) rfl
 refine hQ o ⟨b,ma,sc,up,dn,size⟩ ⟨q,Sl.nil,[],Sl.nil,[],Sl.nil,[]⟩ t i (W.trans (m.trans (Z.trans aa))) r ⟨J,N,⟨rfl,by simp⟩,.nil,.nil,rfl⟩ V ?_ E
 rw[l7]
 have:(fD c).now.length=(fresh (all c).toNat).now.length:=l6
 rw[this];simp[fresh]
end
end Ma
end Go.Proofs.YtigjebgjphmkoaaGreat
end
namespace Go.Proofs.YtigjebgjphmkoaaGreat
open Tryz
section
namespace Ma
open Go Go.Kx KM Rw Wi Fm Li Src So Re Ds
section
variable {H B:PH} {L R:List Ob} {A:DA} {M:uh} {w:vh} {x:qh} {k:Nat} {c:ax}
theorem wW {Q:Option Addr->PH->Prop} (h:aA H (aC B::fy A M w x R)) (a:Q (some M.F.fa) H):ff (some M.ma) H Q:=aF rfl (aD (aU (x:=some M.F.fa) (j:=2) h 13 rfl rfl a))
theorem PI {Q:Option Addr->PH->Prop} (h:aA H (aC B::fy A M w x R)) (a:Q (some M.F.X.da) H):nG (some M.ma) H Q:=aF rfl (aD (aU (x:=some M.F.X.da) (j:=1) h 13 rfl rfl a))
theorem MJ {Q:Option Addr->PH->Prop} (h:aA H (aC B::fy A M w x R)) (a:Q (some M.sc) H):lY (some M.ma) H Q:=aF rfl (aD (aU (x:=some M.sc) (j:=3) h 13 rfl rfl a))
theorem UW {Q:Option Addr->PH->Prop} (h:aA H (aC B::fy A M w x R)) (a:Q (some M.up) H):ov (some M.ma) H Q:=aF rfl (aD (aU (x:=some M.up) (j:=4) h 13 rfl rfl a))
theorem UX {Q:Option Addr->PH->Prop} (h:aA H (aC B::fy A M w x R)) (a:Q (some M.dn) H):nH (some M.ma) H Q:=aF rfl (aD (aU (x:=some M.dn) (j:=5) h 13 rfl rfl a))
theorem IM {size:Nat} {S:KM.St} {Q:Option Addr->Bool->PH->Prop} (h:aA H (aC B::L)) (t:bE c) (i:1<=size) (j:size<=16) (q:Ku c=true) (s:kU (fD c)=some S)
 (r:∀A M w e H',Ext B e->A.a=M.F.X.da->ui e M w (x0 S size)->bB 63 S->S.d.now.length=(all c).toNat->aA H' (aC e::fy A M w (x0 S size) L)->Q (some M.ma) true H'):nw c size H Q:=by
 refine gN h λa1 v H1 l r1 f=>iK (enc:=Ge.zZ) (x:=c) (r1.ext f.base) rfl (Rt (c:=c) f t i j q s λA M w n o m eA hB ok u b=>?_)
 obtain⟨y,p,_⟩:=hB.fr.X.g
 have gs:(Option.isNone M.F.X.g)=false:=by rw[p];rfl
 refine aE (aF rfl (aE (aF rfl ?_)))
 refine wW b (aE (aF rfl ?_))
 refine PI b (aE (aF rfl ?_))
 refine MJ b (aE (aF rfl ?_))
 refine UW b (aE (aF rfl ?_))
 refine UX b (aF rfl ?_)
 refine wW b (lh hB.fr b.base (aE (aW rfl ?_)))
 refine fx (vA b) (aE (aW rfl ?_))
 refine yg (vA b) (aE (aW rfl ?_))
 refine IB (vA b) ?_
 rw[gs]
 exact r A M w n o (l.trans m) eA hB ok u b
theorem Gj {b:Int} {Q:ax->PH->Prop} (h:aA H (aC B::L)) (f:∀H',aA H' (aC B::L)->Q (1+b% 20,8,24) H'):nj b H Q:=by
 have g:=(by omega)
 have i:=(by omega)
 refine bG h λa1 H1 d=>rL (by decide) (by decide) ?_
 rw[cK (x:=1+b% 20) (by omega) (by omega)]
 exact cF (vs:=[i64 (1+b% 20),i64 8,i64 24]) d rfl rfl λe a=>cQ (x:=(1+b% 20,8,24)) a rfl rfl (f e a.aq)
end
end Ma
end
end Go.Proofs.YtigjebgjphmkoaaGreat
section
namespace KM
theorem W3 {S:St} {b:Int} {y:Bs} (f:S.w.blocks=[]) (h:(S.read b).1=y) (g:y≠[]) (i:y≠List.replicate 64 0):S.has b 1=true/\S.d.off=false/\bT S.m.l0 b≠0/\(0<=bT S.m.l0 b/\bT S.m.l0 b<S.d.now.length)/\S.d.sec (bT S.m.l0 b)=y:=by
 unfold St.read at h
 dsimp only at h
 by_cases he:S.asks 0 (S.has b 1)=0
 ·rw[if_neg (by simpa using he)] at h
  have e:S.has b 1=true/\S.d.off=false:=by
   unfold St.asks at he
   grind
  refine⟨e.1,e.2,?_⟩
  unfold St.bytes at h
  by_cases a:bT S.m.l0 b=0
  ·grind
  ·rw[if_neg a] at h
   unfold St.D6 at h
   rw[f,if_neg (by simp;try omega)] at h
   refine⟨a,?_⟩
   by_cases c:0<=bT S.m.l0 b/\bT S.m.l0 b<S.d.now.length
   ·exact⟨c,h⟩
   ·rw[Dk.rd,if_neg c] at h;grind
 grind
end KM
namespace Go.Proofs.YtigjebgjphmkoaaGreat
open Tryz
namespace Ma
open Go Go.Kx KM Rw Wi Fm Li Src So Re Ds
section
variable {H B:PH} {L R:List Ob} {A:DA} {F:Fr} {W:Wt} {S:KM.St} {k:Nat}
theorem PJ {b:Int} {y:Bs} {Q:Sl->Int->PH->Prop} (h:aA H (aC B::cD A F.X W S R)) (e:A.a=F.X.da) (f:mg B F.X S.c) (q:gJ B W S) (ok:bB k S) (hk:k< 2 ^ 28) (g:S.w.blocks=[]) (u:(S.read b).1=y) (n:y≠[]) (o:y≠List.replicate 64 0)
 (I:∀r d H',Ext B d->Bytes d r y->aA H' (aC d::cD A F.X W S R)->Q r 0 H'):lS (some F.X.sa) b H Q:=by
 obtain⟨s,t,M,j,J⟩:=W3 g u n o
 refine AQ h f ok.toji (by omega) ?_
 rw[s]
 refine ve h e ?_
 rw[qX (mode:=0) t (.inl rfl) rfl]
 refine aF rfl (aD (aU (x:=some F.X.ia) h 11 rfl rfl (Ig.KW (uw h) f.im ?_)))
 refine aF (by grind) (aD (aU (x:=some F.X.wa) h 11 rfl rfl (aF rfl (aD (aU (enc:=Sl.v) (x:=W.kC) h 8 rfl rfl ?_)))))
 have z:dX Sl.v H W.kC W.bl:=h.get 10 rfl
 have hlen:(W.kC.len:Int)=0:=by rw[z.list.bL,q.len,g];rfl
 rw[hlen]
 refine Bk (λm st l=>st=0/\l=H) 0 (by grind) ?_
 rintro m st H1 again ⟨rfl,rfl⟩ _
 refine aF rfl (aD (aU (x:=some F.X.da) h 8 rfl rfl ?_))
 rw[←e]
 refine BL (i:=4) h rfl ok.dk (by omega) j λr E p=>iW p λD C K G=>?_
 grind
theorem PK {b:Int} {y:Bs} {Q:Sl->Int->PH->Prop} (h:aA H (aC B::cD A F.X W S R)) (s:A.a=F.X.da) (f:pJ B F S.c) (u:gJ B W S) (ok:bB k S) (hk:k< 2 ^ 28) (hm:S.n.mode=2) (v:S.w.blocks=[]) (x:(S.read b).1=y) (o:y≠[]) (p:y≠List.replicate 64 0)
 (t:∀r i H',Ext B i->Bytes i r y->aA H' (aC i::cD A F.X W S R)->Q r 0 H'):rE (some F.fa) b H Q:=by
 refine lh f h.base (aE (aW rfl (kJ h f.X ok.toji λC H1 d g=>?_)))
 have e:(S.status.1 != 2)=false:=by show(S.n.mode != 2)=false;rw[hm];rfl
 rw[e]
 refine aF rfl (lh (f.ext d) g.base (PJ g s (f.ext d).X (u.ext d) ok hk v x o p λr l m j z q=>t r l m (d.trans j) z q))
end
end Ma
end Go.Proofs.YtigjebgjphmkoaaGreat
end
namespace Go.Proofs.YtigjebgjphmkoaaGreat
open Tryz
section
namespace Ma
open Go Go.Kx KM Rw Wi Fm Li Src So Re Ds
def HJ (S:KM.St):Bool:=(((S.m.l0.all λx=>bN x (-1) 4095)&&(S.m.l1.all λx=>bN x (-1) 4095))&&((((S.n.lb.length:Int)==bc S.c&&S.n.lb.all λx=>bN x 0 1))&&(((S.n.lo.length:Int)==bc S.c&&S.n.lo.all λx=>bN x 0 1))))&&((S.n.slot==0||S.n.slot==1)&&fW S.c ((Al S).mX (w9 S).2 (yJ S).2))
theorem BT {S:KM.St} (h:HJ S=true):vI S:=by
 simp only[HJ,Bool.and_eq_true,List.all_eq_true,KM.bD,beq_iff_eq,Bool.or_eq_true] at h
 exact⟨⟨λx a=>h.1.1.1 x a,λx a=>h.1.1.2 x a⟩,⟨h.1.2.1.1,h.1.2.1.2⟩,⟨h.1.2.2.1,h.1.2.2.2⟩,h.2.1,h.2.2⟩
def IN (S:KM.St) (o:nO):Bool:=if o.kind=1 then(S.has o.block 1&&o.data.length==64&&o.data.all λx=>bN x 0 255)&&(cB (1,o.block,0,0)&&(S.add (1,o.block,0,0) (some o.data) false).2.2==0) else o.kind==3&&(o.aQ==S.n.aQ+1&&(S.add (3,0,0,o.aQ) none false).2.2==0)
theorem BU {S:KM.St} {o:nO} (h:IN S o=true):Da S o:=by
 unfold IN at h
 split at h
 ·next hk=>
  simp only[Bool.and_eq_true,List.all_eq_true,KM.bD,beq_iff_eq] at h
  exact⟨.inl hk,by grind,by omega,by omega⟩
 ·next hk=>
  simp only[Bool.and_eq_true,beq_iff_eq] at h
  exact⟨by omega,by omega,by omega,by omega⟩
def Dd (S:KM.St):Bool:=(S.n.mode==1&&bN S.n.view 1 2147483647)&&((bN S.n.done 0 S.n.seq&&bN S.n.seq 0 1000)&&bN S.n.aQ 0 1000)
theorem yr {S:KM.St} (h:Dd S=true):uz S/\S.n.seq+1<=2 ^ 30/\S.n.aQ+1<=2 ^ 30:=by
 simp only[Dd,Bool.and_eq_true,KM.bD,beq_iff_eq] at h
 exact⟨⟨h.1.1,h.1.2,h.2.1.1,by omega,by omega⟩,by omega,by omega⟩
def gA:nO:=⟨1,2,0,0,iJ 7⟩
def jn:nO:=⟨3,0,0,1,[]⟩
def pL:nO:=⟨1,2,0,0,iJ 8⟩
def Ni:ax:=(4,8,24)
def Vq (S:KM.St):Bool:=(HJ S&&(decide (2<cG S.check.1.t.l)&&decide (S.check.2.length< 1000)))&&match kU (S.check.1.d.jL []) with
 |none=>false
 |some T=>(lV (S.check.1.d.jL [])&&PG T 60)&&((T.n.mode==1&&T.n.aQ==1)&&(decide (T.n.view< 9)&&(HJ (T.raised 9 2)&&(((T.raise 9 2).1.w.blocks.isEmpty&&((T.raise 9 2).1.read 2).1==iJ 7)&&((T.raise 9 2).1.n.view==9&&(T.raise 9 2).1.n.mode==2)))))
def Vr:Bool:=match kU (fD Ni) with
 |none=>false
 |some S=>((IN S gA&&Dd S)&&(S.n.seq==0&&S.n.view==1))&&((IN (S.op gA).1 jn&&Dd (S.op gA).1)&&((IN ((S.op gA).1.op jn).1 pL&&Dd ((S.op gA).1.op jn).1)&&Vq (((S.op gA).1.op jn).1.op pL).1))
theorem PL:Vr=true:=by decide+kernel
end Ma
end
section
namespace Fm
open Go Go.Kx KM Rw Wi
theorem Gk (pre:Bs) (w:Nat) (n:Int) (post:Bs) (a:0<=n) (b:n< 256 ^ w) {k:Nat} (hk:k=pre.length):num (pre++(le w n++post)) k w=n:=by
 subst hk
 rw[num,List.drop_append_of_le_length (Nat.le_refl _),List.drop_length,List.nil_append,List.take_append_of_le_length (by rw[bO];exact Nat.le_refl _),List.take_of_length_le (by rw[bO];exact Nat.le_refl _),Jq w n a b]
theorem num_1 (pre:Bs) (x:Int) (post:Bs) {k:Nat} (hk:k=pre.length):num (pre++x::post) k 1=x:=by
 subst hk
 rw[num,List.drop_append_of_le_length (Nat.le_refl _),List.drop_length,List.nil_append]
 show x+256*0=x
 omega
theorem Ru {f:oW} (hm:cx f=true) (m:bP f.data):Af (cV f)=some f:=by
 have P:=parts hm
 have e:m9 (cV f)=f:=by
  have l:(cV f).length=25+f.data.length:=by rw[cV,ko,rK];omega
  have a:cV f=[75,70]++f.kind::(le 4 f.view++(le 4 f.seq++(f.block::f.count::(le 4 f.aQ++(le 4 f.done++(f.data++le 4 (mz (jT f)))))))):=by
   rfl
  have n:=P.view;have p:=P.seq;have he:=P.aQ;have hd:=P.done
  have b:num (cV f) 2 1=f.kind:=by rw[a];exact num_1 _ _ _ rfl
  have c:num (cV f) 3 4=f.view:=by
   rw[a,show[75,70]++f.kind::(le 4 f.view++(le 4 f.seq++(f.block::f.count::(le 4 f.aQ++(le 4 f.done++(f.data++le 4 (mz (jT f))))))))=[75,70,f.kind]++(le 4 f.view++(le 4 f.seq++(f.block::f.count::(le 4 f.aQ++(le 4 f.done++(f.data++le 4 (mz (jT f)))))))) by simp]
   exact Gk _ 4 _ _ (by omega) (by omega) rfl
  have d:num (cV f) 7 4=f.seq:=by
   rw[a,show[75,70]++f.kind::(le 4 f.view++(le 4 f.seq++(f.block::f.count::(le 4 f.aQ++(le 4 f.done++(f.data++le 4 (mz (jT f))))))))=([75,70,f.kind]++le 4 f.view)++(le 4 f.seq++(f.block::f.count::(le 4 f.aQ++(le 4 f.done++(f.data++le 4 (mz (jT f))))))) by simp]
   exact Gk _ 4 _ _ (by omega) (by omega) (by rfl)
  have g:num (cV f) 11 1=f.block:=by
   rw[a,show[75,70]++f.kind::(le 4 f.view++(le 4 f.seq++(f.block::f.count::(le 4 f.aQ++(le 4 f.done++(f.data++le 4 (mz (jT f))))))))=([75,70,f.kind]++le 4 f.view++le 4 f.seq)++f.block::(f.count::(le 4 f.aQ++(le 4 f.done++(f.data++le 4 (mz (jT f)))))) by simp]
   exact num_1 _ _ _ (by rfl)
  have h:num (cV f) 12 1=f.count:=by
   rw[a,show[75,70]++f.kind::(le 4 f.view++(le 4 f.seq++(f.block::f.count::(le 4 f.aQ++(le 4 f.done++(f.data++le 4 (mz (jT f))))))))=([75,70,f.kind]++le 4 f.view++le 4 f.seq++[f.block])++f.count::(le 4 f.aQ++(le 4 f.done++(f.data++le 4 (mz (jT f))))) by simp]
   exact num_1 _ _ _ (by rfl)
  have i:num (cV f) 13 4=f.aQ:=by
   rw[a,show[75,70]++f.kind::(le 4 f.view++(le 4 f.seq++(f.block::f.count::(le 4 f.aQ++(le 4 f.done++(f.data++le 4 (mz (jT f))))))))=([75,70,f.kind]++le 4 f.view++le 4 f.seq++[f.block,f.count])++(le 4 f.aQ++(le 4 f.done++(f.data++le 4 (mz (jT f))))) by simp]
   exact Gk _ 4 _ _ (by omega) (by omega) (by rfl)
  have j:num (cV f) 17 4=f.done:=by
   rw[a,show[75,70]++f.kind::(le 4 f.view++(le 4 f.seq++(f.block::f.count::(le 4 f.aQ++(le 4 f.done++(f.data++le 4 (mz (jT f))))))))=([75,70,f.kind]++le 4 f.view++le 4 f.seq++[f.block,f.count]++le 4 f.aQ)++(le 4 f.done++(f.data++le 4 (mz (jT f)))) by simp]
   exact Gk _ 4 _ _ (by omega) (by omega) (by rfl)
  have k:((cV f).drop 21).take ((cV f).length- 25)=f.data:=by
   rw[l,a,show[75,70]++f.kind::(le 4 f.view++(le 4 f.seq++(f.block::f.count::(le 4 f.aQ++(le 4 f.done++(f.data++le 4 (mz (jT f))))))))=([75,70,f.kind]++le 4 f.view++le 4 f.seq++[f.block,f.count]++le 4 f.aQ++le 4 f.done)++(f.data++le 4 (mz (jT f))) by simp]
   have o:([75,70,f.kind]++le 4 f.view++le 4 f.seq++[f.block,f.count]++le 4 f.aQ++le 4 f.done).length=21:=by rfl
   grind
  unfold m9
  rw[b,c,d,g,h,i,j,k]
 rw[EG,e,hm,beq_self_eq_true];rfl
end Fm
end
section
namespace Ma
open Go Go.Kx KM Rw Wi Fm Li Src So Re Ds
theorem HK {k:Nat} {x:qh} {view n:Int} {o:nO} (ok:bB k x.S) (hk:k+60< 2 ^ 28) (a:uz x.S/\x.S.n.seq+1<=2 ^ 30/\x.S.n.aQ+1<=2 ^ 30) (d:Da x.S o) (hm:cx (jJ view n o)=true) (b:bP o.data) (j:o.data.length<=64) (g:view=x.S.n.view) (e:n=x.V.next) (c:∀i,x.V.f i=none) (h:0<x.V.size) (l:n< 2 ^ 32):BS k x (jJ view n o) (cV (jJ view n o)):=
 ⟨ok,hk,a.1,a.2.1,a.2.2,Ru hm b,CX _,by rw[cV,ko,rK];show 21+o.data.length+4<=_;omega,FJ (parts hm) b,g,e,c,h,by omega,d⟩
structure AwP (S T:KM.St):Prop where
 o1:IN S gA=true
 n1:Dd S=true
 q:S.n.seq=0
 v:S.n.view=1
 o2:IN (S.op gA).1 jn=true
 n2:Dd (S.op gA).1=true
 o3:IN ((S.op gA).1.op jn).1 pL=true
 n3:Dd ((S.op gA).1.op jn).1=true
 ck:HJ (((S.op gA).1.op jn).1.op pL).1=true
 fr:2<cG (((S.op gA).1.op jn).1.op pL).1.check.1.t.l
 ln:(((S.op gA).1.op jn).1.op pL).1.check.2.length< 1000
 op:kU ((((S.op gA).1.op jn).1.op pL).1.check.1.d.jL [])=some T
 oc:lV ((((S.op gA).1.op jn).1.op pL).1.check.1.d.jL [])=true
 ts:0<=T.n.seq/\T.n.seq<=1000
 tl:1<=T.w.p.2.2.1/\T.w.p.2.2.1<=60
 tp:fj T.c T.w.p=true
 tm:T.n.mode=1
 te:T.n.aQ=1
 tv:T.n.view< 9
 tc:HJ (T.raised 9 2)=true
 rb:(T.raise 9 2).1.w.blocks=[]
 rr:((T.raise 9 2).1.read 2).1=iJ 7
 rv:(T.raise 9 2).1.n.view=9
 rm:(T.raise 9 2).1.n.mode=2
theorem UY:∃S T,kU (fD Ni)=some S/\AwP S T:=by
 have h:=PL
 unfold Vr at h
 generalize e:kU (fD Ni)=o at h
 cases o with
 |none=>cases h
 |some S=>
  simp only[Bool.and_eq_true,beq_iff_eq] at h
  obtain⟨⟨⟨k,l⟩,m,n⟩,⟨p,q⟩,⟨r,s⟩,b⟩:=h
  unfold Vq at b
  simp only[Bool.and_eq_true,decide_eq_true_eq] at b
  obtain⟨⟨g1,i,j⟩,a⟩:=b
  generalize e2:kU ((((S.op gA).1.op jn).1.op pL).1.check.1.d.jL [])=o2 at a
  cases o2 with
  |none=>cases a
  |some T=>
   simp only[Bool.and_eq_true,beq_iff_eq,decide_eq_true_eq,List.isEmpty_iff,PG,KM.bD] at a
   obtain⟨⟨k1,⟨k2,k3⟩,t⟩,⟨u,v⟩,w,k8,⟨k9,c⟩,f,g⟩:=a
   exact⟨S,T,rfl,k,l,m,n,p,q,r,s,g1,i,j,e2,k1,k2,k3,t,u,v,w,k8,k9,c,f,g⟩
def aS0:KM.Sc:=⟨1,4,0,0,0,0,[]⟩
def Yx:KM.Sc:=⟨1,4,0,1,0,0,[gA]⟩
def Yy:KM.Sc:=⟨1,4,1,2,0,0,[gA,jn]⟩
def BV:KM.Sc:=⟨1,4,1,3,0,0,[gA,jn,pL]⟩
def Nj:oW:=jJ 1 1 gA
def DH:oW:=jJ 1 2 jn
def Eg:oW:=jJ 1 3 pL
theorem wX:cx Nj=true/\cx DH=true/\cx Eg=true:=by decide+kernel
theorem Yz:BV.out=[cV Nj,cV DH,cV Eg]:=rfl
theorem BW:(bP gA.data/\bP jn.data)/\bP pL.data:=⟨⟨CW 7,λx a=>(by cases a)⟩,CW 8⟩
theorem zp:(gA.data.length<=64/\jn.data.length<=64)/\pL.data.length<=64:=⟨⟨by rw[show gA.data=iJ 7 from rfl,vV];omega,by decide⟩,by rw[show pL.data=iJ 8 from rfl,vV];omega⟩
theorem JL:uJ aS0/\uJ Yx/\uJ Yy/\uJ BV:=by
 refine⟨⟨by decide,by decide,by decide,by decide,by decide,by decide,by decide,by decide⟩,⟨by decide,by decide,by decide,by decide,by decide,by decide,by decide,by decide⟩,⟨by decide,by decide,by decide,by decide,by decide,by decide,by decide,by decide⟩,⟨by decide,by decide,by decide,by decide,by decide,by decide,by decide,by decide⟩⟩
theorem aK:ug aS0 gA/\ug Yx jn/\ug Yy pL:=
 ⟨⟨wX.1,by decide,by decide,by decide,BW.1.1,zp.1.1⟩,⟨wX.2.1,by decide,by decide,by decide,BW.1.2,zp.1.2⟩,⟨wX.2.2,by decide,by decide,by decide,BW.2,zp.2⟩⟩
theorem aAC:Gg BV:=λi o a=>by
 match i,a with
 | 0,a=>have e:gA=o:=Option.some.inj a;subst e;exact⟨wX.1,by decide,by decide⟩
 | 1,a=>have e:jn=o:=Option.some.inj a;subst e;exact⟨wX.2.1,by decide,by decide⟩
 | 2,a=>have e:pL=o:=Option.some.inj a;subst e;exact⟨wX.2.2,by decide,by decide⟩
end Ma
end
section
namespace So
open Go Go.Kx KM Rw Ge Sc Rg Mo Ds Rc
theorem CY {k:Nat} {S:KM.St} (ok:bB k S) (hk:k+60< 2 ^ 28) (P:vI S):bB (k+40) S.check.1:=by
 obtain⟨o1,o2,o3,g,i,n,s,t,u⟩:=ok.emit (by omega)
 obtain⟨p1,p2,p3,p4,p5⟩:=P
 rw[vH g i]
 unfold Al yJ w9 at p5 ⊢
 rw[←g] at p2 p3 p5
 rw[←i] at p2 p3 p4
 rw[←n] at p1
 generalize S.emit=T at o1 p1 p2 p3 p4 p5 ⊢
 have b:zk (k+8) T 5 (T.bV false):=tP o1.toji p1 p2 p3 false
 have j:bB (k+13) (T.bJ (T.bV false).1):=o1.zl b.ok b.len (by omega)
 have e:zk (k+13) (T.bJ (T.bV false).1) 5 ((T.bJ (T.bV false).1).bV true):=tP j.toji p1 p2 p3 true
 generalize o:T.bV false=r0 at*
 generalize q:(T.bJ r0.1).bV true=r1 at*
 have f:bB (k+19) (T.bJ r1.1.flush):=o1.zl e.ok.flush ((iz e.ok).trans (e.len.trans b.len)) (by omega)
 have l:fW T.c ((T.bJ r1.1.flush).mX r0.2 r1.2)=true:=p5
 obtain⟨d1,d2⟩:=Nd f.toji l p4
 have m:fC ((T.bJ r0.1).bJ r1.1.flush) r0.2 r1.2=fC (T.bJ r1.1.flush) r0.2 r1.2:=rfl
 rw[m]
 have a:bB (k+24) ({T.bJ r1.1.flush with d:=fC (T.bJ r1.1.flush) r0.2 r1.2}:KM.St):=f.zl d1 d2 (by omega)
 generalize fC (T.bJ r1.1.flush) r0.2 r1.2=r at a ⊢
 exact⟨⟨a.c,a.dk.mono (by omega),a.len,Kl a.im,Kk a.tb,a.p1,a.p2,⟨a.cZ.1,by have:=a.cZ.2;show T.w.p.2.2.1<=((k+40:Nat):Int);have h:T.w.p.2.2.1<=((k+24:Nat):Int):=this;omega⟩,a.prev,a.ue⟩,a.lt,a.it,a.bl,a.xy,a.fit⟩
end So
namespace Ma
open Go Go.Kx KM Rw Wi Fm Li Src So Re Ds
def aw (S T:KM.St):Nat->qh
 | 0=>x0 S 4
 | 1=>{x0 S 4 with s:=Yx}
 | 2=>{x0 S 4 with s:=Yy}
 | 3=>{x0 S 4 with s:=BV}
 | 4=>{x0 S 4 with s:=BV,up:=[cV Nj,cV DH,cV Eg]}
 | 5=>⟨(S.op gA).1,⟨4,S.n.seq+1+1,λ_=>none⟩,BV,[cV DH,cV Eg],[cV (S.op gA).1.nQ]⟩
 | 6=>⟨((S.op gA).1.op jn).1,⟨4,S.n.seq+1+1+1,λ_=>none⟩,BV,[cV Eg],[cV (S.op gA).1.nQ,cV ((S.op gA).1.op jn).1.nQ]⟩
 | 7=>⟨(((S.op gA).1.op jn).1.op pL).1,⟨4,S.n.seq+1+1+1+1,λ_=>none⟩,BV,[],[cV (S.op gA).1.nQ,cV ((S.op gA).1.op jn).1.nQ,cV (((S.op gA).1.op jn).1.op pL).1.nQ]⟩
 | 8=>⟨(((S.op gA).1.op jn).1.op pL).1.check.1,⟨4,S.n.seq+1+1+1+1,λ_=>none⟩,BV,[],[cV (S.op gA).1.nQ,cV ((S.op gA).1.op jn).1.nQ,cV (((S.op gA).1.op jn).1.op pL).1.nQ]⟩
 | 9=>⟨T,⟨4,T.n.seq+1,λ_=>none⟩,BV,[],[cV (S.op gA).1.nQ,cV ((S.op gA).1.op jn).1.nQ,cV (((S.op gA).1.op jn).1.op pL).1.nQ]⟩
 |_=>⟨(T.raise 9 2).1,⟨4,T.n.seq+1,λ_=>none⟩,BV,[],[cV (S.op gA).1.nQ,cV ((S.op gA).1.op jn).1.nQ,cV (((S.op gA).1.op jn).1.op pL).1.nQ]⟩
section
variable {S T:KM.St}
theorem d0:zo (1,2,0,7,Sl.nil) (aw S T 0) (aw S T 1) (0,0):=tS (IJ (x:=aw S T 0) (b:=2) (y:=7) JL.1 aK.1)
theorem d1:zo (3,0,0,0,Sl.nil) (aw S T 1) (aw S T 2) (0,0):=tS (UQ (x:=aw S T 1) JL.2.1 aK.2.1)
theorem d2:zo (1,2,0,8,Sl.nil) (aw S T 2) (aw S T 3) (0,0):=tS (IJ (x:=aw S T 2) (b:=2) (y:=8) JL.2.2.1 aK.2.2)
theorem d3:zo (4,0,0,0,Sl.nil) (aw S T 3) (aw S T 4) (0,3):=tS (UR (x:=aw S T 3) JL.2.2.2 aAC (by show 0+BV.out.length<=64;rw[Yz];decide) (λf hf=>by
 have hf:f∈BV.out:=hf
 have a:=zp
 rw[Yz] at hf
 simp only[List.mem_cons,List.not_mem_nil,or_false] at hf
 rcases hf with rfl|rfl|rfl<;>rw[cV,ko,rK]
 ·show 21+gA.data.length+4<=_;omega
 ·show 21+jn.data.length+4<=_;omega
 ·show 21+pL.data.length+4<=_;omega))
variable (P:AwP S T) (ok:bB 63 S)
include P ok
theorem k1:bB 89 (S.op gA).1/\(S.op gA).1.n.seq=1/\(S.op gA).1.n.view=1:=by
 obtain⟨p1,p2,p3,p4,p5,b,a,_⟩:=BR ok (by decide) (yr P.n1).1 (BU P.o1)
 exact⟨p1,by rw[p5,P.q];rfl,by rw[a,P.v]⟩
theorem k2:bB 115 ((S.op gA).1.op jn).1/\((S.op gA).1.op jn).1.n.seq=2/\((S.op gA).1.op jn).1.n.view=1:=by
 obtain⟨a,d,e⟩:=k1 P ok
 obtain⟨p1,p2,p3,p4,p5,b,c,_⟩:=BR a (by decide) (yr P.n2).1 (BU P.o2)
 grind
theorem k3:bB 141 (((S.op gA).1.op jn).1.op pL).1/\(((S.op gA).1.op jn).1.op pL).1.n.seq=3/\(((S.op gA).1.op jn).1.op pL).1.n.view=1:=by
 obtain⟨a,d,e⟩:=k2 P ok
 obtain⟨p1,p2,p3,p4,p5,b,c,_⟩:=BR a (by decide) (yr P.n3).1 (BU P.o3)
 grind
theorem d4:zo (6,0,0,0,Sl.nil) (aw S T 4) (aw S T 5) (0,1):=by
 have C:BS 63 (aw S T 4) Nj (cV Nj):=HK (x:=aw S T 4) ok (by decide) (yr P.n1) (BU P.o1) wX.1 BW.1.1 zp.1.1 P.v.symm (by show(1:Int)=S.n.seq+1;rw[P.q];rfl) (λ_=>rfl) (show 0< 4 by decide) (by decide)
 have h:=tS (FM (c:=0) (d:=0) (q:=Sl.nil) (fs:=[cV DH,cV Eg]) C rfl (show 0+1<=64 by decide) (by decide))
 have e:((aw S T 4).S.op (fT Nj)).1.n.seq=1:=(k1 P ok).2.1
 rw[e] at h
 exact h
theorem d5:zo (6,0,0,0,Sl.nil) (aw S T 5) (aw S T 6) (0,2):=by
 have C:BS 89 (aw S T 5) DH (cV DH):=HK (x:=aw S T 5) (k1 P ok).1 (by decide) (yr P.n2) (BU P.o2) wX.2.1 BW.1.2 zp.1.2 (k1 P ok).2.2.symm (by show(2:Int)=S.n.seq+1+1;rw[P.q];rfl) (λ_=>rfl) (show 0< 4 by decide) (by decide)
 have h:=tS (FM (c:=0) (d:=0) (q:=Sl.nil) (fs:=[cV Eg]) C rfl (show 1+1<=64 by decide) (by decide))
 have e:((aw S T 5).S.op (fT DH)).1.n.seq=2:=(k2 P ok).2.1
 rw[e] at h
 exact h
theorem d6:zo (6,0,0,0,Sl.nil) (aw S T 6) (aw S T 7) (0,3):=by
 have C:BS 115 (aw S T 6) Eg (cV Eg):=HK (x:=aw S T 6) (k2 P ok).1 (by decide) (yr P.n3) (BU P.o3) wX.2.2 BW.2 zp.2 (k2 P ok).2.2.symm (by show(3:Int)=S.n.seq+1+1+1;rw[P.q];rfl) (λ_=>rfl) (show 0< 4 by decide) (by decide)
 have h:=tS (FM (c:=0) (d:=0) (q:=Sl.nil) (fs:=[]) C rfl (show 2+1<=64 by decide) (by decide))
 have e:((aw S T 6).S.op (fT Eg)).1.n.seq=3:=(k3 P ok).2.1
 rw[e] at h
 exact h
theorem d7:zo (12,0,0,0,Sl.nil) (aw S T 7) (aw S T 8) (0,((((S.op gA).1.op jn).1.op pL).1.check.2.length:Int)):=Rs (x:=aw S T 7) (k3 P ok).1 (by decide) (BT P.ck) P.fr (by have:=P.ln;show(((S.op gA).1.op jn).1.op pL).1.check.2.length<_;omega)
theorem d8:zo (18,0,0,0,Sl.nil) (aw S T 8) (aw S T 9) (0,1):=by
 have h:=IK (x:=aw S T 8) (T:=T) (b:=0) (d:=0) (kk:=57) (CY (k3 P ok).1 (by decide) (BT P.ck)) (by decide) (by decide) P.op P.oc (show 1<=4 by decide) (show 4<=16 by decide) ⟨P.ts.1,by have:=P.ts.2;omega⟩ ⟨P.tl.1,by have:=P.tl.2;omega⟩ P.tp
 rw[P.te] at h
 exact h
end
end Ma
end
section
namespace So
open Go Go.Kx KM Rw Ge Sc Rg Mo Ds Rc
section
variable {n k:Nat} {M M':Im} {D:Dk} {c:ax}
theorem HL {aG:Bool}:∀(l:List Int) (i:Nat) (M:Im),dJ c D aG i l M=some M'->Ig.dN n M->i+l.length<=(M.bR aG).length->Ig.dN n M'
 |[],i,M,h,ok,_=>by rw[FD] at h;grind
 |x::l,i,M,h,ok,b=>by
  obtain⟨refs,hrefs,g,d⟩:=DW h
  rw[List.length_cons] at b
  have f:refs.length=15:=by
   rw[oU] at hrefs
   split at hrefs
   ·have:=Option.some.inj hrefs;rw[←this,Pa.xx]
   grind
  have e:(bt (M.cP aG) 15 (M.bR aG) (i:Int)).length<=15:=by
   unfold bt;grind
  have a:=ok.load (k:=i) (aG:=aG) (ys:=refs.take (bt (M.cP aG) 15 (M.bR aG) i).length) (by omega) (by simp;omega)
  refine HL l (i+1) _ d a ?_
  have:((M.load aG i (refs.take (bt (M.cP aG) 15 (M.bR aG) i).length)).bR aG).length=(M.bR aG).length:=by cases aG<;>simp[Im.bR,Im.load]
  omega
theorem Rv (ok:Ig.dN n M) (aG:Bool) (b a:Int):Ig.dN n (M.lay aG b a):=by unfold Im.lay;split;exact ok.put _ _ _;exact ok
theorem Rx (ok:Ig.dN n M) (aG:Bool) (b m:Int):Ig.dN n (M.cut aG b m).1:=by unfold Im.cut;split;exact(Ig.GQ ok _).1;exact ok
theorem W8 (ok:Ig.dN n M) (b o a:Int):Ig.dN n (M.move b o a):=by
 unfold Im.move
 split
 ·split
  ·exact ok.put _ _ _
  ·split
   ·exact ok.put _ _ _
   ·exact ok
 ·exact ok
theorem W9 {f:KM.Fd} (ok:Ig.dN n f.m) (i:eG) (a:Int):Ig.dN n (f.jN i a).m:=by
 unfold KM.Fd.jN
 split;·exact Rv ok _ _ _
 split;·exact Rx ok _ _ _
 split;·exact(Ig.AL ok _).1
 split;·exact W8 ok _ _ _
 split;·exact Rv ok _ _ _
 split;·exact Rx ok _ _ _
 grind
theorem Kw:∀(l:List eG) {f:KM.Fd} (ok:Ig.dN n f.m) (a:Int),Ig.dN n (f.items a l).m
 |[],f,ok,a=>ok
 |i::l,f,ok,a=>Kw l (W9 ok i _) _
theorem UZ {f:KM.Fd} (ok:Ig.dN n f.m) (m:Int):Ig.dN n (f.dI m).m:=by
 unfold KM.Fd.dI
 split
 ·exact(Ig.xT ok _).1
 ·exact ok
theorem Ky:∀(l:List (Pos×Rec)) {f:KM.Fd} (ok:Ig.dN n f.m) (c:ax),Ig.dN n (l.foldl (KM.Fd.dh c) f).m
 |[],f,ok,c=>ok
 |x::l,f,ok,c=>Ky l (f:=f.dh c x) (Kw x.2.items (UZ ok x.2.aN) _) c
theorem IP {S:KM.St} (ok:bu k D) (C:kU D=some S) (e:1<=S.w.p.2.2.1/\S.w.p.2.2.1<=k+3):bB (k+3) S:=by
 obtain⟨c,id,aN,sl,rg,slot,K,m1,l,en,f,P⟩:=CU C
 have v:=Na P.mX
 have h:=parts v
 have a:bE c:=(Su.kt P.sm).1
 have T:=gI a
 have L:=a.1;have N:=a.2.1;have O:=a.2.2.1
 have Q:=qV a
 have E:=jQ.oI a
 have R:=qT a
 have r:=Ig.KX (n:=c.1.toNat) (by omega)
 have A:((mF c.1.toNat).bR false).length=(bc c).toNat:=by
  have:=EE c (by omega)
  show(List.replicate (nP c.1.toNat 15).toNat false).length=_
  grind
 have i0:=HL (n:=c.1.toNat) rg.lb 0 _ P.p0 r (by rw[A];have:=h.lb.1;omega)
 have e1:(K.bR true).length=(bc c).toNat:=by
  have V:=(i0.bR true).d
  have W:=i0.cP true
  have:=EE c (by omega)
  grind
 have i1:=HL rg.lo 0 _ P.p1 i0 (by rw[e1];have:=h.lo.1;omega)
 have y:iE c.2.1.toNat (⟨rg.bk,List.replicate c.2.1.toNat 0⟩:Tb):=⟨by show rg.bk.length=_;have:=h.bk;omega,by simp,by simp,λu hu=>h.us u hu⟩
 have x:Ig.dN c.1.toNat f.m:=by rw[P.fe];exact(Ig.xT (Ky l i1 c) _).1
 have z:iE c.2.1.toNat f.t:=by rw[P.fe];exact FE l y c
 have G:=P.pos
 simp only[fj,Bool.and_eq_true,KM.bD] at G
 have H:=Sc.kX a (s:=en.1) (by omega)
 have hlen:=P.len
 have g:(List.replicate 64 (0:Int)).length=64:=by simp
 have j:=ok.put (at_:=aZ c en.1+en.2.1) (b:=List.replicate 64 0) ⟨by omega,by omega⟩ g (BH _)
 have l2:=nY ok (at_:=aZ c en.1+en.2.1) (b:=List.replicate 64 0) ⟨by omega,by omega⟩ g
 have o:=j.put (at_:=(aN+1)% 2) (b:=eZ c id (aN+1)) (by grind) Su.rI (Su.wN P.sm)
 have I:=nY j (at_:=(aN+1)% 2) (b:=eZ c id (aN+1)) (by grind) Su.rI
 have q:=o.flush
 have J:=(iz o).trans (I.trans l2)
 have B:=P.S_
 rw[B] at e ⊢
 generalize((D.put (aZ c en.1+en.2.1) (List.replicate 64 0)).put ((aN+1)% 2) (eZ c id (aN+1))).flush=U at q J ⊢
 refine⟨⟨a,q,?_,x,z.refs c f.m.refs,?_,?_,e,?_,?_⟩,?_,λi hi=>?_,rfl,λb F=>?_,by simp⟩
 ·grind
 ·show 0<=en.1/\en.1<c.2.1;omega
 ·show 0<=en.2.1/\en.2.1<=c.2.2;omega
 ·show 0<=en.2.2.2.1/\en.2.2.2.1<=4294967295;omega
 ·show 1<=aN+1/\aN+1<=2147483647;omega
 ·show en.2.1<c.2.2;omega
 ·cases hi
 ·cases F
end
end So
end
end Go.Proofs.YtigjebgjphmkoaaGreat
section
namespace KM
def JM:Nat->Bool
 | 0=>true
 |n+1=>JM n&&Ku ((n:Int)+1,8,24)
theorem CZ:JM 20=true:=by decide+kernel
theorem Ca:∀(n i:Nat),JM n=true->i<n->Ku ((i:Int)+1,8,24)=true
 | 0,i,_,h=>by omega
 |n+1,i,h,hi=>by
  rw[JM,Bool.and_eq_true] at h
  by_cases e:i=n
  ·grind
  ·exact Ca n i h.1 (by omega)
end KM
end
namespace Go.Proofs.YtigjebgjphmkoaaGreat
open Tryz
section
namespace Ma
open Go Go.Kx KM Rw Wi Fm Li Src So Re Ds
theorem Ua {H:PH} {y:Int×Int} {b:Addr} {K:Int->Prop} (c:cI H b 2=some (yL y)) (a:K y.1):aH (.int .i64) H (b.add 0) K:=⟨y.1,jo c rfl,a⟩
theorem Y0 {H:PH} {y:Int×Int} {b:Addr} {K:Int->Prop} (c:cI H b 2=some (yL y)) (a:K y.2):aH (.int .i64) H (b.add 1) K:=⟨y.2,jo c rfl,a⟩
def Y1:List E5:=[(1,2,0,7,Sl.nil),(3,0,0,0,Sl.nil),(1,2,0,8,Sl.nil),(4,0,0,0,Sl.nil),(6,0,0,0,Sl.nil),(6,0,0,0,Sl.nil),(6,0,0,0,Sl.nil),(12,0,0,0,Sl.nil),(18,0,0,0,Sl.nil),(13,9,0,0,Sl.nil)]
def awY (n:Int):List (Int×Int):=[(0,0),(0,0),(0,0),(0,3),(0,1),(0,2),(0,3),(0,n),(0,1),(0,0)]
theorem aAD (x:E5):(e5 x).length=5:=rfl
theorem Gl {Q:Bool->PH->Prop} {H B:PH} {L:List Ob} (h:aA H (aC B::L)) (hQ:∀H',Ext B H'->Q true H'):oE H Q:=by
 obtain⟨S,T,hS,P⟩:=UY
 have h0:Ku Ni=true:=Ca 20 3 CZ (by decide)
 have hc:bE Ni:=rG.1 (by decide)
 refine Gj h λH1 h1=>?_
 refine IM (c:=Ni) (size:=4) (S:=S) h1 hc (by decide) (by decide) h0 hS λA M w B2 H2 R eA hB ok hl h2=>aF rfl ?_
 refine jQ.zg (enc:=e5) (sz:=5) (l:=Y1) h2 rfl rfl λr7 H3 z=>?_
 obtain⟨B3,u,hv,z⟩:=z.fz
 have K:=hv.lX aAD
 have s:bB 60 T:=IP (k:=57) (((CY (k3 P ok).1 (by decide) (BT P.ck)).dk.jL []).1.mono (by decide)) P.op ⟨P.tl.1,by have:=P.tl.2;omega⟩
 have D:zo (13,9,0,0,Sl.nil) (aw S T 9) (aw S T 10) (0,0):=MI (x:=aw S T 9) s (by decide) P.tm (by decide) P.tv (BT P.tc)
 refine UT (xs:=aw S T) (ys:=awY ((((S.op gA).1.op jn).1.op pL).1.check.2.length:Int)) (es:=Y1) z eA (hB.ext u) K rfl (by decide) (λi e y he b=>?_) λA4 Y w4 q W H4 G E U t N I=>?_
 ·match i,he,b with
  | 0,he,b=>cases he;cases b;exact d0
  | 1,he,b=>cases he;cases b;exact d1
  | 2,he,b=>cases he;cases b;exact d2
  | 3,he,b=>cases he;cases b;exact d3
  | 4,he,b=>cases he;cases b;exact d4 P ok
  | 5,he,b=>cases he;cases b;exact d5 P ok
  | 6,he,b=>cases he;cases b;exact d6 P ok
  | 7,he,b=>cases he;cases b;exact d7 P ok
  | 8,he,b=>cases he;cases b;exact d8 P ok
  | 9,he,b=>cases he;cases b;exact D
  |i+10,he,b=>simp[Y1] at he
 ·rw[←G]
  refine wW I (aE ?_)
  rw[N.bL]
  refine aF rfl (aF rfl ?_)
  have Z:=xA (S:=T) (view:=9) (mode:=2) P.tm (by decide) (.inr rfl) P.tv s.dk.off
  have p:bB 100 (T.raise 9 2).1:=by rw[Z];exact CY (vg s 9 2) (by decide) (BT P.tc)
  have f7:iJ 7≠[]/\iJ 7≠List.replicate 64 0:=by decide
  have o:pJ W Y.F (T.raise 9 2).1.c:=t.fr
  refine PK (S:=(T.raise 9 2).1) (vA I) E o t.wt p (by decide) P.rm P.rb P.rr f7.1 f7.2 λr B5 H5 j hr J=>?_
  have g:=(N.ext j).ext J.base
  refine su g (by decide) (show(6:Int)<((10:Nat):Int) by decide) λa x f d=>?_
  cases f
  refine Ua d (aE (aW rfl (su g (by decide) (show(6:Int)<((10:Nat):Int) by decide) λa x f d=>?_)))
  cases f
  refine Y0 d (aE (aW rfl (su g (by decide) (show(8:Int)<((10:Nat):Int) by decide) λa x f d=>?_)))
  cases f
  refine Ua d (aE (aW rfl (su g (by decide) (show(8:Int)<((10:Nat):Int) by decide) λa x f d=>?_)))
  cases f
  refine Y0 d (aE (aW rfl (su g (by decide) (show(9:Int)<((10:Nat):Int) by decide) λa x f d=>?_)))
  cases f
  refine Ua d (aE (aW rfl (aE (aW rfl ?_))))
  refine Gh J λr2 B6 H6 m O C=>Ef ((hr.ext m).ext C.base) (O.ext C.base) (by rw[vV];decide) ?_
  rw[beq_self_eq_true]
  refine aE (aW rfl (qZ C (o.ext (j.trans m)) p λB7 H7 v h7=>?_))
  have ev:((T.raise 9 2).1.status.2.1==9)=true:=by show((T.raise 9 2).1.n.view==9)=true;rw[P.rv];rfl
  rw[ev]
  refine aE (aW rfl (qZ h7 (o.ext (j.trans (m.trans v))) p λB8 X V h8=>?_))
  have em:((T.raise 9 2).1.status.1==2)=true:=by show((T.raise 9 2).1.n.mode==2)=true;rw[P.rm];rfl
  rw[em]
  exact hQ X (R.trans (u.trans (U.trans (j.trans (m.trans (v.trans (V.trans h8.base)))))))
end Ma
end
section
namespace So
open Go Go.Kx KM Rw Ge Sc Rg Mo Ds Rc
theorem FO {l:List cJ} {k:Nat} (hk:k<l.length) (u:cJ):cG (l.set k u)+(if(l[k]).1=0 then 1 else 0)=cG l+(if u.1=0 then 1 else 0):=by
 unfold cG
 grind
theorem IS {l:List cJ} {k:Int} (h:jP l k=true):cG (kF l k)+1=cG l:=by
 rw[kF,if_pos h]
 rw[jP,Bool.and_eq_true,beq_iff_eq] at h
 obtain⟨a,b⟩:=Us.bD.1 h.1
 have hk:k.toNat<l.length:=by omega
 have e:l[k.toNat]=bg (0,0) l k:=by rw[Us.kB a (List.getElem?_eq_getElem hk)]
 have:=FO hk (1,(bg (0,0) l k).2)
 rw[e,h.2] at this
 simpa[wI] using this
theorem Ry (l:List cJ) (k:Int):cG (kT l k)=cG l:=by
 unfold kT
 split
 ·next h=>
  rw[Bool.and_eq_true,beq_iff_eq] at h
  obtain⟨a,b⟩:=Us.bD.1 h.1
  have hk:k.toNat<l.length:=by omega
  have e:l[k.toNat]=bg (0,0) l k:=by rw[Us.kB a (List.getElem?_eq_getElem hk)]
  have:=FO hk (2,(bg (0,0) l k).2)
  rw[e,h.2] at this
  simpa[wI] using this
 ·rfl
theorem Gn (l:List cJ) (k s:Int):cG (eC l k s)=cG l:=by
 unfold eC
 split
 ·next h=>
  rw[Bool.and_eq_true] at h
  obtain⟨a,b⟩:=Us.bD.1 h.1
  have hk:k.toNat<l.length:=by omega
  have e:l[k.toNat]=bg (0,0) l k:=by rw[Us.kB a (List.getElem?_eq_getElem hk)]
  have:=FO hk ((bg (0,0) l k).1,s)
  rw[e] at this
  have this:cG (l.set k.toNat ((bg (0,0) l k).1,s))+(if(bg (0,0) l k).1=0 then 1 else 0)=cG l+(if(bg (0,0) l k).1=0 then 1 else 0):=this
  simp only[CC]
  omega
 ·rfl
def eo (S:KM.St):Int:=if S.w.items=[] then S.w.p.2.1 else behind S.w.p.2.1 S.w.blocks.length
section
variable {k:Nat} {S:KM.St}
theorem qi (h:bB k S):cG S.emit.t.l=cG S.t.l:=by
 unfold KM.St.emit
 split
 ·rfl
 ·obtain⟨c,d,e,f,a,g,⟨i,b⟩,j⟩:=h.toji.Cv
  show cG (eC S.aY.t.l _ _)=_
  rw[Gn,a]
theorem HM (h:bB k S) (hk:k+1< 2 ^ 28):eo S.emit=eo S:=by
 obtain⟨e1,e2,e3,e4,e5,b,c,a,d⟩:=h.emit hk
 rw[eo,if_pos e2,a,eo]
theorem IT (h:bB k S) (hk:k+20< 2 ^ 28) (d:1<=S.w.p.2.1) {g:Int} (b:0<=g/\g<S.c.2.1):cG (S.cR g).t.l=cG S.t.l:=by
 have v:=h.c.2.2.2.1;have u:=h.c.2.2.2.2.1
 have hm:=w6 (g:=g) (by grind) h.toji (by omega)
 have i:=h.lt
 obtain⟨u1,x⟩:=h.toji.jM (by omega) hm (by simp) d (by grind)
 have e:=ym u1 (g:=g) b S.w.p.1
 obtain⟨j,m,n,o,a,q,⟨r,f⟩,s⟩:=e.Cv
 show cG ((S.jM [(7,0,0,g)] []).sX S.w.p.1 g).aY.t.l=_
 rw[a]
 show cG (kT (eC S.t.l _ _) _)=_
 rw[Ry,Gn]
end
end So
end
end Go.Proofs.YtigjebgjphmkoaaGreat
section
namespace KM
theorem aAI (x:Int) (b:Bs) (k w:Nat):num (x::b) (k+1) w=num b k w:=rfl
theorem rN (x:Int) (b:Bs):num (x::b) 0 1=x:=by show x+256*0=x;omega
theorem AU (v:Nat) (n:Int) (b:Bs) (k w:Nat):num (le v n++b) (k+v) w=num b k w:=by
 have h:=bO v n
 rw[num,List.drop_append,List.drop_of_length_le (by omega),List.nil_append,h,Nat.add_sub_cancel];rfl
theorem aAE (w:Nat) (n:Int) (b:Bs) (a:0<=n) (c:n< 256 ^ w):num (le w n++b) 0 w=n:=by
 rw[num,List.drop_zero,List.take_append_of_le_length (by rw[bO];exact Nat.le_refl _),List.take_of_length_le (by rw[bO];exact Nat.le_refl _),Jq w n a c]
theorem vB (n:Int) (b:Bs) (a:0<=n) (c:n<=4294967295):num (le 4 n++b) 0 4=n:=aAE 4 n b a (by omega)
theorem Rz (c:ax) (id aN:Int):∃T,eZ c id aN=75::83::c.1::c.2.1::c.2.2::(le 4 id++(le 4 aN++T)):=by
 rw[eZ,closed,pad]
 simp
theorem IU {c:ax} {id aN:Int} (h:dA c id aN=true):eJ (eZ c id aN)=some (c,id,aN):=by
 obtain⟨T,a⟩:=Rz c id aN
 have hm:=h
 simp only[dA,Bool.and_eq_true,bD] at hm
 have e1:num (eZ c id aN) 2 1=c.1:=by rw[a];simp only[aAI,rN]
 have e2:num (eZ c id aN) 3 1=c.2.1:=by rw[a];simp only[aAI,rN]
 have e3:num (eZ c id aN) 4 1=c.2.2:=by rw[a];simp only[aAI,rN]
 have e4:num (eZ c id aN) 5 4=id:=by rw[a];simp only[aAI];exact vB _ _ hm.1.2.1 (by omega)
 have e5:num (eZ c id aN) 9 4=aN:=by rw[a];simp only[aAI];rw[show(4:Nat)=0+4 from rfl,AU];exact vB _ _ (by omega) (by omega)
 rw[eJ,e1,e2,e3,e4,e5]
 grind
theorem Ub (s m l p:Int):∃T,gH s m l p=75::72::s::(le 4 m++(le 4 l++(le 4 p++T))):=by
 rw[gH,closed,pad]
 simp
theorem Uc {s m l p:Int} (h:rn s m l p=true):headD (gH s m l p)=some (s,m,l,p):=by
 obtain⟨T,a⟩:=Ub s m l p
 have hm:=h
 simp only[rn,Bool.and_eq_true,bD] at hm
 have e1:num (gH s m l p) 2 1=s:=by rw[a];simp only[aAI,rN]
 have e2:num (gH s m l p) 3 4=m:=by rw[a];simp only[aAI];exact vB _ _ (by omega) (by omega)
 have e3:num (gH s m l p) 7 4=l:=by rw[a];simp only[aAI];rw[show(4:Nat)=0+4 from rfl,AU];exact vB _ _ (by omega) (by omega)
 have e4:num (gH s m l p) 11 4=p:=by rw[a];simp only[aAI];rw[show(8:Nat)=4+4 from rfl,AU,show(4:Nat)=0+4 from rfl,AU];exact vB _ _ (by omega) (by omega)
 rw[headD,e1,e2,e3,e4]
 grind
end KM
end
section
namespace KM
theorem Cb (X b:Bs) (k w:Nat):num (X++b) (k+X.length) w=num b k w:=by
 rw[num,List.drop_append,List.drop_of_length_le (by omega),List.nil_append,Nat.add_sub_cancel];rfl
theorem Gp (i:eG):(di i).length=7:=by rfl
theorem FP (X b:Bs):∀(n k:Nat),dY (X++b) (k+X.length) n=dY b k n
 | 0,_=>rfl
 |n+1,k=>by
  rw[dY,dY,Cb,show k+X.length+1=(k+1)+X.length by omega,Cb,show k+X.length+2=(k+2)+X.length by omega,Cb,show k+X.length+3=(k+3)+X.length by omega,Cb,show k+X.length+7=(k+7)+X.length by omega,FP X b n (k+7)]
theorem Kz:∀(l:List eG) (T:Bs),(∀i∈l,0<=i.2.2.2/\i.2.2.2<=4294967295)->dY (l.flatMap di++T) 0 l.length=l
 |[],T,_=>rfl
 |i::l,T,h=>by
  have hi:=h i List.mem_cons_self
  have a:=Kz l T (by grind)
  have e:dY (di i++(l.flatMap di++T)) (0+7) l.length=l:=by
   have:=FP (di i) (l.flatMap di++T) l.length 0
   rw[Gp] at this;rw[this,a]
  rw[List.flatMap_cons,List.append_assoc,List.length_cons,dY,e]
  have e1:num (di i++(l.flatMap di++T)) 0 1=i.1:=rN _ _
  have e2:num (di i++(l.flatMap di++T)) (0+1) 1=i.2.1:=rN _ _
  have e3:num (di i++(l.flatMap di++T)) (0+2) 1=i.2.2.1:=rN _ _
  have e4:num (di i++(l.flatMap di++T)) (0+3) 4=i.2.2.2:=vB i.2.2.2 (l.flatMap di++T) hi.1 hi.2
  grind
theorem Y2 {i:eG} (h:cB i=true):0<=i.2.2.2/\i.2.2.2<=4294967295:=by
 unfold cB at h
 dsimp only at h
 by_cases c1:i.1=1∨i.1=5
 ·grind
 rw[if_neg c1] at h
 by_cases c2:i.1=2∨i.1=6
 ·grind
 rw[if_neg c2] at h
 by_cases c3:i.1=3
 ·rw[if_pos c3] at h;simp only[Bool.and_eq_true,beq_iff_eq,bD] at h;omega
 rw[if_neg c3] at h
 by_cases a:i.1=4
 ·rw[if_pos a] at h;simp only[Bool.and_eq_true,beq_iff_eq,bD] at h;omega
 rw[if_neg a] at h
 by_cases c5:i.1=7
 ·rw[if_pos c5] at h;simp only[Bool.and_eq_true,beq_iff_eq,bD] at h;omega
 grind
theorem IV:∀(l:List Bs),(∀b∈l,b.length=64)->chunks l.flatten l.length=l
 |[],_=>rfl
 |b::l,h=>by
  have a:=h b List.mem_cons_self
  rw[List.flatten_cons,List.length_cons,chunks,List.take_append_of_le_length (by omega),List.take_of_length_le (by omega),List.drop_append,List.drop_of_length_le (by omega),List.nil_append,a]
  rw[show 64- 64=0 from rfl,List.drop_zero,IV l λx c=>h x (List.mem_cons_of_mem _ c)]
theorem Nk (r:Rec):sK r=75::82::(le 4 r.aN++(le 4 r.cZ++(le 4 r.prev++((r.items.length:Int)::(r.blocks.length:Int)::(r.items.flatMap di++List.replicate (60-(16+(r.items.flatMap di).length)) 0))))):=by
 rw[sK,pad]
 simp only[List.append_assoc,List.cons_append,List.nil_append,List.length_cons,List.length_append,bO]
 grind
theorem fL (l:List eG):(l.flatMap di).length=7*l.length:=by
 induction l with
 |nil=>rfl
 |cons i l a=>rw[List.flatMap_cons,List.length_append,a,Gp,List.length_cons];omega
theorem za {r:Rec} (h:r.items.length<=6):(sK r).length=60:=by
 rw[Nk]
 simp only[List.length_cons,List.length_append,bO,List.length_replicate,fL]
 omega
theorem BX {r:Rec} (h:dH r=true):(1<=r.aN/\r.aN<=2147483647)/\(1<=r.cZ/\r.cZ<=2147483647)/\(0<=r.prev/\r.prev<=4294967295)/\(1<=(r.items.length:Int)/\(r.items.length:Int)<=6)/\(∀i∈r.items,cB i=true)/\r.blocks.length=r.items.countP bM/\∀b∈r.blocks,b.length=64:=by
 simp only[dH,Bool.and_eq_true,bD,List.all_eq_true,beq_iff_eq] at h
 exact⟨h.1.1.1.1.1.1,h.1.1.1.1.1.2,h.1.1.1.1.2,h.1.1.1.2,h.1.1.2,h.1.2,h.2⟩
def sN (r:Rec):Bs:=sK r++le 4 (cX r)
theorem HN (r:Rec):uI r=sN r++r.blocks.flatten:=by rfl
section
variable {r:Rec} (h:dH r=true) (T:Bs)
include h
theorem FQ:num (sN r++T) 0 1=75/\num (sN r++T) 1 1=82/\num (sN r++T) 2 4=r.aN/\num (sN r++T) 6 4=r.cZ/\num (sN r++T) 10 4=r.prev/\num (sN r++T) 14 1=r.items.length/\num (sN r++T) 15 1=r.blocks.length/\dY (sN r++T) 16 r.items.length=r.items:=by
 obtain⟨b,c,d,f,a,g,j⟩:=BX h
 have e:sN r++T=75::82::(le 4 r.aN++(le 4 r.cZ++(le 4 r.prev++((r.items.length:Int)::(r.blocks.length:Int)::(r.items.flatMap di++(List.replicate (60-(16+(r.items.flatMap di).length)) 0++(le 4 (cX r)++T))))))):=by
  rw[sN,Nk];simp
 rw[e]
 refine⟨rN _ _,rN _ _,?_,?_,?_,?_,?_,?_⟩
 ·simp only[aAI];exact vB _ _ (by omega) (by omega)
 ·simp only[aAI];rw[show(4:Nat)=0+4 from rfl,AU];exact vB _ _ (by omega) (by omega)
 ·simp only[aAI];rw[show(8:Nat)=4+4 from rfl,AU,show(4:Nat)=0+4 from rfl,AU];exact vB _ _ (by omega) (by omega)
 ·rfl
 ·rfl
 ·have:=FP (75::82::(le 4 r.aN++(le 4 r.cZ++(le 4 r.prev++[(r.items.length:Int),(r.blocks.length:Int)])))) (r.items.flatMap di++(List.replicate (60-(16+(r.items.flatMap di).length)) 0++(le 4 (cX r)++T))) r.items.length 0
  rw[show(75::82::(le 4 r.aN++(le 4 r.cZ++(le 4 r.prev++[(r.items.length:Int),(r.blocks.length:Int)])))).length=16 by simp[bO],Kz _ _ λi hi=>Y2 (a i hi)] at this
  simpa only[List.append_assoc,List.cons_append,List.nil_append,Nat.zero_add] using this
theorem FR:(sN r).length=64:=by
 obtain⟨a,b,c,d,e,f,g⟩:=BX h
 rw[sN,List.length_append,za (by omega),bO]
theorem PM:dV (sN r++T)=1+r.blocks.length:=by
 obtain⟨a,b,c,d,e,f,g⟩:=BX h
 obtain⟨e1,e2,_,_,_,e3,e4,_⟩:=FQ h T
 have:=List.countP_le_length (p:=bM) (l:=r.items)
 rw[dV,if_pos ⟨e1,e2,by rw[e3];omega,by rw[e3];omega,by rw[e3,e4];omega⟩,e4]
end
theorem XA {r:Rec} (h:dH r=true):wq (uI r)=some (r,cX r):=by
 obtain⟨d,e,f,g,i,j,b⟩:=BX h
 obtain⟨_,_,e1,e2,e3,e4,e5,a⟩:=FQ h r.blocks.flatten
 have c:chunks ((uI r).drop 64) r.blocks.length=r.blocks:=by
  rw[HN,List.drop_append,List.drop_of_length_le (by rw[FR h];omega),List.nil_append,FR h,Nat.sub_self,List.drop_zero,IV _ b]
 rw[←HN] at e1 e2 e3 e4 e5 a
 rw[wq]
 simp_all
end KM
end
section
namespace KM
theorem R2 {n:Int} (b:Bs) (a: -1<=n) (c:n<=4095):CB (num (le 4 n++b) 0 4)=n:=by
 by_cases h:n= -1
 ·subst h
  rfl
 ·rw[vB _ _ (by omega) (by omega),CB,if_neg (by omega)]
theorem Nl (X b:Bs):∀(n k:Nat),jV (X++b) (k+X.length) n=jV b k n
 | 0,_=>rfl
 |n+1,k=>by rw[jV,jV,Cb,show k+X.length+4=(k+4)+X.length by omega,Nl X b n (k+4)]
theorem Nm:∀(l:List Int) (T:Bs),(∀n∈l,-1<=n/\n<=4095)->jV (l.flatMap (le 4)++T) 0 l.length=l
 |[],T,_=>rfl
 |i::l,T,h=>by
  have hi:=h i List.mem_cons_self
  have a:=Nm l T (by grind)
  have e:jV (le 4 i++(l.flatMap (le 4)++T)) (0+4) l.length=l:=by
   have:=Nl (le 4 i) (l.flatMap (le 4)++T) l.length 0
   rw[bO] at this;rw[this,a]
  rw[List.flatMap_cons,List.append_assoc,List.length_cons,jV,e,R2 _ hi.1 hi.2]
theorem aAF (l:List Int):(l.flatMap (le 4)).length=4*l.length:=by
 induction l with
 |nil=>rfl
 |cons i l a=>rw[List.flatMap_cons,List.length_append,a,bO,List.length_cons];omega
theorem aAG (k:Nat):(List.replicate k (0:Int)).flatMap (le 4)=List.replicate (4*k) 0:=by
 induction k with
 |zero=>rfl
 |succ k a=>rw[List.replicate_succ,List.flatMap_cons,a,show 4*(k+1)=4+4*k by omega,←List.replicate_append_replicate];rfl
theorem IW {l:List Int} (h:l.length<=15):oT (l++List.replicate (15-l.length) 0)=oT l:=by
 rw[oT,oT,pad,pad,List.flatMap_append,aAG,List.append_assoc,List.replicate_append_replicate,List.length_append,aAF,List.length_replicate]
 grind
theorem FT {l:List Int} (h:gx l=true):oU (oT l)=some (l++List.replicate (15-l.length) 0):=by
 have hm:=h
 simp only[gx,Bool.and_eq_true,decide_eq_true_eq,List.all_eq_true,bD] at hm
 have hf:gx (l++List.replicate (15-l.length) 0)=true:=by
  simp only[gx,Bool.and_eq_true,decide_eq_true_eq,List.all_eq_true,bD,List.length_append,List.length_replicate]
  refine⟨by omega,λn a=>?_⟩
  rcases List.mem_append.1 a with a|a
  ·exact hm.2 n a
  ·rw[(List.mem_replicate.1 a).2];omega
 have e:jV (oT l) 0 15=l++List.replicate (15-l.length) 0:=by
  rw[←IW hm.1,oT,closed,pad,List.append_assoc]
  have:=Nm (l++List.replicate (15-l.length) 0) (List.replicate (60-((l++List.replicate (15-l.length) 0).flatMap (le 4)).length) 0++le 4 (mz (pad 60 ((l++List.replicate (15-l.length) 0).flatMap (le 4))))) (by grind)
  rw[show(l++List.replicate (15-l.length) (0:Int)).length=15 by rw[List.length_append,List.length_replicate];omega] at this
  exact this
 rw[oU,e,hf,IW hm.1,beq_self_eq_true];rfl
theorem HO:∀(l:List Int),(∀x∈l,x=0∨x=1)->iD l.length (eN l)=l/\0<=eN l/\eN l< 2 ^ l.length
 |[],_=>⟨rfl,Int.le_refl 0,by decide⟩
 |x::l,h=>by
  obtain⟨i1,i2,i3⟩:=HO l λy a=>h y (List.mem_cons_of_mem _ a)
  have b:=h x List.mem_cons_self
  have e1:(x+2*eN l)% 2=x:=by omega
  have e2:(x+2*eN l)/ 2=eN l:=by omega
  refine⟨by rw[List.length_cons,eN,iD,e1,e2,i1],by rw[eN];omega,?_⟩
  rw[eN,List.length_cons,Int.pow_succ];omega
theorem HP (X b:Bs):∀(n k:Nat),iZ (X++b) (k+X.length) n=iZ b k n
 | 0,_=>rfl
 |n+1,k=>by rw[iZ,iZ,Cb,show k+X.length+1=(k+1)+X.length by omega,Cb,show k+X.length+5=(k+5)+X.length by omega,HP X b n (k+5)]
theorem zc (u:cJ):(mq u).length=5:=by rfl
theorem Nn:∀(l:List cJ) (T:Bs),(∀u∈l,0<=u.2/\u.2<=2147483647)->iZ (l.flatMap mq++T) 0 l.length=l
 |[],T,_=>rfl
 |u::l,T,h=>by
  have hi:=h u List.mem_cons_self
  have a:=Nn l T (by grind)
  have e:iZ (mq u++(l.flatMap mq++T)) (0+5) l.length=l:=by
   have:=HP (mq u) (l.flatMap mq++T) l.length 0
   rw[zc] at this;rw[this,a]
  rw[List.flatMap_cons,List.append_assoc,List.length_cons,iZ,e]
  have e1:num (mq u++(l.flatMap mq++T)) 0 1=u.1:=rN _ _
  have e2:num (mq u++(l.flatMap mq++T)) (0+1) 4=u.2:=vB u.2 (l.flatMap mq++T) hi.1 (by omega)
  rw[e1,e2]
theorem K8 {oV:Int}:∀(k:Nat) (l:List cJ),nX oV k l=true->∀u∈l,(0<=u.1/\u.1<=2)/\0<=u.2/\u.2<=2147483647
 |_,[],_=>(by simp)
 |k,v::l,h=>λu hu=>by
  rw[nX,Bool.and_eq_true] at h
  rcases List.mem_cons.1 hu with rfl|hu
  ·have:=h.1
   simp only[wG,Bool.and_eq_true,bD] at this
   exact⟨this.1.1,this.1.2⟩
  ·exact K8 (k+1) l h.2 u hu
theorem XB (r:fH):Ae r=75::67::(le 4 r.gen++(le 4 r.view++(r.mode::(le 4 r.aQ++(le 4 r.seq++(le 4 r.done++(r.pos.1::r.pos.2.1::(le 4 r.pos.2.2.1++(le 4 r.pos.2.2.2.1++(le 4 r.pos.2.2.2.2++(eN r.lb::eN r.lo::r.bk.flatMap mq))))))))))):=by
 rw[Ae];simp only[List.append_assoc,List.cons_append,List.nil_append]
theorem No {c:ax} {r:fH} (h:fW c r=true):jf c (gV c r)=some r:=by
 have hm:=h
 simp only[fW,fj,gU,Bool.and_eq_true,Bool.or_eq_true,beq_iff_eq,bD,List.all_eq_true] at hm
 obtain⟨⟨⟨⟨⟨⟨⟨⟨⟨⟨m1,m2⟩,m3⟩,m4⟩,C⟩,D⟩,⟨⟨⟨⟨p1,p2⟩,p3⟩,p5⟩,p4⟩⟩,lb⟩,lo⟩,sl⟩,us⟩:=hm
 obtain⟨q,A,B⟩:=HO r.lb lb.2
 obtain⟨o1,o2,o3⟩:=HO r.lo lo.2
 obtain⟨T,a⟩:∃T,gV c r=75::67::(le 4 r.gen++(le 4 r.view++(r.mode::(le 4 r.aQ++(le 4 r.seq++(le 4 r.done++(r.pos.1::r.pos.2.1::(le 4 r.pos.2.2.1++(le 4 r.pos.2.2.2.1++(le 4 r.pos.2.2.2.2++(eN r.lb::eN r.lo::(r.bk.flatMap mq++T)))))))))))):=by
  rw[gV,closed,pad,XB];simp only[List.append_assoc,List.cons_append];exact⟨_,rfl⟩
 have d:∀(n:Int) (b:Bs),0<=n/\n<=4294967295->num (le 4 n++b) 0 4=n:=λn b m=>vB n b m.1 m.2
 have s4:∀(n:Int) (b:Bs) (k w:Nat),num (le 4 n++b) (k+4) w=num b k w:=λn b k w=>AU 4 n b k w
 have e1:num (gV c r) 2 4=r.gen:=by rw[a];exact d _ _ (by omega)
 have e2:num (gV c r) 6 4=r.view:=by
  rw[a];show num (le 4 r.gen++_) (0+4) 4=_
  rw[s4];exact d _ _ (by omega)
 have e3:num (gV c r) 10 1=r.mode:=by rw[a];exact(s4 _ _ 4 1).trans ((s4 _ _ 0 1).trans (rN _ _))
 have e4:num (gV c r) 11 4=r.aQ:=by rw[a];exact(s4 _ _ 5 4).trans ((s4 _ _ 1 4).trans (d _ _ (by omega)))
 have e5:num (gV c r) 15 4=r.seq:=by rw[a];exact(s4 _ _ 9 4).trans ((s4 _ _ 5 4).trans ((s4 _ _ 0 4).trans (d _ _ (by omega))))
 have s:num (gV c r) 19 4=r.done:=by rw[a];exact(s4 _ _ 13 4).trans ((s4 _ _ 9 4).trans ((s4 _ _ 4 4).trans ((s4 _ _ 0 4).trans (d _ _ (by omega)))))
 have t:num (gV c r) 23 1=r.pos.1:=by rw[a];exact(s4 _ _ 17 1).trans ((s4 _ _ 13 1).trans ((s4 _ _ 8 1).trans ((s4 _ _ 4 1).trans ((s4 _ _ 0 1).trans (rN _ _)))))
 have v:num (gV c r) 24 1=r.pos.2.1:=by rw[a];exact(s4 _ _ 18 1).trans ((s4 _ _ 14 1).trans ((s4 _ _ 9 1).trans ((s4 _ _ 5 1).trans ((s4 _ _ 1 1).trans (rN _ _)))))
 have x:num (gV c r) 25 4=r.pos.2.2.1:=by rw[a];exact(s4 _ _ 19 4).trans ((s4 _ _ 15 4).trans ((s4 _ _ 10 4).trans ((s4 _ _ 6 4).trans ((s4 _ _ 2 4).trans (d _ _ (by omega))))))
 have f:num (gV c r) 29 4=r.pos.2.2.2.1:=by rw[a];exact(s4 _ _ 23 4).trans ((s4 _ _ 19 4).trans ((s4 _ _ 14 4).trans ((s4 _ _ 10 4).trans ((s4 _ _ 6 4).trans ((s4 r.pos.2.2.1 _ 0 4).trans (d _ _ (by omega)))))))
 have g:num (gV c r) 33 4=r.pos.2.2.2.2:=by rw[a];exact(s4 _ _ 27 4).trans ((s4 _ _ 23 4).trans ((s4 _ _ 18 4).trans ((s4 _ _ 14 4).trans ((s4 _ _ 10 4).trans ((s4 _ _ 4 4).trans ((s4 _ _ 0 4).trans (d _ _ (by omega))))))))
 have i:num (gV c r) 37 1=eN r.lb:=by rw[a];exact(s4 _ _ 31 1).trans ((s4 _ _ 27 1).trans ((s4 _ _ 22 1).trans ((s4 _ _ 18 1).trans ((s4 _ _ 14 1).trans ((s4 _ _ 8 1).trans ((s4 _ _ 4 1).trans ((s4 _ _ 0 1).trans (rN _ _))))))))
 have j:num (gV c r) 38 1=eN r.lo:=by rw[a];exact(s4 _ _ 32 1).trans ((s4 _ _ 28 1).trans ((s4 _ _ 23 1).trans ((s4 _ _ 19 1).trans ((s4 _ _ 15 1).trans ((s4 _ _ 9 1).trans ((s4 _ _ 5 1).trans ((s4 _ _ 1 1).trans (rN _ _))))))))
 have l:iZ (gV c r) 39 r.bk.length=r.bk:=by
  have z:(75::67::(le 4 r.gen++(le 4 r.view++(r.mode::(le 4 r.aQ++(le 4 r.seq++(le 4 r.done++(r.pos.1::r.pos.2.1::(le 4 r.pos.2.2.1++(le 4 r.pos.2.2.2.1++(le 4 r.pos.2.2.2.2++[eN r.lb,eN r.lo])))))))))):Bs).length=39:=by simp[bO]
  have:=HP (75::67::(le 4 r.gen++(le 4 r.view++(r.mode::(le 4 r.aQ++(le 4 r.seq++(le 4 r.done++(r.pos.1::r.pos.2.1::(le 4 r.pos.2.2.1++(le 4 r.pos.2.2.2.1++(le 4 r.pos.2.2.2.2++[eN r.lb,eN r.lo])))))))))):Bs) (r.bk.flatMap mq++T) r.bk.length 0
  rw[z,Nn _ _ λu hu=>(K8 0 r.bk us u hu).2] at this
  rw[a]
  simpa only[List.append_assoc,List.cons_append,List.nil_append,Nat.zero_add] using this
 have e:(bc c).toNat=r.lb.length:=by have:=lb.1;omega
 have o:(bc c).toNat=r.lo.length:=by have:=lo.1;omega
 have p:c.2.1.toNat=r.bk.length:=by omega
 have y:(⟨r.gen,r.view,r.mode,r.aQ,r.seq,r.done,(r.pos.1,r.pos.2.1,r.pos.2.2.1,r.pos.2.2.2.1,r.pos.2.2.2.2),r.lb,r.lo,r.bk⟩:fH)=r:=rfl
 rw[jf]
 simp only[e1,e2,e3,e4,e5,s,t,v,x,f,g,i,j,p,l]
 rw[e,q,←e,o,o1]
 simp only[y,h,beq_self_eq_true,Bool.and_self,if_true]
end KM
end
section
namespace KM
def Alike (U:Int->Prop) (D D':Dk):Prop:=∀a,U a->D.sec a=D'.sec a
theorem HQ {D:Dk}:∀(l:List Bs) (a:Int),(∀(i:Nat) (b:Bs),l[i]?=some b->D.sec (a+i)=b)->D.dQ a l.length=l.flatten
 |[],_,_=>rfl
 |b::l,a,h=>by
  have d:=h 0 b rfl
  rw[show a+((0:Nat):Int)=a by omega] at d
  rw[List.length_cons,Dk.dQ,d,List.flatten_cons,HQ l (a+1) λi x f=>by have:=h (i+1) x f;rwa[show a+((i+1:Nat):Int)=a+1+i by omega] at this]
def nx (p:Pos) (r:Rec):Pos:=(p.1,p.2.1+(1+(r.blocks.length:Int)),r.cZ+1,cX r,r.aN)
structure BY (c:ax) (D:Dk) (U:Int->Prop) (p:Pos) (r:Rec):Prop where
 may:dH r=true
 off:0<=p.2.1
 fit:p.2.1+(1+(r.blocks.length:Int))<=c.2.2
 sec:∀(i:Nat) (b:Bs),(cH r)[i]?=some b->D.sec (aZ c p.1+p.2.1+i)=b/\U (aZ c p.1+p.2.1+i)
 cZ:r.cZ=p.2.2.1
 prev:r.prev=p.2.2.2.1
 ue:p.2.2.2.2<=r.aN
section
variable {c:ax} {D D':Dk} {U V:Int->Prop} {p q e:Pos} {l:List (Pos×Rec)} {r:Rec}
theorem BY.one (h:BY c D U p r):gd c D p=some (r,nx p r):=by
 have d:D.sec (aZ c p.1+p.2.1)=sN r:=by
  have:=(h.sec 0 (sN r) rfl).1
  grind
 have g:dV (D.sec (aZ c p.1+p.2.1))=1+r.blocks.length:=by
  rw[d,←List.append_nil (sN r)];exact PM h.may []
 have a:D.dQ (aZ c p.1+p.2.1) (1+r.blocks.length)=uI r:=by
  have:=HQ (cH r) (aZ c p.1+p.2.1) λi b f=>(h.sec i b f).1
  rw[show(cH r).length=1+r.blocks.length by rw[cH,List.length_cons];omega] at this
  exact this
 have hf:=h.fit
 unfold gd
 rw[if_neg (by omega)]
 dsimp only
 rw[g,if_neg (by omega),show((1:Int)+(r.blocks.length:Int)).toNat=1+r.blocks.length by omega,a,XA h.may]
 dsimp only
 rw[if_pos ⟨h.cZ,h.prev,h.ue⟩]
 rfl
theorem BY.alike (h:BY c D U p r) (d:Alike U D D'):BY c D' U p r:={h with sec:=λi b a=>⟨by rw[←d _ (h.sec i b a).2];exact(h.sec i b a).1,(h.sec i b a).2⟩}
theorem BY.mono (h:BY c D U p r) (hu:∀a,U a->V a):BY c D V p r:={h with sec:=λi b d=>⟨(h.sec i b d).1,hu _ (h.sec i b d).2⟩}
structure Cw (c:ax) (D:Dk) (U:Int->Prop) (g:Int) (q:Pos) (m:Int):Prop where
 g0:0<=g
 g1:g<c.2.1
 may:rn g m q.2.2.1 q.2.2.2.1=true
 sec:D.sec (aZ c g)=gH g m q.2.2.1 q.2.2.2.1
 use:U (aZ c g)
 ue:q.2.2.2.2<=m
theorem Cw.alike {g m:Int} (h:Cw c D U g q m) (a:Alike U D D'):Cw c D' U g q m:={h with sec:=by rw[←a _ h.use];exact h.sec}
theorem Cw.mono {g m:Int} (h:Cw c D U g q m) (hu:∀a,U a->V a):Cw c D V g q m:={h with use:=hu _ h.use}
theorem Cw.at_ {g m:Int} (h:Cw c D U g q m) (d:24<=c.2.2):fK c D (g,0,q.2.2)=some (g,1,q.2.2.1,q.2.2.2.1,m):=by
 have a:=h.g0;have b:=h.g1
 unfold fK wK
 rw[if_pos (by simp only[Bool.and_eq_true,bD];omega),if_neg (by show¬(0:Int)< 0;omega)]
 show(match headD (D.sec (aZ c g)) with|none=>none|some (f,aN,cZ,prev)=>_)=_
 rw[h.sec,Uc h.may]
 dsimp only
 rw[if_pos ⟨rfl,rfl,rfl,h.ue⟩]
inductive vj (c:ax) (D:Dk) (U:Int->Prop):Pos->List (Pos×Rec)->Pos->Prop where
 |nil (p:Pos):vj c D U p [] p
 |go {p e:Pos} {r:Rec} {l:List (Pos×Rec)} (h:BY c D U p r) (hn:dC r.items=none) (t:vj c D U (nx p r) l e):vj c D U p ((p,r)::l) e
 |cR {p e:Pos} {r:Rec} {g m:Int} {l:List (Pos×Rec)} (h:BY c D U p r) (hn:dC r.items=some g) (b:Cw c D U g (nx p r) m) (t:vj c D U (g,1,(nx p r).2.2.1,(nx p r).2.2.2.1,m) l e):vj c D U p ((p,r)::l) e
def turns (l:List (Pos×Rec)):Nat:=l.countP λx=>(dC x.2.items).isSome
theorem vj.alike (h:vj c D U p l e) (a:Alike U D D'):vj c D' U p l e:=by
 induction h with
 |nil p=>exact .nil p
 |go h d t f=>exact .go (h.alike a) d f
 |cR h d b t f=>exact .cR (h.alike a) d (b.alike a) f
theorem vj.mono (h:vj c D U p l e) (hu:∀a,U a->V a):vj c D V p l e:=by
 induction h with
 |nil p=>exact .nil p
 |go h d t f=>exact .go (h.mono hu) d f
 |cR h d b t f=>exact .cR (h.mono hu) d (b.mono hu) f
theorem vj.snoc (h:vj c D U p l e) (d:BY c D U e r) (g:dC r.items=none):vj c D U p (l++[(e,r)]) (nx e r):=by
 induction h with
 |nil p=>exact .go d g (.nil _)
 |go h a t f=>exact .go h a (f d)
 |cR h a b t f=>exact .cR h a b (f d)
theorem vj.aAH {g m:Int} (h:vj c D U p l e) (d:BY c D U e r) (j:dC r.items=some g) (b:Cw c D U g (nx e r) m):vj c D U p (l++[(e,r)]) (g,1,(nx e r).2.2.1,(nx e r).2.2.2.1,m):=by
 induction h with
 |nil p=>exact .cR d j b (.nil _)
 |go h a t f=>exact .go h a (f d b)
 |cR h a i t f=>exact .cR h a i (f d b)
def zq (c:ax) (D:Dk) (N:Nat) (x:List (Pos×Rec)×Pos×Option Int):Option (List (Pos×Rec)×Pos):=match x.2.2 with
 |none=>some (x.1,x.2.1)
 |some g=>if bN g 0 (c.2.1- 1) then(mG c D N (g,0,x.2.1.2.2)).map λy=>(x.1++y.1,y.2) else some (x.1,x.2.1)
theorem IX {N:Nat} (a:fK c D p=some q):mG c D (N+1) p=zq c D N (la c D c.2.2.toNat q):=by
 rw[mG,a];rfl
theorem MK {N:Nat} (y:Pos×Rec) (x:List (Pos×Rec)×Pos×Option Int):zq c D N (y::x.1,x.2)=(zq c D N x).map λz=>(y::z.1,z.2):=by
 unfold zq
 dsimp only
 cases x.2.2 with
 |none=>rfl
 |some g=>
  dsimp only
  split
  ·rw[Option.map_map];rfl
  ·rfl
theorem vj.found (h:vj c D U p l e) (a:gd c D e=none) (o:24<=c.2.2):∀n N:Nat,c.2.2-p.2.1<=n->turns l<=N->zq c D N (la c D n p)=some (l,e):=by
 induction h with
 |nil p=>
  intro n N _ _
  cases n with
  |zero=>rfl
  |succ n=>rw[la,a];rfl
 | @go p e r l h d t f=>
   intro n N i k
   have hf:=h.fit
   cases n with
   |zero=>omega
   |succ n=>
    rw[la,h.one]
    dsimp only
    rw[d]
    show zq c D N ((p,r)::(la c D n (nx p r)).1,(la c D n (nx p r)).2)=_
    have j:turns l<=N:=by
     have:turns ((p,r)::l)=turns l:=by rw[turns,List.countP_cons,d];rfl
     omega
    rw[MK,f a n N (by show c.2.2-(p.2.1+(1+(r.blocks.length:Int)))<=n;omega) j];rfl
 | @cR p e r g m l h d b t f=>
   intro n N i k
   have hf:=h.fit
   have j:turns ((p,r)::l)=turns l+1:=by rw[turns,List.countP_cons,d];rfl
   cases n with
   |zero=>omega
   |succ n=>
    cases N with
    |zero=>omega
    |succ N=>
     rw[la,h.one]
     dsimp only
     rw[d]
     unfold zq
     dsimp only
     have s:=b.g0;have u:=b.g1
     rw[if_pos (by rw[bD];omega),IX (b.at_ o),f a c.2.2.toNat N (by show c.2.2- 1<=_;omega) (by omega)]
     rfl
end
end KM
end
section
namespace KM
section
variable {D:Dk} {k:Nat} {a x:Int} {b:Bs}
theorem yt (ok:bu k D) (h:¬(0<=x/\x<D.now.length)):D.sec x=[]:=by rw[Dk.sec,Dk.rd,if_neg h]
theorem mh (ok:bu k D) (h:0<=a/\a<D.now.length) (c:b.length=64) (g:bP b) (x:Int):(D.put a b).sec x=if x=a then b else D.sec x:=by
 have f:=ok.put h c g
 have hlen:=nY ok h c
 by_cases d:0<=x/\x<D.now.length
 ·rw[uX f (by omega),DK ok h c]
  show((D.now.set a.toNat (tq b)).getD x.toNat rH).1=_
  rw[List.getD,List.getElem?_set]
  by_cases e:x=a
  ·subst e;rw[if_pos rfl,if_pos rfl,if_pos (by omega)];exact DJ c
  ·rw[if_neg (by omega),if_neg e,uX ok d];rfl
 ·rw[yt f (by rw[hlen];exact d),yt ok d,if_neg (by intro e;subst e;exact d h)]
theorem xD:∀(l:List Bs) {D:Dk} {a:Int} {k:Nat},bu k D->0<=a->a+l.length<=D.now.length->(∀b∈l,b.length=64/\bP b)->∀x,(D.dW a l).sec x=if a<=x/\x<a+l.length then l.getD (x-a).toNat [] else D.sec x
 |[],D,a,k,ok,h,g,f,x=>by rw[Dk.dW,if_neg (by simp only[List.length_nil];omega)]
 |b::l,D,a,k,ok,h,g,f,x=>by
  have c:=f b List.mem_cons_self
  rw[List.length_cons] at g
  have d:0<=a/\a<D.now.length:=by omega
  rw[Dk.dW,xD l (ok.put d c.1 c.2) (by omega) (by rw[nY ok d c.1];omega) (λy i=>f y (List.mem_cons_of_mem _ i)) x,mh ok d c.1 c.2,List.length_cons]
  by_cases e:x=a
  ·grind
  ·by_cases e2:a+1<=x/\x<a+1+l.length
   ·rw[if_pos e2,if_pos (by omega),show(x-a).toNat=(x-(a+1)).toNat+1 by omega];rfl
   grind
theorem tT (ok:bu k D) (x:Int):D.flush.sec x=D.sec x:=by
 by_cases c:0<=x/\x<D.now.length
 ·rw[uX ok.flush (by rw[iz ok];exact c),uX ok c,xp ok]
 ·rw[yt ok.flush (by rw[iz ok];exact c),yt ok c]
def fY (D:Dk):Prop:=D.now=jg D.safe D.held
theorem fY.put (h:fY D) (ok:bu k D) (c:0<=a/\a<D.now.length) (d:b.length=64):fY (D.put a b):=by
 unfold fY at*
 rw[DK ok c d]
 show D.now.set a.toNat (tq b)=jg D.safe (D.held++[(a,tq b)])
 have e:jg D.safe (D.held++[(a,tq b)])=(jg D.safe D.held).set a.toNat (tq b):=by unfold jg;simp
 rw[e,←h]
theorem fY.dW:∀(l:List Bs) {D:Dk} {a:Int} {k:Nat},fY D->bu k D->0<=a->a+l.length<=D.now.length->(∀b∈l,b.length=64/\bP b)->fY (D.dW a l)
 |[],_,_,_,h,_,_,_,_=>h
 |b::l,D,a,k,h,ok,g,e,f=>by
  have d:=f b List.mem_cons_self
  rw[List.length_cons] at e
  have c:0<=a/\a<D.now.length:=by omega
  exact fY.dW l (h.put ok c d.1) (ok.put c d.1 d.2) (by omega) (by rw[nY ok c d.1];omega) (by grind)
theorem fY.flush (h:fY D) (ok:bu k D):fY D.flush/\D.flush.safe=D.now:=by
 unfold fY at*
 rw[xp ok]
 exact⟨h,h.symm⟩
theorem K9 (ok:bu k D) (c:0<=a/\a<D.now.length) (d:b.length=64):(D.put a b).safe=D.safe:=by rw[DK ok c d]
theorem IY:∀(l:List Bs) {D:Dk} {a:Int} {k:Nat},bu k D->0<=a->a+l.length<=D.now.length->(∀b∈l,b.length=64/\bP b)->(D.dW a l).safe=D.safe
 |[],_,_,_,_,_,_,_=>rfl
 |b::l,D,a,k,ok,g,e,f=>by
  have d:=f b List.mem_cons_self
  rw[List.length_cons] at e
  have c:0<=a/\a<D.now.length:=by omega
  rw[Dk.dW,IY l (ok.put c d.1 d.2) (by omega) (by rw[nY ok c d.1];omega) (by grind),K9 ok c d.1]
theorem Eh (safe:List iR) (held:List (Int×iR)):∀n,dv [] safe held n=(safe,false)
 | 0=>rfl
 |n+1=>by
  rw[dv,Eh safe held n]
  cases held[n]? with
  |none=>rfl
  |some w=>rfl
theorem Ia (D:Dk):D.jL []=⟨D.safe,D.safe,[],D.dq,-1,0,false⟩:=by rw[Dk.jL,Eh]
theorem R6 (ok:bu k D) {E:Dk} {m:Nat} (c:bu m E) (h:D.safe=E.now) (x:Int):(D.jL []).sec x=E.sec x:=by
 have d:=(ok.jL []).1
 have f:=(ok.jL []).2
 have hle:D.now.length=E.now.length:=by rw[←h];exact ok.safe.symm
 by_cases e:0<=x/\x<E.now.length
 ·rw[uX d (by omega),uX c e,Ia,h]
 ·rw[yt d (by omega),yt c e]
end
end KM
end
namespace Go.Proofs.YtigjebgjphmkoaaGreat
open Tryz
section
namespace Lo
open Go Go.Kx KM So
def Us (c:ax) (st:Int->Int) (s o:Int) (a:Int):Prop:=∃g x:Int,(0<=g/\g<c.2.1)/\(0<=x/\x<c.2.2)/\a=aZ c g+x/\(g=s->x<o)/\(g≠s->st g≠0)
theorem LA {c:ax} (h:24<=c.2.2) {g a x b:Int} (k:0<=x/\x<c.2.2) (i:0<=b/\b<c.2.2) (e:aZ c g+x=aZ c a+b):g=a/\x=b:=by
 have j:g*c.2.2+x=a*c.2.2+b:=by simp only[aZ] at e;omega
 have key:g=a:=by
  rcases Int.lt_trichotomy g a with f|he|d
  ·exfalso
   have:=Int.mul_le_mul_of_nonneg_right (show g+1<=a by omega) (show 0<=c.2.2 by omega)
   grind
  ·exact he
  ·exfalso
   have:=Int.mul_le_mul_of_nonneg_right (show a+1<=g by omega) (show 0<=c.2.2 by omega)
   grind
 grind
theorem Us.not {c:ax} (h:24<=c.2.2) {st:Int->Int} {s o x:Int} (a:0<=x/\x<c.2.2) (j:o<=x):¬Us c st s o (aZ c s+x):=by
 rintro⟨g,y,i,b,e,d,f⟩
 obtain⟨rfl,rfl⟩:=LA h a b e
 omega
theorem Us.free {c:ax} (h:24<=c.2.2) {st:Int->Int} {s o x g:Int} (a:0<=x/\x<c.2.2) (l:g≠s) (i:st g=0):¬Us c st s o (aZ c g+x):=by
 rintro⟨f,y,d,b,e,j,k⟩
 obtain⟨rfl,rfl⟩:=LA h a b e
 omega
theorem Us.oV {c:ax} (f:bE c) {st:Int->Int} {s o a:Int} (h:Us c st s o a):base c<=a/\a<all c:=by
 obtain⟨g,x,d,i,rfl,_⟩:=h
 have e:0<=g*c.2.2:=Int.mul_nonneg d.1 (by omega)
 have b:=Int.mul_le_mul_of_nonneg_right (show g+1<=c.2.1 by omega) (show 0<=c.2.2 by omega)
 rw[Int.add_mul] at b
 simp only[aZ,all]
 omega
theorem Us.mono {c:ax} {st b:Int->Int} {s o d o' a:Int} (h:Us c st s o a) (l:∀g,st g≠0->b g≠0) (m:s=d/\o<=o'∨s≠d/\b s≠0/\st d=0):Us c b d o' a:=by
 obtain⟨g,x,f,i,e,j,k⟩:=h
 refine⟨g,x,f,i,e,λe2=>?_,λe2=>?_⟩
 ·grind
 grind
def dP (l:List cJ) (g:Int):Int:=(bg (0,0) l g).1
theorem HR {l:List cJ} {k:Int} (h:0<=k/\k<l.length) (u:cJ) (g:Int):dP (l.set k.toNat u) g=if g=k then u.1 else dP l g:=by
 unfold dP bg
 grind
theorem vk (l:List cJ) (k s g:Int):dP (eC l k s) g=dP l g:=by
 unfold eC
 split
 ·next h=>
  rw[Bool.and_eq_true] at h
  obtain⟨a,b⟩:=Us.bD.1 h.1
  rw[CC,HR ⟨a,b⟩]
  split
  ·next e=>subst e;rfl
  ·rfl
 ·rfl
theorem LB (l:List cJ) (k g:Int):dP (kT l k) g=if g=k/\dP l k=1 then 2 else dP l g:=by
 unfold kT
 by_cases h:(BF l k&&(bg (0,0) l k).1==1)=true
 ·rw[if_pos h]
  rw[Bool.and_eq_true,beq_iff_eq] at h
  obtain⟨b,a⟩:=Us.bD.1 h.1
  rw[wI,HR ⟨b,a⟩]
  by_cases e:g=k
  ·rw[if_pos e,if_pos ⟨e,h.2⟩]
  omega
 ·rw[if_neg h,if_neg]
  rintro⟨_,a⟩
  refine h ?_
  rw[Bool.and_eq_true,beq_iff_eq]
  refine⟨Us.bD.2 ?_,a⟩
  unfold dP bg at a
  grind
theorem Cc {l:List cJ} {k:Int} (hk:0<=k/\k<l.length) (a:dP l k=0) (g:Int):dP (kF l k) g=if g=k then 1 else dP l g:=by
 have h:jP l k=true:=by
  rw[jP,Bool.and_eq_true,beq_iff_eq]
  exact⟨Us.bD.2 hk,a⟩
 rw[kF,if_pos h,wI,HR hk]
end Lo
end
section
namespace Lo
open Go Go.Kx KM So
def pM:Bs:=List.replicate 64 0
def Bg (c:ax) (D:Dk) (U:Int->Prop) (p q:Pos):Prop:=(0<p.2.1/\q=p)∨(p.2.1=0/\∃m,Cw c D U p.1 p m/\q=(p.1,1,p.2.2.1,p.2.2.2.1,m))
theorem Bg.alike {c:ax} {D D':Dk} {U V:Int->Prop} {p q:Pos} (h:Bg c D U p q) (d:KM.Alike U D D') (hu:∀a,U a->V a):Bg c D' V p q:=by
 rcases h with h|⟨b,m,f,e⟩
 ·exact .inl h
 ·exact .inr ⟨b,m,(f.alike d).mono hu,e⟩
theorem Bg.at_ {c:ax} {D:Dk} {U:Int->Prop} {p q:Pos} (h:Bg c D U p q) (b:24<=c.2.2) (f:0<=p.1/\p.1<c.2.1) (g:p.2.1<c.2.2):fK c D p=some q:=by
 rcases h with⟨a,rfl⟩|⟨a,m,d,rfl⟩
 ·unfold fK wK
  rw[if_pos (by simp only[Bool.and_eq_true,bD];omega),if_pos a]
 ·have:=d.at_ b
  grind
def EJ (c:ax) (D:Dk) (n:Int):Prop:=∀a,base c<=a->a<all c->dV (D.sec a)≠0->num (D.sec a) 6 4<n
structure Log (c:ax) (D:Dk) (st:Int->Int) (free:Nat) (p:Pos) (rg:fH) (m1:Im) (l:List (Pos×Rec)) (e:Pos) (F:KM.Fd):Prop where
 run:(l=[]/\e=rg.pos/\rg.pos.2.1=0/\D.sec (aZ c rg.pos.1)=pM)∨(1<=e.2.1/\∃q,Bg c D (Us c st p.1 p.2.1) rg.pos q/\vj c D (Us c st p.1 p.2.1) q l e)
 e1:e.1=p.1
 e2:e.2.1=p.2.1
 e3:e.2.2.1=p.2.2.1
 e4:e.2.2.2.1=p.2.2.2.1
 e5:e.2.2.2.2<=p.2.2.2.2
 fold:F=l.foldl (KM.Fd.dh c) ⟨⟨rg.bk,List.replicate c.2.1.toNat 0⟩,m1,rg.aQ,rg.seq,rg.done,rg.pos.2.2.2.2⟩
 Ib:∀g,dP F.t.l g=st g
 Cx:st p.1=1
 one:∀g,st g=1->g=p.1
 len:F.t.l.length=c.2.1.toNat
 fuel:turns l+1+free<=c.2.1
 AV:EJ c D p.2.2.1
section
variable {c:ax} {D D':Dk} {st:Int->Int} {free k:Nat} {p:Pos} {rg:fH} {m1:Im} {l:List (Pos×Rec)} {e:Pos} {F:KM.Fd}
theorem eK (f:bE c) {s x:Int} (b:0<=s/\s<c.2.1) (g:0<=x/\x<c.2.2):base c<=aZ c s+x/\aZ c s+x<all c:=by
 have d:0<=s*c.2.2:=Int.mul_nonneg b.1 (by omega)
 have a:=Int.mul_le_mul_of_nonneg_right (show s+1<=c.2.1 by omega) (show 0<=c.2.2 by omega)
 rw[Int.add_mul] at a
 simp only[aZ,all]
 omega
theorem fB (a:bE c):2<=base c:=by
 have:=a.1;have:=a.2.2.1
 simp only[base,bW,bc]
 omega
theorem Np (d:bE c) (ok:bu k D) (hlen:all c<=D.now.length) (g:0<=p.1/\p.1<c.2.1) (B:1<=p.2.1) {r:Rec} (hm:dH r=true) (A:∀b∈r.blocks,bP b) (j:∀b∈cH r,b.length=64/\bP b)
 (hf:p.2.1+(1+(r.blocks.length:Int))<=c.2.2) (n:e.1=p.1) (o:e.2.1=p.2.1) (q:r.cZ=e.2.2.1) (s:r.prev=e.2.2.2.1) (t:e.2.2.2.2<=r.aN):
 BY c (D.dW (aZ c p.1+p.2.1) (cH r)) (Us c st p.1 (p.2.1+(1+(r.blocks.length:Int)))) e r/\KM.Alike (Us c st p.1 p.2.1) D (D.dW (aZ c p.1+p.2.1) (cH r))/\
 (∀a,¬(aZ c p.1+p.2.1<=a/\a<aZ c p.1+p.2.1+(1+(r.blocks.length:Int)))->(D.dW (aZ c p.1+p.2.1) (cH r)).sec a=D.sec a):=by
 have m:=d.2.2.2.2.1
 have v:=fB d
 have u:(cH r).length=1+r.blocks.length:=by rw[cH,List.length_cons];omega
 have y:=eK d g (x:=p.2.1) (by omega)
 have z:=eK d g (x:=p.2.1+(r.blocks.length:Int)) (by omega)
 have key:=xD (cH r) (a:=aZ c p.1+p.2.1) ok (by omega) (by omega) j
 refine⟨⟨hm,by omega,by omega,λi b hi=>?_,q,s,t⟩,λa f=>?_,λa f=>?_⟩
 ·have w:=(List.getElem?_eq_some_iff.1 hi).1
  rw[n,o]
  refine⟨?_,p.1,p.2.1+i,g,by omega,by omega,by omega,by simp⟩
  grind
 ·rw[key,if_neg]
  rw[u]
  intro h
  have:a=aZ c p.1+(a-aZ c p.1):=by omega
  rw[this] at f
  exact Us.not m (by omega) (by omega) f
 grind
theorem Ud {f:KM.Fd} {i:eG} (hi:i.1≠7) (a:Int):(f.jN i a).t=f.t:=by
 unfold KM.Fd.jN
 grind
theorem Ic:∀(l:List eG) (f:KM.Fd) (a:Int),(∀i∈l,i.1≠7)->(f.items a l).t=f.t
 |[],_,_,_=>rfl
 |i::l,f,a,h=>by rw[KM.Fd.items,Ic l _ _ (by grind),Ud (by grind)]
theorem vm (f:KM.Fd) (m:Int):(f.dI m).t=f.t:=by unfold KM.Fd.dI;split<;>rfl
theorem De {l:List eG} (h:∀i∈l,i.1≠7):dC l=none:=by
 unfold dC
 grind
theorem Ue {r:Rec} (h:∀i∈r.items,i.1≠7) (g:Int):dP (F.dh c (e,r)).t.l g=dP F.t.l g:=by
 show dP (if(dC r.items).isSome then kT (eC ((F.dI r.aN).items _ r.items).t.l _ _) _ else eC ((F.dI r.aN).items _ r.items).t.l _ _) g=_
 rw[De h,if_neg (by simp),vk,Ic _ _ _ h,vm]
theorem Ie (l:List cJ) (k s:Int):(eC l k s).length=l.length:=by unfold eC;split;exact List.length_set;rfl
theorem Uf (l:List cJ) (k:Int):(kT l k).length=l.length:=by unfold kT;split;exact List.length_set;rfl
theorem Ug (l:List cJ) (k:Int):(kF l k).length=l.length:=by unfold kF;split;exact List.length_set;rfl
theorem Uh (f:KM.Fd) (i:eG) (a:Int):(f.jN i a).t.l.length=f.t.l.length:=by
 unfold KM.Fd.jN
 repeat (split;·first|rfl|exact Ug _ _)
 rfl
theorem Ih:∀(l:List eG) (f:KM.Fd) (a:Int),(f.items a l).t.l.length=f.t.l.length
 |[],_,_=>rfl
 |i::l,f,a=>by rw[KM.Fd.items,Ih l,Uh]
theorem LC (f:KM.Fd) (x:Pos×Rec):(f.dh c x).t.l.length=f.t.l.length:=by
 have h:((f.dI x.2.aN).items (aZ c x.1.1+x.1.2.1) x.2.items).t.l.length=f.t.l.length:=by rw[Ih,vm]
 show(if(dC x.2.items).isSome then kT (eC ((f.dI x.2.aN).items _ x.2.items).t.l _ _) _ else eC ((f.dI x.2.aN).items _ x.2.items).t.l _ _).length=_
 split
 ·rw[Uf,Ie,h]
 ·rw[Ie,h]
theorem Ii (f:bE c) (ok:bu k D) (hlen:all c<=D.now.length) (i:0<=p.1/\p.1<c.2.1) (w:1<=p.2.1) {r:Rec} (hm:dH r=true) (g:∀b∈cH r,b.length=64/\bP b)
 (hf:p.2.1+(1+(r.blocks.length:Int))<=c.2.2) (o:EJ c D r.cZ) (s:∀b∈r.blocks,dV b=0):EJ c (D.dW (aZ c p.1+p.2.1) (cH r)) (r.cZ+1):=by
 have t:=fB f
 have j:(cH r).length=1+r.blocks.length:=by rw[cH,List.length_cons];omega
 have u:=eK f i (x:=p.2.1) (by omega)
 have v:=eK f i (x:=p.2.1+(r.blocks.length:Int)) (by omega)
 intro a m n
 rw[xD (cH r) (a:=aZ c p.1+p.2.1) ok (by omega) (by omega) g]
 split
 ·next h=>
  rw[j] at h
  by_cases q:a=aZ c p.1+p.2.1
  ·subst q
   rw[show(aZ c p.1+p.2.1-(aZ c p.1+p.2.1)).toNat=0 by omega]
   intro _
   have:=(FQ hm []).2.2.2.1
   rw[List.append_nil] at this
   show num (sN r) 6 4<_
   omega
  ·intro d
   exfalso
   apply d
   have:(a-(aZ c p.1+p.2.1)).toNat=(a-(aZ c p.1+p.2.1)).toNat- 1+1:=by omega
   rw[this]
   show dV (r.blocks.getD _ [])=0
   grind
 ·intro d;have:=o a m n d;omega
theorem Log.rec_ (h:Log c D st free p rg m1 l e F) (n:bE c) (ok:bu k D) (hlen:all c<=D.now.length) (t:0<=p.1/\p.1<c.2.1) (s:1<=p.2.1) {r:Rec} (hm:dH r=true) (v:∀b∈r.blocks,bP b) (d:∀b∈cH r,b.length=64/\bP b)
 (hf:p.2.1+(1+(r.blocks.length:Int))<=c.2.2) (j:r.cZ=p.2.2.1) (y:r.prev=p.2.2.2.1) (o:r.aN=p.2.2.2.2) (m:∀b∈r.blocks,dV b=0) (hi:∀i∈r.items,i.1≠7):
 Log c (D.dW (aZ c p.1+p.2.1) (cH r)) st free (p.1,p.2.1+(1+(r.blocks.length:Int)),p.2.2.1+1,cX r,p.2.2.2.2) rg m1 (l++[(e,r)]) (nx e r) (F.dh c (e,r)):=by
 obtain⟨k1,k2,k3⟩:=Np (st:=st) n ok hlen t s hm v d hf h.e1 h.e2 (j.trans h.e3.symm) (y.trans h.e4.symm) (by rw[o];exact h.e5)
 have f:∀a,Us c st p.1 p.2.1 a->Us c st p.1 (p.2.1+(1+(r.blocks.length:Int))) a:=λa u=>u.mono (by simp) (by omega)
 refine⟨.inr ⟨?_,?_⟩,h.e1,by show e.2.1+(1+(r.blocks.length:Int))=p.2.1+(1+(r.blocks.length:Int));rw[h.e2],by show r.cZ+1=_;rw[j],rfl,by show r.aN<=_;grind,?_,λg=>?_,h.Cx,h.one,?_,?_,?_⟩
 ·show 1<=e.2.1+_;rw[h.e2];omega
 ·rcases h.run with⟨rfl,rfl,z,_⟩|⟨_,q,w,x⟩
  ·exfalso;have:=h.e2;omega
  ·exact⟨q,w.alike k2 f,((x.alike k2).mono f).snoc k1 (De hi)⟩
 ·rw[List.foldl_append,←h.fold];rfl
 ·rw[Ue hi,h.Ib g]
 ·rw[LC];exact h.len
 ·rw[turns,List.countP_append,List.countP_cons,De hi];exact h.fuel
 ·have:=Ii n ok hlen t s hm d hf (by rw[j];exact h.AV) m
  grind
end
end Lo
end
section
namespace Lo
open Go Go.Kx KM So
section
variable {c:ax} {D D':Dk} {st:Int->Int} {free k:Nat} {p:Pos} {rg:fH} {m1:Im} {l:List (Pos×Rec)} {e:Pos} {F:KM.Fd}
theorem R7 (s m n v:Int):dV (gH s m n v)=0:=by
 rfl
theorem Gq (m:bE c) (ok:bu k D) {a n:Int} {b:Bs} (h:0<=a/\a<D.now.length) (i:b.length=64) (g:bP b) (o:dV b=0) (j:EJ c D n):EJ c (D.put a b) n:=by
 intro x d f
 rw[mh ok h i g]
 split
 ·omega
 ·exact j x d f
theorem Log.Cv (h:Log c D st free p rg m1 l e F) (a:bE c) (ok:bu k D) (hlen:all c<=D.now.length) (g:0<=p.1/\p.1<c.2.1) (r:p.2.1=0) (hm:rn p.1 p.2.2.2.2 p.2.2.1 p.2.2.2.1=true)
 (f:(gH p.1 p.2.2.2.2 p.2.2.1 p.2.2.2.1).length=64) (d:bP (gH p.1 p.2.2.2.2 p.2.2.1 p.2.2.2.1)):
 Log c (D.put (aZ c p.1) (gH p.1 p.2.2.2.2 p.2.2.1 p.2.2.2.1)) st free (p.1,1,p.2.2.1,p.2.2.2.1,p.2.2.2.2) rg m1 l (p.1,1,p.2.2.1,p.2.2.2.1,p.2.2.2.2) F:=by
 have n:=a.2.2.2.2.1
 have o:=fB a
 have j:=eK a g (x:=0) (by omega)
 rw[Int.add_zero] at j
 have b:0<=aZ c p.1/\aZ c p.1<D.now.length:=by omega
 obtain⟨rfl,he,m,_⟩:l=[]/\e=rg.pos/\rg.pos.2.1=0/\D.sec (aZ c rg.pos.1)=pM:=by
  rcases h.run with i|⟨q,_⟩
  ·exact i
  ·exfalso;have:=h.e2;omega
 have e1:=h.e1;have e3:=h.e3;have e4:=h.e4;have e5:=h.e5
 subst he
 refine⟨.inr ⟨Int.le_refl 1,(p.1,1,p.2.2.1,p.2.2.2.1,p.2.2.2.2),.inr ⟨m,p.2.2.2.2,⟨by omega,by omega,by grind,?_,?_,e5⟩,by grind⟩,.nil _⟩,rfl,rfl,rfl,rfl,Int.le_refl _,h.fold,h.Ib,h.Cx,h.one,h.len,h.fuel,?_⟩
 ·rw[e1,e3,e4,mh ok b f d,if_pos rfl]
 ·rw[e1];exact⟨p.1,0,g,by omega,by omega,by simp,by simp⟩
 ·exact Gq a ok b f d rfl h.AV
theorem Log.cR (h:Log c D st free p rg m1 l e F) (i:bE c) (ok:bu k D) (hlen:all c<=D.now.length) (O:0<=p.1/\p.1<c.2.1) (S:1<=p.2.1) {r:Rec} (hm:dH r=true) (j:∀b∈cH r,b.length=64/\bP b)
 (hf:p.2.1+1<=c.2.2) (z:r.cZ=p.2.2.1) (hv:r.prev=p.2.2.2.1) (I:r.aN=p.2.2.2.2) {g:Int} (C:0<=g/\g<c.2.1) (G:st g=0) (hi:r.items=[(7,0,0,g)]) (v:r.blocks=[])
 (ae:rn g p.2.2.2.2 (p.2.2.1+1) (cX r)=true) (y:(gH g p.2.2.2.2 (p.2.2.1+1) (cX r)).length=64) (w:bP (gH g p.2.2.2.2 (p.2.2.1+1) (cX r))) (ac:1<=free):
 ∃V,Log c ((D.dW (aZ c p.1+p.2.1) (cH r)).put (aZ c g) (gH g p.2.2.2.2 (p.2.2.1+1) (cX r))) (λx=>if x=p.1 then 2 else if x=g then 1 else st x) (free- 1) (g,1,p.2.2.1+1,cX r,p.2.2.2.2) rg m1 (l++[(e,r)]) V (F.dh c (e,r)):=by
 have Q:=i.2.2.2.2.1
 have ab:=fB i
 have N:=h.Cx
 have A:g≠p.1:=(by grind)
 have R:(r.blocks.length:Int)=0:=by rw[v];rfl
 obtain⟨k1,k2,k3⟩:=Np (st:=st) i ok hlen O S hm (by rw[v];intro b X;cases X) j (by omega) h.e1 h.e2 (z.trans h.e3.symm) (hv.trans h.e4.symm) (by rw[I];exact h.e5)
 have U:(cH r).length=1:=by rw[cH,List.length_cons,v];rfl
 have af:=eK i O (x:=p.2.1) (by omega)
 obtain⟨o,P⟩:=tu (cH r) (at_:=aZ c p.1+p.2.1) ok (by omega) (by rw[U];omega) j
 have T:=eK i C (x:=0) (by grind)
 rw[Int.add_zero] at T
 have n:0<=aZ c g/\aZ c g<(D.dW (aZ c p.1+p.2.1) (cH r)).now.length:=by omega
 have d:=Ii (D:=D) i ok hlen O S hm j (by omega) (by rw[z];exact h.AV) (by grind)
 generalize aa:D.dW (aZ c p.1+p.2.1) (cH r)=K at k1 k2 k3 o P n d ⊢
 rw[R] at k1
 have B:∀a,Us c st p.1 p.2.1 a->Us c st p.1 (p.2.1+(1+0)) a:=λa s=>s.mono (by simp) (by omega)
 have u:KM.Alike (Us c st p.1 (p.2.1+(1+0))) K (K.put (aZ c g) (gH g p.2.2.2.2 (p.2.2.1+1) (cX r))):=λa s=>by
  rw[mh o n y w,if_neg]
  rintro rfl
  rw[←Int.add_zero (aZ c g)] at s
  exact Us.free Q (x:=0) (by grind) A G s
 have m:∀a,Us c st p.1 (p.2.1+(1+0)) a->Us c (λx=>if x=p.1 then 2 else if x=g then 1 else st x) g 1 a:=λa s=>s.mono (by omega) (by omega)
 have f:dC r.items=some g:=by rw[hi];rfl
 have L:Cw c (K.put (aZ c g) (gH g p.2.2.2.2 (p.2.2.1+1) (cX r))) (Us c (λx=>if x=p.1 then 2 else if x=g then 1 else st x) g 1) g (nx e r) p.2.2.2.2:=by
  have el:(nx e r).2.2.1=p.2.2.1+1:=by show r.cZ+1=_;rw[z]
  have ev:(nx e r).2.2.2.1=cX r:=rfl
  refine⟨C.1,C.2,by grind,by rw[el,ev,mh o n y w,if_pos rfl],⟨g,0,C,by omega,by omega,λ_=>by omega,λM=>absurd rfl M⟩,?_⟩
  show r.aN<=_;rw[I];exact Int.le_refl _
 have el:(nx e r).2.2.1=p.2.2.1+1:=by show r.cZ+1=_;rw[z]
 have E:=h.len
 have H:0<=g/\g<(F.dI r.aN).t.l.length:=by rw[vm,E];omega
 have J:dP (F.dI r.aN).t.l g=0:=by rw[vm,h.Ib g,G]
 refine⟨(g,1,(nx e r).2.2.1,(nx e r).2.2.2.1,p.2.2.2.2),.inr ⟨Int.le_refl 1,?_⟩,rfl,rfl,el,rfl,Int.le_refl _,?_,λx=>?_,?_,λx f=>?_,?_,?_,?_⟩
 ·rcases h.run with⟨rfl,rfl,hz,_⟩|⟨_,q,Y,Z⟩
  ·exfalso;have:=h.e2;omega
  ·exact⟨q,((Y.alike k2 B).alike u m),((((Z.alike k2).mono B).alike u).mono m).aAH ((k1.alike u).mono m) f L⟩
 ·rw[List.foldl_append,←h.fold];rfl
 ·show dP (if(dC r.items).isSome then kT (eC ((F.dI r.aN).items (aZ c e.1+e.2.1) r.items).t.l e.1 r.cZ) e.1 else eC ((F.dI r.aN).items (aZ c e.1+e.2.1) r.items).t.l e.1 r.cZ) x=_
  rw[f,if_pos (show(some g).isSome=true from rfl),LB,vk,vk,hi]
  show(if x=e.1/\dP (kF (F.dI r.aN).t.l g) e.1=1 then 2 else dP (kF (F.dI r.aN).t.l g) x)=_
  have e1:dP (kF (F.dI r.aN).t.l g) e.1=1:=by rw[Cc H J,h.e1,if_neg λM=>A M.symm,vm,h.Ib,N]
  have e2:dP (kF (F.dI r.aN).t.l g) x=if x=g then 1 else st x:=by rw[Cc H J,vm,h.Ib]
  rw[e1,e2,h.e1]
  simp only[and_true]
 ·simp[A]
 ·split at f
  ·cases f
  ·split at f
   ·assumption
   ·next W _=>exact absurd (h.one x f) W
 ·rw[LC];exact E
 ·have ad:=h.fuel
  rw[turns,List.countP_append,List.countP_cons,f,←turns]
  simp only[Option.isSome_some,if_true,List.countP_nil]
  omega
 ·exact Gq i o n y w (R7 _ _ _ _) (by rw[z] at d;exact d)
end
end Lo
end
end Go.Proofs.YtigjebgjphmkoaaGreat
section
namespace KM
def sY (c:ax) (aG:Bool) (x:Int):Prop:=(x=0∨(base c<=x/\x<all c))∨(aG=true/\x= -1)
structure cS (c:ax) (M:Im):Prop where
 r0:∀x∈M.l0,sY c false x
 r1:∀x∈M.l1,sY c true x
section
variable {c:ax} {M:Im}
theorem vJ {l:List Int} {k v x:Int} (h:x∈pX qd l k v):x∈l∨x=v:=by
 unfold pX at h
 grind
theorem cS.put (h:cS c M) {aG:Bool} {b a:Int} (e:sY c aG a):cS c (M.put aG b a):=by
 cases aG with
 |false=>exact⟨λx d=>by rcases vJ d with d|rfl;exact h.r0 x d;exact e,h.r1⟩
 |true=>exact⟨h.r0,λx d=>by rcases vJ d with d|rfl;exact h.r1 x d;exact e⟩
theorem HS (aG:Bool):sY c aG 0:=.inl (.inl rfl)
theorem uA {l:List Int} {aG:Bool} (h:∀x∈l,sY c aG x) (i:Int):sY c aG (bT l i):=by
 unfold bT
 split
 ·grind
 ·exact HS aG
theorem cS.nn (h:cS c M) (aG:Bool) (b:Int):∀n,cS c (gZ aG b M n).1
 | 0=>h
 |n+1=>(cS.nn h aG b n).put (HS aG)
theorem cS.oG {r:Im×List Int} (h:cS c r.1) (i:Nat):cS c (KM.oG r i).1:=by
 unfold KM.oG
 split
 ·exact h
 ·next b=>
  refine(h.put ?_).put (.inr ⟨rfl,rfl⟩)
  rcases uA h.r1 (i:Int) with a|⟨_,a⟩
  ·exact .inl a
  omega
theorem cS.cm (h:cS c M):∀n,cS c (gD M n).1
 | 0=>h
 |n+1=>(cS.cm h n).oG n
theorem cS.fg (h:cS c M):∀n,cS c (gb M n).1
 | 0=>h
 |n+1=>(cS.fg h n).put (.inr ⟨rfl,rfl⟩)
theorem cS.fS (h:cS c M):cS c M.fS.1:=h.cm _
theorem cS.forget (h:cS c M):cS c M.forget.1:=h.fg _
theorem cS.lay (h:cS c M) {aG:Bool} {b a:Int} (d:base c<=a/\a<all c):cS c (M.lay aG b a):=by
 unfold Im.lay
 split
 ·exact h.put (.inl (.inr d))
 ·exact h
theorem cS.cut (h:cS c M) (aG:Bool) (b n:Int):cS c (M.cut aG b n).1:=by
 unfold Im.cut
 split
 ·exact h.nn aG b _
 ·exact h
theorem cS.move (h:cS c M) {b o a:Int} (d:base c<=a/\a<all c):cS c (M.move b o a):=by
 unfold Im.move
 split
 ·split
  ·exact h.put (.inl (.inr d))
  ·split
   ·exact h.put (.inl (.inr d))
   ·exact h
 ·exact h
theorem cS.clean (h:cS c M):cS c M.clean:=⟨h.r0,h.r1⟩
theorem cS.load (h:cS c M) {aG:Bool} {k:Nat} {refs:List Int} (a:∀x∈refs,sY c aG x):cS c (M.load aG k refs):=by
 have key:∀(l:List Int),(∀x∈l,sY c aG x)->∀x∈l.take (k*15)++refs++l.drop (k*15+refs.length),sY c aG x:=(by grind)
 cases aG with
 |false=>exact⟨key M.l0 h.r0,h.r1⟩
 |true=>exact⟨h.r0,key M.l1 h.r1⟩
theorem cS.mF (n:Nat):cS c (mF n):=⟨λx a=>by rw[(List.mem_replicate.1 a).2];exact HS _,λx a=>by rw[(List.mem_replicate.1 a).2];exact .inr ⟨rfl,rfl⟩⟩
theorem LD {f:Fd} (h:cS c f.m) (i:eG) {a:Int} (b:base c<=a/\a<all c):cS c (f.jN i a).m:=by
 unfold Fd.jN
 split
 ·exact h.lay b
 split
 ·exact h.cut _ _ _
 split
 ·exact h.fS
 split
 ·exact h.move b
 split
 ·exact h.lay b
 split
 ·exact h.cut _ _ _
 grind
theorem Df:∀(l:List eG) {f:Fd} {a:Int},cS c f.m->base c<=a->a+l.countP bM<all c->cS c (f.items a l).m
 |[],_,_,h,_,_=>h
 |i::l,f,a,h,e,b=>by
  rw[List.countP_cons] at b
  rw[Fd.items]
  split
  ·next d=>rw[if_pos d] at b;exact Df l (LD h i (by grind)) (by omega) (by omega)
  ·next d=>rw[if_neg d] at b;exact Df l (LD h i (by grind)) (by omega) (by omega)
theorem R8 {f:Fd} (h:cS c f.m) (m:Int):cS c (f.dI m).m:=by
 unfold Fd.dI
 split
 ·exact h.forget
 ·exact h
theorem LF {f:Fd} (h:cS c f.m) {x:Pos×Rec} (a:base c<=aZ c x.1.1+x.1.2.1) (b:aZ c x.1.1+x.1.2.1+x.2.items.countP bM<all c):cS c (f.dh c x).m:=Df x.2.items (R8 h x.2.aN) a b
end
def wY (n k:Nat):Nat:=min 15 (n-k*15)
structure zr (c:ax) (D:Dk) (n:Nat) (aG:Bool) (k:Nat) (slot:Int):Prop where
 ok:∃refs,oU (D.sec (cw c aG k slot))=some refs/\(∀x∈refs.take (wY n k),yH c x=true∨x< 1)/\∀x∈refs.take (wY n k),(if aG then -1 else 0)<=x/\x<=4095
theorem R9 {b:Bs} {l:List Int} (h:oU b=some l):l.length=15:=by
 have d:∀n k,(jV b k n).length=n:=by
  intro n
  induction n with
  |zero=>intro k;rfl
  |succ n a=>intro k;rw[jV,List.length_cons,a]
 unfold oU at h
 grind
theorem rJ {n k:Nat} {l:List Int} {d:List Bool} (a:l.length=n) (hk:k<d.length):(bt l 15 d k).length=wY n k:=by
 unfold bt wY
 grind
theorem zi {n k:Nat} {l refs:List Int} (a:l.length=n) (b:refs.length=wY n k):(l.take (k*15)++refs++l.drop (k*15+refs.length)).length=n:=by
 rw[List.length_append,List.length_append,List.length_take,List.length_drop,b,a,wY]
 omega
structure Cd (n m:Nat) (M:Im):Prop where
 l0:M.l0.length=n
 l1:M.l1.length=n
 d0:M.d0.length=m
 d1:M.d1.length=m
theorem Cd.load {n m k:Nat} {M:Im} (h:Cd n m M) {aG:Bool} {refs:List Int} (a:refs.length=wY n k):Cd n m (M.load aG k refs):=by
 cases aG with
 |false=>exact⟨zi h.l0 a,h.l1,by show(M.d0.set k false).length=m;rw[List.length_set];exact h.d0,h.d1⟩
 |true=>exact⟨h.l0,zi h.l1 a,h.d0,by show(M.d1.set k false).length=m;rw[List.length_set];exact h.d1⟩
theorem SA {c:ax} {aG:Bool} {x:Int} (a:yH c x=true∨x< 1) (b:(if aG then -1 else 0)<=x/\x<=4095):sY c aG x:=by
 rcases a with a|a
 ·rw[yH,bD] at a;exact .inl (.inr ⟨a.1,by omega⟩)
 ·by_cases e:x=0
  ·exact .inl (.inl e)
  ·cases aG with
   |false=>grind
   |true=>have d:(-1:Int)<=x:=b.1;exact .inr ⟨rfl,by omega⟩
theorem Ui {c:ax} {D:Dk} {aG:Bool} {k:Nat} {s:Int} {l refs:List Int} {M:Im} (b:oU (D.sec (cw c aG k s))=some refs) {q:Nat} (f:(bt (M.cP aG) 15 (M.bR aG) k).length=q)
 (d:∀x∈refs.take q,yH c x=true∨x< 1) (e:∀x∈refs.take q,(if aG then -1 else 0)<=x/\x<=4095):dJ c D aG k (s::l) M=dJ c D aG (k+1) l (M.load aG k (refs.take q)):=by
 rw[AN,b,FC,f,if_pos]
 rw[Bool.and_eq_true,List.all_eq_true,List.all_eq_true]
 refine⟨λx a=>?_,λx a=>by rw[bD];exact e x a⟩
 rw[Bool.or_eq_true,decide_eq_true_eq]
 exact d x a
theorem JN {c:ax} {D:Dk} {n m:Nat} (aG:Bool) (l:List Int):∀(k:Nat) (M:Im),Cd n m M->cS c M->k+l.length<=m->(∀(i:Nat) (s:Int),l[i]?=some s->zr c D n aG (k+i) s)->∃b,dJ c D aG k l M=some b/\Cd n m b/\cS c b:=by
 induction l with
 |nil=>intro k M a j _ _;exact⟨M,rfl,a,j⟩
 |cons s l t=>
  intro k M a j hk h
  obtain⟨refs,e,f,g⟩:=(h 0 s rfl).ok
  rw[Nat.add_zero] at e f g
  rw[List.length_cons] at hk
  have hlen:=R9 e
  have q:(bt (M.cP aG) 15 (M.bR aG) k).length=wY n k:=by
   cases aG with
   |false=>exact rJ (l:=M.l0) (d:=M.d0) a.l0 (by rw[a.d0];omega)
   |true=>exact rJ (l:=M.l1) (d:=M.d1) a.l1 (by rw[a.d1];omega)
  have o:(refs.take (wY n k)).length=wY n k:=by rw[List.length_take,hlen];unfold wY;omega
  rw[Ui e q f g]
  refine t (k+1) _ (a.load o) (j.load λx p=>SA (f x p) (g x p)) (by omega) λi u r=>?_
  have:=h (i+1) u (by simpa using r)
  grind
end KM
end
section
namespace KM
theorem XC {D:Dk} {S:St} {c:ax} {id aN sl:Int} {rg:fH} {slot:Int} {j m1:Im} {l:List (Pos×Rec)} {en:Pos} {f:Fd} (h:ED D S c id aN sl rg slot j m1 l en f):kU D=some S:=by
 have a:=h.sup;have b:=h.mX;have d:=h.p0;have g:=h.p1;have i:=h.ch;have m:=h.fe
 unfold kU
 generalize cz (D.sec 0) (D.sec 1)=o1 at a ⊢
 subst a
 dsimp only
 rw[if_neg (by have:=h.len;omega)]
 generalize j0 c (D.dQ (ar c 0) (bW c).toNat) (D.dQ (ar c 1) (bW c).toNat)=o2 at b ⊢
 subst b
 dsimp only
 generalize dJ c D false 0 rg.lb (mF c.1.toNat)=o3 at d ⊢
 subst d
 dsimp only
 generalize dJ c D true 0 rg.lo j=o at g ⊢
 subst g
 dsimp only
 generalize mG c D (c.2.1.toNat+1) rg.pos=q at i ⊢
 subst i
 dsimp only
 rw[←m,if_pos]
 ·rw[h.S_]
 ·simp only[Bool.and_eq_true,beq_iff_eq]
  exact⟨⟨h.pos,h.sm⟩,h.st⟩
theorem Uj {b:Bs} {r:Rec} {s:Int} (h:wq b=some (r,s)):r.cZ=num b 6 4:=by
 unfold wq at h
 grind
theorem Ce {c:ax} {b:Bs} {r:fH} (h:jf c b=some r):fW c r=true:=by
 unfold jf at h
 grind
theorem SB:headD (List.replicate 64 0)=none:=by rfl
end KM
namespace Go.Proofs.YtigjebgjphmkoaaGreat
open Tryz
namespace Lo
open Go Go.Kx KM So
section
variable {c:ax} {D D':Dk} {st:Int->Int} {free k:Nat} {p:Pos} {rg:fH} {m1:Im} {l:List (Pos×Rec)} {e:Pos} {F:KM.Fd}
theorem SC (d:bE c) (ok:bu k D) (hlen:all c<=D.now.length) (m:0<=e.1/\e.1<c.2.1) (j:0<=e.2.1/\e.2.1<c.2.2) (o:EJ c D e.2.2.1):gd c D e=none:=by
 have t:=fB d
 have g:=eK d m j
 cases a:gd c D e with
 |none=>rfl
 |some x=>
  exfalso
  obtain⟨r,q⟩:=x
  have b:=ru ok (at_:=aZ c e.1+e.2.1) (by omega)
  have u:=nZ ok (at_:=aZ c e.1+e.2.1) (by omega)
  have z:=Sc.yI b
  unfold gd at a
  rw[if_neg (by omega)] at a
  dsimp only at a
  split at a
  ·cases a
  next v=>
  have f:dV (D.sec (aZ c e.1+e.2.1))≠0:=(by omega)
  have hold:=o _ g.1 g.2 f
  cases hd:wq (D.dQ (aZ c e.1+e.2.1) (dV (D.sec (aZ c e.1+e.2.1))).toNat) with
  |none=>grind
  |some y=>
   obtain⟨A,s⟩:=y
   rw[hd] at a
   dsimp only at a
   split at a
   ·next w=>
    have h:=Uj hd
    obtain⟨n,i⟩:∃n,(dV (D.sec (aZ c e.1+e.2.1))).toNat=n+1:=⟨(dV (D.sec (aZ c e.1+e.2.1))).toNat- 1,by omega⟩
    rw[i,Dk.dQ,Sc.NX (by omega)] at h
    omega
   ·cases a
structure nM (c:ax) (D:Dk) (n:KM.Sn) (rg:fH) (m1:Im):Prop where
 sup:∃id,eJ (D.sec (n.aN% 2))=some (c,id,n.aN)/\0<=id/\id<=2147483647
 LG:∀y,eJ (D.sec (1-n.aN% 2))=some y->y.2.2<n.aN
 slot:n.slot=0∨n.slot=1
 mX:jf c (D.dQ (ar c n.slot) (bW c).toNat)=some rg
 Y3:∀y,jf c (D.dQ (ar c (1-n.slot)) (bW c).toNat)=some y->y.gen<rg.gen
 gen:rg.gen=n.gen
 lb:rg.lb=n.lb
 lo:rg.lo=n.lo
 pg:∀(aG:Bool) (k:Nat) (s:Int),(if aG then rg.lo else rg.lb)[k]?=some s->zr c D c.1.toNat aG k s
 m1:∃m0,dJ c D false 0 rg.lb (mF c.1.toNat)=some m0/\dJ c D true 0 rg.lo m0=some m1
variable {n:KM.Sn}
theorem nM.choose (h:nM c D n rg m1):∃id sl,cz (D.sec 0) (D.sec 1)=some ((c,id,n.aN),sl)/\0<=id/\id<=2147483647:=by
 obtain⟨id,a,f⟩:=h.sup
 have b:=h.LG
 unfold cz
 rcases(show n.aN% 2=0∨n.aN% 2=1 by omega) with hm|hm
 ·rw[hm] at a b
  rw[a]
  cases d:eJ (D.sec 1) with
  |none=>grind
  |some y=>
   have:=b y d
   refine⟨id,0,?_,f⟩
   grind
 ·rw[hm] at a b
  rw[a]
  cases d:eJ (D.sec 0) with
  |none=>grind
  |some y=>
   have:=b y d
   refine⟨id,1,?_,f⟩
   grind
theorem nM.region (h:nM c D n rg m1):j0 c (D.dQ (ar c 0) (bW c).toNat) (D.dQ (ar c 1) (bW c).toNat)=some (rg,n.slot):=by
 have d:=h.mX;have f:=h.Y3
 rcases h.slot with a|a
 ·rw[a] at d f
  rw[show(1:Int)- 0=1 from rfl] at f
  cases b:jf c (D.dQ (ar c 1) (bW c).toNat) with
  |none=>rw[wH d b,a];rfl
  |some y=>
   have:=f y b
   rw[wH d b,tE,if_pos (by omega),a]
 ·rw[a] at d f
  rw[show(1:Int)- 1=0 from rfl] at f
  cases b:jf c (D.dQ (ar c 0) (bW c).toNat) with
  |none=>rw[wH b d,a];rfl
  |some y=>
   have:=f y b
   rw[wH b d,tE,if_neg (by omega),a]
theorem Log.chain (h:Log c D st free p rg m1 l e F) (f:bE c) (ok:bu k D) (hlen:all c<=D.now.length) (r:0<=p.1/\p.1<c.2.1) (o:0<=p.2.1/\p.2.1<c.2.2) (i:fW c rg=true):mG c D (c.2.1.toNat+1) rg.pos=some (l,e):=by
 have a:=f.2.2.2.2.1
 simp only[fW,fj,Bool.and_eq_true,KM.bD] at i
 obtain⟨⟨⟨⟨⟨_,⟨⟨⟨⟨w,x⟩,y⟩,_⟩,_⟩⟩,_⟩,_⟩,_⟩,_⟩:=i
 have s:=h.fuel
 rcases h.run with⟨rfl,rfl,v,d⟩|⟨u,q,g,b⟩
 ·have j:fK c D rg.pos=none:=by
   unfold fK wK
   rw[if_pos (by simp only[Bool.and_eq_true,KM.bD];omega),if_neg (by omega),d,pM,SB]
  rw[mG,j]
 ·rw[IX (g.at_ a ⟨by omega,by omega⟩ (by omega))]
  refine b.found (SC f ok hlen (by rw[h.e1];exact r) (by rw[h.e2];exact o) (by rw[h.e3];exact h.AV)) a _ _ ?_ (by omega)
  rcases g with⟨t,rfl⟩|⟨_,m,_,rfl⟩
  ·omega
  ·show c.2.2- 1<=_;omega
end
end Lo
end Go.Proofs.YtigjebgjphmkoaaGreat
end
section
namespace KM
structure Cl (A:Int->Prop) (Q:Im->Prop):Prop where
 put:∀(M:Im) (aG:Bool) (b x:Int),Q M->x<=0∨x∈M.l1∨A x->Q (M.put aG b x)
section
variable {A:Int->Prop} {Q:Im->Prop} {M:Im}
theorem FU (l:List Int) (i:Int):bT l i<=0∨bT l i∈l:=by
 unfold bT
 grind
theorem Cl.nn (c:Cl A Q) (h:Q M) (aG:Bool) (b:Int):∀n,Q (gZ aG b M n).1
 | 0=>h
 |n+1=>c.put _ _ _ _ (Cl.nn c h aG b n) (by simp)
theorem Cl.oG (c:Cl A Q) {r:Im×List Int} (h:Q r.1) (i:Nat):Q (KM.oG r i).1:=by
 unfold KM.oG
 split
 ·exact h
 ·refine c.put _ true i (-1) (c.put _ false i (bT r.1.l1 i) h ?_) (by simp)
  rcases FU r.1.l1 i with a|a
  ·exact .inl a
  grind
theorem Cl.cm (c:Cl A Q) (h:Q M):∀n,Q (gD M n).1
 | 0=>h
 |n+1=>c.oG (Cl.cm c h n) n
theorem Cl.fg (c:Cl A Q) (h:Q M):∀n,Q (gb M n).1
 | 0=>h
 |n+1=>c.put _ true n (-1) (Cl.fg c h n) (by simp)
theorem Cl.fS (c:Cl A Q) (h:Q M):Q M.fS.1:=c.cm h _
theorem Cl.forget (c:Cl A Q) (h:Q M):Q M.forget.1:=c.fg h _
theorem Cl.lay (c:Cl A Q) (h:Q M) {aG:Bool} {b a:Int} (d:A a):Q (M.lay aG b a):=by
 unfold Im.lay
 split
 ·exact c.put _ _ _ _ h (by grind)
 ·exact h
theorem Cl.cut (c:Cl A Q) (h:Q M) (aG:Bool) (b n:Int):Q (M.cut aG b n).1:=by
 unfold Im.cut
 split
 ·exact c.nn h aG b _
 ·exact h
theorem Cl.move (c:Cl A Q) (h:Q M) {b o a:Int} (d:A a):Q (M.move b o a):=by
 unfold Im.move
 split
 ·split
  ·exact c.put _ _ _ _ h (by grind)
  ·split
   ·exact c.put _ _ _ _ h (by grind)
   ·exact h
 ·exact h
theorem Cl.jN (c:Cl A Q) {f:Fd} (h:Q f.m) (i:eG) {a:Int} (b:A a):Q (f.jN i a).m:=by
 unfold Fd.jN
 split
 ·exact c.lay h b
 split
 ·exact c.cut h _ _ _
 split
 ·exact c.fS h
 split
 ·exact c.move h b
 split
 ·exact c.lay h b
 split
 ·exact c.cut h _ _ _
 grind
theorem Cl.items (c:Cl A Q):∀(l:List eG) {f:Fd} {a:Int},Q f.m->(∀x,a<=x->x<=a+l.countP bM->A x)->Q (f.items a l).m
 |[],_,_,h,_=>h
 |i::l,f,a,h,b=>by
  rw[List.countP_cons] at b
  rw[Fd.items]
  split
  ·next d=>rw[if_pos d] at b;exact Cl.items c l (c.jN h i (by grind)) (by grind)
  ·next d=>rw[if_neg d] at b;exact Cl.items c l (c.jN h i (by grind)) (by omega)
theorem Cl.dI (c:Cl A Q) {f:Fd} (h:Q f.m) (m:Int):Q (f.dI m).m:=by
 unfold Fd.dI
 split
 ·exact c.forget h
 ·exact h
theorem Cl.dh (c:Cl A Q) {cf:ax} {f:Fd} (h:Q f.m) {x:Pos×Rec} (a:∀y,aZ cf x.1.1+x.1.2.1<=y->y<=aZ cf x.1.1+x.1.2.1+x.2.items.countP bM->A y):Q (f.dh cf x).m:=c.items x.2.items (c.dI h x.2.aN) a
end
structure Ao (P:Int->Prop) (M:Im):Prop where
 r0:∀x∈M.l0,P x
 r1:∀x∈M.l1,P x
theorem Ao.mono {P b:Int->Prop} {M:Im} (h:Ao P M) (d:∀x,P x->b x):Ao b M:=⟨λx a=>d x (h.r0 x a),λx a=>d x (h.r1 x a)⟩
theorem Ao.cl {P:Int->Prop} (f:∀x,x<=0->P x):Cl P (Ao P) where
 put:=λM aG b x h a=>by
  have e:P x:=by
   rcases a with a|a|a
   ·exact f x a
   ·exact h.r1 x a
   ·exact a
  cases aG with
  |false=>exact⟨λy d=>by rcases vJ d with d|rfl;exact h.r0 y d;exact e,h.r1⟩
  |true=>exact⟨h.r0,λy d=>by rcases vJ d with d|rfl;exact h.r1 y d;exact e⟩
def oK (c:ax) (D:Dk) (aG:Bool) (k:Nat) (s:Int) (T:List Int):Prop:=∃refs,oU (D.sec (cw c aG k s))=some refs/\refs.take (wY c.1.toNat k)=(T.drop (k*15)).take 15
def uK (c:ax) (D:Dk) (lb lo:List Int) (M:Im):Prop:=∀(aG:Bool) (k:Nat) (s:Int),(if aG then lo else lb)[k]?=some s->(M.bR aG).getD k true=false->oK c D aG k s (M.cP aG)
theorem Ij {l:List Int} {d:List Bool} {b x:Int} {k:Nat} (h:(zP qd 15 l d b x).getD k true=false):d.getD k true=false/\((pX qd l b x).drop (k*15)).take 15=(l.drop (k*15)).take 15:=by
 unfold zP at h
 unfold pX
 by_cases a:uv qd l b x=true
 ·rw[if_pos a] at h ⊢
  have i:0<=b/\b<l.length:=by
   rw[uv,Bool.and_eq_true,decide_eq_true_eq] at a
   exact a.1
  rw[List.getD,List.getElem?_set] at h
  by_cases e:(b/ 15).toNat=k
  ·grind
  ·rw[if_neg e] at h
   refine⟨by rw[List.getD];exact h,?_⟩
   rw[List.drop_set]
   split
   ·rfl
   ·next f=>
    rw[List.take_set,List.set_eq_of_length_le]
    grind
 grind
theorem uK.cl {c:ax} {D:Dk} {lb lo:List Int}:Cl (λ_=>True) (uK c D lb lo) where
 put:=λM aG b x h _ a k s f hd=>by
  cases aG with
  |false=>
   cases a with
   |false=>
    have e:=Ij (l:=M.l0) (d:=M.d0) hd
    obtain⟨refs,i,j⟩:=h false k s f e.1
    exact⟨refs,i,j.trans e.2.symm⟩
   |true=>exact h true k s f hd
  |true=>
   cases a with
   |false=>exact h false k s f hd
   |true=>
    have e:=Ij (l:=M.l1) (d:=M.d1) hd
    obtain⟨refs,i,j⟩:=h true k s f e.1
    exact⟨refs,i,j.trans e.2.symm⟩
theorem uK.sec {c:ax} {D E:Dk} {lb lo:List Int} {M:Im} (h:uK c D lb lo M) (b:∀(aG:Bool) (k:Nat) (s:Int),(if aG then lo else lb)[k]?=some s->E.sec (cw c aG k s)=D.sec (cw c aG k s)):uK c E lb lo M:=λaG k s a hd=>by
 obtain⟨refs,d,e⟩:=h aG k s a hd
 exact⟨refs,by rw[b aG k s a];exact d,e⟩
def gp (c:ax) (g x:Int):Bool:=decide (base c<=x)&&decide (x<all c)&&decide ((x-base c)/c.2.2=g)
def ind (c:ax) (g x:Int):Nat:=if gp c g x then 1 else 0
def ju (c:ax) (M:Im) (g:Int):Nat:=M.l0.countP (gp c g)+M.l1.countP (gp c g)
section
variable {c:ax} {g:Int} {M:Im}
theorem sA (a:1<=base c) {x:Int} (h:x<=0):ind c g x=0:=by
 unfold ind gp
 grind
theorem FV (d:1<=base c) (b a:Int):ind c g (gone b a)=if b=a then 0 else ind c g b:=by
 unfold gone
 by_cases e:b=a
 ·rw[if_pos (by simpa using e),if_pos e];exact sA d (Int.le_refl 0)
 ·rw[if_neg (by simpa using e),if_neg e]
  split
  ·rw[sA d (by simp),sA d (by omega)]
  ·rfl
theorem countP_set {l:List Int} {P:Int->Bool}:∀(i:Nat) (y x:Int),l[i]?=some y->(l.set i x).countP P+(if P y then 1 else 0)=l.countP P+(if P x then 1 else 0):=by
 grind
theorem LH (e:1<=base c) (l:List Int) (b x:Int):(pX qd l b x).countP (gp c g)+ind c g (gone (bT l b) x)<=l.countP (gp c g)+ind c g x:=by
 unfold pX
 by_cases a:uv qd l b x=true
 ·rw[if_pos a]
  rw[uv,Bool.and_eq_true,decide_eq_true_eq] at a
  obtain⟨d,k⟩:=a
  obtain⟨y,f⟩:∃y,l[b.toNat]?=some y:=(by grind)
  have h:bT l b=y:=by unfold bT;grind
  have i:=countP_set (P:=gp c g) b.toNat y x f
  rw[h,FV e]
  unfold ind
  grind
 ·rw[if_neg a]
  have:ind c g (gone (bT l b) x)=0:=by
   rw[FV e]
   split
   ·rfl
   ·next j=>
    by_cases d:0<=b/\b<l.length
    ·exfalso
     apply a
     obtain⟨y,f⟩:∃y,l[b.toNat]?=some y:=⟨_,List.getElem?_eq_getElem (by omega)⟩
     have h:bT l b=y:=by unfold bT;grind
     rw[uv,Bool.and_eq_true,decide_eq_true_eq,f]
     refine⟨d,?_⟩
     show(y != x)=true
     grind
    ·unfold bT;rw[if_neg d];exact sA e (by simp)
  omega
theorem BZ (a:1<=base c) (M:Im) (aG:Bool) (b x:Int):ju c (M.put aG b x) g+ind c g (gone (bT (M.cP aG) b) x)<=ju c M g+ind c g x:=by
 cases aG with
 |false=>
  have h:=LH (g:=g) a M.l0 b x
  show(pX qd M.l0 b x).countP (gp c g)+M.l1.countP (gp c g)+ind c g (gone (bT M.l0 b) x)<=_
  unfold ju;omega
 |true=>
  have h:=LH (g:=g) a M.l1 b x
  show M.l0.countP (gp c g)+(pX qd M.l1 b x).countP (gp c g)+ind c g (gone (bT M.l1 b) x)<=_
  unfold ju;omega
theorem LI (a:1<=base c) (z:Int):(gl z).countP (gp c g)=ind c g z:=by
 unfold gl
 split
 ·rw[List.countP_singleton];unfold ind;cases gp c g z<;>rfl
 ·rw[sA a (by omega)];rfl
theorem SD (a:1<=base c) (aG:Bool) (b:Int):∀n,ju c (gZ aG b M n).1 g+(gZ aG b M n).2.countP (gp c g)<=ju c M g
 | 0=>Nat.le_refl _
 |n+1=>by
  have h:=SD a aG b n
  have d:=BZ (g:=g) a (gZ aG b M n).1 aG (b+n) 0
  have e:=sA (g:=g) a (Int.le_refl 0)
  rw[gZ]
  simp only
  rw[List.countP_append,LI a]
  omega
theorem SE (a:1<=base c):∀n,ju c (gb M n).1 g+(gb M n).2.countP (gp c g)<=ju c M g
 | 0=>Nat.le_refl _
 |n+1=>by
  have h:=SE a n
  have b:=BZ (g:=g) a (gb M n).1 true n (-1)
  have d:=sA (c:=c) (g:=g) a (show(-1:Int)<=0 by omega)
  rw[gb]
  simp only
  rw[List.countP_append,LI a]
  have b:ju c ((gb M n).1.put true n (-1)) g+ind c g (gone (bT (gb M n).1.l1 n) (-1))<=ju c (gb M n).1 g+ind c g (-1):=b
  omega
theorem PN (a:1<=base c) (r:Im×List Int) (i:Nat):ju c (oG r i).1 g+(oG r i).2.countP (gp c g)<=ju c r.1 g+r.2.countP (gp c g):=by
 unfold oG
 split
 ·simp
 ·next e=>
  simp only
  rw[List.countP_append,LI a]
  have d:=BZ (g:=g) a r.1 false i (bT r.1.l1 i)
  have d:ju c (r.1.put false i (bT r.1.l1 i)) g+ind c g (gone (bT r.1.l0 i) (bT r.1.l1 i))<=ju c r.1 g+ind c g (bT r.1.l1 i):=d
  have b:=BZ (g:=g) a (r.1.put false i (bT r.1.l1 i)) true i (-1)
  have b:ju c ((r.1.put false i (bT r.1.l1 i)).put true i (-1)) g+ind c g (gone (bT r.1.l1 i) (-1))<=ju c (r.1.put false i (bT r.1.l1 i)) g+ind c g (-1):=b
  rw[FV a (bT r.1.l1 i),if_neg e] at b
  have f:=sA (c:=c) (g:=g) a (show(-1:Int)<=0 by omega)
  omega
theorem SF (a:1<=base c):∀n,ju c (gD M n).1 g+(gD M n).2.countP (gp c g)<=ju c M g
 | 0=>Nat.le_refl _
 |n+1=>Nat.le_trans (PN a (gD M n) n) (SF a n)
theorem XD (a:1<=base c) (aG:Bool) (b n:Int):ju c (M.cut aG b n).1 g+(M.cut aG b n).2.countP (gp c g)<=ju c M g:=by
 unfold Im.cut
 split
 ·exact SD a aG b _
 simp
theorem LJ {v:List Int} {k:Int} (hk:0<=k/\k<v.length) (x g:Int):bg 0 (v.set k.toNat x) g=if g=k then x else bg 0 v g:=by
 unfold bg
 grind
theorem EK (a:bE c) {v:List Int} (i:(v.length:Int)=c.2.1) (x b g:Int):bg 0 (gX c v x b) g=if gp c g x then sL (bg 0 v g) b else bg 0 v g:=by
 unfold gX
 by_cases h:base c<=x/\x<all c
 ·rw[if_pos h]
  have e:=a.2.2.2.2.1
  have e1:=Int.mul_ediv_add_emod (x-base c) c.2.2
  have e2:=Int.emod_nonneg (x-base c) (show c.2.2≠0 by omega)
  have e3:=Int.emod_lt_of_pos (x-base c) (show 0<c.2.2 by omega)
  have f:0<=(x-base c)/c.2.2:=Int.ediv_nonneg (by omega) (by omega)
  have d:(x-base c)/c.2.2<c.2.1:=by
   refine Int.ediv_lt_of_lt_mul (by omega) ?_
   have:all c=base c+c.2.1*c.2.2:=rfl
   omega
  rw[LJ (by grind)]
  unfold gp
  grind
 ·rw[if_neg h,if_neg]
  unfold gp
  grind
def AW (c:ax) (v:List Int):Prop:=(v.length:Int)=c.2.1/\∀g,0<=bg 0 v g/\bg 0 v g<=2147483647
theorem LK {x b:Int} (h:0<=x/\x<=2147483647) (a:b=1∨b= -1):(0<=sL x b/\sL x b<=2147483647)/\min (x+b) 2147483647<=sL x b:=by
 unfold sL
 omega
theorem Dg (e:bE c) {v:List Int} (a:AW c v) {x b:Int} (d:b=1∨b= -1):AW c (gX c v x b):=⟨by rw[CT];exact a.1,λg=>by
 rw[EK e a.1]
 split
 ·exact(LK (a.2 g) d).1
 ·exact a.2 g⟩
theorem LL (a:bE c):∀(l:List Int) {v:List Int},AW c v->AW c (lZ c v l)/\∀g,bg 0 v g-l.countP (gp c g)<=bg 0 (lZ c v l) g
 |[],v,h=>⟨h,λg=>by show bg 0 v g-((0:Nat):Int)<=bg 0 v g;omega⟩
 |x::l,v,h=>by
  have e:lZ c v (x::l)=lZ c (if 0<x then gX c v x (-1) else v) l:=rfl
  have i:AW c (if 0<x then gX c v x (-1) else v):=by split;exact Dg a h (.inr rfl);exact h
  obtain⟨b,d⟩:=LL a l i
  rw[e]
  refine⟨b,λg=>?_⟩
  have k:=d g
  have m:bg 0 v g-(if gp c g x then 1 else 0)<=bg 0 (if 0<x then gX c v x (-1) else v) g:=by
   by_cases j:0<x
   ·rw[if_pos j,EK a h.1]
    have f:=h.2 g
    have n:=(LK f (.inr rfl)).2
    grind
   grind
  grind
def uj (c:ax) (M:Im) (v:List Int):Prop:=AW c v/\M.l0.length<=64/\M.l1.length<=64/\∀g,(ju c M g:Int)<=bg 0 v g
theorem Y4 (M:Im) (g:Int) (a:M.l0.length<=64) (b:M.l1.length<=64):ju c M g<=128:=by
 have:=List.countP_le_length (p:=gp c g) (l:=M.l0)
 have:=List.countP_le_length (p:=gp c g) (l:=M.l1)
 unfold ju;omega
theorem LM (M:Im) (aG:Bool) (b x:Int):(M.put aG b x).l0.length=M.l0.length/\(M.put aG b x).l1.length=M.l1.length:=by
 have h:∀l:List Int,(pX qd l b x).length=l.length:=λl=>by unfold pX;grind
 cases aG with
 |false=>exact⟨h M.l0,rfl⟩
 |true=>exact⟨rfl,h M.l1⟩
theorem uj.live (b:bE c) (q:1<=base c) {v:List Int} {a:Im} (h:uj c M v) {at_:Int} {l:List Int} (e:a.l0.length<=64) (f:a.l1.length<=64) (k:∀g,ju c a g+l.countP (gp c g)<=ju c M g+ind c g at_):uj c a (lZ c (gX c v at_ 1) l):=by
 have m:=Dg b h.1 (x:=at_) (.inl rfl)
 obtain⟨g1,d⟩:=LL b l m
 refine⟨g1,e,f,λg=>?_⟩
 have i:=d g
 have j:=k g
 have n:=h.2.2.2 g
 have o:=Y4 M g h.2.1 h.2.2.1 (c:=c)
 rw[EK b h.1.1] at i
 have p:=(LK (h.1.2 g) (.inl rfl)).2
 unfold ind at j
 grind
theorem Dh (n m:Nat):Cl (λ_=>True) (λM=>M.l0.length=n/\M.l1.length=m) where
 put:=λM aG b x h _=>by have:=LM M aG b x;omega
theorem uj.forget (d:bE c) (a:1<=base c) {v:List Int} (h:uj c M v):uj c M.forget.1 (lZ c (gX c v 0 1) M.forget.2):=by
 have b:=(Dh M.l0.length M.l1.length).forget (M:=M) (by grind)
 refine h.live d a (by rw[b.1];exact h.2.1) (by rw[b.2];exact h.2.2.1) λg=>Nat.le_trans (SE a _) (by simp)
theorem uj.fS (d:bE c) (a:1<=base c) {v:List Int} (h:uj c M v):uj c M.fS.1 (lZ c (gX c v 0 1) M.fS.2):=by
 have b:=(Dh M.l0.length M.l1.length).fS (M:=M) (by grind)
 refine h.live d a (by rw[b.1];exact h.2.1) (by rw[b.2];exact h.2.2.1) λg=>Nat.le_trans (SF a _) (by simp)
theorem uj.cut (e:bE c) (a:1<=base c) {v:List Int} (h:uj c M v) (aG:Bool) (b n:Int):uj c (M.cut aG b n).1 (lZ c (gX c v 0 1) (M.cut aG b n).2):=by
 have d:=(Dh M.l0.length M.l1.length).cut (M:=M) (by simp) aG b n
 refine h.live e a (by rw[d.1];exact h.2.1) (by rw[d.2];exact h.2.2.1) λg=>Nat.le_trans (XD a aG b n) (by simp)
theorem uj.put (e:bE c) (a:1<=base c) {v:List Int} (h:uj c M v) (aG:Bool) (b x:Int):uj c (M.put aG b x) (lZ c (gX c v x 1) [gone (bT (M.cP aG) b) x]):=by
 have d:=LM M aG b x
 refine h.live e a (by rw[d.1];exact h.2.1) (by rw[d.2];exact h.2.2.1) λg=>?_
 have:=BZ (g:=g) a M aG b x
 rw[List.countP_singleton]
 unfold ind at this ⊢
 exact this
theorem SG (a:1<=base c) (l0 l1:List Int):∀n,n<=l0.length->n<=l1.length->((tF l0 l1 n).map (·.2)).countP (gp c g)=(l0.take n).countP (gp c g)+(l1.take n).countP (gp c g)
 | 0,_,_=>by simp[tF]
 |n+1,f,h=>by
  have d:=SG a l0 l1 n (by omega) (by omega)
  have i:∀(l:List Int),n<l.length->((rp n (bT l n)).map (·.2)).countP (gp c g)+(l.take n).countP (gp c g)=(l.take (n+1)).countP (gp c g):=λl b=>by
   have e:bT l n=l[n]:=by unfold bT;grind
   rw[List.take_succ_eq_append_getElem b,List.countP_append,List.countP_singleton,e]
   unfold rp
   split
   ·grind
   ·have:gp c g l[n]=false:=by
     unfold gp
     grind
    grind
  rw[tF,List.map_append,List.map_append,List.countP_append,List.countP_append,d]
  grind
theorem LN (a:bE c):∀(l:List (Int×Int)) {v:List Int},AW c v->l.length<=1000->(∀g,bg 0 v g+l.length<=2147483647)->AW c (jW c v l)/\∀g,bg 0 v g+((l.map (·.2)).countP (gp c g):Nat)<=bg 0 (jW c v l) g
 |[],v,h,_,_=>⟨h,λg=>by show bg 0 v g+((0:Nat):Int)<=bg 0 v g;omega⟩
 |x::l,v,h,d,b=>by
  have e:jW c v (x::l)=jW c (gX c v x.2 1) l:=rfl
  have f:=Dg a h (x:=x.2) (.inl rfl)
  rw[List.length_cons] at d b
  have i:∀g,bg 0 (gX c v x.2 1) g=bg 0 v g+(if gp c g x.2 then 1 else 0):=λg=>by
   rw[EK a h.1]
   have k:=b g
   have m:=h.2 g
   split
   ·unfold sL;omega
   ·omega
  obtain⟨g1,j⟩:=LN a l f (by omega) (by grind)
  grind
theorem BN (l0 l1:List Int):∀n,(tF l0 l1 n).length<=2*n
 | 0=>Nat.le_refl _
 |n+1=>by
  have h:=BN l0 l1 n
  have a:∀x,(rp n x).length<=1:=λx=>by unfold rp;grind
  have b:=a (bT l0 n);have d:=a (bT l1 n)
  rw[tF,List.length_append,List.length_append];omega
theorem uj.refs (i:bE c) (h:1<=base c) {v:List Int} (j:(v.length:Int)=c.2.1) (k:∀x∈v,x=0) (e:M.l0.length<=64) (l:M.l1.length=M.l0.length):uj c M (jW c v M.refs):=by
 have a:∀g,bg 0 v g=0:=λg=>by
  unfold bg
  split
  ·rw[List.getD]
   cases m:v[g.toNat]? with
   |none=>rfl
   |some y=>exact k y (by grind)
  ·rfl
 have n:M.refs.length<=2*M.l0.length:=BN M.l0 M.l1 _
 obtain⟨g1,d⟩:=LN i M.refs (v:=v) ⟨j,λg=>by rw[a];omega⟩ (by omega) λg=>by rw[a];omega
 refine⟨g1,e,by omega,λg=>?_⟩
 have f:=d g
 have b:((M.refs).map (·.2)).countP (gp c g)=(M.l0.take M.l0.length).countP (gp c g)+(M.l1.take M.l0.length).countP (gp c g):=SG h M.l0 M.l1 _ (by simp) (by omega)
 rw[List.take_of_length_le (Nat.le_refl _),List.take_of_length_le (by omega)] at b
 rw[a,b] at f
 unfold ju;omega
theorem uj.none {v:List Int} (h:uj c M v) {g x:Int} (e:bg 0 v g=0) (a:x∈M.l0∨x∈M.l1):gp c g x=false:=by
 have b:=h.2.2.2 g
 rw[e] at b
 unfold ju at b
 cases d:gp c g x with
 |false=>rfl
 |true=>
  rcases a with a|a
  ·have:=List.countP_pos_iff.2 ⟨x,a,d⟩;omega
  ·have:=List.countP_pos_iff.2 ⟨x,a,d⟩;omega
end
end KM
end
