import Derived.Test.YtbijlklgbfminaaGreatA29
set_option linter.unusedVariables false
set_option linter.unusedSimpArgs false
namespace Go.Proofs.YtbijlklgbfminaaGreat
section
namespace Li
open Go Go.Kx KM Rw
theorem M0 {H:PH} {s:Sl} {lo hi:Int} {K:Sl->Prop} (a:0<=lo) (b:lo<=hi) (c:hi<=s.cap) (d:s.len<=s.cap) (e:K (s.cut 1 lo.toNat hi.toNat)):kG s 1 lo hi K:=⟨_,⟨a,b,c,d,rfl⟩,e⟩
theorem RD {H:PH} {s:Sl} {x:Sl} {l:List Sl} {Q:Sl->PH->Prop} (h:dE Sl.v H s (x::l)) (w:∀r H',dE Sl.v H' r l->vV s H H'->(∀c,r.has c->s.has c)->Q r H'):gZ s 0 1 H Q:=by
 have q:=h.list
 have E:=q
 rcases h with⟨_,e⟩|⟨b,sp,e,rfl,z⟩
 ·cases e
 have hlen:(x::l).length=l.length+1:=rfl
 rw[hlen] at*
 refine⟨_,⟨by omega,by omega,by simp;omega,by simp;omega,by simp,rfl⟩,aE rfl ?_⟩
 refine M0 (H:=H) (by omega) (by omega) (by simp;omega) (by simp) ?_
 refine ni q (lo:=1) (hi:=((l.length+1:Nat):Int)) (by omega) (by omega) (by simp) λF f _=>?_
 have t:((x::l).drop (1:Int).toNat).take (((l.length+1:Nat):Int).toNat-(1:Int).toNat)=l:=by
  show(l.take _)=l
  rw[List.take_of_length_le (by simp)]
 rw[t] at f
 have a:=f.1
 have m:Sl.cut ⟨some ⟨b,0,none⟩,l.length+1,l.length+1+sp.length⟩ 1 (0:Int).toNat (0:Int).toNat=⟨some ⟨b,0,none⟩,0,l.length+1+sp.length⟩:=by
  simp only[Sl.cut,Int.toNat_zero,Nat.sub_zero,Nat.zero_mul]
  rw[if_neg (by omega)]
  simp[eW]
 rw[m]
 refine⟨l.map Sl.v,f.cells,by simp[a],by simp;exactλx _=>rfl,?_⟩
 rw[if_pos (by simp only[a];omega)]
 refine⟨b,0,_,e,rfl,z,by simp;omega,?_⟩
 have d:putAt ((x::l).map Sl.v++sp) (0+0*1) (l.map Sl.v)=l.map Sl.v++((x::l).map Sl.v++sp).drop l.length:=by
  rw[kF _ _ _ (by simp;omega)];simp
 simp only[a,Nat.zero_add] at*
 have A:∃y:Value,((x::l).map Sl.v++sp).drop l.length=y::sp:=by
  refine⟨((x::l).map Sl.v).getD l.length default,?_⟩
  have j:l.length<((x::l).map Sl.v).length:=by simp
  rw[List.drop_append_of_le_length (by simp),List.drop_eq_getElem_cons j,List.drop_of_length_le (by simp),List.getD_eq_getElem?_getD,List.getElem?_eq_getElem j]
  rfl
 obtain⟨y,D⟩:=A
 rw[D] at d
 have i:putAt ((x::l).map Sl.v++sp) (0*1) (l.map Sl.v)=l.map Sl.v++y::sp:=by rw[Nat.zero_mul];simpa using d
 rw[i]
 refine M0 (H:=H) (by omega) (by omega) (by simp;omega) (by simp;omega) ?_
 have g:Sl.cut ⟨some ⟨b,0,none⟩,l.length,l.length+1+sp.length⟩ 1 ((l.length:Int)).toNat (((l.length+1:Nat):Int)).toNat=⟨some ⟨b,l.length,none⟩,1,1+sp.length⟩:=by
  simp only[Sl.cut,Int.toNat_natCast]
  rw[if_neg (by omega)]
  simp[eW];omega
 rw[g]
 refine .inr (.inr ⟨by simp,b,l.length,l.map Sl.v++y::sp,e,rfl,by rw[PH.dW],by simp,?_⟩)
 have u:putAt (l.map Sl.v++y::sp) l.length (bz 1 [.slice none 0 0])=l.map Sl.v++(Sl.v Sl.nil::sp):=by
  rw[kF _ _ _ (by simp[bz])]
  simp[bz,List.take_append_of_le_length,List.drop_append,Sl.v,Sl.nil]
 rw[u]
 refine w _ _ (.inr ⟨b,Sl.v Sl.nil::sp,e,by simp;omega,by rw[PH.dW]⟩) (λc o n C=>?_) λc n=>n
 have k:c≠b:=λe=>C ⟨_,rfl,e.symm⟩
 rw[PH.al _ _ k,PH.al _ _ k];exact n
structure jJ (B:PH) (bl:List Sl) (fs:List Bs):Prop where
 len:bl.length=fs.length
 at_:∀(i:Nat) (x:Sl) (b:Bs),bl[i]?=some x->fs[i]?=some b->Bytes B x b
theorem jJ.ext {B c:PH} {bl:List Sl} {fs:List Bs} (h:jJ B bl fs) (x:Ext B c):jJ c bl fs:=⟨h.len,λi a b d e=>(h.at_ i a b d e).ext x⟩
theorem jJ.snoc {B:PH} {bl:List Sl} {fs:List Bs} (h:jJ B bl fs) {x:Sl} {b:Bs} (e:Bytes B x b):jJ B (bl++[x]) (fs++[b]):=by
 refine⟨by simp[h.len],λi y c a d=>?_⟩
 by_cases hi:i<bl.length
 ·rw[List.getElem?_append_left hi] at a
  rw[List.getElem?_append_left (by rw[←h.len];exact hi)] at d
  exact h.at_ i y c a d
 ·rw[List.getElem?_append_right (by omega)] at a
  rw[List.getElem?_append_right (by rw[←h.len];omega)] at d
  have e1:i-bl.length=0:=by have:=(List.getElem?_eq_some_iff.1 a).1;simp at this;omega
  rw[e1] at a
  rw[←h.len,e1] at d
  simp at a d;subst a;subst d
  exact e
theorem jJ.tail {B:PH} {x:Sl} {bl:List Sl} {b:Bs} {fs:List Bs} (h:jJ B (x::bl) (b::fs)):jJ B bl fs/\Bytes B x b:=⟨⟨by have:=h.len;simpa using this,λi y c d a=>h.at_ (i+1) y c d a⟩,h.at_ 0 x b rfl rfl⟩
theorem jJ.nil {B:PH}:jJ B [] []:=⟨rfl,λi x b h=>by simp at h⟩
section
variable {H B:PH} {L R:List Ob} {ln:Addr} {s p:Sl} {bl pl:List Sl} {fs gs:List Bs}
theorem eI {Q:Option Addr->PH->Prop} (h:aA H (aC B::L)) (c:∀ln H',aA H' (aC B::aG ln [Sl.v Sl.nil]::aW Sl.v Sl.nil []::L)->Q (some ln) H'):wo H Q:=
 az h λa H1 b=>c a H1 (zU (enc:=Sl.v) b).swap
theorem Et {Q:Int->PH->Prop} (h:aA H (aC B::aG ln [Sl.v s]::aW Sl.v s bl::L)) (M:jJ B bl fs) (C:b9 Sl.v B p pl) (w:jJ B pl gs) (S:fs.length+gs.length<=64) (A:∀b∈gs,b.length<=2 ^ 20)
 (N:∀g q a H',Ext B g->jJ g a (fs++gs)->aA H' (aC g::aG ln [Sl.v q]::aW Sl.v q a::L)->Q (fs.length+gs.length:Nat) H'):ot (some ln) p H Q:=by
 refine aE rfl ?_
 refine ax gs.length (λi st I=>st=(i:Int)/\∃g q a,Ext B g/\jJ g a (fs++gs.take i)/\aA I (aC g::aG ln [Sl.v q]::aW Sl.v q a::L)) ⟨rfl,B,s,bl,.refl _,by simpa using M,h⟩ ?_
 rintro i st H1 again hi ⟨rfl,F,s1,c,n,k,d⟩ z
 rw[C.bF,w.len]
 have m:=k.len
 have v1:dE Sl.v H1 s1 c:=d.get 2 rfl
 refine aL (λc1=>?_) (λc1=>?_)
 ·have e:i<gs.length:=by simpa using c1
  have T:i<pl.length:=by rw[w.len];exact e
  refine aF (eJ ((C.ext n).ext d.base) (by omega) (by omega) λx D=>aD (aY (enc:=Sl.v) (x:=s1) (j:=0) d 1 rfl rfl ?_))
  rw[Int.toNat_natCast] at D
  rw[v1.list.bF,m,List.length_append,List.length_take,Nat.min_eq_left (by omega)]
  have O:=w.at_ i x gs[i] D (List.getElem?_eq_getElem e)
  have X:=A gs[i] (List.getElem_mem e)
  refine ae (decide_eq_true (by omega)) (aD (aY (enc:=Sl.v) (x:=s1) (j:=0) d 1 rfl rfl ?_))
  refine Rw.jb d ((O.ext n).ext d.base) (by omega) λf U r=>gX r λy t P r=>cw (j:=0) r 1 rfl rfl ?_
  refine GA (enc:=Sl.v) (l:=[f]) r rfl rfl λE V u=>cw (j:=0) u 2 rfl rfl ?_
  refine qY (l:=c) (ys:=[f]) u 3 rfl (u.list (enc:=Sl.v) 1 rfl) (λ_=>rfl) rfl (by rw[m];simp;omega) λo W J=>aD (cB (j:=0) J 2 rfl (by simp) rfl λG K=>?_)
  rw[bH (by omega)]
  refine z e _ _ ⟨rfl,y,o,c++[f],n.trans t,?_,(show aA G (aC y::aW Sl.v E [f]::aG ln [Sl.v o]::aW Sl.v o (c++[f])::L) from K).ak⟩
  have:=(k.ext t).snoc P
  rw[It.fk (List.getElem?_eq_getElem e),←List.append_assoc]
  exact this
 ·have:i=gs.length:=by simp at c1;omega
  subst this
  refine aD (aY (enc:=Sl.v) (x:=s1) (j:=0) d 1 rfl rfl ?_)
  rw[List.take_length] at k m
  rw[v1.list.bF,m,List.length_append]
  exact N F s1 c H1 n k d
theorem xE {Q:Int->PH->Prop} (h:aA H (aC B::aG ln [Sl.v s]::aW Sl.v s bl::L)) (a:jJ B bl fs) (b:Q fs.length H):qF (some ln) H Q:=by
 refine aE rfl (aD (aY (enc:=Sl.v) (x:=s) (j:=0) h 1 rfl rfl ?_))
 rw[(h.list (enc:=Sl.v) 2 rfl).bF,a.len];exact b
theorem Kg {b:Bs} {Q:Sl->Bool->PH->Prop} (h:aA H (aC B::aG ln [Sl.v s]::aW Sl.v s bl::L)) (d:jJ B bl (b::fs)) (m:∀x g a H',Bytes B x b->jJ B a fs->aA H' (aC B::aG ln [Sl.v g]::aW Sl.v g a::L)->Q x true H'):rn (some ln) 0 H Q:=by
 cases bl with
 |nil=>have:=d.len;simp at this
 |cons x bl=>
  obtain⟨n,u⟩:=d.tail
  refine aF (ae rfl (xE h d ?_))
  rw[decide_eq_true (show(0:Int)<((b::fs).length:Int) by simp)]
  refine aE rfl (aD (aY (enc:=Sl.v) (x:=s) (j:=0) h 1 rfl rfl (eJ (h.list (enc:=Sl.v) 2 rfl) (by omega) (by simp) λy f=>?_)))
  simp at f;subst f
  have v:dE Sl.v H s (x::bl):=h.get 2 rfl
  refine aD (aY (enc:=Sl.v) (x:=s) (j:=0) h 1 rfl rfl (RD v λr H1 v1 k1 q=>?_))
  have k:=h.dX (O':=aW Sl.v r bl) 2 rfl v1 (λc e=>.inl (q c e)) λc o e t=>k1 c o e t
  refine aD (cB (j:=0) k 1 rfl (by simp) rfl λi l=>m x r bl i u n l)
end
end Li
end
section
namespace Src
open Go Go.Kx KM Rw Wi Fm Li
abbrev lR (S:KM.Sc) (s:Sl):List Value:=[i64 S.view,i64 S.size,i64 S.aV,i64 S.seq,i64 S.fA,i64 S.done,Sl.v s]
structure pD (B:PH) (ml:List M5) (l:List iV):Prop where
 len:ml.length=l.length
 at_:∀(i:Nat) (m:M5) (o:iV),ml[i]?=some m->l[i]?=some o->vf B m o/\bU o.data/\o.data.length<=64
theorem pD.ext {B c:PH} {ml:List M5} {l:List iV} (h:pD B ml l) (x:Ext B c):pD c ml l:=⟨h.len,λi a b d e=>⟨(h.at_ i a b d e).1.ext x,(h.at_ i a b d e).2⟩⟩
theorem pD.snoc {B:PH} {ml:List M5} {l:List iV} (h:pD B ml l) {m:M5} {o:iV} (f:vf B m o) (e:bU o.data) (d:o.data.length<=64):pD B (ml++[m]) (l++[o]):=by
 refine⟨by simp[h.len],λi y c a b=>?_⟩
 by_cases hi:i<ml.length
 ·rw[List.getElem?_append_left hi] at a
  rw[List.getElem?_append_left (by rw[←h.len];exact hi)] at b
  exact h.at_ i y c a b
 ·rw[List.getElem?_append_right (by omega)] at a
  rw[List.getElem?_append_right (by rw[←h.len];omega)] at b
  have e1:i-ml.length=0:=by have:=(List.getElem?_eq_some_iff.1 a).1;simp at this;omega
  rw[e1] at a
  rw[←h.len,e1] at b
  simp at a b;subst a;subst b
  exact⟨f,e,d⟩
theorem G8 (x:M5):(c5 x).length=5:=rfl
theorem Uj (x:M5):(c5 x).all cI=true:=rfl
structure pE (S:KM.Sc):Prop where
 view:1<=S.view/\S.view<=2147483647
 size:1<=S.size/\S.size<=16
 aV:0<=S.aV/\S.aV<=2 ^ 30
 done:0<=S.done/\S.done<=S.fA
 fA:S.fA<=S.seq
 seq:S.seq<=2 ^ 30
 len:(S.l.length:Int)=S.seq-S.done
 DL:S.l.length< 400
section
variable {H B:PH} {L R:List Ob} {sc:Addr} {sl:Sl} {ml:List M5} {S:KM.Sc} {o:iV} {m:M5}
theorem eI {view size:Int} {Q:Option Addr->PH->Prop} (h:aA H (aC B::L)) (e:1<=view/\view<=2147483647) (d:1<=size/\size<=16) (c:∀sc H',aA H' (aC B::aG sc (lR ⟨view,size,0,0,0,0,[]⟩ Sl.nil)::aq c5 5 Sl.nil []::L)->Q (some sc) H'):vo view size H Q:=by
 refine aF (aE (decide_eq_false (by omega)) ?_)
 rw[decide_eq_false (show¬2147483647<view by omega)]
 refine aF (aE rfl ?_)
 rw[decide_eq_false (show¬size< 1 by omega)]
 refine aF (aE rfl ?_)
 rw[decide_eq_false (show¬16<size by omega)]
 refine aE rfl (az h λa H1 b=>c a H1 ?_)
 exact(aA.up (b.zG (enc:=c5) (sz:=5))).swap
structure rQ (S:KM.Sc) (o:iV):Prop where
 may:dK (dY S.view (S.seq+1) o)=true
 k8:o.kind≠8
 k9:o.kind≠9
 room:S.seq-S.done< 399
 tU:bU o.data
 d64:o.data.length<=64
theorem Eu {Q:Int->PH->Prop} (h:aA H (aC B::aG sc (lR S sl)::aq c5 5 sl ml::L)) (ok:pE S) (y:pD B ml S.l) (hm:vf B m o) (a:rQ S o)
 (I:∀p k g H',Ext B p->pD p g (S.l++[o])->aA H' (aC p::aG sc (lR {S with l:=S.l++[o],seq:=S.seq+1} k)::aq c5 5 k g::L)->Q 0 H'):iz (some sc) m H Q:=by
 have K:=ok.seq;have V:=ok.done;have U:=ok.fA;have W:=ok.len;have hf:=ok.DL
 refine az h λa1 H1 b=>aE rfl (aF (aD (aY (x:=S.view) (j:=0) b 2 rfl rfl (aD (aY (x:=S.seq) (j:=3) b 2 rfl rfl (bk (x:=m) b rfl rfl ?_))))))
 rw[bo (x:=S.seq+1) (by omega) (by omega)]
 have t:=a.d64
 refine Fm.EH b (hm.ext b.base) a.tU (by omega) (λ_ _ _ s q M n J D=>?_) (λz=>absurd ⟨a.may,a.k8,a.k9⟩ z)
 refine az D λf N E=>bf (vs:=f8 (dD (dY S.view (S.seq+1) o) s)) E rfl rfl λO e=>aE rfl ?_
 refine aD (aY (x:=S.seq) (j:=3) e 3 rfl rfl (aD (aY (x:=S.done) (j:=5) e 3 rfl rfl ?_)))
 rw[bo (x:=S.seq-S.done) (by omega) (by omega)]
 have X:=a.room
 refine aE (decide_eq_false (by omega)) (aY (enc:=Sl.v) (x:=s) (j:=7) e 1 rfl rfl ?_)
 refine cB (j:=4) e 2 rfl (by simp) rfl λA c=>?_
 have c:aA A (aC q::aG f (f8 (dD (dY S.view (S.seq+1) o) s))::aG a1 (c5 (m.1,m.2.1,m.2.2.1,m.2.2.2.1,s))::aG sc (lR S sl)::aq c5 5 sl ml::L):=c
 refine aD (aY (enc:=Sl.v) (x:=sl) (j:=6) c 3 rfl rfl (bj (x:=(m.1,m.2.1,m.2.2.1,m.2.2.2.1,s)) c 2 rfl rfl rfl ?_))
 refine jo.vR (enc:=c5) (sz:=5) (l:=[(m.1,m.2.1,m.2.2.1,m.2.2.2.1,s)]) c (by simp) rfl λi C r=>cw (j:=6) r 4 rfl rfl ?_
 have v6:bT c5 5 C i [(m.1,m.2.1,m.2.2.1,m.2.2.2.1,s)]:=r.get 1 rfl
 refine sQ G8 (by decide) r 5 rfl (v6.cells G8 (by decide)) v6.len Uj rfl (by rw[y.len];simp;omega) λd P F=>aD (cB (j:=6) F 4 rfl (by simp) rfl λT w=>?_)
 refine aD (aY (x:=S.seq) (j:=3) w 4 rfl rfl (aD ?_))
 rw[bo (x:=S.seq+1) (by omega) (by omega)]
 refine cB (j:=3) w 4 rfl (by simp) rfl λu G=>?_
 obtain⟨m1,m2,m3,m4,Y⟩:=hm
 refine I q d (ml++[(m.1,m.2.1,m.2.2.1,m.2.2.2.1,s)]) u n ((y.ext n).snoc ⟨m1,m2,m3,m4,J⟩ a.tU t) ?_
 exact(show aA u (aC q::aq c5 5 i [(m.1,m.2.1,m.2.2.1,m.2.2.2.1,s)]::aG f (f8 (dD (dY S.view (S.seq+1) o) s))::aG a1 (c5 (m.1,m.2.1,m.2.2.1,m.2.2.2.1,s))::aG sc (lR {S with l:=S.l++[o],seq:=S.seq+1} d)::aq c5 5 d (ml++[(m.1,m.2.1,m.2.2.1,m.2.2.2.1,s)])::L) from G).ak.ak.ak
theorem r9 {b:Int} {data:Bs} {p:Sl} {Q:Int->PH->Prop} (h:aA H (aC B::aG sc (lR S sl)::aq c5 5 sl ml::L)) (ok:pE S) (e:pD B ml S.l) (i:Bytes B p data) (g:rQ S ⟨1,b,0,0,data⟩)
 (f:∀d c a H',Ext B d->pD d a (S.l++[⟨1,b,0,0,data⟩])->aA H' (aC d::aG sc (lR {S with l:=S.l++[⟨1,b,0,0,data⟩],seq:=S.seq+1} c)::aq c5 5 c a::L)->Q 0 H'):mj (some sc) b p H Q:=
 Eu (m:=(1,b,0,0,p)) h ok e ⟨rfl,rfl,rfl,rfl,i⟩ g f
theorem M6 {Q:Int->PH->Prop} (h:aA H (aC B::aG sc (lR S sl)::aq c5 5 sl ml::L)) (ok:pE S) (q:pD B ml S.l) (s:rQ S ⟨3,0,0,S.aV+1,[]⟩)
 (r:∀c b a H',Ext B c->pD c a (S.l++[⟨3,0,0,S.aV+1,[]⟩])->aA H' (aC c::aG sc (lR {S with l:=S.l++[⟨3,0,0,S.aV+1,[]⟩],seq:=S.seq+1,aV:=S.aV+1} b)::aq c5 5 b a::L)->Q 0 H'):nI (some sc) H Q:=by
 have he:=ok.aV
 refine aE rfl (aD (aY (x:=S.aV) (j:=2) h 1 rfl rfl ?_))
 show iz (some sc) (3,0,0,IntKind.wrap .i64 (S.aV+1),Sl.nil) H _
 rw[bo (x:=S.aV+1) (by omega) (by omega)]
 refine Eu (m:=(3,0,0,S.aV+1,Sl.nil)) (o:=⟨3,0,0,S.aV+1,[]⟩) h ok q ⟨rfl,rfl,rfl,rfl,.nil⟩ s λk g f H1 i e d=>aF (ae rfl (aD (aY (x:=S.aV) (j:=2) d 1 rfl rfl (aD ?_))))
 rw[bo (x:=S.aV+1) (by omega) (by omega)]
 exact cB (j:=2) d 1 rfl (by simp) rfl λn p=>r k g f n i e p
theorem Kh {Q:Int->PH->Prop} (h:aA H (aC B::aG sc (lR S sl)::L)) (a:Q S.fA H):mm (some sc) H Q:=aE rfl (aD (aY (x:=S.fA) (j:=4) h 1 rfl rfl a))
end
end Src
end
end Go.Proofs.YtbijlklgbfminaaGreat
section
namespace KM
def Ar (S:Sc) (n:Int) (o:iV):List Bs:=if n<=S.fA∨S.fA+S.size<n then[] else[cC (dY S.view n o)]
theorem CW (S:Sc):∀(l:List iV) (n:Int) (o:iV),l9 S n (l++[o])=l9 S n l++Ar S (n+l.length) o
 |[],n,o=>by
  show l9 S n [o]=_
  simp only[l9,Ar,List.length_nil,Int.natCast_zero,Int.add_zero,List.nil_append]
 |x::l,n,o=>by
  rw[List.cons_append,l9,l9,CW S l (n+1) o,List.length_cons,show n+1+(l.length:Int)=n+((l.length+1:Nat):Int) by push_cast;omega]
  split<;>simp
end KM
namespace Go.Proofs.YtbijlklgbfminaaGreat
namespace Src
open Go Go.Kx KM Rw Wi Fm Li
section
variable {H B:PH} {L R:List Ob} {sc c0:Addr} {sl:Sl} {ml:List M5} {S:KM.Sc} {o:iV} {m:M5}
theorem S0 {Q:Value->PH->Prop} (h:aA H (aC B::L)) (d:∀c0 b H',Ext B b->aZ b c0 [.pointer (some sc)]->aA H' (aC b::L)->Q (.func (.func 271) #[] #[.pointer (some c0)]) H'):oG (some sc) H Q:=
 fM h λa b H' e r c=>d a b H' e r c
theorem Ou {γ:Type} {Y:List Value->γ->PH->(Nat->γ->PH->Prop)->Prop} {y:γ} {Q:Nat->γ->PH->Prop} (J:List iV->γ->PH->List Ob->Prop)
 (h:aA H (aC B::aG sc (lR S sl)::aq c5 5 sl ml::L)) (ok:pE S) (C:pD B ml S.l) (W:aZ B c0 [.pointer (some sc)])
 (hJ:∀l b F G M,Ext F G->J l b F M->J l b G M) (h0:J [] y B L)
 (step:∀pre m o b a M n K,Ext B a->J pre b a M->S.l[pre.length]?=some o->vf a m o->bU o.data->o.data.length<=64->aA n (aC a::aG sc (lR S sl)::aq c5 5 sl ml::M)->
  (∀e u O w,Ext a u->J (pre++[o]) e u O->aA w (aC u::aG sc (lR S sl)::aq c5 5 sl ml::O)->K 0 e w)->Y [i64 (S.done+1+pre.length),.agg (c5 m).toArray] b n K)
 (fin:∀b a M n,Ext B a->J S.l b a M->aA n (aC a::aG sc (lR S sl)::aq c5 5 sl ml::M)->Q 0 b n):pX c0 Y y H Q:=by
 have hf:=ok.DL;have hd:=ok.done;have ha:=ok.fA;have hs:=ok.seq
 have E:=W.ext h.base
 refine au (x:=some sc) E (aE rfl (au (x:=some sc) E (aD (aY (x:=S.done) (j:=5) h 1 rfl rfl (au (x:=some sc) E (aD (aY (enc:=Sl.v) (x:=sl) (j:=6) h 1 rfl rfl ?_)))))))
 refine ax S.l.length (λi st Hk=>∃b a M,st=((i:Int),(0,b))/\Ext B a/\J (S.l.take i) b a M/\aA Hk (aC a::aG sc (lR S sl)::aq c5 5 sl ml::M)) ⟨y,B,L,rfl,.refl _,h0,h⟩ ?_
 rintro i st H1 again hi ⟨b,a,M,rfl,k,D,z⟩ U
 have v1:bT c5 5 H1 sl ml:=z.get 2 rfl
 rw[v1.bF,C.len]
 refine aL (λc1=>?_) (λc1=>?_)
 ·have d:i<S.l.length:=by simpa using c1
  have ad:i<ml.length:=by rw[C.len];exact d
  refine ob (v1.jv G8) (by omega) (by simp;omega) λac m hm X=>⟨m,X,?_⟩
  simp only[Int.toNat_natCast] at hm
  obtain⟨aa,V,T⟩:=C.at_ i m S.l[i] hm (List.getElem?_eq_getElem d)
  have c:=aa.ext k
  refine az z λP n h2=>bf (vs:=c5 m) h2 rfl rfl λw A=>ay (en:=Sl.v) (x:=m.2.2.2.2) A rfl ?_
  refine Rw.jb A (c.2.2.2.2.ext A.base) (by omega) λq H4 h4=>gX h4 λI p hy h5=>xi h5 (by simp) rfl λN r=>?_
  have r:aA N (aC I::aG P (c5 (m.1,m.2.1,m.2.2.1,m.2.2.2.1,q))::aG sc (lR S sl)::aq c5 5 sl ml::M):=r
  refine bk (x:=(m.1,m.2.1,m.2.2.1,m.2.2.2.1,q)) r rfl rfl ⟨rfl,?_⟩
  rw[bo (x:=S.done+1) (by omega) (by omega),bo (x:=S.done+1+(i:Int)) (by omega) (by omega)]
  have t:(S.l.take i).length=i:=by rw[List.length_take,Nat.min_eq_left (by omega)]
  have:=step (S.l.take i) (m.1,m.2.1,m.2.2.1,m.2.2.2.1,q) S.l[i] b I M N (λj g H'=>(λf s=>aJ (!(f.1==0)) (Q f.1 f.2 s) (again (IntKind.wrap .i64 ((i:Int)+1),f) s)) (j,g) H') (k.trans p) (hJ _ _ _ _ _ p D) (by rw[t];exact List.getElem?_eq_getElem d) ⟨c.1,c.2.1,c.2.2.1,c.2.2.2.1,hy⟩ V T r.ak λe B7 M7 H7 ab Z h7=>by
   refine aE rfl ?_
   rw[bH (by omega)]
   refine U d _ _ ⟨e,B7,M7,rfl,k.trans (p.trans ab),?_,h7⟩
   rw[It.fk (List.getElem?_eq_getElem d)];exact Z
  rw[t] at this
  exact this
 ·have:i=S.l.length:=by simp at c1;omega
  subst this
  rw[List.take_length] at D
  exact fin b a M H1 k D z
def As (S:KM.Sc):Prop:=∀(i:Nat) (o:iV),S.l[i]?=some o->dK (dY S.view (S.done+1+(i:Int)) o)=true/\o.kind≠8/\o.kind≠9
theorem n6 {Q:Sl->PH->Prop} (h:aA H (aC B::aG sc (lR S sl)::aq c5 5 sl ml::L)) (ok:pE S) (hO:pD B ml S.l) (al:As S)
 (hQ:∀q bl c H',Ext B c->b9 Sl.v c q bl->jJ c bl S.out->aA H' (aC c::aG sc (lR S sl)::aq c5 5 sl ml::L)->Q q H'):oH (some sc) H Q:=by
 have hf:=ok.DL;have hd:=ok.done;have ha:=ok.fA;have hs:=ok.seq;have hz:=ok.size;have ax:=ok.len
 refine fM h λa1 B1 H1 ao t W=>az W λe H2 A=>?_
 refine au (x:=some sc) (t.ext A.base) (S0 A λc0 B3 H3 T rc p=>?_)
 have p:aA H3 (aC B3::aG sc (lR S sl)::aq c5 5 sl ml::aG e [Sl.v Sl.nil]::aW Sl.v Sl.nil []::L):=by
  have k:=zU (enc:=Sl.v) p
  exact aA.GV (X:=[aW Sl.v Sl.nil [],aG e [Sl.v Sl.nil],aG sc (lR S sl),aq c5 5 sl ml]) (Y:=[aG sc (lR S sl),aq c5 5 sl ml,aG e [Sl.v Sl.nil],aW Sl.v Sl.nil []]) k 4 [2,3,1,0] rfl (by decide) rfl
 have P:=ao.trans T
 refine yJ c0 _ _ _ _ (Ou (λpre _ c N=>∃s bl,jJ c bl (l9 S (S.done+1) pre)/\bl.length<=pre.length/\N=aG e [Sl.v s]::aW Sl.v s bl::L) p ok (hO.ext P) rc
  (λl _ A' c M x ⟨s,bl,W,A,p⟩=>⟨s,bl,W.ext x,A,p⟩) ⟨Sl.nil,[],.nil,Nat.le_refl _,rfl⟩ ?_ ?_)
 ·rintro pre m o _ B4 M H4 K y ⟨s,bl,D,af,rfl⟩ ho aj O aw k g
  obtain⟨r,ag,ah⟩:=al _ _ ho
  have ay:pre.length<S.l.length:=(List.getElem?_eq_some_iff.1 ho).1
  have i:=T.trans y
  have es:=CW S pre (S.done+1) o
  refine⟨_,m,rfl,az k λG H5 C=>bf (vs:=c5 m) C rfl rfl λH6 a=>au (x:=some sc) ((t.ext i).ext a.base) (aD (aY (x:=S.fA) (j:=4) a 2 rfl rfl ?_))⟩
  have ae:∀{c H'} {X:List Ob},aA H' (aC c::aG G (c5 m)::X)->aA H' (aC c::X):=λh=>h.ak
  generalize hn:S.done+1+(pre.length:Int)=n at es r ⊢
  refine vk (b:=decide (S.fA+S.size<n)) (λkk=>?_) ?_
  ·refine au (x:=some sc) ((t.ext i).ext a.base) (aD (aY (x:=S.fA) (j:=4) a 2 rfl rfl (au (x:=some sc) ((t.ext i).ext a.base) (aD (aY (x:=S.size) (j:=1) a 2 rfl rfl ?_)))))
   rw[bo (x:=S.fA+S.size) (by omega) (by omega)];exact kk
  ·refine aL (λc1=>?_) (λc1=>aF ?_)
   ·refine g () B4 _ H6 (.refl _) ⟨s,bl,?_,by simp;omega,rfl⟩ (ae a)
    rw[es,Ar,if_pos (by simpa using c1),List.append_nil];exact D
   ·refine au (x:=some sc) ((t.ext i).ext a.base) (aD (aY (x:=S.view) (j:=0) a 2 rfl rfl (bk (x:=m) a rfl rfl ?_)))
    refine Fm.EH a (aj.ext a.base) O (by omega) (λ_ _ _ z B7 H7 V am h7=>?_) (λai=>absurd ⟨r,ag,ah⟩ ai)
    refine az h7 λab H8 h8=>bf (vs:=f8 (dD (dY S.view n o) z)) h8 rfl rfl λH9 h9=>bk (x:=dD (dY S.view n o) z) h9 rfl rfl ?_
    refine Fm.dt (f:=dY S.view n o) (am.ext h9.base) O r λd ap Z=>gX (h9.made Z) λE w aa I=>?_
    refine dO (enc:=Sl.v) (x:=s) I 5 rfl (GA (enc:=Sl.v) (l:=[d]) I rfl rfl λan ar J=>?_)
    refine qY (l:=bl) (ys:=[d]) J 7 rfl (J.list (enc:=Sl.v) 1 rfl) (λ_=>rfl) rfl (by simp;omega) λu av ac=>hC ac 6 rfl rfl λF ad=>?_
    refine g () E _ F (V.trans w) ⟨u,bl++[d],?_,by simp;omega,rfl⟩ (show aA F (aC E::aW Sl.v an [d]::aG ab (f8 (dD (dY S.view n o) z))::aG G (c5 m)::aG sc (lR S sl)::aq c5 5 sl ml::aG e [Sl.v u]::aW Sl.v u (bl++[d])::L) from ad).ak.ak.ak
    rw[es,Ar,if_neg (by simpa using c1)]
    exact(D.ext (V.trans w)).snoc aa
 ·rintro _ B4 M H4 y ⟨s,bl,D,af,rfl⟩ k
  refine dO (enc:=Sl.v) (x:=s) k 3 rfl (hC k 3 rfl rfl λH5 C=>dO (enc:=Sl.v) (x:=s) C 3 rfl ?_)
  have a:=aA.GV (X:=[aG sc (lR S sl),aq c5 5 sl ml,aG e [Sl.v s],aW Sl.v s bl]) (Y:=[aW Sl.v s bl,aG e [Sl.v s],aG sc (lR S sl),aq c5 5 sl ml]) C 4 [3,2,0,1] rfl (by decide) rfl
  exact gX a λB6 U hv h7=>hQ s bl B6 H5 (P.trans (y.trans U)) hv (D.ext U) h7.ak
end
end Src
end Go.Proofs.YtbijlklgbfminaaGreat
end
namespace Go.Proofs.YtbijlklgbfminaaGreat
section
namespace Src
open Go Go.Kx KM Rw Wi Fm Li
theorem M8 {α:Type} {enc:α->List Value} {sz:Nat} {H:PH} {s:Sl} {l:List α} {lo:Nat} {K:Sl->Prop} (h:dT enc sz H s l) (k:lo<=l.length) (c:∀r,dT enc sz H r (l.drop lo)->K r):kG s sz lo (s.len:Int) K:=by
 have n:=h.1
 have e:=h.2.1
 refine⟨_,⟨by omega,by omega,by omega,e,rfl⟩,c _ ⟨?_,?_,?_⟩⟩
 ·simp only[Sl.cut,List.length_drop,Int.toNat_natCast];omega
 ·simp only[Sl.cut,Int.toNat_natCast];omega
 ·intro i x hi
  rw[List.getElem?_drop] at hi
  obtain⟨a,d,b,g⟩:=h.2.2 _ _ hi
  have j:=(List.getElem?_eq_some_iff.1 hi).1
  refine⟨a.add (lo*sz),?_,?_,?_⟩
  ·simp only[Sl.cut,d,Int.toNat_natCast]
   rw[if_neg (by omega)];rfl
  ·rw[qn _ _ b]
  ·rw[Fc _ _ _ b,←Nat.add_mul];exact g
section
variable {H B:PH} {L R:List Ob} {sc c0:Addr} {sl:Sl} {ml:List M5} {S:KM.Sc} {o:iV} {m:M5} {f:pG}
theorem pD.drop {B:PH} {ml:List M5} {l:List iV} (h:pD B ml l) (n:Nat):pD B (ml.drop n) (l.drop n):=
 ⟨by simp[h.len],λi m o hm a=>h.at_ (n+i) m o (by rw[List.getElem?_drop] at hm;exact hm) (by rw[List.getElem?_drop] at a;exact a)⟩
theorem S1 {s:Sl} {l:List M5} {Q:Sl->PH->Prop} (b:dT c5 5 H s l) (c:l.length<=1000) (a:∀r H',aA H' [aC H,aq c5 5 r l]->Q r H'):iA s H Q:=
 Fh G8 (by decide) b Uj rfl (by omega) a
def rR (S:KM.Sc) (f:pG):KM.Sc:={S with l:=S.l.drop (max S.done f.done-S.done).toNat,done:=max S.done f.done,fA:=max (max S.done f.done) f.seq}
theorem jE {p:Sl} {b:Bs} {Q:Int->PH->Prop} (h:aA H (aC B::aG sc (lR S sl)::aq c5 5 sl ml::L)) (ok:pE S) (u:pD B ml S.l)
 (hp:Bytes B p b) (C:vY b=some f) (W:25<=b.length) (E:b.length<=65536) (V:bU b) (hk:f.kind=8) (hv:f.view=S.view) (ae:f.seq<=S.seq) (ab:f.done<=S.seq)
 (D:∀n i g H',Ext B n->pD n g (rR S f).l->aA H' (aC n::aG sc (lR (rR S f) i)::aq c5 5 i g::L)->Q 0 H'):nN (some sc) p H Q:=by
 have hf:=ok.DL;have hd:=ok.done;have ha:=ok.fA;have hs:=ok.seq;have ac:=ok.len
 refine aE rfl (Fm.gO h hp W E V (λf' d s q H1 k ad aa Z M=>?_) (λe=>by rw[C] at e;cases e))
 rw[C] at d
 have K:=Option.some.inj d
 subst K
 refine az M λt H2 N=>bf (vs:=f8 (dD f s)) N rfl rfl λI c=>aE rfl ?_
 refine ay (x:=f.kind) c rfl (aE (by rw[hk];rfl) (ay (x:=f.view) c rfl (aD (aY (x:=S.view) (j:=0) c 2 rfl rfl (aE (by rw[hv];simp) ?_)))))
 refine ay (x:=f.seq) c rfl (aD (aY (x:=S.seq) (j:=3) c 2 rfl rfl (aE (decide_eq_false (by omega)) ?_)))
 refine aD (aY (x:=S.done) (j:=5) c 2 rfl rfl (ay (x:=f.done) c rfl (aD (aY (enc:=Sl.v) (x:=sl) (j:=6) c 2 rfl rfl (aD (aY (x:=S.done) (j:=5) c 2 rfl rfl ?_))))))
 have e1:(if S.done<f.done then f.done else S.done)=max S.done f.done:=by split<;>omega
 rw[e1]
 have G:S.done<=max S.done f.done/\max S.done f.done<=S.seq:=by omega
 generalize F:max S.done f.done=md at G ⊢
 rw[bo (x:=md-S.done) (by omega) (by omega)]
 have v3:bT c5 5 I sl ml:=c.get 3 rfl
 have en:md-S.done=((md-S.done).toNat:Int):=by omega
 rw[en]
 refine M8 (v3.jv G8) (by rw[u.len];omega) λaf hr=>?_
 refine S1 hr (by simp;have:=u.len;omega) λa H4 y=>?_
 have O:=c.made y
 refine aD (cB (j:=6) O 3 rfl (by simp) rfl λH5 z=>aY (x:=f.seq) (j:=2) z 2 rfl rfl (aD (cB (j:=5) z 3 rfl (by simp) rfl λH6 A=>cw (j:=2) A 2 rfl rfl (aD ?_))))
 have e2:(if md<f.seq then f.seq else md)=max md f.seq:=by split<;>omega
 rw[e2]
 refine cB (j:=4) A 3 rfl (by simp) rfl λr P=>?_
 have J:rR S f={S with l:=S.l.drop (md-S.done).toNat,done:=md,fA:=max md f.seq}:=by unfold rR;rw[F]
 rw[J] at D
 have T:aA r (aC q::aG t (f8 (dD f s))::aG sc (lR {S with l:=S.l.drop (md-S.done).toNat,done:=md,fA:=max md f.seq} a)::aq c5 5 sl ml::aq c5 5 a (ml.drop (md-S.done).toNat)::L):=
  aA.GV (X:=[aq c5 5 a (ml.drop (md-S.done).toNat),aG t (f8 (dD f s)),aG sc (lR {S with l:=S.l.drop (md-S.done).toNat,done:=md,fA:=max md f.seq} a),aq c5 5 sl ml]) (Y:=[aG t (f8 (dD f s)),aG sc (lR {S with l:=S.l.drop (md-S.done).toNat,done:=md,fA:=max md f.seq} a),aq c5 5 sl ml,aq c5 5 a (ml.drop (md-S.done).toNat)]) P 4 [1,2,3,0] rfl (by decide) rfl
 have U:=T.ak
 have w:aA r (aC q::aq c5 5 sl ml::aG sc (lR {S with l:=S.l.drop (md-S.done).toNat,done:=md,fA:=max md f.seq} a)::aq c5 5 a (ml.drop (md-S.done).toNat)::L):=U.swap
 exact D q a (ml.drop (md-S.done).toNat) r k ((u.ext k).drop _) w.ak
end
end Src
end
section
namespace Ma
open Go Go.Kx KM Rw Wi Fm Li Src
section
variable {H B:PH} {L R:List Ob}
theorem JI (x:Int) {n:Int} (d:0<n):(Int.tmod x n=x%n∨Int.tmod x n+n=x%n)/\0<=x%n/\x%n<n:=by
 have c:=Int.tmod_eq_emod (a:=x) (b:=n)
 have e:=Int.emod_nonneg x (by omega:n≠0)
 have f:=Int.emod_lt_of_pos x d
 split at c<;>omega
theorem Ov {x m:Int} {Q:Int->PH->Prop} (hm:0<m) (d:m< 2 ^ 62) (b:Q (x%m) H):qa x m H Q:=by
 obtain⟨i,f,g⟩:=JI x hm
 refine⟨by omega,aF (aL (λa=>?_) (λa=>?_))⟩
 ·have c:x.tmod m< 0:=by simpa using a
  have e:x.tmod m+m=x%m:=by omega
  rw[bo (by omega) (by omega),e];exact b
 ·have c:¬x.tmod m< 0:=by simpa using a
  have h:=Int.tmod_lt_of_pos x hm
  have e:x.tmod m=x%m:=by omega
  rw[e];exact b
theorem px {x m:Int} {Q:Int->PH->Prop} (hm:0<m) (a:m< 2 ^ 62) (b:Q (x%m) H):fp x m H Q:=Ov hm a b
theorem Ev {x n:Int} {Q:Int->PH->Prop} (c:0<n) (f:n< 2 ^ 60) (b:Q (x%n) H):sV x n H Q:=by
 obtain⟨d,g,h⟩:=JI x c
 refine⟨by omega,by omega,?_⟩
 have a:0<=Int.tmod x n+n/\Int.tmod x n+n< 2*n:=by omega
 rw[bo (x:=Int.tmod x n+n) (by omega) (by omega),Int.tmod_eq_emod_of_nonneg a.1]
 have e:(Int.tmod x n+n)%n=x%n:=by
  rcases d with e|e
  ·rw[e,Int.add_emod_right,Int.emod_emod_of_dvd x (Int.dvd_refl n)]
  ·rw[e,Int.emod_emod_of_dvd x (Int.dvd_refl n)]
 rw[e];exact b
theorem pJ {n e:Int} {Q:Int×Int->PH->Prop} (h:aA H (aC B::L)) (i:∀H',aA H' (aC B::L)->Q (e,if e=0 then n else 0) H'):dw n e H Q:=by
 refine az h λa1 H1 g=>aF ?_
 have fin:∀v,v=(if e=0 then n else 0)->aX H1 a1 [i64 e,i64 v] λa=>aU (λ(x:(Int×Int))=>[i64 x.1,i64 x.2]) a a1 2 λd=>Q d a:=λv j=>by
  refine bf (vs:=[i64 e,i64 v]) g rfl rfl λf b=>bk (x:=(e,v)) b rfl rfl ?_
  rw[j];exact i f b.ak
 refine aL (λc=>fin 0 ?_) (λc=>fin n ?_)
 ·rw[if_neg (by simpa using c)]
 ·rw[if_pos (by simpa using c)]
def lS (x:Int) (k:Nat):Bs:=(List.range k).map λ(i:Nat)=>(x% 256+(i:Int))% 256
theorem Ew (x:Int) {k:Nat} (hk:k< 64):(lS x k++List.replicate (64-k) 0).set k ((x% 256+(k:Int))% 256)=lS x (k+1)++List.replicate (64-(k+1)) 0:=by
 have b:(lS x k).length=k:=by simp[lS]
 obtain⟨m,em⟩:∃m,64-k=m+1:=⟨63-k,by omega⟩
 have a:64-(k+1)=m:=by omega
 rw[em,a,List.set_append_right _ _ (by omega),b,Nat.sub_self,List.replicate_succ,List.set_cons_zero]
 simp[lS,List.range_succ]
theorem zp (x:Int):bU (fD x):=λy a=>by
 simp only[fD,List.mem_map] at a
 obtain⟨k,_,rfl⟩:=a
 omega
theorem P3 {x:Int}:IntKind.wrap .u8 x=x% 256:=by
 have a:(2:Int) ^ IntKind.u8.bits=256:=rfl
 simp only[IntKind.wrap,a,IntKind.signed,Bool.false_and,Bool.false_eq_true,if_false]
theorem M9 {x:Int} {Q:Sl->PH->Prop} (h:aA H (aC B::L)) (p:∀r f H',Ext B f->Bytes f r (fD x)->aA H' (aC f::L)->Q r H'):tj x H Q:=by
 refine F9 (enc:=u8) (x:=(0:Int)) h (by omega) (by decide) λr H1 g=>?_
 have g:aA H1 (aC B::aW u8 r (lS x 0++List.replicate (64- 0) 0)::L):=g
 refine ax 64 (λk st o=>st=(k:Int)/\aA o (aC B::aW u8 r (lS x k++List.replicate (64-k) 0)::L)) ⟨rfl,g⟩ ?_
 rintro k st n again hk ⟨rfl,a⟩ i
 have j:(r.len:Int)=64:=by
  rw[(a.list (enc:=u8) 1 rfl).bF];simp[lS];omega
 rw[j]
 refine aL (λc=>?_) (λc=>?_)
 ·have d:k< 64:=by simp at c;omega
  refine Ev (by decide) (by decide) ?_
  have u:=Int.emod_nonneg x (show(256:Int)≠0 by decide)
  have s:=Int.emod_lt_of_pos x (show(0:Int)< 256 by decide)
  rw[bo (x:=x% 256+(k:Int)) (by omega) (by omega),P3]
  refine tf a 1 rfl (by omega) (by simp[lS];omega) rfl λt b=>?_
  rw[bH (by omega)]
  refine i d _ _ ⟨rfl,?_⟩
  rw[Int.toNat_natCast,Ew x d] at b
  exact b
 ·have:k=64:=by simp at c;omega
  subst this
  have e:lS x 64++List.replicate (64- 64) 0=fD x:=by simp[lS,fD]
  rw[e] at a
  exact gX a λm l q b=>p r m n l q b
theorem DW {x:Int} {Q:Sl->PH->Prop} (h:aA H (aC B::L)) (o:∀r d H',Ext B d->Bytes d r (fD x)->aA H' (aC d::L)->Q r H'):lM x H Q:=by
 refine F9 (enc:=u8) (x:=(0:Int)) h (by omega) (by decide) λr H1 f=>?_
 have f:aA H1 (aC B::aW u8 r (lS x 0++List.replicate (64- 0) 0)::L):=f
 refine ax 64 (λk st n=>st=(k:Int)/\aA n (aC B::aW u8 r (lS x k++List.replicate (64-k) 0)::L)) ⟨rfl,f⟩ ?_
 rintro k st m again hk ⟨rfl,g⟩ i
 refine aL (λc=>?_) (λc=>?_)
 ·have b:k< 64:=by simp at c;omega
  refine px (by decide) (by decide) ?_
  have t:=Int.emod_nonneg x (show(256:Int)≠0 by decide)
  have q:=Int.emod_lt_of_pos x (show(0:Int)< 256 by decide)
  rw[bo (x:=x% 256+(k:Int)) (by omega) (by omega)]
  refine px (by decide) (by decide) ?_
  rw[P3,Int.emod_emod_of_dvd _ (Int.dvd_refl 256)]
  refine tf g 1 rfl (by omega) (by simp[lS];omega) rfl λs a=>?_
  rw[bH (by omega)]
  refine i b _ _ ⟨rfl,?_⟩
  rw[Int.toNat_natCast,Ew x b] at a
  exact a
 ·have:k=64:=by simp at c;omega
  subst this
  have e:lS x 64++List.replicate (64- 64) 0=fD x:=by simp[lS,fD]
  rw[e] at g
  exact gX g λl j p a=>o r l m j p a
theorem Bo {p q:Sl} {x y:Bs} {Q:Bool->PH->Prop} (h:Bytes H p x) (i:Bytes H q y) (o:x.length< 2 ^ 40) (d:Q (x==y) H):kg p q H Q:=by
 refine aL (λc=>?_) (λc=>?_)
 ·rw[h.bF,i.bF] at c
  have e:(x==y)=false:=by
   rw[beq_eq_false_iff_ne]
   intro e;rw[e] at c;simp at c
  rw[e] at d;exact d
 ·rw[h.bF,i.bF] at c
  have l:x.length=y.length:=by simp at c;omega
  refine ax x.length (λk st n=>st=(k:Int)/\n=H/\x.take k=y.take k) ⟨rfl,rfl,rfl⟩ ?_
  rintro k st H1 again hk ⟨rfl,rfl,he⟩ j
  rw[h.bF]
  refine aL (λc2=>?_) (λc2=>?_)
  ·have m:k<x.length:=by simpa using c2
   refine eJ h (by omega) (by omega) λa f=>eJ i (by omega) (by omega) λb g=>?_
   rw[Int.toNat_natCast] at f g
   refine aL (λc3=>?_) (λc3=>?_)
   ·have e:(x==y)=false:=by
     rw[beq_eq_false_iff_ne]
     intro e;rw[e] at f;rw[f] at g;have:=Option.some.inj g;subst this;simp at c3
    rw[e] at d;exact d
   ·have e:a=b:=by simpa using c3
    subst e
    rw[bH (by omega)]
    exact j m _ _ ⟨rfl,rfl,by rw[It.fk f,It.fk g,he]⟩
  ·have:k=x.length:=by simp at c2;omega
   subst this
   rw[List.take_length,l,List.take_length] at he
   rw[he,beq_self_eq_true] at d
   exact d
end
end Ma
end
section
namespace Ma
open Go Go.Kx KM Rw Wi Fm Li Src So Re
structure tZ where
 F:Fr
 ma:Addr
 sc:Addr
 up:Addr
 dn:Addr
 size:Int
structure uI where
 W:Wt
 sl:Sl
 ml:List M5
 us:Sl
 ub:List Sl
 ds:Sl
 db:List Sl
structure lr where
 S:KM.St
 V:WM
 s:KM.Sc
 up:List Bs
 dn:List Bs
abbrev P4 (M:tZ):List Value:=[i64 M.size,.pointer (some M.F.X.da),.pointer (some M.F.fa),.pointer (some M.sc),.pointer (some M.up),.pointer (some M.dn)]
abbrev m1 (A:Ds.DA) (M:tZ) (w:uI) (x:lr):List Ob:=nY A M.F.X w.W x.S++[gG M.F.va M.F.vs x.V,aG M.ma (P4 M)]
abbrev m2 (M:tZ) (w:uI) (x:lr):List Ob:=[aG M.sc (lR x.s w.sl),aq c5 5 w.sl w.ml]
abbrev m3 (M:tZ) (w:uI):List Ob:=[aG M.up [Sl.v w.us],aW Sl.v w.us w.ub]
abbrev m4 (M:tZ) (w:uI):List Ob:=[aG M.dn [Sl.v w.ds],aW Sl.v w.ds w.db]
abbrev du (A:Ds.DA) (M:tZ) (w:uI) (x:lr) (R:List Ob):List Ob:=m1 A M w x++(m2 M w x++(m3 M w++(m4 M w++R)))
structure pK (B:PH) (M:tZ) (w:uI) (x:lr):Prop where
 fr:rP B M.F x.S.c
 wt:iJ B w.W x.S
 ops:pD B w.ml x.s.l
 up:jJ B w.ub x.up
 dn:jJ B w.db x.dn
 sz:M.size=(x.V.size:Int)
theorem pK.ext {B a:PH} {M:tZ} {w:uI} {x:lr} (h:pK B M w x) (e:Ext B a):pK a M w x:=⟨h.fr.ext e,h.wt.ext e,h.ops.ext e,h.up.ext e,h.dn.ext e,h.sz⟩
section
variable {H B:PH} {L R:List Ob} {A:Ds.DA} {M:tZ} {w:uI} {x:lr} {k:Nat}
theorem At (h:aA H (aC B::du A M w x R)):aA H (aC B::(m2 M w x++(m1 A M w x++(m3 M w++(m4 M w++R))))):=h.pull
theorem DX (h:aA H (aC B::(m2 M w x++(m1 A M w x++(m3 M w++(m4 M w++R)))))):aA H (aC B::du A M w x R):=h.pull
theorem P5 (h:aA H (aC B::du A M w x R)):aA H (aC B::(m3 M w++((m1 A M w x++m2 M w x)++(m4 M w++R)))):=aA.pull (X:=m1 A M w x++m2 M w x) (by rw[List.append_assoc];exact h)
theorem P6 (h:aA H (aC B::(m3 M w++((m1 A M w x++m2 M w x)++(m4 M w++R))))):aA H (aC B::du A M w x R):=by
 have:=h.pull
 rw[List.append_assoc] at this;exact this
theorem P7 (h:aA H (aC B::du A M w x R)):aA H (aC B::(m4 M w++((m1 A M w x++(m2 M w x++m3 M w))++R))):=aA.pull (X:=m1 A M w x++(m2 M w x++m3 M w)) (by rw[List.append_assoc,List.append_assoc];exact h)
theorem P8 (h:aA H (aC B::(m4 M w++((m1 A M w x++(m2 M w x++m3 M w))++R)))):aA H (aC B::du A M w x R):=by
 have:=h.pull
 rw[List.append_assoc,List.append_assoc] at this;exact this
theorem zq:du A M w x R=(m1 A M w x++m2 M w x++m3 M w++m4 M w)++R:=by simp only[du,List.append_assoc]
theorem tmp {O:Ob} (h:aA H (aC B::O::du A M w x R)):aA H (aC B::du A M w x (O::R)):=by
 rw[zq] at h ⊢; exact h.uM
theorem FN {O:Ob} (h:aA H (aC B::du A M w x (O::R))):aA H (aC B::du A M w x R):=by
 rw[zq] at h ⊢; exact h.jx
theorem n6 {a:Addr} {v:List Value} {Q:Int×Int->PH->Prop} {y:Int×Int} (h:aA H (aC B::du A M w x (aG a v::R))) (g:v.length=2) (f:∀H',aA H' (aC B::du A M w x R)->Q y H'):
 aX H a [i64 y.1,i64 y.2] λb=>aU (λ(x:(Int×Int))=>[i64 x.1,i64 x.2]) b a 2 λd=>Q d b:=
 eU (vs:=[i64 y.1,i64 y.2]) h 20 rfl (by simp[g]) rfl λe c=>bj (x:=y) c 20 rfl rfl rfl (f e (FN (O:=aG a [i64 y.1,i64 y.2]) c))
abbrev e5 (e:Int×Int×Int×Int×Sl):List Value:=[i64 e.1,i64 e.2.1,i64 e.2.2.1,i64 e.2.2.2.1,Sl.v e.2.2.2.2]
theorem Ow {b y:Int} {Q:Int×Int->Bool->PH->Prop} (h:aA H (aC B::du A M w x R)) (q:pK B M w x) (ok:pE x.s) (J:rQ x.s ⟨1,b,0,0,fD y⟩)
 (I:∀w' m H',Ext B m->pK m M w' {x with s:={x.s with l:=x.s.l++[⟨1,b,0,0,fD y⟩],seq:=x.s.seq+1}}->aA H' (aC m::du A M w' {x with s:={x.s with l:=x.s.l++[⟨1,b,0,0,fD y⟩],seq:=x.s.seq+1}} R)->Q (0,0) true H'):eN (some M.ma) (1,b,0,y,Sl.nil) H Q:=by
 refine fM h λa1 N H1 i g D=>az D λC P c=>?_
 have c:=tmp c
 refine aa (x:=(1:Int)) (g.ext c.base) rfl (ae rfl (aD (aY (x:=some M.sc) (j:=3) c 13 rfl rfl (aa (x:=b) (g.ext c.base) rfl (aa (x:=y) (g.ext c.base) rfl ?_)))))
 refine M9 c λr O S f K n=>cx ((g.ext f).ext n.base) rfl (cw (j:=3) n 13 rfl rfl ?_)
 refine Src.r9 (At n) ok (q.ops.ext (i.trans f)) K J λp e d v u G E=>?_
 have t:=i.trans (f.trans u)
 have o:aA v (aC p::du A M {w with sl:=e,ml:=d} {x with s:={x.s with l:=x.s.l++[⟨1,b,0,0,fD y⟩],seq:=x.s.seq+1}} (aG C [i64 0,i64 0]::R)):=DX (w:={w with sl:=e,ml:=d}) (x:={x with s:={x.s with l:=x.s.l++[⟨1,b,0,0,fD y⟩],seq:=x.s.seq+1}}) E
 refine pJ o λT o=>n6 o rfl λz F=>I {w with sl:=e,ml:=d} p z t ?_ F
 have a:=q.ext t
 exact⟨a.fr,a.wt,G,a.up,a.dn,a.sz⟩
theorem Ox {b c d:Int} {q:Sl} {Q:Int×Int->Bool->PH->Prop} (h:aA H (aC B::du A M w x R)) (p:pK B M w x) (ok:pE x.s) (G:rQ x.s ⟨3,0,0,x.s.aV+1,[]⟩)
 (F:∀w' m H',Ext B m->pK m M w' {x with s:={x.s with l:=x.s.l++[⟨3,0,0,x.s.aV+1,[]⟩],seq:=x.s.seq+1,aV:=x.s.aV+1}}->aA H' (aC m::du A M w' {x with s:={x.s with l:=x.s.l++[⟨3,0,0,x.s.aV+1,[]⟩],seq:=x.s.seq+1,aV:=x.s.aV+1}} R)->Q (0,0) true H'):eN (some M.ma) (3,b,c,d,q) H Q:=by
 refine fM h λa1 J H1 i I z=>az z λy K e=>?_
 have e:=tmp e
 refine aa (x:=(3:Int)) (I.ext e.base) rfl (aE rfl (aE rfl (ae rfl (aD (aY (x:=some M.sc) (j:=3) e 13 rfl rfl ?_)))))
 refine Src.M6 (At e) ok (p.ops.ext i) G λo g f u t E C=>?_
 have r:=i.trans t
 have n:aA u (aC o::du A M {w with sl:=g,ml:=f} {x with s:={x.s with l:=x.s.l++[⟨3,0,0,x.s.aV+1,[]⟩],seq:=x.s.seq+1,aV:=x.s.aV+1}} (aG y [i64 0,i64 0]::R)):=DX (w:={w with sl:=g,ml:=f}) (x:={x with s:={x.s with l:=x.s.l++[⟨3,0,0,x.s.aV+1,[]⟩],seq:=x.s.seq+1,aV:=x.s.aV+1}}) C
 refine pJ n λN n=>n6 n rfl λv D=>F {w with sl:=g,ml:=f} o v r ?_ D
 have a:=p.ext r
 exact⟨a.fr,a.wt,E,a.up,a.dn,a.sz⟩
theorem Oy {b c d:Int} {q:Sl} {Q:Int×Int->Bool->PH->Prop} (h:aA H (aC B::du A M w x R)) (p:pK B M w x) (ok:pE x.s) (U:As x.s) (u:x.up.length+x.s.out.length<=64) (v:∀f∈x.s.out,f.length<=2 ^ 20)
 (P:∀w' o H',Ext B o->pK o M w' {x with up:=x.up++x.s.out}->aA H' (aC o::du A M w' {x with up:=x.up++x.s.out} R)->Q ((0:Int),((x.up.length+x.s.out.length:Nat):Int)) true H'):eN (some M.ma) (4,b,c,d,q) H Q:=by
 refine fM h λa1 W H1 l V G=>az G λt X e=>?_
 have e:=tmp e
 refine aa (x:=(4:Int)) (V.ext e.base) rfl (aE rfl (aE rfl (aE rfl (ae rfl (aD (aY (x:=some M.up) (j:=4) e 13 rfl rfl (aD (aY (x:=some M.sc) (j:=3) e 13 rfl rfl ?_))))))))
 refine Src.n6 (At e) ok (p.ops.ext l) U λq bl C D n T O m=>?_
 have m:aA D (aC C::du A M w x (aG t [i64 0,i64 0]::R)):=DX m
 refine cw (j:=4) m 13 rfl rfl ?_
 refine Li.Et (P5 m) (p.up.ext (l.trans n)) T O u v λr i g E z S I=>?_
 have y:=l.trans (n.trans z)
 have J:aA E (aC r::du A M {w with us:=i,ub:=g} {x with up:=x.up++x.s.out} (aG t [i64 0,i64 0]::R)):=P6 (w:={w with us:=i,ub:=g}) (x:={x with up:=x.up++x.s.out}) I
 refine pJ J λY K=>n6 K rfl λF N=>P {w with us:=i,ub:=g} r F y ?_ N
 have a:=p.ext y
 exact⟨a.fr,a.wt,a.ops,S,a.dn,a.sz⟩
end
end Ma
end
section
namespace Ma
open Go Go.Kx KM Rw Wi Fm Li Src So Re
section
variable {H B:PH} {L R:List Ob} {A:Ds.DA} {M:tZ} {w:uI} {x:lr} {k:Nat} {f:pG} {b:Bs} {fs:List Bs}
theorem DY {ln:Addr} {s:Sl} {bl:List Sl} {Q:Sl->Bool->PH->Prop} (h:aA H (aC B::aG ln [Sl.v s]::aW Sl.v s bl::L)) (c:jJ B bl (b::fs)) (i:fs.length< 2 ^ 30)
 (g:∀y d a H',Bytes B y b->jJ B a fs->aA H' (aC B::aG ln [Sl.v d]::aW Sl.v d a::L)->Q y true H'):qG (some ln) 0 H Q:=by
 refine xE h c ?_
 have e:(if((b::fs).length:Int)< 1 then 1 else((b::fs).length:Int))=((b::fs).length:Int):=if_neg (by simp;omega)
 rw[e]
 refine Ev (by simp;try omega) (by simp;try omega) ?_
 rw[Int.zero_emod]
 exact Kg h c g
theorem wM (f:pG):25<=(cC f).length:=by rw[cC,gB,pv];omega
structure xJ (k:Nat) (x:lr) (f:pG) (b:Bs):Prop where
 ok:bJ k x.S
 hk:k+60< 2 ^ 28
 num:uG x.S
 sq:x.S.n.seq+1<=2 ^ 30
 ep:x.S.n.aV+1<=2 ^ 30
 dec:vY b=some f
 l1:25<=b.length
 l2:b.length<=65536
 tU:bU b
 view:f.view=x.S.n.view
 seq:f.seq=x.V.next
 none_:∀i,x.V.f i=none
 size:0<x.V.size
 next:x.V.next+1< 2 ^ 40
 op:qX x.S (gb f)
abbrev CX (x:lr) (f:pG):lr:={x with S:=(x.S.op (gb f)).1,V:=⟨x.V.size,x.V.next+1,λ_=>none⟩}
theorem uy (h:aA H (aC B::du A M w x R)):aA H (aC B::uH A M.F w.W x.S x.V (aG M.ma (P4 M)::(m2 M w x++(m3 M w++(m4 M w++R))))):=h
theorem jE {Q:Int×Int->PH->Prop} (h:aA H (aC B::du A M w x R)) (hA:A.a=M.F.X.da) (s:pK B M w x) (C:xJ k x f b) (hu:x.up=b::fs) (ac:x.dn.length+1<=64) (ao:fs.length< 2 ^ 30)
 (hQ:∀Y w' T H',Y.a=M.F.X.da->Ext B T->pK T M w' {CX x f with up:=fs,dn:=x.dn++[cC (x.S.op (gb f)).1.jn]}->aA H' (aC T::du Y M w' {CX x f with up:=fs,dn:=x.dn++[cC (x.S.op (gb f)).1.jn]} R)->Q (0,(x.S.op (gb f)).1.n.seq) H'):ld (some M.ma) 0 H Q:=by
 obtain⟨ok,hk,hn,am,aj,hD,hl,ak,ai,hv,hs,hE,an,ap,ho⟩:=C
 obtain⟨p1,p2,p3,p4,p5,p6,p7,p8,p9,aq,ar⟩:=vT ok hk hn ho
 refine az h λa1 H1 E=>?_
 have E:=tmp E
 refine aD (aY (x:=some M.up) (j:=4) E 13 rfl rfl ?_)
 have K:=s.up
 rw[hu] at K
 refine DY (P5 E) K ao λy e d H2 z hU h2=>aE rfl ?_
 have G:aA H2 (aC B::du A M {w with us:=e,ub:=d} {x with up:=fs} (aG a1 [i64 0,i64 0]::R)):=P6 (w:={w with us:=e,ub:=d}) (x:={x with up:=fs}) h2
 refine aD (aY (x:=some M.F.fa) (j:=2) G 13 rfl rfl (aE rfl (aD (aY (x:=some M.F.fa) (j:=2) G 13 rfl rfl ?_))))
 refine DV s.fr G.base (Re.jE (uy G) hA s.fr s.wt ok hk hn am aj z hD hl ak ai hv hs hE an ap ho λD t q B4 H4 ab N ag hq I=>?_)
 have I:aA H4 (aC B4::du D M {w with W:=t,us:=e,ub:=d} {CX x f with up:=fs} (aG a1 [i64 0,i64 0]::R)):=I
 have al:0<(q.len:Int):=by
  rw[hq.bF]
  exact Int.ofNat_lt.2 (Nat.lt_of_lt_of_le (by decide) (wM (x.S.op (gb f)).1.jn))
 have ad:=s.ext N
 refine aF (ae (decide_eq_true al) (aD (aY (x:=some M.dn) (j:=5) I 13 rfl rfl ?_)))
 refine sX (enc:=Sl.v) (l:=[q]) I rfl rfl λau B5 H5 r hr h5=>?_
 have ah:(cC (x.S.op (gb f)).1.jn).length<=2 ^ 20:=by rw[cC,gB,pv];show 21+0+4<=_;omega
 refine Li.Et (gs:=[cC (x.S.op (gb f)).1.jn]) (P7 h5) (ad.dn.ext r) hr ⟨rfl,λi y c z hc=>?_⟩ ac (λg hg=>by have:=List.mem_singleton.1 hg;subst this;exact ah) λZ p o H6 P af h6=>?_
 ·have e0:i=0:=by have:=(List.getElem?_eq_some_iff.1 z).1;simp at this;omega
  subst e0
  simp at z hc;subst z;subst hc
  exact hq.ext r
 have V:=N.trans (r.trans P)
 have h7:aA H6 (aC Z::du D M {w with W:=t,us:=e,ub:=d,ds:=p,db:=o} {CX x f with up:=fs,dn:=x.dn++[cC (x.S.op (gb f)).1.jn]} (aG a1 [i64 0,i64 0]::R)):=P8 (w:={w with W:=t,us:=e,ub:=d,ds:=p,db:=o}) (x:={CX x f with up:=fs,dn:=x.dn++[cC (x.S.op (gb f)).1.jn]}) h6
 have u:=s.ext V
 have hF:rP Z M.F (x.S.op (gb f)).1.c:=by rw[p3];exact u.fr
 refine aD (aY (x:=some M.F.fa) (j:=2) h7 13 rfl rfl (pC (uy h7) hF p1 λB8 H8 m U=>?_))
 have U:aA H8 (aC B8::du D M {w with W:=t,us:=e,ub:=d,ds:=p,db:=o} {CX x f with up:=fs,dn:=x.dn++[cC (x.S.op (gb f)).1.jn]} (aG a1 [i64 0,i64 0]::R)):=U
 refine pJ U λH9 h9=>eU (vs:=[i64 0,i64 (x.S.op (gb f)).1.n.seq]) h9 20 rfl rfl rfl λaa J=>bj (x:=((0:Int),(x.S.op (gb f)).1.n.seq)) J 20 rfl rfl rfl ?_
 refine hQ D {w with W:=t,us:=e,ub:=d,ds:=p,db:=o} B8 aa ab (V.trans m) ?_ (FN (O:=aG a1 [i64 0,i64 (x.S.op (gb f)).1.n.seq]) J)
 exact⟨hF.ext m,ag.ext (r.trans (P.trans m)),u.ops.ext m,hU.ext (V.trans m),af.ext m,u.sz⟩
theorem Oz {Q:Int×Int->PH->Prop} (h:aA H (aC B::du A M w x R)) (q:pK B M w x) (ok:pE x.s) (V:x.dn=b::fs) (K:vY b=some f) (W:25<=b.length) (z:b.length<=65536) (U:bU b) (hk:f.kind=8) (X:f.view=x.s.view) (C:f.seq<=x.s.seq) (v:f.done<=x.s.seq) (D:fs.length< 2 ^ 30)
 (P:∀w' o H',Ext B o->pK o M w' {x with s:=rR x.s f,dn:=fs}->aA H' (aC o::du A M w' {x with s:=rR x.s f,dn:=fs} R)->Q ((0:Int),(rR x.s f).fA) H'):mn (some M.ma) 0 H Q:=by
 refine az h λa1 H1 m=>?_
 have m:=tmp m
 refine aD (aY (x:=some M.dn) (j:=5) m 13 rfl rfl ?_)
 have e:=q.dn
 rw[V] at e
 refine DY (P7 m) e D λy c a E Y T G=>aE rfl ?_
 have u:aA E (aC B::du A M {w with ds:=c,db:=a} {x with dn:=fs} (aG a1 [i64 0,i64 0]::R)):=P8 (w:={w with ds:=c,db:=a}) (x:={x with dn:=fs}) G
 refine aD (aY (x:=some M.sc) (j:=3) u 13 rfl rfl ?_)
 refine Src.jE (At u) ok q.ops Y K W z U hk X C v λr i g F l N I=>?_
 have p:aA F (aC r::du A M {w with ds:=c,db:=a,sl:=i,ml:=g} {x with s:=rR x.s f,dn:=fs} (aG a1 [i64 0,i64 0]::R)):=DX (w:={w with ds:=c,db:=a,sl:=i,ml:=g}) (x:={x with s:=rR x.s f,dn:=fs}) I
 refine aD (aY (x:=some M.sc) (j:=3) p 13 rfl rfl (Src.Kh (S:=rR x.s f) (At p) ?_))
 refine pJ p λZ J=>eU (vs:=[i64 0,i64 (rR x.s f).fA]) J 20 rfl rfl rfl λt n=>bj (x:=((0:Int),(rR x.s f).fA)) n 20 rfl rfl rfl ?_
 have d:=q.ext l
 exact P {w with ds:=c,db:=a,sl:=i,ml:=g} r t l ⟨d.fr,d.wt,N,d.up,T.ext l,d.sz⟩ (FN (O:=aG a1 [i64 0,i64 (rR x.s f).fA]) n)
end
end Ma
end
section
namespace Ma
open Go Go.Kx KM Rw Wi Fm Li Src So Re
abbrev E5:=Int×Int×Int×Int×Sl
def sG (e:E5) (x h:lr) (y:Int×Int):Prop:=∀(A:Ds.DA) (M:tZ) (w:uI) (B H:PH) (R:List Ob) (Q:Int×Int->PH->Prop),aA H (aC B::du A M w x R)->A.a=M.F.X.da->pK B M w x->
 (∀g c w' d H',c.ma=M.ma->g.a=c.F.X.da->Ext B d->pK d c w' h->aA H' (aC d::du g c w' h R)->Q y H')->kf (some M.ma) e H Q
def JJ (e:E5) (x h:lr) (y:Int×Int):Prop:=∀(A:Ds.DA) (M:tZ) (w:uI) (B H:PH) (R:List Ob) (Q:Int×Int->Bool->PH->Prop),aA H (aC B::du A M w x R)->A.a=M.F.X.da->pK B M w x->
 (∀g c w' d H',c.ma=M.ma->g.a=c.F.X.da->Ext B d->pK d c w' h->aA H' (aC d::du g c w' h R)->Q y true H')->eN (some M.ma) e H Q
theorem jq {e:E5} {x i:lr} {y:Int×Int} (h:JJ e x i y):sG e x i y:=by
 intro A M w B H R Q F C D E
 refine fM F λa1 m H1 a G u=>az u λq n c=>aE rfl (fF (enc:=e5) (x:=e) (G.ext c.base) rfl ?_)
 refine h A M w m n (aG q [i64 0,i64 0]::R) _ (tmp c) C (D.ext a) λj p w' l H' s r I g t=>?_
 refine az t λJ K v=>bf (vs:=[i64 y.1,i64 y.2]) v rfl rfl λL d=>ae rfl (bk (x:=y) d rfl rfl (n6 d.ak rfl λo z=>E j p w' l o s r (a.trans I) g z))
section
variable {x:lr} {k:Nat} {f:pG} {b:Bs} {fs:List Bs}
theorem Av {b y:Int} (ok:pE x.s) (i:rQ x.s ⟨1,b,0,0,fD y⟩):JJ (1,b,0,y,Sl.nil) x {x with s:={x.s with l:=x.s.l++[⟨1,b,0,0,fD y⟩],seq:=x.s.seq+1}} (0,0):=
 λA M w B H R Q j e g h=>Ow j g ok i λw' c H' m a d=>h A M w' c H' rfl e m a d
theorem G9 {b c d:Int} {q:Sl} (ok:pE x.s) (m:rQ x.s ⟨3,0,0,x.s.aV+1,[]⟩):JJ (3,b,c,d,q) x {x with s:={x.s with l:=x.s.l++[⟨3,0,0,x.s.aV+1,[]⟩],seq:=x.s.seq+1,aV:=x.s.aV+1}} (0,0):=
 λA M w B H R Q n h i j=>Ox n i ok m λw' e H' o a g=>j A M w' e H' rfl h o a g
theorem HA {b c d:Int} {q:Sl} (ok:pE x.s) (h:As x.s) (a:x.up.length+x.s.out.length<=64) (g:∀f∈x.s.out,f.length<=2 ^ 20):JJ (4,b,c,d,q) x {x with up:=x.up++x.s.out} ((0:Int),((x.up.length+x.s.out.length:Nat):Int)):=
 λA M w B H R Q o l m n=>Oy o m ok h a g λw' i H' p e j=>n A M w' i H' rfl l p e j
theorem zr {c d:Int} {q:Sl} (C:xJ k x f b) (hu:x.up=b::fs) (g:x.dn.length+1<=64) (i:fs.length< 2 ^ 30):JJ (6,0,c,d,q) x {CX x f with up:=fs,dn:=x.dn++[cC (x.S.op (gb f)).1.jn]} ((0:Int),(x.S.op (gb f)).1.n.seq):=by
 intro A M w B H R Q D u v z
 refine fM D λa1 F H1 e j s=>az s λI G a=>?_
 have a:=tmp a
 refine aa (x:=(6:Int)) (j.ext a.base) rfl (aE rfl (aE rfl (aE rfl (aE rfl (aE rfl (ae rfl (aa (x:=(0:Int)) (j.ext a.base) rfl ?_)))))))
 exact jE a u (v.ext e) C hu g i λl w' m H' p E h r=>n6 (y:=((0:Int),(x.S.op (gb f)).1.n.seq)) r rfl λo t=>z l M w' m o rfl p (e.trans E) h t
theorem RE {c d:Int} {q:Sl} (ok:pE x.s) (E:x.dn=b::fs) (z:vY b=some f) (F:25<=b.length) (i:b.length<=65536) (D:bU b) (hk:f.kind=8) (I:f.view=x.s.view) (j:f.seq<=x.s.seq) (h:f.done<=x.s.seq) (l:fs.length< 2 ^ 30):
 JJ (19,0,c,d,q) x {x with s:=rR x.s f,dn:=fs} ((0:Int),(rR x.s f).fA):=by
 intro A M w B H R Q G u v C
 refine fM G λa1 K H1 e m r=>az r λN L a=>?_
 have a:=tmp a
 refine aa (x:=(19:Int)) (m.ext a.base) rfl (aE rfl (aE rfl (aE rfl (aE rfl (aE rfl (aE rfl (ae rfl (aa (x:=(0:Int)) (m.ext a.base) rfl ?_))))))))
 exact Oz a (v.ext e) ok E z F i D hk I j h l λw' n H' J g p=>n6 (y:=((0:Int),(rR x.s f).fA)) p rfl λo t=>C A M w' n o rfl u (e.trans J) g t
end
abbrev ua (y:Int×Int):List Value:=[i64 y.1,i64 y.2]
theorem O0 (y:Int×Int):(ua y).length=2:=rfl
theorem XJ (y:Int×Int):(ua y).all cI=true:=rfl
theorem HB {A:Ds.DA} {M:tZ} {w:uI} {B H:PH} {R:List Ob} {p:Sl} {es:List E5} {ys:List (Int×Int)} (xs:Nat->lr) {Q:Sl->PH->Prop} (h:aA H (aC B::du A M w (xs 0) R)) (hA:A.a=M.F.X.da) (hB:pK B M w (xs 0)) (W:dT e5 5 B p es) (U:ys.length=es.length) (hn:es.length<=1000)
 (hd:∀(i:Nat) (e:E5) (y:Int×Int),es[i]?=some e->ys[i]?=some y->sG e (xs i) (xs (i+1)) y)
 (hQ:∀n c w' q d H',c.ma=M.ma->n.a=c.F.X.da->Ext B d->pK d c w' (xs es.length)->dT ua 2 d q ys->aA H' (aC d::du n c w' (xs es.length) R)->Q q H'):iO (some M.ma) p H Q:=by
 refine ax es.length (λi st Hk=>st.2=(i:Int)/\∃n c w' d,c.ma=M.ma/\n.a=c.F.X.da/\Ext B d/\pK d c w' (xs i)/\aA Hk (aC d::du n c w' (xs i) (aq ua 2 st.1 (ys.take i)::R))) ⟨rfl,A,M,w,B,rfl,hA,.refl _,hB,?_⟩ ?_
 ·have g:=aA.up (h.zG (enc:=ua) (sz:=2))
  exact tmp g
 rintro i ⟨st,_⟩ H1 again hi ⟨N,C,j,m,G,o,t,s,u,g⟩ S
 simp only at N g;subst N
 rw[W.bF]
 refine aL (λc1=>?_) (λc1=>?_)
 ·have V:i<es.length:=by simpa using c1
  refine aF (ob ((W.ext s).ext g.base) (by omega) (by omega) λab e he T=>⟨e,T,?_⟩)
  rw[Int.toNat_natCast] at he
  have Y:ys[i]?=some ys[i]:=List.getElem?_eq_getElem (by omega)
  refine az g λac H2 D=>bf (vs:=e5 e) D rfl rfl λH3 r=>ae rfl (bk (x:=e) r rfl rfl ?_)
  rw[←o]
  refine hd i e ys[i] he Y C j m G H3 _ _ r.ak t u λE J w4 I H4 L K aa P h4=>?_
  refine jo.vR (enc:=ua) (sz:=2) (l:=[ys[i]]) h4 (by simp) rfl λv H5 O=>?_
  have v5:bT ua 2 H5 v [ys[i]]:=O.get 1 rfl
  have hlen:(ys.take i).length=i:=by rw[List.length_take];omega
  refine sQ O0 (by decide) O 21 rfl (v5.cells O0 (by decide)) v5.len XJ rfl (by rw[hlen];simp;omega) λZ H6 h6=>?_
  rw[bH (by omega)]
  refine S V _ _ ⟨rfl,E,J,w4,I,L.trans o,K,s.trans aa,P,?_⟩
  rw[It.fk Y]
  exact(show aA H6 (aC I::aq ua 2 v [ys[i]]::du E J w4 (xs (i+1)) (aq ua 2 Z (ys.take i++[ys[i]])::R)) from h6).ak
 ·have:i=es.length:=by simp at c1;omega
  subst this
  rw[←U,List.take_length] at g
  have D:aA H1 (aC G::((m1 C j m (xs es.length)++m2 j m (xs es.length)++m3 j m++m4 j m)++aq ua 2 st ys::R)):=by rw[←zq,←U];exact g
  obtain⟨B2,z,hv,r⟩:=D.Bk.fz
  rw[←zq] at r
  exact hQ C j m st B2 H1 o t (s.trans z) (u.ext z) (hv.jv O0) r
end Ma
end
end Go.Proofs.YtbijlklgbfminaaGreat
section
namespace KM
theorem Hw {m:List Int} {st:List gq×Bool} {k:Nat} {w:Int×gq} (h:∀b∈st.1,bU b.1) (hw:bU w.2.1):(mX m st k w).1.length=st.1.length/\∀b∈(mX m st k w).1,bU b.1:=by
 have e:∀c:gq,bU c.1->∀b∈st.1.set w.1.toNat c,bU b.1:=λc g b d=>by
  rcases List.mem_or_eq_of_mem_set d with d|d
  ·exact h b d
  ·subst d;exact g
 unfold mX
 split
 ·exact⟨by simp,e _ hw⟩
 ·split
  ·refine⟨by simp,e _ λx a=>?_⟩
   have a:x∈w.2.1.take (fj m k/ 3).toNat++(st.1.getD w.1.toNat pj).1.drop (fj m k/ 3).toNat:=a
   rcases List.mem_append.1 a with a|a
   ·exact hw x (List.mem_of_mem_take a)
   ·have a:=List.mem_of_mem_drop a
    rw[List.getD] at a
    cases f:st.1[w.1.toNat]? with
    |none=>rw[f] at a;exact xg x a
    |some b=>rw[f] at a;exact h b (List.mem_of_getElem? f) x a
  ·exact⟨rfl,h⟩
theorem DZ {m:List Int} {safe:List gq} {held:List (Int×gq)} (h:∀b∈safe,bU b.1) (a:∀w∈held,bU w.2.1):∀k,(dV m safe held k).1.length=safe.length/\∀b∈(dV m safe held k).1,bU b.1
 | 0=>⟨rfl,h⟩
 |k+1=>by
  obtain⟨i1,i2⟩:=DZ h a k
  rw[dV]
  cases hk:held[k]? with
  |none=>exact⟨i1,i2⟩
  |some w=>
   have:=Hw (m:=m) (k:=k) i2 (a w (List.mem_of_getElem? hk))
   exact⟨this.1.trans i1,this.2⟩
theorem cM.ku {k:Nat} {D:Dk} (h:cM k D) (m:List Int):cM 0 (D.ku m)/\(D.ku m).now.length=D.now.length:=by
 obtain⟨i1,i2⟩:=DZ (m:=m) h.bs h.bh D.held.length
 have a:(dV m D.safe D.held D.held.length).1.length=D.now.length:=i1.trans h.safe
 refine⟨⟨rfl,rfl,⟨Int.le_refl 0,by show(0:Int)<=((0:Nat):Int);omega⟩,Nat.le_refl 0,λw hw=>(by cases hw),?_,rfl,?_,h.nf,i2,i2,λw hw=>(by cases hw)⟩,a⟩
 ·show(dV m D.safe D.held D.held.length).1.length<=4096;rw[a];exact h.now
 ·show D.dL.length=(dV m D.safe D.held D.held.length).1.length;rw[a];exact h.dL
end KM
end
namespace Go.Proofs.YtbijlklgbfminaaGreat
section
namespace Ma
open Go Go.Kx KM Rw Wi Fm Li Src So Re Ds
section
variable {H B:PH} {L R:List Ob} {A:DA} {M:tZ} {w:uI} {x:lr} {k:Nat}
theorem RF {e:E5} {Q:Int×Int->Bool->PH->Prop} (h:aA H (aC B::L)) (hk:e.1=12∨e.1=13∨e.1=18) (f:∀H',aA H' (aC B::L)->Q (0,0) false H'):eN (some M.ma) e H Q:=by
 refine az h λa1 H1 c=>az c λi g a=>aY (x:=e.1) (j:=0) a 2 rfl rfl ?_
 have ne:∀n:Int,n≠12->n≠13->n≠18->(e.1==n)=false:=λn c a b=>by rw[beq_eq_false_iff_ne];omega
 refine aE (ne 1 (by decide) (by decide) (by decide)) (aE (ne 2 (by decide) (by decide) (by decide)) (aE (ne 3 (by decide) (by decide) (by decide)) (aE (ne 4 (by decide) (by decide) (by decide)) (aE (ne 5 (by decide) (by decide) (by decide)) (aE (ne 6 (by decide) (by decide) (by decide)) (aE (ne 19 (by decide) (by decide) (by decide)) ?_))))))
 refine aF (aE (ne 7 (by decide) (by decide) (by decide)) (aE (ne 8 (by decide) (by decide) (by decide)) ?_))
 rw[ne 9 (by decide) (by decide) (by decide)]
 exact aE rfl (bf (vs:=[i64 0,i64 0]) a rfl rfl λd b=>bk (x:=((0:Int),(0:Int))) b rfl rfl (f d b.ak.ak))
theorem CY {e:E5} {Q:Int×Int->PH->Prop} (X:aA H (aC B::du A M w x R)) (hk:e.1=12∨e.1=13∨e.1=18)
 (W:∀a1 b d c H1,Ext B c->aZ c a1 (e5 e)->aA H1 (aC c::du A M w x (aG d [i64 0,i64 0]::aG b [i64 0,i64 0]::R))->
  aH (.int .i64) H1 (a1.add 0) λa=>aJ (a==10) False (aJ (a==11) False (aJ (a==12)
   (aN (some M.ma) λs=>aH .pointer H1 (s.add 2) λy=>lL y H1 λK N n=>dw K N n λj o=>aX o b [i64 j.1,i64 j.2] λf=>aU (λ(x:(Int×Int))=>[i64 x.1,i64 x.2]) f b 2 λz=>Q z f)
   (aJ (a==13)
   (aN (some M.ma) λt=>aH .pointer H1 (t.add 2) λC=>aH (.int .i64) H1 (a1.add 1) λD=>kB C D H1 λO p=>dw 0 O p λl q=>aX q b [i64 l.1,i64 l.2] λg=>aU (λ(x:(Int×Int))=>[i64 x.1,i64 x.2]) g b 2 λE=>Q E g)
   (aJ (a==14) False (aJ (a==15) False (aJ (a==16) False (aJ (a==17) False (aJ (a==18)
   (aU e5 H1 a1 5 λF=>kq (some M.ma) F H1 λm r=>aX r b [i64 m.1,i64 m.2] λh=>aU (λ(x:(Int×Int))=>[i64 x.1,i64 x.2]) h b 2 λG=>Q G h)
   (aX H1 b [i64 1,i64 0] λi=>aU (λ(x:(Int×Int))=>[i64 x.1,i64 x.2]) i b 2 λI=>Q I i)))))))))):kf (some M.ma) e H Q:=by
 refine fM X λa1 c H1 J v S=>az S λb Y u=>aE rfl (fF (enc:=e5) (x:=e) (v.ext u.base) rfl ?_)
 refine RF (tmp u) hk λZ T=>az T λd H4 U=>bf (vs:=[i64 0,i64 0]) U rfl rfl λP V=>aE rfl ?_
 exact W a1 b d c P J v (tmp V)
theorem O1 {c b:Addr} {v g:List Value} {Q:Int×Int->PH->Prop} {y:Int×Int} (h:aA H (aC B::du A M w x (aG c g::aG b v::R))) (f:v.length=2) (e:∀H',aA H' (aC B::du A M w x R)->Q y H'):
 aX H b [i64 y.1,i64 y.2] λa=>aU (λ(x:(Int×Int))=>[i64 x.1,i64 x.2]) a b 2 λd=>Q d a:=n6 (FN h) f e
theorem NA {b c d:Int} {q:Sl} (ok:bJ k x.S) (hk:k+60< 2 ^ 28) (P:Ap x.S) (v:2<dZ x.S.check.1.t.l) (hlen:x.S.check.2.length< 2 ^ 30):sG (12,b,c,d,q) x {x with S:=x.S.check.1} ((0:Int),(x.S.check.2.length:Int)):=by
 intro A M w B H R Q N I J K
 refine CY N (.inl rfl) λa1 D p U H1 f O i=>aa (x:=(12:Int)) (O.ext i.base) rfl (aE rfl (aE rfl (ae rfl (aD (aY (x:=some M.F.fa) (j:=2) i 13 rfl rfl ?_)))))
 have e:=J.ext f
 refine Re.px (uy i) I e.fr e.wt ok hk P v hlen λn o h z r g s T l2 m=>?_
 have m:aA z (aC h::du n M {w with W:=o} {x with S:=x.S.check.1} (aG p [i64 0,i64 0]::aG D [i64 0,i64 0]::R)):=m
 refine pJ m λV E=>O1 (y:=((0:Int),(x.S.check.2.length:Int))) E rfl λC G=>K n M {w with W:=o} h C rfl r (f.trans g) ?_ G
 have u:x.S.check.1.c=x.S.c:=(ok.emit (by omega)).2.2.2.1
 have a:=e.ext g
 exact⟨by show rP h M.F x.S.check.1.c;rw[u];exact a.fr,s,a.ops,a.up,a.dn,a.sz⟩
theorem Hx {view c d:Int} {q:Sl} (ok:bJ k x.S) (hk:k+60< 2 ^ 28) (hm:x.S.n.mode=1) (u:1<=view/\view<=2147483647) (t:x.S.n.view<view) (P:Ap (x.S.raised view 2)):sG (13,view,c,d,q) x {x with S:=(x.S.raise view 2).1} ((0:Int),(0:Int)):=by
 intro A M w B H R Q N I J K
 refine CY N (.inr (.inl rfl)) λa1 D o T H1 f v e=>aa (x:=(13:Int)) (v.ext e.base) rfl (aE rfl (aE rfl (aE rfl (ae rfl (aD (aY (x:=some M.F.fa) (j:=2) e 13 rfl rfl (aa (x:=view) (v.ext e.base) rfl ?_)))))))
 have b:=J.ext f
 refine G7 (uy e) I b.fr b.wt ok hk hm u t P λl m h z p g r O l2 i=>?_
 have i:aA z (aC h::du l M {w with W:=m} {x with S:=(x.S.raise view 2).1} (aG o [i64 0,i64 0]::aG D [i64 0,i64 0]::R)):=i
 refine pJ i λU E=>O1 (y:=((0:Int),(0:Int))) E rfl λC G=>K l M {w with W:=m} h C rfl p (f.trans g) ?_ G
 have s:(x.S.raise view 2).1.c=x.S.c:=by
  rw[CU hm u (.inr rfl) t ok.dk.off]
  exact((Aq ok view 2).emit (by omega)).2.2.2.1
 have a:=b.ext g
 exact⟨by show rP h M.F (x.S.raise view 2).1.c;rw[s];exact a.fr,r,a.ops,a.up,a.dn,a.sz⟩
end
end Ma
end
section
namespace Ma
open Go Go.Kx KM Rw Wi Fm Li Src So Re Ds
section
variable {H B:PH} {L R:List Ob} {A:DA} {M:tZ} {w:uI} {x:lr} {k:Nat}
theorem NB {T:KM.St} {b d:Int} {kk:Nat} (ok:bJ k x.S) (hk:k< 2 ^ 28) (al:kk+3< 2 ^ 28) (hS:kz (x.S.d.ku [])=some T) (N:sE (x.S.d.ku [])=true) (ao:1<=x.V.size) (ap:x.V.size<=16) (an:0<=T.n.seq/\T.n.seq< 2 ^ 30) (O:1<=T.w.p.2.2.1/\T.w.p.2.2.1<=kk+3) (am:iT T.c T.w.p=true):
 sG (18,b,0,d,Sl.nil) x {x with S:=T,V:=⟨x.V.size,T.n.seq+1,λ_=>none⟩} ((0:Int),T.n.aV):=by
 intro A M w B H R Q hs hA hB hQ
 refine CY hs (.inr (.inr rfl)) λa1 u g B1 H1 I r1 K=>aa (x:=(18:Int)) (r1.ext K.base) rfl (aE rfl (aE rfl (aE rfl (aE rfl (aE rfl (aE rfl (aE rfl (aE rfl (ae rfl (fF (enc:=e5) (x:=(18,b,0,d,Sl.nil)) (r1.ext K.base) rfl ?_))))))))))
 have D:=hB.ext I
 obtain⟨ab,ay⟩:=ok.dk.ku []
 have aB:=jo.pB ok.c
 have aH:=Ge.m8 ok.c
 have hlen:=ok.len
 refine fM K λb1 P H2 ar rb h2=>az h2 λz H3 i=>?_
 have i:=tmp i
 refine aD (aY (x:=some M.F.X.da) (j:=1) i 13 rfl rfl (aa (enc:=Sl.v) (x:=Sl.nil) (rb.ext i.base) rfl ?_))
 have dd:dG H3 A x.S.d:=i.get 5 rfl
 rw[←hA]
 refine Dw (m:=[]) dd (cM.small ok.dk (by omega)) (by omega) .nil λo H4 aj=>aD ?_
 have h4:=i.made aj
 refine cB (j:=1) h4 14 rfl (by simp) rfl λZ l=>aa (x:=(0:Int)) (rb.ext (l:aA Z (aC P::_)).base) rfl (aF (aE rfl ?_))
 have l:aA Z (aC P::av o (x.S.d.ku [])::(nY A M.F.X w.W x.S++[gG M.F.va M.F.vs x.V,aG M.ma [i64 M.size,.pointer (some o.a),.pointer (some M.F.fa),.pointer (some M.sc),.pointer (some M.up),.pointer (some M.dn)]]++(m2 M w x++(m3 M w++(m4 M w++(aG z [i64 0,i64 0]::aG g [i64 0,i64 0]::aG u [i64 0,i64 0]::R)))))):=l
 refine aD (aY (x:=some o.a) (j:=1) l 14 rfl rfl (aD (aY (x:=M.size) (j:=0) l 14 rfl rfl ?_)))
 rw[D.sz]
 refine zo (k:=kk) l (ab.mono (by omega)) al hS N ao ap an O am λq e r J H6 ac s au E ak aq l6 h6=>aD ?_
 have G:=ar.trans au
 refine cB (j:=2) h6 25 rfl (by simp) rfl λH7 h7=>?_
 have ad:o.a=e.X.da:=ac.symm.trans s
 have h8:aA H7 (aC J::((nY q e.X r T++[gG e.va e.vs ⟨x.V.size,T.n.seq+1,λ_=>none⟩])++((nY A M.F.X w.W x.S++[gG M.F.va M.F.vs x.V])++(aG M.ma [i64 M.size,.pointer (some o.a),.pointer (some e.fa),.pointer (some M.sc),.pointer (some M.up),.pointer (some M.dn)]::(m2 M w x++(m3 M w++(m4 M w++(aG z [i64 0,i64 0]::aG g [i64 0,i64 0]::aG u [i64 0,i64 0]::R)))))))):=h7
 have h9:=h8.sub (List.Sublist.cons_cons (aC J) (List.Sublist.append (List.Sublist.refl (nY q e.X r T++[gG e.va e.vs ⟨x.V.size,T.n.seq+1,λ_=>none⟩])) (List.sublist_append_right (nY A M.F.X w.W x.S++[gG M.F.va M.F.vs x.V]) _)))
 rw[ad] at h9
 have af:aA H7 (aC J::du q ⟨e,M.ma,M.sc,M.up,M.dn,M.size⟩ {w with W:=r} {x with S:=T,V:=⟨x.V.size,T.n.seq+1,λ_=>none⟩} (aG z [i64 0,i64 0]::aG g [i64 0,i64 0]::aG u [i64 0,i64 0]::R)):=h9
 refine pC (uy af) E aq λC U f t=>?_
 have t:aA U (aC C::du q ⟨e,M.ma,M.sc,M.up,M.dn,M.size⟩ {w with W:=r} {x with S:=T,V:=⟨x.V.size,T.n.seq+1,λ_=>none⟩} (aG z [i64 0,i64 0]::aG g [i64 0,i64 0]::aG u [i64 0,i64 0]::R)):=t
 refine pJ t λaw ag=>n6 (y:=((0:Int),T.n.aV)) ag rfl λax ah=>O1 (y:=((0:Int),T.n.aV)) ah rfl λY ai=>?_
 have h:=D.ext (G.trans f)
 exact hQ q ⟨e,M.ma,M.sc,M.up,M.dn,M.size⟩ {w with W:=r} C Y rfl s (I.trans (G.trans f)) ⟨E.ext f,ak.ext f,h.ops,h.up,h.dn,h.sz⟩ ai
end
end Ma
end
end Go.Proofs.YtbijlklgbfminaaGreat
section
namespace KM
def oS (c:bC):Dk:=wD c 1 (fresh (all c).toNat)
def Ki (S:St) (dQ:Int):Bool:=(bE S.n.seq 0 1000&&bE S.w.p.2.2.1 1 dQ)&&iT S.c S.w.p
def Ex (c:bC):Bool:=eG c 1 (cj (fresh (all c).toNat)+1)&&(sE (oS c)&&match kz (oS c) with|some S=>Ki S 60&&S.c==c|none=>false)
end KM
namespace Go.Proofs.YtbijlklgbfminaaGreat
namespace Ma
open Go Go.Kx KM Rw Wi Fm Li Src So Re Ds
section
variable {H B:PH} {L R:List Ob} {A:DA} {M:tZ} {w:uI} {x:lr} {k:Nat} {c:bC}
theorem NC {n:Nat} {Q:Option Addr->Int->PH->Prop} (h:aA H (aC B::L)) (b:1<=n) (e:n<=4096) (g:∀A H',aA H' (aC B::av A (fresh n)::L)->Q (some A.a) 0 H'):tL n H Q:=
 Ds.eI b e λA H' x d f=>g A H' (show aA H' (aC B::(L++[av A (fresh n)])) from h.new (O':=av A (fresh n)) x d f).up
theorem HC {n:Nat} (h:n<=4096):cM 0 (fresh n):=
 ⟨rfl,rfl,⟨Int.le_refl 0,by show(0:Int)<=((0:Nat):Int);omega⟩,Nat.le_refl 0,λw hw=>(by cases hw),by simpa[fresh] using h,by simp[fresh],by simp[fresh],λf hf=>(List.mem_replicate.1 hf).2,λb a=>by rw[(List.mem_replicate.1 a).2];exact xg,λb a=>by rw[(List.mem_replicate.1 a).2];exact xg,λw hw=>(by cases hw)⟩
theorem Ey {c:bC} (h:Ex c=true):eG c 1 (cj (fresh (all c).toNat)+1)=true/\sE (oS c)=true/\∃S,kz (oS c)=some S/\(0<=S.n.seq/\S.n.seq<=1000)/\(1<=S.w.p.2.2.1/\S.w.p.2.2.1<=60)/\iT S.c S.w.p=true/\S.c=c:=by
 unfold Ex at h
 simp only[Bool.and_eq_true] at h
 obtain⟨b,d,a⟩:=h
 refine⟨b,d,?_⟩
 generalize kz (oS c)=o at a
 cases o with
 |none=>cases a
 |some S=>
  simp only[Ki,Bool.and_eq_true,KM.bY,beq_iff_eq] at a
  exact⟨S,rfl,a.1.1.1,a.1.1.2,a.1.2,a.2⟩
abbrev x0 (S:KM.St) (size:Nat):lr:=⟨S,⟨size,S.n.seq+1,λ_=>none⟩,⟨1,size,0,0,0,0,[]⟩,[],[]⟩
theorem ND {size:Nat} {S:KM.St} {Q:Option Addr->Int->PH->Prop} (h:aA H (aC B::L)) (f:bg c) (W:1<=size) (Z:size<=16) (h0:Ex c=true) (T:kz (oS c)=some S)
 (hQ:∀A M w t H',Ext B t->A.a=M.F.X.da->pK t M w (x0 S size)->bJ 63 S->S.d.now.length=(all c).toNat->aA H' (aC t::du A M w (x0 S size) L)->Q (some M.ma) 0 H'):uj c size H Q:=by
 obtain⟨hm,y,S',q,ak,ag,V,ah⟩:=Ey h0
 rw[T] at q
 have e:=Option.some.inj q
 subst e
 have ai:=Sc.sZ f
 have af:=jo.pB f
 have aj:=Ge.m8 f
 refine fM h λa1 B1 H1 ac r1 I=>fF (enc:=Ge.tw) (x:=c) (r1.ext I.base) rfl (Ge.Oc (c:=c) I f λg B2 H2 r hg h2=>?_)
 refine Src.eI h2 (by omega) (by omega) λsc H3 N=>aF (aE rfl (aE rfl (Ge.zW (hg.ext N.base) f λH4 x4=>?_)))
 have h4:=N.ext x4
 have en:all c=(((all c).toNat:Nat):Int):=by omega
 rw[en]
 refine NC h4 (by omega) (by omega) λA5 H5 O=>aE rfl (fF (enc:=Ge.tw) (x:=c) ((r1.ext r).ext O.base) rfl ?_)
 refine jo.Bj (c:=c) (k:=0) (D:=fresh (all c).toNat) (id:=1) O (HC (by omega)) (by decide) f hm (by simp[fresh];omega) λA6 B6 H6 C ad aa l6 h6=>aE rfl ?_
 rw[←C]
 refine zo (k:=60) (D:=oS c) h6 aa (by decide) T y W Z (by omega) (by omega) V λs b u z H7 E j ae P U ab l7 h7=>aE rfl ?_
 refine Li.eI h7 λup H8 h8=>Li.eI h8 λdn H9 h9=>az h9 λma l p=>?_
 have G:A6.a=b.X.da:=E.symm.trans j
 rw[G] at p
 have J:aA l (aC z::(([aG ma (P4 ⟨b,ma,sc,up,dn,(size:Int)⟩),aG dn [Sl.v Sl.nil],aW Sl.v Sl.nil [],aG up [Sl.v Sl.nil],aW Sl.v Sl.nil []]++nY s b.X u S++[gG b.va b.vs ⟨size,S.n.seq+1,λ_=>none⟩,aG sc (lR ⟨1,size,0,0,0,0,[]⟩ Sl.nil),aq c5 5 Sl.nil []])++L)):=p
 have K:=aA.GV (Y:=nY s b.X u S++[gG b.va b.vs ⟨size,S.n.seq+1,λ_=>none⟩,aG ma (P4 ⟨b,ma,sc,up,dn,(size:Int)⟩),aG sc (lR ⟨1,size,0,0,0,0,[]⟩ Sl.nil),aq c5 5 Sl.nil [],aG up [Sl.v Sl.nil],aW Sl.v Sl.nil [],aG dn [Sl.v Sl.nil],aW Sl.v Sl.nil []]) J 19 [5,6,7,8,9,10,11,12,13,14,15,16,0,17,18,3,4,1,2] rfl (by decide) rfl
 refine hQ s ⟨b,ma,sc,up,dn,size⟩ ⟨u,Sl.nil,[],Sl.nil,[],Sl.nil,[]⟩ z l (ac.trans (r.trans (ad.trans ae))) j ⟨P,U,⟨rfl,λi m o hm=>by simp at hm⟩,.nil,.nil,rfl⟩ ab ?_ K
 rw[l7]
 have:(oS c).now.length=(fresh (all c).toNat).now.length:=l6
 rw[this];simp[fresh]
end
end Ma
end Go.Proofs.YtbijlklgbfminaaGreat
end
namespace Go.Proofs.YtbijlklgbfminaaGreat
section
namespace Ma
open Go Go.Kx KM Rw Wi Fm Li Src So Re Ds
section
variable {H B:PH} {L R:List Ob} {A:DA} {M:tZ} {w:uI} {x:lr} {k:Nat} {c:bC}
theorem wN {Q:Option Addr->PH->Prop} (h:aA H (aC B::du A M w x R)) (a:Q (some M.F.fa) H):fh (some M.ma) H Q:=aE rfl (aD (aY (x:=some M.F.fa) (j:=2) h 13 rfl rfl a))
theorem Da {Q:Option Addr->PH->Prop} (h:aA H (aC B::du A M w x R)) (a:Q (some M.F.X.da) H):jS (some M.ma) H Q:=aE rfl (aD (aY (x:=some M.F.X.da) (j:=1) h 13 rfl rfl a))
theorem Hy {Q:Option Addr->PH->Prop} (h:aA H (aC B::du A M w x R)) (a:Q (some M.sc) H):kW (some M.ma) H Q:=aE rfl (aD (aY (x:=some M.sc) (j:=3) h 13 rfl rfl a))
theorem O2 {Q:Option Addr->PH->Prop} (h:aA H (aC B::du A M w x R)) (a:Q (some M.up) H):nH (some M.ma) H Q:=aE rfl (aD (aY (x:=some M.up) (j:=4) h 13 rfl rfl a))
theorem O3 {Q:Option Addr->PH->Prop} (h:aA H (aC B::du A M w x R)) (a:Q (some M.dn) H):lZ (some M.ma) H Q:=aE rfl (aD (aY (x:=some M.dn) (j:=5) h 13 rfl rfl a))
theorem Ez {size:Nat} {S:KM.St} {Q:Option Addr->Bool->PH->Prop} (h:aA H (aC B::L)) (v:bg c) (j:1<=size) (l:size<=16) (s:Ex c=true) (u:kz (oS c)=some S)
 (t:∀A M w e H',Ext B e->A.a=M.F.X.da->pK e M w (x0 S size)->bJ 63 S->S.d.now.length=(all c).toNat->aA H' (aC e::du A M w (x0 S size) L)->Q (some M.ma) true H'):mN c size H Q:=by
 refine fM h λa1 C H1 m z i=>fF (enc:=Ge.tw) (x:=c) (z.ext i.base) rfl (ND (c:=c) i v j l s u λA M w o p n q f ok y b=>?_)
 obtain⟨D,r,_⟩:=f.fr.X.g
 have gs:(Option.isNone M.F.X.g)=false:=by rw[r];rfl
 refine aF (aE rfl (aF (aE rfl ?_)))
 refine wN b (aF (aE rfl ?_))
 refine Da b (aF (aE rfl ?_))
 refine Hy b (aF (aE rfl ?_))
 refine O2 b (aF (aE rfl ?_))
 refine O3 b (aE rfl ?_)
 refine wN b (qS f.fr b.base (aF (ae rfl ?_)))
 refine fY (uy b) (aF (ae rfl ?_))
 refine zk (uy b) (aF (ae rfl ?_))
 refine En (uy b) ?_
 rw[gs]
 exact t A M w o p (m.trans n) q f ok y b
theorem HD {a b:Int} {Q:Int->PH->Prop} (f:0<=a) (g:a<=2 ^ 40) (h:1<=b) (i:b<=2 ^ 40) (d:Q ((a+b- 1)/b) H):ow a b H Q:=by
 refine⟨by omega,?_⟩
 rw[bo (x:=a+b) (by omega) (by omega),bo (x:=a+b- 1) (by omega) (by omega),Int.tdiv_eq_ediv_of_nonneg (by omega)]
 have a1:0<=(a+b- 1)/b:=Int.ediv_nonneg (by omega) (by omega)
 have e:(a+b- 1)/b<=a+b- 1:=Int.ediv_le_self _ (by omega)
 rw[bo (by omega) (by omega)]
 exact d
theorem tu {Q:Int->PH->Prop} (h:aA H (aC B::L)) (g:bg c) (m:∀H',aA H' (aC B::L)->Q (all c) H'):kC c H Q:=by
 obtain⟨n,o,p,q,r,s⟩:=id g
 have t:=Ge.BJ g
 refine az h λa1 H1 f=>bk (x:=c) f rfl rfl (ay (x:=c.2.1) f rfl (ay (x:=c.2.2) f rfl ?_))
 refine az f λy u d=>ay (x:=c.2.1) d rfl ?_
 rw[bo (x:=c.2.1- 1) (by omega) (by omega)]
 refine cq (b:=decide ((0:Int)<=c.2.1- 1)) (λkk=>kk) ?_
 rw[decide_eq_true (show(0:Int)<=c.2.1- 1 by omega)]
 refine aE rfl (bk (x:=c) d rfl rfl (bk (x:=c) d rfl rfl (ay (x:=c.2.2) d rfl (az d λz v a=>ay (x:=c.2.1) a rfl ?_))))
 rw[bo (x:=5*c.2.1) (by omega) (by omega),bo (x:=43+5*c.2.1) (by omega) (by omega)]
 refine HD (by omega) (by omega) (by omega) (by omega) ?_
 have a:=a.ak
 refine cw (j:=2) a 1 rfl rfl (tY a 1 rfl rfl rfl (az a λC l e=>ay (x:=c.1) e rfl (HD (by omega) (by omega) (by omega) (by omega) ?_)))
 have e:=e.ak
 have e1:(43+5*c.2.1+64- 1)/ 64=cD c:=by simp only[cD];omega
 have e2:(c.1+15- 1)/ 15=cR c:=by simp only[cR];omega
 have E:=Ge.kT g
 have D:=Ge.gE g
 rw[e1,e2]
 refine cw (j:=2) e 1 rfl rfl ?_
 rw[bo (x:=2*cD c) (by omega) (by omega),bo (x:=2+2*cD c) (by omega) (by omega),bo (x:=4*cR c) (by omega) (by omega),bo (x:=2+2*cD c+4*cR c) (by omega) (by omega),bo (x:=0*c.2.2) (by omega) (by omega),bo (x:=2+2*cD c+4*cR c+0*c.2.2) (by omega) (by omega)]
 have i:=e.ak
 refine cw (j:=2) i 1 rfl rfl (cw (j:=1) i 1 rfl rfl ?_)
 rw[bo (x:=c.2.1*c.2.2) (by omega) (by omega),bo (by omega) (by omega)]
 have e3:2+2*cD c+4*cR c+0*c.2.2+c.2.1*c.2.2=all c:=by simp only[all,base];omega
 rw[e3]
 exact m l i.ak
theorem Db {b:Int} {Q:bC->PH->Prop} (h:aA H (aC B::L)) (f:∀H',aA H' (aC B::L)->Q (1+b% 20,8,24) H'):mE b H Q:=by
 have g:=Int.emod_nonneg b (show(20:Int)≠0 by decide)
 have i:=Int.emod_lt_of_pos b (show(0:Int)< 20 by decide)
 refine az h λa1 H1 d=>px (by decide) (by decide) ?_
 rw[bo (x:=1+b% 20) (by omega) (by omega)]
 exact bf (vs:=[i64 (1+b% 20),i64 8,i64 24]) d rfl rfl λe a=>bk (x:=(1+b% 20,8,24)) a rfl rfl (f e a.ak)
theorem O4 {b y ep:Int} {Q:M5->Bool->PH->Prop} (h:aA H (aC B::L)) (o:∀r f H',Ext B f->Bytes f r (fD y)->aA H' (aC f::L)->Q (1,b,0,0,r) true H'):lx (1,b,0,y,Sl.nil) ep H Q:=by
 refine fM h λa1 q H1 j d n=>az n λu s a=>aa (x:=(1:Int)) (d.ext a.base) rfl (ae rfl (aa (x:=b) (d.ext a.base) rfl (aa (x:=y) (d.ext a.base) rfl ?_)))
 refine DW a λr l t e p g=>cx ((d.ext e).ext g.base) rfl (bf (vs:=c5 (1,b,0,0,r)) g rfl rfl λm i=>bk (x:=(1,b,0,0,r)) i rfl rfl ?_)
 exact o r l m (j.trans e) p i.ak
theorem O5 {b c d ep:Int} {q:Sl} {Q:M5->Bool->PH->Prop} (h:aA H (aC B::L)) (he:0<=ep/\ep< 2 ^ 40) (i:∀H',aA H' (aC B::L)->Q (3,0,0,ep+1,Sl.nil) true H'):lx (3,b,c,d,q) ep H Q:=by
 refine az h λa1 H1 g=>az g λm l a=>aY (x:=(3:Int)) (j:=0) a 2 rfl rfl (aE rfl (aE rfl (ae rfl ?_)))
 rw[bo (x:=ep+1) (by omega) (by omega)]
 exact bf (vs:=c5 (3,0,0,ep+1,Sl.nil)) a rfl rfl λf e=>bk (x:=(3,0,0,ep+1,Sl.nil)) e rfl rfl (i f e.ak.ak)
end
end Ma
end
end Go.Proofs.YtbijlklgbfminaaGreat
section
namespace KM
theorem RG {S:St} {b:Int} {y:Bs} (i:S.w.blocks=[]) (h:(S.read b).1=y) (e:y≠[]) (g:y≠List.replicate 64 0):S.has b 1=true/\S.d.off=false/\dz S.m.l0 b≠0/\(0<=dz S.m.l0 b/\dz S.m.l0 b<S.d.now.length)/\S.d.sec (dz S.m.l0 b)=y:=by
 unfold St.read at h
 dsimp only at h
 by_cases he:S.asks 0 (S.has b 1)=0
 ·rw[if_neg (by simpa using he)] at h
  have f:S.has b 1=true/\S.d.off=false:=by
   unfold St.asks at he
   rw[if_neg (by simp)] at he
   cases a:S.has b 1 with
   |false=>rw[a] at he;simp at he
   |true=>
    rw[a,if_neg (by simp)] at he
    cases c:S.d.off with
    |false=>exact⟨rfl,rfl⟩
    |true=>rw[c] at he;simp at he
  refine⟨f.1,f.2,?_⟩
  unfold St.bytes at h
  by_cases a:dz S.m.l0 b=0
  ·rw[if_pos a] at h;exact absurd h.symm g
  ·rw[if_neg a] at h
   unfold St.Pq at h
   rw[i,if_neg (by simp;try omega)] at h
   refine⟨a,?_⟩
   by_cases c:0<=dz S.m.l0 b/\dz S.m.l0 b<S.d.now.length
   ·exact⟨c,h⟩
   ·rw[Dk.rd,if_neg c] at h;exact absurd h.symm e
 ·rw[if_pos (by simpa using he)] at h;exact absurd h.symm e
end KM
namespace Go.Proofs.YtbijlklgbfminaaGreat
namespace Ma
open Go Go.Kx KM Rw Wi Fm Li Src So Re Ds
section
variable {H B:PH} {L R:List Ob} {A:DA} {F:Fr} {W:Wt} {S:KM.St} {k:Nat}
theorem Kj {b:Int} {y:Bs} {Q:Sl->Int->PH->Prop} (h:aA H (aC B::bx A F.X W S R)) (e:A.a=F.X.da) (f:mq B F.X S.c) (D:iJ B W S) (ok:bJ k S) (hk:k< 2 ^ 28) (g:S.w.blocks=[]) (I:(S.read b).1=y) (s:y≠[]) (t:y≠List.replicate 64 0)
 (C:∀r d H',Ext B d->Bytes d r y->aA H' (aC d::bx A F.X W S R)->Q r 0 H'):pd (some F.X.sa) b H Q:=by
 obtain⟨E,G,K,j,J⟩:=RG g I s t
 refine Eo h f ok.tolq (by omega) ?_
 rw[E]
 refine yB h e ?_
 rw[wS (mode:=0) G (.inl rfl) rfl]
 refine aE rfl (aD (aY (x:=some F.X.ia) h 11 rfl rfl (Ig.Oi (wK h) f.im ?_)))
 refine aE (by simpa using K) (aD (aY (x:=some F.X.wa) h 11 rfl rfl (aE rfl (aD (aY (enc:=Sl.v) (x:=W.kD) h 8 rfl rfl ?_)))))
 have M:dE Sl.v H W.kD W.bl:=h.get 10 rfl
 have hlen:(W.kD.len:Int)=0:=by rw[M.list.bF,D.len,g];rfl
 rw[hlen]
 refine yy (λm st q=>st=0/\q=H) 0 ⟨rfl,rfl⟩ ?_
 rintro m st H1 again ⟨rfl,rfl⟩ _
 refine aE rfl (aD (aY (x:=some F.X.da) h 8 rfl rfl ?_))
 rw[←e]
 refine w9 (i:=4) h rfl ok.dk (by omega) j λr p u=>gX u λo n l z=>?_
 rw[J] at l
 exact C r o p n l z
theorem Kk {b:Int} {y:Bs} {Q:Sl->Int->PH->Prop} (h:aA H (aC B::bx A F.X W S R)) (s:A.a=F.X.da) (f:rP B F S.c) (u:iJ B W S) (ok:bJ k S) (hk:k< 2 ^ 28) (hm:S.n.mode=2) (v:S.w.blocks=[]) (x:(S.read b).1=y) (o:y≠[]) (p:y≠List.replicate 64 0)
 (t:∀r i H',Ext B i->Bytes i r y->aA H' (aC i::bx A F.X W S R)->Q r 0 H'):pe (some F.fa) b H Q:=by
 refine qS f h.base (aF (ae rfl (qR h f.X ok.tolq λC H1 d g=>?_)))
 have e:(S.status.1 != 2)=false:=by show(S.n.mode != 2)=false;rw[hm];rfl
 rw[e]
 refine aE rfl (qS (f.ext d) g.base (Kj g s (f.ext d).X (u.ext d) ok hk v x o p λr l m j z q=>t r l m (d.trans j) z q))
end
end Ma
end Go.Proofs.YtbijlklgbfminaaGreat
end
namespace Go.Proofs.YtbijlklgbfminaaGreat
section
namespace Ma
open Go Go.Kx KM Rw Wi Fm Li Src So Re Ds
def EJ (S:KM.St):Bool:=(((S.m.l0.all λx=>bE x (-1) 4095)&&(S.m.l1.all λx=>bE x (-1) 4095))&&((((S.n.lb.length:Int)==cR S.c&&S.n.lb.all λx=>bE x 0 1))&&(((S.n.lo.length:Int)==cR S.c&&S.n.lo.all λx=>bE x 0 1))))&&((S.n.slot==0||S.n.slot==1)&&iU S.c ((CT S).tt (zl S).2 (Ao S).2))
theorem yl {S:KM.St} (h:EJ S=true):Ap S:=by
 simp only[EJ,Bool.and_eq_true,List.all_eq_true,KM.bY,beq_iff_eq,Bool.or_eq_true] at h
 exact⟨⟨λx a=>h.1.1.1 x a,λx a=>h.1.1.2 x a⟩,⟨h.1.2.1.1,h.1.2.1.2⟩,⟨h.1.2.2.1,h.1.2.2.2⟩,h.2.1,h.2.2⟩
def E0 (S:KM.St) (o:iV):Bool:=if o.kind=1 then(S.has o.block 1&&o.data.length==64&&o.data.all λx=>bE x 0 255)&&(cL (1,o.block,0,0)&&(S.add (1,o.block,0,0) (some o.data) false).2.2==0) else o.kind==3&&(o.aV==S.n.aV+1&&(S.add (3,0,0,o.aV) none false).2.2==0)
theorem ym {S:KM.St} {o:iV} (h:E0 S o=true):qX S o:=by
 unfold E0 at h
 split at h
 ·next hk=>
  simp only[Bool.and_eq_true,List.all_eq_true,KM.bY,beq_iff_eq] at h
  exact⟨.inl hk,λ_=>⟨h.1.1.1,h.1.1.2,λx a=>h.1.2 x a,h.2.1,h.2.2⟩,λc=>by omega⟩
 ·next hk=>
  simp only[Bool.and_eq_true,beq_iff_eq] at h
  exact⟨.inr h.1,λb=>by omega,λ_=>⟨h.2.1,h.2.2⟩⟩
def Aw (S:KM.St):Bool:=(S.n.mode==1&&bE S.n.view 1 2147483647)&&((bE S.n.done 0 S.n.seq&&bE S.n.seq 0 1000)&&bE S.n.aV 0 1000)
theorem wV {S:KM.St} (h:Aw S=true):uG S/\S.n.seq+1<=2 ^ 30/\S.n.aV+1<=2 ^ 30:=by
 simp only[Aw,Bool.and_eq_true,KM.bY,beq_iff_eq] at h
 exact⟨⟨h.1.1,h.1.2,h.2.1.1,by omega,by omega⟩,by omega,by omega⟩
def fO:iV:=⟨1,2,0,0,fD 7⟩
def iZ:iV:=⟨3,0,0,1,[]⟩
def nZ:iV:=⟨1,2,0,0,fD 8⟩
def JK:bC:=(4,8,24)
def P9 (S:KM.St):Bool:=(EJ S&&(decide (2<dZ S.check.1.t.l)&&decide (S.check.2.length< 1000)))&&match kz (S.check.1.d.ku []) with
 |none=>false
 |some T=>(sE (S.check.1.d.ku [])&&Ki T 60)&&((T.n.mode==1&&T.n.aV==1)&&(decide (T.n.view< 9)&&(EJ (T.raised 9 2)&&(((T.raise 9 2).1.w.blocks.isEmpty&&((T.raise 9 2).1.read 2).1==fD 7)&&((T.raise 9 2).1.n.view==9&&(T.raise 9 2).1.n.mode==2)))))
def QA:Bool:=match kz (oS JK) with
 |none=>false
 |some S=>((E0 S fO&&Aw S)&&(S.n.seq==0&&S.n.view==1))&&((E0 (S.op fO).1 iZ&&Aw (S.op fO).1)&&((E0 ((S.op fO).1.op iZ).1 nZ&&Aw ((S.op fO).1.op iZ).1)&&P9 (((S.op fO).1.op iZ).1.op nZ).1))
theorem Kl:QA=true:=by decide+kernel
end Ma
end
section
namespace Fm
open Go Go.Kx KM Rw Wi
theorem Dc (pre:Bs) (w:Nat) (n:Int) (post:Bs) (a:0<=n) (b:n< 256 ^ w) {k:Nat} (hk:k=pre.length):num (pre++(le w n++post)) k w=n:=by
 subst hk
 rw[num,List.drop_append_of_le_length (Nat.le_refl _),List.drop_length,List.nil_append,List.take_append_of_le_length (by rw[bI];exact Nat.le_refl _),List.take_of_length_le (by rw[bI];exact Nat.le_refl _),MD w n a b]
theorem num_1 (pre:Bs) (x:Int) (post:Bs) {k:Nat} (hk:k=pre.length):num (pre++x::post) k 1=x:=by
 subst hk
 rw[num,List.drop_append_of_le_length (Nat.le_refl _),List.drop_length,List.nil_append]
 show x+256*0=x
 omega
theorem HE {f:pG} (hm:dK f=true) (m:bU f.data):vY (cC f)=some f:=by
 have P:=parts hm
 have e:lQ (cC f)=f:=by
  have l:(cC f).length=25+f.data.length:=by rw[cC,gB,pv];omega
  have a:cC f=[75,70]++f.kind::(le 4 f.view++(le 4 f.seq++(f.block::f.count::(le 4 f.aV++(le 4 f.done++(f.data++le 4 (oA (mu f)))))))):=by
   rw[cC,closed,mu];simp[List.append_assoc]
  have n:=P.view;have q:=P.seq;have he:=P.aV;have o:=P.done
  have b:num (cC f) 2 1=f.kind:=by rw[a];exact num_1 _ _ _ rfl
  have c:num (cC f) 3 4=f.view:=by
   rw[a,show[75,70]++f.kind::(le 4 f.view++(le 4 f.seq++(f.block::f.count::(le 4 f.aV++(le 4 f.done++(f.data++le 4 (oA (mu f))))))))=[75,70,f.kind]++(le 4 f.view++(le 4 f.seq++(f.block::f.count::(le 4 f.aV++(le 4 f.done++(f.data++le 4 (oA (mu f)))))))) by simp]
   exact Dc _ 4 _ _ (by omega) (by show _<(4294967296:Int);omega) rfl
  have d:num (cC f) 7 4=f.seq:=by
   rw[a,show[75,70]++f.kind::(le 4 f.view++(le 4 f.seq++(f.block::f.count::(le 4 f.aV++(le 4 f.done++(f.data++le 4 (oA (mu f))))))))=([75,70,f.kind]++le 4 f.view)++(le 4 f.seq++(f.block::f.count::(le 4 f.aV++(le 4 f.done++(f.data++le 4 (oA (mu f))))))) by simp]
   exact Dc _ 4 _ _ (by omega) (by show _<(4294967296:Int);omega) (by simp[bI])
  have g:num (cC f) 11 1=f.block:=by
   rw[a,show[75,70]++f.kind::(le 4 f.view++(le 4 f.seq++(f.block::f.count::(le 4 f.aV++(le 4 f.done++(f.data++le 4 (oA (mu f))))))))=([75,70,f.kind]++le 4 f.view++le 4 f.seq)++f.block::(f.count::(le 4 f.aV++(le 4 f.done++(f.data++le 4 (oA (mu f)))))) by simp]
   exact num_1 _ _ _ (by simp[bI])
  have h:num (cC f) 12 1=f.count:=by
   rw[a,show[75,70]++f.kind::(le 4 f.view++(le 4 f.seq++(f.block::f.count::(le 4 f.aV++(le 4 f.done++(f.data++le 4 (oA (mu f))))))))=([75,70,f.kind]++le 4 f.view++le 4 f.seq++[f.block])++f.count::(le 4 f.aV++(le 4 f.done++(f.data++le 4 (oA (mu f))))) by simp]
   exact num_1 _ _ _ (by simp[bI])
  have i:num (cC f) 13 4=f.aV:=by
   rw[a,show[75,70]++f.kind::(le 4 f.view++(le 4 f.seq++(f.block::f.count::(le 4 f.aV++(le 4 f.done++(f.data++le 4 (oA (mu f))))))))=([75,70,f.kind]++le 4 f.view++le 4 f.seq++[f.block,f.count])++(le 4 f.aV++(le 4 f.done++(f.data++le 4 (oA (mu f))))) by simp]
   exact Dc _ 4 _ _ (by omega) (by show _<(4294967296:Int);omega) (by simp[bI])
  have j:num (cC f) 17 4=f.done:=by
   rw[a,show[75,70]++f.kind::(le 4 f.view++(le 4 f.seq++(f.block::f.count::(le 4 f.aV++(le 4 f.done++(f.data++le 4 (oA (mu f))))))))=([75,70,f.kind]++le 4 f.view++le 4 f.seq++[f.block,f.count]++le 4 f.aV)++(le 4 f.done++(f.data++le 4 (oA (mu f)))) by simp]
   exact Dc _ 4 _ _ (by omega) (by show _<(4294967296:Int);omega) (by simp[bI])
  have k:((cC f).drop 21).take ((cC f).length- 25)=f.data:=by
   rw[l,a,show[75,70]++f.kind::(le 4 f.view++(le 4 f.seq++(f.block::f.count::(le 4 f.aV++(le 4 f.done++(f.data++le 4 (oA (mu f))))))))=([75,70,f.kind]++le 4 f.view++le 4 f.seq++[f.block,f.count]++le 4 f.aV++le 4 f.done)++(f.data++le 4 (oA (mu f))) by simp]
   have p:([75,70,f.kind]++le 4 f.view++le 4 f.seq++[f.block,f.count]++le 4 f.aV++le 4 f.done).length=21:=by simp[bI]
   rw[List.drop_append_of_le_length (by omega),List.drop_of_length_le (by omega),List.nil_append,List.take_append_of_le_length (by omega),List.take_of_length_le (by omega)]
  unfold lQ
  rw[b,c,d,g,h,i,j,k]
 rw[BO,e,hm,beq_self_eq_true];rfl
end Fm
end
section
namespace Ma
open Go Go.Kx KM Rw Wi Fm Li Src So Re Ds
theorem BR {k:Nat} {x:lr} {view n:Int} {o:iV} (ok:bJ k x.S) (hk:k+60< 2 ^ 28) (a:uG x.S/\x.S.n.seq+1<=2 ^ 30/\x.S.n.aV+1<=2 ^ 30) (d:qX x.S o) (hm:dK (dY view n o)=true) (b:bU o.data) (j:o.data.length<=64) (g:view=x.S.n.view) (e:n=x.V.next) (c:∀i,x.V.f i=none) (h:0<x.V.size) (l:n< 2 ^ 32):xJ k x (dY view n o) (cC (dY view n o)):=
 ⟨ok,hk,a.1,a.2.1,a.2.2,HE hm b,wM _,by rw[cC,gB,pv];show 21+o.data.length+4<=_;omega,zn (parts hm) b,g,e,c,h,by omega,d⟩
structure Uk (S T:KM.St):Prop where
 o1:E0 S fO=true
 n1:Aw S=true
 q:S.n.seq=0
 v:S.n.view=1
 o2:E0 (S.op fO).1 iZ=true
 n2:Aw (S.op fO).1=true
 o3:E0 ((S.op fO).1.op iZ).1 nZ=true
 n3:Aw ((S.op fO).1.op iZ).1=true
 ck:EJ (((S.op fO).1.op iZ).1.op nZ).1=true
 fr:2<dZ (((S.op fO).1.op iZ).1.op nZ).1.check.1.t.l
 ln:(((S.op fO).1.op iZ).1.op nZ).1.check.2.length< 1000
 op:kz ((((S.op fO).1.op iZ).1.op nZ).1.check.1.d.ku [])=some T
 oc:sE ((((S.op fO).1.op iZ).1.op nZ).1.check.1.d.ku [])=true
 ts:0<=T.n.seq/\T.n.seq<=1000
 tl:1<=T.w.p.2.2.1/\T.w.p.2.2.1<=60
 tp:iT T.c T.w.p=true
 tm:T.n.mode=1
 te:T.n.aV=1
 tv:T.n.view< 9
 tc:EJ (T.raised 9 2)=true
 rb:(T.raise 9 2).1.w.blocks=[]
 rr:((T.raise 9 2).1.read 2).1=fD 7
 rv:(T.raise 9 2).1.n.view=9
 rm:(T.raise 9 2).1.n.mode=2
theorem O6:∃S T,kz (oS JK)=some S/\Uk S T:=by
 have h:=Kl
 unfold QA at h
 generalize e:kz (oS JK)=o at h
 cases o with
 |none=>cases h
 |some S=>
  simp only[Bool.and_eq_true,beq_iff_eq] at h
  obtain⟨⟨⟨l,m⟩,n,p⟩,⟨q,r⟩,⟨s,t⟩,b⟩:=h
  unfold P9 at b
  simp only[Bool.and_eq_true,decide_eq_true_eq] at b
  obtain⟨⟨i,j,k⟩,a⟩:=b
  generalize e2:kz ((((S.op fO).1.op iZ).1.op nZ).1.check.1.d.ku [])=o2 at a
  cases o2 with
  |none=>cases a
  |some T=>
   simp only[Bool.and_eq_true,beq_iff_eq,decide_eq_true_eq,List.isEmpty_iff,Ki,KM.bY] at a
   obtain⟨⟨k1,⟨k2,k3⟩,u⟩,⟨v,w⟩,x,k8,⟨k9,c⟩,f,g⟩:=a
   exact⟨S,T,rfl,l,m,n,p,q,r,s,t,i,j,k,e2,k1,k2,k3,u,v,w,x,k8,k9,c,f,g⟩
def Ul:KM.Sc:=⟨1,4,0,0,0,0,[]⟩
def S3:KM.Sc:=⟨1,4,0,1,0,0,[fO]⟩
def S6:KM.Sc:=⟨1,4,1,2,0,0,[fO,iZ]⟩
def yn:KM.Sc:=⟨1,4,1,3,0,0,[fO,iZ,nZ]⟩
def JL:pG:=dY 1 1 fO
def AV:pG:=dY 1 2 iZ
def Bp:pG:=dY 1 3 nZ
theorem uJ:dK JL=true/\dK AV=true/\dK Bp=true:=by decide+kernel
theorem S7:yn.out=[cC JL,cC AV,cC Bp]:=rfl
theorem yo:(bU fO.data/\bU iZ.data)/\bU nZ.data:=⟨⟨zp 7,λx a=>(by cases a)⟩,zp 8⟩
theorem xK:(fO.data.length<=64/\iZ.data.length<=64)/\nZ.data.length<=64:=⟨⟨by rw[show fO.data=fD 7 from rfl,tQ];omega,by decide⟩,by rw[show nZ.data=fD 8 from rfl,tQ];omega⟩
theorem FO:pE Ul/\pE S3/\pE S6/\pE yn:=by
 refine⟨⟨by decide,by decide,by decide,by decide,by decide,by decide,by decide,by decide⟩,⟨by decide,by decide,by decide,by decide,by decide,by decide,by decide,by decide⟩,⟨by decide,by decide,by decide,by decide,by decide,by decide,by decide,by decide⟩,⟨by decide,by decide,by decide,by decide,by decide,by decide,by decide,by decide⟩⟩
theorem aK:rQ Ul fO/\rQ S3 iZ/\rQ S6 nZ:=
 ⟨⟨uJ.1,by decide,by decide,by decide,yo.1.1,xK.1.1⟩,⟨uJ.2.1,by decide,by decide,by decide,yo.1.2,xK.1.2⟩,⟨uJ.2.2,by decide,by decide,by decide,yo.2,xK.2⟩⟩
theorem UK:As yn:=λi o a=>by
 match i,a with
 | 0,a=>have e:fO=o:=Option.some.inj a;subst e;exact⟨uJ.1,by decide,by decide⟩
 | 1,a=>have e:iZ=o:=Option.some.inj a;subst e;exact⟨uJ.2.1,by decide,by decide⟩
 | 2,a=>have e:nZ=o:=Option.some.inj a;subst e;exact⟨uJ.2.2,by decide,by decide⟩
end Ma
end
section
namespace So
open Go Go.Kx KM Rw Ge Sc Rg Mo Ds Rc
theorem CZ {k:Nat} {S:KM.St} (ok:bJ k S) (hk:k+60< 2 ^ 28) (P:Ap S):bJ (k+40) S.check.1:=by
 obtain⟨o1,o2,o3,j,l,q,u,v,x⟩:=ok.emit (by omega)
 obtain⟨p1,p2,p3,p4,p5⟩:=P
 rw[G2 j l]
 unfold CT Ao zl at p5 ⊢
 rw[←j] at p2 p3 p5
 rw[←l] at p2 p3 p4
 rw[←q] at p1
 generalize S.emit=T at o1 p1 p2 p3 p4 p5 ⊢
 have f:Bn (k+8) T 5 (T.iI false):=zm o1.tolq p1 p2 p3 false
 have m:bJ (k+13) (T.dc (T.iI false).1):=o1.CS f.ok f.len (by omega)
 have g:Bn (k+13) (T.dc (T.iI false).1) 5 ((T.dc (T.iI false).1).iI true):=zm m.tolq p1 p2 p3 true
 generalize r:T.iI false=e at*
 generalize s:(T.dc e.1).iI true=b at*
 have i:bJ (k+19) (T.dc b.1.flush):=o1.CS g.ok.flush ((nS g.ok).trans (g.len.trans f.len)) (by omega)
 have n:iU T.c ((T.dc b.1.flush).tt e.2 b.2)=true:=p5
 obtain⟨d1,d2⟩:=JG i.tolq n p4
 have o:qk ((T.dc e.1).dc b.1.flush) e.2 b.2=qk (T.dc b.1.flush) e.2 b.2:=rfl
 rw[o]
 have a:bJ (k+24) ({T.dc b.1.flush with d:=qk (T.dc b.1.flush) e.2 b.2}:KM.St):=i.CS d1 d2 (by omega)
 generalize qk (T.dc b.1.flush) e.2 b.2=t at a ⊢
 exact⟨⟨a.c,a.dk.mono (by omega),a.len,G1 a.im,Mu a.tb,a.p1,a.p2,⟨a.dQ.1,by have:=a.dQ.2;show T.w.p.2.2.1<=((k+40:Nat):Int);have h:T.w.p.2.2.1<=((k+24:Nat):Int):=this;omega⟩,a.prev,a.vm⟩,a.lt,a.it,a.bl,a.xn,a.fit⟩
end So
namespace Ma
open Go Go.Kx KM Rw Wi Fm Li Src So Re Ds
def aw (S T:KM.St):Nat->lr
 | 0=>x0 S 4
 | 1=>{x0 S 4 with s:=S3}
 | 2=>{x0 S 4 with s:=S6}
 | 3=>{x0 S 4 with s:=yn}
 | 4=>{x0 S 4 with s:=yn,up:=[cC JL,cC AV,cC Bp]}
 | 5=>⟨(S.op fO).1,⟨4,S.n.seq+1+1,λ_=>none⟩,yn,[cC AV,cC Bp],[cC (S.op fO).1.jn]⟩
 | 6=>⟨((S.op fO).1.op iZ).1,⟨4,S.n.seq+1+1+1,λ_=>none⟩,yn,[cC Bp],[cC (S.op fO).1.jn,cC ((S.op fO).1.op iZ).1.jn]⟩
 | 7=>⟨(((S.op fO).1.op iZ).1.op nZ).1,⟨4,S.n.seq+1+1+1+1,λ_=>none⟩,yn,[],[cC (S.op fO).1.jn,cC ((S.op fO).1.op iZ).1.jn,cC (((S.op fO).1.op iZ).1.op nZ).1.jn]⟩
 | 8=>⟨(((S.op fO).1.op iZ).1.op nZ).1.check.1,⟨4,S.n.seq+1+1+1+1,λ_=>none⟩,yn,[],[cC (S.op fO).1.jn,cC ((S.op fO).1.op iZ).1.jn,cC (((S.op fO).1.op iZ).1.op nZ).1.jn]⟩
 | 9=>⟨T,⟨4,T.n.seq+1,λ_=>none⟩,yn,[],[cC (S.op fO).1.jn,cC ((S.op fO).1.op iZ).1.jn,cC (((S.op fO).1.op iZ).1.op nZ).1.jn]⟩
 |_=>⟨(T.raise 9 2).1,⟨4,T.n.seq+1,λ_=>none⟩,yn,[],[cC (S.op fO).1.jn,cC ((S.op fO).1.op iZ).1.jn,cC (((S.op fO).1.op iZ).1.op nZ).1.jn]⟩
section
variable {S T:KM.St}
theorem d0:sG (1,2,0,7,Sl.nil) (aw S T 0) (aw S T 1) (0,0):=jq (Av (x:=aw S T 0) (b:=2) (y:=7) FO.1 aK.1)
theorem d1:sG (3,0,0,0,Sl.nil) (aw S T 1) (aw S T 2) (0,0):=jq (G9 (x:=aw S T 1) FO.2.1 aK.2.1)
theorem d2:sG (1,2,0,8,Sl.nil) (aw S T 2) (aw S T 3) (0,0):=jq (Av (x:=aw S T 2) (b:=2) (y:=8) FO.2.2.1 aK.2.2)
theorem d3:sG (4,0,0,0,Sl.nil) (aw S T 3) (aw S T 4) (0,3):=jq (HA (x:=aw S T 3) FO.2.2.2 UK (by show 0+yn.out.length<=64;rw[S7];decide) (λf hf=>by
 have hf:f∈yn.out:=hf
 have a:=xK
 rw[S7] at hf
 simp only[List.mem_cons,List.not_mem_nil,or_false] at hf
 rcases hf with rfl|rfl|rfl<;>rw[cC,gB,pv]
 ·show 21+fO.data.length+4<=_;omega
 ·show 21+iZ.data.length+4<=_;omega
 ·show 21+nZ.data.length+4<=_;omega))
variable (P:Uk S T) (ok:bJ 63 S)
include P ok
theorem k1:bJ 89 (S.op fO).1/\(S.op fO).1.n.seq=1/\(S.op fO).1.n.view=1:=by
 obtain⟨p1,p2,p3,p4,p5,b,a,_⟩:=vT ok (by decide) (wV P.n1).1 (ym P.o1)
 exact⟨p1,by rw[p5,P.q];rfl,by rw[a,P.v]⟩
theorem k2:bJ 115 ((S.op fO).1.op iZ).1/\((S.op fO).1.op iZ).1.n.seq=2/\((S.op fO).1.op iZ).1.n.view=1:=by
 obtain⟨b,c,d⟩:=k1 P ok
 obtain⟨p1,p2,p3,p4,p5,e,a,_⟩:=vT b (by decide) (wV P.n2).1 (ym P.o2)
 exact⟨p1,by rw[p5,c];rfl,by rw[a,d]⟩
theorem k3:bJ 141 (((S.op fO).1.op iZ).1.op nZ).1/\(((S.op fO).1.op iZ).1.op nZ).1.n.seq=3/\(((S.op fO).1.op iZ).1.op nZ).1.n.view=1:=by
 obtain⟨b,c,d⟩:=k2 P ok
 obtain⟨p1,p2,p3,p4,p5,e,a,_⟩:=vT b (by decide) (wV P.n3).1 (ym P.o3)
 exact⟨p1,by rw[p5,c];rfl,by rw[a,d]⟩
theorem d4:sG (6,0,0,0,Sl.nil) (aw S T 4) (aw S T 5) (0,1):=by
 have C:xJ 63 (aw S T 4) JL (cC JL):=BR (x:=aw S T 4) ok (by decide) (wV P.n1) (ym P.o1) uJ.1 yo.1.1 xK.1.1 P.v.symm (by show(1:Int)=S.n.seq+1;rw[P.q];rfl) (λ_=>rfl) (show 0< 4 by decide) (by decide)
 have h:=jq (zr (c:=0) (d:=0) (q:=Sl.nil) (fs:=[cC AV,cC Bp]) C rfl (show 0+1<=64 by decide) (by decide))
 have e:((aw S T 4).S.op (gb JL)).1.n.seq=1:=(k1 P ok).2.1
 rw[e] at h
 exact h
theorem d5:sG (6,0,0,0,Sl.nil) (aw S T 5) (aw S T 6) (0,2):=by
 have C:xJ 89 (aw S T 5) AV (cC AV):=BR (x:=aw S T 5) (k1 P ok).1 (by decide) (wV P.n2) (ym P.o2) uJ.2.1 yo.1.2 xK.1.2 (k1 P ok).2.2.symm (by show(2:Int)=S.n.seq+1+1;rw[P.q];rfl) (λ_=>rfl) (show 0< 4 by decide) (by decide)
 have h:=jq (zr (c:=0) (d:=0) (q:=Sl.nil) (fs:=[cC Bp]) C rfl (show 1+1<=64 by decide) (by decide))
 have e:((aw S T 5).S.op (gb AV)).1.n.seq=2:=(k2 P ok).2.1
 rw[e] at h
 exact h
theorem d6:sG (6,0,0,0,Sl.nil) (aw S T 6) (aw S T 7) (0,3):=by
 have C:xJ 115 (aw S T 6) Bp (cC Bp):=BR (x:=aw S T 6) (k2 P ok).1 (by decide) (wV P.n3) (ym P.o3) uJ.2.2 yo.2 xK.2 (k2 P ok).2.2.symm (by show(3:Int)=S.n.seq+1+1+1;rw[P.q];rfl) (λ_=>rfl) (show 0< 4 by decide) (by decide)
 have h:=jq (zr (c:=0) (d:=0) (q:=Sl.nil) (fs:=[]) C rfl (show 2+1<=64 by decide) (by decide))
 have e:((aw S T 6).S.op (gb Bp)).1.n.seq=3:=(k3 P ok).2.1
 rw[e] at h
 exact h
theorem d7:sG (12,0,0,0,Sl.nil) (aw S T 7) (aw S T 8) (0,((((S.op fO).1.op iZ).1.op nZ).1.check.2.length:Int)):=NA (x:=aw S T 7) (k3 P ok).1 (by decide) (yl P.ck) P.fr (by have:=P.ln;show(((S.op fO).1.op iZ).1.op nZ).1.check.2.length<_;omega)
theorem d8:sG (18,0,0,0,Sl.nil) (aw S T 8) (aw S T 9) (0,1):=by
 have h:=NB (x:=aw S T 8) (T:=T) (b:=0) (d:=0) (kk:=57) (CZ (k3 P ok).1 (by decide) (yl P.ck)) (by decide) (by decide) P.op P.oc (show 1<=4 by decide) (show 4<=16 by decide) ⟨P.ts.1,by have:=P.ts.2;omega⟩ ⟨P.tl.1,by have:=P.tl.2;omega⟩ P.tp
 rw[P.te] at h
 exact h
end
end Ma
end
section
namespace So
open Go Go.Kx KM Rw Ge Sc Rg Mo Ds Rc
section
variable {n k:Nat} {M M':Im} {D:Dk} {c:bC}
theorem EK {aQ:Bool}:∀(l:List Int) (i:Nat) (M:Im),ft c D aQ i l M=some M'->Ig.dM n M->i+l.length<=(M.cW aQ).length->Ig.dM n M'
 |[],i,M,h,ok,_=>by rw[Gk] at h;exact Option.some.inj h▸ok
 |x::l,i,M,h,ok,b=>by
  obtain⟨refs,hrefs,g,d⟩:=Ek h
  rw[List.length_cons] at b
  have f:refs.length=15:=by
   rw[ru] at hrefs
   split at hrefs
   ·have:=Option.some.inj hrefs;rw[←this,Pa.vP]
   ·cases hrefs
  have e:(cO (M.fq aQ) 15 (M.cW aQ) (i:Int)).length<=15:=by
   unfold cO;split<;>simp;omega
  have a:=ok.load (k:=i) (aQ:=aQ) (ys:=refs.take (cO (M.fq aQ) 15 (M.cW aQ) i).length) (by omega) (by simp;omega)
  refine EK l (i+1) _ d a ?_
  have:((M.load aQ i (refs.take (cO (M.fq aQ) 15 (M.cW aQ) i).length)).cW aQ).length=(M.cW aQ).length:=by cases aQ<;>simp[Im.cW,Im.load]
  rw[this];omega
theorem NF (ok:Ig.dM n M) (aQ:Bool) (b a:Int):Ig.dM n (M.lay aQ b a):=by unfold Im.lay;split;exact ok.put _ _ _;exact ok
theorem NG (ok:Ig.dM n M) (aQ:Bool) (b m:Int):Ig.dM n (M.cut aQ b m).1:=by unfold Im.cut;split;exact(Ig.KT ok _).1;exact ok
theorem RH (ok:Ig.dM n M) (b o a:Int):Ig.dM n (M.move b o a):=by
 unfold Im.move
 split
 ·split
  ·exact ok.put _ _ _
  ·split
   ·exact ok.put _ _ _
   ·exact ok
 ·exact ok
theorem RI {f:KM.Fd} (ok:Ig.dM n f.m) (i:iY) (a:Int):Ig.dM n (f.sN i a).m:=by
 unfold KM.Fd.sN
 split;·exact NF ok _ _ _
 split;·exact NG ok _ _ _
 split;·exact(Ig.xu ok _).1
 split;·exact RH ok _ _ _
 split;·exact NF ok _ _ _
 split;·exact NG ok _ _ _
 split;·exact ok
 exact ok
theorem HF:∀(l:List iY) {f:KM.Fd} (ok:Ig.dM n f.m) (a:Int),Ig.dM n (f.items a l).m
 |[],f,ok,a=>ok
 |i::l,f,ok,a=>HF l (RI ok i _) _
theorem O7 {f:KM.Fd} (ok:Ig.dM n f.m) (m:Int):Ig.dM n (f.oP m).m:=by
 unfold KM.Fd.oP
 split
 ·exact(Ig.uu ok _).1
 ·exact ok
theorem HG:∀(l:List (Pos×Rec)) {f:KM.Fd} (ok:Ig.dM n f.m) (c:bC),Ig.dM n (l.foldl (KM.Fd.kR c) f).m
 |[],f,ok,c=>ok
 |x::l,f,ok,c=>HG l (f:=f.kR c x) (HF x.2.items (O7 ok x.2.aO) _) c
theorem NH {S:KM.St} (ok:cM k D) (J:kz D=some S) (e:1<=S.w.p.2.2.1/\S.w.p.2.2.1<=k+3):bJ (k+3) S:=by
 obtain⟨c,id,aO,sl,rg,slot,T,m1,l,en,f,P⟩:=zj J
 have y:=JB P.tt
 have h:=parts y
 have a:bg c:=(Su.jF P.sm).1
 have Z:=gE a
 have U:=a.1;have V:=a.2.1;have W:=a.2.2.1
 have X:=sZ a
 have K:=jo.pB a
 have Y:=m8 a
 have r:=Ig.Md (n:=c.1.toNat) (by omega)
 have F:((vj c.1.toNat).cW false).length=(cR c).toNat:=by
  have:=BM c (by omega)
  show(List.replicate (pH c.1.toNat 15).toNat false).length=_
  rw[List.length_replicate];omega
 have i0:=EK (n:=c.1.toNat) rg.lb 0 _ P.p0 r (by rw[F];have:=h.lb.1;omega)
 have e1:(T.cW true).length=(cR c).toNat:=by
  have H:=(i0.cW true).d
  have I:=i0.fq true
  have:=BM c (by omega)
  rw[I] at H;omega
 have i1:=EK rg.lo 0 _ P.p1 i0 (by rw[e1];have:=h.lo.1;omega)
 have B:gF c.2.1.toNat (⟨rg.cG,List.replicate c.2.1.toNat 0⟩:Tb):=⟨by show rg.cG.length=_;have:=h.cG;omega,by simp,λx Q=>by rw[(List.mem_replicate.1 Q).2];omega,λu hu=>h.us u hu⟩
 have z:Ig.dM c.1.toNat f.m:=by rw[P.fe];exact(Ig.uu (HG l i1 c) _).1
 have C:gF c.2.1.toNat f.t:=by rw[P.fe];exact CQ l B c
 have N:=P.pos
 simp only[iT,Bool.and_eq_true,KM.bY] at N
 have O:=Sc.mY a (s:=en.1) (by omega)
 have hlen:=P.len
 have g:(List.replicate 64 (0:Int)).length=64:=by simp
 have j:=ok.put (at_:=bW c en.1+en.2.1) (b:=List.replicate 64 0) ⟨by omega,by omega⟩ g (yc _)
 have l2:=uU ok (at_:=bW c en.1+en.2.1) (b:=List.replicate 64 0) ⟨by omega,by omega⟩ g
 have o:=j.put (at_:=(aO+1)% 2) (b:=iS c id (aO+1)) ⟨by omega,by omega⟩ Su.pt (Su.wE P.sm)
 have R:=uU j (at_:=(aO+1)% 2) (b:=iS c id (aO+1)) ⟨by omega,by omega⟩ Su.pt
 have q:=o.flush
 have A:=(nS o).trans (R.trans l2)
 have G:=P.S_
 rw[G] at e ⊢
 generalize((D.put (bW c en.1+en.2.1) (List.replicate 64 0)).put ((aO+1)% 2) (iS c id (aO+1))).flush=E at q A ⊢
 refine⟨⟨a,q,?_,z,C.refs c f.m.refs,?_,?_,e,?_,?_⟩,?_,λi hi=>?_,rfl,λb L=>?_,λv=>absurd rfl v⟩
 ·show _<=(E.now.length:Int);rw[A];exact hlen
 ·show 0<=en.1/\en.1<c.2.1;omega
 ·show 0<=en.2.1/\en.2.1<=c.2.2;omega
 ·show 0<=en.2.2.2.1/\en.2.2.2.1<=4294967295;omega
 ·show 1<=aO+1/\aO+1<=2147483647;omega
 ·show en.2.1<c.2.2;omega
 ·cases hi
 ·cases L
end
end So
end
end Go.Proofs.YtbijlklgbfminaaGreat
section
namespace KM
def FP:Nat->Bool
 | 0=>true
 |n+1=>FP n&&Ex ((n:Int)+1,8,24)
theorem Dd:FP 20=true:=by decide+kernel
theorem Ca:∀(n i:Nat),FP n=true->i<n->Ex ((i:Int)+1,8,24)=true
 | 0,i,_,h=>by omega
 |n+1,i,h,hi=>by
  rw[FP,Bool.and_eq_true] at h
  by_cases e:i=n
  ·rw[e];exact h.2
  ·exact Ca n i h.1 (by omega)
end KM
end
namespace Go.Proofs.YtbijlklgbfminaaGreat
section
namespace Ma
open Go Go.Kx KM Rw Wi Fm Li Src So Re Ds
theorem Km {H:PH} {y:Int×Int} {b:Addr} {K:Int->Prop} (c:bw H b 2=some (ua y)) (a:K y.1):aH (.int .i64) H (b.add 0) K:=⟨y.1,nm c rfl,a⟩
theorem S8 {H:PH} {y:Int×Int} {b:Addr} {K:Int->Prop} (c:bw H b 2=some (ua y)) (a:K y.2):aH (.int .i64) H (b.add 1) K:=⟨y.2,nm c rfl,a⟩
def S9:List E5:=[(1,2,0,7,Sl.nil),(3,0,0,0,Sl.nil),(1,2,0,8,Sl.nil),(4,0,0,0,Sl.nil),(6,0,0,0,Sl.nil),(6,0,0,0,Sl.nil),(6,0,0,0,Sl.nil),(12,0,0,0,Sl.nil),(18,0,0,0,Sl.nil),(13,9,0,0,Sl.nil)]
def XK (n:Int):List (Int×Int):=[(0,0),(0,0),(0,0),(0,3),(0,1),(0,2),(0,3),(0,n),(0,1),(0,0)]
theorem QB (x:E5):(e5 x).length=5:=rfl
theorem De {Q:Bool->PH->Prop} {H B:PH} {L:List Ob} (h:aA H (aC B::L)) (hQ:∀H',Ext B H'->Q true H'):mW H Q:=by
 obtain⟨S,T,hS,P⟩:=O6
 have h0:Ex JK=true:=Ca 20 3 Dd (by decide)
 have hc:bg JK:=wB.1 (by decide)
 refine Db h λH1 h1=>?_
 refine Ez (c:=JK) (size:=4) (S:=S) h1 hc (by decide) (by decide) h0 hS λA M w B2 H2 R Z hB ok hl h2=>aE rfl ?_
 refine jo.vR (enc:=e5) (sz:=5) (l:=S9) h2 rfl rfl λr7 H3 z=>?_
 obtain⟨B3,u,hv,z⟩:=z.fz
 have K:=hv.jv QB
 have s:bJ 60 T:=NH (k:=57) (((CZ (k3 P ok).1 (by decide) (yl P.ck)).dk.ku []).1.mono (by decide)) P.op ⟨P.tl.1,by have:=P.tl.2;omega⟩
 have D:sG (13,9,0,0,Sl.nil) (aw S T 9) (aw S T 10) (0,0):=Hx (x:=aw S T 9) s (by decide) P.tm (by decide) P.tv (yl P.tc)
 refine HB (xs:=aw S T) (ys:=XK ((((S.op fO).1.op iZ).1.op nZ).1.check.2.length:Int)) (es:=S9) z Z (hB.ext u) K rfl (by decide) (λi e y he b=>?_) λA4 Y w4 q W H4 G E U t N I=>?_
 ·match i,he,b with
  | 0,he,b=>cases he;cases b;exact d0
  | 1,he,b=>cases he;cases b;exact d1
  | 2,he,b=>cases he;cases b;exact d2
  | 3,he,b=>cases he;cases b;exact d3
  | 4,he,b=>cases he;cases b;exact d4 P ok
  | 5,he,b=>cases he;cases b;exact d5 P ok
  | 6,he,b=>cases he;cases b;exact d6 P ok
  | 7,he,b=>cases he;cases b;exact d7 P ok
  | 8,he,b=>cases he;cases b;exact d8 P ok
  | 9,he,b=>cases he;cases b;exact D
  |i+10,he,b=>simp[S9] at he
 ·rw[←G]
  refine wN I (aF ?_)
  rw[N.bF]
  refine aE rfl (aE rfl ?_)
  have eR:=CU (S:=T) (view:=9) (mode:=2) P.tm (by decide) (.inr rfl) P.tv s.dk.off
  have p:bJ 100 (T.raise 9 2).1:=by rw[eR];exact CZ (Aq s 9 2) (by decide) (yl P.tc)
  have f7:fD 7≠[]/\fD 7≠List.replicate 64 0:=by decide
  have o:rP W Y.F (T.raise 9 2).1.c:=t.fr
  refine Kk (S:=(T.raise 9 2).1) (uy I) E o t.wt p (by decide) P.rm P.rb P.rr f7.1 f7.2 λr B5 H5 j hr J=>?_
  have g:=(N.ext j).ext J.base
  refine ob g (by decide) (show(6:Int)<((10:Nat):Int) by decide) λa x f d=>?_
  cases f
  refine Km d (aF (ae rfl (ob g (by decide) (show(6:Int)<((10:Nat):Int) by decide) λa x f d=>?_)))
  cases f
  refine S8 d (aF (ae rfl (ob g (by decide) (show(8:Int)<((10:Nat):Int) by decide) λa x f d=>?_)))
  cases f
  refine Km d (aF (ae rfl (ob g (by decide) (show(8:Int)<((10:Nat):Int) by decide) λa x f d=>?_)))
  cases f
  refine S8 d (aF (ae rfl (ob g (by decide) (show(9:Int)<((10:Nat):Int) by decide) λa x f d=>?_)))
  cases f
  refine Km d (aF (ae rfl (aF (ae rfl ?_))))
  refine DW J λr2 B6 H6 m O C=>Bo ((hr.ext m).ext C.base) (O.ext C.base) (by rw[tQ];decide) ?_
  rw[beq_self_eq_true]
  refine aF (ae rfl (pC C (o.ext (j.trans m)) p λB7 H7 v h7=>?_))
  have ev:((T.raise 9 2).1.status.2.1==9)=true:=by show((T.raise 9 2).1.n.view==9)=true;rw[P.rv];rfl
  rw[ev]
  refine aF (ae rfl (pC h7 (o.ext (j.trans (m.trans v))) p λB8 X V h8=>?_))
  have em:((T.raise 9 2).1.status.1==2)=true:=by show((T.raise 9 2).1.n.mode==2)=true;rw[P.rm];rfl
  rw[em]
  exact hQ X (R.trans (u.trans (U.trans (j.trans (m.trans (v.trans (V.trans h8.base)))))))
end Ma
end
section
namespace So
open Go Go.Kx KM Rw Ge Sc Rg Mo Ds Rc
theorem Cb {l:List cz} {k:Nat} (hk:k<l.length) (u:cz):dZ (l.set k u)+(if(l[k]).1=0 then 1 else 0)=dZ l+(if u.1=0 then 1 else 0):=by
 unfold dZ
 rw[List.countP_set hk]
 have a:(if((l[k]).1==0)=true then 1 else 0)<=l.countP λu=>u.1==0:=by
  split
  ·next h=>exact List.countP_pos_iff.2 ⟨l[k],List.getElem_mem hk,h⟩
  ·omega
 simp only[beq_iff_eq] at a ⊢
 split<;>split<;>simp_all<;>omega
theorem NI {l:List cz} {k:Int} (h:jA l k=true):dZ (pk l k)+1=dZ l:=by
 rw[pk,if_pos h]
 rw[jA,Bool.and_eq_true,beq_iff_eq] at h
 obtain⟨a,b⟩:=Us.bY.1 h.1
 have hk:k.toNat<l.length:=by omega
 have e:l[k.toNat]=dU (0,0) l k:=by rw[Us.jG a (List.getElem?_eq_getElem hk)]
 have:=Cb hk (1,(dU (0,0) l k).2)
 rw[e,h.2] at this
 simpa[vZ] using this
theorem NJ (l:List cz) (k:Int):dZ (qj l k)=dZ l:=by
 unfold qj
 split
 ·next h=>
  rw[Bool.and_eq_true,beq_iff_eq] at h
  obtain⟨a,b⟩:=Us.bY.1 h.1
  have hk:k.toNat<l.length:=by omega
  have e:l[k.toNat]=dU (0,0) l k:=by rw[Us.jG a (List.getElem?_eq_getElem hk)]
  have:=Cb hk (2,(dU (0,0) l k).2)
  rw[e,h.2] at this
  simpa[vZ] using this
 ·rfl
theorem Df (l:List cz) (k s:Int):dZ (gr l k s)=dZ l:=by
 unfold gr
 split
 ·next h=>
  rw[Bool.and_eq_true] at h
  obtain⟨a,b⟩:=Us.bY.1 h.1
  have hk:k.toNat<l.length:=by omega
  have e:l[k.toNat]=dU (0,0) l k:=by rw[Us.jG a (List.getElem?_eq_getElem hk)]
  have:=Cb hk ((dU (0,0) l k).1,s)
  rw[e] at this
  have this:dZ (l.set k.toNat ((dU (0,0) l k).1,s))+(if(dU (0,0) l k).1=0 then 1 else 0)=dZ l+(if(dU (0,0) l k).1=0 then 1 else 0):=this
  simp only[AS]
  omega
 ·rfl
def eo (S:KM.St):Int:=if S.w.items=[] then S.w.p.2.1 else behind S.w.p.2.1 S.w.blocks.length
def lT (S:KM.St):Int:=21*(7-dZ S.t.l)+eo S
section
variable {k:Nat} {S:KM.St}
theorem Ax (h:bJ k S):dZ S.emit.t.l=dZ S.t.l:=by
 unfold KM.St.emit
 split
 ·rfl
 ·obtain⟨c,d,e,f,a,g,⟨i,b⟩,j⟩:=h.tolq.JD
  show dZ (gr S.bZ.t.l _ _)=_
  rw[Df,a]
theorem JM (h:bJ k S) (hk:k+1< 2 ^ 28):eo S.emit=eo S:=by
 obtain⟨e1,e2,e3,b,e5,c,d,a,e⟩:=h.emit hk
 rw[eo,if_pos e2,a,eo]
theorem NK (h:bJ k S) (hk:k+20< 2 ^ 28) (f:1<=S.w.p.2.1) {g:Int} (a:0<=g/\g<S.c.2.1):dZ (S.dX g).t.l=dZ S.t.l:=by
 have z:=h.c.2.2.2.1;have y:=h.c.2.2.2.2.1
 have hm:=CR (g:=g) ⟨a.1,by omega⟩ h.tolq (by omega)
 have n:=h.lt
 obtain⟨i,A⟩:=h.tolq.lG (by omega) hm (λb e=>by cases e) f (by show _+1+((0:Nat):Int)<=_;omega)
 have j:=EB i (g:=g) a S.w.p.1
 obtain⟨o,q,r,s,d,u,⟨v,m⟩,x⟩:=j.JD
 show dZ ((S.lG [(7,0,0,g)] []).tr S.w.p.1 g).bZ.t.l=_
 rw[d]
 show dZ (qj (gr S.t.l _ _) _)=_
 rw[NJ,Df]
theorem O8 (h:bJ k S) (hk:k+40< 2 ^ 28) {b:Int} (F:b=0∨b=1) (A:S.c.2.2=24) (H:lT S<=87):
 (S.room b false).2=0/\21*(7-(dZ (S.room b false).1.t.l:Int))+behind (S.room b false).1.w.p.2.1 ((S.room b false).1.w.blocks.length+b)<=lT S+3:=by
 have L:=h.p2
 have G:=yi h (by omega)
 have i:eo S=(if S.w.items.isEmpty then S.w.p.2.1 else behind S.w.p.2.1 S.w.blocks.length):=by
  unfold eo;cases S.w.items<;>simp
 rcases DS S b false with⟨c1,e⟩|⟨_,c2,e⟩|⟨_,c2,c3,e⟩|⟨_,c2,c3,e⟩
 ·rw[e]
  refine⟨rfl,?_⟩
  show 21*(7-(dZ S.t.l:Int))+behind S.w.p.2.1 (S.w.blocks.length+b)<=lT S+3
  unfold lT eo
  by_cases hi:S.w.items=[]
  ·have s:S.w.blocks=[]:=List.eq_nil_of_length_eq_zero (by rw[h.bl,hi];rfl)
   rw[if_pos hi,s];unfold KM.behind;simp;omega
  ·rw[if_neg hi];unfold KM.behind;omega
 ·rw[e]
  obtain⟨e1,e2,e3,f,e5,q,r,D,E⟩:=h.emit (by omega)
  refine⟨rfl,?_⟩
  show 21*(7-(dZ S.emit.t.l:Int))+behind S.emit.w.p.2.1 (S.emit.w.blocks.length+b)<=lT S+3
  have o:=JM h (by omega)
  rw[eo,if_pos e2] at o
  rw[Ax h,e3,o]
  have:=e1.p2
  rw[o] at this
  unfold lT KM.behind;simp;omega
 ·exfalso
  rw[←i] at c2
  have n:22<=eo S:=by
   unfold KM.fits KM.behind at c2
   simp only[Bool.and_eq_true,decide_eq_true_eq] at c2
   rw[A] at c2
   omega
  have v:2<dZ S.t.l:=by unfold lT at H;omega
  have K:(0:Int)<=nQ S.t.l:=by
   unfold nQ
   have:0<S.t.l.countP λu=>u.1==0:=by unfold dZ at v;omega
   obtain⟨u,hu,C⟩:=List.countP_pos_iff.1 this
   rw[if_pos (List.findIdx_lt_length_of_exists ⟨u,hu,C⟩)]
   omega
  rw[cA,if_neg (by simp;omega)] at c3
  omega
 ·rw[e]
  refine⟨rfl,?_⟩
  have B:=EC S.t.l false
  have O:=h.tb.l
  have P:=h.c.2.2.1
  rcases B with⟨B,_⟩|⟨M,N,z⟩
  ·omega
  have y:0<=cA S.t.l false/\cA S.t.l false<S.c.2.1:=by omega
  have m:=h.pn (cA S.t.l false)
  obtain⟨e1,e2,e3,f,e5,q,r,D,E⟩:=m.emit (by omega)
  have a:=yi m (by omega)
  have d:=Ax m
  generalize({S with t:=S.t.pn (cA S.t.l false)}:KM.St).emit=T at e1 e2 e3 f e5 q r a d ⊢
  have f:T.c=S.c:=f
  have a:T.w.p.2.1=(if S.w.items.isEmpty then S.w.p.2.1 else behind S.w.p.2.1 S.w.blocks.length):=a
  have j:1<=T.w.p.2.1:=by rw[a];exact ED (by omega) F c2
  obtain⟨Q,R,I,U,V,W,X,u8,Y⟩:=e1.dX (g:=cA S.t.l false) (by omega) e2 e3 j (by rw[f];exact y)
  have x:=NK e1 (by omega) j (g:=cA S.t.l false) (by rw[f];exact y)
  show 21*(7-(dZ (T.dX (cA S.t.l false)).t.l:Int))+behind (T.dX (cA S.t.l false)).w.p.2.1 ((T.dX (cA S.t.l false)).w.blocks.length+b)<=lT S+3
  have J:dZ (pk S.t.l (cA S.t.l false))+1=dZ S.t.l:=NI z
  have d:dZ T.t.l=dZ (pk S.t.l (cA S.t.l false)):=d
  rw[←i] at c2
  have n:22<=eo S:=by
   unfold KM.fits KM.behind at c2
   simp only[Bool.and_eq_true,decide_eq_true_eq] at c2
   rw[A] at c2
   omega
  rw[x,u8,I,d]
  unfold lT KM.behind;simp;omega
end
end So
end
section
namespace So
open Go Go.Kx KM Rw Ge Sc Rg Mo Ds Rc Re
section
variable {k:Nat} {S:KM.St}
theorem BS (h:bJ k S) (hk:k+40< 2 ^ 28) (i:iY) (b:Option Bs) (g:S.c.2.2=24) (j:lT S<=87):
 (S.add i b false).2.2=0/\lT (S.add i b false).1<=lT S+3:=by
 have a:(if b.isSome then(1:Int) else 0)=0∨(if b.isSome then(1:Int) else 0)=1:=by split<;>simp
 obtain⟨m,d⟩:=O8 h hk a g j
 have e:S.add i b false=((S.room (if b.isSome then 1 else 0) false).1.hold i b,if b.isSome then(S.room (if b.isSome then 1 else 0) false).1.first+(S.room (if b.isSome then 1 else 0) false).1.w.blocks.length else 0,0):=by
  unfold KM.St.add;simp only;rw[if_pos m]
 rw[e]
 refine⟨rfl,?_⟩
 generalize(S.room (if b.isSome then 1 else 0) false).1=T at d
 have f:lT (T.hold i b)=21*(7-(dZ T.t.l:Int))+behind T.w.p.2.1 (T.w.blocks.length+if b.isSome then(1:Int) else 0):=by
  unfold lT eo KM.St.hold
  rw[if_neg (by simp)]
  simp only[List.length_append]
  cases b<;>simp
 show lT (T.hold i b)<=_
 rw[f];exact d
theorem NL (h:bJ k S) (hk:k+1< 2 ^ 28):lT S.kv=lT S:=by
 show 21*(7-(dZ S.emit.t.l:Int))+eo S.emit=_
 rw[Ax h,JM h hk];rfl
theorem TA (ok:bJ k S) (hk:k+60< 2 ^ 28) (d:uG S) {o:iV} (f:qX S o) (h:S.c.2.2=24) (j:lT S<=87):lT (S.op o).1<=lT S+3:=by
 rcases f.kind with g|q
 ·obtain⟨a1,a,l,n,p⟩:=f.w g
  have e:S.op o=S.lay true o.block o.data:=by unfold KM.St.op;rw[if_pos g]
  rw[e,Gx ok (by omega) d.mode a1 a l p n]
  exact(BS ok (by omega) _ _ h j).2
 ·obtain⟨a1,a⟩:=f.m q
  have e:S.op o=S.mark o.aV:=by unfold KM.St.op;rw[if_neg (by omega),if_neg (by omega)]
  have he:=d.aV
  rw[e,EE ok d.mode a1 a]
  obtain⟨hi,i⟩:=On (ep:=o.aV) (by omega)
  obtain⟨P,_⟩:=yj (sp:=false) ok (by omega) hi (b:=none) (by rw[i];rfl) (λx r=>by cases r)
  have:=(BS ok (by omega) (3,0,0,o.aV) none h j).2
  rw[←NL P.ok (by omega)] at this
  exact this
theorem HH (ok:bJ k S) (hk:k+60< 2 ^ 28) {b y:Int} (g:0<=b/\b<S.c.1) (a:S.c.2.2=24) (d:lT S<=87):qX S ⟨1,b,0,0,fD y⟩:=by
 have e:=ok.c.1;have f:=ok.c.2.1
 refine⟨.inl rfl,λ_=>⟨?_,tQ y,Ma.zp y,?_,(BS ok (by omega) _ _ a d).1⟩,λh=>by cases h⟩
 ·rw[KM.St.has,KM.Im.has,ok.im.n0]
  simp only[Bool.and_eq_true,decide_eq_true_eq];omega
 ·simp[cL,bE];omega
theorem HI (ok:bJ k S) (hk:k+60< 2 ^ 28) (a:S.c.2.2=24) (b:lT S<=87):qX S ⟨3,0,0,S.n.aV+1,[]⟩:=
 ⟨.inr rfl,λh=>(by cases h),λ_=>⟨rfl,(BS ok (by omega) _ _ a b).1⟩⟩
end
end So
end
section
namespace Ma
open Go Go.Kx KM Rw Wi Fm Li Src So Re Ds
def TB (S:KM.St):Bool:=((S.n.mode==1&&S.n.view==1)&&((S.n.aV==0&&S.n.seq==0)&&S.n.done==0))&&(S.w.items.isEmpty&&(S.w.p.2.1==0&&dZ S.t.l==7))
def O9 (c:bC):Bool:=match kz (oS c) with|some S=>TB S|none=>false
def Dg:Nat->Bool
 | 0=>true
 |n+1=>O9 ((n:Int)+1,8,24)&&Dg n
theorem IA:Dg 20=true:=by decide+kernel
theorem E2:∀(n i:Nat),Dg n=true->i<n->O9 ((i:Int)+1,8,24)=true
 | 0,i,_,h=>by omega
 |n+1,i,h,hi=>by
  rw[Dg,Bool.and_eq_true] at h
  by_cases e:i=n
  ·subst e;exact h.1
  ·exact E2 n i h.2 (by omega)
structure Um (S:KM.St):Prop where
 mode:S.n.mode=1
 view:S.n.view=1
 aV:S.n.aV=0
 seq:S.n.seq=0
 done:S.n.done=0
 lT:lT S=0
theorem TC {p:Int}:∃S,kz (oS (1+p% 20,8,24))=some S/\Um S:=by
 have i:=Int.emod_nonneg p (show(20:Int)≠0 by decide)
 have j:=Int.emod_lt_of_pos p (show(0:Int)< 20 by decide)
 have h:=E2 20 (p% 20).toNat IA (by omega)
 rw[show(((p% 20).toNat:Nat):Int)+1=1+p% 20 by omega] at h
 unfold O9 at h
 generalize kz (oS (1+p% 20,8,24))=o at h
 cases o with
 |none=>cases h
 |some S=>
  simp only[TB,Bool.and_eq_true,beq_iff_eq,List.isEmpty_iff] at h
  obtain⟨⟨⟨a1,a⟩,⟨b,c⟩,d⟩,e,f,g⟩:=h
  refine⟨S,rfl,a1,a,b,c,d,?_⟩
  unfold So.lT So.eo
  rw[if_pos e,f,g];rfl
theorem UL (p:Int):Ex (1+p% 20,8,24)=true/\bg (1+p% 20,8,24):=by
 have a:=Int.emod_nonneg p (show(20:Int)≠0 by decide)
 have b:=Int.emod_lt_of_pos p (show(0:Int)< 20 by decide)
 have h:=Ca 20 (p% 20).toNat Dd (by omega)
 rw[show(((p% 20).toNat:Nat):Int)+1=1+p% 20 by omega] at h
 exact⟨h,by show 1<=1+p% 20;omega,by show 1+p% 20<=64;omega,by show(8:Int)<=8;decide,by show(8:Int)<=32;decide,by show(24:Int)<=24;decide,by show(24:Int)<=64;decide⟩
end Ma
end
section
namespace Ma
open Go Go.Kx KM Rw Wi Fm Li Src So Re Ds
structure Good (o:iV):Prop where
 tU:bU o.data
 d64:o.data.length<=64
 k:o.kind=1∨o.kind=3
 may:∀n:Int,1<=n->n<=1000->dK (dY 1 n o)=true
theorem TD {b y:Int} (d:0<=b/\b<=63):Good ⟨1,b,0,0,fD y⟩:=
 ⟨zp y,by rw[tQ];omega,.inl rfl,λn a e=>by
  show(true&&(bE n 1 2147483647&&bE b 0 63&&((fD y).length==64)&&true&&true&&true))=true
  rw[KM.bY.2 ⟨a,by omega⟩,KM.bY.2 d,tQ];rfl⟩
theorem TE {e:Int} (he:1<=e/\e<=1000):Good ⟨3,0,0,e,[]⟩:=
 ⟨λx b=>(by cases b),Nat.zero_le _,.inr rfl,λn a d=>by
  show(true&&(bE n 1 2147483647&&bE e 1 2147483647&&true&&true&&true&&true))=true
  rw[KM.bY.2 ⟨a,by omega⟩,KM.bY.2 ⟨he.1,by omega⟩];rfl⟩
structure TI (c:bC) (i:Nat) (x:lr):Prop where
 ok:bJ (63+26*i) x.S
 cf:x.S.c=c
 len:x.S.d.now.length=(all c).toNat
 num:uG x.S
 view:x.S.n.view=1
 seq:x.S.n.seq=i
 ep:x.S.n.aV<=i
 lT:lT x.S<=3*i
 V:x.V=⟨16,(i:Int)+1,λ_=>none⟩
 s1:x.s.view=1
 s2:x.s.size=16
 s3:x.s.aV=x.S.n.aV
 s4:x.s.seq=i
 s5:x.s.fA=i
 sd:0<=x.s.done/\x.s.done<=i
 sl:(x.s.l.length:Int)=i-x.s.done
 KH:∀o∈x.s.l,Good o
 up:x.up=[]
 dn:x.dn=[]
def kp (s:KM.Sc) (o:iV):KM.Sc:={s with l:=s.l++[o],seq:=s.seq+1,aV:=s.aV+(if o.kind=3 then 1 else 0)}
def nx (x:lr) (o:iV):lr:=⟨(x.S.op o).1,⟨x.V.size,x.V.next+1,λ_=>none⟩,rR (kp x.s o) (x.S.op o).1.jn,[],[]⟩
section
variable {c:bC} {i:Nat} {x:lr} {o:iV}
theorem JN (S:KM.Sc):∀(l:List iV) (n:Int),n+l.length<=S.fA+1->l9 S n l=[]
 |[],n,h=>rfl
 |o::l,n,h=>by
  rw[List.length_cons] at h
  rw[l9,if_pos (by omega)]
  exact JN S l (n+1) (by omega)
theorem TF (h:TI c i x):(kp x.s o).out=[cC (dY 1 ((i:Int)+1) o)]:=by
 have b:=h.s5;have d:=h.sl;have a:=h.s2
 unfold KM.Sc.out
 show l9 (kp x.s o) (x.s.done+1) (x.s.l++[o])=_
 rw[CW,JN _ _ _ (by show _<=x.s.fA+1;omega),List.nil_append,Ar]
 have e:x.s.done+1+(x.s.l.length:Int)=(i:Int)+1:=by omega
 rw[e,if_neg (by show¬(_<=x.s.fA∨x.s.fA+x.s.size<_);omega)]
 show[cC (dY x.s.view _ o)]=_
 rw[h.s1]
theorem QC (h:TI c i x) (hi:i<=30):pE x.s:=by
 have:=h.num.aV;have:=h.ep;have:=h.sd;have:=h.sl;have:=h.s1;have:=h.s2;have:=h.s3;have:=h.s4;have:=h.s5
 exact⟨by omega,by omega,by omega,by omega,by omega,by omega,by omega,by omega⟩
theorem QD (h:TI c i x) (hi:i< 30):pE (kp x.s o):=by
 have:=h.num.aV;have:=h.ep;have:=h.sd;have:=h.sl;have:=h.s1;have:=h.s2;have:=h.s3;have:=h.s4;have:=h.s5
 have a:((kp x.s o).l.length:Int)=x.s.l.length+1:=by show((x.s.l++[o]).length:Int)=_;simp
 refine⟨by show 1<=x.s.view/\x.s.view<=_;omega,by show 1<=x.s.size/\x.s.size<=_;omega,?_,by show 0<=x.s.done/\x.s.done<=x.s.fA;omega,by show x.s.fA<=x.s.seq+1;omega,by show x.s.seq+1<=_;omega,by rw[a];show _=x.s.seq+1-x.s.done;omega,by omega⟩
 show 0<=x.s.aV+(if o.kind=3 then 1 else 0)/\x.s.aV+(if o.kind=3 then 1 else 0)<=2 ^ 30
 split<;>omega
theorem JO (h:TI c i x) (hi:i< 30) (a:Good o):rQ x.s o:=by
 have:=h.sd;have:=h.s4
 have hk:=a.k
 exact⟨by rw[h.s1];exact a.may _ (by omega) (by omega),by omega,by omega,by omega,a.tU,a.d64⟩
theorem RJ (h:TI c i x) (hi:i< 30) (e:Good o):As (kp x.s o):=λj q a=>by
 have f:=h.sd;have g:=h.sl
 have a:(x.s.l++[o])[j]?=some q:=a
 have d:=(List.getElem?_eq_some_iff.1 a).1
 simp only[List.length_append,List.length_singleton] at d
 have b:Good q:=by
  rcases List.mem_append.1 (List.mem_of_getElem? a) with hm|hm
  ·exact h.KH q hm
  ·rw[List.mem_singleton.1 hm];exact e
 have hk:=b.k
 refine⟨?_,by omega,by omega⟩
 show dK (dY x.s.view (x.s.done+1+(j:Int)) q)=true
 rw[h.s1];exact b.may _ (by omega) (by omega)
theorem TI.TG (h:TI c i x) (hi:i< 30):uG x.S/\x.S.n.seq+1<=2 ^ 30/\x.S.n.aV+1<=2 ^ 30:=⟨h.num,by have:=h.seq;omega,by have:=h.ep;omega⟩
theorem JP (h:TI c i x) (hi:i< 30) (e:qX x.S o) (d:Good o):dK (x.S.op o).1.jn=true/\(x.S.op o).1.n.seq=(i:Int)+1/\(x.S.op o).1.n.view=1/\(0<=(x.S.op o).1.n.done/\(x.S.op o).1.n.done<=(i:Int)+1):=by
 obtain⟨p1,p2,p3,p4,p5,g,a,f,b,_⟩:=vT h.ok (by omega) h.num e
 rw[h.seq] at p5
 rw[h.view] at a
 rw[p5] at b
 have hk:=d.k;have:=h.num.aV;have:=h.ep
 refine⟨?_,p5,a,b⟩
 unfold KM.St.jn
 rw[p5,a,f]
 simp[dK,bE];omega
theorem TI.next (h:TI c i x) (hi:i< 30) (b:c.2.2=24) (g:qX x.S o) (f:Good o):TI c (i+1) (nx x o):=by
 obtain⟨p1,p2,p3,p4,p5,p,j,r,t,_⟩:=vT h.ok (by omega) h.num g
 have v:=TA h.ok (by omega) h.num g (by rw[h.cf];exact b) (by have:=h.lT;omega)
 rw[h.seq] at p5
 rw[h.view] at j
 rw[p5] at t
 have hk:=f.k;have he:=h.num.aV;have u:=h.ep;have E:=h.lT;have w:=h.s3;have y:=h.s4;have z:=h.s5;have A:=h.sd;have B:=h.sl
 have m:(if o.kind=3 then(1:Int) else 0)=o.kind/ 3:=by rcases hk with e|e<;>rw[e]<;>rfl
 have D:(x.S.op o).1.n.aV=x.S.n.aV+(if o.kind=3 then 1 else 0):=by rw[r,m]
 have C:0<=(if o.kind=3 then(1:Int) else 0)/\(if o.kind=3 then(1:Int) else 0)<=1:=by split<;>omega
 have a:max (max x.s.done (x.S.op o).1.n.done) (x.S.op o).1.n.seq=(i:Int)+1:=by rw[p5];omega
 refine⟨by rw[show 63+26*(i+1)=63+26*i+26 by omega];exact p1,p3.trans h.cf,p4.trans h.len,⟨p,?_,?_,?_,?_⟩,j,?_,?_,?_,?_,h.s1,h.s2,?_,?_,?_,?_,?_,?_,rfl,rfl⟩
 ·show 1<=(x.S.op o).1.n.view/\(x.S.op o).1.n.view<=_;omega
 ·show 0<=(x.S.op o).1.n.done/\(x.S.op o).1.n.done<=(x.S.op o).1.n.seq;omega
 ·show(x.S.op o).1.n.seq<=_;omega
 ·show 0<=(x.S.op o).1.n.aV/\(x.S.op o).1.n.aV<=_;omega
 ·show(x.S.op o).1.n.seq=_;rw[p5];push_cast;rfl
 ·show(x.S.op o).1.n.aV<=_;push_cast;omega
 ·show So.lT (x.S.op o).1<=_;push_cast;omega
 ·show(⟨x.V.size,x.V.next+1,λ_=>none⟩:WM)=_
  rw[h.V];simp
 ·show x.s.aV+(if o.kind=3 then 1 else 0)=(x.S.op o).1.n.aV;omega
 ·show x.s.seq+1=_;push_cast;omega
 ·show max (max x.s.done (x.S.op o).1.n.done) (x.S.op o).1.n.seq=_;rw[a];push_cast;rfl
 ·show 0<=max x.s.done (x.S.op o).1.n.done/\max x.s.done (x.S.op o).1.n.done<=_;push_cast;omega
 ·show(((x.s.l++[o]).drop (max x.s.done (x.S.op o).1.n.done-x.s.done).toNat).length:Int)=_-max x.s.done (x.S.op o).1.n.done
  rw[List.length_drop,List.length_append,List.length_singleton]
  push_cast;omega
 ·intro q d
  have d:q∈x.s.l++[o]:=List.mem_of_mem_drop d
  rcases List.mem_append.1 d with hm|hm
  ·exact h.KH q hm
  ·rw[List.mem_singleton.1 hm];exact f
theorem TI.HH (h:TI c i x) (hi:i< 30) (a:c.2.2=24) {b y:Int} (d:0<=b/\b<c.1):qX x.S ⟨1,b,0,0,fD y⟩:=So.HH h.ok (by omega) (by rw[h.cf];exact d) (by rw[h.cf];exact a) (by have:=h.lT;omega)
theorem TI.HI (h:TI c i x) (hi:i< 30) (a:c.2.2=24):qX x.S ⟨3,0,0,x.S.n.aV+1,[]⟩:=So.HI h.ok (by omega) (by rw[h.cf];exact a) (by have:=h.lT;omega)
end
theorem TI.XL {c:bC} {S:KM.St} (ok:bJ 63 S) (h:S.c=c) (j:S.d.now.length=(all c).toNat) (n:Um S):TI c 0 (x0 S 16):=by
 obtain⟨a1,b,e,a,f,g⟩:=n
 have e2:(x0 S 16).S.n.view=1:=b
 have e3:(x0 S 16).S.n.aV=0:=e
 have l:(x0 S 16).S.n.seq=0:=a
 have e5:(x0 S 16).S.n.done=0:=f
 have m:So.lT (x0 S 16).S=0:=g
 refine⟨ok,h,j,⟨a1,by omega,by omega,by omega,by omega⟩,b,a,by omega,by omega,?_,rfl,rfl,e.symm,rfl,rfl,⟨Int.le_refl 0,Int.le_refl 0⟩,rfl,λo k=>(by cases k),rfl,rfl⟩
 show(⟨16,S.n.seq+1,λ_=>none⟩:WM)=_
 rw[a];rfl
end Ma
end
section
namespace Ma
open Go Go.Kx KM Rw Wi Fm Li Src So Re Ds
section
variable {c:bC} {i:Nat} {x:lr} {o:iV}
def st (x:lr) (o:iV) (i:Nat):Nat->lr
 | 0=>x
 | 1=>{x with s:=kp x.s o}
 | 2=>{x with s:=kp x.s o,up:=[cC (dY 1 ((i:Int)+1) o)]}
 | 3=>⟨(x.S.op o).1,⟨x.V.size,x.V.next+1,λ_=>none⟩,kp x.s o,[],[cC (x.S.op o).1.jn]⟩
 |_+4=>nx x o
theorem Vq (h:TI c i x) (hi:i< 30) {b y:Int} (a:Good ⟨1,b,0,0,fD y⟩):sG (1,b,0,y,Sl.nil) x (st x ⟨1,b,0,0,fD y⟩ i 1) (0,0):=by
 have:=jq (Av (x:=x) (b:=b) (y:=y) (QC h (by omega)) (JO h hi a))
 have e:({x.s with l:=x.s.l++[⟨1,b,0,0,fD y⟩],seq:=x.s.seq+1}:KM.Sc)=kp x.s ⟨1,b,0,0,fD y⟩:=by
  unfold kp
  rw[if_neg (show¬(1:Int)=3 by decide),Int.add_zero]
 rw[e] at this;exact this
theorem Vr (h:TI c i x) (hi:i< 30) {b a d:Int} {q:Sl} (f:Good ⟨3,0,0,x.S.n.aV+1,[]⟩):sG (3,b,a,d,q) x (st x ⟨3,0,0,x.S.n.aV+1,[]⟩ i 1) (0,0):=by
 rw[←h.s3] at f ⊢
 have:=jq (G9 (x:=x) (b:=b) (c:=a) (d:=d) (q:=q) (QC h (by omega)) (JO h hi f))
 have e:({x.s with l:=x.s.l++[⟨3,0,0,x.s.aV+1,[]⟩],seq:=x.s.seq+1,aV:=x.s.aV+1}:KM.Sc)=kp x.s ⟨3,0,0,x.s.aV+1,[]⟩:=by
  unfold kp
  rw[if_pos (show(3:Int)=3 by decide)]
 rw[e] at this;exact this
theorem JQ (a:Good o) (v n:Int):(cC (dY v n o)).length<=89:=by
 have:=a.d64
 rw[cC,gB,pv];show 21+o.data.length+4<=_;omega
theorem RK (h:TI c i x) (hi:i< 30) (e:Good o):sG (4,0,0,0,Sl.nil) (st x o i 1) (st x o i 2) (0,1):=by
 have eo:(st x o i 1).s.out=[cC (dY 1 ((i:Int)+1) o)]:=TF h
 have a:(st x o i 1).up=[]:=h.up
 have:=jq (HA (x:=st x o i 1) (b:=0) (c:=0) (d:=0) (q:=Sl.nil) (QD h hi) (RJ h hi e) (by rw[eo,a];exact(by decide:0+1<=64)) (λf hf=>by
  rw[eo] at hf
  rw[List.mem_singleton.1 hf]
  exact Nat.le_trans (JQ e _ _) (by decide)))
 rw[eo,a] at this
 exact this
theorem RL (h:TI c i x) (hi:i< 30) (g:qX x.S o) (a:Good o):sG (6,0,0,0,Sl.nil) (st x o i 2) (st x o i 3) (0,(i:Int)+1):=by
 have C:xJ (63+26*i) (st x o i 2) (dY 1 ((i:Int)+1) o) (cC (dY 1 ((i:Int)+1) o)):=by
  refine BR (x:=st x o i 2) h.ok (by omega) (h.TG hi) g (a.may _ (by omega) (by omega)) a.tU a.d64 h.view.symm ?_ ?_ ?_ (by omega)
  ·show _=x.V.next;rw[h.V]
  ·show∀j,x.V.f j=none;rw[h.V];exactλ_=>rfl
  ·show 0<x.V.size;rw[h.V];exact(by decide:0< 16)
 have b:(st x o i 2).dn=[]:=h.dn
 have:=jq (zr (c:=0) (d:=0) (q:=Sl.nil) (fs:=[]) C rfl (by rw[b];decide) (by decide))
 rw[b] at this
 have e:((st x o i 2).S.op (gb (dY 1 ((i:Int)+1) o))).1.n.seq=(i:Int)+1:=(JP h hi g a).2.1
 rw[e] at this
 exact this
theorem TH (h:TI c i x) (hi:i< 30) (m:qX x.S o) (l:Good o):∃n,sG (19,0,0,0,Sl.nil) (st x o i 3) (st x o i 4) (0,n):=by
 obtain⟨a1,g,j,k⟩:=JP h hi m l
 have e:(st x o i 3).s.seq=(i:Int)+1:=by show x.s.seq+1=_;rw[h.s4]
 have p:(st x o i 3).s.view=1:=h.s1
 have hlen:(cC (x.S.op o).1.jn).length<=65536:=by rw[cC,gB,pv];show 21+0+4<=_;omega
 have a:bU (x.S.op o).1.jn.data:=λy r=>(by cases r)
 exact⟨_,jq (RE (x:=st x o i 3) (c:=0) (d:=0) (q:=Sl.nil) (f:=(x.S.op o).1.jn) (b:=cC (x.S.op o).1.jn) (fs:=[]) (QD h hi) rfl (HE a1 a) (wM _) hlen (zn (parts a1) a) rfl (by rw[p];exact j) (by rw[e];exact Int.le_of_eq g) (by rw[e];exact k.2) (by decide))⟩
theorem Vs {e:E5} {A:DA} {M:tZ} {w:uI} {B H:PH} {R:List Ob} {p:Sl} {Q:Sl->PH->Prop} (h:TI c i x) (hi:i< 30) (m:qX x.S o) (l:Good o) (he:sG e x (st x o i 1) (0,0)) (C:aA H (aC B::du A M w x R)) (t:A.a=M.F.X.da) (u:pK B M w x) (z:dT e5 5 B p [e,(4,0,0,0,Sl.nil),(6,0,0,0,Sl.nil),(19,0,0,0,Sl.nil)])
 (v:∀k g w' q f H' ys,g.ma=M.ma->k.a=g.F.X.da->Ext B f->pK f g w' (nx x o)->ys.length=4->(∀y,ys[2]?=some y->y.1=0)->dT ua 2 f q ys->aA H' (aC f::du k g w' (nx x o) R)->Q q H'):iO (some M.ma) p H Q:=by
 obtain⟨n,hk⟩:=TH h hi m l
 refine HB (xs:=st x o i) (ys:=[(0,0),(0,1),(0,(i:Int)+1),(0,n)]) C t u z rfl (show 4<=1000 by decide) (λj D y d b=>?_) λk g w' q f H' e1 e2 e3 r e5 s=>v k g w' q f H' _ e1 e2 e3 r rfl (λy b=>by cases b;rfl) e5 s
 match j,d,b with
 | 0,d,b=>cases d;cases b;exact he
 | 1,d,b=>cases d;cases b;exact RK h hi l
 | 2,d,b=>cases d;cases b;exact RL h hi m l
 | 3,d,b=>cases d;cases b;exact hk
 |j+4,d,b=>simp at d
end
end Ma
end
section
namespace Ma
open Go Go.Kx KM Rw Wi Fm Li Src So Re Ds
section
variable {c:bC} {i:Nat} {x:lr} {o:iV} {e:E5} {H B:PH} {L R:List Ob} {A A2:DA} {M:tZ} {w:uI} {F2:Fr} {W2:Wt} {S:KM.St} {V:WM}
def TJ (c:bC) (x:lr) (e:E5) (o:iV):Prop:=(∃b y,(0<=b/\b<c.1)/\e=(1,b,0,y,Sl.nil)/\o=⟨1,b,0,0,fD y⟩)∨e=(3,0,0,0,Sl.nil)/\o=⟨3,0,0,x.S.n.aV+1,[]⟩
theorem XM (h:TI c i x) (hi:i< 30) (a:c.2.2=24) (d:c.1<=64) (ch:TJ c x e o):Good o/\qX x.S o/\sG e x (st x o i 1) (0,0):=by
 have he:=h.num.aV;have f:=h.ep
 rcases ch with⟨b,y,d,rfl,rfl⟩|⟨rfl,rfl⟩
 ·have g:Good ⟨1,b,0,0,fD y⟩:=TD (by omega)
  exact⟨g,h.HH hi a d,Vq h hi g⟩
 ·have g:Good ⟨3,0,0,x.S.n.aV+1,[]⟩:=TE (by omega)
  exact⟨g,h.HI hi a,Vr h hi g⟩
theorem TK {Q:M5->Bool->PH->Prop} (h:TI c i x) (hi:i< 30) (ch:TJ c x e o) (g:aA H (aC B::L)) (f:∀m a H',Ext B a->vf a m o->aA H' (aC a::L)->Q m true H'):lx e x.S.n.aV H Q:=by
 have he:=h.num.aV;have l:=h.ep
 rcases ch with⟨b,y,p,rfl,rfl⟩|⟨rfl,rfl⟩
 ·exact O4 g λr a H' k j d=>f _ a H' k ⟨rfl,rfl,rfl,rfl,j⟩ d
 ·exact O5 g (by omega) λH' d=>f _ B H' (.refl _) ⟨rfl,rfl,rfl,rfl,.nil⟩ d
abbrev QE (A:Ds.DA) (M:tZ) (w:uI) (x:lr):List Ob:=m1 A M w x++m2 M w x++m3 M w++m4 M w
theorem Kn (h:aA H (aC B::du A M w x (uH A2 F2 W2 S V R))):aA H (aC B::uH A2 F2 W2 S V (QE A M w x++R)):=by
 rw[zq] at h
 exact aA.pull (X:=QE A M w x) (Y:=nY A2 F2.X W2 S++[gG F2.va F2.vs V]) h
theorem Ko (h:aA H (aC B::uH A2 F2 W2 S V (QE A M w x++R))):aA H (aC B::du A M w x (uH A2 F2 W2 S V R)):=by
 rw[zq]
 exact aA.pull (X:=nY A2 F2.X W2 S++[gG F2.va F2.vs V]) (Y:=QE A M w x) h
theorem AZ {a:Addr} {cs:List Value} {K:Prop} (h:aA H (aC B::aG a cs::L)) (f:∀b,Ext B b->aZ b a cs->aA H (aC b::L)->K):K:=by
 obtain⟨b,j,g,d⟩:=h.fz
 exact f b j g d
theorem Ay {σ:Type} {F:σ->PH->Prop} {G:(σ->PH->Prop)->Prop} (P:σ->PH->Prop) (a:∀k:σ->PH->Prop,(∀s H,P s H->k s H)->G k) (b:∀s H,P s H->F s H):aM F G:=aF (a F b)
end
end Ma
end
section
namespace Ma
open Go Go.Kx KM Rw Wi Fm Li Src So Re Ds
abbrev e3 (e:Int×Int×Int):List Value:=[i64 e.1,i64 e.2.1,i64 e.2.2]
theorem yA {p0:Int} {p1 p2:Sl} {es:List (Int×Int×Int)} {m:List Int} {U:PH} {Q:Bool->PH->Prop} (h1:dT e3 3 U p1 es) (h2:fv U p2 m) (hQ:∀H',Ext U H'->Q true H'):rH p0 p1 p2 U Q:=by
 have hs:aA U (aC U::[]):=.start U
 refine Ay (λs H=>aA H (aC U::[])/\(s=false->es.length<=30/\m.length<=100)) (λk hk=>?_) λs H hP=>?_
 ·rw[h1.bF,h2.bF]
  refine aL (λc=>hk _ _ ⟨hs,λh=>by cases h⟩) λc=>hk _ _ ⟨hs,λh=>?_⟩
  simp at c h;omega
 obtain⟨hs,hP⟩:=hP
 refine aL (λc=>De hs hQ) λc=>?_
 obtain⟨cJ,cK⟩:=hP c
 refine Db hs λH1 ci=>?_
 obtain⟨S,hS,hI⟩:=TC (p:=p0)
 obtain⟨bp,hc⟩:=UL p0
 have b3:1<=1+p0% 20/\1+p0% 20<=20:=by
  have:=Int.emod_nonneg p0 (show(20:Int)≠0 by decide)
  have:=Int.emod_lt_of_pos p0 (show(0:Int)< 20 by decide)
  omega
 have a1:((1+p0% 20,8,24):bC).2.2=24:=rfl
 have b5:((1+p0% 20,8,24):bC).1=1+p0% 20:=rfl
 generalize cO:((1+p0% 20,8,24):bC)=u at*
 refine az ci λcF H2 cj=>bf (vs:=Ge.tw u) cj rfl rfl λH3 aP=>AZ aP λB3 aQ ai aP=>?_
 refine fF (enc:=Ge.tw) (x:=u) (ai.ext aP.base) rfl ?_
 refine Ez (c:=u) (size:=16) (S:=S) aP hc (by decide) (by decide) bp hS λA M w B4 H4 K eA hB ok hl bq=>?_
 refine fF (enc:=Ge.tw) (x:=u) ((ai.ext K).ext bq.base) rfl (tu bq hc λH5 ck=>?_)
 have en:all u=(((all u).toNat:Nat):Int):=by have:=jo.pB hc;have:=Ge.m8 hc;omega
 have cL:=Sc.sZ hc
 have cq:=jo.pB hc
 have cN:=Ge.m8 hc
 obtain⟨hm,bH,S',bm,cS,cr,cd,aY⟩:=Ey bp
 rw[hS] at bm
 have e:=Option.some.inj bm
 subst e
 rw[en]
 refine NC ck (by omega) (by omega) λA5 H6 br=>?_
 refine aF (aE rfl (aF (aE rfl (aF (aE rfl ?_)))))
 refine fF (enc:=Ge.tw) (x:=u) ((ai.ext K).ext br.base) rfl ?_
 refine jo.Bj (c:=u) (k:=0) (D:=fresh (all u).toNat) (id:=1) br (HC (by omega)) (by decide) hc hm (by simp[fresh];omega) λA6 B6 H7 bV am co l6 cl=>?_
 refine aE rfl ?_
 rw[←bV]
 refine zo (size:=16) (k:=60) (D:=oS u) cl co (by decide) hS bH (by decide) (by decide) (by omega) (by omega) cd λA7 Z W7 B7 H8 bW aT an bl b1 cU l7 bs=>?_
 refine aF (aE rfl ?_)
 refine aE rfl ?_
 refine ax es.length (λi st Hk=>st.2=(i:Int)/\∃A' M' w' x A2 W2 G,TI u i x/\st.1=x.S.n.aV/\M'.ma=M.ma/\A'.a=M'.F.X.da/\A2.a=Z.X.da/\Ext B7 G/\pK G M' w' x/\iJ G W2 x.S/\aA Hk (aC G::du A' M' w' x (uH A2 Z W2 x.S x.V [])))
  ⟨rfl,A,M,w,x0 S 16,A7,W7,B7,TI.XL ok aY hl hI,hI.aV.symm,rfl,eA,aT,.refl _,hB.ext (am.trans an),b1,?_⟩ ?_
 ·rw[zq] at bs
  exact Ko (R:=[]) bs
 rintro i ⟨ep,_⟩ H9 again hi ⟨ei,A',M',w',x,A2,W2,G,E,ee,eM,bi,bj,xB,bX,b0,I⟩ b2
 simp only at ei ee;subst ei
 refine aL (λc1=>?_) (λc1=>?_)
 ·have ca:i<es.length:=by rw[h1.bF] at c1;simpa using c1
  have al:Ext U G:=aQ.trans (K.trans (am.trans (an.trans xB)))
  have au:=ai.ext (K.trans (am.trans (an.trans xB)))
  have hp:=h1.ext al
  have N:i< 30:=by omega
  have cP:1<=u.1/\u.1<=20:=by rw[b5];exact b3
  refine Ay (λs H=>∃b y,(0<=b/\b<u.1)/\aA H (aC G::aG s (e5 (1,b,0,y,Sl.nil))::du A' M' w' x (uH A2 Z W2 x.S x.V []))) (λk hk=>?_) λcp aR bB=>?_
  ·refine ob hp (by omega) (by omega) λa v hv ah=>ic (by decide) (by decide) ⟨v.2.1,nm (I.base.cells ah) (j:=1) rfl,?_⟩
   refine aa (x:=u.1) (au.ext I.base) rfl ?_
   refine ob hp (by omega) (by omega) λa2 v2 cT ao=>ic (by decide) (by decide) ⟨v2.2.2,nm (I.base.cells ao) (j:=2) rfl,?_⟩
   refine px (by omega) (by omega) ⟨nm (I.base.cells ao) (j:=2) rfl,?_⟩
   refine az I λa4 aR g=>⟨nm (g.base.cells ao) (j:=2) rfl,?_⟩
   refine bf (vs:=e5 (1,v.2.1%u.1,0,v2.2.2,Sl.nil)) g rfl rfl λaS t=>hk _ _ ⟨_,_,⟨Int.emod_nonneg _ (by omega),Int.emod_lt_of_pos _ (by omega)⟩,t⟩
  obtain⟨b,y,b4,g⟩:=bB
  refine ob hp (by omega) (by omega) λa v hv ah=>ic (by decide) (by decide) ⟨v.1,nm (g.base.cells ah) (j:=0) rfl,?_⟩
  refine px (by decide) (by decide) ?_
  refine Ay (λ_ H=>∃L e o,Ext G L/\TJ u x e o/\aZ L cp (e5 e)/\aA H (aC L::du A' M' w' x (uH A2 Z W2 x.S x.V []))) (λk hk=>?_) λ_ cy bD=>?_
  ·refine aL (λ_=>bf (vs:=e5 (3,0,0,0,Sl.nil)) g rfl rfl λaS t=>AZ t λL J rb t=>hk _ _ ⟨L,_,_,J,.inr ⟨rfl,rfl⟩,rb,t⟩) λ_=>AZ g λL J rb t=>hk _ _ ⟨L,_,_,J,.inl ⟨b,y,b4,rfl,rfl⟩,rb,t⟩
  obtain⟨L,e,o,J,ch,rb,O⟩:=bD
  obtain⟨W,ho,hd⟩:=XM E N a1 (by omega) ch
  refine fF (enc:=e5) (x:=e) (rb.ext O.base) rfl ?_
  rw[ee]
  refine TK E N ch O λm5 cu bN a7 bn ac=>?_
  refine az ac λcG bO ad=>bf (vs:=c5 m5) ad rfl rfl λbP B=>AZ B λcv aw bu B=>?_
  refine aa (x:=m5.1) (bu.ext B.base) rfl ?_
  refine fF (enc:=e5) (x:=e) ((rb.ext (a7.trans aw)).ext B.base) rfl ?_
  refine jo.vR (enc:=e5) (sz:=5) (l:=[e,(4,0,0,0,Sl.nil),(6,0,0,0,Sl.nil),(19,0,0,0,Sl.nil)]) B rfl rfl λcW bQ C=>?_
  obtain⟨bM,ay,bL,C⟩:=C.fz
  have b7:=bL.jv QB
  have a6:Ext G bM:=J.trans (a7.trans (aw.trans ay))
  rw[←eM]
  refine Vs E N ho W hd C bi (bX.ext a6) b7 λaJ Y aj q cw cz ys aU bw aB bz bt cm a3 ap=>?_
  have cn:=(bn.ext (aw.trans (ay.trans aB)))
  refine fF (enc:=c5) (x:=m5) ((bu.ext (ay.trans aB)).ext ap.base) rfl ?_
  rw[bo (x:=(i:Int)+1) (by omega) (by omega)]
  have ab:=W.may ((i:Int)+1) (by omega) (by omega)
  have b8:=W.k
  refine Fm.EH ap (cn.ext ap.base) W.tU (Nat.le_trans W.d64 (by decide)) (λ_ _ _ bv cx cA aD a9 bI=>?_) (λcb=>absurd ⟨ab,by omega,by omega⟩ cb)
  refine az bI λcH cB bJ=>bf (vs:=f8 (dD (dY 1 ((i:Int)+1) o) bv)) bJ rfl rfl λcD P=>bk (x:=dD (dY 1 ((i:Int)+1) o) bv) P rfl rfl ?_
  have P:=P.ak
  refine Fm.dt (f:=dY 1 ((i:Int)+1) o) (a9.ext P.base) W.tU ab λz cE bK=>?_
  refine gX (P.made bK) λbc aH hz a5=>?_
  have ae:Ext G bc:=a6.trans (aB.trans (aD.trans aH))
  have bZ:S.c=x.S.c:=aY.trans E.cf.symm
  have aX:rP bc Z x.S.c:=by rw[←bZ];exact bl.ext (xB.trans ae)
  have hn:=E.TG N
  have cg:vY (cC (dY 1 ((i:Int)+1) o))=some (dY 1 ((i:Int)+1) o):=HE ab W.tU
  refine DV aX (Kn a5).base ?_
  refine Re.jE (k:=63+26*i) (Kn a5) bj aX (b0.ext ae) E.ok (by omega) hn.1 hn.2.1 hn.2.2 hz cg (wM _) (Nat.le_trans (JQ W _ _) (by decide)) (zn (parts ab) W.tU) E.view.symm (by rw[E.V];rfl) (by rw[E.V];exactλ_=>rfl) (by rw[E.V];exact(by decide:0< 16)) (by rw[E.V];show(i:Int)+1+1<_;omega) ho λaK aM cV bd bR bx af bE ct T=>?_
  have T:aA bR (aC bd::du aJ Y aj (nx x o) (uH aK Z aM (nx x o).S (nx x o).V [])):=Ko T
  have aO:=E.next N a1 ho W
  have aW:pK bd Y aj (nx x o):=bz.ext (aD.trans (aH.trans af))
  refine aF (aE rfl (aF (aE rfl ?_)))
  rw[a3.bF,bt]
  refine aF (aE rfl (ob ((a3.ext (aD.trans (aH.trans af))).ext T.base) (by decide) (by rw[bt];decide) λa v hv ah=>Km ah ?_))
  rw[cm v hv]
  refine aF (aE rfl ?_)
  have a8:M'.ma=Y.ma:=aU.symm
  rw[a8]
  refine aF (aE rfl (wN T ?_))
  refine pC (uy T) aW.fr aO.ok λbe bS ag aq=>?_
  have aq:aA bS (aC be::du aJ Y aj (nx x o) (uH aK Z aM (nx x o).S (nx x o).V [])):=aq
  have bY:S.c=(nx x o).S.c:=aY.trans aO.cf.symm
  have bA:rP be Z (nx x o).S.c:=by rw[←bY];exact bl.ext (xB.trans (ae.trans (af.trans ag)))
  refine pC (Kn aq) bA aO.ok λbg bT aI ar=>?_
  have ar:aA bT (aC bg::du aJ Y aj (nx x o) (uH aK Z aM (nx x o).S (nx x o).V [])):=Ko ar
  simp only[beq_self_eq_true,qA,Bool.and_self,Bool.not_true]
  refine aE rfl ?_
  have b6:=(vT E.ok (by omega) E.num ho).2.2.2.2.2.2.2.1
  have cR:=E.num.aV;have cs:=E.ep
  have ew:IntKind.i64.wrap (x.S.n.aV+IntKind.i64.wrap (m5.1.tdiv 3))=(nx x o).S.n.aV:=by
   have em:m5.1=o.kind:=bn.1
   have ed:o.kind.tdiv 3=o.kind/ 3/\0<=o.kind/ 3/\o.kind/ 3<=1:=by rcases b8 with e|e<;>rw[e]<;>decide
   rw[em,ed.1,bo (x:=o.kind/ 3) (by omega) (by omega),bo (x:=x.S.n.aV+o.kind/ 3) (by omega) (by omega)]
   exact b6.symm
  refine b2 ca _ _ ⟨by push_cast;rfl,aJ,Y,aj,nx x o,aK,aM,bg,aO,ew,aU.trans eM,bw,bx,xB.trans (ae.trans (af.trans (ag.trans aI))),aW.ext (ag.trans aI),bE.ext (ag.trans aI),ar⟩
 ·have cQ:i=es.length:=by rw[h1.bF] at c1;simp at c1;omega
  have al:Ext U G:=aQ.trans (K.trans (am.trans (an.trans xB)))
  have au:=ai.ext (K.trans (am.trans (an.trans xB)))
  have hlen:=E.len
  have a0:=E.ok.dk
  rw[←eM]
  refine Da I ?_
  rw[←bi]
  have d1:dG H9 A' x.S.d:=I.get 5 rfl
  refine Dw d1 (cM.small a0 (by omega)) (by omega) (h2.ext (al.trans I.base)) λba aR g=>?_
  have g:=I.made g
  have d2:dG aR A2 x.S.d:=g.get 25 rfl
  rw[show A6.a=A2.a from bW.symm.trans (aT.trans bj.symm)]
  refine Dw d2 (cM.small a0 (by omega)) (by omega) (h2.ext (al.trans g.base)) λbb aS t=>?_
  have t:=g.made t
  refine aF (aE rfl (aE rfl ?_))
  obtain⟨aN,bh⟩:=a0.ku m
  have O:aA aS (aC G::av bb (x.S.d.ku m)::av ba (x.S.d.ku m)::[]):=t.sub (.cons_cons _ (.cons_cons _ (.cons_cons _ (List.nil_sublist _))))
  rw[hlen] at bh
  generalize x.S.d.ku m=D at aN bh O
  refine ax (all u).toNat (λj st Hk=>st=(j:Int)/\∃L,Ext G L/\aA Hk (aC L::av bb D::av ba D::[])) ⟨rfl,G,.refl _,O⟩ ?_
  rintro j _ bN bU hj ⟨rfl,L,J,ac⟩ bG
  refine fF (enc:=Ge.tw) (x:=u) ((au.ext J).ext ac.base) rfl (tu ac hc λbO ad=>?_)
  refine aL (λc3=>?_) (λc3=>De ad λH' x'=>hQ H' ((al.trans J).trans x'))
  have b9:j<(all u).toNat:=by have cI:(j:Int)<all u:=of_decide_eq_true c3;omega
  refine w9 (i:=1) ad rfl aN (by decide) ⟨by omega,by omega⟩ λr bP B=>gX B λB3 aQ hr B=>?_
  refine w9 (i:=0) B rfl aN (by decide) ⟨by omega,by omega⟩ λr2 bQ C=>gX C λB4 K ce C=>?_
  refine aF (aE rfl ?_)
  refine Bo ((hr.ext K).ext C.base) (ce.ext C.base) (by rw[o0 aN ⟨by omega,by omega⟩];decide) ?_
  rw[beq_self_eq_true]
  refine aE rfl ?_
  rw[bo (x:=(j:Int)+1) (by omega) (by omega)]
  exact bG b9 _ _ ⟨by push_cast;rfl,B4,J.trans (aQ.trans K),C⟩
end Ma
end
end Go.Proofs.YtbijlklgbfminaaGreat
