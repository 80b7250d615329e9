import Derived.Test.YtbijlklgbfminaaGreatA28
set_option linter.unusedVariables false
set_option linter.unusedSimpArgs false
namespace Go.Proofs.YtbijlklgbfminaaGreat
section
namespace So
open Go Go.Kx KM Rw Ge Sc Rg Mo Ds Rc
section
variable {H B:PH} {L R:List Ob} {k n:Nat} {A:Ds.DA} {X:Ad} {W:Wt} {S:KM.St}
theorem r9 {items:List iY} {blocks:List Bs} {jM kD:Sl} {Q:Int->PH->Prop} (h:aA H (aC B::bx A X W S R)) (hA:A.a=X.da) (hX:mq B X S.c) (ok:lq k S) (hk:k< 2 ^ 28)
 (hr:∀H' q R',Ext B q->aA H' (aC q::bx A X W S R')->oQ H' (S.w.p.2.2.2.2,S.w.p.2.2.1,S.w.p.2.2.2.1,jM,kD) (uY S items blocks)) (hm:dy (uY S items blocks)=true) (hb:∀b∈blocks,bU b) (ar:(kD.len:Int)=blocks.length) (hp:1<=S.w.p.2.1) (aQ:S.w.p.2.1+1+blocks.length<=S.c.2.2)
 (E:∀m q H',m.a=X.da->Ext B q->aA H' (aC q::bx m X W (S.lG items blocks) R)->Q 0 H'):j1 (some X.wa) jM kD H Q:=by
 obtain⟨aN,aq,ag⟩:=JC hm
 have hs:=Sc.mY ok.c ok.p1
 have hl:=ok.len
 have aP:=ok.dk.now
 have aJ:=ok.dQ
 have aM:=ok.c.2.2.2.2
 have aI:blocks.length<=6:=aq
 refine fM h λa1 B1 H1 G r1 h1=>az h1 λI H2 C=>?_
 have C:aA H2 (aC B1::bx A X W S (aG I [i64 0]::R)):=C.uM
 have o:∀{q H'},Ext B1 q->Ext q H'->aZ H' a1 [.pointer (some X.wa)]:=λx y=>(r1.ext x).ext y
 have q2:=o (.refl _) C.base
 refine au (x:=some X.wa) q2 (aD (cr (x:=S.w.p.2.2.2.2) C 8 rfl rfl (au (x:=some X.wa) q2 (aD (cr (x:=S.w.p.2.2.1) C 8 rfl rfl (au (x:=some X.wa) q2 (aD (cr (x:=S.w.p.2.2.2.1) C 8 rfl rfl ?_))))))))
 refine Rc.dt (hr H2 B1 _ G C) hm λaf H3 ao=>gX (C.made ao) λB3 D hy J=>aE rfl (aF ?_)
 have q3:=o D J.base
 refine au (x:=some X.wa) q3 (aD (aY (x:=X.g) J 8 rfl rfl (au (x:=some X.wa) q3 (aD (cr (x:=S.w.p.1) J 8 rfl rfl (au (x:=some X.wa) q3 (aD (cr (x:=S.w.p.2.1) J 8 rfl rfl ?_))))))))
 refine Sc.xF ((hX.g.ext (G.trans D)).ext J.base) ok.c ok.p1 λH4 x4=>?_
 have h4:=J.ext x4
 refine iP h4 8 rfl rfl (gd (o D h4.base) (az h4 λr H5 M=>?_))
 have M:aA H5 (aC B3::bx A X W S (aG r [i64 0]::aG I [i64 0]::R)):=M.uM
 refine iP M 8 rfl rfl (gd (o D M.base) (hC M 12 rfl rfl λH6 U=>?_))
 have eb:behind S.w.p.2.1 0=S.w.p.2.1+1:=by unfold behind;omega
 rw[bo (x:=bW S.c S.w.p.1+S.w.p.2.1) (by omega) (by omega)] at U
 have U:aA H6 (aC B3::bx A X W S (aG r [i64 (bW S.c S.w.p.1+S.w.p.2.1)]::aG I [i64 0]::R)):=U
 refine Rc.Dy (p:=af) U λc0 c1 z H7 O ae aH h7 x7=>?_
 have s:=D.trans O
 have av:=CI hm
 have ac:=CH hm hb
 have ak:=DR hm ag
 have aw:S.lG items blocks={S with d:=S.d.kQ (bW S.c S.w.p.1+S.w.p.2.1) (oz (uY S items blocks)),t:={S.t with l:=gr S.t.l S.w.p.1 S.w.p.2.2.1},w:={S.w with p:=(S.w.p.1,behind S.w.p.2.1 blocks.length,S.w.p.2.2.1+1,gU (uY S items blocks),S.w.p.2.2.2.2)}}:=rfl
 rw[aw,←ak] at E
 have F:(wv (uY S items blocks)).length=64*(1+blocks.length):=av
 have E:∀m q H',m.a=X.da->Ext B q->aA H' (aC q::bx m X W {S with d:=S.d.kQ (bW S.c S.w.p.1+S.w.p.2.1) (chunks (wv (uY S items blocks)) (1+blocks.length)),t:={S.t with l:=gr S.t.l S.w.p.1 S.w.p.2.2.1},w:={S.w with p:=(S.w.p.1,behind S.w.p.2.1 blocks.length,S.w.p.2.2.1+1,gU (uY S items blocks),S.w.p.2.2.2.2)}} R)->Q 0 H':=E
 generalize wv (uY S items blocks)=bs at hy ac E F h7 ae
 generalize aK:gU (uY S items blocks)=sm at E ⊢
 generalize ap:bW S.c S.w.p.1+S.w.p.2.1=j at E h7 ⊢
 have N:0<=j/\j+((1+blocks.length:Nat):Int)<=S.d.now.length:=by subst ap;omega
 refine jX c0 c1 _ _ _ _ (Rc.za (x:=af) (b:=bs) (1+blocks.length)
  (λi _ P=>∃m,m.a=X.da/\aA P (aC z::bx m X W {S with d:=S.d.kQ j (chunks bs i)} (aG r [i64 (j+(i:Int))]::aG I [i64 0]::R)))
  F (by omega) ?_ ⟨A,hA,by simpa[chunks,Dk.kQ] using h7⟩ ?_ ?_)
 ·rintro i _ P ⟨m,_,f⟩
  exact⟨Rc.aZ.one (ae.ext f.base),Rc.aZ.one (aH.ext f.base),(hy.ext O).ext f.base⟩
 ·rintro i _ P K y aO ⟨m,T,f⟩ ay V _
  obtain⟨aB,ah⟩:=uw (i:=i) ok.dk F ac N.1 N.2 (by omega)
  have ax:Bytes z y ((bs.drop (64*i)).take 64):=ay z (hy.ext O)
  refine⟨y,rfl,au (x:=some X.wa) (o s f.base) (aD (aY (x:=some X.da) f 8 rfl rfl (dO (x:=j+(i:Int)) f 12 rfl ?_)))⟩
  rw[←T]
  refine wQ (i:=4) f rfl aB (by omega) (by rw[ah];omega) ax (by simp;omega) λA2 H8 al h8=>aE rfl ?_
  refine dO (x:=j+(i:Int)) h8 12 rfl (hC h8 12 rfl rfl λH9 u=>V () H9 ⟨A2,al.trans T,?_⟩)
  have e:IntKind.wrap .i64 (j+(i:Int)+1)=j+((i+1:Nat):Int):=by rw[bo (by omega) (by omega)];push_cast;omega
  rw[e] at u
  rw[Em,AY,xy]
  exact u
 ·rintro _ P ⟨m,T,f⟩
  have q8:=o s f.base
  refine aE rfl (au (x:=some X.wa) q8 (aD (aY (x:=some X.ta) f 8 rfl rfl (au (x:=some X.wa) q8 (aD (cr (x:=S.w.p.1) f 8 rfl rfl (au (x:=some X.wa) q8 (aD (cr (x:=S.w.p.2.2.1) f 8 rfl rfl ?_)))))))))
  refine Us.DD f ((hX.ta.ext (G.trans s)).ext f.base) 6 rfl λH9 u=>?_
  have u:aA H9 (aC z::bx m X W {S with d:=S.d.kQ j (chunks bs (1+blocks.length)),t:={S.t with l:=gr S.t.l S.w.p.1 S.w.p.2.2.1}} (aG r [i64 (j+((1+blocks.length:Nat):Int))]::aG I [i64 0]::R)):=u
  have v:=o s u.base
  refine au (x:=some X.wa) v (au (x:=some X.wa) v (au (x:=some X.wa) v (au (x:=some X.wa) v (aD (cr (x:=S.w.p.2.1) u 8 rfl rfl (au (x:=some X.wa) v (aD (cr (x:=S.w.p.2.2.1) u 8 rfl rfl ?_))))))))
  rw[ar]
  refine ux ⟨by omega,by omega⟩ ⟨by omega,by omega⟩ (iP u 8 rfl rfl (gd v (gd v (gd v (gd v (aD ?_))))))
  refine jy (Wr.vS (some X.da) X.g (some X.ta) (S.w.p.1,behind S.w.p.2.1 blocks.length,S.w.p.2.2) W.jM W.kD) u 8 rfl (by simp) rfl rfl λai Z=>?_
  have ad:=o s (Z:aA ai (aC z::_)).base
  refine gd ad (gd ad (aD ?_))
  rw[bo (x:=S.w.p.2.2.1+1) (by omega) (by omega)]
  refine jy (Wr.vS (some X.da) X.g (some X.ta) (S.w.p.1,behind S.w.p.2.1 blocks.length,S.w.p.2.2.1+1,S.w.p.2.2.2) W.jM W.kD) Z 8 rfl (by simp) rfl rfl λaj aa=>?_
  refine gd (o s (aa:aA aj (aC z::_)).base) (aD ?_)
  refine jy (Wr.vS (some X.da) X.g (some X.ta) (S.w.p.1,behind S.w.p.2.1 blocks.length,S.w.p.2.2.1+1,sm,S.w.p.2.2.2.2) W.jM W.kD) aa 8 rfl (by simp) rfl rfl λaL am=>?_
  refine hC am 13 rfl rfl λY ab=>dO (x:=(0:Int)) ab 13 rfl ?_
  have an:aA Y (aC z::(nY m X W {S with d:=S.d.kQ j (chunks bs (1+blocks.length)),t:={S.t with l:=gr S.t.l S.w.p.1 S.w.p.2.2.1},w:={S.w with p:=(S.w.p.1,behind S.w.p.2.1 blocks.length,S.w.p.2.2.1+1,sm,S.w.p.2.2.2.2)}}++aG r [i64 (j+((1+blocks.length:Nat):Int))]::aG I [i64 0]::R)):=ab
  exact E m z Y T (G.trans s) an.jx.jx
end
end So
end
section
namespace So
open Go Go.Kx KM Rw Ge Sc Rg Mo Ds Rc
structure bJ (k:Nat) (S:KM.St):Prop extends lq k S where
 lt:S.w.p.2.1<S.c.2.2
 it:∀i∈S.w.items,cL i=true
 bl:S.w.blocks.length=S.w.items.countP cN
 xn:∀b∈S.w.blocks,b.length=64/\bU b
 fit:S.w.items≠[]->S.w.items.length<=6/\behind S.w.p.2.1 S.w.blocks.length<S.c.2.2
theorem bJ.mono {k m:Nat} {S:KM.St} (h:bJ k S) (hm:k<=m):bJ m S:={h with tolq:=h.tolq.mono hm}
section
variable {H B:PH} {L R:List Ob} {k n:Nat} {A:Ds.DA} {X:Ad} {W:Wt} {S:KM.St}
theorem bJ.may (h:bJ k S) (hk:k< 2 ^ 28) (hi:S.w.items≠[]):dy (uY S.bZ S.bZ.w.items S.bZ.w.blocks)=true:=by
 have c:uY S.bZ S.bZ.w.items S.bZ.w.blocks=⟨S.w.p.2.2.2.2,S.w.p.2.2.1,S.w.p.2.2.2.1,S.w.items,S.w.blocks⟩:=by
  unfold KM.St.bZ;simp only;split<;>rfl
 have:=h.dQ;have:=h.vm;have:=h.prev;have:=(h.fit hi).1
 have e:1<=S.w.items.length:=by
  cases d:S.w.items with
  |nil=>exact absurd d hi
  |cons a l=>simp
 rw[c]
 simp only[dy,Bool.and_eq_true,KM.bY,List.all_eq_true,beq_iff_eq]
 exact⟨⟨⟨⟨⟨⟨⟨by omega,by omega⟩,⟨by omega,by omega⟩⟩,⟨by omega,by omega⟩⟩,⟨by omega,by omega⟩⟩,h.it⟩,h.bl⟩,λb c=>(h.xn b c).1⟩
theorem Hr (S:KM.St):S.bZ.w.items=S.w.items/\S.bZ.w.blocks=S.w.blocks/\S.bZ.c=S.c/\S.bZ.n=S.n/\S.bZ.t=S.t/\S.bZ.m=S.m/\(S.bZ.w.p.1=S.w.p.1/\S.bZ.w.p.2.2=S.w.p.2.2)/\S.bZ.w.p.2.1=max S.w.p.2.1 1∨S.w.p.2.1< 0:=by
 unfold KM.St.bZ
 simp only
 split
 ·exact .inl ⟨rfl,rfl,rfl,rfl,rfl,rfl,⟨rfl,rfl⟩,by omega⟩
 ·by_cases a:S.w.p.2.1< 0
  ·exact .inr a
  ·exact .inl ⟨rfl,rfl,rfl,rfl,rfl,rfl,⟨rfl,rfl⟩,by show(1:Int)=_;omega⟩
theorem lq.JD (h:lq k S):S.bZ.w.items=S.w.items/\S.bZ.w.blocks=S.w.blocks/\S.bZ.c=S.c/\S.bZ.n=S.n/\S.bZ.t=S.t/\S.bZ.m=S.m/\(S.bZ.w.p.1=S.w.p.1/\S.bZ.w.p.2.2=S.w.p.2.2)/\S.bZ.w.p.2.1=max S.w.p.2.1 1:=by
 rcases Hr S with a|a
 ·exact a
 ·have:=h.p2;omega
theorem bJ.emit (h:bJ k S) (hk:k+1< 2 ^ 28):bJ (k+8) S.emit/\S.emit.w.items=[]/\S.emit.w.blocks=[]/\S.emit.c=S.c/\S.emit.n=S.n/\S.emit.m=S.m/\S.emit.d.now.length=S.d.now.length/\
 S.emit.w.p.2.1=(if S.w.items=[] then S.w.p.2.1 else behind S.w.p.2.1 S.w.blocks.length)/\(S.emit.w.p.1=S.w.p.1/\S.emit.w.p.2.2.2.2=S.w.p.2.2.2.2)/\S.emit.t.v=S.t.v:=by
 unfold KM.St.emit
 by_cases he:S.w.items=[]
 ·rw[if_pos (by rw[he];rfl)]
  have e:S.w.blocks=[]:=List.eq_nil_of_length_eq_zero (by rw[h.bl,he];rfl)
  exact⟨h.mono (by omega),he,e,rfl,rfl,rfl,rfl,by rw[if_pos he],⟨rfl,rfl⟩,rfl⟩
 ·rw[if_neg (by simpa using he)]
  obtain⟨C,D,F,E⟩:=h.tolq.bZ (by omega) h.lt
  obtain⟨s,f,g,u,x,y,⟨z,j⟩,l⟩:=h.tolq.JD
  have hm:=h.may (by omega) he
  have hf:=(h.fit he).2
  have o:behind S.w.p.2.1 S.w.blocks.length=S.bZ.w.p.2.1+1+S.bZ.w.blocks.length:=by rw[l,f];rfl
  obtain⟨a,r⟩:=C.lG (by omega) hm (by rw[f];exactλb e=>(h.xn b e).2) D (by rw[g,←o];omega)
  rw[s,f] at a r
  have eo:(S.bZ.lG S.w.items S.w.blocks).w.p.2.1=behind S.w.p.2.1 S.w.blocks.length:=by
   show behind S.bZ.w.p.2.1 _=_
   rw[l];unfold behind;omega
  refine⟨⟨⟨a.c,a.dk,a.len,a.im,a.tb,a.p1,a.p2,a.dQ,a.prev,a.vm⟩,?_,λi hi=>?_,rfl,λb e=>?_,λq=>absurd rfl q⟩,rfl,rfl,g,u,y,r.trans E,by rw[if_neg he];exact eo,⟨z,by show S.bZ.w.p.2.2.2.2=_;rw[j]⟩,by show S.bZ.t.v=_;rw[x]⟩
  ·show(S.bZ.lG S.w.items S.w.blocks).w.p.2.1<S.bZ.c.2.2
   rw[eo,g];exact hf
  ·cases hi
  ·cases e
theorem rowsOf {H:PH} {s:Sl} {bl:List Sl} {bs:List Bs} (h:b9 Sl.v H s bl) (f:bl.length=bs.length) (a:∀(i:Nat) (x:Sl) (b:Bs),bl[i]?=some x->bs[i]?=some b->Bytes H x b) (d:∀b∈bs,b.length=64/\bU b):uB H s bs:=by
 refine⟨bl.zip bs,?_,?_,λq e=>?_⟩
 ·rw[List.map_snd_zip];omega
 ·rw[List.map_fst_zip];exact h;omega
 ·obtain⟨i,hi⟩:=List.getElem?_of_mem e
  rw[List.getElem?_zip_eq_some] at hi
  have c:=d q.2 (List.mem_of_getElem? hi.2)
  exact⟨a i q.1 q.2 hi.1 hi.2,c.2,by omega⟩
theorem xz {Q:Int->PH->Prop} (h:aA H (aC B::bx A X W S R)) (F:A.a=X.da) (hX:mq B X S.c) (o:iJ B W S) (ok:bJ k S) (hk:k+1< 2 ^ 28)
 (y:∀J K r H',J.a=X.da->Ext B r->iJ r K S.emit->aA H' (aC r::bx J X K S.emit R)->Q 0 H'):gm (some X.wa) H Q:=by
 refine aE rfl (aD (aY (x:=some X.da) h 8 rfl rfl ?_))
 rw[←F]
 refine BL (i:=4) h rfl ?_
 rw[ok.dk.off]
 have vi:bT It.eB 4 H W.jM S.w.items:=h.get 9 rfl
 refine aE rfl (aD (aY (enc:=Sl.v) (x:=W.jM) h 8 rfl rfl ?_))
 rw[vi.bF]
 refine aL (λc1=>?_) (λc1=>?_)
 ·have he:S.w.items=[]:=List.eq_nil_of_length_eq_zero (by simpa using c1)
  have e:S.emit=S:=by unfold KM.St.emit;rw[if_pos (by rw[he];rfl)]
  rw[e] at y
  exact y A W B H F (.refl B) o h
 ·have he:S.w.items≠[]:=λhh=>by rw[hh] at c1;cases c1
  have e:S.emit=(S.bZ.lG S.w.items S.w.blocks).bare:=by unfold KM.St.emit;rw[if_neg (by simpa using he)]
  obtain⟨w1,w2,w3,w4⟩:=ok.tolq.bZ (by omega) ok.lt
  obtain⟨M,b2,N,O,b5,b6,⟨b7,ad⟩,b8⟩:=ok.tolq.JD
  have hm:=ok.may (by omega) he
  rw[M,b2] at hm
  have hf:=(ok.fit he).2
  have aa:behind S.w.p.2.1 S.w.blocks.length=S.bZ.w.p.2.1+1+S.w.blocks.length:=by rw[b8];rfl
  refine wH h F hX ok.tolq (by omega) λA1 B1 H1 P f u=>aE rfl ?_
  have vb:dE Sl.v H1 W.kD W.bl:=u.get 10 rfl
  refine aD (aY (enc:=Sl.v) (x:=W.jM) u 8 rfl rfl (aD (aY (enc:=Sl.v) (x:=W.kD) u 8 rfl rfl ?_)))
  refine r9 (items:=S.w.items) (blocks:=S.w.blocks) u P (by rw[N];exact hX.ext f) w1 (by omega) (λH' r R' ac E=>?_) hm (λb G=>(ok.xn b G).2) (by rw[vb.list.bF,o.len]) w2 (by rw[N,←aa];omega) λC D H2 U q h2=>aE rfl ?_
  ·have z:bT It.eB 4 H' W.jM S.bZ.w.items:=E.get 9 rfl
   have ab:dE Sl.v H' W.kD W.bl:=E.get 10 rfl
   rw[M] at z
   have:=(ok.fit he).1
   exact⟨rfl,rfl,rfl,z.jv It.bF,rowsOf ab.list o.len (λi x b I G=>(o.at_ i x b I G).ext ((f.trans ac).trans E.base)) ok.xn,by show S.w.items.length<_;omega,by have:=List.countP_le_length (p:=cN) (l:=S.w.items);show S.w.blocks.length<_;rw[ok.bl];omega⟩
  ·refine aD (cB (j:=8) h2 8 rfl (by simp) rfl λH3 h3=>aD (cB (j:=9) h3 8 rfl (by simp) rfl λH4 h4=>?_))
   rw[e] at y
   refine y C ⟨Sl.nil,Sl.nil,[],W.lb,W.lo⟩ D H4 U (f.trans q) ⟨?_,?_,rfl,λi x b I=>by simp at I⟩ ?_
   ·show fv D W.lb S.bZ.n.lb;rw[O];exact o.lb.ext (f.trans q)
   ·show fv D W.lo S.bZ.n.lo;rw[O];exact o.lo.ext (f.trans q)
   ·have V:=aA.up ((zU (enc:=Sl.v) h4).zG (enc:=It.eB) (sz:=4))
    generalize S.bZ.lG S.w.items S.w.blocks=T at V ⊢
    have Z:=aA.GV (X:=[aq It.eB 4 Sl.nil [],aW Sl.v Sl.nil []]++Ig.dR X.s0 X.t0 X.s1 X.t1 T.m++[Ds.av C T.d,aq Us.bQ 2 X.s T.t.l,aW i64 X.t T.t.v,aG X.wa (Wr.vS (some X.da) X.g (some X.ta) T.w.p Sl.nil Sl.nil),aq It.eB 4 W.jM T.w.items,aW Sl.v W.kD W.bl,aG X.sa (xH (some X.da) X.g (some X.ta) (some X.ia) (some X.wa) (xx T) T.n.slot W.lb W.lo)])
     (Y:=nY C X ⟨Sl.nil,Sl.nil,[],W.lb,W.lo⟩ T.bare++[aq It.eB 4 W.jM T.w.items,aW Sl.v W.kD W.bl]) V 13 [2,3,4,5,6,7,8,9,0,1,12,10,11] rfl (by decide) rfl
    rw[List.append_assoc] at Z
    exact Z.jx.jx
end
end So
end
section
namespace So
open Go Go.Kx KM Rw Ge Sc Rg Mo Ds Rc
section
variable {H B:PH} {L R:List Ob} {k n:Nat} {A:Ds.DA} {X:Ad} {W:Wt} {S:KM.St}
theorem xm {off a b:Int} {Q:Bool->PH->Prop} (h:aA H (aC B::bx A X W S R)) (j:mq B X S.c) (m:0<=off/\off<=1000) (l:0<=b/\b<=1000)
 (f:∀H',aA H' (aC B::bx A X W S R)->Q (fits S.c off a b) H'):ke (some X.wa) off a b H Q:=by
 have e:fits S.c off a b=(decide (a<=6)&&decide (behind off b<S.c.2.2)):=rfl
 rw[e] at f
 refine mP.i (Pv (λc1 kk=>aD (aY (x:=X.g) h 8 rfl rfl (ux m l (cw h 8 rfl rfl (lH (j.g.ext h.base) λH1 d=>kk H1 d))))) λH1 d=>?_)
 exact f H1 (h.ext d)
theorem EB (h:lq k S) {g:Int} (b:0<=g/\g<S.c.2.1) (a:Int):lq k (S.tr a g):=by
 have d:=h.c.2.2.2.2.1
 exact⟨h.c,h.dk,h.len,h.im,h.tb.P0 _,b,⟨Int.le_refl 0,by show(0:Int)<=S.c.2.2;omega⟩,h.dQ,h.prev,h.vm⟩
theorem CR {g:Int} (h:0<=g/\g<=31) (ok:lq k S) (hk:k< 2 ^ 28):dy (uY S [(7,0,0,g)] [])=true:=by
 have:=ok.dQ;have:=ok.vm;have:=ok.prev
 have e1:cL (7,0,0,g)=true:=by simp[cL,bE];omega
 have e2:cN (7,0,0,g)=false:=by rw[cN,e1];rfl
 simp only[dy,Bool.and_eq_true,KM.bY,List.all_eq_true,beq_iff_eq,List.countP_cons,List.countP_nil,e2]
 refine⟨⟨⟨⟨⟨⟨⟨by omega,by omega⟩,⟨by omega,by omega⟩⟩,⟨by omega,by omega⟩⟩,⟨by simp,by simp⟩⟩,λi hi=>?_⟩,by simp⟩,λb a=>by cases a⟩
 have:=List.mem_singleton.1 hi;subst this;exact e1
theorem bJ.dX (h:bJ k S) (hk:k+20< 2 ^ 28) (hi:S.w.items=[]) (l:S.w.blocks=[]) (E:1<=S.w.p.2.1) {g:Int} (r:0<=g/\g<S.c.2.1):bJ (k+8) (S.dX g)/\(S.dX g).w.items=[]/\(S.dX g).w.blocks=[]/\(S.dX g).c=S.c/\(S.dX g).n=S.n/\(S.dX g).m=S.m/\(S.dX g).d.now.length=S.d.now.length/\(S.dX g).w.p.2.1=1/\(S.dX g).w.p.2.2.2.2=S.w.p.2.2.2.2/\(S.dX g).w.p.1=g:=by
 have N:=h.c.2.2.2.1;have M:=h.c.2.2.2.2.1
 have hm:=CR (g:=g) ⟨r.1,by omega⟩ h.tolq (by omega)
 have J:=h.lt
 obtain⟨F,G⟩:=h.tolq.lG (by omega) hm (λb l=>by cases l) E (by show _+1+((0:Nat):Int)<=_;omega)
 have t:=EB F (g:=g) r S.w.p.1
 obtain⟨v1,v2,I,v4⟩:=t.bZ (by omega) (by show(0:Int)<S.c.2.2;omega)
 obtain⟨u,v,o,x,K,y,⟨z,q⟩,C⟩:=t.JD
 have D:S.dX g=((S.lG [(7,0,0,g)] []).tr S.w.p.1 g).bZ:=rfl
 rw[D]
 have a:((S.lG [(7,0,0,g)] []).tr S.w.p.1 g).bZ.w.items=[]:=u.trans hi
 have e:((S.lG [(7,0,0,g)] []).tr S.w.p.1 g).bZ.w.blocks=[]:=v.trans l
 refine⟨⟨v1,?_,λi j=>?_,?_,λb f=>?_,λs=>absurd a s⟩,a,e,o,x,y,v4.trans G,?_,by rw[q];rfl,z⟩
 ·rw[o];exact I
 ·rw[a] at j;cases j
 ·rw[a,e];rfl
 ·rw[e] at f;cases f
 ·rw[C];rfl
theorem Mr {g:Int} {Q:Int->PH->Prop} (h:aA H (aC B::bx A X W S R)) (hA:A.a=X.da) (v:mq B X S.c) (q:iJ B W S) (ok:bJ k S) (hk:k+20< 2 ^ 28) (hi:S.w.items=[]) (e:S.w.blocks=[]) (V:1<=S.w.p.2.1) (O:0<=g/\g<S.c.2.1)
 (u:∀C m H',C.a=X.da->Ext B m->iJ m W (S.dX g)->aA H' (aC m::bx C X W (S.dX g) R)->Q 0 H'):nK (some X.wa) g H Q:=by
 have h6:=ok.c.2.2.2.1;have h5:=ok.c.2.2.2.2.1
 have hm:=CR (g:=g) ⟨O.1,by omega⟩ ok.tolq (by omega)
 have aa:=ok.lt
 obtain⟨Y,u2⟩:=ok.tolq.lG (by omega) hm (λb e=>by cases e) V (by show _+1+((0:Nat):Int)<=_;omega)
 have y:=EB Y (g:=g) O S.w.p.1
 obtain⟨b1,D,b3,E,b5,b6,⟨b7,F⟩,b8⟩:=y.JD
 refine aD (cr (x:=S.w.p.1) h 8 rfl rfl (jo.vR (enc:=It.eB) (sz:=4) (l:=[(7,0,0,g)]) h rfl rfl λr5 H1 t=>?_))
 obtain⟨B1,d,hv,t⟩:=t.fz
 have P:=hv.jv It.bF
 refine r9 (items:=[(7,0,0,g)]) (blocks:=[]) (jM:=r5) (kD:=Sl.nil) t hA (v.ext d) ok.tolq (by omega) (λH' m R' Z h'=>?_) hm (λb e=>by cases e) rfl V (by show _+1+((0:Nat):Int)<=_;omega) λA2 B2 H2 G f o=>aE rfl ?_
 ·exact⟨rfl,rfl,rfl,(P.ext Z).ext h'.base,⟨[],rfl,Cr.OP⟩,by show 1<_;omega,by show 0<_;omega⟩
 ·have et:S.dX g=((S.lG [(7,0,0,g)] []).tr S.w.p.1 g).bZ:=rfl
  rw[et] at u
  have M:(S.lG [(7,0,0,g)] []).c=S.c:=rfl
  have U:(S.lG [(7,0,0,g)] []).n=S.n:=rfl
  have r:(S.lG [(7,0,0,g)] []).w.blocks=S.w.blocks:=rfl
  generalize S.lG [(7,0,0,g)] []=T at o u Y y b1 D b3 E b5 b6 b7 F b8 M U r
  refine aD (aY (x:=some X.ta) o 8 rfl rfl (Us.vM o ((v.ta.ext (d.trans f)).ext o.base) 6 rfl λH3 h3=>aD ?_))
  refine jy (Wr.vS (some X.da) X.g (some X.ta) (g,T.w.p.2) W.jM W.kD) h3 8 rfl (by simp) rfl rfl λH4 h4=>aD ?_
  refine jy (Wr.vS (some X.da) X.g (some X.ta) (g,0,T.w.p.2.2) W.jM W.kD) h4 8 rfl (by simp) rfl rfl λH5 j=>?_
  have j:aA H5 (aC B2::bx A2 X W (T.tr S.w.p.1 g) R):=j
  have N:(T.tr S.w.p.1 g).c=S.c:=M
  refine wH j G (by rw[N];exact v.ext (d.trans f)) y (by omega) λA3 B3 H6 I s K=>u A3 B3 H6 I (d.trans (f.trans s)) ?_ K
  have z:=d.trans (f.trans s)
  have J:(T.tr S.w.p.1 g).bZ.w.blocks=S.w.blocks:=D.trans r
  have en:(T.tr S.w.p.1 g).bZ.n=S.n:=E.trans U
  exact⟨by rw[en];exact q.lb.ext z,by rw[en];exact q.lo.ext z,by rw[J];exact q.len,λi x b hx e=>by rw[J] at e;exact(q.at_ i x b hx e).ext z⟩
theorem Om (l:List cz):(nQ l= -1∨(0<=nQ l/\nQ l<l.length/\(dU (0,0) l (nQ l)).1=0)):=by
 unfold nQ
 split
 ·next a=>
  refine .inr ⟨by omega,by omega,?_⟩
  have:=List.findIdx_getElem (w:=a)
  simp only[beq_iff_eq] at this
  rw[Us.jG (x:=l[l.findIdx λu=>u.1==0]) (by omega) (by rw[Int.toNat_natCast];exact List.getElem?_eq_getElem a)]
  exact this
 ·exact .inl rfl
theorem EC (l:List cz) (sp:Bool):(cA l sp< 0/\jA l (cA l sp)=false)∨(0<=cA l sp/\cA l sp<l.length/\jA l (cA l sp)=true):=by
 have neg:jA l (-1)=false:=Us.GM l
 unfold cA
 split
 ·exact .inl ⟨by decide,neg⟩
 ·rcases Om l with h|⟨a,b,c⟩
  ·rw[h];exact .inl ⟨by decide,neg⟩
  ·refine .inr ⟨a,b,?_⟩
   rw[jA,Bool.and_eq_true,beq_iff_eq]
   exact⟨Us.bY.2 ⟨a,b⟩,c⟩
structure UH (k:Nat) (S:KM.St) (b:Int) (T:KM.St) (e:Int):Prop where
 ok:bJ (k+16) T
 c:T.c=S.c
 n:T.n=S.n
 m:T.m=S.m
 len:T.d.now.length=S.d.now.length
 fits:e=0->fits T.c T.w.p.2.1 (T.w.items.length+1) (T.w.blocks.length+b)=true
theorem bJ.pn (h:bJ k S) (g:Int):bJ k ({S with t:=S.t.pn g}:KM.St):=⟨⟨h.c,h.dk,h.len,h.im,h.tb.pn g,h.p1,h.p2,h.dQ,h.prev,h.vm⟩,h.lt,h.it,h.bl,h.xn,h.fit⟩
theorem yi (h:bJ k S) (hk:k+1< 2 ^ 28):S.emit.w.p.2.1=(if S.w.items.isEmpty then S.w.p.2.1 else behind S.w.p.2.1 S.w.blocks.length):=by
 rw[(h.emit hk).2.2.2.2.2.2.2.1]
 cases a:S.w.items<;>simp
theorem DS (S:KM.St) (b:Int) (sp:Bool):(fits S.c S.w.p.2.1 (S.w.items.length+1) (S.w.blocks.length+b)=true/\S.room b sp=(S,0))∨
 (¬fits S.c S.w.p.2.1 (S.w.items.length+1) (S.w.blocks.length+b)=true/\fits S.c (if S.w.items.isEmpty then S.w.p.2.1 else behind S.w.p.2.1 S.w.blocks.length) 1 b=true/\S.room b sp=(S.emit,0))∨
 (¬fits S.c S.w.p.2.1 (S.w.items.length+1) (S.w.blocks.length+b)=true/\¬fits S.c (if S.w.items.isEmpty then S.w.p.2.1 else behind S.w.p.2.1 S.w.blocks.length) 1 b=true/\cA S.t.l sp< 0/\S.room b sp=(S,6))∨
 (¬fits S.c S.w.p.2.1 (S.w.items.length+1) (S.w.blocks.length+b)=true/\¬fits S.c (if S.w.items.isEmpty then S.w.p.2.1 else behind S.w.p.2.1 S.w.blocks.length) 1 b=true/\0<=cA S.t.l sp/\S.room b sp=(({S with t:=S.t.pn (cA S.t.l sp)}:KM.St).emit.dX (cA S.t.l sp),0)):=by
 by_cases c1:fits S.c S.w.p.2.1 (S.w.items.length+1) (S.w.blocks.length+b)=true
 ·exact .inl ⟨c1,by unfold KM.St.room;rw[if_pos c1]⟩
 by_cases c2:fits S.c (if S.w.items.isEmpty then S.w.p.2.1 else behind S.w.p.2.1 S.w.blocks.length) 1 b=true
 ·exact .inr (.inl ⟨c1,c2,by unfold KM.St.room;rw[if_neg c1,if_pos c2]⟩)
 by_cases c3:cA S.t.l sp< 0
 ·exact .inr (.inr (.inl ⟨c1,c2,c3,by unfold KM.St.room;rw[if_neg c1,if_neg c2,if_pos c3]⟩))
 ·exact .inr (.inr (.inr ⟨c1,c2,by omega,by unfold KM.St.room;rw[if_neg c1,if_neg c2,if_neg c3]⟩))
theorem ED {c:bC} {off b:Int} (a:24<=c.2.2) (d:b=0∨b=1) (h:¬fits c off 1 b=true):1<=off:=by
 unfold KM.fits KM.behind at h
 simp only[Bool.and_eq_true,decide_eq_true_eq] at h
 omega
theorem JE (h:bJ k S) (hk:k+40< 2 ^ 28) {b:Int} (u:b=0∨b=1) (sp:Bool):UH k S b (S.room b sp).1 (S.room b sp).2:=by
 have s:=h.c.2.2.2.2.1
 have j:=yi h (by omega)
 rcases DS S b sp with⟨c1,e⟩|⟨_,c2,e⟩|⟨_,_,_,e⟩|⟨_,c2,c3,e⟩
 ·rw[e];exact⟨h.mono (by omega),rfl,rfl,rfl,rfl,λ_=>c1⟩
 ·rw[e]
  obtain⟨e1,e2,e3,d,e5,f,i,q,r⟩:=h.emit (by omega)
  refine⟨e1.mono (by omega),d,e5,f,i,λ_=>?_⟩
  show KM.fits S.emit.c S.emit.w.p.2.1 (S.emit.w.items.length+1) (S.emit.w.blocks.length+b)=true
  rw[e2,e3,d,j]
  simpa using c2
 ·rw[e];exact⟨h.mono (by omega),rfl,rfl,rfl,rfl,λh=>by cases h⟩
 ·rw[e]
  have J:=EC S.t.l sp
  have I:=h.tb.l
  have G:=h.c.2.2.1
  have v:0<=cA S.t.l sp/\cA S.t.l sp<S.c.2.1:=by omega
  have m:=h.pn (cA S.t.l sp)
  obtain⟨e1,e2,e3,d,e5,f,i,q,r⟩:=m.emit (by omega)
  have a:=yi m (by omega)
  generalize({S with t:=S.t.pn (cA S.t.l sp)}:KM.St).emit=T at e1 e2 e3 d e5 f i a ⊢
  have d:T.c=S.c:=d
  have a:T.w.p.2.1=(if S.w.items.isEmpty then S.w.p.2.1 else behind S.w.p.2.1 S.w.blocks.length):=a
  have x:1<=T.w.p.2.1:=by rw[a];exact ED s u c2
  obtain⟨y,z,C,o,D,E,F,u8,K⟩:=e1.dX (g:=cA S.t.l sp) (by omega) e2 e3 x (by rw[d];exact v)
  refine⟨y,o.trans d,D.trans e5,E.trans f,F.trans i,λ_=>?_⟩
  show KM.fits (T.dX (cA S.t.l sp)).c (T.dX (cA S.t.l sp)).w.p.2.1 ((T.dX (cA S.t.l sp)).w.items.length+1) ((T.dX (cA S.t.l sp)).w.blocks.length+b)=true
  rw[z,C,o,u8,d]
  unfold KM.fits KM.behind
  simp only[Bool.and_eq_true,decide_eq_true_eq,List.length_nil]
  omega
theorem Ms {b:Int} {sp:Bool} {Q:Int->PH->Prop} (h:aA H (aC B::bx A X W S R)) (z:A.a=X.da) (o:mq B X S.c) (g:iJ B W S) (ok:bJ k S) (hk:k+40< 2 ^ 28) (hb:b=0∨b=1)
 (f:∀M N I H',M.a=X.da->Ext B I->iJ I N (S.room b sp).1->aA H' (aC I::bx M X N (S.room b sp).1 R)->Q (S.room b sp).2 H'):nL (some X.wa) b sp H Q:=by
 have h5:=ok.c.2.2.2.2
 have al:=ok.p2
 have vi:bT It.eB 4 H W.jM S.w.items:=h.get 9 rfl
 have vb:dE Sl.v H W.kD W.bl:=h.get 10 rfl
 have ak:S.w.items.length<=6:=by
  by_cases he:S.w.items=[]
  ·rw[he];simp
  ·exact(ok.fit he).1
 have aj:S.w.blocks.length<=6:=by have:=List.countP_le_length (p:=cN) (l:=S.w.items);rw[ok.bl];omega
 refine mP.i (aD (cr (x:=S.w.p.2.1) h 8 rfl rfl (aD (aY (enc:=Sl.v) (x:=W.jM) h 8 rfl rfl (aD (aY (enc:=Sl.v) (x:=W.kD) h 8 rfl rfl ?_))))))
 rw[vi.bF,vb.list.bF,g.len,bo (x:=(S.w.items.length:Int)+1) (by omega) (by omega),bo (x:=(S.w.blocks.length:Int)+b) (by omega) (by omega)]
 refine xm h o ⟨by omega,by omega⟩ ⟨by omega,by omega⟩ λH1 j=>aL (λc1=>?_) (λc1=>?_)
 ·have e:S.room b sp=(S,0):=by unfold KM.St.room;rw[if_pos c1]
  rw[e] at f
  exact f A W B H1 z (.refl B) g j
 ·have ag:=yi ok (by omega)
  refine aD (cr (x:=S.w.p.2.1) j 8 rfl rfl (aD (aY (enc:=Sl.v) (x:=W.jM) j 8 rfl rfl ?_)))
  have ac:bT It.eB 4 H1 W.jM S.w.items:=j.get 9 rfl
  have ab:dE Sl.v H1 W.kD W.bl:=j.get 10 rfl
  rw[ac.bF]
  refine pF (λoff H'=>off=(if S.w.items.isEmpty then S.w.p.2.1 else behind S.w.p.2.1 S.w.blocks.length)/\aA H' (aC B::bx A X W S R)) (λoff H2 ⟨eo,h2⟩=>?_) λk' F=>?_
  ·have J:0<=off/\off<=1000:=by
    rw[eo];unfold behind;split<;>omega
   refine xm h2 o J (by omega) λH3 y=>aL (λc2=>?_) (λc2=>?_)
   ·rw[eo] at c2
    have e:S.room b sp=(S.emit,0):=by unfold KM.St.room;rw[if_neg (by rw[c1];simp),if_pos c2]
    rw[e] at f
    exact xz y z o g ok (by omega) λA4 W4 B4 u O ad Y m=>f A4 W4 B4 u O ad Y m
   ·have K:=EC S.t.l sp
    have hl:=ok.tb.l
    have hv:=ok.tb.v
    have ah:=ok.c.2.2.1
    have ai:=ok.c.2.2.2.1
    refine aD (aY (x:=some X.ta) y 8 rfl rfl (Us.jE y (o.ta.ext y.base) 6 7 rfl rfl (by decide) (by rw[hv,hl]) (by omega) λu m=>?_))
    have q:¬(KM.fits S.c (if S.w.items.isEmpty then S.w.p.2.1 else behind S.w.p.2.1 S.w.blocks.length) 1 b=true):=by rw[←eo,c2];simp
    rcases K with⟨K,E⟩|⟨am,an,aa⟩
    ·have e:S.room b sp=(S,6):=by unfold KM.St.room;rw[if_neg (by rw[c1];simp),if_neg q,if_pos K]
     rw[e] at f
     rw[E]
     have V:pk S.t.l (cA S.t.l sp)=S.t.l/\tn S.t.l S.t.v (cA S.t.l sp)=S.t.v:=by rw[pk,tn,E];exact⟨rfl,rfl⟩
     rw[V.1,V.2] at m
     exact ae rfl (f A W B u z (.refl B) g m)
    ·have e:S.room b sp=(({S with t:=S.t.pn (cA S.t.l sp)}:KM.St).emit.dX (cA S.t.l sp),0):=by unfold KM.St.room;rw[if_neg (by rw[c1];simp),if_neg q,if_neg (by omega)]
     rw[e] at f
     rw[aa]
     refine aE rfl ?_
     rw[if_pos rfl]
     have m:aA u (aC B::bx A X W ({S with t:=S.t.pn (cA S.t.l sp)}:KM.St) R):=m
     have s:=ok.pn (cA S.t.l sp)
     have hg:0<=cA S.t.l sp/\cA S.t.l sp<S.c.2.1:=by omega
     obtain⟨e1,e2,e3,r,e5,e6,e7,e8,e9⟩:=s.emit (by omega)
     have d:=yi s (by omega)
     refine xz m z o ⟨g.lb,g.lo,g.len,g.at_⟩ s (by omega) λA5 W5 B5 H5 P G D C=>aE rfl ?_
     generalize({S with t:=S.t.pn (cA S.t.l sp)}:KM.St).emit=T at e1 e2 e3 r e5 e6 e7 d D C f
     have r:T.c=S.c:=r
     have d:T.w.p.2.1=(if S.w.items.isEmpty then S.w.p.2.1 else behind S.w.p.2.1 S.w.blocks.length):=d
     have hp:1<=T.w.p.2.1:=by rw[d];exact ED h5.1 hb q
     exact Mr C P (by rw[r];exact o.ext G) D e1 (by omega) e2 e3 hp (by rw[r];exact hg) λA6 B6 H6 U af Z h6=>f A6 W5 B6 H6 U (G.trans af) Z h6
  ·refine aL (λc2=>?_) (λc2=>F _ _ ⟨?_,j⟩)
   ·refine aD (aY (enc:=Sl.v) (x:=W.kD) j 8 rfl rfl ?_)
    rw[ab.list.bF,g.len]
    refine ux ⟨by omega,by omega⟩ ⟨by omega,by omega⟩ (F _ _ ⟨?_,j⟩)
    rw[if_neg]
    intro hh;rw[List.isEmpty_iff] at hh;rw[hh] at c2;cases c2
   ·rw[if_pos]
    rw[List.isEmpty_iff]
    exact List.eq_nil_of_length_eq_zero (by simpa using c2)
end
end So
end
section
namespace So
open Go Go.Kx KM Rw Ge Sc Rg Mo Ds Rc
section
variable {H B:PH} {L R:List Ob} {k n:Nat} {A:Ds.DA} {X:Ad} {W:Wt} {S:KM.St}
theorem bJ.DL (h:bJ k S):S.w.items.length<=6/\S.w.blocks.length<=6:=by
 have a:S.w.items.length<=6:=by
  by_cases he:S.w.items=[]
  ·rw[he];simp
  ·exact(h.fit he).1
 have:=List.countP_le_length (p:=cN) (l:=S.w.items)
 exact⟨a,by rw[h.bl];omega⟩
theorem Hs {Q:Int->PH->Prop} (h:aA H (aC B::bx A X W S R)) (d:mq B X S.c) (ok:lq k S) (b:∀H',aA H' (aC B::bx A X W S R)->Q S.first H'):kA (some X.wa) H Q:=by
 have o:=Sc.mY ok.c ok.p1
 have m:=ok.p2
 have j:=ok.c.2.2.2.2
 have f:=sZ ok.c
 refine mP.i (aD (aY (x:=X.g) h 8 rfl rfl (aD (cr (x:=S.w.p.1) h 8 rfl rfl (aD (cr (x:=S.w.p.2.1) h 8 rfl rfl ?_))))))
 refine Sc.xF (d.g.ext h.base) ok.c ok.p1 λH1 e=>?_
 have a:=h.ext e
 refine iP a 8 rfl rfl (ux ⟨by omega,by omega⟩ ⟨by omega,by omega⟩ ?_)
 have l:1<=behind S.w.p.2.1 0/\behind S.w.p.2.1 0<=100:=by unfold KM.behind;omega
 rw[bo (x:=bW S.c S.w.p.1+behind S.w.p.2.1 0) (by omega) (by omega)]
 exact b H1 a
theorem bJ.hold (h:bJ k S) {i:iY} {b:Option Bs} (hi:cL i=true) (g:b.isSome=cN i) (e:∀x,b=some x->x.length=64/\bU x) (hf:fits S.c S.w.p.2.1 (S.w.items.length+1) (S.w.blocks.length+(if b.isSome then 1 else 0))=true):bJ k (S.hold i b):=by
 have f:(b.toList.length:Int)=if b.isSome then 1 else 0:=by cases b<;>rfl
 unfold KM.fits at hf
 simp only[Bool.and_eq_true,decide_eq_true_eq] at hf
 refine⟨⟨h.c,h.dk,h.len,h.im,h.tb,h.p1,h.p2,h.dQ,h.prev,h.vm⟩,h.lt,λj a=>?_,?_,λx d=>?_,λ_=>⟨?_,?_⟩⟩
 ·rcases List.mem_append.1 a with a|a
  ·exact h.it j a
  ·have:=List.mem_singleton.1 a;subst this;exact hi
 ·show(S.w.blocks++b.toList).length=(S.w.items++[i]).countP cN
  rw[List.length_append,List.countP_append,h.bl,List.countP_singleton,←g]
  cases b<;>rfl
 ·rcases List.mem_append.1 d with d|d
  ·exact h.xn x d
  ·exact e x (by simpa using d)
 ·show(S.w.items++[i]).length<=6
  rw[List.length_append,List.length_singleton];omega
 ·show behind S.w.p.2.1 ((S.w.blocks++b.toList).length:Int)<S.c.2.2
  rw[List.length_append];push_cast;rw[f];exact hf.2
theorem zR {i:iY} {p:Sl} {b:Option Bs} {sp:Bool} {Q:Int->Int->PH->Prop} (h:aA H (aC B::bx A X W S R)) (hA:A.a=X.da) (hX:mq B X S.c) (hW:iJ B W S) (ok:bJ k S) (hk:k+40< 2 ^ 28)
 (hi:cL i=true) (D:i.1≠7) (aB:b.isSome=cN i) (an:(p.len:Int)=if b.isSome then 64 else 0) (ap:∀x,b=some x->(x.length=64/\bU x)/\Bytes B p x)
 (hQ:∀A' W' O H',A'.a=X.da->Ext B O->iJ O W' (S.add i b sp).1->aA H' (aC O::bx A' X W' (S.add i b sp).1 R)->Q (S.add i b sp).2.1 (S.add i b sp).2.2 H'):lJ (some X.wa) i p sp H Q:=by
 have ab:(if b.isSome then(1:Int) else 0)=0∨(if b.isSome then(1:Int) else 0)=1:=by split<;>simp
 have E:=JE ok hk ab sp
 refine fM h λa1 B1 H1 C r1 h1=>fF (enc:=It.eB) (x:=i) (r1.ext h1.base) rfl (It.yL λH2 x2=>?_)
 have h2:=h1.ext x2
 have af:∀{O H'},Ext B1 O->Ext O H'->aZ H' a1 (It.eB i):=λx y=>(r1.ext x).ext y
 rw[←aB]
 refine pF (λs H'=>s=(if b.isSome then(64:Int) else 0)/\aA H' (aC B1::bx A X W S R)) (λs H3 ⟨es,h3⟩=>?_) λk' t=>aL (λc=>t _ _ ⟨by rw[c];rfl,h2⟩) (λc=>t _ _ ⟨by rw[c];rfl,h2⟩)
 subst es
 refine aF (aE rfl (fF (enc:=It.eB) (x:=i) (af (.refl _) h3.base) rfl (It.fS λH4 x4=>?_)))
 rw[hi]
 have h4:=h3.ext x4
 refine aF (aE rfl (aa (x:=i.1) (af (.refl _) h4.base) rfl ?_))
 have e7:(i.1==7)=false:=by simpa using D
 rw[e7]
 refine aF (aE rfl ?_)
 rw[an]
 refine aE (by simp) (aD (aY (x:=some X.da) h4 8 rfl rfl ?_))
 rw[←hA]
 refine BL (i:=4) h4 rfl ?_
 rw[ok.dk.off]
 have ediv:IntKind.wrap .i64 (Int.tdiv (if b.isSome then(64:Int) else 0) 64)=(if b.isSome then(1:Int) else 0):=by split<;>decide
 rw[ediv]
 refine aE rfl (Ms h4 hA (hX.ext C) (hW.ext C) ok hk ab λK f Y H5 ai J m V=>?_)
 by_cases he:(S.room (if b.isSome then 1 else 0) sp).2=0
 ·have e:S.add i b sp=((S.room (if b.isSome then 1 else 0) sp).1.hold i b,if b.isSome then(S.room (if b.isSome then 1 else 0) sp).1.first+(S.room (if b.isSome then 1 else 0) sp).1.w.blocks.length else 0,0):=by
   unfold KM.St.add;simp only;rw[if_pos he]
  rw[e] at hQ
  have ad:=E.fits he
  have d:=E.ok
  have hc:=E.c
  rw[he]
  generalize(S.room (if b.isSome then 1 else 0) sp).1=T at hQ V m ad d hc
  refine aE rfl ?_
  have fin:∀(y:Int) (g:Wt) o P,Ext Y o->g.jM=f.jM->iJ o g ({T with w:={T.w with blocks:=T.w.blocks++b.toList}}:KM.St)->aA P (aC o::bx K X g ({T with w:={T.w with blocks:=T.w.blocks++b.toList}}:KM.St) R)->y=(if b.isSome then T.first+T.w.blocks.length else 0)->
   aN (some X.wa) λah=>aH Sl.v P (ah.add 8) λao=>aU It.eB P a1 4 λaJ=>bV P (row (It.eB aJ) 230) 1 λM ag=>ar ag (ah.add 8) (Sl.v ao)<|fG ag 230 4 32 [i64 0,i64 0,i64 0,i64 0] ao M λN aw=>
    aN (some X.wa) λay=>aX aw (ay.add 8) [Sl.v N] λax=>Q y 0 ax:=λy g o P q aj z u ey=>by
   subst ey
   refine aD (aY (enc:=Sl.v) (x:=g.jM) u 8 rfl rfl (fF (enc:=It.eB) (x:=i) (af (J.trans q) u.base) rfl ?_))
   refine jo.vR (enc:=It.eB) (sz:=4) (l:=[i]) u (by simp) rfl λM H7 D=>cw D 9 rfl rfl ?_
   have v7:bT It.eB 4 H7 M [i]:=D.get 1 rfl
   refine sQ It.bF (by decide) D 10 rfl (v7.cells It.bF (by decide)) v7.len It.Px rfl ?_ λN H8 h8=>?_
   ·have:=d.fit
    by_cases hn:T.w.items=[]
    ·show(4*(T.w.items.length+[i].length)+4096)*32<=_;rw[hn];simp
    ·have:=(this hn).1;show(4*(T.w.items.length+1)+4096)*32<=_;omega
   ·refine aD (cB (j:=8) h8 9 rfl (by simp) rfl λU h9=>?_)
    exact hQ K ⟨N,g.kD,g.bl,g.lb,g.lo⟩ o U ai (C.trans (J.trans q)) ⟨z.lb,z.lo,z.len,z.at_⟩ (show aA U (aC o::aq It.eB 4 M [i]::bx K X ⟨N,g.kD,g.bl,g.lb,g.lo⟩ (T.hold i b) R) from h9).ak
  refine pF (λy H'=>y=(if b.isSome then T.first+T.w.blocks.length else 0)/\∃g o,Ext Y o/\g.jM=f.jM/\iJ o g ({T with w:={T.w with blocks:=T.w.blocks++b.toList}}:KM.St)/\aA H' (aC o::bx K X g ({T with w:={T.w with blocks:=T.w.blocks++b.toList}}:KM.St) R))
   (λy H' ⟨ey,g,o,q,aj,z,u⟩=>fin y g o H' q aj z u ey) λk' t=>?_
  cases ac:b with
  |none=>
   rw[ac] at t an
   have eT:({T with w:={T.w with blocks:=T.w.blocks++(none:Option Bs).toList}}:KM.St)=T:=by simp
   rw[eT] at t
   exact aE rfl (t _ _ ⟨rfl,f,Y,.refl _,rfl,m,V⟩)
  |some bs=>
   rw[ac] at t ad
   obtain⟨⟨aQ,aO⟩,aG⟩:=ap bs ac
   have av:=aG.ext (C.trans J)
   have aK:=d.DL
   have az:mq Y X T.c:=by rw[hc];exact hX.ext (C.trans J)
   refine ae rfl (aD (aY (enc:=Sl.v) (x:=f.kD) V 8 rfl rfl ?_))
   refine Rw.jb V (av.ext V.base) (by omega) λr P u=>gX u λo q hy u=>cw u 8 rfl rfl ?_
   refine GA (enc:=Sl.v) (l:=[r]) u rfl rfl λaI H7 D=>cw D 9 rfl rfl ?_
   refine qY (l:=f.bl) (ys:=[r]) D 11 rfl (D.list (enc:=Sl.v) 1 rfl) (λ_=>rfl) rfl (by rw[m.len];simp;omega) λI H8 h8=>aD (cB (j:=9) h8 9 rfl (by simp) rfl λU h9=>aD ?_)
   have Z:aA U (aC o::bx K X ⟨f.jM,I,f.bl++[r],f.lb,f.lo⟩ ({T with w:={T.w with blocks:=T.w.blocks++[bs]}}:KM.St) R):=(show aA U (aC o::aW Sl.v aI [r]::bx K X ⟨f.jM,I,f.bl++[r],f.lb,f.lo⟩ ({T with w:={T.w with blocks:=T.w.blocks++[bs]}}:KM.St) R) from h9).ak
   have au:lq (k+16) ({T with w:={T.w with blocks:=T.w.blocks++[bs]}}:KM.St):=⟨d.c,d.dk,d.len,d.im,d.tb,d.p1,d.p2,d.dQ,d.prev,d.vm⟩
   have v10:dE Sl.v U I (f.bl++[r]):=Z.get 10 rfl
   refine aY (enc:=Sl.v) (x:=I) Z 8 rfl rfl (Hs Z (az.ext q) au λaM al=>cw al 8 rfl rfl ?_)
   have ef:({T with w:={T.w with blocks:=T.w.blocks++[bs]}}:KM.St).first=T.first:=rfl
   have aP:0<=T.first/\T.first<=10000:=by
    have hs:=Sc.mY d.c d.p1
    have:=d.p2;have:=d.c.2.2.2.2;have:=sZ d.c
    unfold KM.St.first KM.behind;omega
   rw[v10.list.bF,ef,List.length_append,m.len,List.length_singleton,bo (x:=T.first+((T.w.blocks.length+1:Nat):Int)) (by omega) (by omega),bo (x:=T.first+((T.w.blocks.length+1:Nat):Int)- 1) (by omega) (by omega)]
   refine t _ _ ⟨?_,⟨f.jM,I,f.bl++[r],f.lb,f.lo⟩,o,q,rfl,⟨m.lb.ext q,m.lo.ext q,?_,λi x b F G=>?_⟩,al⟩
   ·show _=T.first+(T.w.blocks.length:Int);push_cast;omega
   ·show(f.bl++[r]).length=(T.w.blocks++[bs]).length
    simp[m.len]
   ·have F:(f.bl++[r])[i]?=some x:=F
    have G:(T.w.blocks++[bs])[i]?=some b:=G
    by_cases am:i<f.bl.length
    ·rw[List.getElem?_append_left am] at F
     rw[List.getElem?_append_left (by rw[←m.len];exact am)] at G
     exact(m.at_ i x b F G).ext q
    ·rw[List.getElem?_append_right (by omega)] at F
     rw[List.getElem?_append_right (by rw[←m.len];omega)] at G
     have e1:i-f.bl.length=0:=by
      have:=(List.getElem?_eq_some_iff.1 F).1;simp at this;omega
     rw[e1] at F
     rw[←m.len,e1] at G
     simp at F G;subst F;subst G
     exact hy
 ·have e:S.add i b sp=((S.room (if b.isSome then 1 else 0) sp).1,0,(S.room (if b.isSome then 1 else 0) sp).2):=by
   unfold KM.St.add;simp only;rw[if_neg he]
  rw[e] at hQ
  exact ae (by simpa using he) (hQ K f Y H5 ai (C.trans J) m V)
end
end So
end
section
namespace So
open Go Go.Kx KM Rw Ge Sc Rg Mo Ds Rc
section
variable {H B:PH} {L R:List Ob} {k n:Nat} {A:Ds.DA} {X:Ad} {W:Wt} {S:KM.St}
theorem wK (h:aA H (aC B::bx A X W S R)):aA H (aC B::(Ig.dR X.s0 X.t0 X.s1 X.t1 S.m++(El A X W S++R))):=h
theorem zk {Q:Option Addr->PH->Prop} (h:aA H (aC B::bx A X W S R)) (a:Q (some X.ia) H):jj (some X.sa) H Q:=aE rfl (aD (aY (x:=some X.ia) h 11 rfl rfl a))
theorem fY {Q:Option Addr->PH->Prop} (h:aA H (aC B::bx A X W S R)) (a:Q (some X.ta) H):ji (some X.sa) H Q:=aE rfl (aD (aY (x:=some X.ta) h 11 rfl rfl a))
theorem yA {Q:Option Addr->PH->Prop} (h:aA H (aC B::bx A X W S R)) (a:Q (some X.da) H):mO (some X.sa) H Q:=aE rfl (aD (aY (x:=some X.da) h 11 rfl rfl a))
theorem En {Q:Option Addr->PH->Prop} (h:aA H (aC B::bx A X W S R)) (a:Q X.g H):mM (some X.sa) H Q:=aE rfl (aD (aY (x:=X.g) h 11 rfl rfl a))
theorem Eo {b m:Int} {Q:Bool->PH->Prop} (h:aA H (aC B::bx A X W S R)) (d:mq B X S.c) (ok:lq k S) (hm:0<=m/\m<=1000) (a:Q (S.has b m) H):nJ (some X.sa) b m H Q:=by
 have f:=ok.im.xG
 refine zk h (Ig.ur (n:=S.c.1.toNat) (d.im.ext h.base) (Ig.Gd (wK h) ok.im) ?_)
 have e:S.has b m=(((decide (1<=m)&&decide (m<=(S.c.1.toNat:Int)))&&decide (0<=b))&&decide (b<=(S.c.1.toNat:Int)-m)):=by
  rw[KM.St.has,Im.has,ok.im.n0];simp only[Bool.and_assoc]
 rw[e] at a
 rw[bo (x:=(S.c.1.toNat:Int)-m) (by omega) (by omega)]
 exact cq (λk=>k) (cq (λk=>k) (cq (λk=>k) a))
theorem yB {mode:Int} {may:Bool} {Q:Int->PH->Prop} (h:aA H (aC B::bx A X W S R)) (d:A.a=X.da) (c:Q (S.asks mode may) H):ij (some X.sa) mode may H Q:=by
 refine aE rfl (cq (b:=S.n.mode != mode) (λkk=>aD (cr (x:=S.n.mode) h 11 rfl rfl kk)) ?_)
 unfold KM.St.asks at c
 refine aL (λc1=>?_) (λc1=>?_)
 ·rw[if_pos (by simpa using c1)] at c;exact c
 ·rw[if_neg (by simpa using c1)] at c
  refine aL (λc2=>?_) (λc2=>aD (aY (x:=some X.da) h 11 rfl rfl ?_))
  ·rw[if_pos c2] at c;exact c
  ·rw[if_neg (by rw[c2];simp)] at c
   rw[←d]
   refine BL (i:=4) h rfl (aL (λc3=>?_) (λc3=>?_))
   ·rw[if_pos c3] at c;exact c
   ·rw[if_neg (by rw[c3];simp)] at c;exact c
theorem wS (a:S.d.off=false) {mode:Int} {may:Bool} (hm:mode=0∨S.n.mode=mode) (b:may=true):S.asks mode may=0:=by
 unfold KM.St.asks
 rw[if_neg (by omega),b,a];rfl
theorem bJ.live (h:bJ k S) (at':Int) (l:List Int):bJ k (S.live at' l):=⟨⟨h.c,h.dk,h.len,h.im,((h.tb.KZ S.c at' 1).gone S.c l),h.p1,h.p2,h.dQ,h.prev,h.vm⟩,h.lt,h.it,h.bl,h.xn,h.fit⟩
theorem vQ {at':Int} {p:Sl} {l:List Int} {Q:PH->Prop} (h:aA H (aC B::bx A X W S R)) (b:mq B X S.c) (ok:lq k S) (o:fv B p l) (C:l.length< 2 ^ 20)
 (w:∀H',aA H' (aC B::bx A X W (S.live at' l) R)->Q H'):kO (some X.sa) at' p H Q:=by
 have y:=ok.tb.v
 have m:=ok.c.2.2.1
 refine aD (aY (x:=some X.ta) h 11 rfl rfl (Us.Af h (b.ta.ext h.base) (b.g.ext h.base) ok.c 7 rfl (by rw[y];omega) ok.tb.vr (by decide) λH1 f=>?_))
 have f:aA H1 (aC B::bx A X W ({S with t:={S.t with v:=lF S.c S.t.v at' 1}}:KM.St) R):=f
 refine ax l.length (λi s u=>s=(i:Int)/\aA u (aC B::bx A X W ({S with t:={S.t with v:=wC S.c (lF S.c S.t.v at' 1) (l.take i)}}:KM.St) R)) ⟨rfl,f⟩ ?_
 rintro i s r again hi ⟨rfl,a⟩ d
 rw[o.bF]
 have tb:=(ok.tb.KZ S.c at' 1).gone S.c (l.take i)
 refine aL (λc1=>?_) (λc1=>?_)
 ·have e:i<l.length:=by simpa using c1
  refine aF (eJ (o.ext a.base) (by omega) (by omega) λx q=>?_)
  rw[Int.toNat_natCast] at q
  have j:wC S.c (lF S.c S.t.v at' 1) (l.take (i+1))=if 0<x then lF S.c (wC S.c (lF S.c S.t.v at' 1) (l.take i)) x (-1) else wC S.c (lF S.c S.t.v at' 1) (l.take i):=by
   rw[It.fk q];simp[wC]
  rw[bH (by omega)]
  refine aL (λc2=>?_) (λc2=>d e _ _ ⟨rfl,?_⟩)
  ·refine aD (aY (x:=some X.ta) a 11 rfl rfl (Us.Af a (b.ta.ext a.base) (b.g.ext a.base) ok.c 7 rfl (by have:=tb.v;rw[show(wC S.c (lF S.c S.t.v at' 1) (l.take i)).length=_ from this];omega) tb.vr (by decide) λz m=>d e _ _ ⟨rfl,?_⟩))
   rw[j,if_pos (by simpa using c2)]
   exact m
  ·rw[j,if_neg (by simpa using c2)];exact a
 ·have:i=l.length:=by simp at c1;omega
  subst this
  rw[List.take_length] at a
  exact w r a
end
end So
end
section
namespace So
open Go Go.Kx KM Rw Ge Sc Rg Mo Ds Rc
section
variable {H B:PH} {L R:List Ob} {k n:Nat} {A:Ds.DA} {X:Ad} {W:Wt} {S:KM.St}
theorem iJ.of {B:PH} {W:Wt} {S T:KM.St} (h:iJ B W S) (e1:T.n.lb=S.n.lb) (e2:T.n.lo=S.n.lo) (e3:T.w.blocks=S.w.blocks):iJ B W T:=⟨by rw[e1];exact h.lb,by rw[e2];exact h.lo,by rw[e3];exact h.len,λi x b c a=>h.at_ i x b c (by rw[e3] at a;exact a)⟩
theorem bJ.same (h:bJ k S) {T:KM.St} (a:T.c=S.c) (b:T.d=S.d) (e:T.t=S.t) (hw:T.w=S.w) (hm:Ig.dM S.c.1.toNat T.m):bJ k T:=by
 refine⟨⟨?_,?_,?_,?_,?_,?_,?_,?_,?_,?_⟩,?_,?_,?_,?_,?_⟩
 ·rw[a];exact h.c
 ·rw[b];exact h.dk
 ·rw[a,b];exact h.len
 ·rw[a];exact hm
 ·rw[a,e];exact h.tb
 ·rw[a,hw];exact h.p1
 ·rw[a,hw];exact h.p2
 ·rw[hw];exact h.dQ
 ·rw[hw];exact h.prev
 ·rw[hw];exact h.vm
 ·rw[a,hw];exact h.lt
 ·rw[hw];exact h.it
 ·rw[hw];exact h.bl
 ·rw[hw];exact h.xn
 ·rw[a,hw];exact h.fit
structure Vn (k:Nat) (S:KM.St) (T:KM.St):Prop where
 ok:bJ (k+16) T
 c:T.c=S.c
 n:T.n=S.n
 m:T.m=S.m
 len:T.d.now.length=S.d.now.length
theorem yj (h:bJ k S) (hk:k+40< 2 ^ 28) {i:iY} {b:Option Bs} {sp:Bool} (hi:cL i=true) (j:b.isSome=cN i) (f:∀x,b=some x->x.length=64/\bU x):Vn k S (S.add i b sp).1/\((S.add i b sp).2.2=0->b.isSome=true->1<=(S.add i b sp).2.1/\(S.add i b sp).2.1<=4095):=by
 have d:(if b.isSome then(1:Int) else 0)=0∨(if b.isSome then(1:Int) else 0)=1:=by split<;>simp
 have a:=JE h hk d sp
 by_cases he:(S.room (if b.isSome then 1 else 0) sp).2=0
 ·have e:S.add i b sp=((S.room (if b.isSome then 1 else 0) sp).1.hold i b,if b.isSome then(S.room (if b.isSome then 1 else 0) sp).1.first+(S.room (if b.isSome then 1 else 0) sp).1.w.blocks.length else 0,0):=by
   unfold KM.St.add;simp only;rw[if_pos he]
  have hf:=a.fits he
  rw[e]
  obtain⟨o1,o2,o3,l,o,_⟩:=a
  generalize(S.room (if b.isSome then 1 else 0) sp).1=T at*
  refine⟨⟨o1.hold hi j f hf,o2,o3,l,o⟩,λ_ g=>?_⟩
  have p:=Sc.mY o1.c o1.p1
  have:=o1.p2;have:=o1.c.2.2.2.2;have:=sZ o1.c;have:=o1.DL
  show 1<=(if b.isSome then T.first+T.w.blocks.length else 0)/\(if b.isSome then T.first+T.w.blocks.length else 0)<=4095
  rw[if_pos g]
  unfold KM.St.first KM.behind;omega
 ·have e:S.add i b sp=((S.room (if b.isSome then 1 else 0) sp).1,0,(S.room (if b.isSome then 1 else 0) sp).2):=by
   unfold KM.St.add;simp only;rw[if_neg he]
  rw[e]
  exact⟨⟨a.ok,a.c,a.n,a.m,a.len⟩,λh=>absurd h he⟩
theorem Gw (ok:lq k S) {b m:Int} (h:S.has b m=true):0<=b/\b+m<=S.c.1.toNat/\1<=m:=by
 rw[KM.St.has,Im.has,ok.im.n0] at h
 simp only[Bool.and_eq_true,decide_eq_true_eq] at h
 omega
theorem Gx (ok:bJ k S) (hk:k+40< 2 ^ 28) {b:Int} {data:Bs} (hm:S.n.mode=1) (g:S.has b 1=true) (h:data.length=64) (i:bU data) (he:(S.add (1,b,0,0) (some data) false).2.2=0) (hi:cL (1,b,0,0)=true):
 S.lay true b data=(({(S.add (1,b,0,0) (some data) false).1 with n:={S.n with seq:=S.n.seq+1},m:=S.m.put true b (S.add (1,b,0,0) (some data) false).2.1}:KM.St).live (S.add (1,b,0,0) (some data) false).2.1 [gone (dz S.m.l1 b) (S.add (1,b,0,0) (some data) false).2.1],0):=by
 have l:cN (1,b,0,0)=true:=by rw[cN,hi];rfl
 obtain⟨P,c⟩:=yj (sp:=false) ok hk hi (b:=some data) (by rw[l];rfl) (λx o=>by cases o;exact⟨h,i⟩)
 have f:=wS ok.dk.off (S:=S) (mode:=1) (may:=S.has b 1&&data.length==64) (.inr hm) (by rw[g,h];rfl)
 unfold KM.St.lay
 simp only[if_true]
 rw[f,if_neg (by simp),if_neg (by rw[he];simp)]
 have c:=c he rfl
 have p:=Gw ok.tolq g
 have d:∀(T:KM.St) (a:Int),T.m=S.m->1<=a/\a<=4095->T.m.lay true b a=S.m.put true b a:=λT a e f=>by
  rw[e,Im.lay,if_pos]
  rw[Im.has,ok.im.n0]
  simp only[bE,Bool.and_eq_true,decide_eq_true_eq];omega
 rw[d _ _ P.m c]
 have j:((S.add (1,b,0,0) (some data) false).1.m.fq true)=S.m.l1:=by rw[P.m];rfl
 rw[j,P.n]
theorem Sz (ok:bJ k S) (hk:k+40< 2 ^ 28) {b:Int} {data:Bs} (hm:S.n.mode=1) (g:S.has b 1=true) (e:data.length=64) (a:bU data) (he:(S.add (1,b,0,0) (some data) false).2.2=0) (hi:cL (1,b,0,0)=true):
 bJ (k+16) (S.lay true b data).1/\(S.lay true b data).1.c=S.c/\(S.lay true b data).1.d.now.length=S.d.now.length/\(S.lay true b data).1.n={S.n with seq:=S.n.seq+1}/\(S.lay true b data).2=0:=by
 rw[Gx ok hk hm g e a he hi]
 have h:cN (1,b,0,0)=true:=by rw[cN,hi];rfl
 obtain⟨P,l⟩:=yj (sp:=false) ok hk hi (b:=some data) (by rw[h];rfl) (λx i=>by cases i;exact⟨e,a⟩)
 obtain⟨o1,o2,o3,j,f⟩:=P
 generalize(S.add (1,b,0,0) (some data) false).2.1=at'
 generalize(S.add (1,b,0,0) (some data) false).1=T at o1 o2 o3 j f
 refine⟨bJ.live (S:=({T with n:={S.n with seq:=S.n.seq+1},m:=S.m.put true b at'}:KM.St)) (o1.same rfl rfl rfl rfl ?_) _ _,o2,f,rfl,rfl⟩
 rw[o2];exact ok.im.put true b at'
theorem Ht {b:Int} {data:Bs} {p:Sl} {Q:Int->PH->Prop} (h:aA H (aC B::bx A X W S R)) (O:A.a=X.da) (u:mq B X S.c) (hW:iJ B W S) (ok:bJ k S) (hk:k+40< 2 ^ 28)
 (hm:S.n.mode=1) (D:S.has b 1=true) (E:Bytes B p data) (j:data.length=64) (o:bU data) (he:(S.add (1,b,0,0) (some data) false).2.2=0) (hi:cL (1,b,0,0)=true) (ab:0<=S.n.seq/\S.n.seq< 2 ^ 40)
 (t:∀G K y H',G.a=X.da->Ext B y->iJ y K (S.lay true b data).1->aA H' (aC y::bx G X K (S.lay true b data).1 R)->Q 0 H'):oI (some X.sa) b p H Q:=by
 have U:cN (1,b,0,0)=true:=by rw[cN,hi];rfl
 obtain⟨P,d⟩:=yj (sp:=false) ok hk hi (b:=some data) (by rw[U];rfl) (λx F=>by cases F;exact⟨j,o⟩)
 have d:=d he rfl
 have aa:=Gw ok.tolq D
 rw[Gx ok hk hm D j o he hi] at t
 refine Eo h u ok.tolq (by omega) ?_
 rw[D]
 refine aF (ae rfl ?_)
 rw[E.bF,j]
 refine yB h O ?_
 rw[wS (mode:=1) (may:=(((64:Nat):Int)==64)) ok.dk.off (.inr hm) rfl]
 refine aE rfl (aD (aY (x:=some X.wa) h 11 rfl rfl ?_))
 refine zR (i:=(1,b,0,0)) (b:=some data) h O u hW ok hk hi (show(1:Int)≠7 by decide) (by rw[U];rfl) (by rw[E.bF,j];rfl) (λx F=>by cases F;exact⟨⟨j,o⟩,E⟩) λw e I H1 M r v z=>?_
 rw[he]
 obtain⟨o1,o2,o3,q,o5⟩:=P
 generalize(S.add (1,b,0,0) (some data) false).2.1=at' at d t ⊢
 generalize(S.add (1,b,0,0) (some data) false).1=T at z v o1 o2 o3 q o5 t
 refine aE rfl (aD (cr (x:=T.n.seq) z 11 rfl rfl (aD ?_)))
 rw[o3,bo (x:=S.n.seq+1) (by omega) (by omega)]
 refine jy (xH (some X.da) X.g (some X.ta) (some X.ia) (some X.wa) (xx ({T with n:={S.n with seq:=S.n.seq+1}}:KM.St)) T.n.slot e.lb e.lo) z 11 rfl (by simp) rfl (by rw[show xx T=(S.n.mode,S.n.view,S.n.aV,S.n.seq,S.n.done,S.n.aO,S.n.gen,0,0,0) by simp only[xx,o3]];rfl) λZ f=>?_
 have f:aA Z (aC I::bx w X e ({T with n:={S.n with seq:=S.n.seq+1}}:KM.St) R):=by rw[o3] at f;exact f
 refine aD (aY (x:=some X.ia) f 11 rfl rfl ?_)
 have V:Ig.dM S.c.1.toNat T.m:=by rw[q];exact ok.im
 refine Ig.fx (wK f) (u.im.ext r) V (by omega) ⟨d.1,by omega⟩ λH3 C=>?_
 have C:aA H3 (aC I::bx w X e ({T with n:={S.n with seq:=S.n.seq+1},m:=T.m.put true b at'}:KM.St) R):=C
 refine sX (enc:=i64) (l:=[gone (dz (T.m.fq true) b) at']) C rfl rfl λac J H4 s hr h4=>?_
 have Y:lq (k+16) ({T with n:={S.n with seq:=S.n.seq+1},m:=T.m.put true b at'}:KM.St):=(o1.same (T:=({T with n:={S.n with seq:=S.n.seq+1},m:=T.m.put true b at'}:KM.St)) rfl rfl rfl rfl (by rw[o2,q];exact ok.im.put true b at')).tolq
 refine vQ h4 (by show mq J X T.c;rw[o2];exact u.ext (r.trans s)) Y hr (by simp) λH5 N=>?_
 have et:T.m.fq true=S.m.l1:=by rw[q];rfl
 rw[et,q] at N
 exact t w e J H5 M (r.trans s) ((v.ext s).of (by show S.n.lb=_;rw[o3]) (by show S.n.lo=_;rw[o3]) rfl) N
end
end So
end
section
namespace So
open Go Go.Kx KM Rw Ge Sc Rg Mo Ds Rc
section
variable {H B:PH} {L R:List Ob} {k n:Nat} {A:Ds.DA} {X:Ad} {W:Wt} {S:KM.St}
theorem bJ.flush (h:bJ k S):bJ (k+1) ({S with d:=S.d.flush}:KM.St):=by
 refine⟨⟨h.c,h.dk.flush,?_,h.im,h.tb,h.p1,h.p2,⟨h.dQ.1,?_⟩,h.prev,h.vm⟩,h.lt,h.it,h.bl,h.xn,h.fit⟩
 ·show _<=(S.d.flush.now.length:Int)
  rw[nS h.dk];exact h.len
 ·have:=h.dQ.2;show S.w.p.2.2.1<=((k+1:Nat):Int);omega
theorem Gy (h:bJ k S) (hk:k+1< 2 ^ 28):bJ (k+9) S.kv/\S.kv.c=S.c/\S.kv.n=S.n/\S.kv.m=S.m/\S.kv.d.now.length=S.d.now.length/\S.kv.w.items=[]/\S.kv.w.blocks=[]:=by
 obtain⟨e1,e2,e3,a,e5,b,e,_⟩:=h.emit hk
 unfold KM.St.kv
 exact⟨e1.flush,a,e5,b,(nS e1.dk).trans e,e2,e3⟩
theorem Ka {Q:Int->PH->Prop} (h:aA H (aC B::bx A X W S R)) (t:A.a=X.da) (w:mq B X S.c) (v:iJ B W S) (ok:bJ k S) (hk:k+10< 2 ^ 28)
 (u:∀f g e H',f.a=X.da->Ext B e->iJ e g S.kv->aA H' (aC e::bx f X g S.kv R)->Q 0 H'):oJ (some X.sa) H Q:=by
 obtain⟨e1,e2,e3,z,e5,C,D,_⟩:=ok.emit (by omega)
 refine aD (aY (x:=some X.wa) h 11 rfl rfl (xz h t w v ok (by omega) λy r p H1 d m b l=>aE rfl (aD (aY (x:=some X.da) l 11 rfl rfl ?_))))
 rw[←d]
 refine yf (i:=4) l rfl e1.dk (by omega) λo q j s=>?_
 exact u o r p q (j.trans d) m ⟨b.lb,b.lo,b.len,b.at_⟩ s
theorem EE (ok:bJ k S) {ep:Int} (hm:S.n.mode=1) (a:ep=S.n.aV+1) (he:(S.add (3,0,0,ep) none false).2.2=0):
 S.mark ep=(({(S.add (3,0,0,ep) none false).1.kv with n:={(S.add (3,0,0,ep) none false).1.kv.n with aV:=ep,seq:=(S.add (3,0,0,ep) none false).1.kv.n.seq+1,done:=(S.add (3,0,0,ep) none false).1.kv.n.seq+1},m:=(S.add (3,0,0,ep) none false).1.kv.m.nR.1}:KM.St).live 0 (S.add (3,0,0,ep) none false).1.kv.m.nR.2,0):=by
 have b:=wS ok.dk.off (S:=S) (mode:=1) (may:=ep==S.n.aV+1) (.inr hm) (by simp[a])
 unfold KM.St.mark
 simp only
 rw[b,if_neg (by simp),if_neg (by rw[he];simp)]
theorem On {ep:Int} (h:1<=ep/\ep<=2147483647):cL (3,0,0,ep)=true/\cN (3,0,0,ep)=false:=by
 have e:cL (3,0,0,ep)=true:=by simp[cL,bE];omega
 exact⟨e,by rw[cN,e];rfl⟩
theorem RB (ok:bJ k S) (hk:k+60< 2 ^ 28) {ep:Int} (hm:S.n.mode=1) (a:ep=S.n.aV+1) (j:1<=ep/\ep<=2147483647) (he:(S.add (3,0,0,ep) none false).2.2=0):
 bJ (k+26) (S.mark ep).1/\(S.mark ep).1.c=S.c/\(S.mark ep).1.d.now.length=S.d.now.length/\(S.mark ep).1.n={S.n with aV:=ep,seq:=S.n.seq+1,done:=S.n.seq+1}/\(S.mark ep).2=0/\(S.mark ep).1.w.items=[]:=by
 rw[EE ok hm a he]
 obtain⟨hi,i⟩:=On j
 obtain⟨P,_⟩:=yj (sp:=false) ok (by omega) hi (b:=none) (by rw[i];rfl) (λx l=>by cases l)
 obtain⟨o1,o2,o3,q,h⟩:=P
 generalize(S.add (3,0,0,ep) none false).1=T at o1 o2 o3 q h
 obtain⟨l1,l2,e,o,f,g,p⟩:=Gy o1 (by omega)
 generalize T.kv=U at l1 l2 e o f g p
 have en:U.n=S.n:=e.trans o3
 refine⟨(bJ.live (S:=({U with n:={U.n with aV:=ep,seq:=U.n.seq+1,done:=U.n.seq+1},m:=U.m.nR.1}:KM.St)) (l1.same rfl rfl rfl rfl ?_) _ _).mono (by omega),l2.trans o2,f.trans h,?_,rfl,g⟩
 ·show Ig.dM _ (gD U.m U.m.l1.length).1
  exact(Ig.xu l1.im _).1
 ·show({U.n with aV:=ep,seq:=U.n.seq+1,done:=U.n.seq+1}:Sn)=_
  rw[en]
theorem Kb {ep:Int} {Q:Int->PH->Prop} (h:aA H (aC B::bx A X W S R)) (K:A.a=X.da) (o:mq B X S.c) (hW:iJ B W S) (ok:bJ k S) (hk:k+60< 2 ^ 28)
 (hm:S.n.mode=1) (s:ep=S.n.aV+1) (hr:1<=ep/\ep<=2147483647) (he:(S.add (3,0,0,ep) none false).2.2=0) (aa:0<=S.n.seq/\S.n.seq< 2 ^ 40)
 (l:∀D E v H',D.a=X.da->Ext B v->iJ v E (S.mark ep).1->aA H' (aC v::bx D X E (S.mark ep).1 R)->Q 0 H'):pZ (some X.sa) ep H Q:=by
 rw[EE ok hm s he] at l
 obtain⟨hi,N⟩:=On hr
 obtain⟨P,_⟩:=yj (sp:=false) ok (by omega) hi (b:=none) (by rw[N];rfl) (λx z=>by cases z)
 refine aF (ae rfl (aD (cr (x:=S.n.aV) h 11 rfl rfl ?_)))
 rw[bo (x:=S.n.aV+1) (by omega) (by omega),show(ep==S.n.aV+1)=true by simp[s]]
 refine yB h K ?_
 rw[wS (mode:=1) ok.dk.off (.inr hm) rfl]
 refine aE rfl (aD (aY (x:=some X.wa) h 11 rfl rfl ?_))
 refine zR (i:=(3,0,0,ep)) (b:=none) h K o hW ok (by omega) hi (show(3:Int)≠7 by decide) (by rw[N];rfl) rfl (λx z=>by cases z) λA1 W1 Z H1 F t p I=>?_
 rw[he]
 obtain⟨o1,o2,o3,o4,o5⟩:=P
 generalize(S.add (3,0,0,ep) none false).2.1=at'
 generalize(S.add (3,0,0,ep) none false).1=T at I p o1 o2 o3 o4 o5 l
 have M:mq Z X T.c:=by rw[o2];exact o.ext t
 refine aE rfl (Ka I F M p o1 (by omega) λu d B2 H2 G Y r y=>aE rfl ?_)
 obtain⟨l1,l2,V,l4,l5,l6,l7⟩:=Gy o1 (by omega)
 generalize T.kv=U at y r l1 l2 V l4 l5 l6 l7 l
 have en:U.n=S.n:=V.trans o3
 refine aD (cr (x:=U.n.seq) y 11 rfl rfl (aD ?_))
 rw[show U.n.seq=S.n.seq by rw[en],bo (x:=S.n.seq+1) (by omega) (by omega),show S.n.seq=U.n.seq by rw[en]]
 refine jy (xH (some X.da) X.g (some X.ta) (some X.ia) (some X.wa) (xx ({U with n:={U.n with aV:=ep}}:KM.St)) U.n.slot d.lb d.lo) y 11 rfl (by simp) rfl rfl λH3 h3=>aD ?_
 refine jy (xH (some X.da) X.g (some X.ta) (some X.ia) (some X.wa) (xx ({U with n:={U.n with aV:=ep,seq:=U.n.seq+1}}:KM.St)) U.n.slot d.lb d.lo) h3 11 rfl (by simp) rfl rfl λH4 J=>aD ?_
 refine cr (x:=U.n.seq+1) J 11 rfl rfl (aD ?_)
 refine jy (xH (some X.da) X.g (some X.ta) (some X.ia) (some X.wa) (xx ({U with n:={U.n with aV:=ep,seq:=U.n.seq+1,done:=U.n.seq+1}}:KM.St)) U.n.slot d.lb d.lo) J 11 rfl (by simp) rfl rfl λH5 f=>?_
 have f:aA H5 (aC B2::bx u X d ({U with n:={U.n with aV:=ep,seq:=U.n.seq+1,done:=U.n.seq+1}}:KM.St) R):=f
 refine aD (aY (x:=some X.ia) f 11 rfl rfl ?_)
 have C:=t.trans Y
 refine Ig.Bl (wK f) (o.im.ext C) l1.im λH6 q h6=>?_
 obtain⟨w,e,O,j⟩:=h6.Bk.fz
 have e1:U.m.nR=gD U.m U.c.1.toNat:=by show gD U.m U.m.l1.length=_;rw[l1.im.n1]
 rw[←e1] at j O
 have j:aA H6 (aC w::bx u X d ({U with n:={U.n with aV:=ep,seq:=U.n.seq+1,done:=U.n.seq+1},m:=U.m.nR.1}:KM.St) R):=j
 have xp:lq (k+25) ({U with n:={U.n with aV:=ep,seq:=U.n.seq+1,done:=U.n.seq+1},m:=U.m.nR.1}:KM.St):=(l1.same (T:=({U with n:={U.n with aV:=ep,seq:=U.n.seq+1,done:=U.n.seq+1},m:=U.m.nR.1}:KM.St)) rfl rfl rfl rfl (by rw[e1];exact(Ig.xu l1.im _).1)).tolq
 have hlen:U.m.nR.2.length< 2 ^ 20:=by
  rw[e1]
  have:=(Ig.xu l1.im U.c.1.toNat).2;have:=l1.im.xG;omega
 refine vQ j (by show mq w X U.c;rw[l2,o2];exact o.ext (C.trans e)) xp (dE.list O) hlen λH8 h8=>?_
 exact l u d w H8 G (C.trans e) ((r.ext e).of rfl rfl rfl) h8
end
end So
end
section
namespace So
open Go Go.Kx KM Rw Ge Sc Rg Mo Ds Rc
section
variable {H B:PH} {L R:List Ob} {k n:Nat} {A:Ds.DA} {X:Ad} {W:Wt} {S:KM.St}
theorem qR {Q:xv->PH->Prop} (h:aA H (aC B::bx A X W S R)) (v:mq B X S.c) (ok:lq k S) (O:∀u H',Ext B u->aA H' (aC u::bx A X W S R)->Q S.status H'):fK (some X.sa) H Q:=by
 have hN:=ok.tb.l
 have T:=ok.c.2.2.2.1
 have hn:=ok.im.xG
 refine az h λa1 H1 z=>aE rfl (aD (nX (en:=cX) (x:=xx S) z 12 rfl (by simp) rfl (az z λa Y F=>bf (vs:=cX (xx S)) F rfl rfl λw b=>?_)))
 have b:aA w (aC B::aG a (cX (xx S))::aG a1 (cX lP)::bx A X W S R):=b
 refine aD (aY (x:=some X.ta) b 13 rfl rfl (aD (aY (x:=some X.ia) b 13 rfl rfl ?_)))
 refine Us.free_spec (v.ta.ext b.base) ((b.get 8 rfl:bT Us.bQ 2 w X.s S.t.l).jv Us.lh) (by omega) λD C=>cw (b.ext C) 13 rfl rfl ?_
 have G:=b.ext C
 have p:aA D (aC B::bx A X W S (aG a (cX (xx S))::aG a1 (cX lP)::R)):=G.Sx
 refine Ig.Mf (wK p) (v.im) ok.im λZ P=>?_
 have I:=p.ext P
 refine cB (j:=7) I 12 rfl (by simp) rfl λH6 J=>cB (j:=9) J 12 rfl (by simp) rfl λE i=>?_
 have i:aA E (aC B::bx A X W S (aG a (cX (S.n.mode,S.n.view,S.n.aV,S.n.seq,S.n.done,S.n.aO,S.n.gen,dZ S.t.l,0,tq S.m.l1))::aG a1 (cX lP)::R)):=i
 refine aD (aY (x:=some X.ia) i 11 rfl rfl (Ig.I9 i λc0 V H8 q rc M=>?_))
 refine tP c0 _ _ _ _ λyv=>Ig.DN (λpre _ u N=>N=El A X W S++(aG a (cX (S.n.mode,S.n.view,S.n.aV,S.n.seq,S.n.done,S.n.aO,S.n.gen,dZ S.t.l,pre.length,tq S.m.l1))::aG a1 (cX lP)::R))
  (wK M) (v.im.ext q) ok.im rc (λ_ _ _ _ _ _ h=>h) rfl ?_ ?_
 ·rintro pre x _ g N y K U r rfl d o
  refine⟨x.1,x.2,rfl,aY (x:=(pre.length:Int)) d 12 rfl rfl ?_⟩
  rw[bo (x:=(pre.length:Int)+1) (by omega) (by omega)]
  refine cB (j:=8) d 12 rfl (by simp) rfl λe f=>o () g _ e (.refl _) rfl ?_
  rw[List.length_append,List.length_singleton]
  exact f
 ·rintro _ g N y r rfl d
  have d:aA y (aC g::bx A X W S (aG a (cX S.status)::aG a1 (cX lP)::R)):=d
  refine bj (x:=S.status) d 12 rfl rfl rfl (eU (vs:=cX S.status) d 13 rfl rfl rfl λe f=>bj (x:=S.status) f 13 rfl rfl rfl ?_)
  exact O g e (q.trans r) (show aA e (aC g::(nY A X W S++aG a (cX S.status)::aG a1 (cX S.status)::R)) from f).jx.jx
end
end So
end
end Go.Proofs.YtbijlklgbfminaaGreat
section
namespace KM
def yk (c:bC) (aQ:Bool) (l:List Int) (d:List Bool) (r:Dk×List Int) (k:Int):Dk×List Int:=(r.1.put (gC c aQ k (1-dU 0 r.2 k)) (xd (cO l 15 d k)),r.2.set k.toNat (1-dU 0 r.2 k))
theorem Am (c:bC) (aQ:Bool) (l:List Int) (d:List Bool):∀(a:List Int) (r:Dk×List Int),C0 c aQ l d a r=a.foldl (yk c aQ l d) r
 |[],r=>rfl
 |k::a,r=>by rw[C0,Am c aQ l d a,List.foldl_cons];rfl
end KM
namespace Go.Proofs.YtbijlklgbfminaaGreat
namespace So
open Go Go.Kx KM Rw Ge Sc Rg Mo Ds Rc
section
variable {H B:PH} {L R:List Ob} {k n:Nat} {A:Ds.DA} {X:Ad} {W:Wt} {S:KM.St}
structure ve (c:bC) (l:List Int):Prop where
 len:(l.length:Int)=cR c
 r:∀x∈l,0<=x/\x<=1
theorem ve.dX {c:bC} {l:List Int} (h:ve c l) {k:Int}:ve c (l.set k.toNat (1-dU 0 l k)):=by
 refine⟨by rw[List.length_set];exact h.len,λx a=>?_⟩
 rcases List.mem_or_eq_of_mem_set a with a|a
 ·exact h.r x a
 ·have:0<=dU 0 l k/\dU 0 l k<=1:=by
   unfold dU
   split
   ·rw[List.getD]
    cases b:l[k.toNat]? with
    |none=>show(0:Int)<=0/\(0:Int)<=1;omega
    |some y=>exact h.r y (List.mem_of_getElem? b)
   ·omega
  omega
def An (M:Im):Prop:=(∀x∈M.l0,-1<=x/\x<=4095)/\∀x∈M.l1,-1<=x/\x<=4095
theorem Gz {M:Im} (h:An M) (aQ:Bool) (k:Int):kP (cO (M.fq aQ) 15 (M.cW aQ) k)=true:=by
 have b:(cO (M.fq aQ) 15 (M.cW aQ) k).length<=15:=by unfold cO;split<;>simp;omega
 simp only[kP,Bool.and_eq_true,decide_eq_true_eq,List.all_eq_true,KM.bY]
 refine⟨b,λx a=>?_⟩
 unfold cO at a
 split at a
 ·have a:=List.mem_of_mem_drop (List.mem_of_mem_take a)
  cases aQ
  ·exact h.1 x a
  ·exact h.2 x a
 ·cases a
structure Bn (k:Nat) (S:KM.St) (i:Nat) (r:Dk×List Int):Prop where
 ok:cM (k+i) r.1
 len:r.1.now.length=S.d.now.length
 sl:ve S.c r.2
theorem JF (ok:lq k S) {aQ:Bool} {i:Nat} {r:Dk×List Int} (P:Bn k S i r) (hi:(i:Int)<cR S.c) (f:An S.m):Bn k S (i+1) (yk S.c aQ (S.m.fq aQ) (S.m.cW aQ) r i)/\(dU 0 r.2 i=0∨dU 0 r.2 i=1)/\(0<=gC S.c aQ i (1-dU 0 r.2 i)/\gC S.c aQ i (1-dU 0 r.2 i)<r.1.now.length):=by
 have e:dU 0 r.2 (i:Int)=0∨dU 0 r.2 (i:Int)=1:=by
  have d:i<r.2.length:=by have:=P.sl.len;omega
  rw[Us.jG (x:=r.2[i]) (by omega) (by rw[Int.toNat_natCast];exact List.getElem?_eq_getElem d)]
  have:=P.sl.r r.2[i] (List.getElem_mem d);omega
 have a:=Gl (at':=0) (aQ:=aQ) (i:=i) (x:=1-dU 0 r.2 (i:Int)) P.ok ok.c (by rw[P.len];exact ok.len) hi (by omega)
 have hm:=Gz f aQ (i:Int)
 have b:(cO (S.m.fq aQ) 15 (S.m.cW aQ) (i:Int)).length<=15:=by
  simp only[kP,Bool.and_eq_true,decide_eq_true_eq] at hm;exact hm.1
 exact⟨⟨P.ok.put a (Pa.len b) Pa.tU,(uU P.ok a (Pa.len b)).trans P.len,P.sl.dX⟩,e,a⟩
theorem fB {aQ:Bool} {Q:Sl->Int->PH->Prop} (h:aA H (aC B::bx A X W S R)) (hA:A.a=X.da) (hX:mq B X S.c) (hW:iJ B W S) (ok:lq k S) (hk:k+10< 2 ^ 28) (hr:An S.m) (an:ve S.c S.n.lb) (ao:ve S.c S.n.lo)
 (hQ:∀o q j H',o.a=X.da->Ext B j->fv j q (S.iI aQ).2->Bn k S 5 (S.iI aQ)->aA H' (aC j::bx o X W ({S with d:=(S.iI aQ).1}:KM.St) R)->Q q 0 H'):oK (some X.sa) aQ H Q:=by
 have bu:=gE ok.c
 have bs:=ok.c.1
 have bt:((S.m.cW aQ).length:Int)=cR S.c:=by
  have h1:=(ok.im.cW aQ).d
  have h2:=ok.im.fq aQ
  rw[h2] at h1
  have:((pH S.c.1.toNat 15:Int))=cR S.c:=by simp only[pH,cR];omega
  omega
 refine fM h λa1 B1 H1 bp r1 h1=>fM h1 λa4 D H2 aw r4 h2=>az h2 λw H3 h3=>az h3.uM λe H4 h4=>?_
 have h4:aA H4 (aC D::bx A X W S (aG e [i64 0]::aG w [Sl.v Sl.nil]::R)):=h4.uM
 have ae:=bp.trans aw
 have F:∀{j H'},Ext D j->Ext j H'->aZ H' a1 [.pointer (some X.sa)]:=λx y=>((r1.ext aw).ext x).ext y
 have V:∀{j H'},Ext D j->Ext j H'->aZ H' a4 [.bool aQ]:=λx y=>(r4.ext x).ext y
 have bh:∀(Q2:Addr->PH->Prop),(∀b q B5 H5,Ext D B5->aA H5 (aC B5::aW i64 q (if aQ then S.n.lo else S.n.lb)::bx A X W S (aG b [Sl.v q]::aG e [i64 0]::aG w [Sl.v Sl.nil]::R))->Q2 b H5)->
  aH .pointer H4 a1 λbk=>aN bk λa8=>fW 2 (a8.add 16) 1 0 λa9=>aH Sl.v H4 a9 λbl=>c6 bl H4 λbq a3=>ag a3 (row [.slice none 0 0] 23) λb a5=>aX a5 b [Sl.v bq] λG=>
   aH .bool G a4 λbm=>aM (λ(bv:Unit) (a6:PH)=>Q2 b a6) λap=>aJ bm (aH .pointer G a1 λaT=>aN aT λaI=>fW 2 (aI.add 16) 1 1 λaK=>aH Sl.v G aK λaU=>c6 aU G λaV ay=>aX ay b [Sl.v aV] λaB=>ap () aB) (ap () G):=λQ2 al=>by
  refine au (x:=some X.sa) (F (.refl _) h4.base) (aD ⟨_,⟨by omega,by omega,rfl⟩,?_⟩)
  refine cr (enc:=Sl.v) (x:=W.lb) h4 11 rfl rfl (uv ((hW.lb.ext ae).ext h4.base) (by have:=an.len;omega) λq H5 bb=>?_)
  have N:=h4.made bb
  refine az N λb H6 h6=>hC h6 1 rfl rfl λH7 C=>?_
  have C:aA H7 (aC D::aG b [Sl.v q]::aW i64 q S.n.lb::bx A X W S (aG e [i64 0]::aG w [Sl.v Sl.nil]::R)):=C
  refine au (en:=.bool) (x:=aQ) (V (.refl _) C.base) (aF (aL (λc=>?_) (λc=>?_)))
  ·refine au (x:=some X.sa) (F (.refl _) C.base) (aD ⟨_,⟨by omega,by omega,rfl⟩,?_⟩)
   refine cr (enc:=Sl.v) (x:=W.lo) C 13 rfl rfl (uv ((hW.lo.ext ae).ext C.base) (by have:=ao.len;omega) λU J ab=>?_)
   have O:=C.made ab
   refine hC O 2 rfl rfl λH9 T=>al b U D H9 (.refl _) ?_
   rw[if_pos c]
   have T:aA H9 (aC D::(([aW i64 U S.n.lo,aG b [Sl.v U]]++aW i64 q S.n.lb::(bx A X W S (aG e [i64 0]::aG w [Sl.v Sl.nil]::R))))):=T
   have E:aA H9 (aC D::aW i64 U S.n.lo::aG b [Sl.v U]::bx A X W S (aG e [i64 0]::aG w [Sl.v Sl.nil]::R)):=T.jx
   exact(show aA H9 (aC D::aG b [Sl.v U]::(aW i64 U S.n.lo::nY A X W S++(aG e [i64 0]::aG w [Sl.v Sl.nil]::R))) from E.swap).uM
  ·refine al b q D H7 (.refl _) ?_
   rw[if_neg (by rw[c];simp)]
   exact(show aA H7 (aC D::aG b [Sl.v q]::(aW i64 q S.n.lb::nY A X W S++(aG e [i64 0]::aG w [Sl.v Sl.nil]::R))) from C).uM
 refine bh _ λb q B5 H5 Y N=>?_
 have av:=ae.trans Y
 refine au (x:=some X.sa) (F Y N.base) (aD (aY (x:=some X.ia) N 12 rfl rfl (au (en:=.bool) (x:=aQ) (V Y N.base) (Ig.fY ((hX.im.ext av).ext N.base) (fM N λcd B6 H6 ax bi h6=>?_)))))
 have af:=av.trans ax
 have bd:=(ok.im.cW aQ).DL
 have aR:ve S.c (if aQ then S.n.lo else S.n.lb):=by split;exact ao;exact an
 have ah:S.iI aQ=(qO (S.m.cW aQ) (S.m.cW aQ).length).foldl (yk S.c aQ (S.m.fq aQ) (S.m.cW aQ)) (S.d,if aQ then S.n.lo else S.n.lb):=Am _ _ _ _ _ _
 refine vX cd _ _ _ _ (Ig.FD (a:=if aQ then X.io else X.ib) (s:=if aQ then X.s1 else X.s0) (t:=if aQ then X.t1 else X.t0) (per:=15) (d:=S.m.cW aQ)
  (λi _ M=>∃o r j,r=(qO (S.m.cW aQ) i).foldl (yk S.c aQ (S.m.fq aQ) (S.m.cW aQ)) (S.d,if aQ then S.n.lo else S.n.lb)/\o.a=X.da/\Ext B6 j/\Bn k S i r/\
   aA M (aC j::aW i64 q r.2::bx o X W ({S with d:=r.1}:KM.St) (aG b [Sl.v q]::aG e [i64 0]::aG w [Sl.v Sl.nil]::R))) bd
  ?_ ⟨A,(S.d,if aQ then S.n.lo else S.n.lb),B6,rfl,hA,.refl _,⟨ok.dk,rfl,aR⟩,h6⟩ ?_ ?_ ?_)
 ·rintro i _ M ⟨o,r,j,_,_,u,_,f⟩
  refine⟨by have:=((bi.ext u).ext f.base).cell (i:=0) rfl;rw[add_zero'] at this;rw[this],?_,?_⟩
  ·have:=(hX.im.ext (af.trans u)).ext f.base
   cases aQ;exact this.rb;exact this.ro
  ·cases aQ
   ·exact f.list (enc:=Value.bool) 3 rfl
   ·exact f.list (enc:=Value.bool) 5 rfl
 ·rintro i _ M hi ⟨o,r,j,er,eA,u,P,f⟩ hd
  exact⟨o,r,j,by rw[Ig.Ah hd];exact er,eA,u,⟨P.ok.mono (by omega),P.len,P.sl⟩,f⟩
 ·rintro i _ M K hi ⟨o,r,j,er,eA,u,P,f⟩ hd ai _
  have am:(i:Int)<cR S.c:=by omega
  obtain⟨P2,hg,bc⟩:=JF ok P am hr (aQ:=aQ)
  have ar:=af.trans u
  have ac:=(Y.trans (ax.trans u))
  have hm:=Gz hr aQ (i:Int)
  have aP:(cO (S.m.fq aQ) 15 (S.m.cW aQ) (i:Int)).length<=15:=by
   simp only[kP,Bool.and_eq_true,decide_eq_true_eq] at hm;exact hm.1
  refine⟨_,rfl,au (x:=some X.sa) (F ac f.base) (aD (aY (x:=some X.ia) f 12 rfl rfl (au (en:=.bool) (x:=aQ) (V ac f.base) ?_)))⟩
  have be:aA M (aC j::(Ig.dR X.s0 X.t0 X.s1 X.t1 S.m++(aW i64 q r.2::(El o X W ({S with d:=r.1}:KM.St)++(aG b [Sl.v q]::aG e [i64 0]::aG w [Sl.v Sl.nil]::R))))):=(show aA M (aC j::aW i64 q r.2::(Ig.dR X.s0 X.t0 X.s1 X.t1 S.m++(El o X W ({S with d:=r.1}:KM.St)++(aG b [Sl.v q]::aG e [i64 0]::aG w [Sl.v Sl.nil]::R)))) from f).uM
  refine Ig.DM (aQ:=aQ) (k:=(i:Int)) be (hX.im.ext ar) ok.im λbw H7 C=>?_
  refine Pa.dt (l:=cO (S.m.fq aQ) 15 (S.m.cW aQ) (i:Int)) (C.list (enc:=i64) 1 rfl) (by omega) (λ_ bz J ab=>?_) (λhf=>absurd hm (by rw[hf];simp))
  have O:=C.made ab
  refine aE rfl (gX O λZ I aS T=>?_)
  have E:aA J (aC Z::aW i64 q r.2::bx o X W ({S with d:=r.1}:KM.St) (aG b [Sl.v q]::aG e [i64 0]::aG w [Sl.v Sl.nil]::R)):=(show aA J (aC Z::(Ig.dR X.s0 X.t0 X.s1 X.t1 S.m++aW i64 q r.2::(El o X W ({S with d:=r.1}:KM.St)++(aG b [Sl.v q]::aG e [i64 0]::aG w [Sl.v Sl.nil]::R)))) from T.ak).Bk
  have bg:i<r.2.length:=by have:=P.sl.len;omega
  have bf:r.2[((i:Int)).toNat]?=some (dU 0 r.2 (i:Int)):=Us.Sq (by omega) (by omega)
  have vq:dE i64 J q r.2:=E.get 1 rfl
  refine dO (enc:=Sl.v) (x:=q) E 13 rfl (dO (enc:=Sl.v) (x:=q) E 13 rfl (eJ vq.list (by omega) (by omega) λz hz=>?_))
  rw[bf] at hz
  have ez:=Option.some.inj hz
  subst ez
  rw[bo (x:=1-dU 0 r.2 (i:Int)) (by omega) (by omega)]
  refine tf E 1 rfl (by omega) (by omega) rfl λaj p=>?_
  have ad:=ac.trans I
  have bn:=ar.trans I
  have p:aA aj (aC Z::aW i64 q (r.2.set ((i:Int)).toNat (1-dU 0 r.2 (i:Int)))::bx o X W ({S with d:=r.1}:KM.St) (aG b [Sl.v q]::aG e [i64 0]::aG w [Sl.v Sl.nil]::R)):=p
  have aq:=F ad p.base
  have v11:dE i64 aj q (r.2.set ((i:Int)).toNat (1-dU 0 r.2 (i:Int))):=p.get 1 rfl
  refine au (x:=some X.sa) aq (aD (aY (x:=some X.da) p 12 rfl rfl (au (x:=some X.sa) aq (aD (aY (x:=X.g) p 12 rfl rfl (au (en:=.bool) (x:=aQ) (V ad p.base) (dO (enc:=Sl.v) (x:=q) p 13 rfl (eJ v11.list (by omega) (by rw[List.length_set];omega) λz hz=>?_))))))))
  rw[List.getElem?_set_self (by rw[Int.toNat_natCast];exact bg)] at hz
  have ez:=Option.some.inj hz
  subst ez
  refine pI ((hX.g.ext bn).ext p.base) ok.c ⟨by omega,am⟩ (by omega) λbr bj=>?_
  have aa:=p.ext bj
  refine cw aa 12 rfl rfl (gd (F ad aa.base) ?_)
  rw[←eA]
  refine wQ (i:=5) aa rfl P.ok (by omega) bc aS (Pa.len aP) λa0 a2 aO ba=>aE rfl (ai () a2 ⟨a0,yk S.c aQ (S.m.fq aQ) (S.m.cW aQ) r i,Z,?_,aO.trans eA,u.trans I,P2,?_⟩)
  ·rw[Ig.Ai hd,List.foldl_append,←er];rfl
  ·exact ba
 ·rintro _ M ⟨o,r,j,er,eA,u,P,f⟩
  rw[←ah] at er
  subst er
  refine aE rfl (dO (enc:=Sl.v) (x:=q) f 13 rfl (hC f 15 rfl rfl λH7 C=>hC C 14 rfl rfl λJ O=>dO (enc:=Sl.v) (x:=q) O 15 rfl (dO (x:=(0:Int)) O 14 rfl ?_)))
  refine gX (show aA J (aC j::aW i64 q (S.iI aQ).2::(nY o X W ({S with d:=(S.iI aQ).1}:KM.St)++aG b [Sl.v q]::aG e [i64 0]::aG w [Sl.v q]::R)) from O) λZ I hq T=>?_
  exact hQ o q Z J eA (af.trans (u.trans I)) hq ⟨P.ok.mono (by omega),P.len,P.sl⟩ T.jx.jx.jx
end
end So
end Go.Proofs.YtbijlklgbfminaaGreat
end
namespace Go.Proofs.YtbijlklgbfminaaGreat
section
namespace So
open Go Go.Kx KM Rw Ge Sc Rg Mo Ds Rc
section
variable {H B:PH} {L R:List Ob} {k n:Nat} {A:Ds.DA} {X:Ad} {W:Wt} {S:KM.St}
theorem Ep {i:Nat} {wa:Addr} {d g t:Option Addr} {p:Pos} {jM kD:Sl} {Q:Pos->PH->Prop} (h:aA H (aC B::L)) (hi:L[i]?=some (aG wa (Wr.vS d g t p jM kD))) (e:∀H',aA H' (aC B::L)->Q p H'):lK (some wa) H Q:=
 az h λa1 H1 a=>aE rfl (aD (nX (en:=s5) (x:=p) a (i+2) hi (by simp) rfl (bf (vs:=s5 p) a rfl rfl λc b=>bk (x:=p) b rfl rfl (e c b.ak))))
theorem Mt {Q:Pos->PH->Prop} (h:aA H (aC B::bx A X W S R)) (e:∀H',aA H' (aC B::bx A X W S R)->Q S.w.p H'):qh (some X.sa) H Q:=
 az h λa1 H1 a=>aE rfl (aD (aY (x:=some X.wa) a 12 rfl rfl (Ep (i:=8) a rfl λf d=>bf (vs:=s5 S.w.p) d rfl rfl λc b=>bk (x:=S.w.p) b rfl rfl (e c b.ak))))
def qk (S:KM.St) (lb lo:List Int):Dk:=(S.d.kQ (bN S.c (1-S.n.slot)) (chunks (tE S.c (S.tt lb lo)) (cD S.c).toNat)).flush
theorem JG (ok:lq k S) {lb lo:List Int} (hm:iU S.c (S.tt lb lo)=true) (b:S.n.slot=0∨S.n.slot=1):cM (k+5) (qk S lb lo)/\(qk S lb lo).now.length=S.d.now.length:=by
 have j:=kT ok.c
 have f:=jo.pB ok.c
 have h:=gE ok.c
 have g:base S.c=2+2*(cD S.c+2*cR S.c):=rfl
 have l:=ok.len
 have a:0<=bN S.c (1-S.n.slot)/\bN S.c (1-S.n.slot)+((cD S.c).toNat:Int)<=S.d.now.length:=by
  unfold bN
  rcases b with e|e<;>rw[e]<;>omega
 have P:=parts hm
 obtain⟨k1,k2⟩:=uw (i:=(cD S.c).toNat) ok.dk (zc ok.c P) (zd ok.c P) a.1 a.2 (Nat.le_refl _)
 exact⟨(k1.flush).mono (by omega),(nS k1).trans k2⟩
theorem G0 {b:Sl×Sl} {lb lo:List Int} {Q:Int->PH->Prop} (h:aA H (aC B::bx A X W S R)) (M:A.a=X.da) (hX:mq B X S.c) (ok:lq k S) (hk:k+10< 2 ^ 28) (ab:fv B b.1 lb) (ac:fv B b.2 lo) (hm:iU S.c (S.tt lb lo)=true) (ad:S.n.slot=0∨S.n.slot=1)
 (G:∀N E H',N.a=X.da->Ext B E->aA H' (aC E::bx N X W ({S with d:=qk S lb lo}:KM.St) R)->Q 0 H'):nO (some X.sa) b H Q:=by
 have am:=kT ok.c
 have ah:=jo.pB ok.c
 have al:=gE ok.c
 have ak:base S.c=2+2*(cD S.c+2*cR S.c):=rfl
 have hl:=ok.len
 have P:=parts hm
 have ai:=P.gen
 have C:0<=bN S.c (1-S.n.slot)/\bN S.c (1-S.n.slot)+((cD S.c).toNat:Int)<=S.d.now.length:=by
  unfold bN
  rcases ad with e|e<;>rw[e]<;>omega
 have hN:=ok.tb.l
 have hV:=ok.tb.v
 have aj:=ok.c.2.2.2.1
 refine fM h λa1 B1 H1 p r1 o=>?_
 have e1:∀{E H'},Ext B1 E->Ext E H'->aZ H' a1 [Sl.v b.1,Sl.v b.2]:=λx y=>(r1.ext x).ext y
 refine aD (aY (x:=X.g) o 11 rfl rfl (aD (cr (x:=S.n.gen) o 11 rfl rfl (aD (cr (x:=S.n.view) o 11 rfl rfl (aD (cr (x:=S.n.mode) o 11 rfl rfl (aD (cr (x:=S.n.aV) o 11 rfl rfl (aD (cr (x:=S.n.seq) o 11 rfl rfl (aD (cr (x:=S.n.done) o 11 rfl rfl (aD (aY (x:=some X.wa) o 11 rfl rfl ?_)))))))))))))))
 have q1:=e1 (.refl _) o.base
 refine ic (by omega) (by omega) (aa (x:=b.1) q1 rfl (ic (by omega) (by omega) (aa (x:=b.2) q1 rfl (aD (aY (x:=some X.ta) o 11 rfl rfl ?_)))))
 refine Ep (i:=7) o rfl λH2 f=>?_
 have q2:=e1 (.refl _) f.base
 refine cw f 11 rfl rfl (cx q2 rfl (cx q2 rfl (iP f 11 rfl rfl (iP f 11 rfl rfl (iP f 11 rfl rfl (iP f 11 rfl rfl (iP f 11 rfl rfl (iP f 11 rfl rfl (cw f 11 rfl rfl ?_)))))))))
 refine Us.MV (fr:=true) ((hX.ta.ext p).ext f.base) ((f.get 6 rfl:bT Us.bQ 2 H2 X.s S.t.l).jv Us.lh) (f.list (enc:=i64) 7 rfl) (by rw[hN,hV]) (by omega) λag H3 Y=>?_
 have h3:=f.made Y
 obtain⟨B4,q,hv,j⟩:=h3.fz
 have ae:=hv.jv Us.lh
 have q4:=e1 q j.base
 refine cx q4 rfl (cx q4 rfl (iP j 11 rfl rfl (iP j 11 rfl rfl (iP j 11 rfl rfl (iP j 11 rfl rfl (iP j 11 rfl rfl (iP j 11 rfl rfl (cw j 11 rfl rfl ?_))))))))
 rw[bo (x:=S.n.gen+1) (by have:(S.tt lb lo).gen=S.n.gen+1:=rfl;omega) (by have:(S.tt lb lo).gen=S.n.gen+1:=rfl;omega)]
 have J:=(hX.g.ext (p.trans q))
 refine Rg.dt (r:=S.tt lb lo) (sb:=b.1) (so:=b.2) (ss:=ag) (J.ext j.base) ok.c ⟨(ab.ext (p.trans q)).ext j.base,(ac.ext (p.trans q)).ext j.base,ae.ext j.base⟩ hm λz U Z=>gX (j.made Z) λO K hz D=>aE rfl ?_
 refine aD (aY (x:=some X.da) D 11 rfl rfl (aD (aY (x:=X.g) D 11 rfl rfl (aD (aY (x:=S.n.slot) D 11 rfl rfl ?_)))))
 rw[bo (x:=1-S.n.slot) (by omega) (by omega)]
 refine Ge.qP ((J.ext K).ext D.base) ok.c (by omega) (cw D 11 rfl rfl ?_)
 have w:=zc ok.c P
 have F:=zd ok.c P
 obtain⟨k1,k2⟩:=uw (i:=(cD S.c).toNat) ok.dk w F C.1 C.2 (Nat.le_refl _)
 have eD:qk S lb lo=(S.d.kQ (bN S.c (1-S.n.slot)) (chunks (tE S.c (S.tt lb lo)) (cD S.c).toNat)).flush:=rfl
 rw[eD] at G
 generalize tE S.c (S.tt lb lo)=bs at hz w F k1 k2 G
 have h7:aA U (aC O::Ds.av A S.d::(Ig.dR X.s0 X.t0 X.s1 X.t1 S.m++((El A X W S).drop 1++R))):=(show aA U (aC O::(Ig.dR X.s0 X.t0 X.s1 X.t1 S.m++Ds.av A S.d::((El A X W S).drop 1++R))) from D).Bk
 rw[←M]
 refine jo.GJ (n:=(cD S.c).toNat) h7 ok.dk (by omega) hz w F C.1 C.2 λA8 T H8 I af u=>aE rfl ?_
 have u:=u.uM
 generalize S.d.kQ (bN S.c (1-S.n.slot)) (chunks bs (cD S.c).toNat)=D8 at u k1 k2 G
 have u:aA H8 (aC T::bx A8 X W ({S with d:=D8}:KM.St) R):=u
 refine aD (aY (x:=some X.da) u 11 rfl rfl ?_)
 rw[←M,←I]
 refine yf (i:=4) u rfl k1 (by omega) λA9 H9 V h9=>?_
 exact G A9 T H9 (V.trans (I.trans M)) (p.trans (q.trans (K.trans af))) h9
end
end So
end
section
namespace So
open Go Go.Kx KM Rw Ge Sc Rg Mo Ds Rc
section
variable {H B:PH} {L R:List Ob} {k n:Nat} {A:Ds.DA} {X:Ad} {W:Wt} {S:KM.St}
theorem bJ.CS (h:bJ k S) {m:Nat} {D:Dk} (a:cM m D) (b:D.now.length=S.d.now.length) (hm:k<=m):bJ m ({S with d:=D}:KM.St):=
 ⟨⟨h.c,a,by show _<=(D.now.length:Int);rw[b];exact h.len,h.im,h.tb,h.p1,h.p2,⟨h.dQ.1,by have:=h.dQ.2;show S.w.p.2.2.1<=(m:Int);omega⟩,h.prev,h.vm⟩,h.lt,h.it,h.bl,h.xn,h.fit⟩
theorem Mu {N:Nat} {t:Tb} (h:gF N t):gF N ⟨AT t.l t.v,t.v⟩:=by
 refine⟨(Us.tX _ _ _).trans h.l,h.v,h.vr,λu hu=>?_⟩
 obtain⟨i,hi⟩:=List.getElem?_of_mem hu
 rw[show AT t.l t.v=dm t.l t.v t.l.length from rfl,Us.xo] at hi
 split at hi
 ·obtain⟨y,a,rfl⟩:=Option.map_eq_some_iff.1 hi
  have:=h.us y (List.mem_of_getElem? a)
  exact⟨by simp,this.2⟩
 ·exact h.us u (List.mem_of_getElem? hi)
theorem G1 {N:Nat} {M:Im} (h:Ig.dM N M):Ig.dM N M.clean:=⟨h.p0.clean,h.p1.clean,h.n0,h.n1,h.xG,h.CN⟩
def zl (S:KM.St):Dk×List Int:=S.emit.iI false
def Ao (S:KM.St):Dk×List Int:=(S.emit.dc (zl S).1).iI true
def CT (S:KM.St):KM.St:=(S.emit.dc (zl S).1).dc (Ao S).1.flush
theorem G2 {S:KM.St} (a:S.emit.c=S.c) (b:S.emit.n=S.n):S.check=(({(CT S).dc (qk (CT S) (zl S).2 (Ao S).2) with n:={S.emit.n with gen:=S.emit.n.gen+1,slot:=1-S.emit.n.slot,lb:=(zl S).2,lo:=(Ao S).2},m:=S.emit.m.clean,t:={S.emit.t with l:=AT S.emit.t.l S.emit.t.v}}:KM.St),J9 S.emit.t.l S.emit.t.v):=by
 unfold KM.St.check qk CT Ao zl
 dsimp only[KM.St.dc,KM.St.tt]
 rw[a,b]
theorem zm (ok:lq k S) (j:An S.m) (g:ve S.c S.n.lb) (h:ve S.c S.n.lo) (aQ:Bool):Bn k S 5 (S.iI aQ):=by
 have q:=gE ok.c
 have o:=ok.c.1
 have p:((S.m.cW aQ).length:Int)=cR S.c:=by
  have e:=(ok.im.cW aQ).d
  have f:=ok.im.fq aQ
  rw[f] at e
  have:((pH S.c.1.toNat 15:Int))=cR S.c:=by simp only[pH,cR];omega
  omega
 have a:ve S.c (if aQ then S.n.lo else S.n.lb):=by split;exact h;exact g
 have key:∀i,i<=(S.m.cW aQ).length->Bn k S i ((qO (S.m.cW aQ) i).foldl (yk S.c aQ (S.m.fq aQ) (S.m.cW aQ)) (S.d,if aQ then S.n.lo else S.n.lb)):=by
  intro i
  induction i with
  |zero=>intro _;exact⟨ok.dk,rfl,a⟩
  |succ i l=>
   intro hi
   have P:=l (by omega)
   cases b:(S.m.cW aQ).getD i false with
   |false=>rw[Ig.Ah b];exact⟨P.ok.mono (by omega),P.len,P.sl⟩
   |true=>
    rw[Ig.Ai b,List.foldl_append]
    exact(JF ok P (by omega) j).1
 have:=key _ (Nat.le_refl _)
 rw[KM.St.iI,Am]
 exact⟨this.ok.mono (by omega),this.len,this.sl⟩
structure Ap (S:KM.St):Prop where
 refs:An S.m
 lb:ve S.c S.n.lb
 lo:ve S.c S.n.lo
 slot:S.n.slot=0∨S.n.slot=1
 may:iU S.c ((CT S).tt (zl S).2 (Ao S).2)=true
theorem DT {Q:Sl->Int->PH->Prop} (h:aA H (aC B::bx A X W S R)) (hA:A.a=X.da) (hX:mq B X S.c) (hW:iJ B W S) (ok:bJ k S) (hk:k+60< 2 ^ 28) (P:Ap S)
 (hQ:∀A' W' q F H',A'.a=X.da->Ext B F->iJ F W' S.check.1->fv F q S.check.2->bJ (k+40) S.check.1->S.check.1.d.now.length=S.d.now.length->aA H' (aC F::bx A' X W' S.check.1 R)->Q q 0 H'):iR (some X.sa) H Q:=by
 refine yB h hA ?_
 rw[wS (mode:=0) (may:=true) ok.dk.off (.inl rfl) rfl]
 refine aE rfl (aD (aY (x:=some X.wa) h 11 rfl rfl (xz h hA hX hW ok (by omega) λA1 f B1 H1 an aj J h1=>aE rfl ?_)))
 obtain⟨o1,o2,o3,o4,o5,o6,o7,o8,o9⟩:=ok.emit (by omega)
 obtain⟨p1,p2,p3,p4,p5⟩:=P
 rw[G2 o4 o5] at hQ
 unfold CT Ao zl at p5 hQ
 rw[←o4] at p2 p3 p5
 rw[←o5] at p2 p3 p4
 rw[←o6] at p1
 have U:mq B1 X S.emit.c:=by rw[o4];exact hX.ext aj
 have ah:S.emit.d.now.length=S.d.now.length:=o7
 generalize S.emit=T at h1 J o1 ah p1 p2 p3 p4 p5 hQ U
 refine az h1 λD H2 h2=>?_
 have h2:aA H2 (aC B1::bx A1 X f T (aG D (jo.s2 (Sl.nil,Sl.nil))::R)):=h2.uM
 have M:Bn (k+8) T 5 (T.iI false):=zm o1.tolq p1 p2 p3 false
 have ai:bJ (k+13) (T.dc (T.iI false).1):=o1.CS M.ok M.len (by omega)
 have u:Bn (k+13) (T.dc (T.iI false).1) 5 ((T.dc (T.iI false).1).iI true):=zm ai.tolq p1 p2 p3 true
 generalize aq:T.iI false=r at*
 generalize ar:(T.dc r.1).iI true=o at*
 have av:bJ (k+18) (T.dc o.1):=o1.CS u.ok (u.len.trans M.len) (by omega)
 refine ax 2 (λi st Hk=>st=(i:Int)/\∃A' x F,A'.a=X.da/\Ext B1 F/\(1<=i->fv F x.1 r.2)/\(2<=i->fv F x.2 o.2)/\aA Hk (aC F::bx A' X f (T.dc (if i=0 then T.d else if i=1 then r.1 else o.1)) (aG D (jo.s2 x)::R)))
  ⟨rfl,A1,(Sl.nil,Sl.nil),B1,an,.refl _,λh=>absurd h (by omega),λh=>absurd h (by omega),h2⟩ ?_
 rintro i st H3 again hi ⟨rfl,A3,x,B3,O,s,K,V,h3⟩ af
 refine aL (λc1=>?_) (λc1=>?_)
 ·have ag:i< 2:=by simp at c1;omega
  have al:i=0∨i=1:=by omega
  rcases al with rfl|rfl
  ·refine fB (aQ:=false) (S:=T) h3 O (U.ext s) (J.ext s) o1.tolq (by omega) p1 p2 p3 λA4 q B4 H4 I Y N _ C=>?_
   rw[aq] at N C
   refine⟨_,⟨by omega,by decide,rfl⟩,?_⟩
   refine cB (j:=0) C 12 rfl (by simp) rfl λH5 z=>aE rfl ?_
   rw[bH (by omega)]
   exact af ag _ _ ⟨rfl,A4,(q,x.2),B4,I,s.trans Y,λ_=>N,λh=>absurd h (by omega),z⟩
  ·refine fB (aQ:=true) (S:=T.dc r.1) h3 O (U.ext s) ((J.ext s).of rfl rfl rfl) ai.tolq (by omega) p1 p2 p3 λA4 q B4 H4 I Y N _ C=>?_
   rw[ar] at N C
   refine⟨_,⟨by omega,by decide,rfl⟩,?_⟩
   refine cB (j:=1) C 12 rfl (by simp) rfl λH5 z=>aE rfl ?_
   rw[bH (by omega)]
   exact af ag _ _ ⟨rfl,A4,(x.1,q),B4,I,s.trans Y,λ_=>(K (by omega)).ext Y,λ_=>N,z⟩
 ·have:i=2:=by simp at c1;omega
  subst this
  have h3:aA H3 (aC B3::bx A3 X f (T.dc o.1) (aG D (jo.s2 x)::R)):=h3
  have K:=K (by omega)
  have V:=V (by omega)
  have aa:=U.ext s
  have ac:bJ (k+19) (T.dc o.1.flush):=o1.CS u.ok.flush ((nS u.ok).trans (u.len.trans M.len)) (by omega)
  refine aD (aY (x:=some X.da) h3 11 rfl rfl ?_)
  rw[←O]
  refine yf (i:=4) h3 rfl u.ok (by omega) λA4 H4 I C=>aE rfl ?_
  have C:aA H4 (aC B3::bx A4 X f (T.dc o.1.flush) (aG D (jo.s2 x)::R)):=C
  refine bj (x:=x) C 12 rfl rfl rfl ?_
  have ad:iU T.c ((T.dc o.1.flush).tt r.2 o.2)=true:=p5
  obtain⟨d1,d2⟩:=JG ac.tolq ad p4
  refine G0 (lb:=r.2) (lo:=o.2) C (I.trans O) aa ac.tolq (by omega) K V ad p4 λZ B5 H5 ao E z=>aE rfl ?_
  have eD:qk ((T.dc r.1).dc o.1.flush) r.2 o.2=qk (T.dc o.1.flush) r.2 o.2:=rfl
  rw[eD] at hQ
  have e:bJ (k+24) ({T.dc o.1.flush with d:=qk (T.dc o.1.flush) r.2 o.2}:KM.St):=ac.CS d1 d2 (by omega)
  have ab:=(parts ad).gen
  have ab:1<=T.n.gen+1/\T.n.gen+1<=2147483647:=ab
  generalize qk (T.dc o.1.flush) r.2 o.2=D5 at z hQ e d1 d2
  have z:aA H5 (aC B5::bx Z X f (T.dc D5) (aG D (jo.s2 x)::R)):=z
  refine aD (cr (x:=T.n.gen) z 11 rfl rfl (aD (aY (x:=T.n.slot) z 11 rfl rfl (bj (x:=x) z 12 rfl rfl rfl (aD ?_)))))
  rw[bo (x:=T.n.gen+1) (by omega) (by omega),bo (x:=1-T.n.slot) (by omega) (by omega)]
  refine jy (xH (some X.da) X.g (some X.ta) (some X.ia) (some X.wa) (xx ({T with n:={T.n with gen:=T.n.gen+1}}:KM.St)) T.n.slot f.lb f.lo) z 11 rfl (by simp) rfl rfl λH6 h6=>tY h6 12 rfl rfl rfl (aD ?_)
  refine cB (j:=15) h6 11 rfl (by simp) rfl λH7 h7=>tY h7 12 rfl rfl rfl (aD ?_)
  refine uq (xH (some X.da) X.g (some X.ta) (some X.ia) (some X.wa) (xx ({T with n:={T.n with gen:=T.n.gen+1}}:KM.St)) (1-T.n.slot) x.1 x.2) h7 11 rfl (by simp) rfl rfl λH8 h8=>?_
  have h8:aA H8 (aC B5::(nY Z X ⟨f.jM,f.kD,f.bl,x.1,x.2⟩ ({T.dc D5 with n:={T.n with gen:=T.n.gen+1,slot:=1-T.n.slot,lb:=r.2,lo:=o.2}}:KM.St)++aG D (jo.s2 x)::R)):=h8
  have h8:aA H8 (aC B5::bx Z X ⟨f.jM,f.kD,f.bl,x.1,x.2⟩ ({T.dc D5 with n:={T.n with gen:=T.n.gen+1,slot:=1-T.n.slot,lb:=r.2,lo:=o.2}}:KM.St) R):=h8.jx
  refine aD (aY (x:=some X.ia) h8 11 rfl rfl (Ig.Hn (wK h8) (aa.ext E).im λH9 h9=>?_))
  have h9:aA H9 (aC B5::bx Z X ⟨f.jM,f.kD,f.bl,x.1,x.2⟩ ({T.dc D5 with n:={T.n with gen:=T.n.gen+1,slot:=1-T.n.slot,lb:=r.2,lo:=o.2},m:=T.m.clean}:KM.St) R):=h9
  have hN:=o1.tb.l
  have hV:=o1.tb.v
  have au:=o1.c.2.2.2.1
  refine aD (aY (x:=some X.ta) h9 11 rfl rfl (Us.GN h9 ((aa.ext E).ta) 5 6 rfl rfl (by decide) (by show T.t.v.length=T.t.l.length;rw[hN,hV]) (by show T.t.l.length<_;omega) λq ae ak=>?_))
  refine gX (show aA ae (aC B5::aW i64 q (J9 T.t.l T.t.v)::bx Z X ⟨f.jM,f.kD,f.bl,x.1,x.2⟩ ({T.dc D5 with n:={T.n with gen:=T.n.gen+1,slot:=1-T.n.slot,lb:=r.2,lo:=o.2},m:=T.m.clean,t:={T.t with l:=AT T.t.l T.t.v}}:KM.St) R) from ak.up) λam G N ap=>?_
  refine hQ Z ⟨f.jM,f.kD,f.bl,x.1,x.2⟩ q am ae ao (aj.trans (s.trans (E.trans G))) ⟨K.ext (E.trans G),V.ext (E.trans G),J.len,λi y b hy hb=>(J.at_ i y b hy hb).ext (s.trans (E.trans G))⟩ N ?_ ?_ ap
  ·exact⟨⟨e.c,e.dk.mono (by omega),e.len,G1 e.im,Mu e.tb,e.p1,e.p2,⟨e.dQ.1,by have:=e.dQ.2;show T.w.p.2.2.1<=((k+40:Nat):Int);have h:T.w.p.2.2.1<=((k+24:Nat):Int):=this;omega⟩,e.prev,e.vm⟩,e.lt,e.it,e.bl,e.xn,e.fit⟩
  ·exact d2.trans ((nS u.ok).trans (u.len.trans (M.len.trans ah)))
theorem CU {view mode:Int} (hm:S.n.mode=1) (e:1<=view/\view<=2147483647) (b:mode=1∨mode=2) (c:S.n.view<view) (a:S.d.off=false):S.raise view mode=((S.raised view mode).check.1,0):=by
 unfold KM.St.raise
 rw[if_neg (by omega),if_neg,if_neg (by omega),a,if_neg (by simp)]
 simp only[bE,Bool.or_eq_true,Bool.not_eq_true',Bool.and_eq_false_iff,decide_eq_false_iff_not,beq_iff_eq,Bool.or_eq_false_iff,beq_eq_false_iff_ne]
 omega
theorem Aq (ok:bJ k S) (view mode:Int):bJ k (S.raised view mode):=by
 unfold KM.St.raised
 exact bJ.live (S:=({S with m:=S.m.forget.1,n:={S.n with seq:=S.n.done,view:=view,mode:=mode}}:KM.St)) (ok.same rfl rfl rfl rfl (Ig.uu ok.im _).1) _ _
theorem Kc {view mode:Int} {Q:Int->PH->Prop} (h:aA H (aC B::bx A X W S R)) (w:A.a=X.da) (p:mq B X S.c) (hW:iJ B W S) (ok:bJ k S) (hk:k+60< 2 ^ 28)
 (hm:S.n.mode=1) (hv:1<=view/\view<=2147483647) (D:mode=1∨mode=2) (hg:S.n.view<view) (P:Ap (S.raised view mode))
 (z:∀r t l H',r.a=X.da->Ext B l->iJ l t (S.raise view mode).1->bJ (k+40) (S.raise view mode).1->(S.raise view mode).1.d.now.length=S.d.now.length->aA H' (aC l::bx r X t (S.raise view mode).1 R)->Q 0 H'):oN (some X.sa) view mode H Q:=by
 rw[CU hm hv D hg ok.dk.off] at z
 refine aE rfl (aD (cr (x:=S.n.mode) h 11 rfl rfl ?_))
 rw[hm]
 refine aE rfl (vk (b:=decide (2147483647<view)) (λkk=>kk) ?_)
 rw[decide_eq_false (show¬view< 1 by omega),decide_eq_false (show¬2147483647<view by omega)]
 refine aF (aE rfl (aF ?_))
 have fin:∀K:Prop,(aJ false (Q 1 H) K->aJ (mode != 1) (aJ (mode != 2) (Q 1 H) K) (aJ false (Q 1 H) K)):=λK y=>by
  refine aL (λc1=>?_) (λc1=>y)
  have c2:mode≠1:=by simpa using c1
  have:mode=2:=by omega
  rw[this];exact y
 refine fin _ (aE rfl (aD (cr (x:=S.n.view) h 11 rfl rfl (aE (decide_eq_false (by omega)) (aD (aY (x:=some X.da) h 11 rfl rfl ?_))))))
 rw[←w]
 refine BL (i:=4) h rfl ?_
 rw[ok.dk.off]
 refine aE rfl (aD (aY (x:=some X.ia) h 11 rfl rfl (Ig.se (wK h) p.im ok.im λH1 q U=>?_)))
 obtain⟨s,e,j,f⟩:=U.Bk.fz
 have e1:S.m.forget=jK S.m S.c.1.toNat:=by show jK S.m S.m.l1.length=_;rw[ok.im.n1]
 rw[←e1] at f j
 have E:Ig.dM S.c.1.toNat S.m.forget.1:=by rw[e1];exact(Ig.uu ok.im _).1
 have f:aA H1 (aC s::bx A X W ({S with m:=S.m.forget.1}:KM.St) R):=f
 have hlen:S.m.forget.2.length< 2 ^ 20:=by
  rw[e1]
  have:=(Ig.uu ok.im S.c.1.toNat).2;have:=ok.im.xG;omega
 refine vQ f (p.ext e) (ok.same (T:=({S with m:=S.m.forget.1}:KM.St)) rfl rfl rfl rfl E).tolq (dE.list j) hlen λH3 v=>?_
 refine aD (cr (x:=S.n.done) v 11 rfl rfl (aD ?_))
 refine jy (xH (some X.da) X.g (some X.ta) (some X.ia) (some X.wa) (S.n.mode,S.n.view,S.n.aV,S.n.done,S.n.done,S.n.aO,S.n.gen,0,0,0) S.n.slot W.lb W.lo) v 11 rfl (by simp) rfl rfl λH4 V=>aD ?_
 refine jy (xH (some X.da) X.g (some X.ta) (some X.ia) (some X.wa) (S.n.mode,view,S.n.aV,S.n.done,S.n.done,S.n.aO,S.n.gen,0,0,0) S.n.slot W.lb W.lo) V 11 rfl (by simp) rfl rfl λH5 Y=>aD ?_
 refine jy (xH (some X.da) X.g (some X.ta) (some X.ia) (some X.wa) (mode,view,S.n.aV,S.n.done,S.n.done,S.n.aO,S.n.gen,0,0,0) S.n.slot W.lb W.lo) Y 11 rfl (by simp) rfl rfl λM o=>?_
 have o:aA M (aC s::bx A X W (S.raised view mode) R):=o
 exact DT o w (p.ext e) ((hW.ext e).of rfl rfl rfl) (Aq ok view mode) hk P λI O q7 J N u G C _ F l7 Z=>z I O J N u (e.trans G) C F l7 Z
end
end So
end
section
namespace Wi
open Go Go.Kx KM
abbrev M5:=Int×Int×Int×Int×Sl
abbrev c5 (x:M5):List Value:=[.int .i64 x.1,.int .i64 x.2.1,.int .i64 x.2.2.1,.int .i64 x.2.2.2.1,Sl.v x.2.2.2.2]
def dp:M5:=(0,0,0,0,Sl.nil)
def EF (x:M5×Bool):List Value:=[.int .i64 x.1.1,.int .i64 x.1.2.1,.int .i64 x.1.2.2.1,.int .i64 x.1.2.2.2.1,Sl.v x.1.2.2.2.2,.bool x.2]
theorem EG (x:M5×Bool):(EF x).length=6:=rfl
theorem Ui (x:M5×Bool):(EF x).all cI=true:=rfl
structure WM where
 size:Nat
 next:Int
 f:Int->Option M5
def xI:Option M5->M5×Bool
 |none=>(dp,false)
 |some v=>(v,true)
def WM.yO (W:WM) (n:Int):Int:=if n<W.next then 9 else if W.next+W.size<=n then 10 else if(W.f n).isSome then 9 else 0
def WM.put (W:WM) (n:Int) (v:M5):WM:=if W.yO n=0 then{W with f:=λk=>if k=n then some v else W.f k} else W
def WM.cut (W:WM):WM:={W with f:=λk=>if k=W.next then none else W.f k}
def WM.sy (W:WM):M5:=(xI (W.f W.next)).1
def WM.tA (W:WM):Bool:=(xI (W.f W.next)).2
def WM.pop (W:WM):WM:=if W.tA then{W.cut with next:=W.next+1} else W
def DU (size:Nat) (next:Int):WM:=⟨size,next,λ_=>none⟩
theorem n5 {α:Type} {L:List α} {i:Nat} {O:α} (h:L[i]?=some O):L.set i O=L:=by
 apply List.ext_getElem?
 intro j
 by_cases e:i=j
 ·subst e;rw[List.getElem?_set_self (List.getElem?_eq_some_iff.1 h).1,h]
 ·rw[List.getElem?_set_ne e]
structure BN (W:WM):Prop where
 pos:0<W.size
 le:W.size<=16
 n1:1<=W.next
 n2:W.next< 2 ^ 40
 out:∀n,n<W.next∨W.next+W.size<=n->W.f n=none
def wL (l:List (M5×Bool)) (W:WM):Prop:=l.length=W.size/\∀n,W.next<=n->n<W.next+W.size->l[(n%W.size).toNat]?=some (xI (W.f n))
structure tB (H:PH) (a:Addr) (s:Sl) (W:WM):Prop where
 row:aZ H a [Sl.v s,.int .i64 W.next]
 vec:∃l,bT EF 6 H s l/\wL l W
 ap:¬s.has a.block
 ok:BN W
theorem tB.cQ {H H':PH} {a:Addr} {s:Sl} {W:WM} (h:tB H a s W) (x:∀c o,c=a.block∨s.has c->H c=some o->H' c=some o):tB H' a s W:=
 ⟨h.row.cQ λc o b=>x c o (.inl b),let⟨l,e,d⟩:=h.vec;⟨l,e.cQ λc o b=>x c o (.inr b),d⟩,h.ap,h.ok⟩
def gG (a:Addr) (s:Sl) (W:WM):Ob:=⟨λH=>tB H a s W,λc=>c=a.block∨s.has c,λh x=>h.cQ x,λh b=>by
 rcases b with rfl|b
 ·obtain⟨e,he⟩:=h.row.2.2;rw[he];simp
 ·obtain⟨l,d,_⟩:=h.vec;exact BD (d.dA b)⟩
theorem UI {size:Nat} {next n m:Int} (p:0<size) (g:next<=n) (j:n<next+size) (l:next<=m) (o:m<next+size) (e:(n%size).toNat=(m%size).toNat):n=m:=by
 have a:=Int.emod_nonneg n (show(size:Int)≠0 by omega)
 have b:=Int.emod_nonneg m (show(size:Int)≠0 by omega)
 have d:n%size=m%size:=by omega
 have:=Int.emod_emod_of_dvd (n-m) (Int.dvd_refl (size:Int))
 have f:(size:Int)∣n-m:=Int.dvd_of_emod_eq_zero (by rw[Int.sub_emod,d,Int.sub_self];rfl)
 obtain⟨k,hk⟩:=f
 have c:k=0:=by
  rcases Int.lt_trichotomy k 0 with h|h|h
  ·have:(size:Int)*k<=size*(-1):=Int.mul_le_mul_of_nonneg_left (by omega) (by omega)
   omega
  ·exact h
  ·have:(size:Int)*1<=size*k:=Int.mul_le_mul_of_nonneg_left (by omega) (by omega)
   omega
 rw[c] at hk;omega
theorem P1 {size:Nat} (n:Int) (c:0<size):(n%size).toNat<size:=by
 have a:=Int.emod_nonneg n (show(size:Int)≠0 by omega)
 have b:=Int.emod_lt_of_pos n (show(0:Int)<size by omega)
 omega
theorem wL.set {l:List (M5×Bool)} {W:WM} (h:wL l W) (d:0<W.size) {n:Int} (j:W.next<=n) (p:n<W.next+W.size) (o:Option M5):wL (l.set (n%W.size).toNat (xI o)) {W with f:=λk=>if k=n then o else W.f k}:=by
 refine⟨by simpa using h.1,λm b c=>?_⟩
 by_cases e:m=n
 ·subst e
  rw[List.getElem?_set_self (by rw[h.1];exact P1 _ d)];simp
 ·have:(n%W.size).toNat≠(m%W.size).toNat:=λg=>e (UI d j p b c g).symm
  show(l.set (n%W.size).toNat (xI o))[(m%(W.size:Int)).toNat]?=_
  rw[List.getElem?_set_ne this,h.2 m b c];simp[e]
section
variable {H:PH} {L:List Ob} {i:Nat} {a:Addr} {s:Sl} {W:WM}
theorem Er {Q:Bool->PH->Prop} (h:tB H a s W) (b:Q false H):gR (some a) H Q:=by
 obtain⟨l,d,c,_⟩:=h.vec
 refine aF (aE rfl (aD (aa (x:=s) h.row rfl ?_)))
 have:((s.len:Int)==0)=false:=by rw[d.bF,c];have:=h.ok.pos;simp;omega
 rw[this];exact b
theorem uW {n:Int} {Q:Option Addr->PH->Prop} (h:tB H a s W) (j:W.next<=n) (k:n<W.next+W.size) (m:∀l b,wL l W->pT EF 6 H s l (n%W.size).toNat (xI (W.f n)) b->Q (some b) H):fE (some a) n H Q:=by
 obtain⟨l,d,c,e⟩:=h.vec
 have q:=h.ok.pos
 have o:=h.ok.n1
 refine aD (aa (x:=s) h.row rfl (aD (aa (x:=s) h.row rfl ⟨by rw[d.bF,c];omega,?_⟩)))
 rw[d.bF,c,Int.tmod_eq_emod_of_nonneg (by omega)]
 have a0:=Int.emod_nonneg n (show(W.size:Int)≠0 by omega)
 have p:=Int.emod_lt_of_pos n (show(0:Int)<W.size by omega)
 refine qv d a0 (by omega) λb x el=>?_
 have g:=el.get
 rw[e n j k] at g
 cases g
 exact m l b ⟨c,e⟩ el
theorem Es {l:List (M5×Bool)} {H':PH} {b:WM} (h:aA H L) (hi:L[i]?=some (gG a s W)) (j:bT EF 6 H' s l) (e:wL l b) (f:b.next=W.next) (g:BN b) (k:vV s H H'):aA H' (L.set i (gG a s b)):=by
 have w:tB H a s W:=h.get i hi
 refine h.dX (O':=gG a s b) i hi ⟨?_,⟨l,j,e⟩,w.ap,g⟩ (λc d=>.inl d) (λc o d f=>k c o d λe=>f (.inr e))
 rw[f]
 exact w.row.cQ λc o d g=>k c o g λe=>w.ap (d▸e)
theorem G3 {W:WM} (h:(W.f W.next).isSome=false):W.cut=W:=by
 have:W.f W.next=none:=by
  cases hf:W.f W.next with
  |none=>rfl
  |some x=>rw[hf] at h;cases h
 unfold WM.cut
 obtain⟨sz,nx,f⟩:=W
 simp only at this
 congr 1
 funext k
 split
 ·rename_i e;rw[e];exact this.symm
 ·rfl
theorem BN.cut {W:WM} (h:BN W):BN W.cut:=⟨h.pos,h.le,h.n1,h.n2,λn b=>by
 show(if n=W.next then none else W.f n)=none
 split
 ·rfl
 ·exact h.out n b⟩
theorem wL.new (size:Nat) (next:Int) (b:0<size):wL (List.replicate size (dp,false)) (DU size next):=⟨by simp[DU],λn _ _=>by
 have:=P1 n b
 show(List.replicate size (dp,false))[(n%(size:Int)).toNat]?=_
 rw[List.getElem?_replicate,if_pos this];rfl⟩
theorem UJ {size:Nat} {next:Int} (d:0<size) (b:size<=16) (c:1<=next) (e:next<=2147483647):BN (DU size next):=⟨d,b,c,by show next< 2 ^ 40;omega,λ_ _=>rfl⟩
end
end Wi
end
section
namespace Wi
open Go Go.Kx KM
def vf (B:PH) (m:M5) (o:iV):Prop:=m.1=o.kind/\m.2.1=o.block/\m.2.2.1=o.count/\m.2.2.2.1=o.aV/\Bytes B m.2.2.2.2 o.data
theorem vf.ext {B b:PH} {m:M5} {o:iV} (h:vf B m o) (x:Ext B b):vf b m o:=⟨h.1,h.2.1,h.2.2.1,h.2.2.2.1,h.2.2.2.2.ext x⟩
theorem G4 (V:WM):V.tA=(V.f V.next).isSome:=by rw[WM.tA];cases V.f V.next<;>rfl
section
variable {H B:PH} {L:List Ob} {a:Addr} {s:Sl} {V:WM}
theorem yC {Q:M5->Bool->PH->Prop} (h:aA H (aC B::gG a s V::L)) (n:∀H',aA H' (aC B::gG a s V::L)->Q V.sy V.tA H'):eF (some a) H Q:=by
 refine az h λb H1 d=>?_
 have w:tB H1 a s V:=d.get 2 rfl
 have:=w.ok.pos
 refine Er w (aE rfl (aD (aa (x:=V.next) w.row rfl (uW w (by omega) (by omega) λl k q el=>aD ?_))))
 have j:=el.cells EG
 have c0:bw H1 (k.add 0) 5=some (c5 V.sy):=by
  rw[add_zero'];exact C4 (m:=5) j (by omega)
 refine⟨V.sy,c0,aD ⟨V.tA,el.cell EG rfl,?_⟩⟩
 refine Qu d rfl rfl λe g k2=>?_
 have f:=el.cQ λc o p=>k2.aQ d (i:=0) rfl c o (.inr p)
 exact⟨f.cell EG rfl,V.sy,(g.get 1 rfl:aZ e b _).all rfl,n e g.ak⟩
theorem Oo {Q:Bool->PH->Prop} (h:aA H (aC B::gG a s V::L)) (g:∀H',aA H' (aC B::gG a s V.cut::L)->Q V.tA H'):gn (some a) H Q:=by
 refine yC h λH1 j=>az j λb p k=>bf k rfl rfl λe f=>?_
 have d:=f.ak
 have w:tB e a s V:=d.get 1 rfl
 have:=w.ok.pos
 refine aF (aL (λc=>?_) (λc=>?_))
 ·refine aD (aa (x:=V.next) w.row rfl (uW w (by omega) (by omega) λl q m el=>aD (IJ (y:=(dp,false)) EG el (Ui _) λH' o n=>?_)))
  exact g H' (Es d (i:=1) rfl o (m.set w.ok.pos (by omega) (by omega) none) rfl w.ok.cut n)
 ·refine g e ?_
  rw[G3 (by rw[←G4];exact c)];exact d
theorem Oq {Q:M5->Bool->PH->Prop} (h:aA H (aC B::gG a s V::L)) (K:V.next+1< 2 ^ 40) (J:∀H',aA H' (aC B::gG a s V.pop::L)->Q V.sy V.tA H'):jU (some a) H Q:=by
 refine az h λj T r=>yC (L:=aG j _::L) r.swap λH1 F=>az F λb U G=>bf G rfl rfl λW t=>Oo (L:=aG b _::aG j _::L) t.swap λu k=>?_
 have fin:∀d,aA d (aC B::gG a s V.pop::aG b (c5 V.sy)::aG j (c5 dp)::L)->aU c5 d b 5 λE=>aX d j (c5 E) λq=>aU c5 q j 5 λi=>Q (i.1,i.2.1,i.2.2.1,i.2.2.2.1,i.2.2.2.2) V.tA q:=λd z=>by
  refine⟨V.sy,(z.get 2 rfl:aZ d b _).all rfl,?_⟩
  have I:aA d (aC B::aG j (c5 dp)::gG a s V.pop::aG b (c5 V.sy)::L):=z.perm (.cons _ ((List.Perm.cons _ (.swap _ _ _)).trans (.swap _ _ _)))
  refine bf I rfl rfl λv A=>⟨V.sy,(A.get 1 rfl:aZ v j _).all rfl,?_⟩
  exact J v ((A.ak.swap).ak)
 have g:tB u a s V.cut:=k.get 1 rfl
 have w:tB H a s V:=h.get 1 rfl
 refine aF (aL (λc=>?_) (λc=>?_))
 ·have:=w.ok.n1
  refine aD (aa (x:=V.next) g.row rfl (aD (tI g.row (by simp) rfl λd r5 D=>fin d ?_)))
  rw[bA (by omega) (by omega)] at r5
  have e:V.pop={V.cut with next:=V.next+1}:=by rw[WM.pop,if_pos c]
  rw[e]
  refine k.dX (O':=gG a s {V.cut with next:=V.next+1}) 1 rfl (H':=d) ⟨r5,?_,g.ap,⟨g.ok.pos,g.ok.le,by show 1<=V.next+1;omega,K,λn p=>?_⟩⟩ (λc m=>.inl m) (λc o m p=>D c o m λe=>p (.inl e))
  ·obtain⟨l,O,M,C⟩:=g.vec
   refine⟨l,O.cQ λc o m N=>D c o N λe=>g.ap (e▸m),M,λn t k=>?_⟩
   have P:V.next+1<=n:=t
   have R:n<V.next+1+V.size:=k
   by_cases p:n<V.next+V.size
   ·exact C n (by show V.next<=n;omega) p
   ·have en:n=V.next+V.size:=by omega
    have X:=w.ok.pos
    have e1:(n%V.size).toNat=(V.next%V.size).toNat:=by rw[en,Int.add_emod_right]
    show l[(n%V.size).toNat]?=_
    have r:V.cut.f n=V.cut.f V.next:=by
     rw[g.ok.out n (.inr (by rw[en];exact Int.le_refl _))]
     show none=(if V.next=V.next then none else V.f V.next)
     simp
    rw[e1,r]
    exact C V.next (Int.le_refl _) (by show V.next<V.next+V.size;omega)
  ·have S:n<V.next+1∨V.next+1+V.size<=n:=p
   show(if n=V.next then none else V.f n)=none
   by_cases e:n=V.next
   ·rw[if_pos e]
   ·rw[if_neg e];exact w.ok.out n (by omega)
 ·refine fin u ?_
  have y:V.tA=false:=c
  have:V.pop=V.cut:=by rw[WM.pop,if_neg (by rw[y];simp),G3 (by rw[←G4];exact y)]
  rw[this];exact k
theorem tF {n:Int} {v:M5} {Q:Int->PH->Prop} (h:aA H (aC B::gG a s V::L)) (j:∀H',aA H' (aC B::gG a s (V.put n v)::L)->Q (V.yO n) H'):jT (some a) n v H Q:=by
 refine az h λb H1 g=>?_
 have w:tB H1 a s V:=g.get 2 rfl
 have d:=w.ok
 have:=d.n1;have:=d.n2;have:=d.le;have:=d.pos
 obtain⟨l,z,t,I⟩:=w.vec
 have stay:∀e,V.yO n=e->e≠0->Q e H1:=λe he q=>by
  have:V.put n v=V:=by rw[WM.put,if_neg (by rw[he];exact q)]
  have r:=j H1 (by rw[this];exact g.ak)
  rw[he] at r;exact r
 refine Er w (aE rfl (aD (aa (x:=V.next) w.row rfl (aL (λc=>?_) (λc=>?_)))))
 ·exact stay 9 (by simp at c;simp[WM.yO,c]) (by decide)
 have c1:¬n<V.next:=by simpa using c
 refine aD (aa (x:=V.next) w.row rfl (aD (aa (x:=s) w.row rfl ?_)))
 rw[z.bF,t,bA (by omega) (by omega)]
 refine aL (λc=>?_) (λc=>?_)
 ·exact stay 10 (by simp at c;simp[WM.yO,c,c1]) (by decide)
 have c2:¬V.next+V.size<=n:=by simpa using c
 refine uW w (by omega) (by omega) λl2 F D el=>aD ⟨_,el.cell EG rfl,?_⟩
 refine aL (λc=>?_) (λc=>?_)
 ·have:(V.f n).isSome=true:=by
   cases hf:V.f n with
   |none=>rw[hf] at c;cases c
   |some x=>rfl
  exact stay 9 (by simp[WM.yO,c1,c2,this]) (by decide)
 have c3:V.f n=none:=by
  cases hf:V.f n with
  |none=>rfl
  |some x=>rw[hf] at c;cases c
 refine⟨v,(g.get 1 rfl:aZ H1 b _).all rfl,uW w (by omega) (by omega) λJ G p o=>⟨(g.get 1 rfl:aZ H1 b _).all rfl,aD (IJ (y:=(v,true)) EG o (Ui _) λH' C A=>?_)⟩⟩
 have k:V.yO n=0:=by simp[WM.yO,c1,c2,c3]
 rw[k] at j
 refine j H' ?_
 rw[WM.put,if_pos k]
 have u:=p.set d.pos (n:=n) (by omega) (by omega) (some v)
 refine(Es g (i:=2) rfl C u rfl ⟨d.pos,d.le,d.n1,d.n2,λm hm=>?_⟩ A).ak
 have E:m<V.next∨V.next+V.size<=m:=hm
 have:m≠n:=λe=>by subst e;omega
 show(if m=n then some v else V.f m)=none
 rw[if_neg this];exact d.out m hm
theorem eI {size:Nat} {next:Int} {Q:Option Addr->PH->Prop} (h:aA H (aC B::L)) (n:1<=size) (p:size<=16) (i:1<=next) (j:next<=2147483647) (k:∀a s H',aA H' (aC B::gG a s (DU size next)::L)->Q (some a) H'):oF size next H Q:=by
 refine aF (aE (by simp;omega) (aF (aE (by simp;omega) (aF (aE (by simp;omega) (aE (by simp;omega) ?_))))))
 refine UQ (enc:=EF) (sz:=6) (x:=(dp,false)) (by omega) (by omega) λr H1 e o1 v1=>jf λa g f m f2=>?_
 have l:¬r.has a.block:=λb=>by obtain⟨o,d⟩:=v1.dA b;rw[f2] at d;cases d
 rw[Int.toNat_natCast] at v1
 refine k a r g (h.made ((aA.start H).new (O':=gG a r (DU size next)) (e.trans f) ⟨m,⟨_,v1.ext f,wL.new _ _ (by omega)⟩,l,UJ (by omega) (by omega) i j⟩ λc b=>?_))
 rcases b with rfl|b
 ·exact e.none f2
 ·exact o1 c b
end
end Wi
end
section
namespace Fm
open Go Go.Kx KM Rw Cr Wi
abbrev F8:=Int×Int×Int×Int×Int×Int×Int×Sl
abbrev f8 (x:F8):List Value:=[i64 x.1,i64 x.2.1,i64 x.2.2.1,i64 x.2.2.2.1,i64 x.2.2.2.2.1,i64 x.2.2.2.2.2.1,i64 x.2.2.2.2.2.2.1,Sl.v x.2.2.2.2.2.2.2]
theorem Vo (x:F8):(f8 x).length=8:=rfl
theorem Vp (x:F8):(f8 x).all cI=true:=rfl
def yD:F8:=(0,0,0,0,0,0,0,Sl.nil)
def dD (f:pG) (s:Sl):F8:=(f.kind,f.view,f.seq,f.block,f.count,f.aV,f.done,s)
section
variable {H B:PH} {L:List Ob} {f:pG} {s p:Sl} {b:Bs}
theorem bD {x lo hi:Int} {Q:Bool->PH->Prop} (a:Q (bE x lo hi) H):dH x lo hi H Q:=cq (b:=decide (x<=hi)) (λk=>k) a
theorem Mv {x:F8} {Q:F8->PH->Prop} (h:∀H',Ext H H'->Q (x.1,x.2.1,0,0,0,0,0,Sl.nil) H'):v9 x H Q:=by
 refine dC (.start H) λa H1 g k=>dC g λj i c l=>aY (x:=x.1) c 2 rfl rfl (aY (x:=x.2.1) c 2 rfl rfl ?_)
 exact eU (vs:=f8 (x.1,x.2.1,0,0,0,0,0,Sl.nil)) c 1 rfl rfl rfl λe d=>bj (x:=(x.1,x.2.1,0,0,0,0,0,Sl.nil)) d 1 rfl rfl rfl (h e d.base)
def yE (x y:F8) (l m:Bs):Bool:=((((((((x.1==y.1)&&(x.2.1==y.2.1))&&(x.2.2.1==y.2.2.1))&&(x.2.2.2.1==y.2.2.2.1))&&(x.2.2.2.2.1==y.2.2.2.2.1))&&(x.2.2.2.2.2.1==y.2.2.2.2.2.1))&&(x.2.2.2.2.2.2.1==y.2.2.2.2.2.2.1))&&(l==m))
theorem Mw {x y:F8} {l m:Bs} {Q:Bool->PH->Prop} (i:Bytes H x.2.2.2.2.2.2.2 l) (j:Bytes H y.2.2.2.2.2.2.2 m) (bl:bU l) (e:bU m) (h:∀H',Ext H H'->Q (yE x y l m) H'):rk x y H Q:=by
 refine dC (.start H) λa H1 g o=>dC g λn d c q=>aY (x:=x.1) c 2 rfl rfl (aY (x:=y.1) c 1 rfl rfl ?_)
 refine cq (λk=>aY (x:=x.2.1) c 2 rfl rfl (aY (x:=y.2.1) c 1 rfl rfl k)) ?_
 refine cq (λk=>aY (x:=x.2.2.1) c 2 rfl rfl (aY (x:=y.2.2.1) c 1 rfl rfl k)) ?_
 refine cq (λk=>aY (x:=x.2.2.2.1) c 2 rfl rfl (aY (x:=y.2.2.2.1) c 1 rfl rfl k)) ?_
 refine cq (λk=>aY (x:=x.2.2.2.2.1) c 2 rfl rfl (aY (x:=y.2.2.2.2.1) c 1 rfl rfl k)) ?_
 refine cq (λk=>aY (x:=x.2.2.2.2.2.1) c 2 rfl rfl (aY (x:=y.2.2.2.2.2.1) c 1 rfl rfl k)) ?_
 refine cq (λk=>aY (x:=x.2.2.2.2.2.2.1) c 2 rfl rfl (aY (x:=y.2.2.2.2.2.2.1) c 1 rfl rfl k)) ?_
 refine cq (b:=l==m) (λk=>aY (x:=x.2.2.2.2.2.2.2) c 2 rfl rfl (aY (x:=y.2.2.2.2.2.2.2) c 1 rfl rfl (nV (i.ext c.base) (j.ext c.base) bl e k))) ?_
 exact h d c.base
theorem fS {Q:Bool->PH->Prop} (hs:Bytes H s f.data) (hb:bU f.data) (hQ:∀H',Ext H H'->Q (dK f) H'):tO (dD f s) H Q:=by
 refine dC (.start H) λa H1 h1 x1=>bk (x:=dD f s) h1 rfl rfl (Mv λH2 x2=>dC (h1.ext x2) λn H3 h3 x3=>eU (vs:=f8 (f.kind,f.view,0,0,0,0,0,Sl.nil)) h3 1 rfl rfl rfl λH4 S=>aY (x:=f.view) S 2 rfl rfl (bD (aY (x:=f.kind) S 2 rfl rfl ?_)))
 have rest:∀(sq:Int) (w:PH),aA w [aC H,aG n (f8 (f.kind,f.view,sq,0,0,0,0,Sl.nil)),aG a (f8 (dD f s))]->(f.kind≠9->sq=f.seq)->(f.kind=9->sq=0)->∀K:Bool->PH->Prop,
  (∀H',Ext H H'->K (dK f) H')->∀v,v=bE f.view 1 2147483647->
  aH i64 w (a.add 2) λbp=>dH bp 1 2147483647 w λac ae=>aH i64 ae (a.add 3) λbq=>dH bq 0 63 ae λaw d=>aH i64 d (a.add 0) λA=>
  aM (λ(be:Bool) (G:PH)=>aM (λ(Y:Bool) (O:PH)=>K Y O) λz=>aJ be (aU f8 G a 8 λaa=>aU f8 G n 8 λab=>rk aa ab G λad P=>z ad P) (z false G))
  λt=>aJ (A==1)
   (aH i64 d (a.add 3) λbr=>aH Sl.v d (a.add 7) λau=>aX d (n.add 3) [i64 br] λaf=>ar af (a.add 7) (Sl.v au)<|aX af (n.add 7) [Sl.v au] λag=>
    aM (λ(bf:Bool) (ah:PH)=>aM (λ(bg:Bool) (R:PH)=>aM (λ(bh:Bool) (bc:PH)=>t bh bc) λan=>aJ bg (aH Sl.v R (a.add 7) λbs=>an ((bs.len:Int)==64) R) (an false R)) λam=>aJ bf (am aw ah) (am false ah)) λal=>aJ v (al ac ag) (al false ag))
   (aJ (A==2)
   (aH i64 d (a.add 3) λbt=>aH i64 d (a.add 4) λav=>aX d (n.add 3) [i64 bt] λai=>ar ai (a.add 4) (i64 av)<|aX ai (n.add 4) [i64 av] λaj=>
    aM (λ(bi:Bool) (ak:PH)=>aM (λ(bl:Bool) (I:PH)=>aM (λ(bn:Bool) (bd:PH)=>t bn bd) λaq=>aJ bl (aH i64 I (a.add 4) λaS=>aH i64 I (a.add 3) λaT=>dH aS 1 (IntKind.wrap .i64 (64-aT)) I λa6 ax=>aq a6 ax) (aq false I)) λap=>aJ bi (ap aw ak) (ap false ak)) λao=>aJ v (ao ac aj) (ao false aj))
   (aJ (A==3)
   (aH i64 d (a.add 5) λaW=>aX d (n.add 5) [i64 aW] λM=>
    aM (λ(aN:Bool) (C:PH)=>aM (λ(aO:Bool) (ay:PH)=>t aO ay) λU=>aJ aN (aH i64 C (a.add 5) λa0=>dH a0 1 2147483647 C λa7 az=>U a7 az) (U false C)) λT=>aJ v (T ac M) (T false M))
   (aJ (A==8)
   (aH i64 d (a.add 5) λa1=>aH i64 d (a.add 6) λZ=>aX d (n.add 5) [i64 a1] λN=>ar N (a.add 6) (i64 Z)<|aX N (n.add 6) [i64 Z] λD=>
    aM (λ(aP:Bool) (E:PH)=>aM (λ(aQ:Bool) (u:PH)=>aM (λ(aR:Bool) (aB:PH)=>t aR aB) λX=>aJ aQ (aH i64 u (a.add 6) λa2=>aH i64 u (a.add 2) λa3=>dH a2 0 a3 u λa9 aD=>X a9 aD) (X false u)) λW=>aJ aP (aH i64 E (a.add 5) λa4=>dH a4 0 2147483647 E λba aE=>W ba aE) (W false E)) λV=>aJ v (aH i64 D (a.add 2) λa5=>dH a5 0 2147483647 D λbb aI=>V bb aI) (V false D))
   (aJ (A==9) (t v d) (t false d))))):=by
  intro sq w g J aK K hK v hv
  subst hv
  refine aY (x:=f.seq) g 2 rfl rfl (bD (aY (x:=f.block) g 2 rfl rfl (bD (aY (x:=f.kind) g 2 rfl rfl (aF ?_)))))
  have fin:∀(y:F8) (m:Bs) (l:PH) (ok:Bool),aA l [aC H,aG n (f8 y),aG a (f8 (dD f s))]->Bytes l y.2.2.2.2.2.2.2 m->bU m->(ok&&yE (dD f s) y f.data m)=dK f->
   aM (λ(Y:Bool) (O:PH)=>K Y O) λz=>aJ ok (aU f8 l a 8 λaa=>aU f8 l n 8 λab=>rk aa ab l λad P=>z ad P) (z false l):=λy m l ok q hm bm e=>by
   refine Pv (b:=yE (dD f s) y f.data m) (λ_ k=>bj (x:=dD f s) q 2 rfl rfl rfl (bj (x:=y) q 1 rfl rfl rfl (Mw (hs.ext q.base) hm hb bm k))) λo x7=>?_
   rw[e];exact hK o (q.base.trans x7)
  have r:∀l,Bytes l Sl.nil []:=λ_=>b9.nil
  have ed:(f.data==[])=(f.data.length==0):=by cases f.data<;>rfl
  refine aL (λc=>?_) (λc=>?_)
  ·have hk:f.kind=1:=by simpa using c
   have es:=J (by omega)
   subst es
   refine aY (x:=f.block) g 2 rfl rfl (aY (x:=s) g 2 rfl rfl (cB (j:=3) g 1 rfl (by simp) rfl λl q=>cx (q.get 2 rfl:aZ l a _) rfl (cB (j:=7) q 1 rfl (by simp) rfl λo F=>?_)))
   have i:aA o [aC H,aG n (f8 (f.kind,f.view,f.seq,f.block,0,0,0,s)),aG a (f8 (dD f s))]:=F
   refine cq (b:=bE f.seq 1 2147483647) (λk=>k) (cq (b:=bE f.block 0 63) (λk=>k) (cq (b:=f.data.length==64) (λk=>aY (x:=s) i 2 rfl rfl ?_) ?_))
   ·have e:((s.len:Int)==64)=(f.data.length==64):=by rw[hs.bF,Bool.eq_iff_iff,beq_iff_eq,beq_iff_eq];omega
    rw[e];exact k
   ·refine fin (f.kind,f.view,f.seq,f.block,0,0,0,s) f.data o _ i (hs.ext i.base) hb ?_
    simp only[dK,yE,dD,hk,if_true,beq_self_eq_true,Bool.and_true,Bool.true_and]
    cases bE f.view 1 2147483647<;>cases bE f.seq 1 2147483647<;>cases bE f.block 0 63<;>cases(f.data.length==64)<;>simp[Bool.and_assoc]
  ·have n1:¬f.kind=1:=by simpa using c
   refine aL (λc2=>?_) (λc2=>?_)
   ·have hk:f.kind=2:=by simpa using c2
    have es:=J (by omega)
    subst es
    refine aY (x:=f.block) g 2 rfl rfl (aY (x:=f.count) g 2 rfl rfl (cB (j:=3) g 1 rfl (by simp) rfl λl q=>cx (q.get 2 rfl:aZ l a _) rfl (cB (j:=4) q 1 rfl (by simp) rfl λo F=>?_)))
    have i:aA o [aC H,aG n (f8 (f.kind,f.view,f.seq,f.block,f.count,0,0,Sl.nil)),aG a (f8 (dD f s))]:=F
    refine cq (b:=bE f.seq 1 2147483647) (λk=>k) (cq (b:=bE f.block 0 63) (λk=>k) (Pu (b:=bE f.count 1 (64-f.block)) (λhc k=>aY (x:=f.count) i 2 rfl rfl (aY (x:=f.block) i 2 rfl rfl ?_)) ?_))
    ·simp only[Bool.and_eq_true,KM.bY] at hc
     rw[bo (by omega) (by omega)];exact bD k
    ·refine fin (f.kind,f.view,f.seq,f.block,f.count,0,0,Sl.nil) [] o _ i (r _) mA ?_
     simp only[dK,yE,dD,hk,beq_self_eq_true,Bool.and_true,Bool.true_and,ed]
     rw[if_neg (by decide),if_pos trivial]
     cases bE f.view 1 2147483647<;>cases bE f.seq 1 2147483647<;>cases bE f.block 0 63<;>cases bE f.count 1 (64-f.block)<;>simp[Bool.and_assoc]
   ·have n2:¬f.kind=2:=by simpa using c2
    refine aL (λc3=>?_) (λc3=>?_)
    ·have hk:f.kind=3:=by simpa using c3
     have es:=J (by omega)
     subst es
     refine aY (x:=f.aV) g 2 rfl rfl (cB (j:=5) g 1 rfl (by simp) rfl λo F=>?_)
     have i:aA o [aC H,aG n (f8 (f.kind,f.view,f.seq,0,0,f.aV,0,Sl.nil)),aG a (f8 (dD f s))]:=F
     refine cq (b:=bE f.seq 1 2147483647) (λk=>k) (cq (b:=bE f.aV 1 2147483647) (λk=>aY (x:=f.aV) i 2 rfl rfl (bD k)) ?_)
     refine fin (f.kind,f.view,f.seq,0,0,f.aV,0,Sl.nil) [] o _ i (r _) mA ?_
     simp only[dK,yE,dD,hk,beq_self_eq_true,Bool.and_true,Bool.true_and,ed]
     rw[if_neg (by decide),if_neg (by decide),if_pos trivial]
     cases bE f.view 1 2147483647<;>cases bE f.seq 1 2147483647<;>cases bE f.aV 1 2147483647<;>simp[Bool.and_assoc]
    ·have n3:¬f.kind=3:=by simpa using c3
     refine aL (λc8=>?_) (λc8=>?_)
     ·have hk:f.kind=8:=by simpa using c8
      have es:=J (by omega)
      subst es
      refine aY (x:=f.aV) g 2 rfl rfl (aY (x:=f.done) g 2 rfl rfl (cB (j:=5) g 1 rfl (by simp) rfl λl q=>cx (q.get 2 rfl:aZ l a _) rfl (cB (j:=6) q 1 rfl (by simp) rfl λo F=>?_)))
      have i:aA o [aC H,aG n (f8 (f.kind,f.view,f.seq,0,0,f.aV,f.done,Sl.nil)),aG a (f8 (dD f s))]:=F
      refine cq (b:=bE f.seq 0 2147483647) (λk=>aY (x:=f.seq) i 2 rfl rfl (bD k)) (cq (b:=bE f.aV 0 2147483647) (λk=>aY (x:=f.aV) i 2 rfl rfl (bD k)) (cq (b:=bE f.done 0 f.seq) (λk=>aY (x:=f.done) i 2 rfl rfl (aY (x:=f.seq) i 2 rfl rfl (bD k))) ?_))
      refine fin (f.kind,f.view,f.seq,0,0,f.aV,f.done,Sl.nil) [] o _ i (r _) mA ?_
      simp only[dK,yE,dD,hk,beq_self_eq_true,Bool.and_true,Bool.true_and,ed]
      rw[if_neg (by decide),if_neg (by decide),if_neg (by decide),if_pos trivial]
      cases bE f.view 1 2147483647<;>cases bE f.seq 0 2147483647<;>cases bE f.aV 0 2147483647<;>cases bE f.done 0 f.seq<;>simp[Bool.and_assoc]
     ·have n8:¬f.kind=8:=by simpa using c8
      refine aL (λc9=>?_) (λc9=>?_)
      ·have hk:f.kind=9:=by simpa using c9
       have es:=aK hk
       subst es
       refine fin (f.kind,f.view,0,0,0,0,0,Sl.nil) [] w _ g (r _) mA ?_
       simp only[dK,yE,dD,hk,beq_self_eq_true,Bool.and_true,Bool.true_and,ed]
       rw[if_neg (by decide),if_neg (by decide),if_neg (by decide),if_neg (by decide),if_pos trivial]
      ·have n9:¬f.kind=9:=by simpa using c9
       refine fin (f.kind,f.view,sq,0,0,0,0,Sl.nil) [] w _ g (r _) mA ?_
       simp only[dK]
       rw[if_neg n1,if_neg n2,if_neg n3,if_neg n8,if_neg n9,Bool.false_and,Bool.and_false]
 refine aF (aL (λc=>aY (x:=f.seq) S 2 rfl rfl (cB (j:=2) S 1 rfl (by simp) rfl λw g=>?_)) (λc=>?_))
 ·exact rest f.seq w g (λ_=>rfl) (λh=>by rw[h] at c;cases c) Q hQ _ rfl
 ·exact rest 0 H4 S (λh=>by simp at c;exact absurd c h) (λ_=>rfl) Q hQ _ rfl
end
end Fm
end
section
namespace Fm
open Go Go.Kx KM Rw Cr Wi
section
variable {H B:PH} {L:List Ob} {f:pG} {s p:Sl} {b:Bs}
structure um (f:pG):Prop where
 kind:1<=f.kind/\f.kind<=9
 view:1<=f.view/\f.view<=2147483647
 seq:0<=f.seq/\f.seq<=2147483647
 block:0<=f.block/\f.block<=63
 count:0<=f.count/\f.count<=64
 aV:0<=f.aV/\f.aV<=2147483647
 done:0<=f.done/\f.done<=2147483647
 data:f.data.length=64∨f.data.length=0
theorem parts (h:dK f=true):um f:=by
 simp only[dK,Bool.and_eq_true,KM.bY] at h
 obtain⟨i,h⟩:=h
 have z:∀{x:Int},(x==0)=true->x=0:=λh=>by simpa using h
 split at h
 ·simp only[Bool.and_eq_true,KM.bY,beq_iff_eq] at h
  obtain⟨⟨⟨⟨⟨a,b⟩,c⟩,d⟩,e⟩,g⟩:=h
  exact⟨by omega,i,by omega,b,by omega,by omega,by omega,.inl c⟩
 ·split at h
  ·simp only[Bool.and_eq_true,KM.bY,beq_iff_eq] at h
   obtain⟨⟨⟨⟨⟨a,b⟩,c⟩,d⟩,e⟩,g⟩:=h
   exact⟨by omega,i,by omega,b,by omega,by omega,by omega,.inr g⟩
  ·split at h
   ·simp only[Bool.and_eq_true,KM.bY,beq_iff_eq] at h
    obtain⟨⟨⟨⟨⟨a,b⟩,c⟩,d⟩,e⟩,g⟩:=h
    exact⟨by omega,i,by omega,by omega,by omega,by omega,by omega,.inr g⟩
   ·split at h
    ·simp only[Bool.and_eq_true,KM.bY,beq_iff_eq] at h
     obtain⟨⟨⟨⟨⟨a,b⟩,c⟩,d⟩,e⟩,g⟩:=h
     exact⟨by omega,i,by omega,by omega,by omega,by omega,by omega,.inr g⟩
    ·split at h
     ·simp only[Bool.and_eq_true,beq_iff_eq] at h
      obtain⟨⟨⟨⟨⟨a,b⟩,c⟩,d⟩,e⟩,g⟩:=h
      exact⟨by omega,i,by omega,by omega,by omega,by omega,by omega,.inr g⟩
     ·cases h
theorem pv:(mu f).length=21+f.data.length:=by simp only[mu,List.length_cons,List.length_append,bI,List.length_nil];omega
theorem G5 (P:um f) (a:bU f.data):bU (mu f):=by
 have:=P.kind;have:=P.block;have:=P.count
 exact cK (by omega) (cK (by omega) (cK (by omega) (bu (bu (bu (bu (bu (eZ _ _) (eZ _ _)) (cK (by omega) (cK (by omega) mA))) (eZ _ _)) (eZ _ _)) a)))
theorem zn (P:um f) (a:bU f.data):bU (cC f):=tz (G5 P a)
theorem two {a b m:Int} (d:0<=a/\a<m) (e:0<=b/\b<m):∀y∈[a,b],0<=y/\y<m:=by
 intro y c
 simp only[List.mem_cons,List.not_mem_nil,or_false] at c
 rcases c with rfl|rfl
 ·exact d
 ·exact e
theorem three {a b d m:Int} (e:0<=a/\a<m) (g:0<=b/\b<m) (h:0<=d/\d<m):∀y∈[a,b,d],0<=y/\y<m:=by
 intro y c
 simp only[List.mem_cons,List.not_mem_nil,or_false] at c
 rcases c with rfl|rfl|rfl
 ·exact e
 ·exact g
 ·exact h
theorem uA {Q:Sl->Int->PH->Prop} (i:Bytes H s f.data) (h:bU f.data) (hm:dK f=false) (g:∀H',Ext H H'->Q Sl.nil 1 H'):kc (dD f s) H Q:=by
 refine dC (.start H) λa H1 e c=>bk (x:=dD f s) e rfl rfl (fS (i.ext c) h λd j=>?_)
 rw[hm]
 exact ae rfl (g d (c.trans j))
theorem dt {Q:Sl->Int->PH->Prop} (j:Bytes H s f.data) (u:bU f.data) (hm:dK f=true) (K:∀z H',aA H' [aC H,aW u8 z (cC f)]->Q z 0 H'):kc (dD f s) H Q:=by
 have P:=parts hm
 have hk:=P.kind;have hv:=P.view;have hq:=P.seq;have O:=P.block;have hc:=P.count;have he:=P.aV;have hd:=P.done
 have R:f.data.length<=64:=by have:=P.data;omega
 refine dC (.start H) λa H1 o M=>bk (x:=dD f s) o rfl rfl (fS (j.ext M) u λW N=>?_)
 rw[hm]
 have r:=o.ext N
 have S:=j.bF
 refine aE rfl (ay (x:=s) r rfl ?_)
 rw[bo (x:=21+(s.len:Int)) (by omega) (by omega),bo (by omega) (by omega),show(21+(s.len:Int)+4)=((25+f.data.length:Nat):Int) by omega]
 refine Rw.eI (n:=25+f.data.length) r (by omega) λa2 y X t=>aY (x:=f.kind) t 3 rfl rfl ?_
 have v:=three (a:=75) (b:=70) (d:=f.kind) (m:=256 ^ 1) (by omega) (by omega) (by omega)
 refine mv (x:=[]) (l:=[75,70,f.kind]) t rfl rfl (by decide) v (by simp;omega) (by simp;omega) λT Y A c=>?_
 have m1:=two (a:=f.view) (b:=f.seq) (m:=256 ^ 4) (by omega) (by omega)
 refine aY (x:=f.view) c 3 rfl rfl (aY (x:=f.seq) c 3 rfl rfl (mv (l:=[f.view,f.seq]) c rfl rfl (by decide) m1 (by simp;omega) (by simp[bI];omega) λU Z C e=>?_))
 have m2:=two (a:=f.block) (b:=f.count) (m:=256 ^ 1) (by omega) (by omega)
 refine aY (x:=f.block) e 3 rfl rfl (aY (x:=f.count) e 3 rfl rfl (mv (l:=[f.block,f.count]) e rfl rfl (by decide) m2 (by simp;omega) (by simp[bI];omega) λV H6 D g=>?_))
 have m3:=two (a:=f.aV) (b:=f.done) (m:=256 ^ 4) (by omega) (by omega)
 refine aY (x:=f.aV) g 3 rfl rfl (aY (x:=f.done) g 3 rfl rfl (mv (l:=[f.aV,f.done]) g rfl rfl (by decide) m3 (by simp;omega) (by simp[bI];omega) λF H7 E h=>?_))
 have w:Ext H F:=A.trans (C.trans (D.trans E))
 refine aY (x:=s) h 3 rfl rfl (Ea h (j.ext (w.trans h.base)) (by simp;omega) (by simp[bI];omega) λH8 i=>?_)
 have G:[]++[(75:Int),70,f.kind].flatMap (le 1)++[f.view,f.seq].flatMap (le 4)++[f.block,f.count].flatMap (le 1)++[f.aV,f.done].flatMap (le 4)++f.data=mu f:=by
  rw[zz _ v,zz _ m2,mu];simp
 rw[G] at i
 have I:25+f.data.length- 1*[(75:Int),70,f.kind].length- 4*[f.view,f.seq].length- 1*[f.block,f.count].length- 4*[f.aV,f.done].length-f.data.length=4:=by simp;omega
 rw[I] at i
 refine nU i (by rw[List.length_append,pv];simp;omega) λz H9 J=>?_
 exact vM J (by simp) (G5 P u) (by rw[pv];omega) λk q=>K z k (only q w)
def lQ (b:Bs):pG:=⟨num b 2 1,num b 3 4,num b 7 4,num b 11 1,num b 12 1,num b 13 4,num b 17 4,(b.drop 21).take (b.length- 25)⟩
theorem BO (b:Bs):vY b=if dK (lQ b)&&cC (lQ b)==b then some (lQ b) else none:=rfl
theorem gO {Q:F8->Int->PH->Prop} (h:aA H (aC B::L)) (U:Bytes B p b) (hl:25<=b.length) (aj:b.length<=65536) (d:bU b)
 (hy:∀f,vY b=some f->∀s i H',Ext B i->Bytes i s f.data->bU f.data->dK f=true->aA H' (aC i::L)->Q (dD f s) 0 H') (hn:vY b=none->∀i H',Ext B i->aA H' (aC i::L)->Q yD 2 H'):rD p H Q:=by
 refine az h λa H1 l=>nT l (U.ext l.base) (by omega) λX y H2 q=>rK (n:=2) q (by omega) (by omega) λ_ H3 Y=>?_
 refine cZ (w:=1) Y (by decide) (by omega) (by omega) d λH4 Z=>cB (j:=0) Z 3 rfl (by simp) rfl λH5 h5=>?_
 refine cZ (w:=4) h5 (by decide) (by omega) (by omega) d λH6 h6=>cB (j:=1) h6 3 rfl (by simp) rfl λH7 h7=>?_
 refine cZ (w:=4) h7 (by decide) (by omega) (by omega) d λH8 h8=>cB (j:=2) h8 3 rfl (by simp) rfl λH9 h9=>?_
 refine cZ (w:=1) h9 (by decide) (by omega) (by omega) d λaa G=>cB (j:=3) G 3 rfl (by simp) rfl λab I=>?_
 refine cZ (w:=1) I (by decide) (by omega) (by omega) d λac J=>cB (j:=4) J 3 rfl (by simp) rfl λad K=>?_
 refine cZ (w:=4) K (by decide) (by omega) (by omega) d λaf M=>cB (j:=5) M 3 rfl (by simp) rfl λag N=>?_
 refine cZ (w:=4) N (by decide) (by omega) (by omega) d λah O=>cB (j:=6) O 3 rfl (by simp) rfl λai t=>?_
 refine tS t (by omega) (by omega) ?_
 rw[bo (by omega) (by omega),show(((b.length-(0+2+1+4+4+1+1+4+4):Nat):Int)- 4)=((b.length- 25:Nat):Int) by omega]
 refine jE t (by omega) (by omega) λz E v=>?_
 have P:aA E (aC B::aW u8 z (lQ b).data::aG X (cells y (0+2+1+4+4+1+1+4+4+(b.length- 25)))::aW u8 y b::aG a (f8 (num b 2 1,num b 3 4,num b 7 4,num b 11 1,num b 12 1,num b 13 4,num b 17 4,Sl.nil))::L):=
  v.perm (.cons _ ((List.Perm.cons _ (.swap _ _ _)).trans (.swap _ _ _)))
 have g:bU (lQ b).data:=rL (pr d _) _
 refine gX P λk D C A=>?_
 have R:=A.ak.ak
 refine xi (j:=7) R (by simp) rfl λF S=>?_
 have e:aA F (aC k::aG a (f8 (dD (lQ b) z))::L):=S
 refine bk (x:=dD (lQ b) z) e rfl rfl ?_
 have fin:∀o,aA o (aC k::aG a (f8 (dD (lQ b) z))::L)->∀sb:Bool,(sb=true->vY b=none)->(sb=false->vY b=some (lQ b)/\dK (lQ b)=true)->
  aJ sb (aX o a (f8 yD) λH1=>aU f8 H1 a 8 λy=>Q y 2 H1) (aU f8 o a 8 λy=>aX o a (f8 y) λH1=>aU f8 H1 a 8 λy=>Q y 0 H1):=λo V sb f1 f2=>by
  refine zY (x:=dD (lQ b) z) (z:=yD) (Q:=Q) V 1 rfl rfl rfl Vo Vp (λc H1 l=>?_) (λc H1 l=>?_)
  ·have q:aA H1 (aC k::aG a (f8 yD)::L):=l
   exact hn (f1 c) k H1 D q.ak
  ·have q:aA H1 (aC k::aG a (f8 (dD (lQ b) z))::L):=l
   exact hy _ (f2 c).1 z k H1 D C g (f2 c).2 q.ak
 by_cases hm:dK (lQ b)=true
 ·refine dt (C.ext e.base) g hm λw m T=>?_
  have r:=e.made T
  refine aF (aE rfl (nV (r.list (enc:=u8) 1 rfl) (U.ext (D.trans r.base)) (zn (parts hm) g) d (fin m r.ak _ (λc=>?_) (λc=>⟨?_,hm⟩))))
  ·rw[BO,if_neg (by rw[hm,Bool.true_and];simpa using c)]
  ·rw[BO,if_pos (by rw[hm,Bool.true_and];simpa using c)]
 ·have u:dK (lQ b)=false:=by simpa using hm
  exact uA (C.ext e.base) g u λm W=>aF (ae rfl (fin m (e.ext W) true (λ_=>by rw[BO,u];rfl) (λc=>by cases c)))
theorem EH {m:M5} {o:iV} {view seq:Int} {Q:F8->Bool->PH->Prop} (h:aA H (aC B::L)) (N:vf H m o) (J:bU o.data) (W:o.data.length<=2 ^ 20)
 (O:dK (dY view seq o)=true->o.kind≠8->o.kind≠9->∀s d H',Ext B d->Bytes d s o.data->aA H' (aC d::L)->Q (dD (dY view seq o) s) true H')
 (M:¬(dK (dY view seq o)=true/\o.kind≠8/\o.kind≠9)->∀d H',Ext B d->aA H' (aC d::L)->Q yD false H'):uT view seq m H Q:=by
 obtain⟨mk,X,Y,Z,ms⟩:=m
 obtain⟨e1,e2,e3,w,D⟩:=N
 simp only at e1 e2 e3 w D
 subst e1 e2 e3 w
 refine dC h λa H1 I P=>dC I λu T e R=>aF ?_
 refine aY (x:=o.kind) e 2 rfl rfl (aY (x:=o.block) e 2 rfl rfl (aY (x:=o.count) e 2 rfl rfl (aY (x:=o.aV) e 2 rfl rfl (aY (x:=ms) e 2 rfl rfl ?_))))
 refine jb e (D.ext (P.trans R)) (by omega) λy F A=>gX A λl E q z=>?_
 have n:aZ F a (c5 (o.kind,o.block,o.count,o.aV,ms)):=z.get 2 rfl
 refine cx n rfl (cx n rfl (cx n rfl (cx n rfl (az z λv G C=>?_))))
 have r5:aZ G a (c5 (o.kind,o.block,o.count,o.aV,ms)):=C.get 3 rfl
 refine cx r5 rfl (cx r5 rfl (cx r5 rfl (cx r5 rfl (bf (vs:=f8 (dD (dY view seq o) y)) C rfl rfl λU r=>?_))))
 ·refine bk (x:=dD (dY view seq o) y) r rfl rfl (fS (f:=dY view seq o) (q.ext r.base) J λV S=>?_)
  have i:=r.ext S
  refine vk (b:=o.kind==8) (λk=>ay (x:=o.kind) i rfl k) (vk (b:=o.kind==9) (λk=>ay (x:=o.kind) i rfl k) ?_)
  refine aL (λc=>?_) (λc=>?_)
  ·refine eU (vs:=f8 yD) i 2 rfl rfl rfl λg j=>bj (x:=yD) j 2 rfl rfl rfl (M (λK=>?_) l g E ?_)
   ·obtain⟨c1,c2,c3⟩:=K
    rw[c1] at c;simp[c2,c3] at c
   ·have t:aA g (aC l::aG v _::aG u (f8 yD)::aG a _::L):=j
    exact t.ak.ak.ak
  ·simp at c
   refine bk (x:=dD (dY view seq o) y) i rfl rfl (eU (vs:=f8 (dD (dY view seq o) y)) i 2 rfl rfl rfl λg j=>bj (x:=dD (dY view seq o) y) j 2 rfl rfl rfl (O c.1.1 c.1.2 c.2 y l g E q ?_))
   have t:aA g (aC l::aG v _::aG u (f8 (dD (dY view seq o) y))::aG a _::L):=j
   exact t.ak.ak.ak
theorem RC {Q:M5->Bool->PH->Prop} (h:aA H (aC B::L)) (l:Bytes H s f.data) (C:bU f.data) (hm:dK f=true) (w:f.kind≠8) (z:f.kind≠9)
 (A:∀m e H',Ext B e->vf e m (gb f)->aA H' (aC e::L)->Q m true H'):zL (dD f s) H Q:=by
 have P:=parts hm
 refine dC h λa H1 v n=>dC v λI F g o=>bj (x:=dD f s) g 2 rfl rfl rfl (fS (l.ext (n.trans o)) C λG q=>?_)
 rw[hm]
 have c:=g.ext q
 refine aF (aE rfl (aY (x:=f.kind) c 2 rfl rfl (aF (aE (by simpa using w) (aY (x:=f.kind) c 2 rfl rfl (aE (by simpa using z) ?_))))))
 refine aY (x:=f.kind) c 2 rfl rfl (aY (x:=f.block) c 2 rfl rfl (aY (x:=f.count) c 2 rfl rfl (aY (x:=f.aV) c 2 rfl rfl (aY (x:=s) c 2 rfl rfl ?_))))
 refine jb c (l.ext (n.trans (o.trans q))) (by have:=P.data;omega) λy t j=>gX j λr E D i=>?_
 have d:aZ t a (f8 (dD f s)):=i.get 2 rfl
 refine cx d rfl (cx d rfl (cx d rfl (cx d rfl (bf (vs:=c5 (f.kind,f.block,f.count,f.aV,y)) i rfl rfl λu k=>bk (x:=(f.kind,f.block,f.count,f.aV,y)) k rfl rfl ?_))))
 exact A _ r u E ⟨rfl,rfl,rfl,rfl,D⟩ k.ak.ak
end
end Fm
end
section
namespace Re
open Go Go.Kx KM Rw Ge Sc Rg Mo Ds Rc So Wi Fm
structure Fr where
 X:Ad
 fa:Addr
 ra:Addr
 va:Addr
 vs:Sl
structure rP (B:PH) (F:Fr) (c:bC):Prop where
 X:mq B F.X c
 f:aZ B F.fa [.pointer (some F.ra)]
 r:aZ B F.ra [.pointer (some F.X.sa),.pointer (some F.va)]
theorem rP.ext {B a:PH} {F:Fr} {c:bC} (h:rP B F c) (x:Ext B a):rP a F c:=⟨h.X.ext x,h.f.ext x,h.r.ext x⟩
structure uG (S:KM.St):Prop where
 mode:S.n.mode=1
 view:1<=S.n.view/\S.n.view<=2147483647
 done:0<=S.n.done/\S.n.done<=S.n.seq
 seq:S.n.seq<=2 ^ 30
 aV:0<=S.n.aV/\S.n.aV<=2 ^ 30
structure qX (S:KM.St) (o:iV):Prop where
 kind:o.kind=1∨o.kind=3
 w:o.kind=1->S.has o.block 1=true/\o.data.length=64/\bU o.data/\cL (1,o.block,0,0)=true/\(S.add (1,o.block,0,0) (some o.data) false).2.2=0
 m:o.kind=3->o.aV=S.n.aV+1/\(S.add (3,0,0,o.aV) none false).2.2=0
abbrev uH (A:Ds.DA) (F:Fr) (W:Wt) (S:KM.St) (V:WM) (R:List Ob):List Ob:=bx A F.X W S (gG F.va F.vs V::R)
section
variable {H B:PH} {L R:List Ob} {k n:Nat} {A:Ds.DA} {F:Fr} {W:Wt} {S:KM.St} {V:WM}
theorem vT (ok:bJ k S) (hk:k+60< 2 ^ 28) (b:uG S) {o:iV} (h:qX S o):bJ (k+26) (S.op o).1/\(S.op o).2=0/\(S.op o).1.c=S.c/\(S.op o).1.d.now.length=S.d.now.length/\(S.op o).1.n.seq=S.n.seq+1/\(S.op o).1.n.mode=1/\(S.op o).1.n.view=S.n.view/\
 (S.op o).1.n.aV=S.n.aV+o.kind/ 3/\(0<=(S.op o).1.n.done/\(S.op o).1.n.done<=(S.op o).1.n.seq)/\(S.op o).1.n.lb=S.n.lb/\(S.op o).1.n.lo=S.n.lo:=by
 have s:=b.done
 rcases h.kind with g|l
 ·obtain⟨a1,f,p,q,r⟩:=h.w g
  obtain⟨l1,l2,i,a,j⟩:=Sz ok (by omega) b.mode a1 f p r q
  have e:S.op o=S.lay true o.block o.data:=by unfold KM.St.op;rw[if_pos g]
  rw[e]
  refine⟨l1.mono (by omega),j,l2,i,by rw[a],by rw[a];exact b.mode,by rw[a],by rw[a,g];show S.n.aV=S.n.aV+1/ 3;omega,?_,by rw[a],by rw[a]⟩
  rw[a];exact⟨s.1,by show S.n.done<=S.n.seq+1;omega⟩
 ·obtain⟨a1,f⟩:=h.m l
  have he:=b.aV
  obtain⟨l1,l2,i,a,j,_⟩:=RB ok hk b.mode a1 (by omega) f
  have e:S.op o=S.mark o.aV:=by unfold KM.St.op;rw[if_neg (by omega),if_neg (by omega)]
  rw[e]
  refine⟨l1,j,l2,i,by rw[a],by rw[a];exact b.mode,by rw[a],by rw[a,l];show o.aV=S.n.aV+3/ 3;omega,?_,by rw[a],by rw[a]⟩
  rw[a];exact⟨by show 0<=S.n.seq+1;omega,Int.le_refl _⟩
theorem Al {m:M5} {o:iV} {Q:Int->PH->Prop} (h:aA H (aC B::bx A F.X W S R)) (y:A.a=F.X.da) (p:rP B F S.c) (z:iJ B W S) (ok:bJ k S) (hk:k+60< 2 ^ 28) (g:uG S) (hm:vf B m o) (q:qX S o)
 (i:∀s t l H',s.a=F.X.da->Ext B l->iJ l t (S.op o).1->aA H' (aC l::bx s F.X t (S.op o).1 R)->Q 0 H'):la (some F.ra) m H Q:=by
 obtain⟨m1,m2,m3,m4,K⟩:=hm
 have j:0<=S.n.seq/\S.n.seq< 2 ^ 40:=by have:=g.done;have:=g.seq;omega
 refine az h λa1 H1 b=>ay (x:=m.1) b rfl ?_
 have rr:=p.r.ext b.base
 rcases q.kind with d|f
 ·obtain⟨u,C,D,E,G⟩:=q.w d
  have e:S.op o=S.lay true o.block o.data:=by unfold KM.St.op;rw[if_pos d]
  rw[e] at i
  refine ae (by rw[m1,d];rfl) (aD (aa (x:=some F.X.sa) rr rfl (ay (x:=m.2.1) b rfl (ay (en:=Sl.v) (x:=m.2.2.2.2) b rfl ?_))))
  rw[m2]
  exact Ht b.ak y p.X z ok (by omega) g.mode u K C D G E j i
 ·obtain⟨I,J⟩:=q.m f
  have he:=g.aV
  have e:S.op o=S.mark o.aV:=by unfold KM.St.op;rw[if_neg (by omega),if_neg (by omega)]
  rw[e] at i
  refine aE (by rw[m1,f];rfl) (aE (by rw[m1,f];rfl) (aD (aa (x:=some F.X.sa) rr rfl (ay (x:=m.2.2.2.1) b rfl ?_))))
  rw[m4]
  exact Kb b.ak y p.X z ok hk g.mode I (by omega) J j i
theorem Hu {Q:Sl->Int->PH->Prop} (h:aA H (aC B::bx A F.X W S R)) (i:rP B F S.c) (ok:bJ k S) (b:uG S)
 (v:∀q d H',Ext B d->Bytes d q (cC S.jn)->aA H' (aC d::bx A F.X W S R)->Q q 0 H'):iQ (some F.ra) H Q:=by
 refine aD (aa (x:=some F.X.sa) (i.r.ext h.base) rfl (qR h i.X ok.tolq λC H1 j p=>?_))
 refine az p λG D t=>bf (vs:=cX S.status) t rfl rfl λE a=>?_
 refine ay (x:=S.n.view) a rfl (ay (x:=S.n.seq) a rfl (ay (x:=S.n.aV) a rfl (ay (x:=S.n.done) a rfl ?_)))
 have hm:dK S.jn=true:=by
  have:=b.view;have:=b.done;have:=b.seq;have:=b.aV
  have e:dK S.jn=(bE S.n.view 1 2147483647&&(bE S.n.seq 0 2147483647&&bE S.n.aV 0 2147483647&&bE S.n.done 0 S.n.seq&&(0:Int)==0&&(0:Int)==0&&([]:Bs).length==0)):=rfl
  rw[e]
  simp only[Bool.and_eq_true,KM.bY,beq_iff_eq,List.length_nil]
  exact⟨by omega,⟨⟨⟨⟨by omega,by omega⟩,by omega⟩,trivial⟩,trivial⟩,trivial⟩
 refine Fm.dt (f:=S.jn) (s:=Sl.nil) .nil (λx w=>by cases w) hm λz o g=>gX (a.made g) λm l y u=>?_
 exact v z m o (j.trans l) y u.ak
end
end Re
end
section
namespace Re
open Go Go.Kx KM Rw Ge Sc Rg Mo Ds Rc So Wi Fm
section
variable {H B:PH} {L R:List Ob} {k n:Nat} {A:Ds.DA} {F:Fr} {W:Wt} {S:KM.St} {V:WM}
theorem Mx {V:WM} {n:Int} {m:M5} (h:V.f n=some m):(xI (V.f n))=(m,true):=by rw[h];rfl
theorem D6 {m:M5} {o:iV} {Q:Sl->Int->PH->Prop} (h:aA H (aC B::uH A F W S V R)) (hA:A.a=F.X.da) (M:rP B F S.c) (hW:iJ B W S) (ok:bJ k S) (hk:k+60< 2 ^ 28) (G:uG S) (an:S.n.seq+1<=2 ^ 30) (am:S.n.aV+1<=2 ^ 30) (hm:vf B m o) (N:qX S o)
 (hv:V.f V.next=some m) (ai:∀i,i≠V.next->V.f i=none) (aj:V.next+1< 2 ^ 40)
 (hQ:∀g p q b H',g.a=F.X.da->Ext B b->iJ b p (S.op o).1->Bytes b q (cC (S.op o).1.jn)->aA H' (aC b::uH g F p (S.op o).1 ⟨V.size,V.next+1,λ_=>none⟩ R)->Q q 0 H'):nM (some F.ra) H Q:=by
 obtain⟨p1,p2,p3,p4,p5,p6,p7,p8,p9,ao,ap⟩:=vT ok hk G N
 have C:V.sy=m/\V.tA=true:=by rw[WM.sy,WM.tA,Mx hv];exact⟨rfl,rfl⟩
 have t:∀{b H'},Ext B b->Ext b H'->aZ H' F.ra [.pointer (some F.X.sa),.pointer (some F.va)]:=λx y=>(M.r.ext x).ext y
 refine aD (aa (x:=some F.va) (t (.refl _) h.base) rfl (yC h.Bk λH1 h1=>?_))
 rw[C.1,C.2]
 refine az h1 λU H2 h2=>bf (vs:=c5 m) h2 rfl rfl λO w=>?_
 have w:aA O (aC B::bx A F.X W S (aG U (c5 m)::gG F.va F.vs V::R)):=w.Sx
 refine ax 1 (λi st T=>(i=0/\st=(U,true)/\T=O)∨(i=1/\st.2=false/\∃g p b d cs,g.a=F.X.da/\Ext B b/\iJ b p (S.op o).1/\aA T (aC b::aG d cs::uH g F p (S.op o).1 ⟨V.size,V.next+1,λ_=>none⟩ R))) (.inl ⟨rfl,rfl,rfl⟩) ?_
 rintro i ⟨sa,sb⟩ H4 again hi ah ag
 rcases ah with⟨rfl,e,rfl⟩|⟨rfl,e,g,p,b,d,cs,eA,xb,ad,E⟩
 ·obtain⟨rfl,rfl⟩:=Prod.mk.inj e
  refine ae rfl (bj (x:=m) w 12 rfl rfl rfl ?_)
  refine Al w hA M hW ok hk G hm N λj s l J Y D af E=>aF (aE rfl (aE rfl (aD (aa (x:=some F.va) (t D E.base) rfl ?_))))
  have K:aA J (aC l::gG F.va F.vs V::aG sa (c5 m)::(nY j F.X s (S.op o).1++R)):=by
   have:aA J (aC l::aG sa (c5 m)::(nY j F.X s (S.op o).1++gG F.va F.vs V::R)):=E.Bk
   exact(show aA J (aC l::((aG sa (c5 m)::nY j F.X s (S.op o).1)++gG F.va F.vs V::R)) from this).Bk
  refine Oq K aj λP z=>?_
  have ep:V.pop=⟨V.size,V.next+1,λ_=>none⟩:=by
   rw[WM.pop,C.2,if_pos rfl,WM.cut]
   simp only[WM.mk.injEq,true_and]
   funext i
   by_cases e:i=V.next
   ·rw[if_pos e]
   ·rw[if_neg e];exact ai i e
  rw[ep] at z
  refine bj (x:=m) z 2 rfl rfl rfl (az z λd H8 h8=>bf (vs:=c5 m) h8 rfl rfl λH9 h9=>aD (aa (x:=some F.va) (t D h9.base) rfl (yC h9.swap λal ab=>?_)))
  have Z:(⟨V.size,V.next+1,λ_=>none⟩:WM).sy=Wi.dp/\(⟨V.size,V.next+1,λ_=>none⟩:WM).tA=false:=⟨rfl,rfl⟩
  rw[Z.1,Z.2]
  refine eU (vs:=c5 Wi.dp) ab 2 rfl rfl rfl λu v=>ag (by omega) _ _ (.inr ⟨rfl,rfl,j,s,l,d,c5 Wi.dp,Y,D,af,?_⟩)
  have v:aA u (aC l::gG F.va F.vs ⟨V.size,V.next+1,λ_=>none⟩::aG d (c5 Wi.dp)::aG sa (c5 m)::(nY j F.X s (S.op o).1++R)):=v
  have ac:aA u (aC l::aG d (c5 Wi.dp)::aG sa (c5 m)::(nY j F.X s (S.op o).1++gG F.va F.vs ⟨V.size,V.next+1,λ_=>none⟩::R)):=
   (show aA u (aC l::gG F.va F.vs ⟨V.size,V.next+1,λ_=>none⟩::((aG d (c5 Wi.dp)::aG sa (c5 m)::nY j F.X s (S.op o).1)++R)) from v).uM
  exact ac.swap.ak
 ·simp only at e;subst e
  have K:=E.ak
  refine aE rfl (Hu K (by rw[p3];exact M.ext xb) p1 ⟨p6,by rw[p7];exact G.view,p9,by rw[p5];omega,?_⟩ λq B7 P I hq z=>hQ g p q B7 P eA (xb.trans I) (ad.ext I) hq z)
  have he:=G.aV
  rw[p8]
  rcases N.kind with h1|w<;>rw[‹o.kind=_›]<;>omega
end
end Re
end
section
namespace Re
open Go Go.Kx KM Rw Ge Sc Rg Mo Ds Rc So Wi Fm
section
variable {H B:PH} {L R:List Ob} {k n:Nat} {A:Ds.DA} {F:Fr} {W:Wt} {S:KM.St} {V:WM} {f:pG}
theorem Kd {Q:Int->PH->Prop} (h:aA H (aC B::bx A F.X W S R)) (l:A.a=F.X.da) (d:rP B F S.c) (ok:bJ k S) (hm:S.n.mode=1) (m:∀b H',Ext B b->aA H' (aC b::bx A F.X W S R)->Q 0 H'):kn (some F.ra) H Q:=by
 have rr:=d.r.ext h.base
 refine aF (aE rfl (aD (aa (x:=some F.X.sa) rr rfl (yA h ?_))))
 rw[←l]
 refine BL (i:=4) h rfl ?_
 rw[ok.dk.off]
 refine aE rfl (aD (aa (x:=some F.X.sa) rr rfl (qR h d.X ok.tolq λg H1 e j=>aE ?_ (m g H1 e j))))
 show(S.n.mode != 1)=false
 rw[hm];rfl
theorem G6 {s:Sl} {Q:Bool->PH->Prop} (h:aA H (aC B::bx A F.X W S R)) (g:rP B F S.c) (ok:bJ k S) (hk:f.kind=1∨f.kind=3) (o:f.kind=1->f.count=0/\S.has f.block 1=true) (j:∀H',aA H' (aC B::bx A F.X W S R)->Q false H'):jw (some F.ra) (dD f s) H Q:=by
 have q:=ok.im.xG
 refine az h λa1 H1 a=>ay (x:=f.count) a rfl (ay (x:=f.kind) a rfl (aF ?_))
 rcases hk with b|d
 ·obtain⟨l,m⟩:=o b
  have p:=Gw ok.tolq m
  refine aE (by rw[b];rfl) (ay (x:=f.kind) a rfl (aF (ae (by rw[b];rfl) (mP.i (aF (ae rfl ?_))))))
  refine ay (x:=f.block) a rfl (aD (aa (x:=some F.X.sa) (g.r.ext a.base) rfl ?_))
  have e:=a.ak
  refine zk e (cw a 1 rfl rfl (Ig.ur (n:=S.c.1.toNat) (g.X.im.ext a.base) (Ig.Gd (wK e) ok.im) (cw a 1 rfl rfl ?_)))
  rw[l,if_pos (by decide),bo (x:=f.block+1) (by omega) (by omega),decide_eq_false (by omega)]
  exact j H1 e
 ·refine aE (by rw[d];rfl) (ay (x:=f.kind) a rfl (aF (aE (by rw[d];rfl) (ay (x:=f.kind) a rfl (mP.i (aF (aE (by rw[d];rfl) ?_)))))))
  exact j H1 a.ak
theorem Ke (hm:dK f=true) (h:f.kind=1):f.count=0:=by
 rw[dK,if_pos h] at hm
 simp only[Bool.and_eq_true,beq_iff_eq] at hm
 exact hm.2.1.1.2
theorem jE {p:Sl} {b:Bs} {Q:Sl->Int->PH->Prop} (h:aA H (aC B::uH A F W S V R)) (hA:A.a=F.X.da) (y:rP B F S.c) (hW:iJ B W S) (ok:bJ k S) (hk:k+60< 2 ^ 28) (hn:uG S) (ai:S.n.seq+1<=2 ^ 30) (af:S.n.aV+1<=2 ^ 30)
 (hp:Bytes B p b) (hD:vY b=some f) (hl:25<=b.length) (ag:b.length<=65536) (hb:bU b) (hv:f.view=S.n.view) (hs:f.seq=V.next) (hE:∀i,V.f i=none) (an:0<V.size) (aj:V.next+1< 2 ^ 40) (T:qX S (gb f))
 (hQ:∀z C q d H',z.a=F.X.da->Ext B d->iJ d C (S.op (gb f)).1->Bytes d q (cC (S.op (gb f)).1.jn)->aA H' (aC d::uH z F C (S.op (gb f)).1 ⟨V.size,V.next+1,λ_=>none⟩ R)->Q q 0 H'):jV (some F.ra) p H Q:=by
 refine Fm.gO h hp hl ag hb (λf' I s U H1 K ah ad D h1=>?_) (λJ=>by rw[hD] at J;cases J)
 rw[hD] at I
 have ef:=Option.some.inj I
 subst ef
 have l:f.kind=1∨f.kind=3:=T.kind
 refine az h1 λu H2 h2=>bf (vs:=f8 (dD f s)) h2 rfl rfl λZ P=>aE rfl ?_
 have P:aA Z (aC U::uH A F W S V (aG u (f8 (dD f s))::R)):=(show aA Z (aC U::aG u (f8 (dD f s))::((nY A F.X W S++[gG F.va F.vs V])++R)) from P).uM
 refine Kd P hA (y.ext K) ok hn.mode λB4 H4 M h4=>aE rfl (bj (x:=dD f s) h4 13 rfl rfl rfl ?_)
 have o:=K.trans M
 refine G6 h4 (y.ext o) ok l (λe=>⟨Ke D e,(T.w e).1⟩) λH5 E=>aE rfl (aY (x:=f.kind) E 13 rfl rfl (aE ?_ ?_))
 ·rcases l with e|e<;>rw[e]<;>rfl
 refine aY (x:=f.view) E 13 rfl rfl (aD (aa (x:=some F.X.sa) ((y.r.ext o).ext E.base) rfl (qR E ((y.ext o).X) ok.tolq λB6 H6 N G=>cw G 13 rfl rfl (aE ?_ (bj (x:=dD f s) G 13 rfl rfl rfl ?_)))))
 ·show(f.view != S.n.view)=false
  rw[hv];simp
 have ak:=o.trans N
 refine Fm.RC G (ah.ext (M.trans (N.trans G.base))) ad D (by omega) (by omega) λm O H7 am hm h7=>?_
 have t:=ak.trans am
 refine az h7 λg H8 h8=>bf (vs:=c5 m) h8 rfl rfl λH9 v=>?_
 have v:aA H9 (aC O::uH A F W S V (aG g (c5 m)::aG u (f8 (dD f s))::R)):=(show aA H9 (aC O::aG g (c5 m)::((nY A F.X W S++[gG F.va F.vs V])++(aG u (f8 (dD f s))::R))) from v).uM
 refine aD (aa (x:=some F.va) ((y.r.ext t).ext v.base) rfl (aY (x:=f.seq) v 14 rfl rfl (bj (x:=m) v 13 rfl rfl rfl (tF v.Bk λY j=>?_))))
 have eE:V.yO f.seq=0:=by
  rw[WM.yO,hs,if_neg (by omega),if_neg (by omega),hE];rfl
 have ep:V.put f.seq m=⟨V.size,V.next,λi=>if i=V.next then some m else none⟩:=by
  rw[WM.put,if_pos eE,hs]
  simp only[hE]
 have j:aA Y (aC O::gG F.va F.vs (V.put f.seq m)::(nY A F.X W S++(aG g (c5 m)::aG u (f8 (dD f s))::R))):=j
 rw[ep] at j
 rw[eE]
 refine ae rfl ?_
 refine D6 (V:=⟨V.size,V.next,λi=>if i=V.next then some m else none⟩) j.uM hA (y.ext t) (hW.ext t) ok hk hn ai af hm T (by simp) (λi hi=>by simp[hi]) aj λz C q d H' eA al ac hq h'=>?_
 refine hQ z C q d H' eA (t.trans al) ac hq ?_
 have ab:aA H' (aC d::((nY z F.X C (S.op (gb f)).1++[gG F.va F.vs ⟨V.size,V.next+1,λ_=>none⟩])++aG g (c5 m)::aG u (f8 (dD f s))::R)):=h'
 exact ab.jx.jx
theorem DV {p:Sl} {Q:Sl->Int->PH->Prop} (a:rP B F S.c) (x:Ext B H) (b:jV (some F.ra) p H Q):mR (some F.fa) p H Q:=
 aE rfl (aD (aa (x:=some F.ra) (a.f.ext x) rfl b))
theorem qS {Q:Option Addr->PH->Prop} {c:bC} (a:rP B F c) (x:Ext B H) (b:Q (some F.X.sa) H):fX (some F.fa) H Q:=
 aE rfl (aD (aa (x:=some F.ra) (a.f.ext x) rfl (aE rfl (aD (aa (x:=some F.X.sa) (a.r.ext x) rfl b)))))
theorem pC {Q:xv->PH->Prop} (h:aA H (aC B::bx A F.X W S R)) (j:rP B F S.c) (ok:bJ k S) (m:∀b H',Ext B b->aA H' (aC b::bx A F.X W S R)->Q S.status H'):fL (some F.fa) H Q:=by
 refine az h λa1 H1 g=>qS j g.base ?_
 have a:aA H1 (aC B::bx A F.X W S (aG a1 (cX lP)::R)):=g.uM
 refine qR a j.X ok.tolq λd o l a=>eU (vs:=cX S.status) a 12 rfl rfl rfl λe i=>bj (x:=S.status) i 12 rfl rfl rfl ?_
 exact m d e l (show aA e (aC d::(nY A F.X W S++aG a1 (cX S.status)::R)) from i).jx
end
end Re
end
section
namespace Vi
open Go Go.Kx KM Ge Us
abbrev X3:=Int×Int×Int
def vg (x:X3):List Value:=[.int .i64 x.1,.int .i64 x.2.1,.int .i64 x.2.2]
def wT (live b room:Int):Prop:=(1<=room/\room<=1000)/\(0<=live/\live<=room)/\0<=b/\b<=2147483647
instance (a b c:Int):Decidable (wT a b c):=by unfold wT;infer_instance
def wU (live b room:Int):Int:=if wT live b room then(room-live)*b/(room+live) else 0
def BP (a b:X3):Bool:=if a.1≠b.1 then decide (b.1<a.1) else if a.2.1≠b.2.1 then decide (a.2.1<b.2.1) else decide (a.2.2<b.2.2)
def BQ (now b:Int):Int:=if now<=b then 0 else min (now-b) 2147483647
section
variable {H:PH} {L:List Ob}
theorem uZ {n low high:Int} {Q:Bool->PH->Prop} (b:Q (decide (low<=n)&&decide (n<=high)) H):lE n low high H Q:=by
 refine aF (aL (λc=>?_) (λc=>?_))
 ·rw[c,Bool.true_and] at b;exact b
 ·rw[c,Bool.false_and] at b;exact b
theorem My {live b room:Int} (h:wT live b room):0<=(room-live)*b/\(room-live)*b<=1000*2147483647/\0<=(room-live)*b/(room+live)/\(room-live)*b/(room+live)<=(room-live)*b:=by
 obtain⟨⟨a1,j⟩,⟨k,m⟩,e,f⟩:=h
 have d:0<=(room-live)*b:=Int.mul_nonneg (by omega) e
 have i:(room-live)*b<=1000*2147483647:=Int.mul_le_mul (by omega) f e (by decide)
 exact⟨d,i,Int.ediv_nonneg d (by omega),Int.ediv_le_self _ d⟩
theorem Kf {live b room:Int} {Q:Int->PH->Prop} (d:Q (wU live b room) H):tk live b room H Q:=by
 by_cases h:wT live b room
 ·obtain⟨n0,n1,n2,n3⟩:=My h
  rw[wU,if_pos h] at d
  obtain⟨⟨a1,e⟩,⟨f,i⟩,j,k⟩:=h
  refine uZ (aF (aE (by simp;omega) (uZ ?_)))
  have e1:(!(decide (0<=live)&&decide (live<=room)))=false:=by simp;omega
  rw[e1]
  refine aF (aE rfl (uZ ?_))
  have e2:(!(decide (0<=b)&&decide (b<=2147483647)))=false:=by simp;omega
  rw[e2]
  refine aE rfl ⟨by rw[bA (by omega) (by omega)];omega,?_⟩
  rw[bA (x:=room+live) (by omega) (by omega),bA (x:=room-live) (by omega) (by omega),bA (x:=(room-live)*b) (by omega) (by omega),Int.tdiv_eq_ediv_of_nonneg n0,bA (by omega) (by omega)]
  exact d
 ·rw[wU,if_neg h] at d
  refine uZ (aF (aL (λ_=>aF (ae rfl (ae rfl d))) (λc1=>uZ (aF (aL (λ_=>ae rfl d) (λc2=>uZ (ae ?_ d)))))))
  simp at c1 c2 ⊢
  simp only[wT] at h
  omega
theorem Hv {a b:X3} {Q:Bool->PH->Prop} (o:∀H',Ext H H'->Q (BP a b) H'):sw a b H Q:=by
 refine jf λa1 H1 u p _=>jf λn i m r f2=>?_
 have d:aZ i a1 (vg a):=p.ext m
 have e:aZ i n (vg b):=r
 have q:=o i (u.trans m)
 have i0:∀{a:Addr} {K:Addr->Prop},K (a.add 0)->fW 3 a 1 0 K:=λh=>ic (by decide) (by decide) h
 have i1:∀{a:Addr} {K:Addr->Prop},K (a.add 1)->fW 3 a 1 1 K:=λh=>ic (by decide) (by decide) h
 have i2:∀{a:Addr} {K:Addr->Prop},K (a.add 2)->fW 3 a 1 2 K:=λh=>ic (by decide) (by decide) h
 refine i0 (aa (x:=a.1) d rfl (i0 (aa (x:=b.1) e rfl (aL (λc=>?_) (λc=>?_)))))
 ·have j:a.1≠b.1:=by simpa using c
  rw[BP,if_pos j] at q
  exact i0 (aa (x:=a.1) d rfl (i0 (aa (x:=b.1) e rfl q)))
 ·have j:¬a.1≠b.1:=by simpa using c
  rw[BP,if_neg j] at q
  refine i1 (aa (x:=a.2.1) d rfl (i1 (aa (x:=b.2.1) e rfl (aF (aL (λc1=>?_) (λc1=>?_)))))
  )
  ·have k:a.2.1<b.2.1:=by simpa using c1
   rw[if_pos (by omega),c1] at q
   exact q
  ·have k:¬a.2.1<b.2.1:=by simpa using c1
   refine i1 (aa (x:=a.2.1) d rfl (i1 (aa (x:=b.2.1) e rfl (aF (aL (λc2=>?_) (λc2=>?_))))))
   ·have f:a.2.1=b.2.1:=by simpa using c2
    rw[if_neg (by omega)] at q
    exact i2 (aa (x:=a.2.2) d rfl (i2 (aa (x:=b.2.2) e rfl q)))
   ·have f:¬a.2.1=b.2.1:=by simpa using c2
    rw[if_pos f,c1] at q
    exact q
theorem Ot {now b:Int} {Q:Int->PH->Prop} (h:0<=b) (i:now<=9223372036854775807) (d:Q (BQ now b) H):wA now b H Q:=by
 refine aL (λc=>?_) (λc=>?_)
 ·have f:now<=b:=by simpa using c
  rw[BQ,if_pos f] at d;exact d
 ·have f:¬now<=b:=by simpa using c
  rw[BQ,if_neg f] at d
  rw[bA (x:=now-b) (by omega) (by omega)]
  have e:(if 2147483647<now-b then 2147483647 else now-b)=min (now-b) 2147483647:=by split<;>omega
  rw[e];exact d
end
def CV (c:bC) (l:List cz) (v:List Int) (now:Int) (k:Nat):Option X3:=
 if((l.getD k (0,0)).1==2)&&(decide (1<=v.getD k 0)&&decide (v.getD k 0<=half c)) then some (wU (v.getD k 0) (BQ now (l.getD k (0,0)).2) (c.2.2- 2),v.getD k 0,(k:Int)) else none
def gH (c:bC) (l:List cz) (v:List Int) (now:Int):Nat->Option X3
 | 0=>none
 |k+1=>match CV c l v now k with
  |none=>gH c l v now k
  |some x=>match gH c l v now k with
   |none=>some x
   |some b=>if BP x b then some x else some b
section
variable {H:PH} {a:Addr} {g:Addr} {s t:Sl} {l:List cz} {v:List Int} {c:bC}
theorem JH {L:List Ob} {b:Addr} {cs vs:List Value} {K:PH->Prop} (h:aA H L) (i:Nat) (hi:L[i]?=some (aG b cs)) (f:vs.length=cs.length) (m:vs.all cI=true) (e:∀H',aA H' (L.set i (aG b vs))->K H'):aX H b vs K:=
 sO (h.get i hi) f m λH' r k=>e H' (h.dX (O':=aG b vs) i hi r (λc d=>.inl d) λc o d j=>k c o d j)
theorem EI {L:List Ob} {b:Addr} {x:X3} {K:X3->Prop} (h:aA H L) (i:Nat) (hi:L[i]?=some (aG b (vg x))) (d:K x):aU (λ(x:(Int×Int×Int))=>[.int .i64 x.1,.int .i64 x.2.1,.int .i64 x.2.2]) H b 3 K:=
 fF (x:=x) (h.get i hi:aZ H b (vg x)) rfl d
theorem Mz {now:Int} {Q:Int->Bool->PH->Prop} (r:aZ H a (gV (some g) s t)) (X:Gm H (some g) c) (J:bg c) (N:dT bQ 2 H s l) (ht:fv H t v) (hv:v.length=l.length) (hn:l.length< 2 ^ 30) (Y:∀u:cz,u∈l->0<=u.2) (M:now<=9223372036854775807)
 (hQ:∀H',Ext H H'->Q (((gH c l v now l.length).getD (0,0,0)).2.2) (gH c l v now l.length).isSome H'):uk (some g) (some a) now H Q:=by
 refine kV (aA.start H) λa1 H1 h1 _=>kV h1 λG H2 h2 _=>kV h2 λI H3 h3 _=>kV h3 λn H4 h4 _=>kV h4 λo H5 U _=>hC U 5 rfl rfl λH6 y=>?_
 refine dO (enc:=Value.pointer) (x:=some g) y 1 rfl (aF (aE rfl (dO (enc:=Value.pointer) (x:=some a) y 2 rfl (aE rfl (dO (enc:=Value.pointer) (x:=some a) y 2 rfl ?_)))))
 refine kV y λc0 H7 h7 _=>?_
 refine xL _ _ _ _ _ (D7 (a:=a) (p:=some g) (s:=s) (t:=t) (l:=l)
  (λk _ m=>aA m [aC H,aG a1 [.pointer (some g)],aG G [.pointer (some a)],aG I [.int .i64 now],aG n (vg ((gH c l v now k).getD (0,0,0))),aG o [.bool (gH c l v now k).isSome],aG c0 [.pointer (some a)]]) (by omega)
  ?_ h7 ?_ ?_ ?_)
 ·intro k _ m hk
  exact⟨hk.zE 6 rfl,r.ext hk.base,N.ext hk.base⟩
 ·intro k _ m z hk hf
  have:CV c l v now k=none:=by rw[CV,hf];rfl
  have e:gH c l v now (k+1)=gH c l v now k:=by simp only[gH,this]
  rw[e];exact hk
 ·intro k _ m K z hk hf j ab
  have gv:dU 0 v (k:Int)=v.getD k 0:=by rw[dU,if_pos (by omega),Int.toNat_natCast]
  have gl:dU (0,0) l (k:Int)=l.getD k (0,0):=by rw[dU,if_pos (by omega),Int.toNat_natCast]
  refine⟨_,rfl,dO (enc:=Value.pointer) (x:=some a) hk 2 rfl (vQ (r.ext hk.base) N.bF (ht.ext hk.base) hv (dO (enc:=Value.pointer) (x:=some g) hk 1 rfl (MK (X.ext hk.base) J (uZ ?_))))⟩
  rw[gv]
  refine aL (λc1=>j () m ?_) (λc1=>?_)
  ·have w:(decide (1<=v.getD k 0)&&decide (v.getD k 0<=half c))=false:=by
    cases hb:(decide (1<=v.getD k 0)&&decide (v.getD k 0<=half c)) with
    |false=>rfl
    |true=>rw[hb] at c1;cases c1
   have:CV c l v now k=none:=by rw[CV,w,Bool.and_false];rfl
   have e:gH c l v now (k+1)=gH c l v now k:=by simp only[gH,this]
   rw[e];exact hk
  ·have w:(decide (1<=v.getD k 0)&&decide (v.getD k 0<=half c))=true:=by simpa using c1
   obtain⟨x,E⟩:∃x,x=(wU (v.getD k 0) (BQ now (l.getD k (0,0)).2) (c.2.2- 2),v.getD k 0,(k:Int)):=⟨_,rfl⟩
   have i:CV c l v now k=some x:=by rw[CV,hf,w,E];rfl
   have U:=J.2.2.2.2.1;have y:=J.2.2.2.2.2
   have Z:0<=(l.getD k (0,0)).2:=by
    have hx:l[k]?=some l[k]:=List.getElem?_eq_getElem z
    have:l.getD k (0,0)=l[k]:=by simp[List.getD,hx]
    rw[this];exact Y _ (List.getElem_mem z)
   refine aF (dO (enc:=Value.int .i64) (x:=now) hk 3 rfl (dO (enc:=Value.pointer) (x:=some a) hk 2 rfl (dO (enc:=Value.pointer) (x:=some g) hk 1 rfl (KL (r.ext hk.base) (N.ext hk.base) ⟨hk.zE 1 rfl,hk.zE 3 rfl,?_⟩))))
   rw[gl]
   refine Ot Z M ⟨hk.zE 1 rfl,lH (X.ext hk.base) λH8 x8=>?_⟩
   rw[bA (x:=c.2.2- 2) (by omega) (by omega)]
   have V:=hk.ext x8
   refine Kf (kV V λq H9 W _=>?_)
   rw[show[Value.int .i64 (wU (v.getD k 0) (BQ now (l.getD k (0,0)).2) (c.2.2- 2)),.int .i64 (v.getD k 0),.int .i64 (k:Int)]=vg x by rw[E];rfl]
   refine JH W 7 rfl rfl rfl λC D=>?_
   have h:aA C [aC H,aG a1 [.pointer (some g)],aG G [.pointer (some a)],aG I [.int .i64 now],aG n (vg ((gH c l v now k).getD (0,0,0))),aG o [.bool (gH c l v now k).isSome],aG c0 [.pointer (some a)],aG q (vg x)]:=D
   clear D W V
   have put:∀d,(gH c l v now (k+1)=some x)->aA d [aC H,aG a1 [.pointer (some g)],aG G [.pointer (some a)],aG I [.int .i64 now],aG n (vg ((gH c l v now k).getD (0,0,0))),aG o [.bool (gH c l v now k).isSome],aG c0 [.pointer (some a)],aG q (vg x)]->
    aU (λ(x:(Int×Int×Int))=>[.int .i64 x.1,.int .i64 x.2.1,.int .i64 x.2.2]) d q 3 λA=>aX d n ([.int .i64 A.1,.int .i64 A.2.1,.int .i64 A.2.2]) λP=>aX P o ([.bool true]) λR=>K 0 () R:=by
    intro d he f
    refine EI f 7 rfl (JH (vs:=vg x) f 4 rfl rfl rfl λac S=>hC S 5 rfl rfl λO T=>j () O ?_)
    rw[he]
    exact T.pick [0,1,2,3,4,5,6] (by decide) rfl (by simp)
   refine dO (enc:=Value.bool) h 5 rfl (aF ?_)
   cases B:gH c l v now k with
   |none=>
    have e:gH c l v now (k+1)=some x:=by simp only[gH,i,B]
    exact ae rfl (ae rfl (put C e h))
   |some b=>
    have f:=h
    rw[B] at f
    refine aE rfl (EI f 7 rfl (EI (x:=b) f 4 rfl (Hv λd F=>?_)))
    refine aL (λcb=>put d ?_ (h.ext F)) (λcb=>j () d ?_)
    ·simp only[gH,i,B]
     rw[if_pos cb]
    ·have e:gH c l v now (k+1)=some b:=by
      simp only[gH,i,B]
      rw[if_neg (by rw[cb];decide)]
     rw[e]
     exact(f.ext F).pick [0,1,2,3,4,5,6] (by decide) rfl (by simp)
 ·intro _ m hk
  have ra:aZ m n (vg ((gH c l v now l.length).getD (0,0,0))):=hk.get 4 rfl
  exact ic (by decide) (by decide) (aa (x:=((gH c l v now l.length).getD (0,0,0)).2.2) ra rfl (dO (enc:=Value.bool) hk 5 rfl (hQ m hk.base)))
end
end Vi
end
section
namespace Re
open Go Go.Kx KM Rw Ge Sc Rg Mo Ds Rc So Wi Fm
section
variable {H B:PH} {L R:List Ob} {k n:Nat} {A:Ds.DA} {D:Dk} {F:Fr} {W:Wt} {S:KM.St} {V:WM} {f:pG}
theorem zo {size:Nat} {Q:Option Addr->Int->PH->Prop} (h:aA H (aC B::av A D::L)) (ok:cM k D) (hk:k+3< 2 ^ 28) (y:kz D=some S) (s:sE D=true) (h1:1<=size) (h2:size<=16) (ac:0<=S.n.seq/\S.n.seq< 2 ^ 30) (aa:1<=S.w.p.2.2.1/\S.w.p.2.2.1<=k+3) (J:iT S.c S.w.p=true)
 (hQ:∀q F W j H',q.a=A.a->q.a=F.X.da->Ext B j->rP j F S.c->iJ j W S->bJ (k+3) S->S.d.now.length=D.now.length->aA H' (aC j::uH q F W S ⟨size,S.n.seq+1,λ_=>none⟩ L)->Q (some F.fa) 0 H'):rj (some A.a) size H Q:=by
 refine aF (aE (decide_eq_false (by omega)) (aE (decide_eq_false (by omega)) ?_))
 refine Mq h ok (by omega) y s λT X Z B1 H1 t u M z hW ab hc hd G hn E K v=>aE rfl ?_
 have hw:S.w.items=[]/\S.w.blocks=[]:=by
  obtain⟨c,id,aO,sl,rg,slot,m0,m1,l,en,f,P⟩:=zj y
  rw[P.S_];exact⟨rfl,rfl⟩
 have m:bJ (k+3) S:=by
  simp only[iT,Bool.and_eq_true,KM.bY] at J
  refine⟨⟨hc,hd,by rw[G];exact hn,E,K,by omega,by omega,by omega,by omega,by omega⟩,by omega,λi hi=>?_,?_,λb C=>?_,λI=>absurd hw.1 I⟩
  ·rw[hw.1] at hi;cases hi
  ·rw[hw.1,hw.2];rfl
  ·rw[hw.2] at C;cases C
 refine qR v z m.tolq λB2 H2 N x=>?_
 have e:IntKind.wrap .i64 (S.status.2.2.2.1+1)=S.n.seq+1:=bo (by show -9223372036854775808<=S.n.seq+1;omega) (by show S.n.seq+1<_;omega)
 rw[e]
 refine Wi.eI x h1 h2 (by omega) (by omega) λva vs H3 r=>aF (aE rfl (aE rfl ?_))
 have r:=r.uM
 refine fM r λra B4 H4 O rr h4=>fM h4 λfa U Y o rf h5=>?_
 have g:=N.trans (O.trans o)
 exact hQ T ⟨X,fa,ra,va,vs⟩ Z U Y t u (M.trans g) ⟨z.ext g,rf,rr.ext o⟩ (hW.ext g) m G h5
theorem px {Q:Int->Int->PH->Prop} (h:aA H (aC B::bx A F.X W S R)) (Y:A.a=F.X.da) (I:rP B F S.c) (hW:iJ B W S) (ok:bJ k S) (hk:k+60< 2 ^ 28) (P:Ap S) (aa:2<dZ S.check.1.t.l) (hlen:S.check.2.length< 2 ^ 30)
 (r:∀J N E H',J.a=F.X.da->Ext B E->iJ E N S.check.1->bJ (k+40) S.check.1->S.check.1.d.now.length=S.d.now.length->aA H' (aC E::bx J F.X N S.check.1 R)->Q S.check.2.length 0 H'):lL (some F.fa) H Q:=by
 refine qS I h.base (aF (aE rfl (yA h ?_)))
 rw[←Y]
 refine BL (i:=4) h rfl ?_
 rw[ok.dk.off]
 refine aE rfl (DT h Y I.X hW ok hk P λK O q G H1 U C y hq b l1 w=>?_)
 have Z:S.check.1.c=S.c:=(ok.emit (by omega)).2.2.2.1
 have e:mq G F.X S.check.1.c:=by rw[Z];exact I.X.ext C
 have r:=r K O
 have tN:=b.tb.l
 have tV:=b.tb.v
 generalize S.check.1=T at w y b l1 aa r e tN tV
 generalize S.check.2=out at hq hlen r
 refine yy (λm st Hk=>m=0/\st=(0,0,q,0)/\Hk=H1) 0 ⟨rfl,rfl,rfl⟩ ?_
 rintro m st H2 again ⟨rfl,rfl,rfl⟩ _
 refine ae rfl (aF (aF (aE rfl ?_)))
 obtain⟨ga,eg,ab⟩:=id e.g
 refine En w (fY w (Mt w λH3 o=>?_))
 have z:=e.ta
 have ad:=b.c.2.2.2.1
 rw[eg] at z ⊢
 have ac:=b.dQ
 refine Vi.Mz (z.ext o.base) (⟨ga,rfl,ab.ext o.base⟩) b.c ((o.get 6 rfl:bT Us.bQ 2 H3 F.X.s T.t.l).jv Us.lh) (o.list (enc:=i64) 7 rfl) (by rw[tN,tV]) (by omega) (λu hu=>(b.tb.us u hu).2.1) (by omega) λM x4=>?_
 have p:=o.ext x4
 have fin:∀j,aA j (aC G::bx K F.X O T R)->Q (IntKind.wrap .i64 (0+(q.len:Int))) 0 j:=λj h5=>by
  rw[hq.bF,bo (x:=0+(out.length:Int)) (by omega) (by omega),Int.zero_add]
  exact r G j U C y b l1 h5
 refine aF (aL (λcc=>?_) (λcc=>ae rfl (fin M p)))
 refine fY p ?_
 refine Us.free_spec ((e.ta).ext p.base) ((p.get 6 rfl:bT Us.bQ 2 M F.X.s T.t.l).jv Us.lh) (by omega) λj x5=>?_
 rw[decide_eq_false (show¬((dZ T.t.l:Int)<=2) by omega)]
 exact ae rfl (fin j (p.ext x5))
theorem G7 {view:Int} {Q:Int->PH->Prop} (h:aA H (aC B::bx A F.X W S R)) (j:A.a=F.X.da) (i:rP B F S.c) (m:iJ B W S) (ok:bJ k S) (hk:k+60< 2 ^ 28)
 (hm:S.n.mode=1) (p:1<=view/\view<=2147483647) (o:S.n.view<view) (P:Ap (S.raised view 2))
 (l:∀e g b H',e.a=F.X.da->Ext B b->iJ b g (S.raise view 2).1->bJ (k+40) (S.raise view 2).1->(S.raise view 2).1.d.now.length=S.d.now.length->aA H' (aC b::bx e F.X g (S.raise view 2).1 R)->Q 0 H'):kB (some F.fa) view H Q:=
 qS i h.base (Kc h j i.X m ok hk hm p (.inr rfl) o P l)
end
end Re
end
end Go.Proofs.YtbijlklgbfminaaGreat
