import Derived.Test.YtbijlklgbfminaaGreatA27
set_option linter.unusedVariables false
set_option linter.unusedSimpArgs false
section
namespace Go.Kx
section
variable {H H' B:PH} {L L':List Ob} {O O':Ob}
theorem aZ.part {a:Addr} {cs vs:List Value} {off n:Nat} (h:aZ H a cs) (c:off+n<=cs.length) (b:(cs.drop off).take n=vs):bw H (a.add off) n=some vs:=by
 obtain⟨e,he⟩:=h.2.2
 rw[h.addr,eW,oZ he (by omega),Nat.zero_add,b]
theorem Of {β:Type} {en:β->List Value} {a:Addr} {cs:List Value} {off n:Nat} {x:β} {K:β->Prop} (h:aZ H a cs) (c:off+n<=cs.length) (d:(cs.drop off).take n=en x) (b:K x):aU en H (a.add off) n K:=⟨x,h.part c d,b⟩
theorem nX {β:Type} {en:β->List Value} {a:Addr} {cs:List Value} {off n:Nat} {x:β} {K:β->Prop} (h:aA H L) (i:Nat) (hi:L[i]?=some (aG a cs)) (c:off+n<=cs.length) (d:(cs.drop off).take n=en x) (b:K x):aU en H (a.add off) n K:=Of (h.get i hi) c d b
theorem Q5 {a:Addr} {cs vs ws:List Value} {off:Nat} {K:PH->Prop} (h:aZ H a cs) (b:off+vs.length<=cs.length) (g:vs.all cI=true) (hw:cs.take off++vs++cs.drop (off+vs.length)=ws) (d:∀H',aZ H' a ws->rZ a.block H H'->K H'):aX H (a.add off) vs K:=by
 obtain⟨e,he⟩:=h.2.2
 refine⟨a.block,off,cs,e,by rw[h.addr,eW];simp,he,b,g,d _ ⟨h.1,h.2.1,e,?_⟩ λc o f b=>?_⟩
 ·rw[PH.dW,kF _ _ _ b,hw]
 ·rw[PH.al _ _ b];exact f
theorem uq {a:Addr} {cs vs:List Value} (ws:List Value) {off:Nat} {K:PH->Prop} (h:aA H L) (i:Nat) (hi:L[i]?=some (aG a cs)) (d:off+vs.length<=cs.length) (f:vs.all cI=true) (hw:cs.take off++vs++cs.drop (off+vs.length)=ws) (e:∀H',aA H' (L.set i (aG a ws))->K H'):aX H (a.add off) vs K:=
 Q5 (h.get i hi) d f hw λH' r k=>e H' (h.dX (O':=aG a ws) i hi r (λc b=>.inl b) λc o b d=>k c o b d)
theorem cw {a:Addr} {cs:List Value} {j:Nat} {v:Value} {K:Prop} (h:aA H L) (i:Nat) (hi:L[i]?=some (aG a cs)) (c:cs[j]?=some v) (b:K):ar H (a.add j) v K:=cx (h.get i hi) c b
theorem tY {a:Addr} {cs vs:List Value} {n:Nat} {K:Prop} (h:aA H L) (i:Nat) (hi:L[i]?=some (aG a cs)) (c:n=cs.length) (d:cs=vs) (b:K):fU H a n vs K:=⟨by subst d;exact(h.get i hi:aZ H a cs).all c,b⟩
theorem gd {a:Addr} {v:Value} {K:Prop} (h:aZ H a [v]) (b:K):ar H a v K:=⟨by have:=h.cell (i:=0) rfl;rwa[add_zero'] at this,b⟩
theorem au {β:Type} {en:β->Value} {a:Addr} {x:β} {K:β->Prop} (h:aZ H a [en x]) (b:K x):aH en H a K:=⟨x,by have:=h.cell (i:=0) rfl;rwa[add_zero'] at this,b⟩
theorem I7 {α:Type}:∀l:List α,(List.range l.length).filterMap (λi=>l[i]?)=l
 |[]=>rfl
 |x::l=>by
  rw[List.length_cons,List.range_succ_eq_map,List.filterMap_cons,List.filterMap_map]
  exact congrArg (x::·) (I7 l)
theorem aA.GV {X Y:List Ob} (h:aA H (aC B::(X++L))) (n:Nat) (is:List Nat) (a:X.length=n) (b:is.Perm (List.range n)) (e:Y=is.filterMap λi=>X[i]?):aA H (aC B::(Y++L)):=by
 subst e;subst a
 refine h.perm (.cons _ (.append_right L ?_))
 have:=b.filterMap (λi=>X[i]?)
 rw[I7] at this
 exact this.symm
theorem aA.Bk {X:List Ob} (h:aA H (aC B::(X++O::L))):aA H (aC B::O::(X++L)):=h.perm (.cons _ List.perm_middle)
theorem aA.uM {X:List Ob} (h:aA H (aC B::O::(X++L))):aA H (aC B::(X++O::L)):=h.perm (.cons _ List.perm_middle.symm)
theorem aA.jx {X:List Ob} (h:aA H (aC B::(X++O::L))):aA H (aC B::(X++L)):=h.Bk.ak
end
theorem aA.Sx {H B:PH} {X L:List Ob} {O P:Ob} (h:aA H (aC B::O::P::(X++L))):aA H (aC B::(X++O::P::L)):=h.perm (.cons _ (show(O::P::(X++L)).Perm (X++O::P::L) from List.perm_append_comm_assoc [O,P] X L))
theorem aA.pull {H B:PH} {X Y L:List Ob} (h:aA H (aC B::(X++(Y++L)))):aA H (aC B::(Y++(X++L))):=h.perm (.cons _ (List.perm_append_comm_assoc X Y L))
theorem aA.sub {H:PH} {L L':List Ob} (h:aA H L) (s:List.Sublist L' L):aA H L':=by
 rw[aA.iff] at h ⊢
 exact⟨λO a=>h.1 O (s.subset a),h.2.sublist s⟩
end Go.Kx
end
namespace Go.Proofs.YtbijlklgbfminaaGreat
section
namespace Sc
open Go Go.Kx KM Rw Cr Ds Ge Rc
abbrev s5 (x:Pos):List Value:=[i64 x.1,i64 x.2.1,i64 x.2.2.1,i64 x.2.2.2.1,i64 x.2.2.2.2]
abbrev g7 (d g:Option Addr) (p e:Pos) (err:Int):List Value:=[.pointer d,.pointer g,i64 p.1,i64 p.2.1,i64 p.2.2.1,i64 p.2.2.2.1,i64 p.2.2.2.2,.bool false,i64 e.1,i64 e.2.1,i64 e.2.2.1,i64 e.2.2.2.1,i64 e.2.2.2.2,i64 err]
abbrev z0:R5:=(0,0,0,Sl.nil,Sl.nil)
section
variable {H B:PH} {L:List Ob} {k:Nat} {A:DA} {D:Dk} {c:bC} {g:Option Addr} {sa:Addr} {p p' e:Pos} {err:Int}
theorem eI {d:Addr} {Q:Option Addr->PH->Prop} (h:aA H (aC B::L)) (l:Gm B g c) (j:∀sa H',aA H' (aC B::aG sa (g7 (some d) g p p 0)::L)->Q (some sa) H'):zI (some d) g p H Q:=by
 obtain⟨m,rfl,n⟩:=l
 refine az h λa1 H1 a=>aF (aE rfl (aE rfl ?_))
 refine bk (x:=p) a rfl rfl (bk (x:=p) a rfl rfl (az a.ak λb f i=>j b f i))
theorem GW {i j:Nat} {at':Int} {Q:Sl->Bool->PH->Prop} (h:aA H (aC B::L)) (hi:L[i]?=some (aG sa (g7 (some A.a) g p e err))) (o:L[j]?=some (av A D)) (ok:cM k D) (hk:k< 2 ^ 29) (f:0<=at'/\at'<D.now.length)
 (n:∀r H',aA H' (aC B::aW u8 r (D.sec at')::L.set i (aG sa (g7 (some A.a) g p e 0)))->Q r true H'):kK (some sa) at' H Q:=by
 refine aD (aY (x:=some A.a) h (i+1) hi rfl (w9 (i:=j) h o ok hk f λr H1 m=>aD (cB (j:=13) m (i+2) hi (by simp) rfl λd b=>aD ?_)))
 have b:aA d (aC B::aW u8 r (D.sec at')::L.set i (aG sa (g7 (some A.a) g p e 0))):=b
 have l:=(List.getElem?_eq_some_iff.1 hi).1
 refine aY (x:=(0:Int)) b (i+2) (by simp[l];rfl) rfl ?_
 exact n r d b
theorem tR {i j:Nat} {at':Int} {Q:Sl->Bool->PH->Prop} (h:aA H (aC B::L)) (hi:L[i]?=some (aG sa (g7 (some A.a) g p e err))) (o:L[j]?=some (av A D)) (ok:cM k D) (hk:k< 2 ^ 29) (d:0<=at'/\at'<D.now.length)
 (n:∀r b H',Ext B b->Bytes b r (D.sec at')->aA H' (aC b::L.set i (aG sa (g7 (some A.a) g p e 0)))->Q r true H'):kK (some sa) at' H Q:=
 GW h hi o ok hk d λr f l=>gX l λb x v m=>n r b f x v m
theorem mY {c:bC} (a:bg c) {s:Int} (h:0<=s/\s<c.2.1):0<=bW c s/\bW c s+c.2.2<=all c:=by
 have i:=m8 a
 have f:=a.2.2.2.2
 have d:0<=s*c.2.2:=Int.mul_nonneg h.1 (by omega)
 have b:(s+1)*c.2.2<=c.2.1*c.2.2:=Int.mul_le_mul_of_nonneg_right (by omega) (by omega)
 rw[Int.add_mul] at b
 simp only[bW,all];omega
theorem sZ {c:bC} (a:bg c):all c<=2078:=by
 have b:=m8 a
 have:=BJ a
 simp only[all];omega
theorem xF {s:Int} {Q:Int->PH->Prop} (d:Gm H g c) (b:bg c) (h:0<=s/\s<c.2.1) (a:∀H',Ext H H'->Q (bW c s) H'):fb g s H Q:=
 OT d b λH' x=>by rw[if_pos h];exact a H' x
theorem wH {Q:Pos->Bool->PH->Prop} (h:aA H (aC B::aG sa (g7 (some A.a) g p e err)::av A D::L)) (ok:cM k D) (hk:k< 2 ^ 29) (R:Gm B g c) (G:bg c) (hn:all c<=D.now.length)
 (hQ:∀m H',Ext B m->aA H' (aC m::aG sa (g7 (some A.a) g p e 0)::av A D::L)->Q ((gK c D p).getD p) (gK c D p).isSome H'):qb (some sa) H Q:=by
 have ab:=sZ G
 refine az h λa1 H1 X=>aD (nX (en:=s5) (x:=p) X 2 rfl (by simp) rfl (bf (vs:=s5 p) X rfl rfl λH2 h2=>aD (cB (j:=13) h2 2 rfl (by simp) rfl λT n=>aD ?_)))
 have n:aA T (aC B::aG a1 (s5 p)::aG sa (g7 (some A.a) g p e 0)::av A D::L):=n
 refine aY (x:=g) n 2 rfl rfl (ay (x:=p.1) n rfl (ny (R.ext n.base) G ?_))
 refine CD (b:=decide (p.2.1< 0)) (λk=>ay (x:=p.2.1) n rfl (k T (.refl _))) λH4 x4=>?_
 have u:=n.ext x4
 refine CD (b:=decide (c.2.2<=p.2.1)) (λk=>ay (x:=p.2.1) u rfl (aD (aY (x:=g) u 2 rfl rfl (lH (R.ext u.base) λy I=>cw (u.ext I) 1 rfl rfl (k y I))))) λy I=>?_
 have o:=u.ext I
 have fin:∀(v:Pos) (b:Bool) (z:List Value) m H',Ext B m->aA H' (aC m::aG a1 z::aG sa (g7 (some A.a) g p e 0)::av A D::L)->z=s5 v->v=(gK c D p).getD p->b=(gK c D p).isSome->
  aU s5 H' a1 5 λw=>aX H' a1 (s5 w) λJ=>aU s5 J a1 5 λw=>Q w b J:=λv b z m H' xb l ez ev C=>by
  subst ez;subst ev;subst C
  exact bk l rfl rfl (bf l rfl rfl λU E=>bk (x:=(gK c D p).getD p) E rfl rfl (hQ m U xb E.ak))
 refine aL (λc1=>?_) (λc1=>?_)
 ·have en:gK c D p=none:=by
   rw[gK,if_neg]
   simp only[KM.bE,Bool.or_eq_true,Bool.not_eq_true',Bool.and_eq_false_iff,decide_eq_false_iff_not,decide_eq_true_eq] at c1
   simp only[KM.bE,Bool.and_eq_true,decide_eq_true_eq];omega
  exact fin p false _ B y (.refl B) o rfl (by rw[en];rfl) (by rw[en];rfl)
 ·simp only[Bool.or_eq_false_iff,Bool.not_eq_false',Bool.and_eq_true,decide_eq_true_eq,decide_eq_false_iff_not] at c1
  have W:gK c D p=yb c D p:=by
   rw[gK,if_pos]
   simp only[KM.bE,Bool.and_eq_true,decide_eq_true_eq];omega
  refine ay (x:=p.2.1) o rfl (aL (λc2=>?_) (λc2=>?_))
  ·have en:gK c D p=some p:=by rw[W,yb,if_pos (by simpa using c2)]
   exact fin p true _ B y (.refl B) o rfl (by rw[en];rfl) (by rw[en];rfl)
  ·have N:0<=p.1/\p.1<c.2.1:=by omega
   obtain⟨ac,ad⟩:=mY G N
   have eh:yb c D p=match headD (D.sec (bW c p.1)) with
    |none=>none
    |some (sg,aO,dQ,prev)=>if sg=p.1/\dQ=p.2.2.1/\prev=p.2.2.2.1/\p.2.2.2.2<=aO then some (p.1,1,dQ,prev,aO) else none:=by
    rw[yb,if_neg (by simpa using c2)];rfl
   refine aD (aY (x:=g) o 2 rfl rfl (ay (x:=p.1) o rfl (xF (R.ext o.base) G N λU x6=>?_)))
   have E:=o.ext x6
   refine tR (i:=1) (j:=2) E rfl rfl ok hk ⟨by omega,by omega⟩ λr s H7 O V F=>?_
   have F:aA H7 (aC s::aG a1 (s5 p)::aG sa (g7 (some A.a) g p e 0)::av A D::L):=F
   have Z:=o0 ok (at_:=bW c p.1) (by omega)
   have Y:=sB ok (at_:=bW c p.1) (by omega)
   refine Hd.gO (V.ext F.base) Z Y λH8 x8=>?_
   have h8:=F.ext x8
   refine az h8 λK H9 h9=>bf (vs:=Hd.s4 (Hd.of (headD (D.sec (bW c p.1))))) h9 rfl rfl λS f=>?_
   have e1:(gK c D p)=if Hd.fits (D.sec (bW c p.1)) p=true then some (p.1,1,(Hd.of (headD (D.sec (bW c p.1)))).2.2.1,(Hd.of (headD (D.sec (bW c p.1)))).2.2.2,(Hd.of (headD (D.sec (bW c p.1)))).2.1) else none:=by
    rw[W,eh]
    unfold Hd.fits
    cases headD (D.sec (bW c p.1)) with
    |none=>rfl
    |some x=>
     obtain⟨sg,aO,dQ,prev⟩:=x
     simp only[Hd.of,Bool.and_eq_true,beq_iff_eq,decide_eq_true_eq,and_assoc]
   generalize hh:Hd.of (headD (D.sec (bW c p.1)))=d at f e1 ⊢
   refine aF (ae rfl (pF (λb H'=>b=Hd.fits (D.sec (bW c p.1)) p/\aA H' (aC s::aG K (Hd.s4 d)::aG a1 (s5 p)::aG sa (g7 (some A.a) g p e 0)::av A D::L)) (λb H' ⟨C,l⟩=>?_) λk' M=>?_))
   ·refine aF (aL (λcb=>?_) (λcb=>?_))
    ·rw[←C,if_pos cb] at e1
     refine aY (x:=p.1) l 2 rfl rfl (ay (x:=d.2.2.1) l rfl (ay (x:=d.2.2.2) l rfl (ay (x:=d.2.1) l rfl (eU (vs:=s5 (p.1,1,d.2.2.1,d.2.2.2,d.2.1)) l 2 rfl rfl rfl λq t=>?_))))
     have t:aA q (aC s::aG K (Hd.s4 d)::aG a1 (s5 (p.1,1,d.2.2.1,d.2.2.2,d.2.1))::aG sa (g7 (some A.a) g p e 0)::av A D::L):=t
     exact fin _ b _ s q O t.ak rfl (by rw[e1];rfl) (by rw[e1,cb];rfl)
    ·rw[←C,if_neg (by rw[cb];simp)] at e1
     exact fin p b _ s H' O l.ak rfl (by rw[e1];rfl) (by rw[e1,cb];rfl)
   ·refine aL (λP=>?_) (λP=>M false S ⟨?_,f⟩)
    ·refine aD (aY (x:=false) f 3 rfl rfl (aF (aE rfl (bj (x:=p) f 2 rfl rfl rfl ?_))))
     exact Hd.xm (V.ext f.base) Z Y λq aa=>M _ q ⟨rfl,f.ext aa⟩
    ·unfold Hd.fits
     cases h0:headD (D.sec (bW c p.1)) with
     |none=>rfl
     |some x=>rw[h0] at P;cases P
theorem z4 {b:Bs} (a:bU b):0<=ly b/\ly b<=7:=by
 have:=vN a 15 1
 unfold ly
 split<;>omega
theorem Q6 {a b:Bs} {k w:Nat} (h:k+w<=a.length):num (a++b) k w=num a k w:=by
 unfold num
 rw[List.drop_append_of_le_length (by omega),List.take_append_of_le_length (by simp;omega)]
def DI (p:Pos) (n:Int):Option (Rec×Int)->Option (Rec×Pos)
 |none=>none
 |some (r,sum)=>if r.dQ=p.2.2.1/\r.prev=p.2.2.2.1/\p.2.2.2.2<=r.aO then some (r,(p.1,p.2.1+n,r.dQ+1,sum,r.aO)) else none
theorem zf {c:bC} {D:Dk} {p:Pos} (h:¬c.2.2<=p.2.1):jC c D p=if ly (D.sec (bW c p.1+p.2.1))=0∨c.2.2<p.2.1+ly (D.sec (bW c p.1+p.2.1)) then none else DI p (ly (D.sec (bW c p.1+p.2.1))) (AP (D.gw (bW c p.1+p.2.1) (ly (D.sec (bW c p.1+p.2.1))).toNat)):=by
 rw[jC,if_neg h];rfl
theorem DJ {p:Pos} {n:Int} {o:Option (Rec×Int)} {r:Rec} {q:Pos} (h:DI p n o=some (r,q)):∃s,o=some (r,s)/\q=(p.1,p.2.1+n,r.dQ+1,s,r.aO):=by
 unfold DI at h
 split at h
 ·cases h
 ·split at h
  ·cases h;exact⟨_,rfl,rfl⟩
  ·cases h
theorem GX {c:bC} {D:Dk} {p:Pos} {r:Rec} {q:Pos} (b:0<=ly (D.sec (bW c p.1+p.2.1))) (h:jC c D p=some (r,q)):p.2.1<c.2.2/\q.1=p.1/\p.2.1<q.2.1/\q.2.1<=c.2.2:=by
 by_cases a:c.2.2<=p.2.1
 ·rw[jC,if_pos a] at h;cases h
 ·rw[zf a] at h
  split at h
  ·cases h
  ·obtain⟨s,_,rfl⟩:=DJ h
   exact⟨by omega,rfl,by show p.2.1<p.2.1+_;omega,by show p.2.1+_<=_;omega⟩
theorem fx {Q:R5->Pos->Bool->PH->Prop} (h:aA H (aC B::aG sa (g7 (some A.a) g p' e 0)::av A D::L)) (ok:cM k D) (hk:k< 2 ^ 29) (hg:Gm B g c) (hc:bg c) (hn:all c<=D.now.length)
 (ag:0<=p.1/\p.1<c.2.1) (aZ:1<=p.2.1/\p.2.1<=64)
 (hy:∀r q,jC c D p=some (r,q)->∀x f H',Ext B f->oQ f x r->aA H' (aC f::aG sa (g7 (some A.a) g p' e 0)::av A D::L)->Q x q true H')
 (ad:jC c D p=none->∀x q f H',Ext B f->aA H' (aC f::aG sa (g7 (some A.a) g p' e 0)::av A D::L)->Q x q false H'):su (some sa) p H Q:=by
 have aV:=sZ hc
 obtain⟨a2,a3⟩:=mY hc ag
 refine az h λa1 H1 h1=>az h1 λn H2 h2=>az h2 λl H3 Y=>?_
 have no:jC c D p=none->∀(x:R5) (q:Pos) (z y:List Value) f H',Ext B f->aA H' (aC f::aG l z::aG n y::aG a1 (s5 p)::aG sa (g7 (some A.a) g p' e 0)::av A D::L)->z=s5 q->y=r5 x->
  aU r5 H' n 5 λaM=>aU s5 H' l 5 λam=>aX H' n (r5 aM) λac=>fU ac l 5 (s5 am)<|aX ac l (s5 am) λP=>aU r5 P n 5 λaN=>aU s5 P l 5 λaP=>Q aN aP false P:=λhs x q z y f H' xb N ez M=>by
  subst ez;subst M
  refine bj (x:=x) N 2 rfl rfl rfl (bk (x:=q) N rfl rfl (eU (vs:=r5 x) N 2 rfl rfl rfl λH4 o=>tY o 1 rfl rfl rfl (eU (vs:=s5 q) o 1 rfl rfl rfl λK u=>bj (x:=x) u 2 rfl rfl rfl (bj (x:=q) u 1 rfl rfl rfl ?_))))
  exact ad hs x q f K xb (show aA K (aC f::aG l (s5 q)::aG n (r5 x)::aG a1 (s5 p)::aG sa (g7 (some A.a) g p' e 0)::av A D::L) from u).ak.ak.ak
 refine aY (x:=p.2.1) Y 3 rfl rfl (aD (aY (x:=g) Y 4 rfl rfl (lH (hg.ext Y.base) λH4 x4=>?_)))
 have o:=Y.ext x4
 refine cw o 3 rfl rfl (aL (λc1=>?_) (λc1=>?_))
 ·exact no (by rw[jC,if_pos (by simpa using c1)]) z0 (0,0,0,0,0) _ _ B H4 (.refl B) o rfl rfl
 have au:¬c.2.2<=p.2.1:=by simpa using c1
 refine aD (aY (x:=g) o 4 rfl rfl (aY (x:=p.1) o 3 rfl rfl (aY (x:=p.2.1) o 3 rfl rfl (xF (hg.ext o.base) hc ag λK x5=>cw (o.ext x5) 3 rfl rfl ?_))))
 have u:=o.ext x5
 rw[bo (x:=bW c p.1+p.2.1) (by omega) (by omega)]
 refine GW (i:=3) (j:=4) u rfl rfl ok hk ⟨by omega,by omega⟩ λr H6 Z=>?_
 have Z:aA H6 (aC B::aW u8 r (D.sec (bW c p.1+p.2.1))::aG l (s5 (0,0,0,0,0))::aG n (r5 z0)::aG a1 (s5 p)::aG sa (g7 (some A.a) g p' e 0)::av A D::L):=Z
 have hl:=o0 ok (at_:=bW c p.1+p.2.1) (by omega)
 have hb:=sB ok (at_:=bW c p.1+p.2.1) (by omega)
 refine MS (Z.list 1 rfl) hl hb λH7 x7=>?_
 have V:=Z.ext x7
 have aK:=z4 hb
 have es:=zf (D:=D) au
 generalize aj:ly (D.sec (bW c p.1+p.2.1))=sz at aK es ⊢
 refine vk (b:=sz==0) (λk=>k) ?_
 refine CD (b:=decide (c.2.2<p.2.1+sz)) (λk=>aY (x:=p.2.1) V 4 rfl rfl (aD (aY (x:=g) V 5 rfl rfl (lH (hg.ext V.base) λH8 x8=>cw (V.ext x8) 4 rfl rfl ?_)))) λH8 x8=>?_
 ·rw[bo (x:=p.2.1+sz) (by omega) (by omega)];exact k H8 x8
 have h8:=V.ext x8
 refine aL (λc2=>?_) (λc2=>?_)
 ·refine no ?_ z0 (0,0,0,0,0) _ _ B H8 (.refl B) h8.ak rfl rfl
  rw[es,if_pos (by simpa using c2)]
 have aw:¬(sz=0∨c.2.2<p.2.1+sz):=by simpa using c2
 rw[if_neg aw] at es
 obtain⟨m,em⟩:∃m:Nat,sz=(m:Int)+1:=⟨(sz- 1).toNat,by omega⟩
 subst em
 have aS:bW c p.1+p.2.1+((m+1:Nat):Int)<=D.now.length:=by omega
 refine ax m (λi st Hk=>st.2=((i+1:Nat):Int)/\∃f,Ext B f/\aA Hk (aC f::aW u8 st.1 (D.gw (bW c p.1+p.2.1) (i+1))::aG l (s5 (0,0,0,0,0))::aG n (r5 z0)::aG a1 (s5 p)::aG sa (g7 (some A.a) g p' e 0)::av A D::L)) ⟨rfl,B,.refl B,by simpa[Dk.gw] using h8⟩ ?_
 rintro i ⟨st,_⟩ H9 again hi ⟨ei,B9,an,h9⟩ aB
 simp only at ei h9;subst ei
 have W:=w6 ok (i+1) (bW c p.1+p.2.1) (by omega) (by omega)
 refine aL (λc3=>?_) (λc3=>?_)
 ·have aJ:i<m:=by simp at c3;omega
  rw[bo (x:=bW c p.1+p.2.1+((i+1:Nat):Int)) (by omega) (by omega)]
  refine tR (i:=4) (j:=5) h9 rfl rfl ok hk ⟨by omega,by omega⟩ λa5 C aq I ar t=>aE rfl ?_
  have t:aA aq (aC C::aW u8 st (D.gw (bW c p.1+p.2.1) (i+1))::aG l (s5 (0,0,0,0,0))::aG n (r5 z0)::aG a1 (s5 p)::aG sa (g7 (some A.a) g p' e 0)::av A D::L):=t
  have aI:=o0 ok (at_:=bW c p.1+p.2.1+((i+1:Nat):Int)) (by omega)
  refine qY t 1 rfl (ar.ext t.base) MI rfl (by rw[W,aI];omega) λa0 aa F=>?_
  rw[bH (by omega)]
  refine aB aJ _ _ ⟨rfl,C,an.trans I,?_⟩
  rw[AX]
  exact F
 ·have:i=m:=by simp at c3;omega
  subst this
  have ai:=zQ ok (i+1) (bW c p.1+p.2.1) (by omega) (by omega)
  have en:((i:Int)+1).toNat=i+1:=by omega
  rw[en] at es
  have S:num (D.gw (bW c p.1+p.2.1) (i+1)) 15 1=(i:Int)/\rM (D.gw (bW c p.1+p.2.1) (i+1))=true:=by
   have R:∀k w,k+w<=64->num (D.gw (bW c p.1+p.2.1) (i+1)) k w=num (D.sec (bW c p.1+p.2.1)) k w:=λk w aH=>by
    rw[Dk.gw];exact Q6 (by rw[hl];exact aH)
   rw[C8] at aj
   split at aj
   ·next af=>
    refine⟨by rw[R 15 1 (by omega)];omega,?_⟩
    simp only[rM,R 0 1 (by omega),R 1 1 (by omega),R 14 1 (by omega),R 15 1 (by omega)] at af ⊢
    exact af
   ·omega
  refine gX h9 λC I bb t=>?_
  generalize D.gw (bW c p.1+p.2.1) (i+1)=bs at W ai es S bb
  have xb:Ext B C:=an.trans I
  have al:∀(x:R5) f H',Ext C f->jC c D p=none->aA H' (aC f::aG l (s5 (0,0,0,0,0))::aG n (r5 x)::aG a1 (s5 p)::aG sa (g7 (some A.a) g p' e 0)::av A D::L)->
   aU s5 H' l 5 λX=>aX H' n (r5 z0) λO=>fU O l 5 (s5 X)<|aX O l (s5 X) λG=>aU r5 G n 5 λao=>aU s5 G l 5 λap=>Q ao ap false G:=λx f H' aQ hs N=>by
   refine bk (x:=(0,0,0,0,0)) N rfl rfl (eU (vs:=r5 z0) N 2 rfl rfl rfl λH4 o=>tY o 1 rfl rfl rfl (eU (vs:=s5 (0,0,0,0,0)) o 1 rfl rfl rfl λK u=>bj (x:=z0) u 2 rfl rfl rfl (bj (x:=(0,0,0,0,0)) u 1 rfl rfl rfl ?_)))
   exact ad hs z0 (0,0,0,0,0) f K (xb.trans aQ) (show aA K (aC f::aG l (s5 (0,0,0,0,0))::aG n (r5 z0)::aG a1 (s5 p)::aG sa (g7 (some A.a) g p' e 0)::av A D::L) from u).ak.ak.ak
  refine Rc.gO t bb S.2 (by rw[W,S.1];omega) ai (λM x s aa v hx F=>?_) (λen s aa v F=>?_)
  ·rw[M] at es
   refine eU (vs:=r5 x) F 2 rfl rfl rfl λE d=>?_
   have d:aA E (aC s::aG l (s5 (0,0,0,0,0))::aG n (r5 x)::aG a1 (s5 p)::aG sa (g7 (some A.a) g p' e 0)::av A D::L):=d
   have ah:dy (fm bs)=true:=by
    rw[ye] at M
    split at M
    ·next J=>simp only[Bool.and_eq_true] at J;exact J.1
    ·cases M
   have aR:1<=(fm bs).dQ/\(fm bs).dQ<=2147483647:=by
    simp only[dy,Bool.and_eq_true] at ah
    exact KM.bY.1 ah.1.1.1.1.1.2
   refine vk (b:=x.2.1 != p.2.2.1) (λk=>aY (x:=x.2.1) d 2 rfl rfl (aY (x:=p.2.2.1) d 3 rfl rfl k)) ?_
   refine vk (b:=x.2.2.1 != p.2.2.2.1) (λk=>aY (x:=x.2.2.1) d 2 rfl rfl (aY (x:=p.2.2.2.1) d 3 rfl rfl k)) ?_
   refine vk (b:=decide (x.1<p.2.2.2.2)) (λk=>aY (x:=x.1) d 2 rfl rfl (aY (x:=p.2.2.2.2) d 3 rfl rfl k)) ?_
   have e1:=hx.e1;have e2:=hx.e2;have e3:=hx.e3
   refine aL (λc4=>al x s E v ?_ d) (λc4=>?_)
   ·rw[es,DI,if_neg]
    rw[←e1,←e2,←e3]
    simp only[bne_self_eq_false,Bool.false_or,Bool.or_eq_true,bne_iff_ne,decide_eq_true_eq] at c4
    omega
   ·have ay:jC c D p=some (fm bs,(p.1,p.2.1+((i:Int)+1),(fm bs).dQ+1,gU (fm bs),(fm bs).aO)):=by
     rw[es,DI,if_pos]
     rw[←e1,←e2,←e3]
     simp only[bne_self_eq_false,Bool.false_or,Bool.or_eq_false_iff,bne_eq_false_iff_eq,decide_eq_false_iff_not] at c4
     omega
    refine bj (x:=x) d 2 rfl rfl rfl (aY (x:=p.1) d 3 rfl rfl (aY (x:=p.2.1) d 3 rfl rfl (aY (x:=x.2.1) d 2 rfl rfl (aY (x:=x.1) d 2 rfl rfl (eU (vs:=r5 x) d 2 rfl rfl rfl λaT T=>cw T 3 rfl rfl (cw T 3 rfl rfl ?_))))))
    rw[bo (x:=p.2.1+((i:Int)+1)) (by omega) (by omega),bo (x:=x.2.1+1) (by omega) (by omega),e1,e2]
    refine eU (vs:=s5 (p.1,p.2.1+((i:Int)+1),(fm bs).dQ+1,gU (fm bs),(fm bs).aO)) T 1 rfl rfl rfl λab U=>bj (x:=x) U 2 rfl rfl rfl (bj (x:=(p.1,p.2.1+((i:Int)+1),(fm bs).dQ+1,gU (fm bs),(fm bs).aO)) U 1 rfl rfl rfl ?_)
    exact hy _ _ ay x s ab (xb.trans v) hx (show aA ab (aC s::aG l (s5 (p.1,p.2.1+((i:Int)+1),(fm bs).dQ+1,gU (fm bs),(fm bs).aO))::aG n (r5 x)::aG a1 (s5 p)::aG sa (g7 (some A.a) g p' e 0)::av A D::L) from U).ak.ak.ak
  ·rw[en] at es
   refine eU (vs:=r5 (0,0,0,Sl.nil,Sl.nil)) F 2 rfl rfl rfl λE d=>?_
   have d:aA E (aC s::aG l (s5 (0,0,0,0,0))::aG n (r5 z0)::aG a1 (s5 p)::aG sa (g7 (some A.a) g p' e 0)::av A D::L):=d
   exact aF (ae rfl (aF (ae rfl (aF (ae rfl (ae rfl (al z0 s E v es d)))))))
end
end Sc
end
section
namespace Sc
open Go Go.Kx KM Rw Cr Ds Ge Rc
def jd (c:bC) (D:Dk) (p:Pos):List (Pos×Rec)×Pos×Option Int:=match gK c D p with
 |none=>([],p,none)
 |some q=>pq c D c.2.2.toNat q
structure D1 (c:bC) (x:Pos×Rec):Prop where
 vh:0<=x.1.1/\x.1.1<c.2.1
 off:1<=x.1.2.1/\x.1.2.1<c.2.2
 may:dy x.2=true
theorem KR {c:bC} {D:Dk} {p:Pos} (h:jC c D p=none):∀n,pq c D n p=([],p,none)
 | 0=>rfl
 |n+1=>by rw[pq,h]
theorem DK {c:bC} {D:Dk} {p q:Pos} {r:Rec} {g:Int} (h:jC c D p=some (r,q)) (a:dJ r.items=some g) (n:Nat):pq c D (n+1) p=([(p,r)],q,some g):=by
 rw[pq,h];simp only[a]
theorem GY {c:bC} {D:Dk} {p q:Pos} {r:Rec} (h:jC c D p=some (r,q)) (a:dJ r.items=none) (n:Nat):pq c D (n+1) p=((p,r)::(pq c D n q).1,(pq c D n q).2):=by
 rw[pq,h];simp only[a]
theorem Og {c:bC} {D:Dk} {p q:Pos} (h:gK c D p=some q):(0<=q.1/\q.1<c.2.1)/\1<=q.2.1/\q.2.1<=max (c.2.2- 1) 1:=by
 unfold gK at h
 split at h
 ·next a=>
  simp only[Bool.and_eq_true,KM.bY] at a
  unfold yb at h
  split at h
  ·cases h;omega
  ·split at h
   ·cases h
   ·split at h
    ·cases h;simp only;omega
    ·cases h
 ·cases h
theorem Hl {c:bC} {D:Dk} {p:Pos} {r:Rec} {q:Pos} (h:jC c D p=some (r,q)):dy r=true:=by
 by_cases d:c.2.2<=p.2.1
 ·rw[jC,if_pos d] at h;cases h
 ·rw[zf d] at h
  split at h
  ·cases h
  ·obtain⟨s,b,_⟩:=DJ h
   rw[ye] at b
   split at b
   ·next a=>
    cases b
    simp only[Bool.and_eq_true] at a
    exact a.1
   ·cases b
section
variable {H B:PH} {L:List Ob} {k:Nat} {A:DA} {D:Dk} {c:bC} {g:Option Addr} {sa c0:Addr} {p p' e:Pos} {err:Int}
theorem Mc {Q:Value->PH->Prop} (h:aA H (aC B::L)) (f:∀c0 b H',Ext B b->aZ b c0 [.pointer (some sa)]->aA H' (aC b::L)->Q (.func (.func 262) #[] #[.pointer (some c0)]) H'):pW (some sa) H Q:=
 fM h λa b H' i r d=>f a b H' i r d
theorem zg {i:Nat} {Q:Pos->PH->Prop} (h:aA H (aC B::L)) (hi:L[i]?=some (aG sa (g7 (some A.a) g p e err))) (j:∀H',aA H' (aC B::L)->Q e H'):qE (some sa) H Q:=
 az h λa1 H1 b=>aE rfl (aD (nX (x:=e) b (i+2) hi (by simp) rfl (bf (vs:=s5 e) b rfl rfl λf d=>bk (x:=e) d rfl rfl (j f d.ak))))
theorem CM {i:Nat} {Q:Int->PH->Prop} (h:aA H (aC B::L)) (hi:L[i]?=some (aG sa (g7 (some A.a) g p e err))) (b:Q err H):sv (some sa) H Q:=
 aE rfl (aD (aY (x:=err) h (i+1) hi rfl b))
theorem Hm {γ:Type} {Y:List Value->γ->PH->(Nat->γ->PH->Prop)->Prop} {g0:γ} {Q:Nat->γ->PH->Prop} (I:List (Pos×Rec)->Pos->Option Int->γ->PH->List Ob->Prop)
 (h:aA H (aC B::aG sa (g7 (some A.a) g p e err)::av A D::L)) (am:aZ B c0 [.pointer (some sa)]) (ok:cM k D) (hk:k< 2 ^ 29) (hg:Gm B g c) (hc:bg c) (hn:all c<=D.now.length)
 (hI:∀l q n j A' P M,Ext A' P->I l q n j A' M->I l q n j P M)
 (h0:I [] ((gK c D p).getD p) none g0 B L)
 (step:∀pre x m V j f M v O K,Ext B f->I pre x.1 none j f M->pre++[x] <+: (jd c D p).1->D1 c x->oQ f m x.2->aA O (aC f::aG v (s5 x.1)::aG sa (g7 (some A.a) g p V 0)::av A D::M)->
  (∀G B3 Z H3,Ext f B3->I (pre++[x]) V (dJ x.2.items) G B3 Z->aA H3 (aC B3::aG v (s5 x.1)::aG sa (g7 (some A.a) g p V 0)::av A D::Z)->K 0 G H3)->
  Y [.agg (s5 x.1).toArray,.agg (r5 m).toArray] j O K)
 (fin:∀j f M O,Ext B f->I (jd c D p).1 (jd c D p).2.1 (jd c D p).2.2 j f M->aA O (aC f::aG sa (g7 (some A.a) g p (jd c D p).2.1 0)::av A D::M)->Q 0 j O):qT c0 Y g0 H Q:=by
 have s:∀{H'},Ext B H'->aZ H' c0 [.pointer (some sa)]:=λx=>am.ext x
 refine au (x:=some sa) (s h.base) (aE rfl (au (x:=some sa) (s h.base) ?_))
 refine wH h ok hk hg hc hn λf H1 W h1=>az h1 λv O h2=>bf (vs:=s5 ((gK c D p).getD p)) h2 rfl rfl λH3 h3=>?_
 refine au (x:=some sa) (s (W.trans h3.base)) (bk (x:=(gK c D p).getD p) h3 rfl rfl (aD (uq (g7 (some A.a) g p ((gK c D p).getD p) 0) h3 2 rfl (by simp) rfl rfl λH4 h4=>?_)))
 have ar:=hc.2.2.2.2
 refine ax c.2.2.toNat (λi st Hk=>∃pre e1 nx j f M,st.2=(0,j)/\Ext B f/\I pre e1 nx j f M/\aA Hk (aC f::aG v (s5 e1)::aG sa (g7 (some A.a) g p e1 0)::av A D::M)/\
  ((st.1=false/\jd c D p=(pre,e1,nx))∨(st.1=true/\nx=none/\(0<=e1.1/\e1.1<c.2.1)/\1+i<=e1.2.1/\e1.2.1<=c.2.2/\jd c D p=(pre++(pq c D (c.2.2.toNat-i) e1).1,(pq c D (c.2.2.toNat-i) e1).2))))
  ⟨[],_,none,g0,f,L,rfl,W,hI _ _ _ _ _ _ _ W h0,h4,?_⟩ ?_
 ·unfold jd
  cases hb:gK c D p with
  |none=>exact .inl ⟨rfl,rfl⟩
  |some q=>
   obtain⟨q1,q2,q3⟩:=Og hb
   exact .inr ⟨rfl,rfl,q1,by simpa using q2,by show q.2.1<=_;omega,rfl⟩
 rintro i ⟨more,st⟩ H5 again hi ⟨pre,e1,nx,j,B5,M,es,t,T,h5,U⟩ al
 simp only at es U;subst es
 refine aL (λz=>?_) (λz=>?_)
 ·rcases U with⟨hf,_⟩|⟨_,rfl,J,ay,aB,b⟩
  ·simp only at z;rw[hf] at z;cases z
  refine au (x:=some sa) (s (t.trans h5.base)) (bk (x:=e1) h5 rfl rfl ?_)
  have aj:=(h5.swap.perm (L':=aC B5::aG sa (g7 (some A.a) g p e1 0)::av A D::aG v (s5 e1)::M) (.cons _ (.cons _ (.swap _ _ _))))
  have back:∀{H' P cs},aA H' (aC P::aG sa cs::av A D::aG v (s5 e1)::M)->aA H' (aC P::aG v (s5 e1)::aG sa cs::av A D::M):=λh=>h.perm (.cons _ ((List.Perm.cons _ (.swap _ _ _)).trans (.swap _ _ _)))
  refine fx (p:=e1) aj ok hk (hg.ext t) hc hn J ⟨by omega,by omega⟩ (λr q d m N H6 u hm h6=>?_) (λd x q N H6 u h6=>?_)
  ·refine az (back h6) λE H7 h7=>az h7 λF H8 h8=>eU (vs:=r5 m) h8 2 rfl rfl rfl λH9 h9=>eU (vs:=s5 q) h9 1 rfl rfl rfl λC o=>aE rfl ?_
   have o:aA C (aC N::aG F (s5 q)::aG E (r5 m)::aG v (s5 e1)::aG sa (g7 (some A.a) g p e1 0)::av A D::M):=o
   refine au (x:=some sa) (s (t.trans (u.trans o.base))) (bk (x:=q) o rfl rfl (aD (uq (g7 (some A.a) g p q 0) o 4 rfl (by simp) rfl rfl λaf w=>?_)))
   have w:aA af (aC N::aG F (s5 q)::aG E (r5 m)::aG v (s5 e1)::aG sa (g7 (some A.a) g p q 0)::av A D::M):=w
   refine bj (x:=m) w 2 rfl rfl rfl (Ae (hm.ext w.base) λag ao=>?_)
   have R:=w.ext ao
   refine bj (x:=e1) R 3 rfl rfl rfl (bj (x:=m) R 2 rfl rfl rfl ⟨rfl,?_⟩)
   have ab:=GX (z4 (sB ok (at_:=bW c e1.1+e1.2.1) ?_)).1 d
   ·obtain⟨o1,o2,o3,o4⟩:=ab
    have an:i<c.2.2.toNat:=by omega
    obtain⟨n,en⟩:∃n,c.2.2.toNat-i=n+1:=⟨c.2.2.toNat-i- 1,by omega⟩
    have ah:c.2.2.toNat-(i+1)=n:=by omega
    have ac:pre++[(e1,r)] <+: (jd c D p).1:=by
     rw[b,en]
     cases y:dJ r.items with
     |none=>rw[GY d y];exact⟨(pq c D n q).1,by simp⟩
     |some gg=>rw[DK d y];exact⟨[],by simp⟩
    refine step pre (e1,r) m q j N M v ag _ (t.trans u) (hI _ _ _ _ _ _ _ u T) ac ⟨J,⟨by show 1<=e1.2.1;omega,o1⟩,Hl d⟩ hm R.ak.ak λG ad Z ap X aa S=>?_
    refine aE rfl (au (x:=some sa) (s ((t.trans (u.trans X)).trans S.base)) (aD (nX (en:=s5) (x:=q) S 2 rfl (by simp) rfl (bf (vs:=s5 q) S rfl rfl λaq ai=>?_))))
    refine al an _ _ ⟨pre++[(e1,r)],q,dJ r.items,G,ad,Z,rfl,t.trans (u.trans X),aa,ai,?_⟩
    rw[ah]
    cases y:dJ r.items with
    |none=>
     rw[en,GY d y] at b
     exact .inr ⟨rfl,rfl,by rw[o2];exact J,by push_cast;omega,o4,by rw[b];simp⟩
    |some gg=>
     rw[en,DK d y] at b
     exact .inl ⟨rfl,b⟩
   ·obtain⟨s1,s2⟩:=mY hc J
    have aw:e1.2.1<c.2.2:=by
     by_cases hh:c.2.2<=e1.2.1
     ·rw[jC,if_pos hh] at d;cases d
     ·omega
    omega
  ·refine az (back h6) λE H7 h7=>az h7 λF H8 h8=>eU (vs:=r5 x) h8 2 rfl rfl rfl λH9 h9=>eU (vs:=s5 q) h9 1 rfl rfl rfl λC o=>ae rfl ?_
   have o:aA C (aC N::aG F (s5 q)::aG E (r5 x)::aG v (s5 e1)::aG sa (g7 (some A.a) g p e1 0)::av A D::M):=o
   rw[KR d,List.append_nil] at b
   have:=fin j N M C (t.trans u)
   rw[b] at this
   exact this (hI _ _ _ _ _ _ _ u T) o.ak.ak.ak
 ·rcases U with⟨_,b⟩|⟨ht,_⟩
  ·have:=fin j B5 M H5 t
   rw[b] at this
   exact this T h5.ak
  ·simp only at z;rw[ht] at z;cases z
end
end Sc
end
section
namespace Ch
open Go Go.Kx KM Rw Cr Ds Ge Rc Sc
abbrev rN (d g:Option Addr) (p e:Pos) (err:Int):List Value:=[.pointer d,.pointer g,i64 p.1,i64 p.2.1,i64 p.2.2.1,i64 p.2.2.2.1,i64 p.2.2.2.2,i64 e.1,i64 e.2.1,i64 e.2.2.1,i64 e.2.2.2.1,i64 e.2.2.2.2,i64 err]
def qH (c:bC) (q:Pos) (nx:Option Int):Pos×Bool:=match nx with
 |none=>(q,false)
 |some g=>if bE g 0 (c.2.1- 1) then((g,0,q.2.2),true) else(q,false)
theorem Oh (c:bC) (D:Dk) (n:Nat) (p:Pos):rJ c D (n+1) p=if(qH c (jd c D p).2.1 (jd c D p).2.2).2 then(rJ c D n (qH c (jd c D p).2.1 (jd c D p).2.2).1).map (λy=>((jd c D p).1++y.1,y.2)) else some ((jd c D p).1,(jd c D p).2.1):=by
 rw[rJ]
 unfold jd
 cases gK c D p with
 |none=>rfl
 |some q=>
  simp only
  generalize pq c D c.2.2.toNat q=x
  obtain⟨l,e,nx⟩:=x
  cases nx with
  |none=>rfl
  |some g=>
   simp only[qH]
   by_cases h:bE g 0 (c.2.1- 1)=true
   ·simp[h]
   ·simp[h]
section
variable {H B:PH} {L:List Ob} {k:Nat} {A:DA} {D:Dk} {c:bC} {g:Option Addr} {ca c0:Addr} {p e:Pos} {err:Int}
theorem eI {d:Addr} {Q:Option Addr->PH->Prop} (h:aA H (aC B::L)) (l:Gm B g c) (j:∀ca H',aA H' (aC B::aG ca (rN (some d) g p p 0)::L)->Q (some ca) H'):xW (some d) g p H Q:=by
 obtain⟨m,rfl,n⟩:=l
 refine az h λa1 H1 a=>aF (aE rfl (aE rfl ?_))
 refine bk (x:=p) a rfl rfl (bk (x:=p) a rfl rfl (az a.ak λb f i=>j b f i))
theorem D6 {i:Nat} {m:R5} {r:Rec} {q:Pos} {Q:Pos->Bool->PH->Prop} (h:aA H (aC B::L)) (hi:L[i]?=some (aG ca (rN (some A.a) g p e err))) (S:oQ B m r) (R:Gm B g c) (P:bg c)
 (O:∀H',aA H' (aC B::L)->Q (qH c q (dJ r.items)).1 (qH c q (dJ r.items)).2 H'):ri (some ca) m q H Q:=by
 refine az h λa1 H1 K=>az K λz U M=>az M λs V C=>bj (x:=m) C 3 rfl rfl rfl (Ae (S.ext C.base) λI T=>?_)
 have t:=C.ext T
 have fin:∀(v:Pos) (b:Bool) H',aA H' (aC B::aG s (s5 (0,0,0,0,0))::aG z (s5 v)::aG a1 (r5 m)::L)->v=(qH c q (dJ r.items)).1->b=(qH c q (dJ r.items)).2->
  aU s5 H' z 5 λF=>aX H' s (s5 F) λw=>aU s5 w s 5 λG=>Q G b w:=λv b H' o e1 e2=>by
  refine bj (x:=v) o 2 rfl rfl rfl (bf (vs:=s5 v) o rfl rfl λE u=>bk (x:=v) u rfl rfl ?_)
  rw[e1,e2]
  exact O E u.ak.ak.ak
 refine pF (λb H'=>b=(qH c q (dJ r.items)).2/\aA H' (aC B::aG s (s5 (0,0,0,0,0))::aG z (s5 q)::aG a1 (r5 m)::L)) (λb H' ⟨d,o⟩=>?_) λW y=>?_
 ·refine aF (aL (λcb=>?_) (λcb=>?_))
  ·rw[cb] at d
   have e2:(qH c q (dJ r.items)).1=((dJ r.items).getD 0,0,q.2.2):=by
    unfold qH at d ⊢
    cases l:dJ r.items with
    |none=>rw[l] at d;cases d
    |some n=>
     rw[l] at d
     simp only at d ⊢
     split at d
     ·next f=>rw[if_pos f];rfl
     ·cases d
   refine cB (j:=0) o 2 rfl (by simp) rfl λE u=>cB (j:=1) u 2 rfl (by simp) rfl λJ N=>fin ((dJ r.items).getD 0,0,q.2.2) b J N e2.symm (by rw[cb];exact d)
  ·rw[cb] at d
   have e2:(qH c q (dJ r.items)).1=q:=by
    unfold qH at d ⊢
    cases l:dJ r.items with
    |none=>rfl
    |some n=>
     rw[l] at d
     simp only at d ⊢
     split at d
     ·cases d
     ·next f=>rw[if_neg f]
   exact fin q b H' o e2.symm (by rw[cb];exact d)
 ·refine aL (λc1=>?_) (λc1=>y _ _ ⟨?_,t⟩)
  ·refine aD (aY (x:=g) t (i+4) hi rfl (ny (R.ext t.base) P (y _ I ⟨?_,t⟩)))
   cases l:dJ r.items with
   |none=>rw[l] at c1;cases c1
   |some n=>
    simp only[qH,Option.getD_some]
    show bE n 0 (c.2.1- 1)=_
    by_cases f:bE n 0 (c.2.1- 1)=true
    ·rw[if_pos f,f]
    ·rw[if_neg f];simpa using f
  ·cases l:dJ r.items with
   |none=>rfl
   |some n=>rw[l] at c1;cases c1
theorem KS {Q:Value->PH->Prop} (h:aA H (aC B::L)) (f:∀c0 b H',Ext B b->aZ b c0 [.pointer (some ca)]->aA H' (aC b::L)->Q (.func (.func 206) #[] #[.pointer (some c0)]) H'):mg (some ca) H Q:=
 fM h λa b H' i r d=>f a b H' i r d
theorem zg {i:Nat} {Q:Pos->PH->Prop} (h:aA H (aC B::L)) (hi:L[i]?=some (aG ca (rN (some A.a) g p e err))) (j:∀H',aA H' (aC B::L)->Q e H'):qe (some ca) H Q:=
 az h λa1 H1 b=>aE rfl (aD (nX (x:=e) b (i+2) hi (by simp) rfl (bf (vs:=s5 e) b rfl rfl λf d=>bk (x:=e) d rfl rfl (j f d.ak))))
theorem CM {i:Nat} {Q:Int->PH->Prop} (h:aA H (aC B::L)) (hi:L[i]?=some (aG ca (rN (some A.a) g p e err))) (b:Q err H):qf (some ca) H Q:=
 aE rfl (aD (aY (x:=err) h (i+1) hi rfl b))
end
end Ch
end
section
namespace Ch
open Go Go.Kx KM Rw Cr Ds Ge Rc Sc
section
variable {H B:PH} {L:List Ob} {k:Nat} {A:DA} {D:Dk} {c:bC} {g:Option Addr} {ca c0:Addr} {p e en:Pos} {err:Int}
def Vm {γ:Type} (c:bC) (A:DA) (g:Option Addr) (p i:Pos) (h:Int) (ca am:Addr) (done:List (Pos×Rec)) (J:List (Pos×Rec)->γ->PH->List Ob->Prop)
    (pre:List (Pos×Rec)) (q:Pos) (nx:Option Int) (f:Nat×γ) (B:PH) (M:List Ob):Prop:=
 f.1=0/\∃d b,J (done++pre) f.2 B b/\M=aG ca (rN (some A.a) g p d 0)::aG am [.bool (qH c q nx).2]::b/\(nx.isSome->d=(qH c q nx).1)
theorem GZ {γ:Type} {yv:Value} {Y:List Value->γ->PH->(Nat->γ->PH->Prop)->Prop} {g0:γ} {Q:Nat->γ->PH->Prop} (n:Nat) (l:List (Pos×Rec)) (J:List (Pos×Rec)->γ->PH->List Ob->Prop)
 (f:rJ c D n p=some (l,en)) (h:aA H (aC B::aG ca (rN (some A.a) g p e err)::av A D::L)) (bh:aZ B c0 [.pointer (some ca)]) (ok:cM k D) (hk:k< 2 ^ 29) (hg:Gm B g c) (hc:bg c) (hn:all c<=D.now.length)
 (hJ:∀l r A' B' M,Ext A' B'->J l r A' M->J l r B' M) (h0:J [] g0 B L)
 (step:∀pre x m r z M P H2 K,Ext B z->J pre r z M->pre++[x] <+: l->D1 c x->oQ z m x.2->aA H2 (aC z::(P++M))->
  (∀ad B3 M3 H3,Ext z B3->J (pre++[x]) ad B3 M3->aA H3 (aC B3::(P++M3))->K 0 ad H3)->Y [.agg (s5 x.1).toArray,.agg (r5 m).toArray] r H2 K)
 (fin:∀r z M H2,Ext B z->J l r z M->aA H2 (aC z::aG ca (rN (some A.a) g p en 0)::av A D::M)->Q 0 r H2):nv c0 yv Y g0 H Q:=by
 have o:∀{H'},Ext B H'->aZ H' c0 [.pointer (some ca)]:=λx=>bh.ext x
 refine fM h λa1 z H1 T r1 h1=>?_
 refine au (x:=some ca) (o (T.trans h1.base)) (aE rfl ?_)
 have al:=o (T.trans h1.base)
 refine au (x:=some ca) al (au (x:=some ca) al (au (x:=some ca) al (aD (nX (en:=s5) (x:=p) h1 1 rfl (by simp) rfl (aD (uq (rN (some A.a) g p p err) h1 1 rfl (by simp) rfl rfl λH2 h2=>?_))))))
 refine gd (o (T.trans (h2:aA H2 (aC z::_)).base)) (aD (cB (j:=12) h2 1 rfl (by simp) rfl λH3 h3=>?_))
 have h3:aA H3 (aC z::aG ca (rN (some A.a) g p p 0)::av A D::L):=h3
 refine az h3 λbp H4 h4=>hC h4 1 rfl rfl λH5 h5=>?_
 refine ax n (λi st Hk=>∃I rest r B5 M b more,st.2=(0,r)/\Ext z B5/\J I r B5 M/\l=I++rest/\aA Hk (aC B5::aG st.1 [.bool more]::aG ca (rN (some A.a) g p b 0)::av A D::M)/\
  (more=true->rJ c D (n-i) b=some (rest,en))/\(more=false->rest=[]/\b=en)) ⟨[],l,g0,z,L,p,true,rfl,.refl _,hJ _ _ _ _ _ T h0,rfl,h5,λ_=>f,λh=>by cases h⟩ ?_
 rintro i ⟨am,st⟩ H6 again hi ⟨I,rest,r,B6,M,b,more,es,aa,aP,hl,Z,aB,ay⟩ aQ
 simp only at es Z;subst es
 refine dO (x:=more) Z 1 rfl (aL (λcm=>?_) (λcm=>?_))
 ·subst cm
  have f:=aB rfl
  obtain⟨n',a8⟩:∃n',n-i=n'+1:=by
   cases hh:n-i with
   |zero=>rw[hh] at f;cases f
   |succ n'=>exact⟨n',rfl⟩
  have aS:i<n:=by omega
  rw[a8,Oh] at f
  have ar:=T.trans aa
  refine aF (aF ?_)
  have aq:=o (ar.trans Z.base)
  refine au (x:=some ca) aq (aD (aY (x:=some A.a) Z 2 rfl rfl (au (x:=some ca) aq (aD (aY (x:=g) Z 2 rfl rfl (au (x:=some ca) aq (aD (nX (en:=s5) (x:=b) Z 2 rfl (by simp) rfl ?_))))))))
  refine Sc.eI Z (hg.ext ar) λsa H7 h7=>az h7 λaT H8 h8=>hC h8 1 rfl rfl λH9 h9=>AZ (show aA H9 (aC B6::aG aT [.pointer (some sa)]::aG sa (g7 (some A.a) g b b 0)::aG am [.bool true]::aG ca (rN (some A.a) g p b 0)::av A D::M) from h9) λB9 ab V h9=>?_
  refine hC h9 2 rfl rfl λa3 ae=>?_
  have ae:aA a3 (aC B9::aG sa (g7 (some A.a) g b b 0)::aG am [.bool false]::aG ca (rN (some A.a) g p b 0)::av A D::M):=ae
  refine au (x:=some sa) (V.ext ae.base) (Sc.Mc ae λcp a2 a4 s bm ba=>?_)
  have w:=ar.trans (ab.trans s)
  have aU:aA a4 (aC a2::aG sa (g7 (some A.a) g b b 0)::av A D::(aG ca (rN (some A.a) g p b 0)::aG am [.bool false]::M)):=ba.perm (.cons _ (.cons _ ((List.Perm.cons _ (.swap _ _ _)).trans ((List.Perm.swap _ _ _).trans (.cons _ (.swap _ _ _))))))
  have wp:∀{H' B' cs ds es} {N:List Ob},aA H' (aC B'::aG sa cs::av A D::(aG ca ds::aG am es::N))->aA H' (aC B'::aG sa cs::aG am es::aG ca ds::av A D::N):=λh=>h.perm (.cons _ (.cons _ ((List.Perm.cons _ (.swap _ _ _)).trans ((List.Perm.swap _ _ _).trans (.cons _ (.swap _ _ _))))))
  refine yZ cp _ _ _ _ (Hm (Vm c A g p b 0 ca am I J) aU bm ok hk (hg.ext w) hc hn ?_ ?_ ?_ ?_)
  ·rintro l q nx r A' B' M x ⟨h1,ec,W,h2,h3,h4⟩
   exact⟨h1,ec,W,hJ _ _ _ _ _ x h2,h3,h4⟩
  ·exact⟨rfl,b,M,by rw[List.append_nil];exact hJ _ _ _ _ _ (ab.trans s) aP,rfl,λh=>by cases h⟩
  ·rintro pre x m v ⟨j,r⟩ E _ a9 a5 K d ⟨e0,ec,W,S,rfl,aR⟩ aW bi hm aj aw
   simp only at e0 S;subst e0
   refine⟨x.1,m,rfl,az aj λah bn u=>bf (vs:=s5 x.1) u rfl rfl λa6 O=>az O λai aI af=>bf (vs:=r5 m) af rfl rfl λaJ C=>?_⟩
   have ao:=o ((w.trans d).trans C.base)
   refine au (x:=some ca) ao (au (x:=some ca) ao (bk (x:=m) C rfl rfl (au (x:=some sa) ((V.ext (s.trans d)).ext C.base) (Sc.zg (i:=3) C rfl λaK F=>tY F 1 rfl rfl rfl ?_))))
   have ap:=o ((w.trans d).trans F.base)
   refine gd ap (gd ap (D6 (i:=5) F rfl hm (hg.ext (w.trans d)) hc λaM G=>?_))
   have aX:=o ((w.trans d).trans G.base)
   refine gd aX (aD (uq (rN (some A.a) g p (qH c v (dJ x.2.items)).1 0) G 6 rfl (by simp) rfl rfl λbo bb=>hC bb 7 rfl rfl λaN R=>?_))
   have R:aA aN (aC E::aG ai (r5 m)::aG ah (s5 x.1)::aG a9 (s5 x.1)::aG sa (g7 (some A.a) g b v 0)::av A D::aG ca (rN (some A.a) g p (qH c v (dJ x.2.items)).1 0)::aG am [.bool (qH c v (dJ x.2.items)).2]::W):=R
   refine au (en:=id) (x:=yv) (((r1.ext (aa.trans (ab.trans s))).ext d).ext R.base) (bj (x:=x.1) R 2 rfl rfl rfl (bk (x:=m) R rfl rfl ⟨rfl,rfl,?_⟩))
   refine step (I++pre) x m r E W [aG ai (r5 m),aG ah (s5 x.1),aG a9 (s5 x.1),aG sa (g7 (some A.a) g b v 0),av A D,aG ca (rN (some A.a) g p (qH c v (dJ x.2.items)).1 0),aG am [.bool (qH c v (dJ x.2.items)).2]] aN _ (w.trans d) S ?_ bi hm R λad aH M3 aO a0 be bc=>aE rfl ?_
   ·obtain⟨t,ht⟩:=aW
    rw[hl,List.append_assoc]
    have:∃t2,rest=(jd c D b).1++t2:=by
     split at f
     ·obtain⟨y,hy,ey⟩:=Option.map_eq_some_iff.1 f
      cases ey;exact⟨y.1,rfl⟩
     ·cases f;exact⟨[],by simp⟩
    obtain⟨t2,bl⟩:=this
    refine⟨t++t2,?_⟩
    rw[bl,←ht];simp
   ·have bd:aA aO (aC aH::aG ai (r5 m)::aG ah (s5 x.1)::aG a9 (s5 x.1)::aG sa (g7 (some A.a) g b v 0)::av A D::aG ca (rN (some A.a) g p (qH c v (dJ x.2.items)).1 0)::aG am [.bool (qH c v (dJ x.2.items)).2]::M3):=bc
    exact aw (0,ad) aH _ aO a0 ⟨rfl,_,M3,by rw[←List.append_assoc];exact be,rfl,λ_=>rfl⟩ bd.ak.ak
  ·rintro⟨j,r⟩ E _ a5 d ⟨e0,ec,W,S,rfl,aR⟩ aj
   simp only at e0 S;subst e0
   have u:=wp aj
   have ac:=w.trans d
   refine aE rfl (dO u 2 rfl (aL (λcm=>?_) (λcm=>?_)))
   ·have X:(qH c (jd c D b).2.1 (jd c D b).2.2).2=false:=by simpa using cm
    rw[X] at f u
    have an:=o (ac.trans u.base)
    have ag:=(V.ext (s.trans d)).ext u.base
    refine au (x:=some ca) an (au (x:=some ca) an (au (x:=some sa) ag (au (x:=some sa) ag (Sc.zg (i:=0) u rfl λa6 O=>?_))))
    have U:=o (ac.trans O.base)
    refine gd ((V.ext (s.trans d)).ext O.base) (gd U (gd U (Sc.CM (i:=0) O rfl (gd U (gd U (aD (uq (rN (some A.a) g p (jd c D b).2.1 0) O 3 rfl (by simp) rfl rfl λaI af=>?_)))))))
    refine gd (o (ac.trans (af:aA aI (aC E::_)).base)) (aD (cB (j:=12) af 3 rfl (by simp) rfl λaJ C=>?_))
    have C:aA aJ (aC E::aG sa (g7 (some A.a) g b (jd c D b).2.1 0)::aG am [.bool false]::aG ca (rN (some A.a) g p (jd c D b).2.1 0)::av A D::W):=C
    rw[if_neg (by simp)] at f
    injection f with f
    obtain⟨e1,e2⟩:=Prod.mk.inj f
    refine dO (x:=false) C 2 rfl (az C.ak.ak λa7 aK F=>hC F 1 rfl rfl λaM G=>aQ aS _ _ ⟨l,[],r,E,W,en,false,rfl,aa.trans ((ab.trans s).trans d),?_,by simp,?_,λh=>(by cases h),λ_=>⟨rfl,rfl⟩⟩)
    ·rw[hl,←e1];exact S
    ·rw[e2] at G;exact G
   ·have X:(qH c (jd c D b).2.1 (jd c D b).2.2).2=true:=by simpa using cm
    rw[X] at f u
    rw[if_pos rfl] at f
    obtain⟨y,hy,ey⟩:=Option.map_eq_some_iff.1 f
    obtain⟨e1,e2⟩:=Prod.mk.inj ey
    have aV:ec=(qH c (jd c D b).2.1 (jd c D b).2.2).1:=aR (by
     cases hh:(jd c D b).2.2 with
     |none=>rw[hh] at X;cases X
     |some _=>rfl)
    subst aV
    refine dO (x:=true) u 2 rfl (az u.ak.ak λa7 aK F=>hC F 1 rfl rfl λaM G=>aQ aS _ _ ⟨I++(jd c D b).1,y.1,r,E,W,_,true,rfl,aa.trans ((ab.trans s).trans d),S,?_,G,λ_=>?_,λh=>(by cases h)⟩)
    ·rw[hl,List.append_assoc,e1]
    ·rw[show n-(i+1)=n' by omega,hy,←e2]
 ·subst cm
  obtain⟨rfl,rfl⟩:=ay rfl
  rw[List.append_nil] at hl;subst hl
  exact fin r B6 M H6 (T.trans aa) aP Z.ak
end
end Ch
end
section
namespace Ig
open Go Go.Kx KM
theorem Ga (x:Int):cI (Value.int .i64 x)=true:=rfl
theorem Gb {H B:PH} {L:List Ob} {n per v:Int} {Q:Option Addr->PH->Prop} (h:aA H (aC B::L)) (k:1<=n/\n<=65536/\1<=per/\per<=65536)
 (i:∀c a s t H',Ext B c->aZ c a (oR s t per)->aA H' (aC c::(L++[aW E s (List.replicate n.toNat v),aW Value.bool t (List.replicate (pH n per).toNat false)]))->Q (some a) H'):mz n per v H Q:=by
 refine eI (λj=>absurd k j) λ_ a s t H1 d=>?_
 have e:=h.aQ d
 have f:aA H1 (aC B::(L++[aW E s (List.replicate n.toNat v),aW Value.bool t (List.replicate (pH n per).toNat false)])++[aG a (oR s t per)]):=by
  simpa using e
 obtain⟨c,x,r,g⟩:=f.freeze
 exact i c a s t H1 x r g
theorem Gc {n per:Int} (c:1<=n/\n<=65536/\1<=per/\per<=65536) {v:Int}:pA (List.replicate n.toNat v).length per (List.replicate (pH n per).toNat false):=by
 have:=I5 c.1 c.2.2.1
 have:=gE c.1 c.2.2.1
 refine⟨by simp;omega,by simp;omega,c.2.2.1,c.2.2.2,?_⟩
 rw[List.length_replicate,List.length_replicate,Int.toNat_of_nonneg (by omega),Int.toNat_of_nonneg (by omega)]
theorem pA.set {l:List Int} {per:Int} {d:List Bool} (ok:pA l.length per d) (k v:Int):pA (wz vK l k v).length per (zP vK per l d k v):=by
 refine⟨by rw[xC];exact ok.n1,by rw[xC];exact ok.n2,ok.p1,ok.p2,by rw[xC,Oa];exact ok.d⟩
theorem pA.clean {n:Nat} {per:Int} {d:List Bool} (ok:pA n per d):pA n per (List.replicate d.length false):=⟨ok.n1,ok.n2,ok.p1,ok.p2,by rw[List.length_replicate];exact ok.d⟩
theorem pA.DL {n:Nat} {per:Int} {d:List Bool} (ok:pA n per d):d.length<=65536:=by
 have c:=ok.d;have e:=ok.n2;have f:=ok.n1
 have:=gE (n:=n) (per:=per) (by omega) ok.p1
 omega
theorem yg {l:List Int} {b x:Int} (c:0<=b) (d:b<l.length) (e:l[b.toNat]?=some x):dz l b=x:=by rw[dz,if_pos ⟨c,d⟩];simp[List.getD,e]
structure qI (B:PH) (a b o:Addr) (s0 t0 s1 t1:Sl):Prop where
 im:aZ B a [.pointer (some b),.pointer (some o)]
 rb:aZ B b (oR s0 t0 15)
 ro:aZ B o (oR s1 t1 15)
theorem qI.ext {B c:PH} {a b o:Addr} {s0 t0 s1 t1:Sl} (r:qI B a b o s0 t0 s1 t1) (x:Ext B c):qI c a b o s0 t0 s1 t1:=⟨r.im.ext x,r.rb.ext x,r.ro.ext x⟩
structure dM (n:Nat) (M:Im):Prop where
 p0:pA M.l0.length 15 M.d0
 p1:pA M.l1.length 15 M.d1
 n0:M.l0.length=n
 n1:M.l1.length=n
 xG:n<=64
 CN:1<=n
def dR (s0 t0 s1 t1:Sl) (M:Im):List Ob:=[aW E s0 M.l0,aW Value.bool t0 M.d0,aW E s1 M.l1,aW Value.bool t1 M.d1]
theorem dM.put {n:Nat} {M:Im} (ok:dM n M) (aQ:Bool) (b at':Int):dM n (M.put aQ b at'):=by
 cases aQ with
 |true=>exact⟨ok.p0,ok.p1.set b at',ok.n0,by show(wz vK M.l1 b at').length=n;rw[xC];exact ok.n1,ok.xG,ok.CN⟩
 |false=>exact⟨ok.p0.set b at',ok.p1,by show(wz vK M.l0 b at').length=n;rw[xC];exact ok.n0,ok.n1,ok.xG,ok.CN⟩
theorem dM.fq {n:Nat} {M:Im} (ok:dM n M) (aQ:Bool):(M.fq aQ).length=n:=by cases aQ;exact ok.n0;exact ok.n1
section
variable {H B:PH} {R:List Ob} {a b o:Addr} {s0 t0 s1 t1:Sl} {M:Im} {n:Nat}
theorem fY {aQ:Bool} {Q:Option Addr->PH->Prop} (r:qI H a b o s0 t0 s1 t1) (d:Q (some (if aQ then o else b)) H):cV (some a) aQ H Q:=by
 refine aE rfl (aL (λc=>?_) (λc=>?_))
 ·rw[c] at d;exact aD (aa (x:=some o) r.im rfl d)
 ·rw[c] at d;exact aD (aa (x:=some b) r.im rfl d)
theorem ur {Q:Int->PH->Prop} (r:qI H a b o s0 t0 s1 t1) (d:(s0.len:Int)=n) (c:Q n H):gk (some a) H Q:=
 fY r (aE rfl (aD (aa (x:=s0) r.rb rfl (by rw[d];exact c))))
theorem ny {x k:Int} {Q:Bool->PH->Prop} (r:qI H a b o s0 t0 s1 t1) (f:(s0.len:Int)=n) (g:n<=64) (d:Q (decide (1<=k/\k<=n/\0<=x/\x<=n-k)) H):qc (some a) x k H Q:=by
 have no:¬(1<=k/\k<=n/\0<=x/\x<=n-k)->Q false H:=λh=>by rw[decide_eq_false h] at d;exact d
 refine aF (aL (λc=>ur r f (aF (aL (λc1=>aF ?_) (λc1=>aF (aE rfl (no ?_)))))) (λc=>aF (aE rfl (aF (aE rfl (no ?_))))))
 ·refine aL (λc2=>ur r f ?_) (λc2=>no ?_)
  ·have k1:1<=k:=by simpa using c
   have k2:k<=n:=by simpa using c1
   have k3:0<=x:=by simpa using c2
   rw[bA (by omega) (by omega)]
   have e:decide (x<=(n:Int)-k)=decide (1<=k/\k<=n/\0<=x/\x<=n-k):=decide_eq_decide.2 ⟨λh=>⟨k1,k2,k3,h⟩,λh=>h.2.2.2⟩
   rw[e];exact d
  ·simp at c2;omega
 ·simp at c1;omega
 ·simp at c;omega
theorem Ei {L:List Ob} {p:Addr} {s t:Sl} {l:List Int} {d:List Bool} {x at':Int} {Q:Int->PH->Prop} (h:aA H L) (r:aZ H p (oR s t 15)) (i j:Nat) (hi:L[i]?=some (aW E s l)) (v:L[j]?=some (aW Value.bool t d)) (f:i≠j) (ok:pA l.length 15 d)
 (u:∀H',aA H' ((L.set i (aW E s (wz vK l x at'))).set j (aW Value.bool t (zP vK 15 l d x at')))->Q (gone (dz l x) at') H'):rC (some p) x at' H Q:=by
 have fin:∀y:Int,y=dz l x->gM (some p) x at' H λA e=>aJ (y==at') (Q 0 e) (Q (if y< 0 then 0 else y) e):=by
  rintro _ rfl
  refine GS h r i j hi v f ok λH' g=>?_
  have q:=u H' g
  unfold gone at q
  refine aL (λc=>?_) (λc=>?_)
  ·rw[if_pos c] at q;exact q
  ·rw[if_neg (by rw[c];decide)] at q;exact q
 refine cZ r (h.list i hi) (λy k m z=>fin y (yg k m z).symm) (λw=>fin 0 (by rw[dz,if_neg w]))
theorem tF {aQ:Bool} {x at':Int} {Q:Int->PH->Prop} (h:aA H (aC B::(dR s0 t0 s1 t1 M++R))) (r:qI B a b o s0 t0 s1 t1) (ok:dM n M)
 (d:∀H',aA H' (aC B::(dR s0 t0 s1 t1 (M.put aQ x at')++R))->Q (gone (dz (M.fq aQ) x) at') H'):rC (some (if aQ then o else b)) x at' H Q:=by
 cases aQ with
 |true=>exact Ei h (r.ext h.base).ro 3 4 rfl rfl (by decide) ok.p1 λH' c=>d H' c
 |false=>exact Ei h (r.ext h.base).rb 1 2 rfl rfl (by decide) ok.p0 λH' c=>d H' c
theorem Gd {M:Im} (h:aA H (aC B::(dR s0 t0 s1 t1 M++R))) (ok:dM n M):(s0.len:Int)=n:=by
 rw[(h.list (enc:=E) 1 rfl).bF,ok.n0]
theorem fx {aQ:Bool} {x at':Int} {Q:Int->Bool->PH->Prop} (h:aA H (aC B::(dR s0 t0 s1 t1 M++R))) (r:qI B a b o s0 t0 s1 t1) (ok:dM n M) (g:0<=x/\x<n) (e:1<=at'/\at'< 4096)
 (c:∀H',aA H' (aC B::(dR s0 t0 s1 t1 (M.put aQ x at')++R))->Q (gone (dz (M.fq aQ) x) at') true H'):qd (some a) aQ x at' H Q:=by
 have d:=ok.xG
 have f:=ok.CN
 refine ny (r.ext h.base) (Gd h ok) d ?_
 rw[decide_eq_true (show 1<=(1:Int)/\(1:Int)<=n/\0<=x/\x<=n- 1 from⟨by omega,by omega,by omega,by omega⟩)]
 refine aF (aE rfl ?_)
 rw[decide_eq_false (show¬at'< 1 by omega)]
 refine aF (aE rfl ?_)
 rw[decide_eq_false (show¬4096<=at' by omega)]
 exact aE rfl (fY (r.ext h.base) (tF h r ok c))
theorem Oi {x:Int} {Q:Int->Bool->PH->Prop} (h:aA H (aC B::(dR s0 t0 s1 t1 M++R))) (r:qI B a b o s0 t0 s1 t1) (c:Q (dz M.l0 x) (decide (0<=x/\x<M.l0.length)) H):qi (some a) x H Q:=by
 refine fY (r.ext h.base) (cZ (r.ext h.base).rb (h.list 1 rfl) (λy d e g=>?_) (λf=>?_))
 ·rw[yg d e g,decide_eq_true ⟨d,e⟩] at c;exact c
 ·rw[dz,if_neg f,decide_eq_false f] at c;exact c
end
theorem Uh {H:PH} {L N:List Ob} (h:aA H (L++[tg N])):aA H (L++N):=by
 have l:aA H N:=h.all L.length (tg N) (by simp)
 have f:∀(j:Nat) (A:Ob),(L++N)[j]?=some A->(j<L.length/\L[j]?=some A)∨(L.length<=j/\N[j-L.length]?=some A):=λj A d=>by
  by_cases e:j<L.length
  ·rw[List.getElem?_append_left e] at d;exact .inl ⟨e,d⟩
  ·rw[List.getElem?_append_right (by omega)] at d;exact .inr ⟨by omega,d⟩
 have key:∀(i j:Nat) (A B:Ob),L[i]?=some A->N[j]?=some B->Dj A B:=λi j A B hi d c m hf=>by
  have g:=(List.getElem?_eq_some_iff.1 hi).1
  exact h.dj i L.length A (tg N) (by rw[List.getElem?_append_left g];exact hi) (by simp) (by omega) c m ⟨j,B,d,hf⟩
 refine⟨λj A d=>?_,λi j A B hi d k=>?_⟩
 ·rcases f j A d with⟨e,d⟩|⟨_,d⟩
  ·exact h.all j A (by rw[List.getElem?_append_left e];exact d)
  ·exact l.all _ A d
 ·rcases f i A hi with⟨e1,hi⟩|⟨e1,hi⟩<;>rcases f j B d with⟨e2,d⟩|⟨e2,d⟩
  ·exact h.dj i j A B (by rw[List.getElem?_append_left e1];exact hi) (by rw[List.getElem?_append_left e2];exact d) k
  ·exact key i _ A B hi d
  ·exact(key j _ B A d hi).symm
  ·exact l.dj _ _ A B hi d (by omega)
section
variable {H:PH} {a:Addr} {s t:Sl} {per:Int}
theorem xr {γ:Type} {c0:Addr} {Y:List Value->γ->PH->(Nat->γ->PH->Prop)->Prop} {h:γ} {Q:Nat->γ->PH->Prop} (N:Nat) (ls:Nat->List Int) (I:Nat->γ->PH->Prop) (F:N<=65536) (f:∀k,(ls k).length=N)
 (l:∀k g H,I k g H->cellAt H c0=some (.pointer (some a))/\aZ H a (oR s t per)/\b9 E H s (ls k)) (i:I 0 h H)
 (step:∀k g H K x,k<N->I k g H->(ls k)[k]?=some x->(∀d H',I (k+1) d H'->K 0 d H')->(∀j d H',j≠0->Q j d H'->K j d H')->Y [.int .i64 k,.int .i64 x] g H K)
 (fin:∀g H,I N g H->Q 0 g H):nw c0 Y h H Q:=by
 obtain⟨u,A,l0⟩:=l _ _ _ i
 have w:=f 0
 refine⟨some a,u,xE A l0.bF ?_⟩
 rw[w]
 refine ax N (λk st r=>∃g,st=((k:Int),(0,g))/\I k g r) ⟨h,rfl,i⟩ ?_
 rintro k st H1 again hk ⟨g,rfl,hi⟩ m
 obtain⟨e1,C,l1⟩:=l _ _ _ hi
 have D:=f k
 refine aL (λc=>?_) (λc=>?_)
 ·have e:k<N:=by simpa using c
  have v:=bH (k:=k) (by omega)
  refine⟨some a,e1,aD (aa (x:=s) C rfl (eJ l1 (by omega) (by omega) λx q=>⟨rfl,?_⟩))⟩
  rw[Int.toNat_natCast] at q
  refine step k g H1 _ x e hi q (λd H' p=>aE rfl ?_) (λj d H' y z=>ae (by simpa using y) z)
  rw[v];exact m e _ _ ⟨d,rfl,p⟩
 ·have:k=N:=by simp at c;omega
  subst this
  exact fin g H1 hi
end
theorem Md {n:Nat} (h:1<=n/\n<=64):dM n (vj n):=by
 have g:1<=(n:Int)/\(n:Int)<=65536/\1<=(15:Int)/\(15:Int)<=65536:=⟨by omega,by omega,by decide,by decide⟩
 exact⟨Gc g (v:=0),Gc g (v:= -1),by simp[vj],by simp[vj],h.2,h.1⟩
theorem Me {H B:PH} {L:List Ob} {n:Nat} {Q:Option Addr->PH->Prop} (h:aA H (aC B::L)) (y:1<=n/\n<=64)
 (m:∀c a b o s0 t0 s1 t1 H',Ext B c->qI c a b o s0 t0 s1 t1->aA H' (aC c::(L++dR s0 t0 s1 t1 (vj n)))->Q (some a) H'):xV n H Q:=by
 have g:1<=(n:Int)/\(n:Int)<=65536/\1<=(15:Int)/\(15:Int)<=65536:=⟨by omega,by omega,by decide,by decide⟩
 refine aF (aE (by simp;omega) (aE (by simp;omega) (Gb h g λv b s0 t0 H1 u p i=>Gb i g λf o s1 t1 w e q j=>kV j λa d k z=>?_)))
 obtain⟨c,x,r,l⟩:=(show aA d (aC f::(L++dR s0 t0 s1 t1 (vj n))++[aG a [.pointer (some b),.pointer (some o)]]) by simpa[dR,vj] using k).freeze
 exact m c a b o s0 t0 s1 t1 d (u.trans (e.trans x)) ⟨r,p.ext (e.trans x),q.ext x⟩ l
theorem Gf (z:Int):(gl z).length<=1:=by unfold gl;split<;>simp
theorem KT {aQ:Bool} {b:Int} {M:Im} {n:Nat} (ok:dM n M):∀i,dM n (AU aQ b M i).1/\(AU aQ b M i).2.length<=i
 | 0=>⟨ok,Nat.le_refl _⟩
 |i+1=>⟨(KT ok i).1.put aQ (b+i) 0,by
  have c:=(KT (aQ:=aQ) (b:=b) ok i).2
  have d:=Gf (gone (dz ((AU aQ b M i).1.fq aQ) (b+i)) 0)
  rw[AU,List.length_append];omega⟩
theorem xu {M:Im} {n:Nat} (ok:dM n M):∀i,dM n (gD M i).1/\(gD M i).2.length<=i
 | 0=>⟨ok,Nat.le_refl _⟩
 |i+1=>by
  obtain⟨c,d⟩:=xu ok i
  rw[gD,Cz]
  split
  ·exact⟨c,by omega⟩
  ·have e:=Gf (gone (dz (gD M i).1.l0 i) (dz (gD M i).1.l1 i))
   exact⟨(c.put false i (dz (gD M i).1.l1 i)).put true i (-1),by rw[List.length_append];omega⟩
theorem uu {M:Im} {n:Nat} (ok:dM n M):∀i,dM n (jK M i).1/\(jK M i).2.length<=i
 | 0=>⟨ok,Nat.le_refl _⟩
 |i+1=>⟨(uu ok i).1.put true i (-1),by
  have c:=(uu ok i).2
  have d:=Gf (gone (dz (jK M i).1.l1 i) (-1))
  rw[jK,List.length_append];omega⟩
section
variable {H B:PH} {R:List Ob} {a b o:Addr} {s0 t0 s1 t1:Sl} {M:Im} {n:Nat}
theorem Bl {Q:Sl->PH->Prop} (h:aA H (aC B::(dR s0 t0 s1 t1 M++R))) (r:qI B a b o s0 t0 s1 t1) (ok:dM n M)
 (Y:∀H' g,aA H' (aC B::(dR s0 t0 s1 t1 (gD M n).1++(aW E g (gD M n).2::R)))->Q g H'):kb (some a) H Q:=by
 have hn:=ok.xG
 refine kV (aA.LW (L:=aC B::dR s0 t0 s1 t1 M) (N:=R) h) λa1 H1 U x1=>kV U λA H2 D x2=>dO (x:=some a) D 6 rfl (fY (aQ:=true) (r.ext D.base) (kV D λc0 S V x3=>?_))
 have W:aA S (aC B::(dR s0 t0 s1 t1 (gD M 0).1++[aW E Sl.nil (gD M 0).2,aG a1 [.pointer (some a)],aG A [Sl.v Sl.nil],aG c0 [.pointer (some o)],tg R])):=V.AJ.pick [0,1,2,3,4,9,6,7,8,5] (by decide) rfl (by simp[dR])
 refine jY _ _ _ _ _ (xr (a:=o) (s:=s1) (t:=t1) (per:=15) n (λk=>(gD M k).1.l1)
  (λk _ m=>∃q,aA m (aC B::(dR s0 t0 s1 t1 (gD M k).1++[aW E q (gD M k).2,aG a1 [.pointer (some a)],aG A [Sl.v q],aG c0 [.pointer (some o)],tg R]))) (by omega) (λk=>(xu ok k).1.n1)
  ?_ ⟨Sl.nil,W⟩ ?_ ?_)
 ·rintro k _ m ⟨q,hk⟩
  exact⟨hk.zE 8 rfl,(r.ext hk.base).ro,hk.list 3 rfl⟩
 ·rintro k _ m K x ab ⟨q,hk⟩ Z f _
  obtain⟨w,ac⟩:=xu ok k
  have u:dz (gD M k).1.l1 k=x:=yg (by omega) (by have:=w.n1;omega) (by rw[Int.toNat_natCast];exact Z)
  refine⟨_,_,rfl,aL (λc=>?_) (λc=>?_)⟩
  ·have C:x= -1:=by simpa using c
   have e:gD M (k+1)=gD M k:=by rw[gD,Cz,if_pos (by rw[u,C])]
   exact f () m ⟨q,by rw[e];exact hk⟩
  ·have C:¬x= -1:=by simpa using c
   have e:gD M (k+1)=(((gD M k).1.put false k x).put true k (-1),(gD M k).2++gl (gone (dz (gD M k).1.l0 k) x)):=by rw[gD,Cz,if_neg (by rw[u];exact C),u]
   refine dO (x:=some a) hk 6 rfl (aD (aa (x:=some b) (r.ext hk.base).im rfl (tF (aQ:=false) hk r w λy j=>aF ?_)))
   have rest:∀z i,aA i (aC B::(dR s0 t0 s1 t1 ((gD M k).1.put false k x)++[aW E z ((gD M k).2++gl (gone (dz (gD M k).1.l0 k) x)),aG a1 [.pointer (some a)],aG A [Sl.v z],aG c0 [.pointer (some o)],tg R]))->
    aH .pointer i a1 λO=>aN O λJ=>aH .pointer i (J.add 1) λP=>gM P k (-1) i λad G=>K 0 () G:=λz i d=>by
    refine dO (x:=some a) d 6 rfl (aD (aa (x:=some o) (r.ext d.base).im rfl (GS d (r.ext d.base).ro 3 4 rfl rfl (by decide) (w.put _ _ _).p1 λI F=>?_)))
    exact f () I ⟨z,by rw[e];exact F⟩
   refine aL (λc1=>?_) (λc1=>?_)
   ·have p:0<gone (dz (gD M k).1.l0 k) x:=by simpa[Im.fq] using c1
    refine dO (x:=q) j 7 rfl (Cp (enc:=E) j λq1 i d x6=>qY (l:=(gD M k).2) (ys:=[gone (dz (gD M k).1.l0 k) x]) d 5 rfl (d.list 10 rfl) Ga rfl (by simp;omega) λq2 I F=>hC F 7 rfl rfl λT X=>rest q2 T ?_)
    rw[gl,if_pos p]
    exact X.pick [0,1,2,3,4,5,6,7,8,9] (by decide) rfl (by simp[dR])
   ·have p:¬0<gone (dz (gD M k).1.l0 k) x:=by simpa[Im.fq] using c1
    refine rest q y ?_
    rw[gl,if_neg p,List.append_nil]
    exact j
 ·rintro _ m ⟨q,hk⟩
  refine dO (x:=q) hk 7 rfl (hC hk 7 rfl rfl λy j=>dO (x:=q) j 7 rfl (Y y q ?_))
  have d:aA y ((aC B::(dR s0 t0 s1 t1 (gD M n).1++[aW E q (gD M n).2]))++[tg R]):=j.pick [0,1,2,3,4,5,9] (by decide) rfl (by simp[dR])
  simpa using Uh d
theorem se {Q:Sl->PH->Prop} (h:aA H (aC B::(dR s0 t0 s1 t1 M++R))) (r:qI B a b o s0 t0 s1 t1) (ok:dM n M)
 (G:∀H' g,aA H' (aC B::(dR s0 t0 s1 t1 (jK M n).1++(aW E g (jK M n).2::R)))->Q g H'):ka (some a) H Q:=by
 have U:=ok.xG
 refine kV (aA.LW (L:=aC B::dR s0 t0 s1 t1 M) (N:=R) h) λa1 H1 z X=>kV z λp P m Y=>dO (x:=some a) m 6 rfl (fY (aQ:=true) (r.ext m.base) (kV m λc0 w A Z=>?_))
 have C:aA w (aC B::(dR s0 t0 s1 t1 (jK M 0).1++[aW E Sl.nil (jK M 0).2,aG a1 [.pointer (some a)],aG p [Sl.v Sl.nil],aG c0 [.pointer (some o)],tg R])):=A.AJ.pick [0,1,2,3,4,9,6,7,8,5] (by decide) rfl (by simp[dR])
 refine jY _ _ _ _ _ (xr (a:=o) (s:=s1) (t:=t1) (per:=15) n (λk=>(jK M k).1.l1)
  (λk _ i=>∃q,aA i (aC B::(dR s0 t0 s1 t1 (jK M k).1++[aW E q (jK M k).2,aG a1 [.pointer (some a)],aG p [Sl.v q],aG c0 [.pointer (some o)],tg R]))) (by omega) (λk=>(uu ok k).1.n1)
  ?_ ⟨Sl.nil,C⟩ ?_ ?_)
 ·rintro k _ i ⟨q,hk⟩
  exact⟨hk.zE 8 rfl,(r.ext hk.base).ro,hk.list 3 rfl⟩
 ·rintro k _ i K x J ⟨q,hk⟩ V c _
  obtain⟨u,O⟩:=uu ok k
  refine⟨_,_,rfl,dO (x:=some a) hk 6 rfl (aD (aa (x:=some o) (r.ext hk.base).im rfl (tF (aQ:=true) hk r u λf d=>?_)))⟩
  refine aL (λc1=>?_) (λc1=>?_)
  ·have e:0<gone (dz (jK M k).1.l1 k) (-1):=by simpa[Im.fq] using c1
   refine dO (x:=q) d 7 rfl (Cp (enc:=E) d λW S j x6=>qY (l:=(jK M k).2) (ys:=[gone (dz (jK M k).1.l1 k) (-1)]) j 5 rfl (j.list 10 rfl) Ga rfl (by simp;omega) λI T D=>hC D 7 rfl rfl λy F=>c () y ⟨I,?_⟩)
   rw[jK,gl,if_pos e]
   exact F.pick [0,1,2,3,4,5,6,7,8,9] (by decide) rfl (by simp[dR])
  ·have e:¬0<gone (dz (jK M k).1.l1 k) (-1):=by simpa[Im.fq] using c1
   refine c () f ⟨q,?_⟩
   rw[jK,gl,if_neg e,List.append_nil]
   exact d
 ·rintro _ i ⟨q,hk⟩
  refine dO (x:=q) hk 7 rfl (hC hk 7 rfl rfl λf d=>dO (x:=q) d 7 rfl (G f q ?_))
  have j:aA f ((aC B::(dR s0 t0 s1 t1 (jK M n).1++[aW E q (jK M n).2]))++[tg R]):=d.pick [0,1,2,3,4,5,9] (by decide) rfl (by simp[dR])
  simpa using Uh j
theorem Mf {Q:Int->PH->Prop} (h:aA H (aC B::(dR s0 t0 s1 t1 M++R))) (r:qI B a b o s0 t0 s1 t1) (ok:dM n M) (m:∀H',Ext H H'->Q (tq M.l1) H'):mi (some a) H Q:=by
 have y:=ok.xG
 have e1:=ok.n1
 have i:=r.ext h.base
 have p:=h.list (enc:=E) 3 rfl
 refine kV (aA.start H) λa1 H1 j u=>fY (aQ:=true) (i.ext u) (kV j λc0 w l z=>?_)
 refine jY _ _ _ _ _ (xr (a:=o) (s:=s1) (t:=t1) (per:=15) n (λ_=>M.l1)
  (λk _ e=>aA e [aC H,aG a1 [.int .i64 (tq (M.l1.take k))],aG c0 [.pointer (some o)]]) (by omega) (λ_=>e1)
  ?_ l ?_ ?_)
 ·rintro k _ e hk
  exact⟨hk.zE 2 rfl,(i.ext hk.base).ro,p.ext hk.base⟩
 ·rintro k _ e K x v hk q d _
  have e2:M.l1.take (k+1)=M.l1.take k++[x]:=by rw[List.take_add_one,q];rfl
  have hle:tq (M.l1.take k)<=k:=Nat.le_trans List.countP_le_length (by rw[List.length_take];omega)
  refine⟨_,_,rfl,aL (λc=>?_) (λc=>d () e ?_)⟩
  ·refine dO (enc:=E) (x:=(tq (M.l1.take k):Int)) hk 1 rfl (hC hk 1 rfl rfl λg f=>d () g ?_)
   rw[bH (by omega)] at f
   rw[e2,tq,List.countP_append,List.countP_singleton,if_pos c]
   exact f
  ·rw[e2,tq,List.countP_append,List.countP_singleton,if_neg (by rw[c];decide)]
   exact hk
 ·rintro _ e hk
  rw[List.take_of_length_le (by omega)] at hk
  refine dO (enc:=E) (x:=(tq M.l1:Int)) hk 1 rfl (hC hk 1 rfl rfl λg f=>dO (enc:=E) (x:=(tq M.l1:Int)) f 1 rfl (m g f.base))
end
end Ig
end
section
namespace Ig
open Go Go.Kx KM
theorem Gg (i:Nat) (x:Int):(rp i x).length<=1:=by unfold rp;split<;>simp
theorem Gh (l0 l1:List Int):∀i,(vd l0 l1 i).length<=2*i
 | 0=>Nat.le_refl _
 |i+1=>by
  have a:=Gh l0 l1 i
  have b:=Gg i (dz l0 i)
  have c:=Gg i (dz l1 i)
  rw[vd,List.length_append,List.length_append];omega
end Ig
end
section
namespace Ig
open Go Go.Kx KM
section
variable {H B:PH} {L:List Ob} {a:Addr} {s t:Sl} {per:Int} {l:List Int} {d:List Bool}
theorem uW {k:Int} {Q:Sl->PH->Prop} (r:aZ H a (oR s t per)) (q:dE E H s l) (w:(t.len:Int)=d.length) (ok:pA l.length per d)
 (e:¬(0<=k/\k<d.length)->Q Sl.nil H) (m:∀(lo hi:Nat),0<=k->k<d.length->(lo:Int)=k*per->(hi:Int)=min ((k+1)*per) l.length->lo<hi->hi<=l.length->b9 E H (s.cut 1 lo hi) ((l.drop lo).take (hi-lo))->Q (s.cut 1 lo hi) H):kY (some a) k H Q:=by
 refine aF (aL (λc=>ae rfl (e (by simp at c;omega))) (λc=>fB r w ?_))
 refine aL (λc2=>e (by simp at c2;omega)) (λc2=>?_)
 have i:0<=k:=by simpa using c
 have j:k<d.length:=by simpa using c2
 have v:=ok.d;have:=ok.n2;have h:=ok.p1;have:=ok.p2;have:=ok.n1
 have hle:=Ig.gE (n:=l.length) (per:=per) (by omega) h
 have C:=D0 h i (by rw[←v];exact j)
 have p:0<=k*per:=Int.mul_nonneg i (by omega)
 have e1:(k+1)*per=k*per+per:=by rw[Int.add_mul,Int.one_mul]
 have y:IntKind.wrap .i64 (k*per)=k*per:=bA (by omega) (by omega)
 have z:IntKind.wrap .i64 (k+1)=k+1:=bA (by omega) (by omega)
 have A:IntKind.wrap .i64 ((k+1)*per)=(k+1)*per:=bA (by omega) (by omega)
 refine aD (aa (x:=s) r rfl (aD (aa (x:=per) r rfl (aD (aa (x:=per) r rfl (aD (aa (x:=s) r rfl ?_)))))))
 rw[y,z,A,q.list.bF]
 have em:(if(l.length:Int)<(k+1)*per then(l.length:Int) else(k+1)*per)=min ((k+1)*per) l.length:=by split<;>omega
 rw[em]
 obtain⟨lo,g⟩:=Int.eq_ofNat_of_zero_le p
 obtain⟨hi,f⟩:=Int.eq_ofNat_of_zero_le (show 0<=min ((k+1)*per) (l.length:Int) by omega)
 rw[g,f]
 refine IL q (by omega) (by omega) (by omega) λu=>?_
 simp only[Int.toNat_natCast] at u ⊢
 exact m lo hi i j g.symm f.symm (by omega) (by omega) u
theorem I8 {k:Int} {lo hi:Nat} (e:0<=k) (f:k<d.length) (c:(lo:Int)=k*per) (g:(hi:Int)=min ((k+1)*per) l.length) (i:lo<hi):(l.drop lo).take (hi-lo)=cO l per d k:=by
 have e1:(k+1)*per=k*per+per:=by rw[Int.add_mul,Int.one_mul]
 rw[cO,if_pos ⟨e,f⟩,←c,Int.toNat_natCast]
 by_cases h:hi=l.length
 ·rw[List.take_of_length_le (by rw[List.length_drop];omega),List.take_of_length_le (by rw[List.length_drop];omega)]
 ·congr 1;omega
theorem pI {k:Int} {Q:Sl->PH->Prop} (r:aZ H a (oR s t per)) (u:dE E H s l) (v:(t.len:Int)=d.length) (ok:pA l.length per d) (c:∀q H',aA H' [aC H,aW E q (cO l per d k)]->Q q H'):hG (some a) k H Q:=by
 have m:=ok.n2
 refine uW r u v ok (λm=>?_) (λlo hi f g i h j hle p=>?_)
 ·have e:cO l per d k=[]:=by rw[cO,if_neg m]
  rw[e] at c
  exact zF (enc:=E) (l:=[]) .nil MY rfl (by decide) c
 ·rw[I8 f g i h j] at p
  refine zF (enc:=E) p MY rfl ?_ c
  have:(cO l per d k).length<=l.length:=by
   rw[cO,if_pos ⟨f,g⟩,List.length_take,List.length_drop];omega
  omega
def wI (per:Int) (l:List Int) (d:List Bool) (k:Int) (ys:List Int):List Int:=if(0<=k/\k<d.length)/\ys.length=(cO l per d k).length then l.take (k*per).toNat++ys++l.drop ((k*per).toNat+ys.length) else l
def zh (per:Int) (l:List Int) (d:List Bool) (k:Int) (ys:List Int):List Bool:=if(0<=k/\k<d.length)/\ys.length=(cO l per d k).length then d.set k.toNat false else d
theorem Ej {k:Int} {x:Sl} {ys:List Int} {Q:Bool->PH->Prop} (h:aA H L) (r:aZ H a (oR s t per)) (i j:Nat) (hi:L[i]?=some (aW E s l)) (w:L[j]?=some (aW Value.bool t d)) (C:i≠j) (ok:pA l.length per d)
 (I:∀H',aA H' (L.set i (aW E s (wI per l d k ys)))->aZ H' a (oR s t per)) (F:b9 E H x ys)
 (g:∀H',aA H' ((L.set i (aW E s (wI per l d k ys))).set j (aW Value.bool t (zh per l d k ys)))->Q (decide ((0<=k/\k<d.length)/\ys.length=(cO l per d k).length)) H'):hZ (some a) k x H Q:=by
 have ss:∀{α:Type} {L:List α} {i:Nat} {O:α},L[i]?=some O->L.set i O=L:=λ{α L i O} h=>by
  apply List.ext_getElem?
  intro j
  by_cases e:i=j
  ·subst e;rw[List.getElem?_set_self (List.getElem?_eq_some_iff.1 h).1,h]
  ·rw[List.getElem?_set_ne e]
 have stay:¬((0<=k/\k<d.length)/\ys.length=(cO l per d k).length)->Q false H:=λf=>by
  have:=g H
  rw[wI,zh,if_neg f,if_neg f,ss hi,ss w,decide_eq_false f] at this
  exact this h
 have T:dE E H s l:=h.get i hi
 refine uW r T (h.list j w).bF ok (λS=>aF (ae rfl (ae rfl (stay λf=>S f.1)))) (λlo hi u v m A D hle U=>?_)
 have he:=I8 (l:=l) u v m A D
 have p:(cO l per d k).length=hi-lo:=by rw[←he,List.length_take,List.length_drop];omega
 have z:((s.cut 1 lo hi).len:Int)=(hi-lo:Nat):=by simp only[Sl.cut]
 have G:=F.bF
 rw[z,G]
 refine aF (aE (by simp;omega) (aL (λc=>stay λf=>?_) (λc=>?_)))
 ·have:=f.2;rw[p] at this;simp at c;omega
 ·have q:ys.length=hi-lo:=by simp at c;omega
  have f:(0<=k/\k<d.length)/\ys.length=(cO l per d k).length:=⟨⟨u,v⟩,by rw[p,q]⟩
  rw[decide_eq_true f] at g
  have N:wI per l d k ys=l.take lo++ys.take (hi-lo)++l.drop (lo+min ys.length (hi-lo)):=by
   rw[wI,if_pos f,←m,Int.toNat_natCast,show ys.take (hi-lo)=ys from List.take_of_length_le (by omega),←q,Nat.min_self]
  rw[zh,if_pos f] at g
  rw[N] at I g
  refine AK h i (by assumption) (by omega) hle F MY λJ y=>aD (aa (x:=t) (I J y) rfl ?_)
  exact tf y j (by rw[List.getElem?_set_ne C];exact w) u v rfl λK P=>g K P
end
section
variable {H B:PH} {R:List Ob} {a b o:Addr} {s0 t0 s1 t1:Sl} {M:Im} {n:Nat}
theorem dM.cW (ok:dM n M) (aQ:Bool):pA (M.fq aQ).length 15 (M.cW aQ):=by cases aQ;exact ok.p0;exact ok.p1
theorem DM {aQ:Bool} {k:Int} {Q:Sl->PH->Prop} (h:aA H (aC B::(dR s0 t0 s1 t1 M++R))) (r:qI B a b o s0 t0 s1 t1) (ok:dM n M)
 (e:∀q H',aA H' (aC B::aW E q (cO (M.fq aQ) 15 (M.cW aQ) k)::(dR s0 t0 s1 t1 M++R))->Q q H'):mH (some a) aQ k H Q:=by
 refine fY (r.ext h.base) ?_
 cases aQ with
 |false=>exact pI (r.ext h.base).rb (h.get 1 rfl) (h.list (enc:=Value.bool) 2 rfl).bF ok.p0 λq H' c=>e q H' (h.made c)
 |true=>exact pI (r.ext h.base).ro (h.get 3 rfl) (h.list (enc:=Value.bool) 4 rfl).bF ok.p1 λq H' c=>e q H' (h.made c)
theorem CO {l:List Int} {d:List Bool} {k:Int} (h:0<=k/\k<d.length):cO l 15 d k=(l.drop (k*15).toNat).take 15:=by rw[cO,if_pos h];rfl
theorem Oj {l:List Int} {d:List Bool} {k:Int} {ys:List Int} (ok:pA l.length 15 d) (hk:0<=k/\k<d.length) (c:ys.length=(cO l 15 d k).length):(l.take (k*15).toNat++ys++l.drop ((k*15).toNat+ys.length)).length=l.length:=by
 have e:=D0 (n:=l.length) (per:=15) (k:=k) (by decide) hk.1 (by rw[←ok.d];exact hk.2)
 rw[CO hk] at c
 simp at c ⊢; omega
theorem dM.load {k:Nat} {aQ:Bool} {ys:List Int} (ok:dM n M) (hk:k<(M.cW aQ).length) (g:ys.length=(cO (M.fq aQ) 15 (M.cW aQ) k).length):dM n (M.load aQ k ys):=by
 have key:=Oj (ok.cW aQ) (k:=(k:Int)) ⟨by omega,by omega⟩ g
 rw[show((k:Int)*15).toNat=k*15 by omega] at key
 have f:∀{l:List Int} {d:List Bool} {c:List Int},pA l.length 15 d->c.length=l.length->pA c.length 15 (d.set k false):=λok e=>by
  rw[e];exact⟨ok.n1,ok.n2,ok.p1,ok.p2,by rw[List.length_set];exact ok.d⟩
 cases aQ with
 |false=>exact⟨f ok.p0 key,ok.p1,key.trans ok.n0,ok.n1,ok.xG,ok.CN⟩
 |true=>exact⟨ok.p0,f ok.p1 key,ok.n0,key.trans ok.n1,ok.xG,ok.CN⟩
theorem KU {aQ:Bool} {k:Nat} {x:Sl} {ys:List Int} {Q:Bool->PH->Prop} (h:aA H (aC B::(dR s0 t0 s1 t1 M++R))) (r:qI B a b o s0 t0 s1 t1) (ok:dM n M)
 (hk:k<(M.cW aQ).length) (T:b9 E B x ys) (S:ys.length=(cO (M.fq aQ) 15 (M.cW aQ) k).length) (hr:∀y∈ys,(if aQ then -1 else 0)<=y/\y<=4095)
 (W:∀H',aA H' (aC B::(dR s0 t0 s1 t1 (M.load aQ k ys)++R))->Q true H'):pV (some a) aQ k x H Q:=by
 have ac:0<(cO (M.fq aQ) 15 (M.cW aQ) (k:Int)).length:=by
  have J:=D0 (n:=(M.fq aQ).length) (per:=15) (k:=k) (by decide) (by omega) (by rw[←(ok.cW aQ).d];omega)
  rw[CO ⟨by omega,by omega⟩];simp;omega
 have ad:ys.length<=15:=by rw[S,CO ⟨by omega,by omega⟩];simp;omega
 have Y:=T.bF
 have fin:∀H1 f,aA H1 (aC B::(dR s0 t0 s1 t1 M++R))->b9 E B f ys->hZ (some (if aQ then o else b)) k f H1 λA p=>Q A p:=λH1 f g K=>by
  have C:(0<=(k:Int)/\(k:Int)<(M.cW aQ).length)/\ys.length=(cO (M.fq aQ) 15 (M.cW aQ) k).length:=⟨⟨by omega,by omega⟩,S⟩
  have e1:wI 15 (M.fq aQ) (M.cW aQ) k ys=(M.fq aQ).take (k*15)++ys++(M.fq aQ).drop (k*15+ys.length):=by
   rw[wI,if_pos C,show((k:Int)*15).toNat=k*15 by omega]
  have e2:zh 15 (M.fq aQ) (M.cW aQ) k ys=(M.cW aQ).set k false:=by rw[zh,if_pos C,Int.toNat_natCast]
  cases aQ with
  |false=>
   refine Ej (ys:=ys) g (r.ext g.base).rb 1 2 rfl rfl (by decide) ok.p0 (λH' e=>(r.ext (e:aA H' (aC B::_)).base).rb) (K.ext g.base) λH' e=>?_
   rw[show decide ((0<=(k:Int)/\(k:Int)<M.d0.length)/\ys.length=(cO M.l0 15 M.d0 k).length)=true from decide_eq_true C]
   refine W H' ?_
   rw[show wI 15 M.l0 M.d0 k ys=_ from e1,show zh 15 M.l0 M.d0 k ys=_ from e2] at e
   exact e
  |true=>
   refine Ej (ys:=ys) g (r.ext g.base).ro 3 4 rfl rfl (by decide) ok.p1 (λH' e=>(r.ext (e:aA H' (aC B::_)).base).ro) (K.ext g.base) λH' e=>?_
   rw[show decide ((0<=(k:Int)/\(k:Int)<M.d1.length)/\ys.length=(cO M.l1 15 M.d1 k).length)=true from decide_eq_true C]
   refine W H' ?_
   rw[show wI 15 M.l1 M.d1 k ys=_ from e1,show zh 15 M.l1 M.d1 k ys=_ from e2] at e
   exact e
 refine fY (r.ext h.base) ?_
 have cR:∀(P:Sl->PH->Prop),(∀q H',aA H' (aC B::aW E q (cO (M.fq aQ) 15 (M.cW aQ) k)::(dR s0 t0 s1 t1 M++R))->P q H')->hG (some (if aQ then o else b)) k H P:=λP I=>by
  cases aQ with
  |false=>exact pI (r.ext h.base).rb (h.get 1 rfl) (h.list (enc:=Value.bool) 2 rfl).bF ok.p0 λq H' e=>I q H' (h.made e)
  |true=>exact pI (r.ext h.base).ro (h.get 3 rfl) (h.list (enc:=Value.bool) 4 rfl).bF ok.p1 λq H' e=>I q H' (h.made e)
 refine cR _ λy4 H1 g=>?_
 have Z:(y4.len:Int)=ys.length:=by rw[(g.list (enc:=E) 1 rfl).bF,S]
 have V:=g.ak
 rw[Z,Y]
 refine aF (aE (beq_eq_false_iff_ne.2 (by omega)) (aE (decide_eq_false (by omega)) (aF ?_)))
 have main:∀v:Int,v=(if aQ then -1 else 0)->kG x 1 0 (ys.length:Int) λw=>
  bp (λ(z:Int) (j:PH) (m:Int->PH->Prop)=>
   aJ (decide (z<(w.len:Int)))
   (bX w 1 z λU=>aH (.int .i64) j U λO=>
    aM (λ(ab:Bool) (D:PH)=>aJ ab (Q false D) (m (IntKind.wrap .i64 (z+1)) D))
    λN=>aJ (decide (O<v)) (N true j) (N (decide (4096<=O)) j))
   (kG x 1 0 (ys.length:Int) λf=>hZ (some (if aQ then o else b)) k f j λA p=>Q A p))
  0 H1:=λv hv=>by
  refine ni T (by omega) (by omega) (by omega) λw u _=>?_
  have F:(ys.drop (0:Int).toNat).take ((ys.length:Int).toNat-(0:Int).toNat)=ys:=by simp
  rw[F] at u
  refine ax ys.length (λi st Hk=>st=(i:Int)/\Hk=H1) ⟨rfl,rfl⟩ ?_
  rintro i st H2 again hi ⟨rfl,rfl⟩ X
  rw[u.bF]
  refine aL (λc=>?_) (λc=>?_)
  ·have J:i<ys.length:=by simpa using c
   refine eJ (u.ext g.base) (by omega) (by omega) λy hy=>?_
   have aa:=hr y (List.mem_of_getElem? hy)
   rw[←hv] at aa
   rw[bH (by omega)]
   exact aF (aE (decide_eq_false (by omega)) (aE (decide_eq_false (by omega)) (X J _ _ ⟨rfl,rfl⟩)))
  ·refine ni T (by omega) (by omega) (by omega) λf G _=>?_
   rw[F] at G
   exact fin H2 f V G
 exact aL (λc=>main (-1) (by rw[c];rfl)) (λc=>main 0 (by rw[c];rfl))
end
end Ig
end
section
namespace Ig
open Go Go.Kx KM
section
variable {H B:PH} {R L:List Ob} {a b o c0:Addr} {s0 t0 s1 t1:Sl} {M:Im} {n:Nat}
theorem I9 {Q:Value->PH->Prop} (h:aA H (aC B::L)) (e:∀c0 c H',Ext B c->aZ c c0 [.pointer (some a)]->aA H' (aC c::L)->Q (.func (.func 191) #[] #[.pointer (some c0)]) H'):mJ (some a) H Q:=
 fM h λa c H' f r d=>e a c H' f r d
theorem DN {γ:Type} {yv:Value} {Y:List Value->γ->PH->(Nat->γ->PH->Prop)->Prop} {g0:γ} {Q:Nat->γ->PH->Prop} (J:List (Int×Int)->γ->PH->List Ob->Prop)
 (h:aA H (aC B::(dR s0 t0 s1 t1 M++R))) (r:qI B a b o s0 t0 s1 t1) (ok:dM n M) (ad:aZ B c0 [.pointer (some a)])
 (hJ:∀l m A' d N,Ext A' d->J l m A' N->J l m d N) (h0:J [] g0 B R)
 (step:∀pre x m q O F K,pre.length<=200->Ext B q->J pre m q O->aA F (aC q::(dR s0 t0 s1 t1 M++O))->
  (∀E f w C,Ext q f->J (pre++[x]) E f w->aA C (aC f::(dR s0 t0 s1 t1 M++w))->K 0 E C)->Y [.int .i64 x.1,.int .i64 x.2] m F K)
 (fin:∀m q O F,Ext B q->J M.refs m q O->aA F (aC q::(dR s0 t0 s1 t1 M++O))->Q 0 m F):qU c0 yv Y g0 H Q:=by
 have hn:=ok.xG
 refine fM h λa1 q H1 p r1 D=>au (x:=some a) ((ad.ext p).ext D.base) (fY (aQ:=false) ((r.ext p).ext D.base) (fM D λac B2 F A rc h2=>?_))
 refine jY _ _ _ _ _ (xr (a:=b) (s:=s0) (t:=t0) (per:=15) n (λ_=>M.l0)
  (λk g u=>g.1=0/\∃d v,Ext B2 d/\J (vd M.l0 M.l1 k) g.2 d v/\aA u (aC d::(dR s0 t0 s1 t1 M++v))) (by omega) (λ_=>ok.n0) ?_ ⟨rfl,B2,R,.refl _,hJ _ _ _ _ _ (p.trans A) h0,h2⟩ ?_ ?_)
 ·rintro k g u ⟨_,d,v,z,_,hk⟩
  exact⟨by have:=((rc.ext z).ext hk.base).cell (i:=0) rfl;rwa[add_zero'] at this,((r.ext (p.trans (A.trans z))).ext hk.base).rb,hk.list 1 rfl⟩
 ·rintro k ⟨j,m⟩ u K x an ⟨P,d,v,z,G,hk⟩ hx Z _
  simp only at P G;subst P
  have U:=p.trans (A.trans z)
  have ak:dz M.l0 k=x:=yg (by omega) (by have:=ok.n0;omega) (by rw[Int.toNat_natCast];exact hx)
  refine⟨_,_,rfl,au (x:=some a) ((ad.ext U).ext hk.base) (aD (aa (x:=some o) ((r.ext U).ext hk.base).im rfl ?_))⟩
  have ai:∀Q2:Int->Bool->PH->Prop,Q2 (dz M.l1 k) true u->fV (some o) k u Q2:=λQ2 ab=>
   cZ ((r.ext U).ext hk.base).ro (hk.list 3 rfl) (λy h0 D hy=>by rw[yg h0 D hy] at ab;exact ab) (λhh=>absurd ⟨by omega,by have:=ok.n1;omega⟩ hh)
  refine ai _ ?_
  have ah:∀{f C},Ext d f->Ext f C->aZ C a1 [yv]:=λx y=>((r1.ext (A.trans z)).ext x).ext y
  refine pF (λs H'=>s.1=false/\s.2.1=0/\∃f w,Ext d f/\J (vd M.l0 M.l1 k++rp k x) s.2.2 f w/\aA H' (aC f::(dR s0 t0 s1 t1 M++w))) ?_ λk' af=>?_
  ·rintro⟨sb,sj,aj⟩ C ⟨e1,e2,f,w,V,S,h3⟩
   simp only at e1 e2 S;subst e1;subst e2
   refine pF (λs H'=>s.1=false/\s.2.1=0/\∃I X,Ext f I/\J (vd M.l0 M.l1 (k+1)) s.2.2 I X/\aA H' (aC I::(dR s0 t0 s1 t1 M++X))) ?_ λk2 ag=>?_
   ·rintro⟨sb,sj,am⟩ H4 ⟨e1,e2,I,X,al,ae,h4⟩
    simp only at e1 e2 ae;subst e1;subst e2
    exact aE rfl (Z _ _ ⟨rfl,I,X,z.trans (V.trans al),ae,h4⟩)
   ·have er:∀{l},rp k (dz M.l1 k)=l->vd M.l0 M.l1 (k+1)=vd M.l0 M.l1 k++rp k x++l:=λe=>by rw[vd,ak,e]
    refine aE rfl (aF (aL (λc=>?_) (λc=>ag _ _ ⟨rfl,rfl,f,w,.refl _,?_,h3⟩)))
    ·refine au (en:=id) (x:=yv) (ah V h3.base) ⟨rfl,rfl,?_⟩
     refine step (vd M.l0 M.l1 k++rp k x) ((k:Int),dz M.l1 k) aj f w C _ (by have D:=Gh M.l0 M.l1 k;have h2:=Gg k x;rw[List.length_append];omega) (U.trans V) S h3 λE B5 R5 H5 W T h5=>ag _ _ ⟨rfl,rfl,B5,R5,W,?_,h5⟩
     rw[er (by rw[rp,if_pos (by simpa using c)])];exact T
    ·rw[er (by rw[rp,if_neg (by simpa using c)]),List.append_nil];exact S
  ·refine aL (λc=>?_) (λc=>af _ _ ⟨rfl,rfl,d,v,.refl _,?_,hk⟩)
   ·refine au (en:=id) (x:=yv) (ah (.refl _) hk.base) ⟨rfl,rfl,?_⟩
    refine step (vd M.l0 M.l1 k) ((k:Int),x) m d v u _ (by have D:=Gh M.l0 M.l1 k;omega) U G hk λE B5 R5 H5 W T h5=>af _ _ ⟨rfl,rfl,B5,R5,W,?_,h5⟩
    rw[rp,if_pos (by simpa using c)];exact T
   ·rw[rp,if_neg (by simpa using c),List.append_nil];exact G
 ·rintro⟨j,m⟩ u ⟨P,d,v,z,G,hk⟩
  simp only at P G;subst P
  refine aE rfl (fin m d v u (p.trans (A.trans z)) ?_ hk)
  rw[Im.refs,ok.n0];exact G
theorem Hn {Q:PH->Prop} (h:aA H (aC B::(dR s0 t0 s1 t1 M++R))) (r:qI B a b o s0 t0 s1 t1) (f:∀H',aA H' (aC B::(dR s0 t0 s1 t1 M.clean++R))->Q H'):oL (some a) H Q:=by
 refine fY (aQ:=false) (r.ext h.base) (ae rfl (aD (aa (x:=t0) (r.ext h.base).rb rfl (IM (enc:=Value.bool) (x:=false) h 2 rfl λH1 c=>?_))))
 have c:aA H1 (aC B::(dR s0 t0 s1 t1 {M with d0:=List.replicate M.d0.length false}++R)):=c
 refine fY (aQ:=true) (r.ext c.base) (ae rfl (aD (aa (x:=t1) (r.ext c.base).ro rfl (IM (enc:=Value.bool) (x:=false) c 4 rfl λd e=>?_))))
 exact f d e
end
end Ig
end
section
namespace Us
open Go Go.Kx KM Ge
section
variable {H:PH} {L:List Ob} {a:Addr} {p:Option Addr} {s t:Sl} {l:List cz} {v:List Int}
theorem D7 {γ:Type} {c0:Addr} {Y:List Value->γ->PH->(Nat->γ->PH->Prop)->Prop} {h:γ} {Q:Nat->γ->PH->Prop} (I:Nat->γ->PH->Prop) (D:l.length< 2 ^ 40)
 (o:∀k g H,I k g H->cellAt H c0=some (.pointer (some a))/\aZ H a (gV p s t)/\dT bQ 2 H s l) (n:I 0 h H)
 (skip:∀k g H,k<l.length->I k g H->((l.getD k (0,0)).1==2)=false->I (k+1) g H)
 (step:∀k g H K,k<l.length->I k g H->((l.getD k (0,0)).1==2)=true->(∀d H',I (k+1) d H'->K 0 d H')->(∀j d H',j≠0->Q j d H'->K j d H')->Y [.int .i64 k] g H K)
 (fin:∀g H,I l.length g H->Q 0 g H):ov c0 Y h H Q:=by
 obtain⟨i,B,l0⟩:=o _ _ _ n
 refine⟨some a,i,aE rfl ⟨some a,i,aD (aa (x:=s) B rfl ?_)⟩⟩
 rw[l0.bF]
 refine ax l.length (λk st w=>∃g,st=((k:Int),(0,g))/\I k g w) ⟨h,rfl,n⟩ ?_
 rintro k st H1 again hk ⟨g,rfl,hi⟩ f
 obtain⟨e1,C,l1⟩:=o _ _ _ hi
 refine aL (λc=>?_) (λc=>?_)
 ·have e:k<l.length:=by simpa using c
  have m:=bH (k:=k) (by omega)
  refine⟨some a,e1,aD (aa (x:=s) C rfl (ob l1 (by simp) (by simpa using e) λb x u y=>Ss y ?_))⟩
  rw[Int.toNat_natCast] at u
  have q:l.getD k (0,0)=x:=by simp[List.getD,u]
  rw[←q]
  refine aF (aL (λc1=>⟨rfl,?_⟩) (λc1=>aE rfl ?_))
  ·refine step k g H1 _ e hi c1 (λd H' r=>aE rfl ?_) (λj d H' z A=>ae (by simpa using z) A)
   rw[m];exact f e _ _ ⟨d,rfl,r⟩
  ·rw[m];exact f e _ _ ⟨g,rfl,skip k g H1 e hi c1⟩
 ·have:k=l.length:=by simp at c;omega
  subst this
  exact fin g H1 hi
theorem Mg {H B:PH} {L:List Ob} {p:Option Addr} {c:bC} {x:Sl} {ul:List cz} {Q:Option Addr->PH->Prop} (h:aA H (aC B::L)) (k:Gm H p c) (e:bg c) (m:dT bQ 2 H x ul) (d:ul=[]∨(ul.length:Int)=c.2.1) (g:∀u,u∈ul->xp u=true)
 (i:∀b a s t H',Ext B b->aZ b a (gV p s t)->aA H' (aC b::(L++[aq bQ 2 s (Fu c.2.1.toNat ul),aW (Value.int .i64) t (List.replicate c.2.1.toNat 0)]))->Q (some a) H'):vI p x H Q:=by
 have f:ul.length< 2 ^ 40:=by
  have:=e.2.2.2.1
  rcases d with h|h
  ·subst h;decide
  ·omega
 refine MW k e m f (λj=>absurd ⟨d,g⟩ j) λ_ _ a s t H1 k1=>?_
 have k2:=h.aQ k1
 have k3:aA H1 (aC B::(L++[aq bQ 2 s (Fu c.2.1.toNat ul),aW (Value.int .i64) t (List.replicate c.2.1.toNat 0)])++[aG a (gV p s t)]):=by simpa using k2
 obtain⟨b,o,rb,n⟩:=k3.freeze
 exact i b a s t H1 o rb n
end
end Us
end
section
namespace Mo
open Go Go.Kx KM Rw Cr Ds Ge Rc Sc Rg
abbrev xv:=KM.Stat
abbrev cX (x:xv):List Value:=[i64 x.1,i64 x.2.1,i64 x.2.2.1,i64 x.2.2.2.1,i64 x.2.2.2.2.1,i64 x.2.2.2.2.2.1,i64 x.2.2.2.2.2.2.1,i64 x.2.2.2.2.2.2.2.1,i64 x.2.2.2.2.2.2.2.2.1,i64 x.2.2.2.2.2.2.2.2.2]
def lP:xv:=(0,0,0,0,0,0,0,0,0,0)
def dp:Pos:=(0,0,0,0,0)
abbrev iE (d g:Option Addr) (sb:Pos) (r:sY) (slot:Int) (t m:Option Addr) (st:xv) (e:Pos):List Value:=
 [.pointer d,.pointer g,i64 sb.1,i64 sb.2.1,i64 sb.2.2.1,i64 sb.2.2.2.1,i64 sb.2.2.2.2,i64 r.1,i64 r.2.1,i64 r.2.2.1,i64 r.2.2.2.1,i64 r.2.2.2.2.1,i64 r.2.2.2.2.2.1,i64 r.2.2.2.2.2.2.1,i64 r.2.2.2.2.2.2.2.1,i64 r.2.2.2.2.2.2.2.2.1,i64 r.2.2.2.2.2.2.2.2.2.1,i64 r.2.2.2.2.2.2.2.2.2.2.1,Sl.v r.2.2.2.2.2.2.2.2.2.2.2.1,Sl.v r.2.2.2.2.2.2.2.2.2.2.2.2.1,Sl.v r.2.2.2.2.2.2.2.2.2.2.2.2.2,i64 slot,.pointer t,.pointer m,
  i64 st.1,i64 st.2.1,i64 st.2.2.1,i64 st.2.2.2.1,i64 st.2.2.2.2.1,i64 st.2.2.2.2.2.1,i64 st.2.2.2.2.2.2.1,i64 st.2.2.2.2.2.2.2.1,i64 st.2.2.2.2.2.2.2.2.1,i64 st.2.2.2.2.2.2.2.2.2,i64 e.1,i64 e.2.1,i64 e.2.2.1,i64 e.2.2.2.1,i64 e.2.2.2.2]
theorem add_add {H:PH} {a:Addr} {cs:List Value} (h:aZ H a cs) (i j:Nat):(a.add i).add j=a.add (i+j):=by
 rw[h.addr,eW,eW,eW,Nat.zero_add,Nat.zero_add]
section
variable {H B:PH} {L:List Ob} {k:Nat} {A:DA} {D:Dk} {c:bC} {fa:Addr} {g t m:Option Addr} {sb e:Pos} {r:sY} {slot:Int} {st:xv}
theorem Ok {a b:Bs} {x:bC×Int×Int} {s:Int} (h:cY a b=some (x,s)):eG x.1 x.2.1 x.2.2=true:=by
 have key:∀{b:Bs} {y:bC×Int×Int},gT b=some y->eG y.1 y.2.1 y.2.2=true:=λ{b y} d=>by
  simp only[gT] at d
  split at d
  ·next f=>
   cases d
   simp only[Bool.and_eq_true] at f
   exact f.1
  ·cases d
 unfold cY at h
 split at h
 ·next d i=>split at h<;>cases h;exact key d;exact key i
 ·next d i=>cases h;exact key d
 ·next d i=>cases h;exact key i
 ·cases h
theorem uC {id aO s:Int} {Q:Int->PH->Prop} (h:aA H (aC B::aG fa (iE (some A.a) none dp fN 0 none none lP dp)::av A D::L)) (ok:cM k D) (hk:k< 2 ^ 29)
 (y:cY (D.sec 0) (D.sec 1)=some ((c,id,aO),s)) (hn:all c<=D.now.length)
 (O:∀g p H',Ext B p->Gm p g c->aA H' (aC p::aG fa (iE (some A.a) g (Su.sup c id aO) fN 0 none none lP dp)::av A D::L)->Q 0 H'):nF (some fa) H Q:=by
 have z:=Ok y
 have n:bg c:=(Su.jF z).1
 have P:=jo.pB n
 have U:=m8 n
 refine aD (aY (x:=some A.a) h 1 rfl rfl (jo.Be h.swap ok hk (by omega) λq V H1 C s0 s1 J=>?_))
 refine az J.swap λa8 W K=>bf (vs:=jo.s2 q) K rfl rfl λX d=>AZ d λF l o d=>aE rfl ?_
 have o:=o.ext d.base
 have l0:=o0 ok (at_:=0) (by omega)
 have l1:=o0 ok (at_:=1) (by omega)
 refine ic (by omega) (by omega) (aa (x:=q.1) o rfl (ic (by omega) (by omega) (aa (x:=q.2) o rfl ?_)))
 refine Su.choose_spec ((s0.ext l).ext d.base) ((s1.ext l).ext d.base) l0 l1 (sB ok (by omega)) (sB ok (by omega)) λY S=>?_
 have M:=d.ext S
 rw[y]
 refine aD (uq (iE (some A.a) none (Su.sup c id aO) fN 0 none none lP dp) M 1 rfl (by simp) rfl rfl λv f=>aE rfl ?_)
 have f:aA v (aC F::aG fa (iE (some A.a) none (Su.sup c id aO) fN 0 none none lP dp)::av A D::L):=f
 have R:aZ v fa _:=f.get 1 rfl
 refine aD ?_
 rw[add_add R]
 refine nX (en:=tw) (x:=c) f 1 rfl (by simp) rfl ?_
 refine Oc (c:=c) f n λg u Z E w N=>aD (cB (j:=1) N 1 rfl (by simp) rfl λG b=>?_)
 have b:aA G (aC u::aG fa (iE (some A.a) g (Su.sup c id aO) fN 0 none none lP dp)::av A D::L):=b
 refine aD (aY (x:=some A.a) b 1 rfl rfl (aD (aY (x:=g) b 1 rfl rfl (Eb (i:=1) b rfl (cw b 1 rfl rfl (zW (w.ext b.base) n λI T=>aE (decide_eq_false (by omega)) ?_))))))
 exact O g u I (C.trans (l.trans E)) w (b.ext T)
theorem tR {at':Int} {n:Nat} {Q:Sl->Int->PH->Prop} (h:aA H (aC B::aG fa (iE (some A.a) g sb r slot t m st e)::av A D::L)) (ok:cM k D) (hk:k< 2 ^ 29) (M:0<=at') (T:at'+n<=D.now.length)
 (K:∀q b H',Ext B b->Bytes b q (D.gw at' n)->aA H' (aC b::aG fa (iE (some A.a) g sb r slot t m st e)::av A D::L)->Q q 0 H'):oB (some fa) at' n H Q:=by
 have N:=ok.now
 refine ax n (λi s I=>s.2=(i:Int)/\∃b,Ext B b/\aA I (aC b::aW u8 s.1 (D.gw at' i)::aG fa (iE (some A.a) g sb r slot t m st e)::av A D::L)) ⟨rfl,B,.refl _,zU h⟩ ?_
 rintro i ⟨s,_⟩ H1 again hi ⟨o,P,f,d⟩ u
 simp only at o d;subst o
 refine aL (λc1=>?_) (λc1=>?_)
 ·have w:i<n:=by simpa using c1
  rw[bo (x:=at'+(i:Int)) (by omega) (by omega)]
  refine aD (aY (x:=some A.a) d 2 rfl rfl (w9 (i:=2) d rfl ok hk ⟨by omega,by omega⟩ λy R j=>aE rfl (gX j λG E l p=>?_)))
  have z:=w6 ok i at' (by omega) (by omega)
  have v:=o0 ok (at_:=at'+(i:Int)) (by omega)
  refine qY p 1 rfl (l.ext p.base) MI rfl (by rw[z,v];omega) λO S J=>?_
  rw[bH (by omega)]
  refine u w _ _ ⟨rfl,G,f.trans E,?_⟩
  rw[AX]
  exact J
 ·have:i=n:=by simp at c1;omega
  subst this
  exact gX d λF C l j=>K _ F H1 (f.trans C) l j
abbrev Ak (r:jZ):xv:=(r.mode,r.view,r.aV,r.seq,r.done,0,r.gen,0,0,0)
theorem qP {a0:Bs} {sl:Int} {rg:jZ} {Q:Int->PH->Prop} (h:aA H (aC B::aG fa (iE (some A.a) g sb fN 0 none none lP dp)::av A D::L)) (ok:cM k D) (hk:k< 2 ^ 29) (O:Gm B g c) (o:bg c) (hn:all c<=D.now.length)
 (hr:kh c (D.gw (bN c 0) (cD c).toNat) (D.gw (bN c 1) (cD c).toNat)=some (rg,sl)) (an:iU c rg=true)
 (hQ:∀x ta s t ia ib io s0 t0 s1 t1 f H',Ext B f->uD f x rg->aZ f ta (Us.gV g s t)->Ig.qI f ia ib io s0 t0 s1 t1->
  aA H' (aC f::(Ig.dR s0 t0 s1 t1 (vj c.1.toNat)++(aG fa (iE (some A.a) g sb x sl (some ta) (some ia) (Ak rg) dp)::av A D::aq Us.bQ 2 s rg.cG::aW i64 t (List.replicate c.2.1.toNat 0)::L)))->Q 0 H'):mf (some fa) H Q:=by
 have aU:=kT o
 have aw:=jo.pB o
 have aT:=gE o
 have aS:base c=2+2*(cD c+2*cR c):=rfl
 obtain⟨aM,aN,aO,aP,aQ,aR⟩:=id o
 obtain⟨nl,ad⟩:=Int.eq_ofNat_of_zero_le (show 0<=cD c by omega)
 have w:(cD c).toNat=nl:=by omega
 rw[w] at hr
 have ae:bN c 0=2:=by simp[bN]
 have af:bN c 1=2+cD c:=by simp[bN]
 refine az h λa1 H1 h1=>?_
 refine ax 2 (λi st Hk=>st=(i:Int)/\∃f x,Ext B f/\(1<=i->Bytes f x.1 (D.gw (bN c 0) nl))/\(2<=i->Bytes f x.2 (D.gw (bN c 1) nl))/\aA Hk (aC f::aG a1 (jo.s2 x)::aG fa (iE (some A.a) g sb fN 0 none none lP dp)::av A D::L)) ⟨rfl,B,(Sl.nil,Sl.nil),.refl _,λh=>absurd h (by omega),λh=>absurd h (by omega),h1⟩ ?_
 rintro i st H2 again hi ⟨rfl,f,x,K,Z,ao,l⟩ V
 refine aL (λc1=>?_) (λc1=>?_)
 ·have X:i< 2:=by simp at c1;omega
  refine aD (aY (x:=g) l 2 rfl rfl (aD (aY (x:=g) l 2 rfl rfl (Ge.qP ((O.ext K).ext l.base) o (by omega) (cw l 2 rfl rfl (tT ((O.ext K).ext l.base) o ?_))))))
  rw[ad]
  have al:=l.perm (L':=aC f::aG fa (iE (some A.a) g sb fN 0 none none lP dp)::av A D::aG a1 (jo.s2 x)::L) (.cons _ ((List.Perm.swap _ _ _).trans (.cons _ (.swap _ _ _))))
  have back:∀{H' f cs} {y:jo.S2},aA H' (aC f::aG fa cs::av A D::aG a1 (jo.s2 y)::L)->aA H' (aC f::aG a1 (jo.s2 y)::aG fa cs::av A D::L):=λh=>h.perm (.cons _ ((List.Perm.cons _ (.swap _ _ _)).trans (.swap _ _ _)))
  have R:i=0∨i=1:=by omega
  have W:0<=bN c (i:Int)/\bN c (i:Int)+nl<=D.now.length:=by
   rcases R with rfl|rfl
   ·rw[show((0:Nat):Int)=0 from rfl,ae];omega
   ·rw[show((1:Nat):Int)=1 from rfl,af];omega
  refine Mo.tR al ok hk W.1 W.2 λq F H3 p hq G=>aE rfl ?_
  have G:=back G
  rw[bH (by omega)]
  refine⟨_,⟨by omega,by simpa using c1,rfl⟩,?_⟩
  rw[Nat.mul_one,Int.toNat_natCast]
  rcases R with rfl|rfl
  ·refine cB (j:=0) G 1 rfl (by simp) rfl λH4 N=>V X _ _ ⟨rfl,F,(q,x.2),K.trans p,λ_=>hq,λh=>absurd h (by omega),N⟩
  ·refine cB (j:=1) G 1 rfl (by simp) rfl λH4 N=>V X _ _ ⟨rfl,F,(x.1,q),K.trans p,λ_=>(Z (by omega)).ext p,λ_=>hq,N⟩
 ·have:i=2:=by simp at c1;omega
  subst this
  refine aF (aD (aY (x:=g) l 2 rfl rfl (ic (by omega) (by omega) (aY (x:=x.1) l 1 rfl rfl (ic (by omega) (by omega) (aY (x:=x.2) l 1 rfl rfl ?_))))))
  refine Rg.choose_spec l (O.ext K) o (Z (by omega)) (ao (by omega)) (by rw[w];exact w6 ok nl _ (by omega) (by omega)) (by rw[w];exact w6 ok nl _ (by omega) (by omega)) (zQ ok nl _ (by omega) (by omega)) (zQ ok nl _ (by omega) (by omega)) (λb J am aX F H3 p ab G=>?_) (λY=>by rw[hr] at Y;cases Y)
  obtain⟨er,ek⟩:=Prod.mk.inj (Option.some.inj (am.symm.trans hr))
  subst er;subst ek
  obtain⟨d,so,ss,rfl,hS⟩:=ab
  have P:=parts an
  have S:Ext B F:=K.trans p
  refine az G.ak λM H4 N=>bf (vs:=dF (eC b d so ss)) N rfl rfl λH5 h5=>aE rfl (bk (x:=eC b d so ss) h5 rfl rfl ?_)
  refine aD (uq (iE (some A.a) g sb (eC b d so ss) 0 none none lP dp) h5 2 rfl (by simp) rfl rfl λH6 h6=>aD (cB (j:=21) h6 2 rfl (by simp) rfl λH7 n=>?_))
  have n:aA H7 (aC F::aG M (dF (eC b d so ss))::aG fa (iE (some A.a) g sb (eC b d so ss) J none none lP dp)::av A D::L):=n
  refine ay (x:=b.mode) n rfl (ay (x:=b.view) n rfl (ay (x:=b.aV) n rfl (ay (x:=b.seq) n rfl (ay (x:=b.done) n rfl (ay (x:=b.gen) n rfl (aD (uq (iE (some A.a) g sb (eC b d so ss) J none none (Ak b) dp) n 2 rfl (by simp) rfl rfl λH8 I=>?_)))))))
  have I:aA H8 (aC F::aG M (dF (eC b d so ss))::aG fa (iE (some A.a) g sb (eC b d so ss) J none none (Ak b) dp)::av A D::L):=I
  refine aD (aY (x:=g) I 2 rfl rfl (ay (en:=Sl.v) (x:=ss) I rfl (aD (aY (x:=g) I 2 rfl rfl ?_))))
  have h9:=I.ak
  refine Us.Mg h9 ((O.ext S).ext h9.base) o (show dT Us.bQ 2 H8 ss b.cG from hS.cG.ext h9.base) (.inr P.cG) (λu hu=>?_) λaB ta s t aH z ar E=>?_
  ·have:=P.us u hu
   simp only[Us.xp,Bool.and_eq_true,decide_eq_true_eq];omega
  ·have aa:Fu c.2.1.toNat b.cG=b.cG:=by
    rw[Fu,List.drop_eq_nil_of_le (by simp;have:=P.cG;omega),List.append_nil]
   rw[aa] at E
   refine cw E 1 rfl rfl (lH ((O.ext (S.trans z)).ext E.base) λaI au=>?_)
   have ac:c.1=(c.1.toNat:Int):=by omega
   rw[ac]
   refine Ig.Me (E.ext au) (by omega) λT ia ib io s0 t0 s1 t1 aJ C ap ag=>?_
   refine aD (cB (j:=22) ag 1 rfl (by simp) rfl λaK ah=>aD (cB (j:=23) ah 1 rfl (by simp) rfl λU ai=>?_))
   refine hQ (eC b d so ss) ta s t ia ib io s0 t0 s1 t1 T U (S.trans (z.trans C)) ⟨d,so,ss,rfl,hS.ext (z.trans C)⟩ (ar.ext C) ap ?_
   have aj:aA U (aC T::((aG fa (iE (some A.a) g sb (eC b d so ss) J (some ta) (some ia) (Ak b) dp)::av A D::L)++([aq Us.bQ 2 s b.cG,aW i64 t (List.replicate c.2.1.toNat 0)]++Ig.dR s0 t0 s1 t1 (vj c.1.toNat)))):=by
    rw[←List.append_assoc];exact ai
   refine aj.perm (.cons _ ?_)
   have e:(aG fa (iE (some A.a) g sb (eC b d so ss) J (some ta) (some ia) (Ak b) dp)::av A D::L)++([aq Us.bQ 2 s b.cG,aW i64 t (List.replicate c.2.1.toNat 0)]++Ig.dR s0 t0 s1 t1 (vj c.1.toNat))=([aG fa (iE (some A.a) g sb (eC b d so ss) J (some ta) (some ia) (Ak b) dp),av A D]++(L++[aq Us.bQ 2 s b.cG,aW i64 t (List.replicate c.2.1.toNat 0)]))++Ig.dR s0 t0 s1 t1 (vj c.1.toNat):=by simp
   rw[e]
   refine List.perm_append_comm.trans (.append_left _ ?_)
   exact .cons _ (.cons _ (List.perm_append_comm (l₁:=L)))
end
end Mo
end
end Go.Proofs.YtbijlklgbfminaaGreat
section
namespace KM
theorem Gi {α:Type} {p:Prop} [Decidable p] {a:Option α} {b:α} (h:(if p then a else none)=some b):p/\a=some b:=by
 by_cases d:p
 ·rw[if_pos d] at h;exact⟨d,h⟩
 ·rw[if_neg d] at h;cases h
def Gj (c:bC) (aQ:Bool) (k:Nat) (M:Im) (a:Im->Option Im):Option (List Int)->Option Im
 |none=>none
 |some refs=>if(refs.take (cO (M.fq aQ) 15 (M.cW aQ) k).length).all (λx=>CA c x||decide (x< 1))&&((refs.take (cO (M.fq aQ) 15 (M.cW aQ) k).length).all (λx=>bE x (if aQ then -1 else 0) 4095)) then a (M.load aQ k (refs.take (cO (M.fq aQ) 15 (M.cW aQ) k).length)) else none
theorem Mh (c:bC) (D:Dk) (aQ:Bool) (k:Nat) (x:Int) (l:List Int) (M:Im):ft c D aQ k (x::l) M=Gj c aQ k M (ft c D aQ (k+1) l) (ru (D.sec (gC c aQ k x))):=by
 show(match ru (D.sec (gC c aQ k x)) with|none=>none|some refs=>_)=_
 cases ru (D.sec (gC c aQ k x)) with
 |none=>rfl
 |some r=>rfl
theorem Gk (c:bC) (D:Dk) (aQ:Bool) (k:Nat) (M:Im):ft c D aQ k [] M=some M:=rfl
end KM
namespace Go.Proofs.YtbijlklgbfminaaGreat
namespace Mo
open Go Go.Kx KM Rw Cr Ds Ge Rc Sc Rg
section
variable {H B:PH} {L:List Ob} {k:Nat} {A:DA} {D:Dk} {c:bC} {fa a1:Addr} {g t m:Option Addr} {sb e:Pos} {r:sY} {slot:Int} {st:xv}
def zi (c:bC) (x:Int):Bool:=CA c x||decide (x< 1)
theorem Mj {x:Int} {Q:Bool->PH->Prop} (j:aZ H fa (iE (some A.a) g sb r slot t m st e)) (i:Gm H g c) (f:bg c) (d:∀H',Ext H H'->Q (zi c x) H'):oC (some fa) x H Q:=by
 refine aD (aa (x:=g) j rfl (C6 i f λH1 l=>?_))
 have q:=d H1 l
 split
 ·next b=>
  have e:CA c x=true:=by rw[CA,KM.bY];omega
  rw[zi,e] at q
  exact aF (ae rfl q)
 ·next b=>
  have e:CA c x=false:=by rw[CA,Bool.eq_false_iff];intro h;rw[KM.bY] at h;omega
  rw[zi,e] at q
  exact aF (aE rfl q)
theorem UF {x:Int} {K:Value->PH->Prop} (d:aZ H fa (iE (some A.a) g sb r slot t m st e)) (i:aZ H a1 [.pointer (some fa)]) (n:Gm H g c) (l:bg c) (j:∀H',Ext H H'->K (.bool (!zi c x)) H'):ue Tryz.prog (.func (.func 139) #[] #[.pointer (some a1)]) [i64 x] H K:=by
 refine⟨139,#[],#[.pointer (some a1)],rfl,cP Tryz.func139 rfl rfl,?_⟩
 have h:=xM (p0:=x) (c0:=a1) (H:=H) (Q:=λb H'=>Ext H H'/\b=(!zi c x)) (au (x:=some fa) i (Mj d n l λH' f=>⟨f,rfl⟩))
 exact dv.mono h λr H' d=>by
  obtain⟨b,rfl,f,rfl⟩:=d
  exact j H' f
theorem Ml {p:Sl} {l:List Int} {Q:Bool->PH->Prop} (i:fv H p l) (z:l.length< 2 ^ 40) (v:aZ H fa (iE (some A.a) g sb r slot t m st e)) (o:aZ H a1 [.pointer (some fa)]) (u:Gm H g c) (s:bg c)
 (d:∀x∈l,zi c x=true) (q:∀H',Ext H H'->Q false H'):cg p (.func (.func 139) #[] #[.pointer (some a1)]) H Q:=by
 unfold cg gA
 refine ax l.length (λk st n=>st=(k:Int)/\Ext H n) ⟨rfl,.refl H⟩ ?_
 rintro k st H1 again hk ⟨rfl,b⟩ f
 rw[i.bF]
 refine aL (λc=>?_) (λc=>q H1 b)
 have h:k<l.length:=by simpa using c
 refine eJ (i.ext b) (by omega) (by omega) λx j=>UF (v.ext b) (o.ext b) (u.ext b) s λy w=>⟨_,rfl,aE ?_ ?_⟩
 ·rw[Int.toNat_natCast] at j
  rw[d x (List.mem_of_getElem? j)];rfl
 ·rw[bH (by omega)]
  exact f h _ _ ⟨rfl,b.trans w⟩
theorem Ek {D:Dk} {aQ:Bool} {k:Nat} {x:Int} {l:List Int} {M b:Im} (h:ft c D aQ k (x::l) M=some b):
 ∃refs,ru (D.sec (gC c aQ k x))=some refs/\(∀y∈refs.take (cO (M.fq aQ) 15 (M.cW aQ) k).length,zi c y=true/\(if aQ then -1 else 0)<=y/\y<=4095)/\
  ft c D aQ (k+1) l (M.load aQ k (refs.take (cO (M.fq aQ) 15 (M.cW aQ) k).length))=some b:=by
 rw[Mh] at h
 generalize ru (D.sec (gC c aQ k x))=o at h ⊢
 cases o with
 |none=>cases h
 |some refs=>
  rw[Gj] at h
  obtain⟨a,h⟩:=Gi h
  simp only[Bool.and_eq_true,List.all_eq_true,KM.bY] at a
  exact⟨refs,rfl,λy d=>⟨a.1 y d,a.2 y d⟩,h⟩
theorem Gl {at':Int} (ok:cM k D) (a:bg c) (h:all c<=D.now.length) {aQ:Bool} {i:Nat} {x:Int} (hi:(i:Int)<cR c) (j:0<=x/\x<=1):0<=gC c aQ i x/\gC c aQ i x<D.now.length:=by
 have f:=kT a
 have b:=jo.pB a
 have d:base c=2+2*(cD c+2*cR c):=rfl
 simp only[gC]
 split<;>omega
theorem fB {aQ:Bool} {p:Sl} {b:List Int} {n:Nat} {ia ib io:Addr} {s0 t0 s1 t1:Sl} {M F:Im} {Q:Int->PH->Prop}
 (h:aA H (aC B::(Ig.dR s0 t0 s1 t1 M++(aG fa (iE (some A.a) g sb r slot t (some ia) st e)::av A D::L)))) (ok:cM k D) (hk:k< 2 ^ 29) (hg:Gm B g c) (N:bg c) (hn:all c<=D.now.length)
 (U:Ig.qI B ia ib io s0 t0 s1 t1) (ad:Ig.dM n M) (ai:((M.cW aQ).length:Int)=cR c) (hp:fv B p b) (ap:(b.length:Int)=cR c) (ae:∀x∈b,0<=x/\x<=1) (ah:ft c D aQ 0 b M=some F)
 (hQ:∀u H',Ext B u->Ig.dM n F->aA H' (aC u::(Ig.dR s0 t0 s1 t1 F++(aG fa (iE (some A.a) g sb r slot t (some ia) st e)::av A D::L)))->Q 0 H'):kZ (some fa) aQ p H Q:=by
 have am:=gE N
 refine fM h λa1 B1 H1 al r1 h1=>?_
 refine ax b.length (λi s Hk=>s=(i:Int)/\∃u d,Ext B1 u/\Ig.dM n d/\((d.cW aQ).length:Int)=cR c/\ft c D aQ i (b.drop i) d=some F/\aA Hk (aC u::(Ig.dR s0 t0 s1 t1 d++(aG fa (iE (some A.a) g sb r slot t (some ia) st e)::av A D::L))))
  ⟨rfl,B1,M,.refl _,ad,ai,by simpa using ah,h1⟩ ?_
 rintro i s H2 again hi ⟨rfl,B2,d,K,z,aj,f,v⟩ ag
 have C:=al.trans K
 rw[hp.bF]
 refine aL (λc1=>?_) (λc1=>?_)
 ·have J:i<b.length:=by simpa using c1
  refine eJ ((hp.ext C).ext v.base) (by omega) (by omega) λx O=>?_
  rw[Int.toNat_natCast] at O
  have aa:=ae x (List.mem_of_getElem? O)
  have hd:b.drop i=x::b.drop (i+1):=by
   rw[List.drop_eq_getElem_cons J];congr 1
   rw[List.getElem?_eq_getElem J] at O;exact Option.some.inj O
  rw[hd] at f
  obtain⟨refs,hrefs,T,Z⟩:=Ek f
  have I:=Gl (at':=0) ok N hn (aQ:=aQ) (i:=i) (x:=x) (by omega) aa
  have q:∀{u H'},Ext B2 u->Ext u H'->aZ H' a1 [.pointer (some fa)]:=λx y=>((r1.ext K).ext x).ext y
  refine au (x:=some fa) (q (.refl _) v.base) (aD (aY (x:=some A.a) v 5 rfl rfl (au (x:=some fa) (q (.refl _) v.base) (aD (aY (x:=g) v 5 rfl rfl ?_)))))
  refine pI ((hg.ext C).ext v.base) N ⟨by omega,by omega⟩ (by omega) λH3 x3=>?_
  have W:=v.ext x3
  refine cw W 5 rfl rfl (gd (q (.refl _) W.base) (w9 (i:=5) W rfl ok hk I λar H4 h4=>aE rfl (gX h4 λB5 j ab h5=>?_)))
  have hl:=o0 ok I
  have hb:=sB ok I
  refine Pa.gO (ab.ext h5.base) hl hb (λl R aw H6 af=>?_) (λS=>by rw[hrefs] at S;cases S)
  rw[hrefs] at R
  have el:=Option.some.inj R
  subst el
  refine aE rfl (gX (h5.made af) λB6 o ac X=>?_)
  refine au (x:=some fa) (q (j.trans o) X.base) (aD (aY (x:=some ia) X 5 rfl rfl ?_))
  refine Ig.DM (aQ:=aQ) (k:=(i:Int)) X (U.ext (C.trans (j.trans o))) z λay H7 w=>?_
  have V:=(w.list (enc:=Ig.E) 1 rfl).bF
  rw[V]
  have w:=w.ak
  have ao:refs.length=15:=by
   rw[ru] at hrefs
   split at hrefs
   ·have:=Option.some.inj hrefs;rw[←this,Pa.vP]
   ·cases hrefs
  have an:(cO (d.fq aQ) 15 (d.cW aQ) (i:Int)).length<=15:=by
   unfold cO;split<;>simp;omega
  refine ni ac (by omega) (by omega) (by omega) λaq G _=>?_
  simp only[Int.toNat_zero,List.drop_zero,Nat.sub_zero,Int.toNat_natCast] at G
  refine Ml (G.ext w.base) (by simp;omega) (w.get 5 rfl) (q (j.trans o) w.base) ((hg.ext (C.trans (j.trans o))).ext w.base) N (λy hy=>(T y hy).1) λH8 x8=>?_
  have Y:=w.ext x8
  refine aF (aE rfl (au (x:=some fa) (q (j.trans o) Y.base) (aD (aY (x:=some ia) Y 5 rfl rfl ?_))))
  have P:i<(d.cW aQ).length:=by omega
  have hlen:(refs.take (cO (d.fq aQ) 15 (d.cW aQ) (i:Int)).length).length=(cO (d.fq aQ) 15 (d.cW aQ) (i:Int)).length:=by simp;omega
  refine Ig.KU Y (U.ext (C.trans (j.trans o))) z P G hlen (λy hy=>(T y hy).2) λH9 h9=>aE rfl ?_
  rw[bH (by omega)]
  refine ag J _ _ ⟨rfl,B6,_,K.trans (j.trans o),z.load P hlen,?_,Z,h9⟩
  rw[←aj]
  cases aQ<;>simp[Im.cW,Im.load]
 ·have:i=b.length:=by simp at c1;omega
  subst this
  rw[List.drop_length] at f
  have e:d=F:=by rw[Gk] at f;exact Option.some.inj f
  subst e
  exact hQ B2 H2 C z v
end
end Mo
end Go.Proofs.YtbijlklgbfminaaGreat
end
section
namespace KM
def Gn (n:Nat) (f:Fd) (i:iY) (at_:Int):Bool:=
 (decide (0<=f.seq)&&decide (f.seq<=2147483646))&&((i.1==1&&(decide (0<=i.2.1)&&decide (i.2.1<n))&&(decide (1<=at_)&&decide (at_<=4095)))||i.1==3||i.1==7)
def yh (n:Nat):Fd->Int->List iY->Bool
 |_,_,[]=>true
 |f,at_,i::l=>Gn n f i (if cN i then at_+1 else at_)&&yh n (f.sN i (if cN i then at_+1 else at_)) (if cN i then at_+1 else at_) l
def DO (c:bC) (n:Nat) (f:Fd) (x:Pos×Rec):Bool:=yh n (f.oP x.2.aO) (bW c x.1.1+x.1.2.1) x.2.items
def uX (c:bC) (n:Nat):Fd->List (Pos×Rec)->Bool
 |_,[]=>true
 |f,x::l=>DO c n f x&&uX c n (f.kR c x) l
theorem Gp {c:bC} {n:Nat}:∀{l pre:List (Pos×Rec)} {x:Pos×Rec} {f:Fd},uX c n f l=true->pre++[x] <+: l->DO c n (pre.foldl (Fd.kR c) f) x=true
 |[],pre,x,f,_,h=>by simp at h
 |y::l,[],x,f,b,h=>by
  obtain⟨t,a⟩:=h
  simp at a
  rw[uX,Bool.and_eq_true] at b
  rw[a.1];exact b.1
 |y::l,z::pre,x,f,b,h=>by
  obtain⟨t,a⟩:=h
  simp at a
  rw[uX,Bool.and_eq_true] at b
  rw[List.foldl_cons,a.1]
  exact Gp b.2 ⟨t,by simpa using a.2⟩
end KM
namespace Go.Proofs.YtbijlklgbfminaaGreat
namespace Mo
open Go Go.Kx KM Rw Cr Ds Ge Rc Sc Rg
theorem cr {H:PH} {L:List Ob} {α:Type} {enc:α->Value} {a:Addr} {cs:List Value} {p q:Nat} {x:α} {K:α->Prop} (h:aA H L) (i:Nat) (hi:L[i]?=some (aG a cs)) (d:cs[p+q]?=some (enc x)) (b:K x):aH enc H ((a.add p).add q) K:=by
 rw[add_add (h.get i hi:aZ H a cs)];exact aY h i hi d b
theorem jy {H:PH} {L:List Ob} {a:Addr} {cs:List Value} {p q:Nat} {v:Value} {K:PH->Prop} (ws:List Value) (h:aA H L) (i:Nat) (hi:L[i]?=some (aG a cs)) (d:p+q<cs.length) (j:cI v=true) (hw:cs.set (p+q) v=ws) (b:∀H',aA H' (L.set i (aG a ws))->K H'):aX H ((a.add p).add q) [v] K:=by
 rw[add_add (h.get i hi:aZ H a cs)];subst hw;exact cB h i hi d j b
abbrev vF (r:jZ) (f:KM.Fd):xv:=(r.mode,r.view,f.aV,f.seq,f.done,0,r.gen,0,0,0)
section
variable {H B:PH} {L R:List Ob} {k n:Nat} {A:DA} {D:Dk} {c:bC} {fa ta ia ib io:Addr} {g:Option Addr} {sb e:Pos} {rg:jZ} {x14:sY} {slot:Int} {s t s0 t0 s1 t1:Sl} {f:KM.Fd}
abbrev lk (d g:Option Addr) (sb:Pos) (x14:sY) (slot:Int) (fa ta ia:Addr) (rg:jZ) (e:Pos) (s t s0 t0 s1 t1:Sl) (f:KM.Fd) (R:List Ob):List Ob:=
 Ig.dR s0 t0 s1 t1 f.m++(aG fa (iE d g sb x14 slot (some ta) (some ia) (vF rg f) e)::aq Us.bQ 2 s f.t.l::aW i64 t f.t.v::R)
structure rO (n:Nat) (f:KM.Fd):Prop where
 im:Ig.dM n f.m
 tv:f.t.v.length=f.t.l.length
theorem rO.forget (ok:rO n f):rO n f.forget:=⟨by show Ig.dM n (jK f.m f.m.l1.length).1;exact(Ig.uu ok.im _).1,ok.tv⟩
theorem se {d:Option Addr} {Q:PH->Prop} (h:aA H (aC B::lk d g sb x14 slot fa ta ia rg e s t s0 t0 s1 t1 f R)) (i:Ig.qI B ia ib io s0 t0 s1 t1) (ok:rO n f)
 (p:∀H',aA H' (aC B::lk d g sb x14 slot fa ta ia rg e s t s0 t0 s1 t1 f.forget R)->Q H'):iN (some fa) H Q:=by
 refine aD (aY (x:=some ia) h 5 rfl rfl (Ig.se h i ok.im λH1 q b=>?_))
 refine aD (cr (x:=f.done) b 6 rfl rfl (aD (jy (iE d g sb x14 slot (some ta) (some ia) (vF rg f.forget) e) b 6 rfl (by simp) rfl rfl λa j=>p a ?_)))
 have e1:f.forget.m=(jK f.m n).1:=by show(jK f.m f.m.l1.length).1=_;rw[ok.im.n1]
 have o:aA a (aC B::(Ig.dR s0 t0 s1 t1 (jK f.m n).1++(aW Ig.E q (jK f.m n).2::aG fa (iE d g sb x14 slot (some ta) (some ia) (vF rg f.forget) e)::aq Us.bQ 2 s f.t.l::aW i64 t f.t.v::R))):=j
 show aA a (aC B::(Ig.dR s0 t0 s1 t1 f.forget.m++_))
 rw[e1]
 exact o.jx
theorem Al {d:Option Addr} {i:iY} {at':Int} {Q:PH->Prop} (h:aA H (aC B::lk d g sb x14 slot fa ta ia rg e s t s0 t0 s1 t1 f R)) (y:Ig.qI B ia ib io s0 t0 s1 t1) (F:aZ B ta (Us.gV g s t)) (ok:rO n f) (w:Gn n f i at'=true)
 (o:∀H',rO n (f.sN i at')->aA H' (aC B::lk d g sb x14 slot fa ta ia rg e s t s0 t0 s1 t1 (f.sN i at') R)->Q H'):jg (some fa) i at' H Q:=by
 simp only[Gn,Bool.and_eq_true,Bool.or_eq_true,beq_iff_eq,decide_eq_true_eq] at w
 obtain⟨⟨M,N⟩,w⟩:=w
 refine az h λa1 H1 a=>ay (x:=i.1) a rfl ?_
 have up:∀{H' X},aA H' (aC B::aG a1 [i64 i.1,i64 i.2.1,i64 i.2.2.1,i64 i.2.2.2]::X)->aA H' (aC B::X):=λh=>h.ak
 rcases w with(⟨⟨e1,K⟩,J⟩|e3)|b
 ·refine ae (by rw[e1];rfl) (aD (aY (x:=some ia) a 6 rfl rfl ?_))
  refine ay (x:=i.2.1) a rfl ?_
  refine mP.i (Ig.fx a.ak y ok.im K ⟨J.1,by omega⟩ λz j=>?_)
  refine aD (cr (x:=f.seq) j 5 rfl rfl (aD ?_))
  rw[bo (x:=f.seq+1) (by omega) (by omega)]
  have el:f.m.lay true i.2.1 at'=f.m.put true i.2.1 at':=by
   rw[Im.lay,if_pos]
   have:=ok.im.n0;have:=ok.im.CN
   simp only[Im.has,bE,Bool.and_eq_true,decide_eq_true_eq];omega
  have p:f.sN i at'={f with m:=f.m.put true i.2.1 at',seq:=f.seq+1}:=by rw[KM.Fd.sN,if_pos e1,el]
  rw[p] at o
  exact jy (iE d g sb x14 slot (some ta) (some ia) (vF rg {f with m:=f.m.put true i.2.1 at',seq:=f.seq+1}) e) j 5 rfl (by simp) rfl rfl λC r=>o C ⟨by exact ok.im.put true i.2.1 at',ok.tv⟩ r
 ·have p:f.sN i at'={f with aV:=i.2.2.2,seq:=f.seq+1,done:=f.seq+1,m:=f.m.nR.1}:=by rw[KM.Fd.sN,if_neg (by omega),if_neg (by omega),if_pos e3]
  rw[p] at o
  refine aE (by rw[e3];rfl) (aE (by rw[e3];rfl) (ae (by rw[e3];rfl) ?_))
  refine ay (x:=i.2.2.2) a rfl (aD (cr (x:=f.seq) a 6 rfl rfl (aD ?_)))
  rw[bo (x:=f.seq+1) (by omega) (by omega)]
  refine jy (iE d g sb x14 slot (some ta) (some ia) (vF rg {f with aV:=i.2.2.2}) e) a 6 rfl (by simp) rfl rfl λz j=>?_
  refine aD (jy (iE d g sb x14 slot (some ta) (some ia) (vF rg {f with aV:=i.2.2.2,seq:=f.seq+1}) e) j 6 rfl (by simp) rfl rfl λC r=>?_)
  refine aD (cr (x:=f.seq+1) r 6 rfl rfl (aD ?_))
  refine jy (iE d g sb x14 slot (some ta) (some ia) (vF rg {f with aV:=i.2.2.2,seq:=f.seq+1,done:=f.seq+1}) e) r 6 rfl (by simp) rfl rfl λG u=>?_
  have u:aA G (aC B::aG a1 [i64 i.1,i64 i.2.1,i64 i.2.2.1,i64 i.2.2.2]::lk d g sb x14 slot fa ta ia rg e s t s0 t0 s1 t1 {f with aV:=i.2.2.2,seq:=f.seq+1,done:=f.seq+1} R):=u
  refine aD (aY (x:=some ia) u 6 rfl rfl (Ig.Bl (up u) y ok.im λE q I=>o E ⟨(Ig.xu ok.im _).1,ok.tv⟩ ?_))
  have e1:f.m.nR.1=(gD f.m n).1:=by show(gD f.m f.m.l1.length).1=_;rw[ok.im.n1]
  show aA E (aC B::(Ig.dR s0 t0 s1 t1 f.m.nR.1++_))
  rw[e1]
  exact I.jx
 ·have p:f.sN i at'={f with t:=f.t.pn i.2.2.2}:=by rw[KM.Fd.sN,if_neg (by omega),if_neg (by omega),if_neg (by omega),if_neg (by omega),if_neg (by omega),if_neg (by omega),if_pos b]
  rw[p] at o
  refine aE (by rw[b];rfl) (aE (by rw[b];rfl) (aE (by rw[b];rfl) (aE (by rw[b];rfl) (aE (by rw[b];rfl) (aE (by rw[b];rfl) (ae (by rw[b];rfl) ?_))))))
  refine aD (aY (x:=some ta) a 6 rfl rfl (ay (x:=i.2.2.2) a rfl ?_))
  refine Us.Ee a.ak (F.ext a.ak.base) 6 7 rfl rfl (by decide) ok.tv λz j=>o z ⟨ok.im,?_⟩ j
  show(tn f.t.l f.t.v i.2.2.2).length=(pk f.t.l i.2.2.2).length
  rw[tn,pk]
  split
  ·rw[List.length_set,Us.GL];exact ok.tv
  ·exact ok.tv
end
end Mo
end Go.Proofs.YtbijlklgbfminaaGreat
end
namespace Go.Proofs.YtbijlklgbfminaaGreat
section
namespace Mo
open Go Go.Kx KM Rw Cr Ds Ge Rc Sc Rg
theorem KV (f:KM.Fd) (i:iY) (a:Int):(f.sN i a).aO=f.aO:=by
 unfold KM.Fd.sN
 repeat (split;·rfl)
 rfl
theorem Ho (l:List iY):∀(f:KM.Fd) (a:Int),(f.items a l).aO=f.aO:=by
 induction l with
 |nil=>intro f a;rfl
 |cons i l b=>intro f a;rw[KM.Fd.items,b,KV]
theorem Sy {X L:List Ob} {P Q:Ob}:(P::(X++Q::L)).Perm (Q::(X++P::L)):=(List.Perm.cons _ List.perm_middle).trans ((List.Perm.swap _ _ _).trans (.cons _ List.perm_middle.symm))
theorem DP (l:List cz) (k st:Int):(gr l k st).length=l.length:=by unfold gr;split;exact Us.OX _ _ _;rfl
theorem Mm (l:List cz) (k:Int):(qj l k).length=l.length:=by unfold qj;split;exact Us.GL _ _ _;rfl
section
variable {H B:PH} {L R:List Ob} {k n:Nat} {A:DA} {D:Dk} {c:bC} {fa ta ia ib io a1:Addr} {g:Option Addr} {sb e:Pos} {rg:jZ} {x14:sY} {slot:Int} {s t s0 t0 s1 t1:Sl} {f:KM.Fd}
abbrev KW (d g:Option Addr) (sb:Pos) (x14:sY) (slot:Int) (fa ta ia:Addr) (rg:jZ) (e:Pos) (s t s0 t0 s1 t1:Sl) (f:KM.Fd):List Ob:=
 Ig.dR s0 t0 s1 t1 f.m++[aG fa (iE d g sb x14 slot (some ta) (some ia) (vF rg f) e),aq Us.bQ 2 s f.t.l,aW i64 t f.t.v]
theorem wJ {d:Option Addr}:lk d g sb x14 slot fa ta ia rg e s t s0 t0 s1 t1 f R=KW d g sb x14 slot fa ta ia rg e s t s0 t0 s1 t1 f++R:=by simp[lk,KW]
theorem Mn {d:Option Addr} {x:Pos×Rec} {m:R5} {am:Addr} {P:List Ob} {K:PH->Prop} (h:aA H (aC B::lk d g sb x14 slot fa ta ia rg e s t s0 t0 s1 t1 f (aG am [i64 f.aO]::P))) (hg:Gm B g c) (hc:bg c)
 (ay:Ig.qI B ia ib io s0 t0 s1 t1) (ad:aZ B ta (Us.gV g s t)) (r1:aZ B a1 [.pointer (some fa)]) (ok:rO n f) (hr:DO c n f x=true) (T:D1 c x) (hm:oQ B m x.2)
 (hK:∀H',rO n (f.kR c x)->aA H' (aC B::lk d g sb x14 slot fa ta ia rg e s t s0 t0 s1 t1 (f.kR c x) (aG am [i64 (f.kR c x).aO]::P))->K H'):
 ag H (row [i64 0,i64 0,i64 0,i64 0,i64 0] 136) λa bb=>aX bb a (s5 x.1) λbc=>ag bc (row [i64 0,i64 0,i64 0,Sl.v Sl.nil,Sl.v Sl.nil] 228) λj bd=>aX bd j (r5 m) λy=>
 aH (.int .i64) y (j.add 0) λbv=>aH (.int .i64) y am λbw=>
 aM (λ(bO:Unit) (z:PH)=>aH .pointer z a1 λbx=>aN bx λbh=>aH .pointer z (bh.add 1) λbz=>aH (.int .i64) z (a.add 0) λbA=>aH (.int .i64) z (a.add 1) λaE=>
  fb bz bA z λbD Z=>ar Z (a.add 1) (i64 aE)<|aH Sl.v Z (j.add 3) λaI=>
  bp (λ(G:Int×Int) (q:PH) (W:(Int×Int)->PH->Prop)=>aJ (decide (G.2<(aI.len:Int)))
   (bX aI 4 G.2 λaj=>aU It.eB q aj 4 λbB=>ag q (row [i64 0,i64 0,i64 0,i64 0] 230) λC be=>aX be C (It.eB bB) λaf=>aU It.eB af C 4 λbC=>nt bC af λbE ah=>
    aM (λ(aB:Int) (aa:PH)=>aH .pointer aa a1 λae=>aU It.eB aa C 4 λO=>jg ae O aB aa λI=>W (aB,IntKind.wrap .i64 (G.2+1)) I)
    λav=>aJ bE (av (IntKind.wrap .i64 (G.1+1)) ah) (av G.1 ah))
   (aH .pointer q a1 λaV=>aN aV λaQ=>aH .pointer q (aQ.add 22) λa0=>aH (.int .i64) q (a.add 0) λa2=>aH (.int .i64) q (j.add 1) λa3=>jh a0 a2 a3 q λX=>
    aU r5 X j 5 λa4=>nu a4 X λbK ba p=>aJ ba
     (aH .pointer p a1 λa5=>aN a5 λaR=>aH .pointer p (aR.add 22) λa6=>aH (.int .i64) p (a.add 0) λa7=>kM a6 a7 p λaK=>K aK)
     (K p)))
  (IntKind.wrap .i64 (bD+aE),0) Z)
 λap=>aJ (decide (bw<bv)) (aH (.int .i64) y (j.add 0) λa8=>aX y am [i64 a8] λY=>aH .pointer Y a1 λa9=>iN a9 Y λaP=>ap () aP) (ap () y):=by
 have bN:=sZ hc
 have bJ:=Sc.mY hc T.vh
 have bI:=T.off
 have bM:=hc.2.2.2.2.2
 rw[wJ] at h
 refine az h λa H1 h1=>bf (vs:=s5 x.1) h1 rfl rfl λH2 h2=>az h2.uM λj H3 h3=>bf (vs:=r5 m) h3 rfl rfl λH4 J=>?_
 have J:aA H4 (aC B::lk d g sb x14 slot fa ta ia rg e s t s0 t0 s1 t1 f (aG j (r5 m)::aG a (s5 x.1)::aG am [i64 f.aO]::P)):=by rw[wJ];exact J.uM
 refine aY (x:=m.1) J 8 rfl rfl (dO (x:=f.aO) J 10 rfl ?_)
 refine pF (λ_ H'=>rO n (f.oP x.2.aO)/\aA H' (aC B::lk d g sb x14 slot fa ta ia rg e s t s0 t0 s1 t1 (f.oP x.2.aO) (aG j (r5 m)::aG a (s5 x.1)::aG am [i64 (f.oP x.2.aO).aO]::P))) ?_ λk' an=>?_
 ·rintro _ H5 ⟨aw,o⟩
  have U:∀{H'},Ext B H'->aZ H' a1 [.pointer (some fa)]:=λx=>r1.ext x
  refine au (x:=some fa) (U o.base) (aD (aY (x:=g) o 5 rfl rfl (aY (x:=x.1.1) o 9 rfl rfl (aY (x:=x.1.2.1) o 9 rfl rfl (Sc.xF (hg.ext o.base) hc T.vh λH6 x6=>cw (o.ext x6) 9 rfl rfl ?_)))))
  have h6:=o.ext x6
  rw[bo (x:=bW c x.1.1+x.1.2.1) (by omega) (by omega)]
  refine aY (enc:=Sl.v) (x:=m.2.2.2.1) h6 8 rfl rfl ?_
  have al:=hm.it
  have bG:x.2.items.length<=6:=by
   have:=T.may
   simp only[dy,Bool.and_eq_true,KM.bY] at this
   have:=this.1.1.1.2;omega
  have bs:DO c n f x=yh n (f.oP x.2.aO) (bW c x.1.1+x.1.2.1) x.2.items:=rfl
  rw[bs] at hr
  have ao:f.kR c x=(((f.oP x.2.aO).items (bW c x.1.1+x.1.2.1) x.2.items).tail x.1.1 x.2.dQ (dJ x.2.items).isSome):=rfl
  have br:(f.kR c x).aO=(f.oP x.2.aO).aO:=by rw[ao];exact Ho _ _ _
  rw[br,ao] at hK
  generalize f.oP x.2.aO=f1 at aw h6 hr hK ⊢
  have aS:0<=bW c x.1.1+x.1.2.1/\bW c x.1.1+x.1.2.1<=4000:=by omega
  generalize bW c x.1.1+x.1.2.1=Q at hr hK aS ⊢
  refine ax x.2.items.length (λi st Hk=>∃fi,st.2=(i:Int)/\yh n fi st.1 (x.2.items.drop i)=true/\f1.items Q x.2.items=fi.items st.1 (x.2.items.drop i)/\rO n fi/\(Q<=st.1/\st.1<=Q+i)/\
   aA Hk (aC B::lk d g sb x14 slot fa ta ia rg e s t s0 t0 s1 t1 fi (aG j (r5 m)::aG a (s5 x.1)::aG am [i64 f1.aO]::P))) ⟨f1,rfl,by simpa using hr,by simp,aw,by simp,h6⟩ ?_
  rintro i ⟨ai,_⟩ H7 again hi ⟨fi,ei,S,r,V,bn,F⟩ bm
  simp only at ei S r bn;subst ei
  rw[al.bF]
  refine aL (λc1=>?_) (λc1=>?_)
  ·have ac:i<x.2.items.length:=by simpa using c1
   refine zH (al.ext F.base) (by omega) (by omega) λaj it N bq=>⟨it,bq,?_⟩
   rw[Int.toNat_natCast] at N
   have hd:x.2.items.drop i=it::x.2.items.drop (i+1):=by
    rw[List.drop_eq_getElem_cons ac];congr 1
    rw[List.getElem?_eq_getElem ac] at N;exact Option.some.inj N
   rw[hd,yh,Bool.and_eq_true] at S
   rw[hd,KM.Fd.items] at r
   refine az F λC H8 M=>bf (vs:=It.eB it) M rfl rfl λH9 u=>bk (x:=it) u rfl rfl (It.yL λw bu=>?_)
   have E:=u.ext bu
   have fin:∀at',at'=(if cN it then ai+1 else ai)->aH .pointer w a1 λae=>aU It.eB w C 4 λO=>jg ae O at' w λI=>again (at',IntKind.wrap .i64 ((i:Int)+1)) I:=λat' e'=>by
    subst e'
    refine au (x:=some fa) (U E.base) (bk (x:=it) E rfl rfl (Al E.ak ay ad V S.1 λbL aT bl=>?_))
    rw[bH (by omega)]
    exact bm ac _ _ ⟨_,rfl,S.2,r,aT,by simp only;split<;>omega,bl⟩
   refine aF (aL (λcl=>fin _ ?_) (λcl=>fin _ ?_))
   ·rw[if_pos cl,bo (by omega) (by omega)]
   ·rw[if_neg (by rw[cl];simp)]
  ·have:i=x.2.items.length:=by simp at c1;omega
   subst this
   rw[List.drop_length] at r
   have r:f1.items Q x.2.items=fi:=r
   rw[r] at hK
   refine au (x:=some fa) (U F.base) (aD (aY (x:=some ta) F 5 rfl rfl (aY (x:=x.1.1) F 9 rfl rfl (aY (x:=m.2.1) F 8 rfl rfl ?_))))
   refine Us.DD F (ad.ext F.base) 6 rfl λH8 M=>?_
   have M:aA H8 (aC B::(Ig.dR s0 t0 s1 t1 fi.m++(aG fa (iE d g sb x14 slot (some ta) (some ia) (vF rg fi) e)::aq Us.bQ 2 s (gr fi.t.l x.1.1 m.2.1)::aW i64 t fi.t.v::(aG j (r5 m)::aG a (s5 x.1)::aG am [i64 f1.aO]::P)))):=M
   refine bj (x:=m) M 8 rfl rfl rfl (Ae (hm.ext M.base) λH9 x9=>?_)
   have u:=M.ext x9
   have e2:=hm.e2
   have bt:∀b,rO n (fi.tail x.1.1 x.2.dQ b):=λb=>⟨V.im,by
    show fi.t.v.length=List.length (if b then _ else _)
    split
    ·rw[Mm,DP];exact V.tv
    ·rw[DP];exact V.tv⟩
   have fin:∀H' l',l'=(if(dJ x.2.items).isSome then qj (gr fi.t.l x.1.1 x.2.dQ) x.1.1 else gr fi.t.l x.1.1 x.2.dQ)->aA H' (aC B::(Ig.dR s0 t0 s1 t1 fi.m++(aG fa (iE d g sb x14 slot (some ta) (some ia) (vF rg fi) e)::aq Us.bQ 2 s l'::aW i64 t fi.t.v::(aG j (r5 m)::aG a (s5 x.1)::aG am [i64 f1.aO]::P))))->K H':=λH' l' el h'=>by
    refine hK H' (bt _) ?_
    have eT:(fi.tail x.1.1 x.2.dQ (dJ x.2.items).isSome)={fi with t:={fi.t with l:=l'}}:=by rw[el];rfl
    rw[eT]
    have bi:aA H' (aC B::(KW d g sb x14 slot fa ta ia rg e s t s0 t0 s1 t1 {fi with t:={fi.t with l:=l'}}++(aG j (r5 m)::aG a (s5 x.1)::aG am [i64 f1.aO]::P))):=by rw[←wJ];exact h'
    rw[wJ]
    exact bi.jx.jx
   rw[e2] at u
   refine aL (λcn=>?_) (λcn=>?_)
   ·refine au (x:=some fa) (U u.base) (aD (aY (x:=some ta) u 5 rfl rfl (aY (x:=x.1.1) u 9 rfl rfl ?_)))
    exact Us.vM u (ad.ext u.base) 6 rfl λw E=>fin w _ (by rw[if_pos cn]) E
   ·exact fin H9 _ (by rw[if_neg (by rw[cn];simp)]) u
 ·have e1:=hm.e1
  refine aL (λc1=>?_) (λc1=>an _ _ ?_)
  ·have ab:f.aO<x.2.aO:=by rw[←e1];simpa using c1
   refine aY (x:=m.1) J 8 rfl rfl (hC J 10 rfl rfl λH5 o=>?_)
   have o:aA H5 (aC B::lk d g sb x14 slot fa ta ia rg e s t s0 t0 s1 t1 {f with aO:=x.2.aO} (aG j (r5 m)::aG a (s5 x.1)::aG am [i64 x.2.aO]::P)):=by rw[←e1];exact o
   refine au (x:=some fa) (r1.ext o.base) (se o ay (f:={f with aO:=x.2.aO}) ⟨ok.im,ok.tv⟩ λH6 h6=>an _ _ ?_)
   have en:f.oP x.2.aO=({f with aO:=x.2.aO}:KM.Fd).forget:=by rw[KM.Fd.oP,if_pos ab]
   rw[en]
   exact⟨rO.forget ⟨ok.im,ok.tv⟩,h6⟩
  ·have ab:¬f.aO<x.2.aO:=by rw[←e1];simpa using c1
   rw[KM.Fd.oP,if_neg ab]
   exact⟨ok,J⟩
end
end Mo
end
section
namespace Mo
open Go Go.Kx KM Rw Cr Ds Ge Rc Sc Rg
section
variable {H B:PH} {L R:List Ob} {k n:Nat} {A:DA} {D:Dk} {c:bC} {fa ta ia ib io a1:Addr} {g:Option Addr} {sb e en:Pos} {rg:jZ} {x14:sY} {slot:Int} {s t s0 t0 s1 t1 sb' so' ss':Sl} {f:KM.Fd}
theorem Gq {nf:Nat} {l:List (Pos×Rec)} {Q:Int->PH->Prop} (h:aA H (aC B::lk (some A.a) g sb (eC rg sb' so' ss') slot fa ta ia rg dp s t s0 t0 s1 t1 f (av A D::L))) (ok:cM k D) (hk:k< 2 ^ 29) (Z:Gm B g c) (hc:bg c) (hn:all c<=D.now.length)
 (S:Ig.qI B ia ib io s0 t0 s1 t1) (al:aZ B ta (Us.gV g s t)) (ab:rO n f) (ag:f.aO=rg.pos.2.2.2.2) (af:rJ c D nf rg.pos=some (l,en)) (ai:uX c n f l=true)
 (hQ:∀U H',Ext B U->rO n (l.foldl (KM.Fd.kR c) f).forget->aA H' (aC U::lk (some A.a) g sb (eC rg sb' so' ss') slot fa ta ia rg en s t s0 t0 s1 t1 (l.foldl (KM.Fd.kR c) f).forget (av A D::L))->Q 0 H'):lY (some fa) H Q:=by
 refine fM h λa1 B1 H1 T w v=>?_
 have rf:aZ H1 fa (iE (some A.a) g sb (eC rg sb' so' ss') slot (some ta) (some ia) (vF rg f) dp):=v.get 5 rfl
 have z:=w.ext v.base
 refine au (x:=some fa) z (aD (aY (x:=some A.a) v 5 rfl rfl (au (x:=some fa) z (aD (aY (x:=g) v 5 rfl rfl (au (x:=some fa) z (aD ?_)))))))
 rw[add_add rf]
 refine nX (en:=s5) (x:=rg.pos) v 5 rfl (by simp) rfl (Ch.eI v (Z.ext T) λca H2 V=>?_)
 refine au (x:=some fa) (w.ext V.base) (aD ?_)
 rw[add_add rf,add_add rf]
 refine aY (x:=rg.pos.2.2.2.2) V 6 rfl rfl (az V λb H3 h3=>hC h3 1 rfl rfl λH4 W=>?_)
 have W:aA H4 (aC B1::aG b [i64 rg.pos.2.2.2.2]::aG ca (Ch.rN (some A.a) g rg.pos rg.pos 0)::lk (some A.a) g sb (eC rg sb' so' ss') slot fa ta ia rg dp s t s0 t0 s1 t1 f (av A D::L)):=W
 refine Ch.KS W λc0 B5 H5 p ak h5=>?_
 have ae:aA H5 (aC B5::aG ca (Ch.rN (some A.a) g rg.pos rg.pos 0)::av A D::lk (some A.a) g sb (eC rg sb' so' ss') slot fa ta ia rg dp s t s0 t0 s1 t1 f (aG b [i64 f.aO]::L)):=by
  rw[ag,wJ]
  rw[wJ] at h5
  exact h5.perm (.cons _ ((List.Perm.swap _ _ _).trans (.cons _ Sy)))
 have C:=T.trans p
 refine wq c0 _ _ _ _ λyv=>Ch.GZ nf l (λpre _ U N=>∃d,d=pre.foldl (KM.Fd.kR c) f/\rO n d/\N=lk (some A.a) g sb (eC rg sb' so' ss') slot fa ta ia rg dp s t s0 t0 s1 t1 d (aG b [i64 d.aO]::L))
  af ae ak ok hk (Z.ext C) hc hn (λ_ _ _ _ _ _ h=>h) ⟨f,rfl,ab,rfl⟩ ?_ ?_
 ·rintro pre x m _ q M P H6 K j ⟨d,F,u,rfl⟩ aa ah hm G J
  have I:aA H6 (aC q::lk (some A.a) g sb (eC rg sb' so' ss') slot fa ta ia rg dp s t s0 t0 s1 t1 d (aG b [i64 d.aO]::(L++P))):=G.Uf
  have o:=C.trans j
  have hr:=Gp ai aa
  rw[←F] at hr
  refine⟨x.1,m,rfl,?_⟩
  refine Mn (a1:=a1) (x:=x) (m:=m) I (Z.ext o) hc (S.ext o) (al.ext o) (w.ext (p.trans j)) u hr ah hm λE aj r=>?_
  refine J () q _ E (.refl _) ⟨d.kR c x,by rw[F];simp,aj,rfl⟩ ?_
  exact aA.Uf (X:=lk (some A.a) g sb (eC rg sb' so' ss') slot fa ta ia rg dp s t s0 t0 s1 t1 (d.kR c x) (aG b [i64 (d.kR c x).aO]::L)) (Y:=P) r
 ·rintro _ q M H6 j ⟨d,F,u,rfl⟩ G
  subst F
  have o:=C.trans j
  have r6:=(w.ext (p.trans j)).ext G.base
  refine au (x:=some fa) r6 (Ch.zg (i:=0) G rfl λH7 I=>gd ((w.ext (p.trans j)).ext I.base) (aD (uq (iE (some A.a) g sb (eC rg sb' so' ss') slot (some ta) (some ia) (vF rg (l.foldl (KM.Fd.kR c) f)) en) I 7 rfl (by simp) rfl rfl λE r=>?_)))
  have r:aA E (aC q::aG ca (Ch.rN (some A.a) g rg.pos en 0)::av A D::lk (some A.a) g sb (eC rg sb' so' ss') slot fa ta ia rg en s t s0 t0 s1 t1 (l.foldl (KM.Fd.kR c) f) (aG b [i64 (l.foldl (KM.Fd.kR c) f).aO]::L)):=r
  refine au (x:=some fa) ((w.ext (p.trans j)).ext r.base) ?_
  rw[wJ] at r
  have y:aA E (aC q::lk (some A.a) g sb (eC rg sb' so' ss') slot fa ta ia rg en s t s0 t0 s1 t1 (l.foldl (KM.Fd.kR c) f) (aG ca (Ch.rN (some A.a) g rg.pos en 0)::av A D::aG b [i64 (l.foldl (KM.Fd.kR c) f).aO]::L)):=by
   rw[wJ]
   exact r.Sx
  refine se y (S.ext o) u λH9 y=>Ch.CM (i:=7) y rfl ?_
  refine hQ q H9 o u.forget ?_
  rw[wJ] at y ⊢
  have ac:=y.jx
  have ad:aA H9 (aC q::((KW (some A.a) g sb (eC rg sb' so' ss') slot fa ta ia rg en s t s0 t0 s1 t1 (l.foldl (KM.Fd.kR c) f).forget++[av A D])++aG b [i64 (l.foldl (KM.Fd.kR c) f).aO]::L)):=by
   rw[List.append_assoc];exact ac
  have O:=ad.jx
  rw[List.append_assoc] at O
  exact O
end
end Mo
end
section
namespace Wr
open Go Go.Kx KM Rw Ge Sc
abbrev vS (d g t:Option Addr) (p:Pos) (jM kD:Sl):List Value:=[.pointer d,.pointer g,.pointer t,i64 p.1,i64 p.2.1,i64 p.2.2.1,i64 p.2.2.2.1,i64 p.2.2.2.2,Sl.v jM,Sl.v kD]
theorem eI {H B:PH} {L:List Ob} {c:bC} {d t:Addr} {g:Option Addr} {p:Pos} {Q:Option Addr->PH->Prop} (h:aA H (aC B::L)) (r:Gm B g c) (q:bg c) (u:iT c p=true)
 (o:∀wa H',aA H' (aC B::aG wa (vS (some d) g (some t) p Sl.nil Sl.nil)::L)->Q (some wa) H'):vv (some d) g (some t) p H Q:=by
 obtain⟨l,rfl,v⟩:=r
 refine az h λa1 H1 a=>aF (aE rfl (aF (aE rfl (aF (aE rfl (bk (x:=p) a rfl rfl (Ec ⟨l,rfl,v.ext a.base⟩ q λy w=>?_)))))))
 rw[u]
 have b:=a.ext w
 exact aE rfl (bk (x:=p) b rfl rfl (az b.ak λj i m=>o j i m))
end Wr
namespace Mo
open Go Go.Kx KM Rw Cr Ds Ge Rc Sc Rg
theorem EA {c:bC} {v:List Int} {a b:Int} (h:∀x,x∈v->0<=x/\x<=2147483647):∀x,x∈lF c v a b->0<=x/\x<=2147483647:=by
 unfold lF
 split
 ·intro x d
  rcases List.mem_or_eq_of_mem_set d with d|d
  ·exact h x d
  ·subst d
   refine Us.Q0 ?_
   unfold dU
   split
   ·rw[List.getD]
    cases i:v[((a-base c)/c.2.2).toNat]? with
    |none=>show(0:Int)<=0;omega
    |some y=>exact(h y (List.mem_of_getElem? i)).1
   ·omega
 ·exact h
theorem CP {c:bC} {v:List Int} {a b:Int}:(lF c v a b).length=v.length:=by unfold lF;split<;>simp
theorem iP {H:PH} {L:List Ob} {a:Addr} {cs:List Value} {p q:Nat} {v:Value} {K:Prop} (h:aA H L) (i:Nat) (hi:L[i]?=some (aG a cs)) (d:cs[p+q]?=some v) (b:K):ar H ((a.add p).add q) v K:=by
 rw[add_add (h.get i hi:aZ H a cs)];exact cw h i hi d b
section
variable {H B:PH} {L R:List Ob} {k n:Nat} {A:DA} {D:Dk} {c:bC} {fa ta ia ib io a1:Addr} {g:Option Addr} {sb e en:Pos} {rg:jZ} {x14:sY} {slot id aO:Int} {s t s0 t0 s1 t1 sb' so' ss':Sl} {f:KM.Fd}
abbrev Gr (d g:Option Addr) (sb:Pos) (x14:sY) (slot:Int) (fa ta ia:Addr) (st:xv) (e:Pos) (s t s0 t0 s1 t1:Sl) (f:KM.Fd) (v:List Int) (R:List Ob):List Ob:=
 Ig.dR s0 t0 s1 t1 f.m++(aG fa (iE d g sb x14 slot (some ta) (some ia) st e)::aq Us.bQ 2 s f.t.l::aW i64 t v::R)
abbrev stM (r:jZ) (f:KM.Fd) (aO:Int):xv:=(r.mode,r.view,f.aV,f.seq,f.done,aO,r.gen,0,0,0)
theorem Hp {Q:Option Addr->Int->PH->Prop} (h:aA H (aC B::lk (some A.a) g (Su.sup c id aO) x14 slot fa ta ia rg en s t s0 t0 s1 t1 f (av A D::L))) (ok:cM k D) (hk:k+3< 2 ^ 29) (hg:Gm B g c) (I:bg c) (hn:all c<=D.now.length)
 (aI:Ig.qI B ia ib io s0 t0 s1 t1) (ag:aZ B ta (Us.gV g s t)) (aw:rO n f) (hv:(f.t.v.length:Int)=c.2.1) (az:∀x,x∈f.t.v->0<=x/\x<=2147483647)
 (hp:iT c (en.1,en.2.1,en.2.2.1,en.2.2.2.1,aO+1)=true) (X:eG c id (aO+1)=true) (ay:(dU (0,0) f.t.l en.1).1=1)
 (hQ:∀A' wa o H',A'.a=A.a->Ext B o->cM (k+3) ((D.put (bW c en.1+en.2.1) (List.replicate 64 0)).put ((aO+1)% 2) (iS c id (aO+1))).flush->(((D.put (bW c en.1+en.2.1) (List.replicate 64 0)).put ((aO+1)% 2) (iS c id (aO+1))).flush).now.length=D.now.length->
  aA H' (aC o::aG wa (Wr.vS (some A.a) g (some ta) (en.1,en.2.1,en.2.2.1,en.2.2.2.1,aO+1) Sl.nil Sl.nil)::Gr (some A.a) g (Su.sup c id (aO+1)) x14 slot fa ta ia (stM rg f (aO+1)) (en.1,en.2.1,en.2.2.1,en.2.2.2.1,aO+1) s t s0 t0 s1 t1 f (lg c f.t.v f.m.refs)
   (av A' (((D.put (bW c en.1+en.2.1) (List.replicate 64 0)).put ((aO+1)% 2) (iS c id (aO+1))).flush)::L))->Q (some wa) 0 H'):mh (some fa) H Q:=by
 have aP:=(Su.jF X).2.2
 have ae:(0<=en.1/\en.1<c.2.1)/\0<=en.2.1/\en.2.1<c.2.2:=by
  simp only[iT,Bool.and_eq_true,KM.bY] at hp;omega
 have aL:=Sc.mY I ae.1
 have aM:=sZ I
 refine fM h λa1 B1 H1 aJ r1 h1=>au (x:=some fa) (r1.ext h1.base) (aD (aY (x:=some ia) h1 5 rfl rfl ?_))
 refine Ig.I9 h1 λc0 B2 H2 ab aH h2=>?_
 have aa:=aJ.trans ab
 refine tP c0 _ _ _ _ λyv=>Ig.DN (λpre _ o N=>N=aG fa (iE (some A.a) g (Su.sup c id aO) x14 slot (some ta) (some ia) (vF rg f) en)::aq Us.bQ 2 s f.t.l::aW i64 t (lg c f.t.v pre)::av A D::L/\
  ((lg c f.t.v pre).length:Int)=c.2.1/\(∀x,x∈lg c f.t.v pre->0<=x/\x<=2147483647)) h2 (aI.ext aa) aw.im aH (λ_ _ _ _ _ _ h=>h) ⟨rfl,hv,az⟩ ?_ ?_
 ·rintro pre x _ U N H3 K _ G ⟨rfl,hl,hr⟩ u ac
  have F:=aa.trans G
  refine⟨x.1,x.2,rfl,au (x:=some fa) ((r1.ext (ab.trans G)).ext u.base) (aD (aY (x:=some ta) u 5 rfl rfl ?_))⟩
  refine Us.Af u ((ag.ext F).ext u.base) ((hg.ext F).ext u.base) I 7 rfl hl hr (by decide) λH4 C=>?_
  have er:lg c f.t.v (pre++[x])=lF c (lg c f.t.v pre) x.2 1:=by simp[lg]
  refine ac () U _ H4 (.refl _) ⟨rfl,by rw[er,CP];exact hl,by rw[er];exact EA hr⟩ ?_
  rw[er]
  exact C
 ·rintro _ U N H3 G ⟨rfl,hl,hr⟩ u
  have F:=aa.trans G
  have r:∀{o H'},Ext U o->Ext o H'->aZ H' a1 [.pointer (some fa)]:=λx y=>((r1.ext (ab.trans G)).ext x).ext y
  refine au (x:=some fa) (r (.refl _) u.base) (aD (cr (x:=aO) u 5 rfl rfl (aD ?_)))
  rw[bo (x:=aO+1) (by omega) (by omega)]
  refine jy (iE (some A.a) g (Su.sup c id (aO+1)) x14 slot (some ta) (some ia) (vF rg f) en) u 5 rfl (by simp) rfl rfl λH4 C=>?_
  have C:aA H4 (aC U::Gr (some A.a) g (Su.sup c id (aO+1)) x14 slot fa ta ia (vF rg f) en s t s0 t0 s1 t1 f (lg c f.t.v f.m.refs) (av A D::L)):=C
  have q1:=r (.refl _) C.base
  refine au (x:=some fa) q1 (au (x:=some fa) q1 (au (x:=some fa) q1 (aD (cr (x:=aO+1) C 5 rfl rfl (au (x:=some fa) q1 (aD (cr (x:=aO+1) C 5 rfl rfl (aD ?_))))))))
  refine jy (iE (some A.a) g (Su.sup c id (aO+1)) x14 slot (some ta) (some ia) (stM rg f (aO+1)) en) C 5 rfl (by simp) rfl rfl λH5 h5=>?_
  have h5:aA H5 (aC U::Gr (some A.a) g (Su.sup c id (aO+1)) x14 slot fa ta ia (stM rg f (aO+1)) en s t s0 t0 s1 t1 f (lg c f.t.v f.m.refs) (av A D::L)):=h5
  refine gd (r (.refl _) h5.base) (aD (jy (iE (some A.a) g (Su.sup c id (aO+1)) x14 slot (some ta) (some ia) (stM rg f (aO+1)) (en.1,en.2.1,en.2.2.1,en.2.2.2.1,aO+1)) h5 5 rfl (by simp) rfl rfl λH6 E=>?_))
  have E:aA H6 (aC U::Gr (some A.a) g (Su.sup c id (aO+1)) x14 slot fa ta ia (stM rg f (aO+1)) (en.1,en.2.1,en.2.2.1,en.2.2.2.1,aO+1) s t s0 t0 s1 t1 f (lg c f.t.v f.m.refs) (av A D::L)):=E
  have q6:=r (.refl _) E.base
  refine au (x:=some fa) q6 (aD (aY (x:=some A.a) E 5 rfl rfl (au (x:=some fa) q6 (aD (aY (x:=g) E 5 rfl rfl (au (x:=some fa) q6 (aD (aY (x:=some ta) E 5 rfl rfl (au (x:=some fa) q6 (aD ?_))))))))))
  refine nX (en:=s5) (x:=(en.1,en.2.1,en.2.2.1,en.2.2.2.1,aO+1)) E 5 rfl (by simp) rfl (Wr.eI E (hg.ext F) I hp λwa H7 h7=>?_)
  refine au (x:=some fa) (r (.refl _) h7.base) (aD (nX (en:=s5) (x:=Su.sup c id (aO+1)) h7 6 rfl (by simp) rfl ?_))
  refine Su.dt X λaR H8 ax=>gX (h7.made ax) λB8 ah aj p=>?_
  have T:=F.trans ah
  have Y:∀{o H'},Ext B8 o->Ext o H'->aZ H' a1 [.pointer (some fa)]:=λx y=>r (ah.trans x) y
  have V:=Y (.refl _) p.base
  refine aF (aE rfl (aF (aE rfl (au (x:=some fa) V (aD (aY (x:=some ta) p 6 rfl rfl (au (x:=some fa) V (aD (cr (x:=en.1) p 6 rfl rfl ?_)))))))))
  refine Us.KJ ((ag.ext T).ext p.base) ((p.get 7 rfl:bT Us.bQ 2 H8 s _).jv Us.lh) ?_
  rw[ay]
  refine aE rfl (aF ?_)
  refine au (x:=some fa) V (aD (aY (x:=some A.a) p 6 rfl rfl (au (x:=some fa) V (aD (aY (x:=g) p 6 rfl rfl (au (x:=some fa) V (aD (cr (x:=en.1) p 6 rfl rfl (au (x:=some fa) V (aD (cr (x:=en.2.1) p 6 rfl rfl ⟨by simp[sH],?_⟩)))))))))))
  refine Sc.xF ((hg.ext T).ext p.base) I ae.1 λH9 x9=>?_
  have h9:=p.ext x9
  have q9:=Y (.refl _) h9.base
  refine iP h9 6 rfl rfl (gd q9 (cw h9 6 rfl rfl (gd q9 (Cq (enc:=u8) (x:=(0:Int)) h9 λak al ai aQ=>?_))))
  have q:=aA.up (show aA al (aC B8::(aG wa (Wr.vS (some A.a) g (some ta) (en.1,en.2.1,en.2.2.1,en.2.2.2.1,aO+1) Sl.nil Sl.nil)::Gr (some A.a) g (Su.sup c id (aO+1)) x14 slot fa ta ia (stM rg f (aO+1)) (en.1,en.2.1,en.2.2.1,en.2.2.2.1,aO+1) s t s0 t0 s1 t1 f (lg c f.t.v f.m.refs) (av A D::L)++[aW u8 ak (List.replicate 64 0)])) from ai)
  refine gX q λM w hz q=>?_
  have Z:∀{o H'},Ext M o->Ext o H'->aZ H' a1 [.pointer (some fa)]:=λx y=>Y (w.trans x) y
  have af:=Z (.refl _) q.base
  refine iP q 6 rfl rfl (gd af (cw q 6 rfl rfl (gd af ?_)))
  rw[bo (x:=bW c en.1+en.2.1) (by omega) (by omega)]
  have J:(List.replicate 64 (0:Int)).length=64:=by simp
  refine wQ (i:=8) q rfl ok (by omega) ⟨by omega,by omega⟩ hz J λA2 am z d=>aE rfl ?_
  have O:=ok.put (at_:=bW c en.1+en.2.1) (b:=List.replicate 64 0) ⟨by omega,by omega⟩ J (yc _)
  have l2:=uU ok (at_:=bW c en.1+en.2.1) (b:=List.replicate 64 0) ⟨by omega,by omega⟩ J
  generalize D.put (bW c en.1+en.2.1) (List.replicate 64 0)=D2 at d O l2 hQ
  have d:aA am (aC M::aG wa (Wr.vS (some A.a) g (some ta) (en.1,en.2.1,en.2.2.1,en.2.2.2.1,aO+1) Sl.nil Sl.nil)::Gr (some A.a) g (Su.sup c id (aO+1)) x14 slot fa ta ia (stM rg f (aO+1)) (en.1,en.2.1,en.2.2.1,en.2.2.2.1,aO+1) s t s0 t0 s1 t1 f (lg c f.t.v f.m.refs) (av A2 D2::L)):=d
  have S:=Z (.refl _) d.base
  refine au (x:=some fa) S (aD (aY (x:=some A.a) d 6 rfl rfl (au (x:=some fa) S (aD (aY (x:=g) d 6 rfl rfl (au (x:=some fa) S (aD (cr (x:=aO+1) d 6 rfl rfl ?_))))))))
  have ar:Int.tmod (aO+1) 2=(aO+1)% 2:=Int.tmod_eq_emod_of_nonneg (by omega)
  rw[ar]
  refine Ge.uC ((hg.ext (T.trans w)).ext d.base) (by omega) (cw d 6 rfl rfl (gd S ?_))
  have aK:=jo.pB I
  have aN:=m8 I
  rw[←z] at d ⊢
  refine wQ (i:=8) d rfl O (by omega) ⟨by omega,by omega⟩ (aj.ext w) Su.pt λA3 an W j=>aE rfl ?_
  have P:=O.put (at_:=(aO+1)% 2) (b:=iS c id (aO+1)) ⟨by omega,by omega⟩ Su.pt (Su.wE X)
  have l3:=uU O (at_:=(aO+1)% 2) (b:=iS c id (aO+1)) ⟨by omega,by omega⟩ Su.pt
  generalize D2.put ((aO+1)% 2) (iS c id (aO+1))=D3 at j P l3 hQ
  rw[z] at j
  have j:aA an (aC M::aG wa (Wr.vS (some A.a) g (some ta) (en.1,en.2.1,en.2.2.1,en.2.2.2.1,aO+1) Sl.nil Sl.nil)::Gr (some A.a) g (Su.sup c id (aO+1)) x14 slot fa ta ia (stM rg f (aO+1)) (en.1,en.2.1,en.2.2.1,en.2.2.2.1,aO+1) s t s0 t0 s1 t1 f (lg c f.t.v f.m.refs) (av A3 D3::L)):=j
  have aB:=Z (.refl _) j.base
  refine au (x:=some fa) aB (aD (aY (x:=some A.a) j 6 rfl rfl ?_))
  rw[←z,←W] at j ⊢
  refine yf (i:=8) j rfl P (by omega) λA4 ao ap ad=>?_
  rw[W,z] at ad
  exact hQ A4 wa M ao (ap.trans (W.trans z)) (T.trans w) P.flush ((nS P).trans (l3.trans l2)) ad
end
end Mo
end
end Go.Proofs.YtbijlklgbfminaaGreat
section
namespace KM
structure KX (D:Dk) (S:St) (c:bC) (id aO sl:Int) (rg:jZ) (slot:Int) (m0 m1:Im) (l:List (Pos×Rec)) (en:Pos) (f:Fd):Prop where
 sup:cY (D.sec 0) (D.sec 1)=some ((c,id,aO),sl)
 len:all c<=D.now.length
 tt:kh c (D.gw (bN c 0) (cD c).toNat) (D.gw (bN c 1) (cD c).toNat)=some (rg,slot)
 p0:ft c D false 0 rg.lb (vj c.1.toNat)=some m0
 p1:ft c D true 0 rg.lo m0=some m1
 ch:rJ c D (c.2.1.toNat+1) rg.pos=some (l,en)
 fe:f=(l.foldl (Fd.kR c) ⟨⟨rg.cG,List.replicate c.2.1.toNat 0⟩,m1,rg.aV,rg.seq,rg.done,rg.pos.2.2.2.2⟩).forget
 pos:iT c (en.1,en.2.1,en.2.2.1,en.2.2.2.1,aO+1)=true
 sm:eG c id (aO+1)=true
 st:(dU (0,0) f.t.l en.1).1=1
 S_:S=⟨c,((D.put (bW c en.1+en.2.1) (List.replicate 64 0)).put ((aO+1)% 2) (iS c id (aO+1))).flush,{f.t with v:=lg c f.t.v f.m.refs},f.m,⟨(en.1,en.2.1,en.2.2.1,en.2.2.2.1,aO+1),[],[]⟩,⟨rg.mode,rg.view,f.aV,f.seq,f.done,aO+1,rg.gen,slot,rg.lb,rg.lo⟩⟩
theorem zj {D:Dk} {S:St} (h:kz D=some S):∃c id aO sl rg slot b m1 l en f,KX D S c id aO sl rg slot b m1 l en f:=by
 unfold kz at h
 generalize e1:cY (D.sec 0) (D.sec 1)=o1 at h
 rcases o1 with _|⟨⟨c,id,aO⟩,sl⟩
 ·cases h
 simp only at h
 by_cases d:(D.now.length:Int)<all c
 ·rw[if_pos d] at h;cases h
 rw[if_neg d] at h
 generalize e2:kh c (D.gw (bN c 0) (cD c).toNat) (D.gw (bN c 1) (cD c).toNat)=o2 at h
 rcases o2 with _|⟨rg,slot⟩
 ·cases h
 simp only at h
 generalize e3:ft c D false 0 rg.lb (vj c.1.toNat)=o3 at h
 rcases o3 with _|b
 ·cases h
 simp only at h
 generalize e:ft c D true 0 rg.lo b=i at h
 rcases i with _|m1
 ·cases h
 simp only at h
 generalize e5:rJ c D (c.2.1.toNat+1) rg.pos=j at h
 rcases j with _|⟨l,en⟩
 ·cases h
 simp only at h
 generalize g:(l.foldl (Fd.kR c) ⟨⟨rg.cG,List.replicate c.2.1.toNat 0⟩,m1,rg.aV,rg.seq,rg.done,rg.pos.2.2.2.2⟩).forget=f at h
 split at h
 ·next a=>
  simp only[Bool.and_eq_true,beq_iff_eq] at a
  refine⟨c,id,aO,sl,rg,slot,b,m1,l,en,f,e1,by omega,e2,e3,e,e5,g.symm,a.1.1,a.1.2,a.2,(Option.some.inj h).symm⟩
 ·cases h
end KM
end
section
namespace KM
def xw (u:cz):Prop:=(0<=u.1/\u.1<=2)/\0<=u.2/\u.2<=2147483647
structure gF (N:Nat) (t:Tb):Prop where
 l:t.l.length=N
 v:t.v.length=N
 vr:∀x,x∈t.v->0<=x/\x<=2147483647
 us:∀u,u∈t.l->xw u
theorem Gs {l:List cz} (h:∀u,u∈l->xw u) (k:Int):xw (dU (0,0) l k):=by
 have z:xw (0,0):=⟨by simp,by simp⟩
 unfold dU
 split
 ·rw[List.getD]
  cases a:l[k.toNat]? with
  |none=>exact z
  |some y=>exact h y (List.mem_of_getElem? a)
 ·exact z
theorem JA {l:List cz} (h:∀u,u∈l->xw u) {k s:Int} (a:0<=s/\s<=2):∀u,u∈vZ l k s->xw u:=λu hu=>by
 rcases List.mem_or_eq_of_mem_set hu with hu|hu
 ·exact h u hu
 ·subst hu;exact⟨a,(Gs h k).2⟩
theorem Q7 {l:List cz} (h:∀u,u∈l->xw u) {k s:Int} (a:0<=s/\s<=2147483647):∀u,u∈AS l k s->xw u:=λu hu=>by
 rcases List.mem_or_eq_of_mem_set hu with hu|hu
 ·exact h u hu
 ·subst hu;exact⟨(Gs h k).1,a⟩
theorem gF.pn {N:Nat} {t:Tb} (h:gF N t) (k:Int):gF N (t.pn k):=by
 unfold Tb.pn pk tn
 split
 ·refine⟨by rw[vZ,List.length_set];exact h.l,by rw[List.length_set];exact h.v,λx a=>?_,JA h.us (by omega)⟩
  rcases List.mem_or_eq_of_mem_set a with a|a
  ·exact h.vr x a
  ·subst a;omega
 ·exact h
theorem gF.P0 {N:Nat} {t:Tb} (h:gF N t) (k:Int):gF N ⟨qj t.l k,t.v⟩:=by
 unfold qj
 split
 ·exact⟨by show(vZ _ _ _).length=N;rw[vZ,List.length_set];exact h.l,h.v,h.vr,JA h.us (by omega)⟩
 ·exact h
theorem gF.KY {N:Nat} {t:Tb} (h:gF N t) (k s:Int):gF N ⟨gr t.l k s,t.v⟩:=by
 unfold gr
 split
 ·next a=>
  simp only[Bool.and_eq_true,decide_eq_true_eq] at a
  exact⟨by show(AS _ _ _).length=N;rw[AS,List.length_set];exact h.l,h.v,h.vr,Q7 h.us a.2⟩
 ·exact h
theorem Q8 {x b:Int} (h:0<=x):0<=vc x b/\vc x b<=2147483647:=by unfold vc;split<;>omega
theorem EA {c:bC} {v:List Int} {a b:Int} (h:∀x,x∈v->0<=x/\x<=2147483647):∀x,x∈lF c v a b->0<=x/\x<=2147483647:=by
 unfold lF
 split
 ·intro x d
  rcases List.mem_or_eq_of_mem_set d with d|d
  ·exact h x d
  ·subst d
   refine Q8 ?_
   unfold dU
   split
   ·rw[List.getD]
    cases e:v[((a-base c)/c.2.2).toNat]? with
    |none=>show(0:Int)<=0;omega
    |some y=>exact(h y (List.mem_of_getElem? e)).1
   ·omega
 ·exact h
theorem CP {c:bC} {v:List Int} {a b:Int}:(lF c v a b).length=v.length:=by unfold lF;split<;>simp
theorem gF.KZ {N:Nat} {t:Tb} (h:gF N t) (c:bC) (a b:Int):gF N ⟨t.l,lF c t.v a b⟩:=⟨h.l,CP.trans h.v,EA h.vr,h.us⟩
theorem gF.refs {N:Nat} {t:Tb} (h:gF N t) (c:bC):∀(l:List (Int×Int)),gF N ⟨t.l,lg c t.v l⟩:=by
 intro l
 induction l generalizing t with
 |nil=>exact h
 |cons x l a=>exact a (h.KZ c x.2 1)
theorem gF.gone {N:Nat} {t:Tb} (h:gF N t) (c:bC):∀(l:List Int),gF N ⟨t.l,wC c t.v l⟩:=by
 intro l
 induction l generalizing t with
 |nil=>exact h
 |cons x l a=>
  show gF N ⟨t.l,wC c (if 0<x then lF c t.v x (-1) else t.v) l⟩
  split
  ·exact a (h.KZ c x (-1))
  ·exact a h
theorem Q9 {N:Nat} {f:Fd} (h:gF N f.t) (i:iY) (a:Int):gF N (f.sN i a).t:=by
 unfold Fd.sN
 repeat (split;·first|exact h|exact h.pn _)
 exact h
theorem Gt {N:Nat}:∀(l:List iY) {f:Fd} (h:gF N f.t) (a:Int),gF N (f.items a l).t
 |[],f,h,a=>h
 |i::l,f,h,a=>Gt l (Q9 h i _) _
theorem Ol {N:Nat} {f:Fd} (h:gF N f.t) (m:Int):gF N (f.oP m).t:=by unfold Fd.oP;split<;>exact h
theorem RA {N:Nat} {f:Fd} (h:gF N f.t) (c:bC) (x:Pos×Rec):gF N (f.kR c x).t:=by
 have a:=Gt x.2.items (Ol h x.2.aO) (bW c x.1.1+x.1.2.1)
 show gF N ⟨if _ then qj (gr _ _ _) _ else gr _ _ _,_⟩
 split
 ·exact(a.KY _ _).P0 _
 ·exact a.KY _ _
theorem CQ {N:Nat}:∀(l:List (Pos×Rec)) {f:Fd} (h:gF N f.t) (c:bC),gF N (l.foldl (Fd.kR c) f).t
 |[],f,h,c=>h
 |x::l,f,h,c=>CQ l (RA h c x) c
end KM
end
section
namespace KM
def sE (D:Dk):Bool:=match cY (D.sec 0) (D.sec 1) with
 |none=>false
 |some ((c,id,aO),_)=>match kh c (D.gw (bN c 0) (cD c).toNat) (D.gw (bN c 1) (cD c).toNat) with
  |none=>false
  |some (r,slot)=>match ft c D false 0 r.lb (vj c.1.toNat) with
   |none=>false
   |some a=>match ft c D true 0 r.lo a with
    |none=>false
    |some m1=>match rJ c D (c.2.1.toNat+1) r.pos with
     |none=>false
     |some (l,en)=>uX c c.1.toNat ⟨⟨r.cG,List.replicate c.2.1.toNat 0⟩,m1,r.aV,r.seq,r.done,r.pos.2.2.2.2⟩ l
theorem KX.UG {D:Dk} {S:St} {c:bC} {id aO sl:Int} {rg:jZ} {slot:Int} {a m1:Im} {l:List (Pos×Rec)} {en:Pos} {f:Fd} (P:KX D S c id aO sl rg slot a m1 l en f) (h:sE D=true):
 uX c c.1.toNat ⟨⟨rg.cG,List.replicate c.2.1.toNat 0⟩,m1,rg.aV,rg.seq,rg.done,rg.pos.2.2.2.2⟩ l=true:=by
 unfold sE at h
 rw[P.sup] at h
 simp only at h
 rw[P.tt] at h
 simp only at h
 rw[P.p0] at h
 simp only at h
 rw[P.p1] at h
 simp only at h
 rw[P.ch] at h
 exact h
theorem JB {c:bC} {a b:Bs} {r:jZ} {s:Int} (h:kh c a b=some (r,s)):iU c r=true:=by
 have key:∀{b:Bs} {y:jZ},ph c b=some y->iU c y=true:=λ{b y} e=>by
  unfold ph at e
  have e:=Gi e
  obtain⟨d,f⟩:=e
  rw[←Option.some.inj f]
  rw[Bool.and_eq_true] at d
  exact d.1
 have h:vJ (ph c a) (ph c b)=some (r,s):=h
 generalize e1:ph c a=o1 at h
 generalize e2:ph c b=o2 at h
 rcases o1 with _|x
 ·rcases o2 with _|y
  ·cases h
  ·have:=Option.some.inj h;injection this with d;rw[←d];exact key e2
 ·rcases o2 with _|y
  ·have:=Option.some.inj h;injection this with d;rw[←d];exact key e1
  ·simp only[vJ] at h
   split at h
   ·have:=Option.some.inj h;injection this with d;rw[←d];exact key e1
   ·have:=Option.some.inj h;injection this with d;rw[←d];exact key e2
end KM
namespace Go.Proofs.YtbijlklgbfminaaGreat
namespace So
open Go Go.Kx KM Rw Ge Sc Rg Mo
abbrev xH (d g t m w:Option Addr) (st:xv) (slot:Int) (lb lo:Sl):List Value:=[.pointer d,.pointer g,.pointer t,.pointer m,.pointer w,i64 st.1,i64 st.2.1,i64 st.2.2.1,i64 st.2.2.2.1,i64 st.2.2.2.2.1,i64 st.2.2.2.2.2.1,i64 st.2.2.2.2.2.2.1,i64 st.2.2.2.2.2.2.2.1,i64 st.2.2.2.2.2.2.2.2.1,i64 st.2.2.2.2.2.2.2.2.2,i64 slot,Sl.v lb,Sl.v lo]
structure Ad where
 da:Addr
 g:Option Addr
 ta:Addr
 ia:Addr
 ib:Addr
 io:Addr
 wa:Addr
 sa:Addr
 s:Sl
 t:Sl
 s0:Sl
 t0:Sl
 s1:Sl
 t1:Sl
structure mq (B:PH) (X:Ad) (c:bC):Prop where
 g:Gm B X.g c
 ta:aZ B X.ta (Us.gV X.g X.s X.t)
 im:Ig.qI B X.ia X.ib X.io X.s0 X.t0 X.s1 X.t1
theorem mq.ext {B a:PH} {X:Ad} {c:bC} (h:mq B X c) (x:Ext B a):mq a X c:=⟨h.g.ext x,h.ta.ext x,h.im.ext x⟩
abbrev xx (S:KM.St):xv:=(S.n.mode,S.n.view,S.n.aV,S.n.seq,S.n.done,S.n.aO,S.n.gen,0,0,0)
structure Wt where
 jM:Sl
 kD:Sl
 bl:List Sl
 lb:Sl
 lo:Sl
structure iJ (B:PH) (W:Wt) (S:KM.St):Prop where
 lb:fv B W.lb S.n.lb
 lo:fv B W.lo S.n.lo
 len:W.bl.length=S.w.blocks.length
 at_:∀(i:Nat) (x:Sl) (b:Bs),W.bl[i]?=some x->S.w.blocks[i]?=some b->Bytes B x b
theorem iJ.ext {B d:PH} {W:Wt} {S:KM.St} (h:iJ B W S) (x:Ext B d):iJ d W S:=⟨h.lb.ext x,h.lo.ext x,h.len,λi a b e f=>(h.at_ i a b e f).ext x⟩
abbrev El (A:Ds.DA) (X:Ad) (W:Wt) (S:KM.St):List Ob:=
 [Ds.av A S.d,aq Us.bQ 2 X.s S.t.l,aW i64 X.t S.t.v,aG X.wa (Wr.vS (some X.da) X.g (some X.ta) S.w.p W.jM W.kD),aq It.eB 4 W.jM S.w.items,aW Sl.v W.kD W.bl,aG X.sa (xH (some X.da) X.g (some X.ta) (some X.ia) (some X.wa) (xx S) S.n.slot W.lb W.lo)]
abbrev nY (A:Ds.DA) (X:Ad) (W:Wt) (S:KM.St):List Ob:=Ig.dR X.s0 X.t0 X.s1 X.t1 S.m++El A X W S
abbrev bx (A:Ds.DA) (X:Ad) (W:Wt) (S:KM.St) (R:List Ob):List Ob:=nY A X W S++R
section
variable {H B:PH} {L R:List Ob} {k n:Nat} {A:Ds.DA} {D:Dk} {c:bC}
theorem uv {p:Sl} {l:List Int} {Q:Sl->PH->Prop} (d:fv H p l) (e:l.length<=2 ^ 20) (b:∀q H',aA H' [aC H,aW i64 q l]->Q q H'):c6 p H Q:=
 zF (enc:=i64) d a rfl (by omega) b
where a:∀y:Int,cI (i64 y)=true:=λ_=>rfl
theorem Mp {d g t m w:Option Addr} {f:sY} {rg:jZ} {st:xv} {slot:Int} {Q:Option Addr->PH->Prop} (h:aA H (aC B::L)) (J:uD B f rg) (u:rg.lb.length<=2 ^ 20/\rg.lo.length<=2 ^ 20)
 (G:∀lb lo sa b H',Ext B b->fv b lb rg.lb->fv b lo rg.lo->aA H' (aC b::aG sa (xH d g t m w st slot lb lo)::L)->Q (some sa) H'):vx d t m w g slot f st H Q:=by
 obtain⟨sb,so,ss,rfl,s⟩:=J
 refine az h λa1 H1 E=>az E λS N a=>bk (x:=st) a rfl rfl (aY (enc:=Sl.v) (x:=sb) a 2 rfl rfl (aY (enc:=Sl.v) (x:=so) a 2 rfl rfl ?_))
 refine uv (s.lb.ext a.base) u.1 λq O o=>gX (a.made o) λM i I e=>cw e 2 rfl rfl (tY e 1 rfl rfl rfl ?_)
 refine uv ((s.lo.ext i).ext e.base) u.2 λK P r=>gX (e.made r) λz j y p=>tY p 1 rfl rfl rfl ?_
 exact az p.ak.ak λl C F=>G q K l z C (i.trans j) (I.ext j) y F
end
end So
namespace Mo
open Go Go.Kx KM Rw Cr Ds Ge Rc Sc Rg So
section
variable {H B:PH} {L R:List Ob} {k n:Nat} {A:Ds.DA} {D:Dk} {c:bC}
theorem BM (c:bC) (h:0<=c.1):((pH c.1.toNat 15).toNat:Int)=(cR c).toNat:=by
 simp only[pH,cR];omega
theorem Mq {S:KM.St} {Q:Option Addr->Int->PH->Prop} (h:aA H (aC B::av A D::L)) (ok:cM k D) (hk:k+3< 2 ^ 29) (hS:kz D=some S) (ae:sE D=true)
 (hQ:∀A' X W T H',A'.a=A.a->A'.a=X.da->Ext B T->mq T X S.c->iJ T W S->W.jM=Sl.nil->bg S.c->cM (k+3) S.d->S.d.now.length=D.now.length->all S.c<=D.now.length->Ig.dM S.c.1.toNat S.m->gF S.c.2.1.toNat S.t->
  aA H' (aC T::bx A' X W S L)->Q (some X.sa) 0 H'):vy (some A.a) H Q:=by
 obtain⟨c,id,aO,sl,rg,slot,m0,m1,l,en,f,P⟩:=zj hS
 have aa:=P.UG ae
 have Z:=JB P.tt
 have w:=parts Z
 have q:bg c:=(Su.jF P.sm).1
 have ay:=gE q
 have au:=q.1;have aw:=q.2.1;have ax:=q.2.2.1
 refine aE rfl (az h λfa H1 h1=>?_)
 refine uC h1 ok (by omega) P.sup P.len λg B2 H2 ao hg h2=>aE rfl ?_
 refine Mo.qP (a0:=[]) h2 ok (by omega) hg q P.len P.tt Z λaB ta s t ia ib io s0 t0 s1 t1 B3 H3 ac af M z h3=>aE rfl ?_
 obtain⟨o,p,r,rfl,hR⟩:=af
 have y:=hg.ext ac
 have ag:=Ig.Md (n:=c.1.toNat) (by omega)
 have e0:((vj c.1.toNat).cW false).length=(cR c).toNat:=by
  have:=BM c (by omega)
  show(List.replicate (pH c.1.toNat 15).toNat false).length=_
  rw[List.length_replicate];omega
 refine cr (enc:=Sl.v) (x:=o) h3 5 rfl rfl ?_
 refine fB (aQ:=false) h3 ok (by omega) y q P.len z ag (by rw[e0];omega) (hR.lb) w.lb.1 w.lb.2 P.p0 λB4 H4 C K h4=>aE rfl ?_
 refine cr (enc:=Sl.v) (x:=p) h4 5 rfl rfl ?_
 have e1:(m0.cW true).length=(cR c).toNat:=by
  have h1:=(K.cW true).d
  have h2:=K.fq true
  have:=BM c (by omega)
  rw[h2] at h1;omega
 refine fB (aQ:=true) h4 ok (by omega) (y.ext C) q P.len (z.ext C) K (by rw[e1];omega) (hR.lo.ext C) w.lo.1 w.lo.2 P.p1 λB5 H5 ad am h5=>aE rfl ?_
 have e:=C.trans ad
 have e:=C.trans ad
 have N:gF c.2.1.toNat (⟨rg.cG,List.replicate c.2.1.toNat 0⟩:Tb):=⟨by show rg.cG.length=_;have:=w.cG;omega,by simp,λx hx=>by rw[(List.mem_replicate.1 hx).2];omega,λu hu=>w.us u hu⟩
 have h6:aA H5 (aC B5::lk (some A.a) g (Su.sup c id aO) (eC rg o p r) slot fa ta ia rg dp s t s0 t0 s1 t1 ⟨⟨rg.cG,List.replicate c.2.1.toNat 0⟩,m1,rg.aV,rg.seq,rg.done,rg.pos.2.2.2.2⟩ (av A D::L)):=
  aA.GV (X:=Ig.dR s0 t0 s1 t1 m1++[aG fa (iE (some A.a) g (Su.sup c id aO) (eC rg o p r) slot (some ta) (some ia) (Ak rg) dp),av A D,aq Us.bQ 2 s rg.cG,aW i64 t (List.replicate c.2.1.toNat 0)])
   (Y:=Ig.dR s0 t0 s1 t1 m1++[aG fa (iE (some A.a) g (Su.sup c id aO) (eC rg o p r) slot (some ta) (some ia) (Ak rg) dp),aq Us.bQ 2 s rg.cG,aW i64 t (List.replicate c.2.1.toNat 0),av A D]) h5 8 [0,1,2,3,4,6,7,5] rfl (by decide) rfl
 have fe:=P.fe
 have J:rO c.1.toNat ⟨⟨rg.cG,List.replicate c.2.1.toNat 0⟩,m1,rg.aV,rg.seq,rg.done,rg.pos.2.2.2.2⟩:=⟨am,by rw[N.v,N.l]⟩
 have O:gF c.2.1.toNat f.t:=by rw[fe];exact CQ l N c
 have V:(⟨⟨rg.cG,List.replicate c.2.1.toNat 0⟩,m1,rg.aV,rg.seq,rg.done,rg.pos.2.2.2.2⟩:KM.Fd).aO=rg.pos.2.2.2.2:=rfl
 generalize(⟨⟨rg.cG,List.replicate c.2.1.toNat 0⟩,m1,rg.aV,rg.seq,rg.done,rg.pos.2.2.2.2⟩:KM.Fd)=f0 at h6 fe J aa V
 refine Gq h6 ok (by omega) (y.ext e) q P.len (z.ext e) (M.ext e) J V P.ch aa λB7 H7 I E h7=>aE rfl ?_
 rw[←fe] at E h7
 refine Hp h7 ok hk ((y.ext e).ext I) q P.len ((z.ext e).ext I) ((M.ext e).ext I) E (by rw[O.v];omega) O.vr P.pos P.sm P.st λj wa B8 H8 U ap an l8 F=>aE rfl ?_
 have ab:=e.trans (I.trans ap)
 refine aY (x:=some ta) F 6 rfl rfl (aY (x:=some ia) F 6 rfl rfl (aY (x:=g) F 6 rfl rfl (aY (x:=slot) F 6 rfl rfl ?_)))
 refine nX (en:=dF) (x:=eC rg o p r) F 6 rfl (by simp) rfl (nX (en:=cX) (x:=stM rg f (aO+1)) F 6 rfl (by simp) rfl ?_)
 refine Mp F (rg:=rg) ⟨o,p,r,rfl,hR.ext ab⟩ ⟨by have:=w.lb.1;omega,by have:=w.lo.1;omega⟩ λlb lo sa B9 H9 ar ak al h9=>?_
 have eS:=P.S_
 have G:=ab.trans ar
 refine hQ j ⟨j.a,g,ta,ia,ib,io,wa,sa,s,t,s0,t0,s1,t1⟩ ⟨Sl.nil,Sl.nil,[],lb,lo⟩ B9 H9 U rfl (ao.trans (ac.trans G)) ?_ ?_ rfl ?_ ?_ ?_ ?_ ?_ ?_ ?_
 all_goals rw[eS]
 ·exact⟨y.ext G,M.ext G,z.ext G⟩
 ·exact⟨ak,al,rfl,λi x b hx=>by simp at hx⟩
 ·exact q
 ·exact an
 ·exact l8
 ·exact P.len
 ·exact E.im
 ·exact O.refs c f.m.refs
 ·generalize((D.put (bW c en.1+en.2.1) (List.replicate 64 0)).put ((aO+1)% 2) (iS c id (aO+1))).flush=D9 at h9 ⊢
  rw[←U] at h9
  have ah:=(show aA H9 (aC B9::(aG sa (xH (some j.a) g (some ta) (some ia) (some wa) (stM rg f (aO+1)) slot lb lo)::aG wa (Wr.vS (some j.a) g (some ta) (en.1,en.2.1,en.2.2.1,en.2.2.2.1,aO+1) Sl.nil Sl.nil)::Ig.dR s0 t0 s1 t1 f.m++aG fa (iE (some j.a) g (Su.sup c id (aO+1)) (eC rg o p r) slot (some ta) (some ia) (stM rg f (aO+1)) (en.1,en.2.1,en.2.2.1,en.2.2.2.1,aO+1))::(aq Us.bQ 2 s f.t.l::aW i64 t (lg c f.t.v f.m.refs)::av j D9::L))) from h9).jx
  have ai:=zU (enc:=Sl.v) ah
  have aj:=aA.up (ai.zG (enc:=It.eB) (sz:=4))
  exact aA.GV (X:=[aq It.eB 4 Sl.nil [],aW Sl.v Sl.nil [],aG sa (xH (some j.a) g (some ta) (some ia) (some wa) (stM rg f (aO+1)) slot lb lo),aG wa (Wr.vS (some j.a) g (some ta) (en.1,en.2.1,en.2.2.1,en.2.2.2.1,aO+1) Sl.nil Sl.nil)]++Ig.dR s0 t0 s1 t1 f.m++[aq Us.bQ 2 s f.t.l,aW i64 t (lg c f.t.v f.m.refs),av j D9])
   (Y:=Ig.dR s0 t0 s1 t1 f.m++[av j D9,aq Us.bQ 2 s f.t.l,aW i64 t (lg c f.t.v f.m.refs),aG wa (Wr.vS (some j.a) g (some ta) (en.1,en.2.1,en.2.2.1,en.2.2.2.1,aO+1) Sl.nil Sl.nil),aq It.eB 4 Sl.nil [],aW Sl.v Sl.nil [],aG sa (xH (some j.a) g (some ta) (some ia) (some wa) (stM rg f (aO+1)) slot lb lo)])
   aj 11 [4,5,6,7,10,8,9,3,0,1,2] rfl (by decide) rfl
end
end Mo
end Go.Proofs.YtbijlklgbfminaaGreat
end
section
namespace KM
theorem Gu:∀(n:Nat) (b:Bs),b.length=64*n->∀j x,(chunks b n)[j]?=some x->x=(b.drop (64*j)).take 64/\x.length=64
 | 0,b,_,j,x,h=>by simp[chunks] at h
 |n+1,b,d,0,x,h=>by
  simp[chunks] at h;subst h
  simp;omega
 |n+1,b,d,j+1,x,h=>by
  rw[chunks,List.getElem?_cons_succ] at h
  obtain⟨a,c⟩:=Gu n (b.drop 64) (by simp;omega) j x h
  refine⟨?_,c⟩
  rw[a,List.drop_drop];congr 2;omega
theorem Bm:∀l:List Bs,(∀b∈l,b.length=64)->chunks l.flatten l.length=l
 |[],_=>rfl
 |b::l,h=>by
  have c:=h b (by simp)
  rw[List.flatten_cons,List.length_cons,chunks,List.take_append_of_le_length (by omega),List.take_of_length_le (by omega),List.drop_append_of_le_length (by omega),List.drop_of_length_le (by omega),List.nil_append,Bm l λx a=>h x (by simp[a])]
theorem xy:∀(n:Nat) (b:Bs),(chunks b n).length=n
 | 0,_=>rfl
 |n+1,b=>by rw[chunks,List.length_cons,xy n]
theorem Em:∀(n:Nat) (b:Bs),chunks b (n+1)=chunks b n++[(b.drop (64*n)).take 64]
 | 0,b=>by simp[chunks]
 |n+1,b=>by rw[chunks,Em n,chunks,List.cons_append,List.drop_drop,show 64+64*n=64*(n+1) by omega]
theorem DQ:∀(n i:Nat) (b:Bs),i<=n->chunks b i=(chunks b n).take i
 |n,0,b,_=>by simp[chunks]
 | 0,i+1,b,h=>by omega
 |n+1,i+1,b,h=>by rw[chunks,chunks,List.take_succ_cons,←DQ n i _ (by omega)]
theorem uw {D:Dk} {k n i:Nat} {b:Bs} {at_:Int} (ok:cM k D) (f:b.length=64*n) (d:bU b) (c:0<=at_) (h:at_+n<=D.now.length) (hi:i<=n):cM (k+i) (D.kQ at_ (chunks b i))/\(D.kQ at_ (chunks b i)).now.length=D.now.length:=by
 have:=BI (chunks b i) (at_:=at_) ok c (by rw[xy];omega) λx a=>by
  rw[DQ n i b hi] at a
  obtain⟨j,e⟩:=List.getElem?_of_mem (List.mem_of_mem_take a)
  obtain⟨e1,e2⟩:=Gu n b f j x e
  subst e1
  exact⟨e2,λy g=>d y (List.mem_of_mem_drop (List.mem_of_mem_take g))⟩
 rw[xy] at this
 exact this
end KM
namespace Go.Proofs.YtbijlklgbfminaaGreat
namespace So
open Go Go.Kx KM Rw Ge Sc Rg Mo Ds Rc
structure lq (k:Nat) (S:KM.St):Prop where
 c:bg S.c
 dk:cM k S.d
 len:all S.c<=S.d.now.length
 im:Ig.dM S.c.1.toNat S.m
 tb:gF S.c.2.1.toNat S.t
 p1:0<=S.w.p.1/\S.w.p.1<S.c.2.1
 p2:0<=S.w.p.2.1/\S.w.p.2.1<=S.c.2.2
 dQ:1<=S.w.p.2.2.1/\S.w.p.2.2.1<=k
 prev:0<=S.w.p.2.2.2.1/\S.w.p.2.2.2.1<=4294967295
 vm:1<=S.w.p.2.2.2.2/\S.w.p.2.2.2.2<=2147483647
theorem lq.mono {k m:Nat} {S:KM.St} (h:lq k S) (hm:k<=m):lq m S:={h with dk:=h.dk.mono hm,dQ:=⟨h.dQ.1,by have:=h.dQ.2;omega⟩}
section
variable {H B:PH} {L R:List Ob} {k n:Nat} {A:Ds.DA} {X:Ad} {W:Wt} {S:KM.St}
theorem lq.head (h:lq k S) (hk:k< 2 ^ 28):Hd.may (S.w.p.1,S.w.p.2.2.2.2,S.w.p.2.2.1,S.w.p.2.2.2.1)=true:=by
 have:=h.p1;have:=h.vm;have:=h.dQ;have:=h.prev;have:=h.c.2.2.2.1
 simp only[Hd.may,BG,Bool.and_eq_true,KM.bY]
 omega
theorem lq.bZ (h:lq k S) (hk:k< 2 ^ 28) (m:S.w.p.2.1<S.c.2.2):lq (k+1) S.bZ/\1<=S.bZ.w.p.2.1/\S.bZ.w.p.2.1<S.c.2.2/\S.bZ.d.now.length=S.d.now.length:=by
 have i:=h.c.2.2.2.2.1
 have j:=h.p2
 unfold KM.St.bZ
 simp only
 split
 ·exact⟨h.mono (by omega),by omega,by omega,rfl⟩
 ·have o:=Sc.mY h.c h.p1
  have g:=h.len
  have a:(xc S.w.p.1 S.w.p.2.2.2.2 S.w.p.2.2.1 S.w.p.2.2.2.1).length=64:=Hd.len (x:=(S.w.p.1,S.w.p.2.2.2.2,S.w.p.2.2.1,S.w.p.2.2.2.1))
  have e:bU (xc S.w.p.1 S.w.p.2.2.2.2 S.w.p.2.2.1 S.w.p.2.2.2.1):=Hd.tU (h.head hk)
  generalize xc S.w.p.1 S.w.p.2.2.2.2 S.w.p.2.2.1 S.w.p.2.2.2.1=f at a e ⊢
  have ok:=h.dk.put (at_:=bW S.c S.w.p.1) (b:=f) ⟨by omega,by omega⟩ a e
  have l:=uU h.dk (at_:=bW S.c S.w.p.1) (b:=f) ⟨by omega,by omega⟩ a
  refine⟨⟨h.c,ok,?_,h.im,h.tb,h.p1,⟨by show(0:Int)<=1;omega,by show(1:Int)<=S.c.2.2;omega⟩,⟨h.dQ.1,by have:=h.dQ.2;show S.w.p.2.2.1<=((k+1:Nat):Int);omega⟩,h.prev,h.vm⟩,Int.le_refl 1,by show(1:Int)<S.c.2.2;omega,l⟩
  show _<=((S.d.put (bW S.c S.w.p.1) f).now.length:Int)
  rw[l];exact g
theorem wH {Q:Int->PH->Prop} (h:aA H (aC B::bx A X W S R)) (l:A.a=X.da) (C:mq B X S.c) (ok:lq k S) (hk:k< 2 ^ 28)
 (f:∀m o H',m.a=X.da->Ext B o->aA H' (aC o::bx m X W S.bZ R)->Q 0 H'):j0 (some X.wa) H Q:=by
 refine aD (cr (x:=S.w.p.2.1) h 8 rfl rfl (aL (λc1=>?_) (λc1=>?_)))
 ·have e:S.bZ=S:=by unfold KM.St.bZ;simp only;rw[if_pos (by simpa using c1)]
  rw[e] at f
  exact f A B H l (.refl B) h
 ·have K:=Sc.mY ok.c ok.p1
  have J:=ok.len
  have I:=ok.c.2.2.2.2.1
  have e:S.bZ={S with d:=S.d.put (bW S.c S.w.p.1) (xc S.w.p.1 S.w.p.2.2.2.2 S.w.p.2.2.1 S.w.p.2.2.2.1),w:={S.w with p:=(S.w.p.1,1,S.w.p.2.2.1,S.w.p.2.2.2.1,S.w.p.2.2.2.2)}}:=by
   unfold KM.St.bZ;simp only;rw[if_neg (by simpa using c1)]
  rw[e] at f
  refine aD (cr (x:=S.w.p.1) h 8 rfl rfl (aD (cr (x:=S.w.p.2.2.2.2) h 8 rfl rfl (aD (cr (x:=S.w.p.2.2.1) h 8 rfl rfl (aD (cr (x:=S.w.p.2.2.2.1) h 8 rfl rfl ?_)))))))
  refine Hd.dt (x:=(S.w.p.1,S.w.p.2.2.2.2,S.w.p.2.2.1,S.w.p.2.2.2.1)) (ok.head hk) λE H1 r=>gX (h.made r) λu j D b=>aE rfl ?_
  refine aD (aY (x:=some X.da) b 8 rfl rfl (aD (aY (x:=X.g) b 8 rfl rfl (aD (cr (x:=S.w.p.1) b 8 rfl rfl ?_)))))
  refine Sc.xF ((C.g.ext j).ext b.base) ok.c ok.p1 λF s=>cw (b.ext s) 8 rfl rfl ?_
  rw[←l]
  refine wQ (i:=4) (b.ext s) rfl ok.dk (by omega) ⟨by omega,by omega⟩ D (Hd.len (x:=(S.w.p.1,S.w.p.2.2.2.2,S.w.p.2.2.1,S.w.p.2.2.2.1))) λt G q y=>aE rfl (aD ?_)
  refine jy (Wr.vS (some X.da) X.g (some X.ta) (S.w.p.1,1,S.w.p.2.2.1,S.w.p.2.2.2.1,S.w.p.2.2.2.2) W.jM W.kD) y 8 rfl (by simp) rfl rfl λv z=>?_
  exact f t u v (q.trans l) j z
theorem ux {a b:Int} {Q:Int->PH->Prop} (h:0<=a/\a<=1000) (d:0<=b/\b<=1000) (c:Q (behind a b) H):jm a b H Q:=by
 unfold jm
 have e:(if a< 1 then 1 else a)=max a 1:=by split<;>omega
 rw[e,bo (x:=max a 1+1) (by omega) (by omega),bo (by omega) (by omega)]
 exact c
theorem Gv (r:Rec):0<=gU r/\gU r<=4294967295:=AO _
theorem Hq (r:Rec):(oz r).length=1+r.blocks.length:=by simp[oz];omega
theorem DR {r:Rec} (hm:dy r=true) (c:∀b∈r.blocks,b.length=64):chunks (wv r) (1+r.blocks.length)=oz r:=by
 have:=Bm (oz r) λb a=>by
  simp only[oz,List.mem_cons] at a
  rcases a with rfl|a
  ·rw[List.length_append,(CF hm).1,bI]
  ·exact c b a
 rw[Hq] at this
 exact this
abbrev uY (S:KM.St) (items:List iY) (blocks:List Bs):Rec:=⟨S.w.p.2.2.2.2,S.w.p.2.2.1,S.w.p.2.2.2.1,items,blocks⟩
theorem JC {r:Rec} (h:dy r=true):(1<=r.items.length/\r.items.length<=6)/\r.blocks.length<=6/\∀b∈r.blocks,b.length=64:=by
 simp only[dy,Bool.and_eq_true,KM.bY,beq_iff_eq,List.all_eq_true] at h
 have:=h.1.1.1.2
 have:=h.1.2
 have a:=List.countP_le_length (p:=cN) (l:=r.items)
 exact⟨by omega,by omega,h.2⟩
theorem lq.lG (h:lq k S) (hk:k< 2 ^ 28) {items:List iY} {blocks:List Bs} (hm:dy (uY S items blocks)=true) (f:∀b∈blocks,bU b) (j:1<=S.w.p.2.1) (l:S.w.p.2.1+1+blocks.length<=S.c.2.2):lq (k+7) (S.lG items blocks)/\(S.lG items blocks).d.now.length=S.d.now.length:=by
 obtain⟨hi,e,a⟩:=JC hm
 have m:=Sc.mY h.c h.p1
 have g:=h.len
 have key:=uw (i:=1+blocks.length) (at_:=bW S.c S.w.p.1+S.w.p.2.1) h.dk (CI hm) (CH hm f) (by omega) (by show _+((1+blocks.length:Nat):Int)<=_;omega) (Nat.le_refl _)
 rw[DR hm a] at key
 refine⟨⟨h.c,key.1.mono (by show k+(1+blocks.length)<=k+7;have:blocks.length<=6:=e;omega),by rw[show(S.lG items blocks).d.now.length=_ from key.2];exact g,h.im,h.tb.KY _ _,h.p1,⟨?_,?_⟩,⟨?_,?_⟩,Gv _,h.vm⟩,key.2⟩
 ·show 0<=behind _ _;unfold behind;omega
 ·show behind S.w.p.2.1 (blocks.length:Int)<=S.c.2.2;unfold behind;omega
 ·show 1<=S.w.p.2.2.1+1;have:=h.dQ;omega
 ·show S.w.p.2.2.1+1<=_;have:=h.dQ;omega
end
end So
end Go.Proofs.YtbijlklgbfminaaGreat
end
