import Derived.Test.YtbijlklgbfminaaGreatA26
set_option linter.unusedVariables false
set_option linter.unusedSimpArgs false
namespace Go.Proofs.YtbijlklgbfminaaGreat
section
namespace Rc
open Go Go.Kx KM Rw Cr It
abbrev R5:=Int×Int×Int×Sl×Sl
abbrev r5 (x:R5):List Value:=[i64 x.1,i64 x.2.1,i64 x.2.2.1,Sl.v x.2.2.2.1,Sl.v x.2.2.2.2]
def uB (H:PH) (s:Sl) (bs:List Bs):Prop:=∃ls:List (Sl×Bs),ls.map (·.2)=bs/\Cr.Rows H s ls
theorem uB.ext {A B:PH} {s:Sl} {bs:List Bs} (h:uB A s bs) (x:Ext A B):uB B s bs:=let⟨ls,e,r⟩:=h;⟨ls,e,r.ext x⟩
theorem uB.bF {H:PH} {s:Sl} {bs:List Bs} (h:uB H s bs):(s.len:Int)=bs.length:=by
 obtain⟨ls,rfl,r⟩:=h
 rw[r.1.bF];simp
structure oQ (H:PH) (x:R5) (r:Rec):Prop where
 e1:x.1=r.aO
 e2:x.2.1=r.dQ
 e3:x.2.2.1=r.prev
 it:dT eB 4 H x.2.2.2.1 r.items
 bl:uB H x.2.2.2.2 r.blocks
 Sm:r.items.length< 2 ^ 40/\r.blocks.length< 2 ^ 40
theorem oQ.ext {A B:PH} {x:R5} {r:Rec} (h:oQ A x r) (e:Ext A B):oQ B x r:=⟨h.e1,h.e2,h.e3,h.it.ext e,h.bl.ext e,h.Sm⟩
section
variable {H B:PH} {L:List Ob} {x:R5} {r:Rec} {p q:Sl} {b:Bs}
theorem bD {x lo hi:Int} {Q:Bool->PH->Prop} (a:Q (bE x lo hi) H):jl x lo hi H Q:=cq (b:=decide (x<=hi)) (λk=>k) a
theorem call64 {s:Sl} {K:Value->PH->Prop} (a:K (.bool ((s.len:Int) != 64)) H):ue Tryz.prog (.func (.func 328) #[] #[]) [Sl.v s] H K:=by
 refine⟨328,#[],#[],rfl,cP Tryz.func328 rfl rfl,?_⟩
 have h:=Cv (p0:=s) (H:=H) (Q:=λb H'=>H'=H/\b=((s.len:Int) != 64)) ⟨rfl,rfl⟩
 exact dv.mono h λr H' c=>by
  obtain⟨b,rfl,rfl,rfl⟩:=c
  exact a
theorem OW {bs:List Bs} {Q:Bool->PH->Prop} (w:uB H p bs) (v:bs.length< 2 ^ 40) (d:Q (!(bs.all λb=>b.length==64)) H):di p (.func (.func 328) #[] #[]) H Q:=by
 obtain⟨ls,rfl,r⟩:=w
 rw[List.length_map] at v
 unfold di fw
 refine ax ls.length (λk st t=>st=(k:Int)/\t=H/\∀q∈ls.take k,q.2.length=64) ⟨rfl,rfl,by simp⟩ ?_
 rintro k st H1 again hk ⟨rfl,rfl,a⟩ j
 have m:=r.1.bF
 rw[List.length_map] at m
 rw[m]
 refine aL (λc=>?_) (λc=>?_)
 ·have l:k<ls.length:=by simpa using c
  refine eJ r.1 (by omega) (by simp;omega) λs n=>call64 ⟨_,rfl,?_⟩
  rw[Int.toNat_natCast,List.getElem?_map] at n
  obtain⟨q,f,rfl⟩:=Option.map_eq_some_iff.1 n
  have g:=List.mem_of_getElem? f
  rw[(r.2 q g).1.bF]
  refine aL (λc1=>?_) (λc1=>?_)
  ·have i:q.2.length≠64:=by simp at c1;omega
   have e:(!((ls.map (·.2)).all λb=>b.length==64))=true:=by
    rw[Bool.not_eq_true',List.all_eq_false]
    exact⟨q.2,List.mem_map.2 ⟨q,g,rfl⟩,by simpa using i⟩
   rw[e] at d
   show Q (decide (0<=(k:Int))) H1
   rw[decide_eq_true (by omega)];exact d
  ·rw[bH (by omega)]
   refine j l _ _ ⟨rfl,rfl,λy o=>?_⟩
   rw[fk f] at o
   rcases List.mem_append.1 o with h|h
   ·exact a y h
   ·simp at h;subst h;simp at c1;omega
 ·have:k=ls.length:=by simp at c;omega
  subst this
  rw[List.take_length] at a
  have e:(!((ls.map (·.2)).all λb=>b.length==64))=false:=by
   rw[Bool.not_eq_false',List.all_eq_true]
   intro b u
   obtain⟨q,f,rfl⟩:=List.mem_map.1 u
   simpa using a q f
  rw[e] at d
  exact d
theorem fS {Q:Bool->PH->Prop} (e:oQ H x r) (u:∀H',Ext H H'->Q (dy r) H'):vu x H Q:=by
 refine dC (.start H) λa H1 f P=>ay (x:=x.1) f rfl (bD ?_)
 refine vk (b:= !(bE x.2.1 1 2147483647)) (λk=>ay (x:=x.2.1) f rfl (bD k)) ?_
 refine vk (b:= !(bE x.2.2.1 0 4294967295)) (λk=>ay (x:=x.2.2.1) f rfl (bD k)) ?_
 refine vk (b:= !(bE r.items.length 1 6)) (λk=>ay (x:=x.2.2.2.1) f rfl (bD (by rw[e.it.bF];exact k))) ?_
 have j:dy r=(((bE x.1 1 2147483647&&bE x.2.1 1 2147483647&&bE x.2.2.1 0 4294967295&&bE r.items.length 1 6)&&r.items.all cL)&&(r.blocks.length==r.items.countP cN&&r.blocks.all λb=>b.length==64)):=by
  rw[dy,e.e1,e.e2,e.e3];simp only[Bool.and_assoc]
 refine aL (λc=>?_) (λc=>?_)
 ·have q:=u H1 P
  have:dy r=false:=by
   rw[j]
   have:(bE x.1 1 2147483647&&bE x.2.1 1 2147483647&&bE x.2.2.1 0 4294967295&&bE r.items.length 1 6)=false:=by
    rw[←Bool.not_eq_true',Bool.not_and,Bool.not_and,Bool.not_and];exact c
   rw[this];rfl
  rw[this] at q;exact q
 ·have K:(bE x.1 1 2147483647&&bE x.2.1 1 2147483647&&bE x.2.2.1 0 4294967295&&bE r.items.length 1 6)=true:=by
   rw[←Bool.not_eq_false',Bool.not_and,Bool.not_and,Bool.not_and];exact c
  rw[K,Bool.true_and] at j
  refine ay (x:=x.2.2.2.1) f rfl ?_
  have v:=e.Sm
  refine ax r.items.length (λi st J=>st=((((r.items.take i).countP cN:Nat):Int),(i:Int))/\(∀y∈r.items.take i,cL y=true)/\aA J [aC H,aG a (r5 x)]) ⟨rfl,by simp,f⟩ ?_
  rintro i st F again hi ⟨rfl,d,g⟩ C
  have o:=e.it.ext g.base
  rw[o.bF]
  refine aL (λc2=>aF ?_) (λc2=>?_)
  ·have D:i<r.items.length:=by simpa using c2
   refine zH o (by omega) (by omega) λX y l N=>⟨y,N,?_⟩
   rw[Int.toNat_natCast] at l
   have w:=List.mem_of_getElem? l
   refine az g λT V M=>bf (vs:=eB y) M rfl rfl λW A=>bk (x:=y) A rfl rfl (It.fS λG R=>?_)
   have t:=A.ext R
   refine aL (λc3=>?_) (λc3=>?_)
   ·have q:=u G t.base
    have:r.items.all cL=false:=by
     rw[List.all_eq_false];exact⟨y,w,by simpa using c3⟩
    rw[j,this] at q;exact q
   ·have hm:cL y=true:=by simpa using c3
    refine bk (x:=y) t rfl rfl (yL λI S=>?_)
    have U:(r.items.take i).countP cN<=i:=Nat.le_trans List.countP_le_length (by simp;omega)
    have fin:∀n:Nat,n=(r.items.take (i+1)).countP cN->again ((n:Int),IntKind.wrap .i64 ((i:Int)+1)) I:=λn O=>by
     subst O
     rw[bH (by omega)]
     refine C D _ _ ⟨rfl,λz E=>?_,(t.ext S).ak⟩
     rw[fk l] at E
     rcases List.mem_append.1 E with h|h
     ·exact d z h
     ·simp at h;subst h;exact hm
    refine aL (λs=>?_) (λs=>?_)
    ·show again (IntKind.wrap .i64 (((List.countP cN (List.take i r.items):Nat):Int)+1),_) _
     rw[bH (by omega)]
     refine fin _ ?_
     rw[fk l,List.countP_append];simp[s]
    ·refine fin _ ?_
     rw[fk l,List.countP_append];simp[s]
  ·have:i=r.items.length:=by simp at c2;omega
   subst this
   rw[List.take_length] at d ⊢
   have e1:r.items.all cL=true:=List.all_eq_true.2 d
   rw[e1,Bool.true_and] at j
   have m:=e.bl.ext g.base
   refine ay (x:=x.2.2.2.2) g rfl ?_
   have q:=u F g.base
   rw[j] at q
   refine cq (b:=r.blocks.all λb=>b.length==64) (λk=>ay (x:=x.2.2.2.2) g rfl (OW m v.2 (by rw[Bool.not_not];exact k))) ?_
   rw[m.bF]
   have e2:((r.blocks.length:Int)==((r.items.countP cN:Nat):Int))=(r.blocks.length==r.items.countP cN):=by
    rw[Bool.eq_iff_iff,beq_iff_eq,beq_iff_eq];omega
   rw[e2];exact q
end
end Rc
end
section
namespace Rc
open Go Go.Kx KM Rw Cr It
section
variable {H B:PH} {L:List Ob} {x:R5} {r:Rec} {p q:Sl} {b:Bs}
theorem MQ {n:Nat} {Q:Sl->PH->Prop} (l:n<=2 ^ 30) (e:∀r H',aA H' [aC H,aW u8 r []]->Q r H'):iD Sl.nil n H Q:=by
 have j:IntKind.wrap .i64 (((Sl.nil.cap:Nat):Int)-((Sl.nil.len:Nat):Int))=0:=rfl
 have e1:IntKind.wrap .i64 ((n:Int)- 0)=n:=by rw[bo (by omega) (by omega)];omega
 unfold iD
 rw[j,e1]
 refine aF (aE (by simp) (aF (aL (λc=>?_) (λc=>?_))))
 ·have k:0<n:=by simpa using c
  refine⟨Sl.nil,⟨by decide,by decide,by decide,by decide,rfl⟩,by omega,by simp;omega,by decide,by simp;omega,[],rfl,λb i f g=>?_⟩
  simp only[Int.toNat_natCast,Nat.zero_add] at g ⊢
  refine⟨_,⟨Int.le_refl _,Int.le_refl _,by simp,g,rfl⟩,e _ _ ((aA.start H).new (O':=aW u8 _ []) (Ext.bL f) (.inr ⟨b,bz n [.int .u8 0]++bz (i-n) [.int .u8 0],5,?_,?_⟩) (λc h=>?_))⟩
  ·simp only[Sl.cut,oV,List.length_append,List.length_nil,Nat.zero_add]
   rw[if_neg (by simp;omega)]
   simp[eW,oV];omega
  ·simp
  ·obtain⟨a,d,rfl⟩:=h
   simp only[Sl.cut] at d
   rw[if_neg (by simp;omega)] at d
   simp[eW] at d
   rw[←d];exact f
 ·exact e Sl.nil H (aA.start H).AJ
theorem Hh {bs:List Bs} {Q:Sl->PH->Prop} (E:uB H p bs) (D:bs.length< 2 ^ 30) (C:bs.flatten.length<=2 ^ 30) (A:∀r H',aA H' [aC H,aW u8 r bs.flatten]->Q r H'):jI p H Q:=by
 obtain⟨ls,rfl,j⟩:=E
 rw[List.length_map] at D
 have hlen:=j.1.bF
 rw[List.length_map] at hlen
 have d:∀k,((ls.take k).map (·.2)).flatten.length<=2 ^ 30:=λk=>by
  refine Nat.le_trans ?_ C
  have:ls.map (·.2)=(ls.take k).map (·.2)++(ls.drop k).map (·.2):=by rw[←List.map_append,List.take_append_drop]
  rw[this,List.flatten_append,List.length_append];omega
 have a:∀{k:Nat} {q:Sl×Bs},ls[k]?=some q->((ls.take (k+1)).map (·.2)).flatten=((ls.take k).map (·.2)).flatten++q.2:=λ{k q} h=>by rw[fk h];simp
 refine ax ls.length (λk st m=>st=((((ls.take k).map (·.2)).flatten.length:Int),(k:Int))/\m=H) ⟨by simp,rfl⟩ ?_
 rintro k st H1 again hk ⟨rfl,rfl⟩ v
 rw[hlen]
 refine aL (λc=>aF ?_) (λc=>?_)
 ·have i:k<ls.length:=by simpa using c
  refine eJ j.1 (by omega) (by simp;omega) λs l=>?_
  rw[Int.toNat_natCast,List.getElem?_map] at l
  obtain⟨q,f,rfl⟩:=Option.map_eq_some_iff.1 l
  have u:=d k
  have n:=d (k+1)
  rw[a f,List.length_append] at n
  have e:=(j.2 q (List.mem_of_getElem? f)).1.bF
  dsimp only
  rw[e,bo (by omega) (by omega)]
  refine aE (by simp;omega) ?_
  rw[bH (by omega)]
  exact v i _ _ ⟨by rw[a f,List.length_append];push_cast;rfl,rfl⟩
 ·have:k=ls.length:=by simp at c;omega
  subst this
  have u:=d ls.length
  refine MQ u λJ G n=>?_
  refine ax ls.length (λk st m=>st.2=(k:Int)/\aA m [aC H1,aW u8 st.1 ((ls.take k).map (·.2)).flatten]) ⟨rfl,by simpa using n⟩ ?_
  rintro k ⟨st,_⟩ w t F ⟨e,g⟩ o
  simp only at e g;subst e
  refine aL (λc2=>?_) (λc2=>?_)
  ·have i:k<ls.length:=by simpa using c2
   refine eJ (j.1.ext g.base) (by omega) (by simp;omega) λs l=>?_
   rw[Int.toNat_natCast,List.getElem?_map] at l
   obtain⟨q,f,rfl⟩:=Option.map_eq_some_iff.1 l
   have y:=d (k+1)
   rw[a f,List.length_append] at y
   refine qY g 1 rfl ((j.2 q (List.mem_of_getElem? f)).1.ext g.base) MI rfl (by omega) λr I z=>?_
   rw[bH (by omega)]
   exact o i _ _ ⟨rfl,by rw[a f];exact z⟩
  ·have:k=ls.length:=by simp at c2;omega
   subst this
   rw[List.take_length] at g
   exact A st w g
theorem Sp (ls:List (Sl×Bs)):cat ls=(ls.map (·.2)).flatten:=rfl
theorem I4 {s y:Sl} {x0:Bs} {bs:List Bs} {e m e3:Nat} {zs:List Value} {k:Addr} {v:Value} {K:Sl->PH->Prop} (h:aA H (aC B::L)) (A:cellAt H k=some v) (C:Bytes B s x0) (n:bU x0) (G:x0.length< 2 ^ 30) (D:uB B y bs) (z:bs.length< 2 ^ 20) (E:zs.length=1) (hm:m<=64)
 (t:∀r a H',Ext B a->uB a r (x0::bs)->aA H' (aC a::L)->Ext H H'->K r H'):bV H (row [Sl.v s] e) 1 λr H1=>ar H1 k v (fG H1 e3 1 m zs r y K):=by
 obtain⟨ls,rfl,g⟩:=D
 rw[List.length_map] at z
 refine Iz (enc:=Sl.v) (l:=[s]) (.start H) rfl rfl λI H1 c F=>?_
 have u:(4*([s].length+(ls.map (·.1)).length)+4096)*m<=2 ^ 48:=by
  have c:(4*([s].length+(ls.map (·.1)).length)+4096)<=2 ^ 23:=by simp;omega
  exact Nat.le_trans (Nat.mul_le_mul c hm) (by decide)
 refine⟨F.cell A,qY c 1 rfl ((g.1.ext h.base).ext c.base) (λ_=>rfl) E u λr j d=>?_⟩
 replace d:aA j [aC H,aW Sl.v r ([s]++ls.map (·.1))]:=d
 refine gX (h.made d) λa i w o=>t r a j i ⟨(s,x0)::ls,rfl,w,λq f=>?_⟩ o d.base
 rcases List.mem_cons.1 f with rfl|f
 ·exact⟨C.ext i,n,by simp only;omega⟩
 ·exact⟨(g.2 q f).1.ext i,(g.2 q f).2⟩
theorem CF (h:dy r=true):(rI r).length=60/\(75::82::(le 4 r.aO++le 4 r.dQ++le 4 r.prev++[(r.items.length:Int),(r.blocks.length:Int)]++r.items.flatMap iW)).length<=60:=by
 have a:r.items.length<=6:=by
  simp only[dy,Bool.and_eq_true,KM.bY] at h;omega
 have:(75::82::(le 4 r.aO++le 4 r.dQ++le 4 r.prev++[(r.items.length:Int),(r.blocks.length:Int)]++r.items.flatMap iW)).length<=60:=by
  simp only[List.length_cons,List.length_append,bI,sC,List.length_nil];omega
 exact⟨pf this,this⟩
structure um (r:Rec):Prop where
 m:1<=r.aO/\r.aO<=2147483647
 l:1<=r.dQ/\r.dQ<=2147483647
 p:0<=r.prev/\r.prev<=4294967295
 n:1<=r.items.length/\r.items.length<=6
 it:∀x∈r.items,cL x=true
 nb:r.blocks.length=r.items.countP cN
 xn:∀b∈r.blocks,b.length=64
theorem parts (h:dy r=true):um r:=by
 simp only[dy,Bool.and_eq_true,KM.bY,List.all_eq_true,beq_iff_eq] at h
 obtain⟨⟨⟨⟨⟨⟨a,b⟩,c⟩,d⟩,e⟩,f⟩,g⟩:=h
 exact⟨a,b,c,by omega,e,f,g⟩
theorem MR:∀{l:List Bs},(∀b∈l,b.length=64)->l.flatten.length=64*l.length
 |[],_=>rfl
 |x::l,h=>by rw[List.flatten_cons,List.length_append,h x (by simp),MR λy a=>h y (by simp[a]),List.length_cons];omega
theorem CG (h:dy r=true):bU (rI r):=by
 have P:=parts h
 have:=P.n
 have nb:r.blocks.length<=6:=by rw[P.nb];exact Nat.le_trans List.countP_le_length this.2
 exact wP _ (cK (by omega) (cK (by omega) (bu (bu (bu (bu (eZ _ _) (eZ _ _)) (eZ _ _)) (cK (by omega) (cK (by omega) mA))) (zZ P.it))))
theorem CH (h:dy r=true) (a:∀b∈r.blocks,bU b):bU (wv r):=by
 refine OU λb hm=>?_
 rcases List.mem_cons.1 hm with rfl|hm
 ·exact bu (CG h) (eZ _ _)
 ·exact a b hm
theorem CI (h:dy r=true):(wv r).length=64*(1+r.blocks.length):=by
 have P:=parts h
 rw[wv,oz,List.flatten_cons,List.length_append,MR P.xn,List.length_append,(CF h).1,bI];omega
theorem uA {Q:Sl->Int->Int->PH->Prop} (g:oQ H x r) (hm:dy r=false) (f:∀H',Ext H H'->Q Sl.nil 0 1 H'):m7 x H Q:=by
 refine dC (.start H) λa H1 e c=>bk (x:=x) e rfl rfl (fS (g.ext c) λd h=>?_)
 rw[hm]
 exact ae rfl (f d (c.trans h))
theorem dt {Q:Sl->Int->Int->PH->Prop} (d:oQ H x r) (hm:dy r=true) (hQ:∀q H',aA H' [aC H,aW u8 q (wv r)]->Q q (gU r) 0 H'):m7 x H Q:=by
 have P:=parts hm
 have Z:=P.n
 have nb:r.blocks.length<=6:=by rw[P.nb];exact Nat.le_trans List.countP_le_length Z.2
 refine dC (.start H) λa H1 h1 x1=>bk (x:=x) h1 rfl rfl (fS (d.ext x1) λH2 x2=>?_)
 rw[hm]
 have h2:=h1.ext x2
 refine aE rfl (ay (x:=x.2.2.2.1) h2 rfl (It.dt (d.ext h2.base).it (by omega) (λ_ it H3 aq=>?_) (λhn=>absurd ⟨Z.2,P.it⟩ hn)))
 refine gX (h2.made aq) λB3 aa au h3=>?_
 refine Rw.eI (n:=64) h3 (by decide) λa2 s H4 h4=>?_
 have l0:∀y∈[(75:Int),82],0<=y/\y< 256 ^ 1:=by
  intro y h
  simp only[List.mem_cons,List.not_mem_nil,or_false] at h
  rcases h with rfl|rfl<;>omega
 refine mv (x:=[]) (n:=64) (l:=[75,82]) h4 rfl rfl (by decide) l0 (by simp) (by simp) λB5 H5 ab I=>?_
 refine aY (x:=x.1) I 3 rfl rfl (aY (x:=x.2.1) I 3 rfl rfl (aY (x:=x.2.2.1) I 3 rfl rfl ?_))
 have l1:∀y∈[x.1,x.2.1,x.2.2.1],0<=y/\y< 256 ^ 4:=by
  intro y h
  have:=P.m;have:=P.l;have:=P.p
  simp only[List.mem_cons,List.not_mem_nil,or_false] at h
  rcases h with rfl|rfl|rfl
  ·rw[d.e1];omega
  ·rw[d.e2];omega
  ·rw[d.e3];omega
 refine mv (l:=[x.1,x.2.1,x.2.2.1]) I rfl rfl (by decide) l1 (by simp) (by simp[bI]) λB6 H6 ac J=>?_
 have aJ:oQ H6 x r:=d.ext (aa.trans (ab.trans (ac.trans J.base)))
 refine aY (x:=x.2.2.2.1) J 3 rfl rfl (aY (x:=x.2.2.2.2) J 3 rfl rfl ?_)
 have l2:∀y∈[(x.2.2.2.1.len:Int),(x.2.2.2.2.len:Int)],0<=y/\y< 256 ^ 1:=by
  intro y h
  simp only[List.mem_cons,List.not_mem_nil,or_false] at h
  rcases h with rfl|rfl
  ·rw[d.it.bF];omega
  ·rw[d.bl.bF];omega
 refine mv (l:=[(x.2.2.2.1.len:Int),(x.2.2.2.2.len:Int)]) J rfl rfl (by decide) l2 (by simp) (by simp[bI]) λB7 H7 av h7=>?_
 have G:Ext B3 B7:=ab.trans (ac.trans av)
 have C:Bytes H7 it (r.items.flatMap iW):=au.ext (G.trans h7.base)
 have A:=sC r.items
 refine Ea h7 C (by rw[A];simp;omega) (by simp[bI]) λH8 K=>?_
 have eX:[]++[(75:Int),82].flatMap (le 1)++[x.1,x.2.1,x.2.2.1].flatMap (le 4)++[(x.2.2.2.1.len:Int),(x.2.2.2.2.len:Int)].flatMap (le 1)++r.items.flatMap iW=75::82::(le 4 r.aO++le 4 r.dQ++le 4 r.prev++[(r.items.length:Int),(r.blocks.length:Int)]++r.items.flatMap iW):=by
  rw[zz _ l0,zz _ l2,d.e1,d.e2,d.e3,d.it.bF,d.bl.bF];simp
 rw[eX] at K
 have Y:=(CF hm).2
 have af:(it.len:Int)=7*r.items.length:=by rw[C.bF,A];omega
 have S:(75::82::(le 4 r.aO++le 4 r.dQ++le 4 r.prev++[(r.items.length:Int),(r.blocks.length:Int)]++r.items.flatMap iW)).length=16+7*r.items.length:=by simp only[List.length_cons,List.length_append,bI,sC,List.length_nil];omega
 have ez:64- 1*[(75:Int),82].length- 4*[x.1,x.2.1,x.2.2.1].length- 1*[(x.2.2.2.1.len:Int),(x.2.2.2.2.len:Int)].length-(r.items.flatMap iW).length=60+4-(75::82::(le 4 r.aO++le 4 r.dQ++le 4 r.prev++[(r.items.length:Int),(r.blocks.length:Int)]++r.items.flatMap iW)).length:=by
  rw[S,A];simp;omega
 rw[ez,I3 60 _ Y] at K
 have i:(pad 60 (75::82::(le 4 r.aO++le 4 r.dQ++le 4 r.prev++[(r.items.length:Int),(r.blocks.length:Int)]++r.items.flatMap iW))).length=60:=pf Y
 rw[S] at K
 rw[af,bo (by omega) (by omega),show(44- 7*(r.items.length:Int))=((44- 7*r.items.length:Nat):Int) by omega]
 refine rK K (by rw[List.length_append,i,List.length_replicate];omega) (by rw[List.length_append,i,List.length_replicate];omega) λ_ H9 u=>?_
 rw[show 16+7*r.items.length+(44- 7*r.items.length)=(pad 60 (75::82::(le 4 r.aO++le 4 r.dQ++le 4 r.prev++[(r.items.length:Int),(r.blocks.length:Int)]++r.items.flatMap iW))).length by rw[i];omega] at u
 replace u:aA H9 (aC B7::aG a2 (cells s (rI r).length)::aW u8 s (rI r++List.replicate 4 0)::[aG a (r5 x)]):=u
 have c:(rI r).length=60:=i
 refine aY (x:=x.2.2.2.2) u 3 rfl rfl ?_
 refine nU u (by rw[List.length_append,c];simp) λy O ad=>gX ad λN ah h j=>?_
 refine cx (j.get 3 rfl:aZ O a _) rfl ?_
 have aK:Bytes O y (rI r++List.replicate 4 0):=h.ext j.base
 refine ni h (by decide) (by decide) (by rw[List.length_append,c];simp) λaw o _=>?_
 have ag:Bytes N aw (rI r):=by
  have e:((rI r++List.replicate 4 (0:Int)).drop (0:Int).toNat).take ((60:Int).toNat-(0:Int).toNat)=rI r:=by
   show((rI r++List.replicate 4 (0:Int)).drop 0).take 60=_
   rw[List.drop_zero,←c,List.take_left]
  rw[e] at o;exact o
 have E:Ext H N:=aa.trans (G.trans ah)
 have cell:∀H' (B':PH) X,aA H' (aC B'::X::aW u8 s (rI r++List.replicate 4 0)::[aG a (r5 x)])->cellAt H' (a.add 4)=some (Sl.v x.2.2.2.2):=λH' B' X h'=>(h'.get 3 rfl:aZ H' a _).cell rfl
 refine I4 j (cell _ _ _ j) ag (CG hm) (by rw[c];decide) (d.bl.ext E) (by omega) rfl (by decide) λf ax aD ai hf U aL=>?_
 obtain⟨fl,T,ar⟩:=hf
 refine Rw.GD (ls:=fl) (ar.ext U.base) (by have:=congrArg List.length T;simp at this;omega) ?_
 have ec:oA (cat fl)=gU r:=by rw[Sp,T,List.flatten_cons];rfl
 rw[ec]
 have aI:=AO (rI r++r.blocks.flatten)
 refine mv (w:=4) (l:=[gU r]) U rfl rfl (by decide) (by intro z M;simp at M;subst M;show 0<=oA _/\oA _<_;omega) (by simp) (by rw[c];decide) λaz aF aj t=>?_
 refine aY (x:=x.2.2.2.2) t 3 rfl rfl ?_
 have ao:rI r++[gU r].flatMap (le 4)++List.replicate (4- 4*[gU r].length) 0=rI r++le 4 (gU r):=by simp
 rw[ao] at t
 have D:(rI r++le 4 (gU r)).length=64:=by rw[List.length_append,c,bI]
 refine nU t (by rw[D];decide) λz R ae=>gX ae λam ak M V=>?_
 have k:cellAt R (a.add 4)=some (Sl.v x.2.2.2.2):=(V.get 3 rfl:aZ R a _).cell rfl
 have F:Ext H am:=E.trans (ai.trans (aj.trans ak))
 refine⟨k,I4 V k M (bu (CG hm) (eZ _ _)) (by rw[D];decide) (d.bl.ext F) (by omega) rfl (by decide) λg aB aH al hg W aM=>?_⟩
 refine Hh (bs:=oz r) (hg.ext W.base) (by rw[oz,List.length_cons];omega) (by have:=CI hm;rw[wv] at this;rw[this];omega) λq an ap=>hQ q an ?_
 exact only (W.made ap) (F.trans al)
end
end Rc
end
section
namespace Rc
open Go Go.Kx KM Rw Cr It
def rM (b:Bs):Bool:=decide (num b 0 1=75/\num b 1 1=82/\1<=num b 14 1/\num b 14 1<=6/\num b 15 1<=num b 14 1)
theorem C8 (b:Bs):ly b=if rM b then 1+num b 15 1 else 0:=by simp only[ly,rM,decide_eq_true_eq]
section
variable {H B:PH} {L:List Ob} {x:R5} {r:Rec} {p q:Sl} {b:Bs} {a:Addr} {s:Sl}
theorem kr (c:bU b) (h:2<=b.length):((strOf ((b.drop 0).take 2)).toList==(⟨#[75,82]⟩:ByteArray).toList)=decide (num b 0 1=75/\num b 1 1=82):=by
 have e1:(⟨#[75,82]⟩:ByteArray)=strOf [75,82]:=rfl
 have e2:(b.drop 0).take 2=[num b 0 1,num b 1 1]:=by
  rw[show(2:Nat)=1+1 from rfl,yd b 0 1,←GH c (by omega),←GH c (by omega)];rfl
 rw[e1,Bool.eq_iff_iff,beq_iff_eq,decide_eq_true_eq,GC (rL (pr c 0) 2) (by intro y d;simp at d;rcases d with rfl|rfl<;>omega),e2]
 simp
theorem Ac {Q:Int->Int->Bool->PH->Prop} (h:aA H (aC B::aG a (cells s 0)::aW u8 s b::L)) (z:16<=b.length) (c:b.length<=2 ^ 30) (d:bU b)
 (o:∀H',aA H' (aC B::aG a (cells s 16)::aW u8 s b::L)->Q (num b 14 1) (num b 15 1) (rM b) H'):om (some a) H Q:=by
 refine jE (n:=2) h (by omega) c λy H1 f=>?_
 have j:aA H1 (aC B::aG a (cells s 2)::aW u8 s b::aW u8 y ((b.drop 0).take 2)::L):=f
 refine rK (n:=12) j (by omega) c λ_ u l=>cZ (w:=1) l (by decide) (by omega) c d λv m=>cZ (w:=1) m (by decide) (by omega) c d λi g=>?_
 have t:=g.list (enc:=u8) 3 rfl
 refine cq (b:=decide (num b 0 1=75/\num b 1 1=82)) (λk=>⟨_,⟨_,t.cells,rfl⟩,?_⟩) ?_
 ·dsimp only
  rw[kr d (by omega)];exact k
 refine cq (b:=bE (num b 14 1) 1 6) (λk=>bD k) (cq (b:=decide (num b 15 1<=num b 14 1)) (λk=>k) ?_)
 have e:rM b=(((true&&decide (num b 0 1=75/\num b 1 1=82))&&bE (num b 14 1) 1 6)&&decide (num b 15 1<=num b 14 1)):=by
  simp only[rM,KM.bE,Bool.true_and]
  rw[Bool.eq_iff_iff];simp[and_assoc]
 have q:=o i ((g.perm (L':=aC B::aW u8 y ((b.drop 0).take 2)::aG a (cells s 16)::aW u8 s b::L) (.cons _ ((List.Perm.cons _ (.swap _ _ _)).trans (.swap _ _ _)))).ak)
 rw[e] at q;exact q
theorem MS {Q:Int->PH->Prop} (e:Bytes H p b) (j:b.length=64) (d:bU b) (i:∀H',Ext H H'->Q (ly b) H'):uh p H Q:=by
 refine nT (.start H) e (by omega) λa s H1 g=>Ac g (by omega) (by omega) d λf h=>?_
 have q:=i f h.base
 rw[C8] at q
 have k:=vN d 15 1
 refine aF (aL (λc=>ae rfl ?_) (λc=>?_))
 ·rw[if_neg (by simpa using c)] at q;exact q
 ·rw[if_pos (by simpa using c)] at q
  refine aE (by rw[e.bF,j];rfl) ?_
  rw[bo (by omega) (by omega)];exact q
theorem MT {α:Type} {enc:α->Value} {s:Sl} {l:List α} {lo hi:Nat} (h:b9 enc H s l) (o:lo<hi) (t:hi<=l.length):b9 enc H (s.Dt 1 lo hi hi) ((l.drop lo).take (hi-lo)):=by
 have v:=h.1
 have u:=h.2.1
 refine⟨by simp only[Sl.Dt,List.length_take,List.length_drop];omega,by simp only[Sl.Dt];omega,λi x c=>?_⟩
 have g:=(List.getElem?_eq_some_iff.1 c).1
 simp only[List.length_take,List.length_drop] at g
 rw[List.getElem?_take_of_lt (by omega),List.getElem?_drop] at c
 obtain⟨a,j,f,d⟩:=h.2.2 (lo+i) x c
 refine⟨a.add lo,?_,qn a lo f,?_⟩
 ·simp only[Sl.Dt]
  rw[if_neg (by omega),j,Nat.mul_one];rfl
 ·have e:(a.add lo).add i=a.add (lo+i):=by
   obtain⟨m,n,k⟩:=a
   simp only at f;subst f
   rw[eW,eW,eW,Nat.add_assoc]
  rw[e];exact d
theorem za {γ:Type} {c0 c1:Addr} {Y:List Value->γ->PH->(Nat->γ->PH->Prop)->Prop} {t:γ} {Q:Nat->γ->PH->Prop} {x:Sl} {b:Bs} (n:Nat) (I:Nat->γ->PH->Prop) (M:b.length=64*n) (N:n<=2 ^ 20)
 (A:∀k g H,I k g H->cellAt H c0=some (Sl.v x)/\cellAt H c1=some (i64 64)/\Bytes H x b) (E:I 0 t H)
 (step:∀k g H K y,k<n->I k g H->(∀H',Bytes H' x b->Bytes H' y ((b.drop (64*k)).take 64))->(∀d H',I (k+1) d H'->K 0 d H')->(∀j d H',j≠0->Q j d H'->K j d H')->Y [Sl.v y] g H K)
 (fin:∀g H,I n g H->Q 0 g H):kJ c0 c1 Y t H Q:=by
 refine ax n (λk st D=>∃g,st=(((64*k:Nat):Int),(0,g))/\I k g D) ⟨t,rfl,E⟩ ?_
 rintro k st H1 again hk ⟨g,rfl,hi⟩ C
 obtain⟨o,e1,e⟩:=A _ _ _ hi
 have m:=e.bF
 refine⟨x,o,?_⟩
 dsimp only
 refine aL (λc=>?_) (λc=>?_)
 ·have i:k<n:=by rw[m] at c;simp at c;omega
  refine⟨64,e1,x,o,?_⟩
  refine ni e (by omega) (by omega) (by omega) λf u _=>⟨x,o,?_⟩
  have z:(f.len:Int)=b.length- 64*k:=by rw[u.bF];simp;omega
  have em:(if(f.len:Int)< 64 then(f.len:Int) else 64)=64:=by rw[z];split<;>omega
  rw[em,bo (by omega) (by omega)]
  refine⟨_,⟨by omega,by omega,by omega,by have:=e.1;have:=e.2.1;omega,e.2.1,rfl⟩,rfl,?_⟩
  refine step k g H1 _ _ i hi (λH' l=>?_) (λd H' h=>aE rfl ?_) (λj d H' F G=>ae (by simpa using F) G)
  ·have:=MT (lo:=64*k) (hi:=64*k+64) l (by omega) (by omega)
   rw[show 64*k+64- 64*k=64 by omega] at this
   rw[show(((64*k:Nat):Int)+64).toNat=64*k+64 by omega,Int.toNat_natCast];exact this
  ·obtain⟨J,w,l⟩:=A _ _ _ h
   refine⟨64,w,?_⟩
   dsimp only
   rw[bo (by omega) (by omega),show((64*k:Nat):Int)+64=((64*(k+1):Nat):Int) by omega]
   exact C i _ _ ⟨d,rfl,h⟩
 ·have:k=n:=by rw[m] at c;simp at c;omega
  subst this
  exact fin g H1 hi
end
end Rc
end
section
namespace Rc
open Go Go.Kx KM Rw Cr It
theorem uo:∀(n:Nat) (b:Bs),chunks b (n+1)=chunks b n++[(b.drop (64*n)).take 64]
 | 0,b=>by simp[chunks]
 |n+1,b=>by
  rw[chunks,uo n (b.drop 64),chunks]
  simp only[List.cons_append,List.drop_drop]
  rw[show 64+64*n=64*(n+1) by omega]
theorem jc:∀(n:Nat) (b:Bs),(chunks b n).length=n
 | 0,b=>rfl
 |n+1,b=>by rw[chunks,List.length_cons,jc n]
theorem BK (b:Bs) (i m k w:Nat) (h:k+w<=m):num ((b.drop i).take m) k w=num b (i+k) w:=by
 rw[num,num,List.drop_take,List.drop_drop,List.take_take,Nat.min_eq_left (by omega)]
theorem C9 (b:Bs) (i m:Nat):∀n k,k+7*n<=m->eO ((b.drop i).take m) k n=eO b (i+k) n
 | 0,_,_=>rfl
 |n+1,k,h=>by
  rw[eO,eO,BK b i m k 1 (by omega),BK b i m (k+1) 1 (by omega),BK b i m (k+2) 1 (by omega),BK b i m (k+3) 4 (by omega),C9 b i m n (k+7) (by omega)]
  rfl
theorem aZ.one {H:PH} {a:Addr} {v:Value} (h:aZ H a [v]):cellAt H a=some v:=by
 have c:cellAt H (a.add 0)=some v:=h.cell rfl
 rwa[add_zero'] at c
section
variable {H B:PH} {L:List Ob} {x:R5} {r:Rec} {p q:Sl} {b:Bs} {a:Addr} {s:Sl}
theorem Dy {K:Value->PH->Prop} (h:aA H (aC B::L)) (l:∀c0 c1 c H',Ext B c->aZ c c0 [Sl.v p]->aZ c c1 [i64 64]->aA H' (aC c::L)->Ext H H'->K (.func (.func 199) #[] #[.pointer (some c0),.pointer (some c1)]) H'):fg p 64 H K:=by
 refine dC h λc0 H1 f n=>AZ f λt i m f=>dC f λc1 k d o=>AZ d λj e g d=>⟨64,aZ.one (g.ext d.base),aF (aE rfl ?_)⟩
 exact l c0 c1 j k (i.trans e) (m.ext e) g d (n.trans o)
def fm (b:Bs):Rec:=⟨num b 2 4,num b 6 4,num b 10 4,eO b 16 (num b 14 1).toNat,chunks (b.drop 64) (num b 15 1).toNat⟩
theorem ye (b:Bs):AP b=if dy (fm b)&&wv (fm b)==b then some (fm b,gU (fm b)) else none:=rfl
theorem gO {Q:R5->Int->Int->PH->Prop} (h:aA H (aC B::L)) (M:Bytes B p b) (hk:rM b=true) (hl:b.length=64*(1+(num b 15 1).toNat)) (E:bU b)
 (hy:AP b=some (fm b,gU (fm b))->∀x d H',Ext B d->oQ d x (fm b)->aA H' (aC d::L)->Q x (gU (fm b)) 0 H') (hn:AP b=none->∀d H',Ext B d->aA H' (aC d::L)->Q (0,0,0,Sl.nil,Sl.nil) 0 2 H'):sk p H Q:=by
 simp only[rM,decide_eq_true_eq] at hk
 obtain⟨k1,k2,k3,k4,k5⟩:=hk
 have aj:=vN E 15 1
 obtain⟨n,en⟩:=Int.eq_ofNat_of_zero_le (show 0<=num b 14 1 by omega)
 obtain⟨m,em⟩:=Int.eq_ofNat_of_zero_le aj.1
 have ab:(num b 14 1).toNat=n:=by omega
 have O:(num b 15 1).toNat=m:=by omega
 rw[O] at hl
 refine dC h λa H1 D x1=>nT D (M.ext D.base) (by omega) λa2 s H2 h2=>Ac h2 (by omega) (by omega) E λZ h3=>?_
 have aN:rM b=true:=by simp only[rM,decide_eq_true_eq];exact⟨k1,k2,k3,k4,k5⟩
 rw[aN]
 refine aF (aE rfl ?_)
 have e1:((p.len:Int) != IntKind.wrap .i64 (64*IntKind.wrap .i64 (1+num b 15 1)))=false:=by
  rw[bo (x:=1+num b 15 1) (by omega) (by omega),bo (by omega) (by omega),M.bF,hl];simp;omega
 rw[e1]
 refine aE rfl ?_
 rw[en,bo (by omega) (by omega),show(7*(n:Int))=((7*n:Nat):Int) from rfl]
 refine jE h3 (by omega) (by omega) λy H4 G=>?_
 have aT:((b.drop 16).take (7*n)).length=7*n:=by simp;omega
 have aR:bU ((b.drop 16).take (7*n)):=rL (pr E _) _
 have aQ:=G.list (enc:=u8) 3 rfl
 have eD:eO ((b.drop 16).take (7*n)) 0 n=eO b 16 n:=C9 b 16 (7*n) n 0 (by omega)
 have bad:dy (fm b)=false->AP b=none:=λe=>by rw[ye,e];rfl
 refine It.gO (n:=n) aQ aT (by omega) aR (λo it H5 ad=>?_) (λo H5 x5=>?_)
 ·rw[eD] at o ad
  have h5:=G.made ad
  have h6:aA H5 (aC B::aG a [i64 0,i64 0,i64 0,Sl.v Sl.nil,Sl.v Sl.nil]::aq eB 4 it (eO b 16 n)::L):=by
   have S:=h5.perm (L':=aC B::aG a2 (cells s (16+7*n))::aW u8 s b::aW u8 y ((b.drop 16).take (7*n))::aG a [i64 0,i64 0,i64 0,Sl.v Sl.nil,Sl.v Sl.nil]::aq eB 4 it (eO b 16 n)::L)
    (.cons _ (List.perm_append_comm (l₁:=[aq eB 4 it (eO b 16 n)]) (l₂:=[aG a2 (cells s (16+7*n)),aW u8 s b,aW u8 y ((b.drop 16).take (7*n)),aG a [i64 0,i64 0,i64 0,Sl.v Sl.nil,Sl.v Sl.nil]])|>.append_right L))
   exact S.ak.ak.ak
  refine xi (j:=3) h6 (by simp) rfl λH7 S=>aE rfl ?_
  obtain⟨B8,af,aM,T⟩:=(S.swap).fz
  refine nT T (M.ext (af.trans T.base)) (by omega) λa3 s3 H9 h9=>?_
  refine rK (n:=2) h9 (by omega) (by omega) λ_ a6 ar=>cZ (w:=4) ar (by decide) (by omega) (by omega) E λa7 au=>?_
  refine cB (j:=0) au 3 rfl (by simp) rfl λa8 av=>cZ (w:=4) av (by decide) (by omega) (by omega) E λa9 aw=>?_
  refine cB (j:=1) aw 3 rfl (by simp) rfl λba ax=>cZ (w:=4) ax (by decide) (by omega) (by omega) E λbb ay=>?_
  refine cB (j:=2) ay 3 rfl (by simp) rfl λam ah=>?_
  have az:aA am (aC B8::aG a (r5 (num b 2 4,num b 6 4,num b 10 4,it,Sl.nil))::L):=ah.ak.ak
  have aO:=M.bF
  refine ni M (by decide) (by omega) (by omega) λaV t _=>?_
  rw[aO,Int.toNat_natCast] at t
  have er:((b.drop (64:Int).toNat).take (b.length-(64:Int).toNat))=b.drop 64:=by
   show(b.drop 64).take (b.length- 64)=_
   rw[List.take_of_length_le (by simp)]
  rw[er] at t
  have aB:=zU (enc:=Sl.v) az
  refine Dy aB λc0 c1 B9 bc ag a0 a1 aD bh=>?_
  have F:Ext B B9:=af.trans ag
  refine jX c0 c1 _ _ _ _ (za (x:=aV) (b:=b.drop 64) m
   (λk _ A=>∃(d:PH) (st:Sl) (ls:List (Sl×Bs)),Ext B9 d/\ls.map (·.2)=chunks (b.drop 64) k/\(∀q∈ls,Bytes d q.1 q.2/\bU q.2/\q.2.length< 2 ^ 62)/\aA A (aC d::aW Sl.v st (ls.map (·.1))::aG a (r5 (num b 2 4,num b 6 4,num b 10 4,it,st))::L))
   (by simp;omega) (by omega) ?_ ⟨B9,Sl.nil,[],.refl _,rfl,(λq f=>by cases f),aD⟩ ?_ ?_)
  ·rintro k _ A ⟨d,st,ls,g,_,_,hk⟩
   exact⟨aZ.one (a0.ext (g.trans hk.base)),aZ.one (a1.ext (g.trans hk.base)),t.ext (F.trans (g.trans hk.base))⟩
  ·rintro k _ A K y be ⟨d,st,ls,g,C,i,hk⟩ aP aa _
   have aS:=aP A (t.ext (F.trans (g.trans hk.base)))
   have bg:ls.length=k:=by have:=congrArg List.length C;rw[List.length_map,jc] at this;exact this
   refine⟨y,rfl,aY (x:=st) hk 2 rfl rfl (jb hk aS (by simp;omega) λz an ai=>gX ai λa5 Y W ac=>?_)⟩
   refine cx (ac.get 2 rfl:aZ an a _) rfl (sX (enc:=Sl.v) (l:=[z]) ac rfl rfl λw al ao I hw R=>?_)
   refine cx (R.get 2 rfl:aZ ao a _) rfl (qY R 1 rfl (hw.ext R.base) (λ_=>rfl) rfl (by simp;omega) λa4 bd aH=>?_)
   refine cB (j:=4) aH 2 rfl (by simp) rfl λap aI=>aa () ap ⟨al,a4,ls++[(z,((b.drop 64).drop (64*k)).take 64)],g.trans (Y.trans I),?_,λq f=>?_,?_⟩
   ·rw[List.map_append,C,uo];rfl
   ·rcases List.mem_append.1 f with f|f
    ·exact⟨(i q f).1.ext (Y.trans I),(i q f).2⟩
    ·have:=List.mem_singleton.1 f;subst this
     exact⟨W.ext I,rL (pr (pr E _) _) _,by simp;omega⟩
   ·rw[List.map_append];exact aI
  ·rintro _ A ⟨d,st,ls,g,C,i,hk⟩
   have U:∀(u:PH),Ext d u->b9 Sl.v u st (ls.map (·.1))->oQ u (num b 2 4,num b 6 4,num b 10 4,it,st) (fm b):=λu X V=>by
    refine⟨rfl,rfl,rfl,?_,⟨ls,?_,V,λq f=>⟨(i q f).1.ext X,(i q f).2⟩⟩,?_,?_⟩
    ·show dT eB 4 u it (eO b 16 (num b 14 1).toNat)
     rw[ab];exact((aM.jv bF).ext ag).ext (g.trans X)
    ·rw[C];show chunks _ _=chunks _ (num b 15 1).toNat;rw[O]
    ·show(eO b 16 (num b 14 1).toNat).length< 2 ^ 40;rw[sD];omega
    ·show(chunks (b.drop 64) (num b 15 1).toNat).length< 2 ^ 40;rw[jc];omega
   refine bj (x:=((num b 2 4,num b 6 4,num b 10 4,it,st):R5)) hk 2 rfl rfl rfl ?_
   have hR:=U A hk.base (hk.list 1 rfl)
   have fin:∀N,aA N (aC d::aW Sl.v st (ls.map (·.1))::aG a (r5 (num b 2 4,num b 6 4,num b 10 4,it,st))::L)->∀sb:Bool,(sb=true->AP b=none)->(sb=false->AP b=some (fm b,gU (fm b)))->
    aJ sb (aX N a [i64 0,i64 0,i64 0,Sl.v Sl.nil,Sl.v Sl.nil] λH1=>aU r5 H1 a 5 λy=>Q y 0 2 H1) (aU r5 N a 5 λy=>aX N a (r5 y) λH1=>aU r5 H1 a 5 λy=>Q y (gU (fm b)) 0 H1):=λN W sb f1 f2=>by
    refine aL (λc=>?_) (λc=>?_)
    ·refine eU (vs:=r5 (0,0,0,Sl.nil,Sl.nil)) W 2 rfl rfl rfl λH1 D=>bj (x:=((0,0,0,Sl.nil,Sl.nil):R5)) D 2 rfl rfl rfl ?_
     have P:aA H1 (aC d::aW Sl.v st (ls.map (·.1))::aG a _::L):=D
     exact hn (f1 c) d H1 (F.trans g) P.ak.ak
    ·refine bj (x:=((num b 2 4,num b 6 4,num b 10 4,it,st):R5)) W 2 rfl rfl rfl (eU (vs:=r5 (num b 2 4,num b 6 4,num b 10 4,it,st)) W 2 rfl rfl rfl λH1 D=>bj (x:=((num b 2 4,num b 6 4,num b 10 4,it,st):R5)) D 2 rfl rfl rfl ?_)
     have P:aA H1 (aC d::aW Sl.v st (ls.map (·.1))::aG a _::L):=D
     exact gX P λu X V h2=>hy (f2 c) _ u H1 (F.trans (g.trans X)) (U u X V) h2.ak
   by_cases hm:dy (fm b)=true
   ·refine dt hR hm λr Z h3=>?_
    have G:=(hk:aA A (aC d::_)).made h3
    refine aF (aE rfl (nV (G.list (enc:=u8) 1 rfl) (M.ext (F.trans (g.trans G.base))) (CH hm λc hc=>?_) E (fin Z G.ak _ (λc=>?_) (λc=>?_))))
    ·have aK:c∈ls.map (·.2):=by rw[C,←O];exact hc
     obtain⟨q,f,rfl⟩:=List.mem_map.1 aK
     exact(i q f).2.1
    ·rw[ye,if_neg (by rw[hm,Bool.true_and];simpa using c)]
    ·rw[ye,if_pos (by rw[hm,Bool.true_and];simpa using c)]
   ·have J:dy (fm b)=false:=by simpa using hm
    refine uA hR J λZ x3=>aF (ae rfl ?_)
    have:=fin Z ((hk:aA A (aC d::_)).ext x3) true (λ_=>bad J) (λc=>by cases c)
    refine ae rfl ?_
    exact(this.1 rfl)
 ·rw[eD] at o
  have J:dy (fm b)=false:=by
   refine Bool.eq_false_iff.2 λh=>o λx hx=>(parts h).it x ?_
   show x∈eO b 16 (num b 14 1).toNat;rw[ab];exact hx
  have h5:=G.ext x5
  have h6:aA H5 (aC B::aG a [i64 0,i64 0,i64 0,Sl.v Sl.nil,Sl.v Sl.nil]::L):=h5.ak.ak.ak
  refine xi (j:=3) h6 (by simp) rfl λH7 S=>ae rfl (bf (vs:=r5 (0,0,0,Sl.nil,Sl.nil)) S rfl rfl λH8 T=>bk (x:=((0,0,0,Sl.nil,Sl.nil):R5)) T rfl rfl ?_)
  exact hn (bad J) B H8 (.refl B) T.ak
end
end Rc
end
section
namespace Ds
open Go Go.Kx KM Rw
theorem cM.small {k:Nat} {D:Dk} (h:cM k D) (hk:k< 2 ^ 29):Small D:=
 ⟨by rw[h.lf];decide,by rw[h.lf];decide,h.iB.1,by have:=h.iB.2;omega,by have:=h.held;omega,h.now,h.safe,h.dL,h.at_⟩
theorem MU {α:Type} {enc:α->Value} {B:PH} {s:Sl} {l:List α} (h:b9 enc B s l) (m:0<l.length) {c:Nat} (f:s.has c):B c≠none:=by
 obtain⟨a,e,rfl⟩:=f
 obtain⟨j,d,n,b⟩:=h.2.2 0 l[0] (by simp)
 rw[e] at d;cases d
 unfold cellAt at b
 rw[qm] at b
 intro g
 rw[g] at b;cases b
section
variable {H B:PH} {L:List Ob} {i k:Nat} {A:DA} {D:Dk} {p:Sl} {bs:Bs} {at':Int}
theorem wQ {Q:Int->PH->Prop} (h:aA H (aC B::L)) (hi:L[i]?=some (av A D)) (ok:cM k D) (hk:k< 2 ^ 29) (l:0<=at'/\at'<D.now.length) (m:Bytes B p bs) (g:bs.length=64)
 (s:∀f H',f.a=A.a->aA H' (aC B::L.set i (av f (D.put at' bs)))->Q 0 H'):fQ (some A.a) at' p H Q:=by
 have d:dG H A D:=h.get (i+1) (by simpa using hi)
 obtain⟨j,rfl⟩:=Int.eq_ofNat_of_zero_le l.1
 have e:D.put j bs=D.write j ⟨bs,g⟩:=by rw[Dk.put,Dk.wr,if_pos ⟨l,g⟩,F3 g];rfl
 have o:D.act.2=true:=by rw[F1 ok.off ok.lf]
 refine r9 (i:=j) (b:=⟨bs,g⟩) d (cM.small ok hk) (by omega) (m.ext h.base) (λc q r=>?_) λf H' n af=>?_
 ·exact h.dj 0 (i+1) (aC B) (av A D) rfl (by simpa using hi) (by omega) c (MU m (by omega) q) r
 ·rw[o]
  have:=MG (i:=i+1) h (by simpa using hi) n af
  refine s f H' af.same ?_
  rw[e];simpa using this
theorem yf {Q:Int->PH->Prop} (h:aA H (aC B::L)) (hi:L[i]?=some (av A D)) (ok:cM k D) (hk:k< 2 ^ 29)
 (f:∀b H',b.a=A.a->aA H' (aC B::L.set i (av b D.flush))->Q 0 H'):fR (some A.a) H Q:=by
 have c:D.fl.2=0:=by rw[F4 ok]
 refine Qs (i:=i+1) h (by simpa using hi) (cM.small ok hk) λb H' e d=>?_
 rw[c]
 exact f b H' e (by simpa[Dk.fl] using d)
theorem w9 {Q:Sl->Int->PH->Prop} (h:aA H (aC B::L)) (hi:L[i]?=some (av A D)) (ok:cM k D) (hk:k< 2 ^ 29) (c:0<=at'/\at'<D.now.length)
 (e:∀r H',aA H' (aC B::aW u8 r (D.sec at')::L)->Q r 0 H'):eQ (some A.a) at' H Q:=by
 have d:dG H A D:=h.get (i+1) (by simpa using hi)
 refine Sg d (cM.small ok hk) λr H' b=>?_
 rw[Sh ok c] at b ⊢
 exact e r H' (h.made b)
theorem BL {Q:Bool->PH->Prop} (h:aA H (aC B::L)) (hi:L[i]?=some (av A D)) (b:Q D.off H):gJ (some A.a) H Q:=by
 have d:dG H A D:=h.get (i+1) (by simpa using hi)
 exact OL d b
theorem Eb {Q:Int->PH->Prop} (h:aA H (aC B::L)) (hi:L[i]?=some (av A D)) (b:Q D.now.length H):iw (some A.a) H Q:=by
 have d:dG H A D:=h.get (i+1) (by simpa using hi)
 exact tu d b
end
end Ds
namespace jo
open Go Go.Kx KM Rw Cr It Ds
section
variable {H B:PH} {L:List Ob} {k:Nat} {A:DA} {D:Dk} {p:Sl} {bs:Bs} {at':Int}
theorem GJ {n:Nat} {Q:Int->PH->Prop} (h:aA H (aC B::av A D::L)) (ok:cM k D) (hk:k+n< 2 ^ 29) (M:Bytes B p bs) (hl:bs.length=64*n) (hb:bU bs) (I:0<=at') (aa:at'+n<=D.now.length)
 (Z:∀d z H',d.a=A.a->Ext B z->aA H' (aC z::av d (D.kQ at' (chunks bs n))::L)->Q 0 H'):vH (some A.a) at' p H Q:=by
 have hn:=ok.now
 refine fM h λa1 B1 H1 S r1 U=>az U λC H2 V=>az V λE H3 W=>Rc.Dy (p:=p) W λc0 c1 g H4 u P R X x4=>?_
 have w:Ext B g:=S.trans u
 refine jX c0 c1 _ _ _ _ (Rc.za (x:=p) (b:=bs) n
  (λi _ r=>∃d:DA,d.a=A.a/\aA r (aC g::aG E [i64 0]::aG C [i64 (at'+(i:Int))]::av d (D.kQ at' (chunks bs i))::L))
  hl (by omega) ?_ ⟨A,rfl,by simpa[chunks,Dk.kQ] using X⟩ ?_ ?_)
 ·rintro i _ r ⟨d,_,c⟩
  exact⟨Rc.aZ.one (P.ext c.base),Rc.aZ.one (R.ext c.base),M.ext (w.trans c.base)⟩
 ·rintro i _ r K y ab ⟨d,s,c⟩ hy f _
  have N:∀b∈chunks bs i,b.length=64/\bU b:=λb J=>by
   obtain⟨j,l⟩:=List.getElem?_of_mem J
   have o:j<i:=by have:=(List.getElem?_eq_some_iff.1 l).1;rwa[Rc.jc] at this
   have e:(chunks bs i)[j]?=some ((bs.drop (64*j)).take 64):=by
    clear l c f
    revert o
    have:∀(i:Nat),i<=n->∀j,j<i->(chunks bs i)[j]?=some ((bs.drop (64*j)).take 64):=by
     intro i
     induction i with
     |zero=>intro _ j l;omega
     |succ i ih=>
      intro hi j l
      rw[Rc.uo]
      by_cases e:j<i
      ·rw[List.getElem?_append_left (by rw[Rc.jc];exact e)];exact ih (by omega) j e
      ·have:j=i:=by omega
       subst this
       rw[List.getElem?_append_right (by rw[Rc.jc];exact Nat.le_refl _),Rc.jc,Nat.sub_self];rfl
    exactλo=>this i (by omega) j o
   rw[e] at l;cases l
   exact⟨by simp;omega,rL (pr hb _) _⟩
  obtain⟨t,v⟩:=BI (chunks bs i) (at_:=at') ok I (by rw[Rc.jc];omega) N
  rw[Rc.jc] at t
  have O:Bytes g y ((bs.drop (64*i)).take 64):=hy g (M.ext w)
  refine⟨y,rfl,some d.a,?_,dO (x:=at'+(i:Int)) c 2 rfl ?_⟩
  ·rw[s];exact Rc.aZ.one ((r1.ext u).ext c.base)
  refine wQ (i:=2) c rfl t (by omega) (by rw[v];omega) O (by simp;omega) λT H5 F G=>aE rfl ?_
  refine dO (x:=at'+(i:Int)) G 2 rfl (hC G 2 rfl rfl λq m=>f () q ⟨T,F.trans s,?_⟩)
  rw[Rc.uo,AY,Rc.jc]
  have e:IntKind.wrap .i64 (at'+(i:Int)+1)=at'+((i+1:Nat):Int):=by rw[bo (by omega) (by omega)];push_cast;omega
  rw[e] at m;exact m
 ·rintro _ r ⟨d,s,c⟩
  refine aE rfl (hC c 1 rfl rfl λq m=>dO (x:=(0:Int)) m 1 rfl ?_)
  have Y:aA q (aC g::aG E [i64 0]::aG C _::av d (D.kQ at' (chunks bs n))::L):=m
  exact Z d g q s w Y.ak.ak
abbrev S2:=Sl×Sl
abbrev s2 (x:S2):List Value:=[Sl.v x.1,Sl.v x.2]
theorem Be {Q:S2->Int->PH->Prop} (h:aA H (aC B::av A D::L)) (ok:cM k D) (hk:k< 2 ^ 29) (G:2<=D.now.length)
 (C:∀x b H',Ext B b->Bytes b x.1 (D.sec 0)->Bytes b x.2 (D.sec 1)->aA H' (aC b::av A D::L)->Q x 0 H'):qw (some A.a) H Q:=by
 refine az h λa1 H1 y=>?_
 refine ax 2 (λi st w=>st=(i:Int)/\∃b x,Ext B b/\(1<=i->Bytes b x.1 (D.sec 0))/\(2<=i->Bytes b x.2 (D.sec 1))/\aA w (aC b::aG a1 (s2 x)::av A D::L)) ⟨rfl,B,(Sl.nil,Sl.nil),.refl _,λh=>absurd h (by omega),λh=>absurd h (by omega),y⟩ ?_
 rintro i st E again hi ⟨rfl,b,x,o,m,v,n⟩ g
 refine aL (λc=>?_) (λc=>?_)
 ·have l:i< 2:=by simp at c;omega
  refine w9 (i:=1) n rfl ok hk ⟨by omega,by omega⟩ λr s f=>gX f λq d u z=>?_
  rw[bH (by omega)]
  refine⟨_,⟨by omega,by simpa using c,rfl⟩,?_⟩
  rw[Nat.mul_one,Int.toNat_natCast]
  refine cB (j:=i) z 1 rfl (by simp;omega) rfl λF t=>aE rfl ?_
  by_cases e:i=0
  ·subst e
   refine g l _ _ ⟨rfl,q,(r,x.2),o.trans d,λ_=>u,λh=>absurd h (by omega),t⟩
  ·have:i=1:=by omega
   subst this
   refine g l _ _ ⟨rfl,q,(x.1,r),o.trans d,λ_=>(m (by omega)).ext d,λ_=>u,t⟩
 ·have:i=2:=by simp at c;omega
  subst this
  refine bk (x:=x) n rfl rfl (bf (vs:=s2 x) n rfl rfl λs f=>bk (x:=x) f rfl rfl ?_)
  exact C x b s o (m (by omega)) (v (by omega)) f.ak
end
end jo
end
section
namespace Ge
open Go Go.Kx KM
section
variable {H:PH} {g:Option Addr} {c:bC}
theorem tW {x lo hi:Int} {Q:Bool->PH->Prop} (a:Q (bE x lo hi) H):eK x lo hi H Q:=bD a
theorem Ec {p:Pos} {Q:Bool->PH->Prop} (h:Gm H g c) (f:bg c) (i:∀H',Ext H H'->Q (iT c p) H'):qC g p H Q:=by
 refine dC (.start H) λa H1 d e=>ay (x:=p.1) d rfl (ny (h.ext e) f ?_)
 obtain⟨m,rfl,j⟩:=h
 have n:=f.2.2.2.2
 refine cq (b:=bE p.2.1 0 (c.2.2- 1)) (λk=>ay (x:=p.2.1) d rfl (aD (my (x:=c.2.2) (j.ext e) rfl ?_))) ?_
 ·rw[bA (by omega) (by omega)];exact tW k
 refine cq (b:=bE p.2.2.1 1 2147483647) (λk=>ay (x:=p.2.2.1) d rfl (tW k)) ?_
 refine cq (b:=bE p.2.2.2.2 1 2147483647) (λk=>ay (x:=p.2.2.2.2) d rfl (tW k)) ?_
 exact cq (b:=bE p.2.2.2.1 0 4294967295) (λk=>ay (x:=p.2.2.2.1) d rfl (tW k)) (i H1 e)
theorem pI {aQ:Bool} {k slot:Int} {Q:Int->PH->Prop} (f:Gm H g c) (d:bg c) (hk:0<=k/\k<cR c) (u:slot=0∨slot=1) (s:∀H',Ext H H'->Q (gC c aQ k slot) H'):kI g aQ k slot H Q:=by
 have A:=gE d
 have y:=kT d
 obtain⟨i,rfl,t⟩:=f
 have f:∀H',Ext H H'->Gm H' (some i) c:=λH' x=>⟨i,rfl,t.ext x⟩
 refine aF (aE rfl (tW ?_))
 rw[show bE slot 0 1=true by rcases u with rfl|rfl<;>rfl]
 refine aF (aE rfl (fB (f H (.refl H)) d λH1 j=>?_))
 rw[bA (x:=cR c- 1) (by omega) (by omega)]
 refine tW ?_
 rw[show bE k 0 (cR c- 1)=true from KM.bY.2 (by omega)]
 refine aE rfl ?_
 have fin:∀z a,Ext H a->z=(if aQ then k+cR c else k)->dq (some i) a λo m=>Q (IntKind.wrap .i64 ((IntKind.wrap .i64 (2+(IntKind.wrap .i64 (2*(IntKind.wrap .i64 (o+z))))))+slot)) m:=λz a h n=>by
  refine tT (f a h) d ?_
  have w:0<=z/\z<=10:=by subst n;split<;>omega
  have v:0<=slot/\slot<=1:=by omega
  rw[bA (x:=cD c+z) (by omega) (by omega),bA (x:=2*(cD c+z)) (by omega) (by omega),bA (x:=2+2*(cD c+z)) (by omega) (by omega),bA (by omega) (by omega)]
  have:=s a h
  rw[gC,←n] at this;exact this
 refine aF (aL (λe=>fB (f H1 j) d λa h=>?_) (λe=>fin k H1 j (by rw[e];rfl)))
 rw[bA (x:=k+cR c) (by omega) (by omega)]
 exact fin _ a (j.trans h) (by rw[e];rfl)
theorem qP {slot:Int} {Q:Int->PH->Prop} (h:Gm H g c) (a:bg c) (d:slot=0∨slot=1) (f:Q (bN c slot) H):ig g slot H Q:=by
 have j:=kT a
 obtain⟨e,rfl,i⟩:=h
 refine aF (aE rfl (tW ?_))
 rw[show bE slot 0 1=true by rcases d with rfl|rfl<;>rfl]
 refine aE rfl (tT ⟨e,rfl,i⟩ a ?_)
 have:0<=slot*cD c/\slot*cD c<=4:=by rcases d with rfl|rfl<;>omega
 rw[bA (x:=slot*cD c) (by omega) (by omega),bA (by omega) (by omega)]
 exact f
theorem uC {slot:Int} {Q:Int->PH->Prop} (d:Gm H g c) (e:slot=0∨slot=1) (a:Q slot H):kl g slot H Q:=by
 obtain⟨f,rfl,h⟩:=d
 refine aF (aE rfl (tW ?_))
 rw[show bE slot 0 1=true by rcases e with rfl|rfl<;>rfl]
 exact aE rfl a
end
end Ge
namespace Rc
open Go Go.Kx KM Rw Cr It
section
variable {H B:PH} {L:List Ob} {x:R5} {r:Rec} {p q:Sl} {b:Bs} {l:List iY}
theorem call7 {i:iY} {K:Value->PH->Prop} (a:∀H',Ext H H'->K (.bool (i.1==7)) H'):ue Tryz.prog (.func (.func 224) #[] #[]) [.agg (eB i).toArray] H K:=by
 refine⟨224,#[],#[],rfl,cP Tryz.func224 rfl rfl,?_⟩
 have h:=Bz (p0:=i) (H:=H) (Q:=λb H'=>Ext H H'/\b=(i.1==7)) (jf λa1 k j e _=>aa (x:=i.1) e rfl ⟨j,rfl⟩)
 exact dv.mono h λr H' d=>by
  obtain⟨b,rfl,f,rfl⟩:=d
  exact a H' f
theorem KI {Q:Int->PH->Prop} (o:dT eB 4 H p l) (D:l.length< 2 ^ 40) (e:∀(k:Nat) (i:iY) H',Ext H H'->l[k]?=some i->dJ l=some i.2.2.2->Q (k:Int) H') (n:∀H',Ext H H'->dJ l=none->Q (-1) H'):fJ p (.func (.func 224) #[] #[]) H Q:=by
 refine ax l.length (λk st u=>st=(k:Int)/\Ext H u/\∀x∈l.take k,(x.1==7)=false) ⟨rfl,.refl H,by simp⟩ ?_
 rintro k st H1 again hk ⟨rfl,f,d⟩ j
 rw[o.bF]
 have hf:(l.take k).find? (λi=>i.1==7)=none:=List.find?_eq_none.2 λx C=>by rw[d x C];simp
 refine aL (λc=>?_) (λc=>?_)
 ·have m:k<l.length:=by simpa using c
  refine zH (o.ext f) (by omega) (by omega) λa i hi A=>⟨i,A,call7 λt s=>⟨_,rfl,?_⟩⟩
  rw[Int.toNat_natCast] at hi
  have es:l=l.take k++i::l.drop (k+1):=by
   have v:=List.getElem?_eq_some_iff.1 hi
   obtain⟨w,z⟩:=v
   rw[←z,←List.drop_eq_getElem_cons w,List.take_append_drop]
  refine aL (λc1=>e k i t (f.trans s) hi ?_) (λc1=>?_)
  ·rw[dJ,es,List.find?_append,hf];simp only[Option.none_or]
   have e1:(i::l.drop (k+1)).find? (λi=>i.1==7)=some i:=List.find?_cons_of_pos (p:=λi:iY=>i.1==7) c1
   rw[e1];rfl
  ·rw[bH (by omega)]
   refine j m _ _ ⟨rfl,f.trans s,λy e=>?_⟩
   rw[fk hi] at e
   rcases List.mem_append.1 e with h|h
   ·exact d y h
   ·have:=List.mem_singleton.1 h;subst this;exact c1
 ·have:k=l.length:=by simp at c;omega
  subst this
  rw[List.take_length] at hf
  exact n H1 f (by rw[dJ,hf];rfl)
theorem Ae {Q:Int->Bool->PH->Prop} (m:oQ H x r) (o:∀H',Ext H H'->Q ((dJ r.items).getD 0) (dJ r.items).isSome H'):nu x H Q:=by
 refine dC (.start H) λa H1 n f=>ay (x:=x.2.2.2.1) n rfl (KI (m.it.ext f) m.Sm.1 (λk i h d hi e=>?_) (λh d e=>?_))
 ·have t:=n.ext d
  refine aE (by simp) (ay (x:=x.2.2.2.1) t rfl ?_)
  have v:=(List.getElem?_eq_some_iff.1 hi).1
  refine zH (m.it.ext (f.trans d)) (by omega) (by omega) λb j s u=>?_
  rw[Int.toNat_natCast,hi] at s
  cases s
  refine⟨i.2.2.2,nm u rfl,?_⟩
  have q:=o h (f.trans d)
  rw[e] at q;exact q
 ·have q:=o h (f.trans d)
  rw[e] at q
  exact ae rfl q
end
end Rc
end
section
namespace Us
open Go Go.Kx KM Ge
def bQ (u:cz):List Value:=[.int .i64 u.1,.int .i64 u.2]
theorem lh (u:cz):(bQ u).length=2:=rfl
theorem Py (u:cz):(bQ u).all cI=true:=rfl
theorem Px (x:Int):cI (Value.int .i64 x)=true:=rfl
theorem bH {k:Nat} (h:k< 2 ^ 60):IntKind.wrap .i64 ((k:Int)+1)=((k+1:Nat):Int):=by rw[bA (by omega) (by omega)];push_cast;rfl
theorem n5 {α:Type} {L:List α} {i:Nat} {O:α} (h:L[i]?=some O):L.set i O=L:=by
 apply List.ext_getElem?
 intro j
 by_cases e:i=j
 ·subst e;rw[List.getElem?_set_self (List.getElem?_eq_some_iff.1 h).1,h]
 ·rw[List.getElem?_set_ne e]
theorem bY {α:Type} {l:List α} {k:Int}:ya l k=true↔0<=k/\k<l.length:=by simp[ya]
theorem GK {α:Type} {l:List α} {k:Int}:ya l k=false↔¬(0<=k/\k<l.length):=by rw[←bY];simp
theorem jG {α:Type} {d:α} {l:List α} {k:Int} {x:α} (b:0<=k) (c:l[k.toNat]?=some x):dU d l k=x:=by simp[dU,b,List.getD,c]
theorem CJ {α:Type} {d:α} {l:List α} {k:Int} (h:¬(0<=k/\k<l.length)):dU d l k=d:=by
 unfold dU
 split
 ·rw[List.getD,List.getElem?_eq_none (by omega)];rfl
 ·rfl
theorem Sq {α:Type} {d:α} {l:List α} {k:Int} (c:0<=k) (e:k<l.length):l[k.toNat]?=some (dU d l k):=by
 have b:k.toNat<l.length:=by omega
 rw[jG c (List.getElem?_eq_getElem b)];simp[b]
theorem GL (l:List cz) (k st:Int):(vZ l k st).length=l.length:=by simp[vZ]
theorem OX (l:List cz) (k st:Int):(AS l k st).length=l.length:=by simp[AS]
theorem tX (l:List cz) (v:List Int):∀k,(dm l v k).length=l.length
 | 0=>rfl
 |k+1=>by unfold dm;split<;>simp[tX l v k]
theorem xo (l:List cz) (v:List Int):∀(k i:Nat),(dm l v k)[i]?=if i<k/\ki l v i=true then(l[i]?).map (λu=>(0,u.2)) else l[i]?
 | 0,i=>by simp[dm]
 |k+1,i=>by
  unfold dm
  by_cases hi:ki l v k=true
  ·rw[if_pos hi]
   by_cases e:k=i
   ·subst e
    by_cases b:k<l.length
    ·rw[List.getElem?_set_self (by rw[tX];exact b),if_pos ⟨by omega,hi⟩,List.getElem?_eq_getElem b];simp[List.getD,b]
    ·rw[List.getElem?_eq_none (by rw[List.length_set,tX];omega),List.getElem?_eq_none (by omega)];simp
   ·rw[List.getElem?_set_ne e,xo l v k i]
    by_cases h:i<k
    ·simp[h,show i<k+1 by omega]
    ·simp[h,show¬i<k+1 by omega]
  ·rw[if_neg hi,xo l v k i]
   by_cases e:k=i
   ·subst e
    rw[if_neg (by omega),if_neg (by simp[hi])]
   ·by_cases h:i<k
    ·simp[h,show i<k+1 by omega]
    ·simp[h,show¬i<k+1 by omega]
theorem DB {l:List cz} {v:List Int} {k:Nat} (h:ki l v k=false):nP l v (k+1)=nP l v k:=by simp only[nP,List.range_succ,List.filterMap_append,List.filterMap_cons,h];simp
theorem DC {l:List cz} {v:List Int} {k:Nat} (h:ki l v k=true):nP l v (k+1)=nP l v k++[(k:Int)]:=by simp only[nP,List.range_succ,List.filterMap_append,List.filterMap_cons,h];simp
theorem Ed (l:List cz) (v:List Int):∀k,(nP l v k).length<=k
 | 0=>by simp[nP]
 |k+1=>by
  have:=Ed l v k
  cases h:ki l v k with
  |false=>rw[DB h];omega
  |true=>rw[DC h,List.length_append,List.length_singleton];omega
abbrev gV (p:Option Addr) (s t:Sl):List Value:=[.pointer p,Sl.v s,Sl.v t]
section
variable {H:PH} {L:List Ob} {a:Addr} {p:Option Addr} {s t:Sl} {l:List cz} {v:List Int} {i j:Nat}
theorem Sr {x:cz} {b:Addr} {K:cz->Prop} (d:bw H b 2=some (bQ x)) (c:K x):aU (λ(x:(Int×Int))=>[.int .i64 x.1,.int .i64 x.2]) H b 2 K:=⟨x,d,c⟩
theorem Ss {x:cz} {b:Addr} {K:Int->Prop} (d:bw H b 2=some (bQ x)) (c:K x.1):aH (.int .i64) H (b.add 0) K:=⟨x.1,nm d rfl,c⟩
theorem XH {x:cz} {b:Addr} {K:Int->Prop} (d:bw H b 2=some (bQ x)) (c:K x.2):aH (.int .i64) H (b.add 1) K:=⟨x.2,nm d rfl,c⟩
theorem wR {k:Int} {Q:Bool->PH->Prop} (r:aZ H a (gV p s t)) (d:(s.len:Int)=l.length) (b:Q (ya l k) H):gQ (some a) k H Q:=by
 refine aF (ae rfl (aF (aL (λc=>aD (aa (x:=s) r rfl ?_)) (λc=>?_))))
 ·rw[d];rw[ya,c] at b;exact b
 ·rw[ya,c] at b;exact b
theorem KJ {k:Int} {Q:Int->PH->Prop} (r:aZ H a (gV p s t)) (f:dT bQ 2 H s l) (d:Q (dU (0,0) l k).1 H):oE (some a) k H Q:=by
 refine wR r f.bF (aL (λc=>?_) (λc=>?_))
 ·rw[CJ (GK.1 (by simpa using c))] at d;exact d
 ·obtain⟨e,g⟩:=bY.1 (by simpa using c)
  refine aD (aa (x:=s) r rfl (ob f e g λb x m h=>Ss h ?_))
  rw[jG e m] at d;exact d
theorem KL {k:Int} {Q:Int->PH->Prop} (r:aZ H a (gV p s t)) (f:dT bQ 2 H s l) (d:Q (dU (0,0) l k).2 H):oM (some a) k H Q:=by
 refine wR r f.bF (aL (λc=>?_) (λc=>?_))
 ·rw[CJ (GK.1 (by simpa using c))] at d;exact d
 ·obtain⟨e,g⟩:=bY.1 (by simpa using c)
  refine aD (aa (x:=s) r rfl (ob f e g λb x m h=>XH h ?_))
  rw[jG e m] at d;exact d
theorem vQ {k:Int} {Q:Int->PH->Prop} (r:aZ H a (gV p s t)) (e:(s.len:Int)=l.length) (f:fv H t v) (g:v.length=l.length) (b:Q (dU 0 v k) H):pc (some a) k H Q:=by
 refine wR r e (aL (λc=>?_) (λc=>?_))
 ·rw[CJ (by rw[g];exact GK.1 (by simpa using c))] at b;exact b
 ·obtain⟨d,m⟩:=bY.1 (by simpa using c)
  refine aD (aa (x:=t) r rfl (eJ f d (by omega) λx h=>?_))
  rw[jG d h] at b;exact b
theorem free_spec {Q:Int->PH->Prop} (r:aZ H a (gV p s t)) (h:dT bQ 2 H s l) (E:l.length< 2 ^ 40) (w:∀H',Ext H H'->Q (dZ l) H'):kN (some a) H Q:=by
 refine aE rfl (aD (aa (x:=s) r rfl ?_))
 refine ax l.length (λk st q=>st=((((l.take k).countP (λu=>u.1==0):Nat):Int),(k:Int))/\Ext H q) ⟨by simp,.refl H⟩ ?_
 rintro k st H1 again hk ⟨rfl,g⟩ f
 rw[h.bF]
 refine aL (λc=>?_) (λc=>?_)
 ·have d:k<l.length:=by simpa using c
  refine aF (ob (h.ext g) (by simp) (by simpa using d) λb x m y=>Sr y (jf λD C B z f2=>sO (vs:=bQ x) z rfl rfl λo A k3=>aa (x:=x.1) A rfl ?_))
  rw[Int.toNat_natCast] at m
  have hle:((l.take k).countP λu=>u.1==0)<=k:=Nat.le_trans List.countP_le_length (by rw[List.length_take];omega)
  have e:(l.take (k+1)).countP (λu=>u.1==0)=(l.take k).countP (λu=>u.1==0)+if x.1==0 then 1 else 0:=by rw[List.take_add_one,m];simp[List.countP_append,List.countP_cons]
  have n:Ext H o:=g.trans (B.BC k3 f2)
  rw[bH (k:=k) (by omega)]
  refine aL (λc1=>?_) (λc1=>?_)
  ·rw[bH (by omega)]
   refine f d _ _ ⟨?_,n⟩
   rw[e,c1];rfl
  ·refine f d _ _ ⟨?_,n⟩
   rw[e,c1];rfl
 ·have:k=l.length:=by simp at c;omega
  subst this
  rw[List.take_length]
  exact w H1 g
theorem Ee {k:Int} {Q:Bool->PH->Prop} (h:aA H L) (r:aZ H a (gV p s t)) (i j:Nat) (hi:L[i]?=some (aq bQ 2 s l)) (u:L[j]?=some (aW (Value.int .i64) t v)) (q:i≠j) (z:v.length=l.length)
 (f:∀H',aA H' ((L.set i (aq bQ 2 s (pk l k))).set j (aW (Value.int .i64) t (tn l v k)))->Q (jA l k) H'):kL (some a) k H Q:=by
 have m:bT bQ 2 H s l:=h.get i hi
 have stay:jA l k=false->Q false H:=λe=>by
  have:=f H
  rw[pk,tn,e] at this
  simp only[Bool.false_eq_true,if_false] at this
  rw[n5 hi,n5 u] at this
  exact this h
 refine wR r m.bF (aF (aL (λc=>ae rfl (stay ?_)) (λc=>?_)))
 ·rw[jA];simp at c;rw[c];rfl
 ·have g:ya l k=true:=by simpa using c
  obtain⟨d,n⟩:=bY.1 g
  refine aD (aa (x:=s) r rfl (qv m d n λb x el=>⟨x.1,el.cell lh rfl,aL (λc1=>stay ?_) (λc1=>?_)⟩))
  ·rw[jA,g,jG d el.get];simpa using c1
  ·have e:jA l k=true:=by rw[jA,g,jG d el.get];simpa using c1
   rw[pk,tn,e] at f
   simp only[if_true] at f
   refine aD (aa (x:=s) r rfl (aD (aa (x:=t) r rfl (qv m d n λb x el=>BE lh (1,x.2) h i hi el (by decide) rfl rfl λH1 o=>?_))))
   refine tf (enc:=Value.int .i64) (x:=0) o j (by rw[List.getElem?_set_ne q];exact u) d (by omega) rfl λw y=>f w ?_
   rw[vZ,jG d el.get]
   exact y
theorem vM {k:Int} {Q:PH->Prop} (h:aA H L) (r:aZ H a (gV p s t)) (i:Nat) (hi:L[i]?=some (aq bQ 2 s l)) (g:∀H',aA H' (L.set i (aq bQ 2 s (qj l k)))->Q H'):kM (some a) k H Q:=by
 have m:bT bQ 2 H s l:=h.get i hi
 have stay:(ya l k&&(dU (0,0) l k).1==1)=false->Q H:=λe=>by
  have:=g H
  rw[qj,e] at this
  simp only[Bool.false_eq_true,if_false] at this
  rw[n5 hi] at this
  exact this h
 refine wR r m.bF (aF (aL (λc=>?_) (λc=>aE rfl (stay (by rw[c];rfl)))))
 obtain⟨d,n⟩:=bY.1 c
 refine aD (aa (x:=s) r rfl (qv m d n λb x el=>⟨x.1,el.cell lh rfl,aL (λc1=>?_) (λc1=>stay ?_)⟩))
 ·rw[qj,c,jG d el.get,c1] at g
  refine aD (aa (x:=s) r rfl (qv m d n λq y f=>BE lh (2,y.2) h i hi f (by decide) rfl rfl λH1 o=>g H1 ?_))
  simp only[Bool.and_self,if_true]
  rw[vZ,jG d f.get]
  exact o
 ·rw[c,jG d el.get,c1];rfl
theorem DD {k st:Int} {Q:PH->Prop} (h:aA H L) (r:aZ H a (gV p s t)) (i:Nat) (hi:L[i]?=some (aq bQ 2 s l)) (d:∀H',aA H' (L.set i (aq bQ 2 s (gr l k st)))->Q H'):jh (some a) k st H Q:=by
 have m:bT bQ 2 H s l:=h.get i hi
 have stay:(ya l k&&(decide (0<=st)&&decide (st<=2147483647)))=false->Q H:=λe=>by
  have:=d H
  rw[gr,e] at this
  simp only[Bool.false_eq_true,if_false] at this
  rw[n5 hi] at this
  exact this h
 refine wR r m.bF (aF (aL (λc=>aF (aL (λc1=>aL (λc2=>?_) (λc2=>stay (by rw[c,c1,c2];rfl))) (λc1=>aE rfl (stay (by rw[c,c1];rfl))))) (λc=>aF (aE rfl (aE rfl (stay (by rw[c];rfl)))))))
 obtain⟨f,n⟩:=bY.1 c
 rw[gr,c,c1,c2] at d
 refine aD (aa (x:=s) r rfl (qv m f n λo y b=>BE lh (y.1,st) h i hi b (by decide) rfl rfl λH1 g=>d H1 ?_))
 simp only[Bool.and_self,if_true]
 rw[AS,jG f b.get]
 exact g
theorem Q0 {x b:Int} (h:0<=x):0<=vc x b/\vc x b<=2147483647:=by unfold vc;split<;>omega
theorem mY {c:bC} (d:bg c) {at':Int} (h:base c<=at'/\at'<all c):0<=(at'-base c)/c.2.2/\(at'-base c)/c.2.2<c.2.1:=by
 have e:=d.2.2.2.2.1
 refine⟨Int.ediv_nonneg (by omega) (by omega),?_⟩
 have b:all c=base c+c.2.1*c.2.2:=rfl
 exact Int.ediv_lt_of_lt_mul (by omega) (by omega)
theorem Af {c:bC} {at' b:Int} {Q:Bool->PH->Prop} (h:aA H L) (r:aZ H a (gV p s t)) (E:Gm H p c) (u:bg c) (j:Nat) (m:L[j]?=some (aW (Value.int .i64) t v)) (F:(v.length:Int)=c.2.1) (z:∀x,x∈v->0<=x/\x<=2147483647) (G: -9223372036854775808<=b)
 (f:∀H',aA H' (L.set j (aW (Value.int .i64) t (lF c v at' b)))->Q (decide (base c<=at'/\at'<all c)) H'):km (some a) at' b H Q:=by
 refine aE rfl (aD (aa (x:=p) r rfl (C6 E u λH1 C=>?_)))
 have k:=h.ext C
 have n:=r.ext C
 by_cases d:base c<=at'/\at'<all c
 ·rw[if_pos d]
  obtain⟨s0,s1⟩:=mY u d
  generalize w:(at'-base c)/c.2.2=B at s0 s1
  have e:B<v.length:=by omega
  refine aF (aE rfl (aD (aa (x:=t) n rfl (eJ (k.list j m) s0 e λx q=>?_))))
  obtain⟨x0,I⟩:=z x (List.mem_of_getElem? q)
  rw[bA (x:=2147483647-x) (by omega) (by omega)]
  have D:lF c v at' b=v.set B.toNat (vc x b):=by rw[lF,if_pos d,w,jG s0 q]
  rw[D,decide_eq_true d] at f
  refine aL (λc1=>?_) (λc1=>?_)
  ·have g:2147483647-x<b:=by simpa using c1
   have o:vc x b=2147483647:=by rw[vc,if_pos g]
   rw[o] at f
   exact aD (aa (x:=t) n rfl (tf (enc:=Value.int .i64) k j m s0 e rfl f))
  ·have g:¬2147483647-x<b:=by simpa using c1
   have o:vc x b=if x+b< 0 then 0 else x+b:=by rw[vc,if_neg g];split<;>omega
   rw[o] at f
   refine aD (aa (x:=t) n rfl (aD (aa (x:=t) n rfl (eJ (k.list j m) s0 e λy A=>?_))))
   rw[q] at A;cases A
   rw[bA (by omega) (by omega)]
   exact tf (enc:=Value.int .i64) k j m s0 e rfl f
 ·rw[if_neg d]
  have:=f H1
  rw[lF,if_neg d,decide_eq_false d,n5 m] at this
  exact aF (ae rfl (this k))
end
section
variable {H:PH} {L:List Ob} {a:Addr} {p:Option Addr} {s t:Sl} {l:List cz} {v:List Int}
theorem UD {x:cz} {K:Value->PH->Prop} (c:∀H',Ext H H'->K (.bool (x.1==0)) H'):ue Tryz.prog (.func (.func 323) #[] #[]) [.agg ([.int .i64 x.1,.int .i64 x.2]:List Value).toArray] H K:=by
 refine⟨323,#[],#[],rfl,cP Tryz.func323 rfl rfl,?_⟩
 have h:=yY (p0:=x) (H:=H) (Q:=λb H'=>Ext H H'/\b=(x.1==0)) (jf λa1 k g e _=>aa (x:=x.1) e rfl ⟨g,rfl⟩)
 exact dv.mono h λr H' d=>by
  obtain⟨b,rfl,f,rfl⟩:=d
  exact c H' f
theorem zb {Q:Int->PH->Prop} (r:dT bQ 2 H s l) (E:l.length< 2 ^ 40) (o:∀H',Ext H H'->Q (nQ l) H'):dx s (.func (.func 323) #[] #[]) H Q:=by
 refine ax l.length (λk st B=>st=(k:Int)/\Ext H B/\∀i x,i<k->l[i]?=some x->(x.1==0)=false) ⟨rfl,.refl H,λi x h=>absurd h (by omega)⟩ ?_
 rintro k st H1 again hk ⟨rfl,m,f⟩ q
 rw[r.bF]
 refine aL (λc=>?_) (λc=>?_)
 ·have d:k<l.length:=by simpa using c
  refine ob (r.ext m) (by simp) (by simpa using d) λb x g C=>Sr C (UD λA z=>⟨_,rfl,?_⟩)
  rw[Int.toNat_natCast] at g
  obtain⟨_,w⟩:=List.getElem?_eq_some_iff.1 g
  refine aL (λc1=>?_) (λc1=>?_)
  ·have e:l.findIdx (λu=>u.1==0)=k:=(List.findIdx_eq d).2 ⟨by rw[w];exact c1,λj D=>f j _ D (List.getElem?_eq_getElem (by omega))⟩
   have:=o A (m.trans z)
   rw[nQ,e,if_pos d] at this
   exact this
  ·rw[bH (by omega)]
   refine q d _ _ ⟨rfl,m.trans z,λi y hi n=>?_⟩
   by_cases e:i=k
   ·subst e;rw[g] at n;cases n;exact c1
   ·exact f i y (by omega) n
 ·have:k=l.length:=by simp at c;omega
  subst this
  have e:l.findIdx (λu=>u.1==0)=l.length:=List.findIdx_eq_length.2 λx g=>by
   obtain⟨i,hi⟩:=List.getElem?_of_mem g
   exact f i x (List.getElem?_eq_some_iff.1 hi).1 hi
  have:=o H1 m
  rw[nQ,e,if_neg (by omega)] at this
  exact this
theorem GM (l:List cz):jA l (-1)=false:=by rw[jA,ya];rfl
theorem jE {sp:Bool} {Q:Int->Bool->PH->Prop} (h:aA H L) (r:aZ H a (gV p s t)) (i j:Nat) (hi:L[i]?=some (aq bQ 2 s l)) (o:L[j]?=some (aW (Value.int .i64) t v)) (n:i≠j) (D:v.length=l.length) (u:l.length< 2 ^ 40)
 (k:∀H',aA H' ((L.set i (aq bQ 2 s (pk l (cA l sp)))).set j (aW (Value.int .i64) t (tn l v (cA l sp))))->Q (if jA l (cA l sp) then cA l sp else 0) (jA l (cA l sp)) H'):pY (some a) sp H Q:=by
 have w:bT bQ 2 H s l:=h.get i hi
 have go:∀H1,Ext H H1->cA l sp=nQ l->aN (some a) λB=>aH Sl.v H1 (B.add 1) λE=>dx E (.func (.func 323) #[] #[]) H1 λe m=>kL (some a) e m λz d=>aJ (!z) (Q 0 false d) (Q e true d):=by
  intro H1 b g
  rw[g] at k
  refine aD (aa (x:=s) (r.ext b) rfl (zb ((w.jv lh).ext b) u λF y=>Ee (h.ext (b.trans y)) (r.ext (b.trans y)) i j hi o n D λA C=>?_))
  have q:=k A C
  refine aL (λc=>?_) (λc=>?_)
  ·have f:jA l (nQ l)=false:=by simpa using c
   rw[f] at q;exact q
  ·have f:jA l (nQ l)=true:=by simpa using c
   rw[f] at q;exact q
 refine aF (aE rfl (aF (aL (λc=>?_) (λc=>aE rfl (go H (.refl H) ?_)))))
 ·refine free_spec r (w.jv lh) u λH1 b=>aL (λc1=>?_) (λc1=>go H1 b ?_)
  ·have g:cA l sp= -1:=by rw[cA,c,if_pos];simp at c1 ⊢; omega
   have:=k H1
   rw[g,pk,tn,GM] at this
   simp only[Bool.false_eq_true,if_false] at this
   rw[n5 hi,n5 o] at this
   exact this (h.ext b)
  ·rw[cA,if_neg];simp at c1 ⊢; omega
 ·rw[cA,if_neg];simp at c ⊢; simp[c]
theorem Ef {k:Nat} {Q:Bool->PH->Prop} (r:aZ H a (gV p s t)) (h:dT bQ 2 H s l) (m:fv H t v) (hk:k<l.length) (n:v.length=l.length) (d:Q (ki l v k) H):mV (some a) k H Q:=by
 refine aD (aa (x:=s) r rfl (ob h (by simp) (by simpa using hk) λb x e g=>Ss g (aF ?_)))
 rw[Int.toNat_natCast] at e
 rw[ki,show l.getD k (0,0)=x by simp[List.getD,e]] at d
 refine aL (λc=>?_) (λc=>?_)
 ·refine aD (aa (x:=t) r rfl (eJ m (by omega) (by omega) λy f=>?_))
  rw[Int.toNat_natCast] at f
  rw[c,Bool.true_and,show v.getD k 0=y by simp[List.getD,f]] at d
  exact d
 ·rw[c,Bool.false_and] at d;exact d
theorem CK (l:List cz) (v:List Int) (k:Nat):(dm l v k)[k]?=l[k]?:=by rw[xo,if_neg (by omega)]
theorem KN (l:List cz) (v:List Int) (k:Nat):ki (dm l v k) v k=ki l v k:=by rw[ki,ki,List.getD,CK];rfl
theorem OY {α:Type} (L:List α) (x:α):(L++[x])[L.length]?=some x:=by simp
theorem GN {B:PH} {Q:Sl->PH->Prop} (h:aA H (aC B::L)) (r:aZ B a (gV p s t)) (i j:Nat) (hi:L[i]?=some (aq bQ 2 s l)) (D:L[j]?=some (aW (Value.int .i64) t v)) (C:i≠j) (S:v.length=l.length) (V:l.length< 2 ^ 30)
 (P:∀q H',aA H' (aC B::(L.set i (aq bQ 2 s (AT l v))++[aW (Value.int .i64) q (J9 l v)]))->Q q H'):mo (some a) H Q:=by
 have f:=(List.getElem?_eq_some_iff.1 hi).1
 refine aE rfl (aD (aa (x:=s) (r.ext h.base) rfl ?_))
 have E:(s.len:Int)=l.length:=by
  have R:bT bQ 2 H s l:=h.get (i+1) (by simpa using hi)
  exact R.bF
 have N:=h.AJ (enc:=Value.int .i64)
 refine ax l.length (λk st J=>st.2=(k:Int)/\aA J (aC B::(L.set i (aq bQ 2 s (dm l v k))++[aW (Value.int .i64) st.1 (nP l v k)]))) ⟨rfl,by
  show aA H (aC B::(L.set i (aq bQ 2 s l)++[aW (Value.int .i64) Sl.nil []]))
  rw[n5 hi];exact N⟩ ?_
 rintro k ⟨q,st⟩ H1 again hk ⟨e,d⟩ m
 simp only at e d
 subst e
 rw[E]
 refine aL (λc=>?_) (λc=>?_)
 ·have g:k<l.length:=by simpa using c
  have y:(aC B::(L.set i (aq bQ 2 s (dm l v k))++[aW (Value.int .i64) q (nP l v k)]))[i+1]?=some (aq bQ 2 s (dm l v k)):=by
   rw[List.getElem?_cons_succ,List.getElem?_append_left (by rw[List.length_set];exact f),List.getElem?_set_self f]
  have M:(aC B::(L.set i (aq bQ 2 s (dm l v k))++[aW (Value.int .i64) q (nP l v k)]))[j+1]?=some (aW (Value.int .i64) t v):=by
   rw[List.getElem?_cons_succ,List.getElem?_append_left (by rw[List.length_set];exact(List.getElem?_eq_some_iff.1 D).1),List.getElem?_set_ne C,D]
  have n:bT bQ 2 H1 s (dm l v k):=d.get (i+1) y
  have hlen:=tX l v k
  refine aF (Ef (r.ext d.base) (n.jv lh) (d.list (j+1) M) (by rw[hlen];exact g) (by rw[hlen];exact S) ?_)
  rw[KN]
  simp only[]
  rw[bH (k:=k) (by omega)]
  refine aL (λc1=>?_) (λc1=>m g _ _ ⟨rfl,?_⟩)
  ·refine aD (aa (x:=s) (r.ext d.base) rfl (qv n (by omega) (by omega) λb x el=>BE lh (0,x.2) d (i+1) y el (by decide) rfl rfl λG o=>?_))
   have F:=el.get
   rw[Int.toNat_natCast,CK] at F
   have e2:(dm l v k).set (k:Int).toNat (0,x.2)=dm l v (k+1):=by
    show _=if ki l v k then(dm l v k).set k (0,(l.getD k (0,0)).2) else dm l v k
    rw[if_pos c1,Int.toNat_natCast];simp[List.getD,F]
   rw[e2] at o
   have z:aA G (aC B::(L.set i (aq bQ 2 s (dm l v (k+1)))++[aW (Value.int .i64) q (nP l v k)])):=by
    rw[List.set_cons_succ,List.set_append_left _ _ (by rw[List.length_set];exact f),List.set_set] at o
    exact o
   have W:=Ed l v k
   refine Cp (enc:=Value.int .i64) z λw U u X=>?_
   have K:(aC B::(L.set i (aq bQ 2 s (dm l v (k+1)))++[aW (Value.int .i64) q (nP l v k)])++[aW (Value.int .i64) w [(k:Int)]])=(aC B::L.set i (aq bQ 2 s (dm l v (k+1))))++[aW (Value.int .i64) q (nP l v k)]++[aW (Value.int .i64) w [(k:Int)]]:=by simp
   rw[K] at u
   refine qY (ys:=[(k:Int)]) u (aC B::L.set i (aq bQ 2 s (dm l v (k+1)))).length (by rw[List.append_assoc,List.getElem?_append_right (Nat.le_refl _),Nat.sub_self];rfl) (u.list ((aC B::L.set i (aq bQ 2 s (dm l v (k+1))))++[aW (Value.int .i64) q (nP l v k)]).length (OY _ _)) Px rfl (by simp;omega) λT I A=>m g _ _ ⟨rfl,?_⟩
   rw[List.append_assoc,List.set_append_right _ _ (Nat.le_refl _),Nat.sub_self] at A
   have O:aA I (((aC B::L.set i (aq bQ 2 s (dm l v (k+1))))++[aW (Value.int .i64) T (nP l v k++[(k:Int)])])++[aW (Value.int .i64) w [(k:Int)]]):=by
    rw[List.append_assoc];exact A
   rw[DC c1]
   exact O.init
  ·have e2:dm l v (k+1)=dm l v k:=by
    show(if ki l v k then(dm l v k).set k (0,(l.getD k (0,0)).2) else dm l v k)=_
    rw[if_neg (by rw[c1];decide)]
   rw[e2,DB c1];exact d
 ·have:k=l.length:=by simp at c;omega
  subst this
  exact P q H1 d
theorem jb {Q:Sl->PH->Prop} (c:dT bQ 2 H s l) (d:l.length< 2 ^ 30) (b:∀q H',aA H' [aC H,aq bQ 2 q l]->Q q H'):gS s H Q:=
 Fh (m:=16) lh (by decide) c Py rfl (by omega) b
theorem MV {fr:Bool} {Q:Sl->PH->Prop} (r:aZ H a (gV p s t)) (o:dT bQ 2 H s l) (A:fv H t v) (B:v.length=l.length) (z:l.length< 2 ^ 30)
 (y:∀q H',aA H' [aC H,aq bQ 2 q (if fr then AT l v else l)]->Q q H'):pb (some a) fr H Q:=by
 refine aE rfl (aD (aa (x:=s) r rfl (jb o z λq H1 w=>?_)))
 refine ax l.length (λk st u=>st=(k:Int)/\aA u [aC H,aq bQ 2 q (if fr then dm l v k else l)]) ⟨rfl,by cases fr<;>exact w⟩ ?_
 rintro k st m again hk ⟨rfl,d⟩ f
 have n:bT bQ 2 m q (if fr then dm l v k else l):=d.get 1 rfl
 have hlen:(if fr then dm l v k else l).length=l.length:=by cases fr<;>simp[tX]
 rw[n.bF,hlen]
 refine aL (λc=>?_) (λc=>?_)
 ·have e:k<l.length:=by simpa using c
  refine aF (aF (aL (λcf=>?_) (λcf=>aE rfl ?_)))
  ·subst cf
   refine Ef (r.ext d.base) (o.ext d.base) (A.ext d.base) e B (aL (λc1=>?_) (λc1=>?_))
   ·refine qv n (by omega) (by rw[hlen];omega) λb x el=>BE lh (0,x.2) d 1 rfl el (by decide) rfl rfl λC h=>?_
    have g:=el.get
    rw[Int.toNat_natCast] at g
    simp only[if_true] at g
    rw[CK] at g
    have e2:(dm l v k).set (k:Int).toNat (0,x.2)=dm l v (k+1):=by
     show _=if ki l v k then(dm l v k).set k (0,(l.getD k (0,0)).2) else dm l v k
     rw[if_pos c1,Int.toNat_natCast];simp[List.getD,g]
    rw[bH (by omega)]
    refine f e _ _ ⟨rfl,?_⟩
    simp only[if_true] at h ⊢
    rw[e2] at h
    exact h
   ·rw[bH (by omega)]
    refine f e _ _ ⟨rfl,?_⟩
    simp only[if_true] at d ⊢
    have e2:dm l v (k+1)=dm l v k:=by
     show(if ki l v k then(dm l v k).set k (0,(l.getD k (0,0)).2) else dm l v k)=_
     rw[if_neg (by rw[c1];decide)]
    rw[e2];exact d
  ·subst cf
   rw[bH (by omega)]
   exact f e _ _ ⟨rfl,d⟩
 ·have:k=l.length:=by simp at c;omega
  subst this
  exact y q m d
def xp (u:cz):Bool:=(decide (0<=u.1)&&decide (u.1<=2))&&(decide (0<=u.2)&&decide (u.2<=2147483647))
theorem MW {c:bC} {x:Sl} {ul:List cz} {Q:Option Addr->PH->Prop} (hg:Gm H p c) (hc:bg c) (U:dT bQ 2 H x ul) (aB:ul.length< 2 ^ 40)
 (y:¬((ul=[]∨(ul.length:Int)=c.2.1)/\∀u,u∈ul->xp u=true)->∀H',Ext H H'->Q none H')
 (z:(ul=[]∨(ul.length:Int)=c.2.1)->(∀u,u∈ul->xp u=true)->∀a s t H',aA H' [aC H,aq bQ 2 s (Fu c.2.1.toNat ul),aW (Value.int .i64) t (List.replicate c.2.1.toNat 0),aG a (gV p s t)]->Q (some a) H'):vI p x H Q:=by
 obtain⟨g,rfl,hr⟩:=hg
 have az:=hc.2.2.1;have E:=hc.2.2.2.1
 refine lH ⟨g,rfl,hr⟩ λH1 x1=>aF (aE rfl (aF ?_))
 have f:=U.bF
 have main:(ul=[]∨(ul.length:Int)=c.2.1)->aJ false (Q none H1) (bp (λ(V:Int) (o:PH) (n:Int->PH->Prop)=>
 aJ (decide (V<(x.len:Int)))
 (bX x 2 V λad=>
 aU (λ(x:(Int×Int))=>[.int .i64 x.1,.int .i64 x.2]) o ad 2 λN=>
 ag o (row [.int .i64 0,.int .i64 0] 201) λd X=>
 aX X d ([.int .i64 N.1,.int .i64 N.2]) λm=>
 aH (.int .i64) m (d.add 0) λar=>
 aM (λ(an:Bool) (q:PH)=>
 aM (λ(ao:Bool) (r:PH)=>
 aM (λ(ap:Bool) (C:PH)=>
 aJ ap
 (Q none C)
 (n (IntKind.wrap .i64 (V+1)) C))
 λK=>
 aJ ao
 (K true r)
 (aH (.int .i64) r (d.add 1) λau=>
 K (decide (2147483647<au)) r))
 λJ=>
 aJ an
 (J true q)
 (aH (.int .i64) q (d.add 1) λav=>
 J (decide (av< 0)) q))
 λI=>
 aJ (decide (ar< 0))
 (I true m)
 (aH (.int .i64) m (d.add 0) λaw=>
 I (decide (2<aw)) m))
 (aM (λ(M:Option Addr) (D:PH)=>
 aN M λaf=>
 aH Sl.v D (af.add 1) λay=>
 mZ D 2 ay x λaI Y=>
 Q M Y)
 λak=>
 rV (sH 16 c.2.1 c.2.1)<|
 rV (sH 8 c.2.1 c.2.1)<|
 mC o (row (bz (c.2.1:Int).toNat [.int .i64 0,.int .i64 0]) 201) c.2.1 c.2.1 λal Z=>
 mC Z (row (bz (c.2.1:Int).toNat [.int .i64 0]) 3) c.2.1 c.2.1 λam ab=>
 ag ab (row [.pointer (some g),Sl.v al,Sl.v am] 258) λah ac=>
 ak (some ah) ac))
 0 H1):=by
   intro hlen
   refine aE rfl ?_
   refine ax ul.length (λk st Hk=>st=(k:Int)/\Ext H Hk/\∀i u,i<k->ul[i]?=some u->xp u=true) ⟨rfl,x1,λi u hi=>absurd hi (by omega)⟩ ?_
   rintro k st H2 again hk ⟨rfl,W,G⟩ ai
   rw[f]
   refine aL (λc0=>?_) (λc0=>?_)
   ·have F:k<ul.length:=by simpa using c0
    refine ob (U.ext W) (by simp) (by simpa using F) λb u hu E=>Sr E (jf λa2 H3 x3 r3 f3=>sO (vs:=bQ u) r3 rfl rfl λO B k4=>aa (x:=u.1) B rfl ?_)
    rw[Int.toNat_natCast] at hu
    have x4:Ext H O:=W.trans (x3.BC k4 f3)
    have bad:xp u=false->Q none O:=λhb=>y (λT=>by have:=T.2 u (List.mem_of_getElem? hu);rw[hb] at this;cases this) O x4
    refine aF (aL (λc1=>aF (ae rfl (aF (ae rfl (ae rfl (bad (by simp[xp];simp at c1;omega))))))) (λc1=>aa (x:=u.1) B rfl (aF ?_)))
    refine aL (λc2=>aF (ae rfl (ae rfl (bad (by simp[xp];simp at c2;omega))))) (λc2=>aa (x:=u.2) B rfl (aF ?_))
    refine aL (λc3=>ae rfl (bad (by simp[xp];simp at c3;omega))) (λc3=>aa (x:=u.2) B rfl (aL (λP=>bad (by simp[xp];simp at P;omega)) (λP=>?_)))
    rw[bH (by omega)]
    refine ai F _ _ ⟨rfl,x4,λi w hi hw=>?_⟩
    by_cases e:i=k
    ·subst e;rw[hu] at hw;cases hw;simp[xp];simp at c1 c2 c3 P;omega
    ·exact G i w (by omega) hw
   ·have aj:k=ul.length:=by simp at c0;omega
    subst aj
    have S:∀u,u∈ul->xp u=true:=λu hu=>by
     obtain⟨i,hi⟩:=List.getElem?_of_mem hu
     exact G i u (List.getElem?_eq_some_iff.1 hi).1 hi
    refine aF ⟨⟨by omega,by omega,by omega⟩,⟨by omega,by omega,by omega⟩,QR (enc:=bQ) (sz:=2) (x:=(0,0)) ((aA.start H).ext W|>.tJ (.refl H)) rfl λr5 H5 h5 x5=>Cq (enc:=Value.int .i64) (x:=0) h5 λr6 H6 h6 x6=>kV h6 λa7 H7 R x7=>?_⟩
    refine aD (aY (x:=r5) R 3 rfl rfl (Nz lh (by decide) R 1 rfl (U.ext R.base) ?_ Py λH8 h8=>?_))
    ·rw[List.length_replicate]
     rcases hlen with h|h
     ·subst h;exact Nat.zero_le _
     ·omega
    ·exact z hlen S a7 r5 r6 H8 h8
 refine aL (λc1=>?_) (λc1=>main (.inl ?_))
 ·by_cases A:(ul.length:Int)=c.2.1
  ·have e:((x.len:Int) != c.2.1)=false:=by rw[f];simp[A]
   rw[e];exact main (.inr A)
  ·have e:((x.len:Int) != c.2.1)=true:=by rw[f];simp[A]
   rw[e]
   refine ae rfl (y (λT=>?_) H1 x1)
   rcases T.1 with h|h
   ·subst h;rw[f] at c1;simp at c1
   ·exact A h
 ·rw[f] at c1
  have:ul.length=0:=by simpa using c1
  exact List.length_eq_zero_iff.1 this
end
end Us
end
section
namespace Rg
open Go Go.Kx KM Rw Cr It Ge
abbrev sY:=Int×Int×Int×Int×Int×Int×Int×Int×Int×Int×Int×Sl×Sl×Sl
abbrev dF (x:sY):List Value:=[i64 x.1,i64 x.2.1,i64 x.2.2.1,i64 x.2.2.2.1,i64 x.2.2.2.2.1,i64 x.2.2.2.2.2.1,i64 x.2.2.2.2.2.2.1,i64 x.2.2.2.2.2.2.2.1,i64 x.2.2.2.2.2.2.2.2.1,i64 x.2.2.2.2.2.2.2.2.2.1,i64 x.2.2.2.2.2.2.2.2.2.2.1,Sl.v x.2.2.2.2.2.2.2.2.2.2.2.1,Sl.v x.2.2.2.2.2.2.2.2.2.2.2.2.1,Sl.v x.2.2.2.2.2.2.2.2.2.2.2.2.2]
def fN:sY:=(0,0,0,0,0,0,0,0,0,0,0,Sl.nil,Sl.nil,Sl.nil)
abbrev bQ (u:cz):List Value:=[i64 u.1,i64 u.2]
def eC (r:jZ) (sb so ss:Sl):sY:=(r.gen,r.view,r.mode,r.aV,r.seq,r.done,r.pos.1,r.pos.2.1,r.pos.2.2.1,r.pos.2.2.2.1,r.pos.2.2.2.2,sb,so,ss)
structure yM (H:PH) (sb so ss:Sl) (r:jZ):Prop where
 lb:fv H sb r.lb
 lo:fv H so r.lo
 cG:dT bQ 2 H ss r.cG
theorem yM.ext {A B:PH} {sb so ss:Sl} {r:jZ} (h:yM A sb so ss r) (x:Ext A B):yM B sb so ss r:=⟨h.lb.ext x,h.lo.ext x,h.cG.ext x⟩
def uD (H:PH) (x:sY) (r:jZ):Prop:=∃sb so ss,x=eC r sb so ss/\yM H sb so ss r
theorem uD.ext {A B:PH} {x:sY} {r:jZ} (h:uD A x r) (e:Ext A B):uD B x r:=let⟨a,b,c,d,k⟩:=h;⟨a,b,c,d,k.ext e⟩
section
variable {H B:PH} {L:List Ob} {r:jZ} {p q:Sl} {b:Bs} {l:List Int} {g:Option Addr} {c:bC} {sb so ss:Sl}
theorem bD {x lo hi:Int} {Q:Bool->PH->Prop} (a:Q (bE x lo hi) H):gy x lo hi H Q:=cq (b:=decide (x<=hi)) (λk=>k) a
theorem Sv {n:Int} {K:Value->PH->Prop} (a:K (.bool (n != 0&&n != 1)) H):ue Tryz.prog (.func (.func 256) #[] #[]) [i64 n] H K:=by
 refine⟨256,#[],#[],rfl,cP Tryz.func256 rfl rfl,?_⟩
 have h:=BU (p0:=n) (H:=H) (Q:=λb H'=>H'=H/\b=(n != 0&&n != 1)) (cq (b:=n != 1) (λk=>k) ⟨rfl,rfl⟩)
 exact dv.mono h λr H' d=>by
  obtain⟨b,rfl,rfl,rfl⟩:=d
  exact a
theorem KO {Q:Bool->PH->Prop} (m:fv H p l) (s:l.length< 2 ^ 40) (d:Q (!(l.all λx=>x==0||x==1)) H):cg p (.func (.func 256) #[] #[]) H Q:=by
 unfold cg gA
 refine ax l.length (λk st o=>st=(k:Int)/\o=H/\∀x∈l.take k,(x==0||x==1)=true) ⟨rfl,rfl,by simp⟩ ?_
 rintro k st H1 again hk ⟨rfl,rfl,a⟩ i
 rw[m.bF]
 refine aL (λc=>?_) (λc=>?_)
 ·have j:k<l.length:=by simpa using c
  refine eJ m (by omega) (by omega) λx f=>Sv ⟨_,rfl,?_⟩
  rw[Int.toNat_natCast] at f
  have hm:=List.mem_of_getElem? f
  refine aL (λc1=>?_) (λc1=>?_)
  ·have e:(!(l.all λx=>x==0||x==1))=true:=by
    rw[Bool.not_eq_true',List.all_eq_false]
    exact⟨x,hm,by simp at c1 ⊢; omega⟩
   rw[e] at d
   show Q (decide (0<=(k:Int))) H1
   rw[decide_eq_true (by omega)];exact d
  ·rw[bH (by omega)]
   refine i j _ _ ⟨rfl,rfl,λy n=>?_⟩
   rw[fk f] at n
   rcases List.mem_append.1 n with h|h
   ·exact a y h
   ·have:=List.mem_singleton.1 h;subst this;simp at c1 ⊢; omega
 ·have:k=l.length:=by simp at c;omega
  subst this
  rw[List.take_length] at a
  have e:(!(l.all λx=>x==0||x==1))=false:=by
   rw[Bool.not_eq_false',List.all_eq_true];exact a
  rw[e] at d
  exact d
theorem DE {n:Int} {Q:Bool->PH->Prop} (a:fv H p l) (e:l.length< 2 ^ 40) (d:Q (iq l n) H):rA p n H Q:=by
 refine cq (b:=l.all λx=>x==0||x==1) (λk=>KO a e (by rw[Bool.not_not];exact k)) ?_
 rw[a.bF];exact d
def uV (r:jZ):Bool:=bE r.gen 1 2147483647&&bE r.view 1 2147483647&&(r.mode==1||r.mode==2)&&bE r.aV 0 2147483647&&bE r.seq 0 2147483647&&bE r.done 0 r.seq
theorem MX {Q:Bool->PH->Prop} (e:∀H',Ext H H'->Q (uV r) H'):rh (eC r sb so ss) H Q:=by
 refine dC (.start H) λa H1 d f=>ay (x:=r.mode) d rfl (vk (b:=r.mode==2) (λk=>ay (x:=r.mode) d rfl k) (ay (x:=r.gen) d rfl (bD ?_)))
 refine cq (b:=bE r.view 1 2147483647) (λk=>ay (x:=r.view) d rfl (bD k)) ?_
 refine cq (b:=r.mode==1||r.mode==2) (λk=>k) ?_
 refine cq (b:=bE r.aV 0 2147483647) (λk=>ay (x:=r.aV) d rfl (bD k)) ?_
 refine cq (b:=bE r.seq 0 2147483647) (λk=>ay (x:=r.seq) d rfl (bD k)) ?_
 exact cq (b:=bE r.done 0 r.seq) (λk=>ay (x:=r.done) d rfl (ay (x:=r.seq) d rfl (bD k))) (e H1 f)
theorem uE {vh:Int}:∀{l:List cz} {k:Nat},ry vh k l=true↔∀i u,l[i]?=some u->wx u (((k+i:Nat):Int)==vh)=true
 |[],k=>by simp[ry]
 |u::l,k=>by
  rw[ry,Bool.and_eq_true,uE]
  constructor
  ·rintro⟨d,e⟩ i v a
   cases i with
   |zero=>simp at a;subst a;exact d
   |succ i=>have:=e i v (by simpa using a);rw[show k+1+i=k+(i+1) by omega] at this;exact this
  ·intro h
   refine⟨h 0 u rfl,λi v a=>?_⟩
   have:=h (i+1) v (by simpa using a);rw[show k+(i+1)=k+1+i by omega] at this;exact this
theorem xq (c:bC) (r:jZ):iU c r=(((((uV r&&iT c r.pos)&&iq r.lb (cR c))&&iq r.lo (cR c))&&(r.cG.length:Int)==c.2.1)&&ry r.pos.1 0 r.cG):=by
 simp only[iU,uV]
theorem fS {Q:Bool->PH->Prop} (z:Gm H g c) (U:bg c) (P:yM H sb so ss r) (E:r.lb.length< 2 ^ 40/\r.lo.length< 2 ^ 40/\r.cG.length< 2 ^ 40) (T:∀H',Ext H H'->Q (iU c r) H'):vp g (eC r sb so ss) H Q:=by
 obtain⟨Z,rfl,ac⟩:=z
 have z:∀H',Ext H H'->Gm H' (some Z) c:=λH' x=>⟨Z,rfl,ac.ext x⟩
 refine dC (.start H) λa H1 f m=>aF (aE rfl (bk (x:=eC r sb so ss) f rfl rfl (MX λW o=>?_)))
 refine mP.i (CD (b:= !(iT c r.pos)) (λk=>?_) (λR s=>?_))
 ·refine⟨r.pos,?_,Ec (z W (m.trans o)) U λR s=>k R s⟩
  exact(Ds.aZ.part ((f.ext o).get 1 rfl:aZ W a _) (i:=6) (n:=5) (by simp))
 refine CD (b:= !(iq r.lb (cR c))) (λk=>ay (x:=sb) (f.ext (o.trans s)) rfl (fB (z R (m.trans (o.trans s))) U λM F=>?_)) (λM F=>?_)
 ·exact cx ((f.ext (o.trans (s.trans F))).get 1 rfl:aZ M a _) rfl (DE (P.lb.ext (m.trans (o.trans (s.trans F)))) E.1 (k M F))
 have J:=o.trans (s.trans F)
 refine CD (b:= !(iq r.lo (cR c))) (λk=>ay (x:=so) (f.ext J) rfl (fB (z M (m.trans J)) U λN G=>?_)) (λN G=>?_)
 ·exact cx ((f.ext (J.trans G)).get 1 rfl:aZ N a _) rfl (DE (P.lo.ext (m.trans (J.trans G))) E.2.1 (k N G))
 have K:=J.trans G
 refine CD (b:=(r.cG.length:Int) != c.2.1) (λk=>ay (x:=ss) (f.ext K) rfl (lH (z N (m.trans K)) λO I=>?_)) (λO I=>?_)
 ·refine cx ((f.ext (K.trans I)).get 1 rfl:aZ O a _) rfl ?_
  rw[(P.cG.ext (m.trans (K.trans I))).bF];exact k O I
 have y6:=K.trans I
 have h6:=f.ext y6
 have eb:∀u v w x y:Bool,((((!u|| !v)|| !w)|| !x)||y)= !((((u&&v)&&w)&&x)&& !y):=by decide
 have en:((r.cG.length:Int) != c.2.1)= !((r.cG.length:Int)==c.2.1):=rfl
 rw[en,eb,Bool.not_not]
 refine aL (λA=>?_) (λA=>?_)
 ·have q:=T O (m.trans y6)
  have C:((((uV r&&iT c r.pos)&&iq r.lb (cR c))&&iq r.lo (cR c))&&(r.cG.length:Int)==c.2.1)=false:=by rw[Bool.not_eq_true'] at A;exact A
  rw[xq,C,Bool.false_and] at q;exact q
 ·have C:((((uV r&&iT c r.pos)&&iq r.lb (cR c))&&iq r.lo (cR c))&&(r.cG.length:Int)==c.2.1)=true:=by
   rw[Bool.not_eq_false'] at A;exact A
  refine ay (x:=ss) h6 rfl ?_
  refine ax r.cG.length (λi st Hk=>st=(i:Int)/\(∀j u,j<i->r.cG[j]?=some u->wx u (((j:Nat):Int)==r.pos.1)=true)/\aA Hk [aC H,aG a (dF (eC r sb so ss))]) ⟨rfl,λj u hj=>absurd hj (by omega),h6⟩ ?_
  rintro i st H7 again hi ⟨rfl,D,S⟩ aa
  have hs:=P.cG.ext S.base
  rw[hs.bF]
  refine aL (λc2=>?_) (λc2=>?_)
  ·have ad:i<r.cG.length:=by simpa using c2
   refine zH hs (by omega) (by omega) λd u hu ab=>⟨u,ab,?_⟩
   rw[Int.toNat_natCast] at hu
   refine az S λae H8 h8=>bf (vs:=bQ u) h8 rfl rfl λX t=>ay (x:=u.1) t rfl (bD ?_)
   refine vk (b:= !(bE u.2 0 2147483647)) (λk=>ay (x:=u.2) t rfl (bD k)) ?_
   refine vk (b:=(u.1==1) != ((i:Int)==r.pos.1)) (λk=>ay (x:=u.1) t rfl ?_) ?_
   ·exact⟨r.pos.1,by rw[add_zero'];exact(t.get 2 rfl:aZ X a _).cell rfl,k⟩
   ·have Y:wx u ((i:Int)==r.pos.1)= !((!(bE u.1 0 2)|| !(bE u.2 0 2147483647))||((u.1==1) != ((i:Int)==r.pos.1))):=by
     rw[wx]
     cases bE u.1 0 2<;>cases bE u.2 0 2147483647<;>cases(u.1==1)<;>cases((i:Int)==r.pos.1)<;>rfl
    refine aL (λc3=>?_) (λc3=>?_)
    ·have q:=T X t.base
     have:ry r.pos.1 0 r.cG=false:=Bool.eq_false_iff.2 λh=>by
      have h2:=(uE.1 h) i u hu
      rw[Nat.zero_add,Y,c3] at h2;cases h2
     rw[xq,this,Bool.and_false] at q;exact q
    ·rw[bH (by omega)]
     refine aa ad _ _ ⟨rfl,λj v hj V=>?_,t.ak⟩
     by_cases e:j=i
     ·subst e;rw[hu] at V;cases V;rw[Y,c3];rfl
     ·exact D j v (by omega) V
  ·have:i=r.cG.length:=by simp at c2;omega
   subst this
   have q:=T H7 S.base
   have:ry r.pos.1 0 r.cG=true:=uE.2 λj u hu=>by
    rw[Nat.zero_add];exact D j u (List.getElem?_eq_some_iff.1 hu).1 hu
   rw[xq,this,C] at q;exact q
end
end Rg
end
section
namespace Rg
open Go Go.Kx KM Rw Cr It Ge
theorem Vl {n x:Int} {i:Nat} (e:0<=n) (d:n< 2 ^ i) (x0:0<=x) (k:x<=1) (hi:i<=16):ID .i64 n (wc .i64 x (i:Int))=n+x*2 ^ i:=by
 obtain⟨a,rfl⟩:=Int.eq_ofNat_of_zero_le e
 obtain⟨c,rfl⟩:=Int.eq_ofNat_of_zero_le x0
 have j:(2:Nat) ^ i<=2 ^ 16:=Nat.pow_le_pow_right (by decide) hi
 have f:a< 2 ^ i:=by
  rw[show(2:Int) ^ i=((2 ^ i:Nat):Int) from(Int.natCast_pow 2 i).symm] at d
  exact Int.ofNat_lt.1 d
 have h:c<=1:=by omega
 have hm:c*2 ^ i<=1*2 ^ 16:=Nat.mul_le_mul h j
 have e1:wc .i64 (c:Int) (i:Int)=((c*2 ^ i:Nat):Int):=by
  simp only[wc,IntKind.bits]
  rw[Int.toNat_natCast,Nat.min_eq_left (by omega)]
  have:((c:Int)*2 ^ i)=((c*2 ^ i:Nat):Int):=by rw[Int.natCast_mul,Int.natCast_pow];rfl
  rw[this,bo (by omega) (by omega)]
 rw[e1]
 show IntKind.i64.wrap ((BitVec.ofInt 64 (a:Int)|||BitVec.ofInt 64 ((c*2 ^ i:Nat):Int)).toNat:Int)=_
 rw[BitVec.toNat_or,w7 a (by omega),w7 _ (by omega)]
 have e2:a|||c*2 ^ i=a+c*2 ^ i:=by
  have:=Nat.two_pow_add_eq_or_of_lt f c
  rw[Nat.or_comm,Nat.mul_comm c,←this,Nat.add_comm]
 rw[e2,bo (by omega) (by omega),Int.natCast_add,Int.natCast_mul,Int.natCast_pow];rfl
theorem DF:∀(l:List Int) (x:Int),ja (l++[x])=ja l+x*2 ^ l.length
 |[],x=>by simp[ja]
 |y::l,x=>by
  simp only[List.cons_append,ja,DF l x,List.length_cons,Int.pow_succ]
  rw[Int.mul_add,Int.mul_comm (2 ^ l.length) 2,←Int.mul_assoc x,Int.mul_comm x 2,Int.mul_assoc 2 x];omega
theorem qQ:∀(l:List Int),(∀x∈l,0<=x/\x<=1)->0<=ja l/\ja l< 2 ^ l.length
 |[],_=>by simp[ja]
 |x::l,h=>by
  have d:=h x (by simp)
  have e:=qQ l λy a=>h y (by simp[a])
  simp only[ja,List.length_cons,Int.pow_succ]
  omega
section
variable {H B:PH} {L:List Ob} {r:jZ} {p q:Sl} {b:Bs} {l:List Int} {g:Option Addr} {c:bC} {sb so ss:Sl}
theorem Eg {Q:Int->PH->Prop} (m:fv H p l) (d:∀x∈l,0<=x/\x<=1) (t:l.length<=8) (o:Q (ja l) H):sR p H Q:=by
 refine ax l.length (λi st n=>st=(ja (l.take i),(i:Int))/\n=H) ⟨rfl,rfl⟩ ?_
 rintro i st H1 again hi ⟨rfl,rfl⟩ j
 rw[m.bF]
 refine aL (λc2=>?_) (λc2=>?_)
 ·have k:i<l.length:=by simpa using c2
  refine eJ m (by omega) (by omega) λx h=>⟨by simp,?_⟩
  rw[Int.toNat_natCast] at h
  have a:=d x (List.mem_of_getElem? h)
  have f:=qQ (l.take i) λy s=>d y (List.mem_of_mem_take s)
  have e:(l.take i).length=i:=by simp;omega
  rw[e] at f
  dsimp only
  rw[Vl f.1 f.2 a.1 a.2 (by omega),bH (by omega)]
  refine j k _ _ ⟨?_,rfl⟩
  rw[fk h,DF,e]
 ·have:i=l.length:=by simp at c2;omega
  subst this
  rw[List.take_length];exact o
theorem uA {Q:Sl->Int->PH->Prop} (k:Gm H g c) (j:bg c) (m:yM H sb so ss r) (d:r.lb.length< 2 ^ 40/\r.lo.length< 2 ^ 40/\r.cG.length< 2 ^ 40) (hm:iU c r=false) (i:∀H',Ext H H'->Q Sl.nil 1 H'):lD g (eC r sb so ss) H Q:=by
 refine dC (.start H) λa H1 h e=>bk (x:=eC r sb so ss) h rfl rfl (fS (k.ext e) j (m.ext e) d λf n=>?_)
 rw[hm]
 exact ae rfl (i f (e.trans n))
structure um (c:bC) (r:jZ):Prop where
 gen:1<=r.gen/\r.gen<=2147483647
 view:1<=r.view/\r.view<=2147483647
 mode:r.mode=1∨r.mode=2
 aV:0<=r.aV/\r.aV<=2147483647
 seq:0<=r.seq/\r.seq<=2147483647
 done:0<=r.done/\r.done<=r.seq
 p1:0<=r.pos.1/\r.pos.1<=c.2.1- 1
 p2:0<=r.pos.2.1/\r.pos.2.1<=c.2.2- 1
 p3:1<=r.pos.2.2.1/\r.pos.2.2.1<=2147483647
 p4:0<=r.pos.2.2.2.1/\r.pos.2.2.2.1<=4294967295
 p5:1<=r.pos.2.2.2.2/\r.pos.2.2.2.2<=2147483647
 lb:(r.lb.length:Int)=cR c/\∀x∈r.lb,0<=x/\x<=1
 lo:(r.lo.length:Int)=cR c/\∀x∈r.lo,0<=x/\x<=1
 cG:(r.cG.length:Int)=c.2.1
 us:∀u∈r.cG,(0<=u.1/\u.1<=2)/\0<=u.2/\u.2<=2147483647
theorem parts (h:iU c r=true):um c r:=by
 simp only[iU,iT,iq,Bool.and_eq_true,KM.bY,List.all_eq_true,beq_iff_eq,Bool.or_eq_true] at h
 obtain⟨⟨⟨⟨⟨⟨⟨⟨⟨⟨a,b⟩,m⟩,d⟩,e⟩,f⟩,⟨⟨⟨⟨k,n⟩,o⟩,t⟩,s⟩⟩,lb⟩,lo⟩,v⟩,us⟩:=h
 refine⟨a,b,m,d,e,f,k,n,o,s,t,⟨lb.1,λx j=>?_⟩,⟨lo.1,λx j=>?_⟩,v,λu hu=>?_⟩
 ·rcases lb.2 x j with h|h<;>omega
 ·rcases lo.2 x j with h|h<;>omega
 ·obtain⟨i,hi⟩:=List.getElem?_of_mem hu
  have:=(uE.1 us) i u hi
  simp only[wx,Bool.and_eq_true,KM.bY] at this
  exact this.1
theorem CL:∀l:List cz,(l.flatMap wy).length=5*l.length
 |[]=>rfl
 |x::l=>by rw[List.flatMap_cons,List.length_append,CL l,wy,List.length_cons,bI,List.length_cons];omega
theorem GO:∀{l:List cz},(∀u∈l,(0<=u.1/\u.1<=2)/\0<=u.2/\u.2<=2147483647)->bU (l.flatMap wy)
 |[],_=>mA
 |x::l,h=>by rw[List.flatMap_cons];exact bu (cK (by have:=h x (by simp);omega) (eZ _ _)) (GO λy a=>h y (by simp[a]))
theorem xA:(AQ r).length=39+5*r.cG.length:=by
 simp only[AQ,List.length_cons,List.length_append,bI,CL,List.length_nil];omega
theorem room (a:bg c) (e:(r.cG.length:Int)=c.2.1):(AQ r).length<=64*(cD c).toNat- 4:=by
 have:=kT a
 have d:=a.2.2.2.1
 rw[xA];simp only[cD] at this ⊢; omega
theorem GP (k:bg c) (P:um c r):bU (AQ r):=by
 obtain⟨a,d,e,f,i,j⟩:=k
 have s:=gE ⟨a,d,e,f,i,j⟩
 have:=P.p1;have:=P.p2
 have n:=qQ r.lb P.lb.2
 have o:=qQ r.lo P.lo.2
 have l1:r.lb.length<=5:=by have:=P.lb.1;omega
 have l2:r.lo.length<=5:=by have:=P.lo.1;omega
 have e1:(2:Int) ^ r.lb.length<=32:=by
  have:=Nat.pow_le_pow_right (show 0< 2 by decide) l1
  rw[show(2:Int) ^ r.lb.length=((2 ^ r.lb.length:Nat):Int) from(Int.natCast_pow 2 _).symm];omega
 have e2:(2:Int) ^ r.lo.length<=32:=by
  have:=Nat.pow_le_pow_right (show 0< 2 by decide) l2
  rw[show(2:Int) ^ r.lo.length=((2 ^ r.lo.length:Nat):Int) from(Int.natCast_pow 2 _).symm];omega
 have m:0<=r.mode/\r.mode<=255:=by rcases P.mode with h|h<;>omega
 unfold AQ
 refine cK (by omega) (cK (by omega) ?_)
 refine bu (bu (bu (bu (bu (bu (bu (bu (bu (bu (bu (eZ _ _) (eZ _ _)) (cK m mA)) (eZ _ _)) (eZ _ _)) (eZ _ _)) ?_) (eZ _ _)) (eZ _ _)) (eZ _ _)) ?_) (GO P.us)
 ·exact cK (by omega) (cK (by omega) mA)
 ·exact cK (by omega) (cK (by omega) mA)
theorem zc (a:bg c) (P:um c r):(tE c r).length=64*(cD c).toNat:=by
 have:=kT a
 rw[tE,gB,pf (room a P.cG)];omega
theorem zd (a:bg c) (P:um c r):bU (tE c r):=tz (wP _ (GP a P))
theorem two {a b m:Int} (e:0<=a/\a<m) (f:0<=b/\b<m):∀y∈[a,b],0<=y/\y<m:=by
 intro y d
 simp only[List.mem_cons,List.not_mem_nil,or_false] at d
 rcases d with rfl|rfl
 ·exact e
 ·exact f
theorem three {a b d m:Int} (f:0<=a/\a<m) (h:0<=b/\b<m) (i:0<=d/\d<m):∀y∈[a,b,d],0<=y/\y<m:=by
 intro y e
 simp only[List.mem_cons,List.not_mem_nil,or_false] at e
 rcases e with rfl|rfl|rfl
 ·exact f
 ·exact h
 ·exact i
theorem OZ {a m:Int} (d:0<=a/\a<m):∀y∈[a],0<=y/\y<m:=by
 intro y e
 have:=List.mem_singleton.1 e;subst this;exact d
theorem dt {Q:Sl->Int->PH->Prop} (hg:Gm H g c) (t:bg c) (Y:yM H sb so ss r) (hm:iU c r=true) (hQ:∀z H',aA H' [aC H,aW u8 z (tE c r)]->Q z 0 H'):lD g (eC r sb so ss) H Q:=by
 have P:=parts hm
 obtain⟨aD,aF,aH,aI,aJ,aK⟩:=id t
 have aM:=gE t
 have aN:=kT t
 have l1:r.lb.length<=5:=by have:=P.lb.1;omega
 have l2:r.lo.length<=5:=by have:=P.lo.1;omega
 have l3:r.cG.length<=32:=by have:=P.cG;omega
 have e1:(2:Int) ^ r.lb.length<=32:=by
  have:=Nat.pow_le_pow_right (show 0< 2 by decide) l1
  rw[show(2:Int) ^ r.lb.length=((2 ^ r.lb.length:Nat):Int) from(Int.natCast_pow 2 _).symm];omega
 have e2:(2:Int) ^ r.lo.length<=32:=by
  have:=Nat.pow_le_pow_right (show 0< 2 by decide) l2
  rw[show(2:Int) ^ r.lo.length=((2 ^ r.lo.length:Nat):Int) from(Int.natCast_pow 2 _).symm];omega
 have b1:=qQ r.lb P.lb.2
 have b2:=qQ r.lo P.lo.2
 have g1:=P.gen;have g2:=P.view;have g4:=P.aV;have g5:=P.seq;have g6:=P.done;have q1:=P.p1;have q2:=P.p2;have q3:=P.p3;have q4:=P.p4;have q5:=P.p5
 refine dC (.start H) λa H1 h1 x1=>bk (x:=eC r sb so ss) h1 rfl rfl (fS (hg.ext x1) t (Y.ext x1) ⟨by omega,by omega,by omega⟩ λH2 x2=>?_)
 rw[hm]
 have h2:=h1.ext x2
 refine aE rfl (tT (hg.ext h2.base) t ?_)
 obtain⟨n,en⟩:=Int.eq_ofNat_of_zero_le (show 0<=cD c by omega)
 rw[en,bo (by omega) (by omega),show(64*(n:Int))=((64*n:Nat):Int) from rfl]
 refine Rw.eI (n:=64*n) h2 (by omega) λW s H3 h3=>?_
 have m1:=two (a:=r.gen) (b:=r.view) (m:=256 ^ 4) (by omega) (by omega)
 have m3:=three (a:=r.aV) (b:=r.seq) (d:=r.done) (m:=256 ^ 4) (by omega) (by omega) (by omega)
 have m5:=three (a:=r.pos.2.2.1) (b:=r.pos.2.2.2.1) (d:=r.pos.2.2.2.2) (m:=256 ^ 4) (by omega) (by omega) (by omega)
 have m0:=two (a:=75) (b:=67) (m:=256 ^ 1) (by omega) (by omega)
 refine mv (x:=[]) (l:=[75,67]) h3 rfl rfl (by decide) m0 (by simp;omega) (by simp;omega) λB4 H4 am X=>?_
 refine aY (x:=r.gen) X 3 rfl rfl (aY (x:=r.view) X 3 rfl rfl (mv (l:=[r.gen,r.view]) X rfl rfl (by decide) m1 (by simp;omega) (by simp[bI];omega) λB5 H5 an h5=>?_))
 have m2:=OZ (a:=r.mode) (m:=256 ^ 1) (by rcases P.mode with h|h<;>omega)
 refine aY (x:=r.mode) h5 3 rfl rfl (mv (l:=[r.mode]) h5 rfl rfl (by decide) m2 (by simp;omega) (by simp[bI];omega) λB6 H6 ao J=>?_)
 refine aY (x:=r.aV) J 3 rfl rfl (aY (x:=r.seq) J 3 rfl rfl (aY (x:=r.done) J 3 rfl rfl (mv (l:=[r.aV,r.seq,r.done]) J rfl rfl (by decide) m3 (by simp;omega) (by simp[bI];omega) λB7 H7 ap h7=>?_)))
 have ra:∀(H':PH) (L':List Ob),aA H' L'->L'[3]?=some (aG a (dF (eC r sb so ss)))->aZ H' a (dF (eC r sb so ss)):=λH' L' h' e=>h'.get 3 e
 have C:∀(H':PH) (j:Nat) (v:Int),aZ H' a (dF (eC r sb so ss))->(dF (eC r sb so ss))[6+j]?=some (i64 v)->cellAt H' ((a.add 6).add j)=some (i64 v):=λH' j v rr e=>by
  have e0:=rr.addr
  have:(a.add 6).add j=a.add (6+j):=by rw[e0];simp[eW,Nat.add_assoc]
  rw[this];exact rr.cell e
 have r7:=ra H7 _ h7 rfl
 have m4:=two (a:=r.pos.1) (b:=r.pos.2.1) (m:=256 ^ 1) (by omega) (by omega)
 refine⟨r.pos.1,C _ _ _ r7 rfl,r.pos.2.1,C _ _ _ r7 rfl,mv (l:=[r.pos.1,r.pos.2.1]) h7 rfl rfl (by decide) m4 (by simp;omega) (by simp[bI];omega) λB8 H8 aq K=>?_⟩
 have Z:=ra H8 _ K rfl
 refine⟨r.pos.2.2.1,C _ _ _ Z rfl,r.pos.2.2.2.1,C _ _ _ Z rfl,r.pos.2.2.2.2,C _ _ _ Z rfl,mv (l:=[r.pos.2.2.1,r.pos.2.2.2.1,r.pos.2.2.2.2]) K rfl rfl (by decide) m5 (by simp;omega) (by simp[bI];omega) λB9 V ar o=>?_⟩
 have F:Ext H B9:=am.trans (an.trans (ao.trans (ap.trans (aq.trans ar))))
 have U:=Y.ext (F.trans o.base)
 refine aY (x:=sb) o 3 rfl rfl (aY (x:=so) o 3 rfl rfl (Eg U.lb P.lb.2 (by omega) (cx (ra V _ o rfl) rfl (Eg U.lo P.lo.2 (by omega) ?_))))
 have m6:=two (a:=ja r.lb) (b:=ja r.lo) (m:=256 ^ 1) (by omega) (by omega)
 refine mv (l:=[ja r.lb,ja r.lo]) o rfl rfl (by decide) m6 (by simp;omega) (by simp[bI];omega) λA au G y=>?_
 refine aY (x:=ss) y 3 rfl rfl ?_
 obtain⟨f,D⟩:∃f:Bs,f=75::67::(le 4 r.gen++le 4 r.view++[r.mode]++le 4 r.aV++le 4 r.seq++le 4 r.done++[r.pos.1,r.pos.2.1]++le 4 r.pos.2.2.1++le 4 r.pos.2.2.2.1++le 4 r.pos.2.2.2.2++[ja r.lb,ja r.lo]):=⟨_,rfl⟩
 have T:f.length=39:=by rw[D];simp[bI]
 have eX:[]++[(75:Int),67].flatMap (le 1)++[r.gen,r.view].flatMap (le 4)++[r.mode].flatMap (le 1)++[r.aV,r.seq,r.done].flatMap (le 4)++[r.pos.1,r.pos.2.1].flatMap (le 1)++[r.pos.2.2.1,r.pos.2.2.2.1,r.pos.2.2.2.2].flatMap (le 4)++[ja r.lb,ja r.lo].flatMap (le 1)=f:=by
  rw[D,zz _ m0,zz _ m2,zz _ m4,zz _ m6];simp
 rw[eX] at y
 have ez:64*n- 1*[(75:Int),67].length- 4*[r.gen,r.view].length- 1*[r.mode].length- 4*[r.aV,r.seq,r.done].length- 1*[r.pos.1,r.pos.2.1].length- 4*[r.pos.2.2.1,r.pos.2.2.2.1,r.pos.2.2.2.2].length- 1*[ja r.lb,ja r.lo].length=64*n- 39- 5*0:=by simp;omega
 rw[ez] at y
 have M:=room (r:=r) t P.cG
 have N:(cD c).toNat=n:=by omega
 rw[xA,N] at M
 refine ax r.cG.length (λi st Hk=>st=(i:Int)/\∃I m,Ext A I/\m=64*n- 39- 5*i/\aA Hk (aC I::aG W (cells s (f++(r.cG.take i).flatMap wy).length)::aW u8 s (f++(r.cG.take i).flatMap wy++List.replicate m 0)::[])) ⟨rfl,A,_,.refl _,rfl,by
  have:=y.pick [0,1,2] (by decide) (L':=[aC A,aG W (cells s f.length),aW u8 s (f++List.replicate (64*n- 39- 5*0) 0)]) rfl (by simp)
  simpa using this⟩ ?_
 rintro i st aa again hi ⟨rfl,I,m,xb,rfl,k⟩ ag
 have E:dT bQ 2 aa ss r.cG:=Y.cG.ext (F.trans (G.trans (xb.trans k.base)))
 have ai:(r.cG.take i).length=i:=by simp;omega
 have ln:((r.cG.take i).flatMap wy).length=5*i:=by rw[CL,ai]
 rw[E.bF]
 refine aL (λc2=>?_) (λc2=>?_)
 ·have aj:i<r.cG.length:=by simpa using c2
  refine zH E (by omega) (by omega) λd u hu ah=>⟨u,ah,?_⟩
  rw[Int.toNat_natCast] at hu
  have aO:=P.us u (List.mem_of_getElem? hu)
  refine az k λac av ae=>bf (vs:=bQ u) ae rfl rfl λab O=>ay (x:=u.1) O rfl ?_
  have af:aA ab [aC I,aG W _,aW u8 s _,aG ac (bQ u)]:=O.pick [0,2,3,1] (by decide) rfl (by simp)
  have n1:=OZ (a:=u.1) (m:=256 ^ 1) (by omega)
  refine mv (w:=1) (l:=[u.1]) af rfl rfl (by decide) n1 (by simp;omega) (by rw[List.length_append,ln,T];omega) λB2 aw ak R=>?_
  refine aY (x:=u.2) R 3 rfl rfl ?_
  refine mv (w:=4) (l:=[u.2]) R rfl rfl (by decide) (OZ (m:=256 ^ 4) (by omega)) (by simp;omega) (by rw[List.length_append,List.length_append,ln,T,w8];simp;omega) λB3 aB al S=>?_
  rw[bH (by omega)]
  have e:f++(r.cG.take i).flatMap wy++[u.1].flatMap (le 1)++[u.2].flatMap (le 4)=f++(r.cG.take (i+1)).flatMap wy:=by
   rw[zz _ n1,fk hu,List.flatMap_append];simp[wy]
  rw[e] at S
  exact ag aj _ _ ⟨rfl,B3,_,xb.trans (ak.trans al),by simp;omega,S.pick [0,1,2] (by decide) rfl (by simp)⟩
 ·have:i=r.cG.length:=by simp at c2;omega
  subst this
  rw[List.take_length] at k ln
  have eR:f++r.cG.flatMap wy=AQ r:=by rw[D,AQ];simp
  rw[eR] at k
  refine nU k (by rw[List.length_append,xA,List.length_replicate];omega) λz H8 K=>?_
  refine xl (n:=64*n- 4) K rfl (by rw[xA];omega) (by rw[xA];omega) (GP t P) (by omega) λV o=>hQ z V ?_
  have:=only o (F.trans (G.trans xb))
  rw[tE,N];exact this
end
end Rg
end
section
namespace Rg
open Go Go.Kx KM Rw Cr It Ge
theorem Bf:∀(n:Nat) (x:Int),0<=x->gp (n+1) x=gp n x++[x/ 2 ^ n% 2]
 | 0,x,h=>by simp[gp]
 |n+1,x,h=>by
  rw[gp,Bf n (x/ 2) (by omega),gp]
  simp only[List.cons_append,List.cons.injEq,true_and,List.append_cancel_left_eq,and_true]
  rw[Int.ediv_ediv_of_nonneg (by decide),Int.pow_succ,Int.mul_comm]
theorem wG:∀(n:Nat) (x:Int),(gp n x).length=n
 | 0,x=>rfl
 |n+1,x=>by rw[gp,List.length_cons,wG n]
theorem DG (b:Bs):∀n k,kt b k (n+1)=kt b k n++[(num b (k+5*n) 1,num b (k+5*n+1) 4)]
 | 0,k=>by simp[kt]
 |n+1,k=>by
  rw[kt,DG b n (k+5),kt]
  simp only[List.cons_append,List.cons.injEq,true_and,List.append_cancel_left_eq,and_true]
  rw[show k+5+5*n=k+5*(n+1) by omega]
theorem Ag (b:Bs):∀n k,(kt b k n).length=n
 | 0,k=>rfl
 |n+1,k=>by simp[kt,Ag b n]
theorem lh (u:cz):(bQ u).length=2:=rfl
theorem Py (u:cz):(bQ u).all cI=true:=rfl
theorem Sw {n:Int} (d:0<=n) (e:n< 2 ^ 62):kE .i64 n 1=n% 2:=by
 obtain⟨k,rfl⟩:=Int.eq_ofNat_of_zero_le d
 show IntKind.i64.wrap ((BitVec.ofInt 64 (k:Int)&&&BitVec.ofInt 64 1).toNat:Int)=_
 have e2:(BitVec.ofInt 64 1).toNat=2 ^ 1- 1:=rfl
 rw[BitVec.toNat_and,w7 k (by omega),e2,Nat.and_two_pow_sub_one_eq_mod,bo (by omega) (by omega)];exact Int.natCast_emod k 2
section
variable {H B:PH} {L:List Ob} {r:jZ} {p q:Sl} {b b2:Bs} {l:List Int} {g:Option Addr} {c:bC} {sb so ss s:Sl} {a:Addr} {k w:Nat}
theorem fx {Q:Int->PH->Prop} (h:aA H (aC B::aG a (cells s k)::aW u8 s b::L)) (hw:w=1∨w=2∨w=4) (hk:k+w<=b.length) (m:b.length<=2 ^ 30) (n:bU b)
 (j:∀H',aA H' (aC B::aG a (cells s (k+w))::aW u8 s b::L)->Q (num b k w) H'):cF (some a) w H Q:=by
 refine az h λa1 H1 d=>ay (x:=some a) d rfl ?_
 have f:aA H1 (aC B::aG a (cells s k)::aW u8 s b::aG a1 [.pointer (some a)]::L):=d.perm (.cons _ ((List.Perm.swap _ _ _).trans (.cons _ (.swap _ _ _))))
 refine cZ f hw hk m n λe i=>j e ?_
 exact(i.perm (L':=aC B::aG a1 [.pointer (some a)]::aG a (cells s (k+w))::aW u8 s b::L) (.cons _ ((List.Perm.cons _ (.swap _ _ _)).trans (.swap _ _ _)))).ak
theorem Bg {n:Nat} {Q:Sl->PH->Prop} (h:aA H (aC B::aG a (cells s k)::aW u8 s b::L)) (hk:k+1<=b.length) (N:b.length<=2 ^ 30) (v:bU b) (S:n<=8)
 (M:∀z H',aA H' (aC B::aG a (cells s (k+1))::aW u8 s b::aW i64 z (gp n (num b k 1))::L)->Q z H'):jz (some a) n H Q:=by
 refine az h λa1 H1 o=>bk (x:=some a) o rfl rfl ?_
 have G:aA H1 (aC B::aG a (cells s k)::aW u8 s b::aG a1 [.pointer (some a)]::L):=o.perm (.cons _ ((List.Perm.swap _ _ _).trans (.cons _ (.swap _ _ _))))
 refine fx (w:=1) G (by decide) hk N v λD I=>?_
 have d:=vN v k 1
 have J:aA D (aC B::aW i64 Sl.nil []::aG a (cells s (k+1))::aW u8 s b::aG a1 [.pointer (some a)]::L):=zU I
 refine ax n (λi st F=>st.2=(i:Int)/\∃j,Ext B j/\aA F (aC j::aW i64 st.1 (gp i (num b k 1))::aG a (cells s (k+1))::aW u8 s b::aG a1 [.pointer (some a)]::L)) ⟨rfl,B,.refl B,J⟩ ?_
 rintro i ⟨st,_⟩ E again hi ⟨e,j,y,m⟩ t
 simp only at e m;subst e
 refine aL (λc2=>⟨by simp,?_⟩) (λc2=>?_)
 ·have u:i<n:=by simpa using c2
  have e1:kE .i64 (g8 .i64 (num b k 1) (i:Int)) 1=num b k 1/ 2 ^ i% 2:=by
   rw[CE d.1 (by omega)]
   have a0:0<=num b k 1/ 2 ^ i:=Int.ediv_nonneg d.1 (Int.le_of_lt (Int.pow_pos (by decide)))
   have a1:num b k 1/ 2 ^ i<=num b k 1:=Int.ediv_le_self _ d.1
   exact Sw a0 (by omega)
  dsimp only
  rw[e1]
  refine sX (enc:=i64) (l:=[num b k 1/ 2 ^ i% 2]) m rfl rfl λz C P A O f=>?_
  refine qY f 1 rfl (O.ext f.base) (λ_=>rfl) rfl (by rw[wG];simp;omega) λT R K=>?_
  rw[bH (by omega)]
  exact t u _ _ ⟨rfl,C,y.trans A,by rw[Bf i _ d.1];exact K⟩
 ·have:i=n:=by simp at c2;omega
  subst this
  refine M st E ?_
  have f:=m.tJ y
  exact(f.perm (L':=aC B::aG a1 [.pointer (some a)]::aG a (cells s (k+1))::aW u8 s b::aW i64 st (gp i (num b k 1))::L) (.cons _ (by
   have p1:List.Perm ([aW i64 st (gp i (num b k 1))]++[aG a (cells s (k+1)),aW u8 s b,aG a1 [.pointer (some a)]]) ([aG a1 [.pointer (some a)],aG a (cells s (k+1)),aW u8 s b]++[aW i64 st (gp i (num b k 1))]):=
    List.perm_append_comm.trans (List.Perm.append_right _ (List.perm_append_comm (l₁:=[aG a (cells s (k+1)),aW u8 s b]) (l₂:=[aG a1 [.pointer (some a)]])))
   exact p1.append_right L))).ak
def nW (c:bC) (b:Bs):jZ:=⟨num b 2 4,num b 6 4,num b 10 1,num b 11 4,num b 15 4,num b 19 4,(num b 23 1,num b 24 1,num b 25 4,num b 29 4,num b 33 4),gp (cR c).toNat (num b 37 1),gp (cR c).toNat (num b 38 1),kt b 39 c.2.1.toNat⟩
theorem Dz (c:bC) (b:Bs):ph c b=if iU c (nW c b)&&tE c (nW c b)==b then some (nW c b) else none:=rfl
abbrev pO (a:Option Addr):List Value:=[.pointer a]
theorem gO {Q:sY->Int->PH->Prop} (h:aA H (aC B::L)) (J:Gm B g c) (F:bg c) (hp:Bytes B p b) (hl:b.length=64*(cD c).toNat) (t:bU b)
 (hy:ph c b=some (nW c b)->∀x m H',Ext B m->uD m x (nW c b)->aA H' (aC m::L)->Q x 0 H') (hn:ph c b=none->∀m H',Ext B m->aA H' (aC m::L)->Q fN 2 H'):qD g p H Q:=by
 obtain⟨ga,rfl,bw⟩:=J
 have J:Gm B (some ga) c:=⟨ga,rfl,bw⟩
 have ca:=kT F
 have b8:=gE F
 obtain⟨bY,bZ,b0,b1,b3,b4⟩:=id F
 have b9:cD c=(c.2.1*5+106)/ 64:=rfl
 have b5:128<=b.length:=by omega
 have b6:b.length<=256:=by omega
 have b7:39+5*c.2.1.toNat<=b.length:=by omega
 refine az h λa H1 S=>aE rfl (nT S (hp.ext S.base) (by omega) λd s H2 h2=>az h2 λf H3 h3=>bf (vs:=pO (some d)) h3 rfl rfl λH4 h4=>ay (x:=some d) h4 rfl ?_)
 have h5:aA H4 (aC B::aG d (cells s 0)::aW u8 s b::aG f (pO (some d))::aG a (dF fN)::L):=h4.perm (.cons _ ((List.Perm.swap _ _ _).trans (.cons _ (.swap _ _ _))))
 refine rK (n:=2) h5 (by omega) (by omega) λ_ H5 h5=>?_
 refine bj (x:=some d) h5 3 rfl rfl rfl (bj (x:=some d) h5 3 rfl rfl rfl (fx (w:=4) h5 (by decide) (by omega) (by omega) t λH6 h6=>⟨(h6.get 3 rfl:aZ H6 f _).all rfl,fx (w:=4) h6 (by decide) (by omega) (by omega) t λH7 h7=>?_⟩))
 refine cB (j:=0) h7 4 rfl (by simp) rfl λH8 h8=>cB (j:=1) h8 4 rfl (by simp) rfl λH9 h9=>?_
 refine bj (x:=some d) h9 3 rfl rfl rfl (fx (w:=1) h9 (by decide) (by omega) (by omega) t λbF a8=>cB (j:=2) a8 4 rfl (by simp) rfl λbG O=>?_)
 refine bj (x:=some d) O 3 rfl rfl rfl (bj (x:=some d) O 3 rfl rfl rfl (bj (x:=some d) O 3 rfl rfl rfl (fx (w:=4) O (by decide) (by omega) (by omega) t λaj aa=>⟨(aa.get 3 rfl:aZ aj f _).all rfl,(aa.get 3 rfl:aZ aj f _).all rfl,fx (w:=4) aa (by decide) (by omega) (by omega) t λa1 av=>⟨(av.get 3 rfl:aZ a1 f _).all rfl,fx (w:=4) av (by decide) (by omega) (by omega) t λbI a9=>?_⟩⟩)))
 refine cB (j:=3) a9 4 rfl (by simp) rfl λbJ ba=>cB (j:=4) ba 4 rfl (by simp) rfl λbK bb=>cB (j:=5) bb 4 rfl (by simp) rfl λbL ab=>?_
 refine bj (x:=some d) ab 3 rfl rfl rfl (bj (x:=some d) ab 3 rfl rfl rfl (fx (w:=1) ab (by decide) (by omega) (by omega) t λa3 aw=>⟨(aw.get 3 rfl:aZ a3 f _).all rfl,fx (w:=1) aw (by decide) (by omega) (by omega) t λa4 aB=>?_⟩))
 have Y:∀j,(a.add 6).add j=a.add (6+j):=λj=>by
  have e0:=(aB.get 4 rfl:aZ a4 a _).addr
  rw[e0];simp[eW,Nat.add_assoc]
 rw[Y 0,Y 1]
 refine cB (j:=6) aB 4 rfl (by simp) rfl λbM bc=>cB (j:=7) bc 4 rfl (by simp) rfl λbN P=>?_
 refine bj (x:=some d) P 3 rfl rfl rfl (bj (x:=some d) P 3 rfl rfl rfl (bj (x:=some d) P 3 rfl rfl rfl (fx (w:=4) P (by decide) (by omega) (by omega) t λal ac=>⟨(ac.get 3 rfl:aZ al f _).all rfl,(ac.get 3 rfl:aZ al f _).all rfl,fx (w:=4) ac (by decide) (by omega) (by omega) t λa5 aD=>⟨(aD.get 3 rfl:aZ a5 f _).all rfl,fx (w:=4) aD (by decide) (by omega) (by omega) t λbO bd=>?_⟩⟩)))
 rw[Y 2,Y 3,Y 4]
 refine cB (j:=8) bd 4 rfl (by simp) rfl λbP be=>cB (j:=9) be 4 rfl (by simp) rfl λbR bh=>cB (j:=10) bh 4 rfl (by simp) rfl λbS R=>?_
 refine bj (x:=some d) R 3 rfl rfl rfl (bj (x:=some d) R 3 rfl rfl rfl (fB (J.ext R.base) F λam bB=>?_))
 have ad:=R.ext bB
 obtain⟨np,au⟩:=Int.eq_ofNat_of_zero_le (show 0<=cR c by omega)
 have Z:(cR c).toNat=np:=by omega
 refine⟨(ad.get 3 rfl:aZ am f _).all rfl,(ad.get 3 rfl:aZ am f _).all rfl,?_⟩
 rw[au]
 refine Bg (n:=np) ad (by omega) (by omega) t (by omega) λA an aR=>?_
 have bi:aA an (aC B::aW i64 A _::aG d (cells s (2+4+4+1+4+4+4+1+1+4+4+4+1))::aW u8 s b::aG f (pO (some d))::aG a (dF (num b 2 4,num b 6 4,num b 10 1,num b 11 4,num b 15 4,num b 19 4,num b 23 1,num b 24 1,num b 25 4,num b 29 4,num b 33 4,Sl.nil,Sl.nil,Sl.nil))::L):=
  aR.perm (.cons _ ((List.Perm.cons _ (.swap _ _ _)).trans (.swap _ _ _)))
 refine gX bi λD aP bz af=>?_
 refine⟨(af.get 3 rfl:aZ an f _).all rfl,fB ((J.ext aP).ext af.base) F λa6 bC=>?_⟩
 have aH:=af.ext bC
 refine⟨(aH.get 3 rfl:aZ a6 f _).all rfl,?_⟩
 rw[au]
 refine Bg (n:=np) aH (by omega) (by omega) t (by omega) λC a7 aS=>?_
 have bk:aA a7 (aC D::aW i64 C _::aG d (cells s (2+4+4+1+4+4+4+1+1+4+4+4+1+1))::aW u8 s b::aG f (pO (some d))::aG a (dF (num b 2 4,num b 6 4,num b 10 1,num b 11 4,num b 15 4,num b 19 4,num b 23 1,num b 24 1,num b 25 4,num b 29 4,num b 33 4,Sl.nil,Sl.nil,Sl.nil))::L):=
  aS.perm (.cons _ ((List.Perm.cons _ (.swap _ _ _)).trans (.swap _ _ _)))
 refine gX bk λI aQ bA bl=>?_
 refine cB (j:=11) bl 4 rfl (by simp) rfl λbV bm=>cB (j:=12) bm 4 rfl (by simp) rfl λbW aI=>?_
 have aO:Ext B I:=aP.trans aQ
 refine lH ((J.ext aO).ext aI.base) λao bD=>?_
 obtain⟨u,N⟩:∃u:Sl->sY,u=λz=>(num b 2 4,num b 6 4,num b 10 1,num b 11 4,num b 15 4,num b 19 4,num b 23 1,num b 24 1,num b 25 4,num b 29 4,num b 33 4,A,C,z):=⟨_,rfl⟩
 have bn:aA ao (aC I::aG d (cells s (39+5*0))::aW u8 s b::aG f (pO (some d))::aG a (dF (u Sl.nil))::aq bQ 2 Sl.nil (kt b 39 0)::L):=by
  rw[N]
  have bo:=((aI.ext bD:aA ao (aC I::_)).zG (enc:=bQ) (sz:=2)).up
  exact bo.perm (.cons _ ((List.perm_append_comm (l₁:=[aq bQ 2 Sl.nil []]) (l₂:=[aG d (cells s 39),aW u8 s b,aG f (pO (some d)),aG a (dF (num b 2 4,num b 6 4,num b 10 1,num b 11 4,num b 15 4,num b 19 4,num b 23 1,num b 24 1,num b 25 4,num b 29 4,num b 33 4,A,C,Sl.nil))])).append_right L))
 have aY:fv I A (gp np (num b 37 1)):=bz.ext aQ
 have a0:fv I C (gp np (num b 38 1)):=bA
 refine ax c.2.1.toNat (λi st Hk=>st=(i:Int)/\∃m z,Ext I m/\aA Hk (aC m::aG d (cells s (39+5*i))::aW u8 s b::aG f (pO (some d))::aG a (dF (u z))::aq bQ 2 z (kt b 39 i)::L)) ⟨rfl,I,Sl.nil,.refl _,bn⟩ ?_
 rintro i st K again hi ⟨rfl,m,z,xb,o⟩ bv
 have M:∀(H':PH) (x:Sl) (L':List Ob),aA H' L'->L'[4]?=some (aG a (dF (u x)))->cellAt H' (a.add 13)=some (Sl.v x):=λH' x L' h' e=>(h'.get 4 e:aZ H' a _).cell (by rw[N];rfl)
 refine aL (λc2=>?_) (λc2=>?_)
 ·have bx:i<c.2.1.toNat:=by simp at c2;omega
  refine⟨z,M K z _ o rfl,bj (x:=some d) o 3 rfl rfl rfl (bj (x:=some d) o 3 rfl rfl rfl (fx (w:=1) o (by decide) (by omega) (by omega) t λap ag=>⟨(ag.get 3 rfl:aZ ap f _).all rfl,M ap z _ ag rfl,fx (w:=4) ag (by decide) (by omega) (by omega) t λU ah=>⟨M U z _ ah rfl,?_⟩⟩))⟩
  have bp:aA U (aC m::aq bQ 2 z (kt b 39 i)::aG d (cells s (39+5*i+1+4))::aW u8 s b::aG f (pO (some d))::aG a (dF (u z))::L):=
   ah.perm (.cons _ ((List.perm_append_comm (l₁:=[aG d (cells s (39+5*i+1+4)),aW u8 s b,aG f (pO (some d)),aG a (dF (u z))]) (l₂:=[aq bQ 2 z (kt b 39 i)])).append_right L))
  intro w V hw
  have aN:Ext U V:=.lX hw
  have vw:bT bQ 2 V w [(num b (39+5*i) 1,num b (39+5*i+1) 4)]:=bT.vE hw rfl rfl
  have bq:=bp.ext aN
  have aT:=ah.ext aN
  refine⟨M V z _ aT rfl,sQ lh (by decide) bq 1 rfl (vw.cells lh (by decide)) vw.len Py rfl (by rw[Ag];simp;omega) λT ar br=>?_⟩
  have bs:aA ar (aC m::aG d (cells s (39+5*i+1+4))::aW u8 s b::aG f (pO (some d))::aG a (dF (u z))::aq bQ 2 T (kt b 39 i++[(num b (39+5*i) 1,num b (39+5*i+1) 4)])::L):=
   (show aA ar (aC m::aq bQ 2 T _::aG d (cells s (39+5*i+1+4))::aW u8 s b::aG f (pO (some d))::aG a (dF (u z))::L) from br).perm (.cons _ ((List.perm_append_comm (l₁:=[aq bQ 2 T _]) (l₂:=[aG d (cells s (39+5*i+1+4)),aW u8 s b,aG f (pO (some d)),aG a (dF (u z))])).append_right L))
  refine cB (j:=13) bs 4 rfl (by simp) rfl λbX bt=>?_
  rw[bH (by omega)]
  refine bv bx _ _ ⟨rfl,m,T,xb,?_⟩
  rw[DG,show 39+5*(i+1)=39+5*i+1+4 by omega]
  have e:(dF (u z)).set 13 (Sl.v T)=dF (u T):=by rw[N];rfl
  rw[←e];exact bt
 ·have:i=c.2.1.toNat:=by simp at c2;omega
  subst this
  have hx:∀x,u x=eC (nW c b) A C x:=λx=>by rw[N];rfl
  rw[hx] at o
  have hS:∀D,Ext m D->bT bQ 2 D z (kt b 39 c.2.1.toNat)->yM D A C z (nW c b):=λD x2 hv=>by
   refine⟨?_,?_,hv.jv lh⟩
   ·show fv D A (gp (cR c).toNat (num b 37 1));rw[Z];exact aY.ext (xb.trans x2)
   ·show fv D C (gp (cR c).toNat (num b 38 1));rw[Z];exact a0.ext (xb.trans x2)
  have aK:=hS K o.base (o.get 5 rfl)
  have aV:(nW c b).lb.length< 2 ^ 40/\(nW c b).lo.length< 2 ^ 40/\(nW c b).cG.length< 2 ^ 40:=by
   refine⟨?_,?_,?_⟩
   ·show(gp _ _).length<_;rw[wG];omega
   ·show(gp _ _).length<_;rw[wG];omega
   ·show(kt _ _ _).length<_;rw[Ag];omega
  have G:Ext B m:=aO.trans xb
  refine bj (x:=eC (nW c b) A C z) o 4 rfl rfl rfl ?_
  have fin:∀X,aA X (aC m::aG d (cells s (39+5*c.2.1.toNat))::aW u8 s b::aG f (pO (some d))::aG a (dF (eC (nW c b) A C z))::aq bQ 2 z (kt b 39 c.2.1.toNat)::L)->∀sb:Bool,(sb=true->ph c b=none)->(sb=false->ph c b=some (nW c b))->
   aJ sb (aX X a (dF fN) λH1=>aU dF H1 a 14 λy=>Q y 2 H1) (aU dF X a 14 λy=>aX X a (dF y) λH1=>aU dF H1 a 14 λy=>Q y 0 H1):=λX hz sb f1 f2=>by
   refine zY (x:=eC (nW c b) A C z) (z:=fN) (Q:=Q) hz 4 rfl rfl rfl (λ_=>rfl) (λ_=>rfl) (λE H1 S=>?_) (λE H1 S=>?_)
   ·have h2:aA H1 (aC m::aG d (cells s (39+5*c.2.1.toNat))::aW u8 s b::aG f (pO (some d))::aG a (dF fN)::aq bQ 2 z (kt b 39 c.2.1.toNat)::L):=S
    exact hn (f1 E) m H1 G h2.ak.ak.ak.ak.ak
   ·have h2:aA H1 (aC m::aG d (cells s (39+5*c.2.1.toNat))::aW u8 s b::aG f (pO (some d))::aG a (dF (eC (nW c b) A C z))::aq bQ 2 z (kt b 39 c.2.1.toNat)::L):=S
    obtain⟨D,x2,hv,h3⟩:=h2.ak.ak.ak.ak.fz
    exact hy (f2 E) _ D H1 (G.trans x2) ⟨A,C,z,rfl,hS D x2 hv⟩ h3
  by_cases hm:iU c (nW c b)=true
  ·refine dt ((J.ext G).ext o.base) F aK hm λy W bu=>?_
   have ai:=(o:aA K (aC m::_)).made bu
   refine aF (aE rfl (nV (ai.list (enc:=u8) 1 rfl) (hp.ext (G.trans ai.base)) (zd F (parts hm)) t (fin W ai.ak _ (λE=>?_) (λE=>?_))))
   ·rw[Dz,if_neg (by rw[hm,Bool.true_and];simpa using E)]
   ·rw[Dz,if_pos (by rw[hm,Bool.true_and];simpa using E)]
  ·have aM:iU c (nW c b)=false:=by simpa using hm
   refine uA ((J.ext G).ext o.base) F aK aV aM λW bE=>aF (ae rfl ?_)
   exact fin W ((o:aA K (aC m::_)).ext bE) true (λ_=>by rw[Dz,aM];rfl) (λE=>by cases E)
theorem choose_spec {Q:sY->Int->Int->PH->Prop} (h:aA H (aC B::L)) (P:Gm B g c) (hc:bg c) (hp:Bytes B p b) (hq:Bytes B q b2) (hl:b.length=64*(cD c).toNat) (X:b2.length=64*(cD c).toNat) (hb:bU b) (W:bU b2)
 (hy:∀r k,kh c b b2=some (r,k)->∀x N H',Ext B N->uD N x r->aA H' (aC N::L)->Q x k 0 H') (hn:kh c b b2=none->∀N H',Ext B N->aA H' (aC N::L)->Q fN 0 2 H'):si g p q H Q:=by
 obtain⟨ga,rfl,ac⟩:=P
 have P:Gm B (some ga) c:=⟨ga,rfl,ac⟩
 refine az h λa1 H1 h1=>?_
 have main:∀(x y:sY) (ex O:Int) (f:PH) (m:PH) (i d:Addr),Ext B f->aA m (aC f::aG d (dF y)::aG i (dF x)::aG a1 (dF fN)::L)->
  ((ph c b=none/\ex=2)∨∃r,ph c b=some r/\ex=0/\uD f x r)->((ph c b2=none/\O=2)∨∃r,ph c b2=some r/\O=0/\uD f y r)->
  aM (λ(ad:Bool) (A:PH)=>aJ ad (aU dF A i 14 λC=>aX A a1 (dF C) λo=>aU dF o a1 14 λD=>Q D 0 0 o)
   (aJ (O==0) (aU dF A d 14 λag=>aX A a1 (dF ag) λU=>aU dF U a1 14 λah=>Q ah 1 0 U)
    (aX A a1 (dF fN) λV=>aU dF V a1 14 λai=>Q ai 0 2 V)))
   λZ=>aJ (ex==0) (aM (λ(af:Bool) (ab:PH)=>Z af ab) λaa=>aJ (O != 0) (aa true m) (aH i64 m (i.add 0) λaj=>aH i64 m (d.add 0) λal=>aa (decide (al<=aj)) m)) (Z false m):=by
  intro x y ex O f m i d n u S Y
  have kx:∀r,uD f x r->kh c b b2=some (r,0)->aU dF m i 14 λC=>aX m a1 (dF C) λo=>aU dF o a1 14 λD=>Q D 0 0 o:=λr K e=>by
   refine bj u 2 rfl rfl rfl (eU u 3 rfl rfl rfl λv t=>bj (x:=x) t 3 rfl rfl rfl ?_)
   have z:aA v (aC f::aG d (dF y)::aG i (dF x)::aG a1 (dF x)::L):=t
   exact hy r 0 e x f v n K z.ak.ak.ak
  have ky:∀r,uD f y r->kh c b b2=some (r,1)->aU dF m d 14 λC=>aX m a1 (dF C) λo=>aU dF o a1 14 λD=>Q D 1 0 o:=λr K e=>by
   refine bj u 1 rfl rfl rfl (eU u 3 rfl rfl rfl λv t=>bj (x:=y) t 3 rfl rfl rfl ?_)
   have z:aA v (aC f::aG d (dF y)::aG i (dF x)::aG a1 (dF y)::L):=t
   exact hy r 1 e y f v n K z.ak.ak.ak
  rcases S with⟨e1,rfl⟩|⟨r,e1,rfl,K⟩
  ·refine aF (aE rfl (aE rfl ?_))
   rcases Y with⟨e2,rfl⟩|⟨T,e2,rfl,M⟩
   ·refine aE rfl (eU (vs:=dF fN) u 3 rfl rfl rfl λv t=>bj (x:=fN) t 3 rfl rfl rfl ?_)
    have z:aA v (aC f::aG d (dF y)::aG i (dF x)::aG a1 (dF fN)::L):=t
    exact hn (AR e1 e2) f v n z.ak.ak.ak
   ·exact ae rfl (ky T M (AR e1 e2))
  ·refine aF (ae rfl (aF ?_))
   rcases Y with⟨e2,rfl⟩|⟨T,e2,rfl,M⟩
   ·exact ae rfl (ae rfl (kx r K (AR e1 e2)))
   ·obtain⟨_,_,_,rfl,_⟩:=id K
    obtain⟨_,_,_,rfl,_⟩:=id M
    refine aE rfl (aY (x:=r.gen) u 2 rfl rfl (aY (x:=T.gen) u 1 rfl rfl ?_))
    refine aL (λcc=>kx r K ?_) (λcc=>ae rfl (ky T M ?_))
    ·exact(AR e1 e2).trans (if_pos (by simpa using cc))
    ·exact(AR e1 e2).trans (if_neg (by simpa using cc))
 refine gO h1 P hc hp hl hb (λe x f m n S u=>?_) (λe f m n u=>?_)
 ·refine az u λi v t=>bf (vs:=dF x) t rfl rfl λH4 z=>gO z (P.ext n) hc (hq.ext n) X W (λe2 y E H5 j R G=>?_) (λe2 E H5 j G=>?_)
  ·refine az G λd H6 I=>bf (vs:=dF y) I rfl rfl λF J=>aE rfl ?_
   exact main x y 0 0 E F i d (n.trans j) J (.inr ⟨_,e,rfl,S.ext j⟩) (.inr ⟨_,e2,rfl,R⟩)
  ·refine az G λd H6 I=>bf (vs:=dF fN) I rfl rfl λF J=>aE rfl ?_
   exact main x fN 0 2 E F i d (n.trans j) J (.inr ⟨_,e,rfl,S.ext j⟩) (.inl ⟨e2,rfl⟩)
 ·refine az u λi v t=>bf (vs:=dF fN) t rfl rfl λH4 z=>gO z (P.ext n) hc (hq.ext n) X W (λe2 y E H5 j R G=>?_) (λe2 E H5 j G=>?_)
  ·refine az G λd H6 I=>bf (vs:=dF y) I rfl rfl λF J=>aE rfl ?_
   exact main fN y 2 0 E F i d (n.trans j) J (.inl ⟨e,rfl⟩) (.inr ⟨_,e2,rfl,R⟩)
  ·refine az G λd H6 I=>bf (vs:=dF fN) I rfl rfl λF J=>aE rfl ?_
   exact main fN fN 2 2 E F i d (n.trans j) J (.inl ⟨e,rfl⟩) (.inl ⟨e2,rfl⟩)
end
end Rg
end
section
namespace Ig
open Go Go.Kx KM
section
variable {T:Type} (vK:T->T->Bool)
theorem xC (l:List T) (k:Int) (v:T):(wz vK l k v).length=l.length:=by unfold wz;split<;>simp
theorem Oa (per:Int) (l:List T) (d:List Bool) (k:Int) (v:T):(zP vK per l d k v).length=d.length:=by unfold zP;split<;>simp
end
structure pA (n:Nat) (per:Int) (d:List Bool):Prop where
 n1:1<=n
 n2:n<=65536
 p1:1<=per
 p2:per<=65536
 d:(d.length:Int)=pH n per
theorem I5 {n per:Int} (b:1<=n) (c:1<=per):1<=pH n per:=by
 unfold pH
 exact(Int.le_ediv_iff_mul_le (by omega)).2 (by omega)
theorem gE {n per:Int} (b:1<=n) (e:1<=per):pH n per<=n:=by
 unfold pH
 refine Int.ediv_le_of_le_mul (by omega) ?_
 have:n*per=n*(per- 1)+n:=by rw[Int.mul_sub];omega
 have c:1*(per- 1)<=n*(per- 1):=Int.mul_le_mul_of_nonneg_right b (by omega)
 omega
theorem D0 {n per k:Int} (f:1<=per) (e:0<=k) (hk:k<pH n per):k*per<n:=by
 unfold pH at hk
 have b:(k+1)<=(n+per- 1)/per:=by omega
 have c:=(Int.le_ediv_iff_mul_le (by omega)).1 b
 rw[Int.add_mul,Int.one_mul] at c
 omega
theorem Q1 {n per k:Int} (c:1<=per) (b:0<=k) (hk:k<n):0<=k/per/\k/per<pH n per:=by
 refine⟨Int.ediv_nonneg b (by omega),?_⟩
 unfold pH
 have:k/per+1<=(n+per- 1)/per:=by
  refine(Int.le_ediv_iff_mul_le (by omega)).2 ?_
  have:=Int.ediv_mul_le k (show per≠0 by omega)
  rw[Int.add_mul,Int.one_mul];omega
 omega
abbrev oR (s t:Sl) (per:Int):List Value:=[Sl.v s,.int .i64 per,Sl.v t]
theorem bH {k:Nat} (h:k< 2 ^ 60):IntKind.wrap .i64 ((k:Int)+1)=((k+1:Nat):Int):=by rw[bA (by omega) (by omega)];push_cast;rfl
theorem GQ {a b:Int} (c:0<=a):Int.tdiv a b=a/b:=Int.tdiv_eq_ediv_of_nonneg c
theorem Ah {d:List Bool} {k:Nat} (h:d.getD k false=false):qO d (k+1)=qO d k:=by simp only[qO,List.range_succ,List.filterMap_append,List.filterMap_cons,h];simp
theorem Ai {d:List Bool} {k:Nat} (h:d.getD k false=true):qO d (k+1)=qO d k++[(k:Int)]:=by simp only[qO,List.range_succ,List.filterMap_append,List.filterMap_cons,h];simp
theorem xD {x:Int} (a:0<=x) (b:x< 18446744073709551616):IntKind.wrap .u64 x=x:=by
 have c:(2:Int) ^ IntKind.u64.bits=18446744073709551616:=rfl
 simp only[IntKind.wrap,c,IntKind.signed,Bool.false_and,Bool.false_eq_true,if_false]
 omega
theorem KP {n:Int} (b:0<=n) (e:n< 4294967296):kE .u64 n 4294967295=n:=by
 obtain⟨k,rfl⟩:=Int.eq_ofNat_of_zero_le b
 have c:(BitVec.ofInt 64 (k:Int)&&&BitVec.ofInt 64 4294967295).toNat=k:=by
  rw[BitVec.toNat_and]
  have e2:(BitVec.ofInt 64 4294967295).toNat=2 ^ 32- 1:=rfl
  rw[e2,Nat.and_two_pow_sub_one_eq_mod]
  simp only[BitVec.toNat_ofInt]
  omega
 show IntKind.u64.wrap ((BitVec.ofInt 64 (k:Int)&&&BitVec.ofInt 64 4294967295).toNat:Int)=_
 rw[c,xD (by omega) (by omega)]
theorem GR {n:Int} (b:0<=n) (c:n< 4294967296):g8 .u64 n 32=0:=by
 simp only[g8,IntKind.bits]
 show n.fdiv (2 ^ 32)=0
 rw[Int.fdiv_eq_ediv_of_nonneg _ (by decide)]
 exact Int.ediv_eq_zero_of_lt b (by simpa using c)
theorem mul_one {n:Int} (b:0<=n) (c:n< 4294967296) {H:PH} {Q:Int->Int->PH->Prop} (f:Q 0 n H):wm 1 n H Q:=by
 have e:kE .u64 0 4294967295=0:=KP (by decide) (by decide)
 have e1:kE .u64 1 4294967295=1:=KP (by decide) (by decide)
 have f0:g8 .u64 0 32=0:=GR (by decide) (by decide)
 have f1:g8 .u64 1 32=0:=GR (by decide) (by decide)
 have g:IntKind.wrap .u64 0=0:=xD (by decide) (by decide)
 have wn:IntKind.wrap .u64 n=n:=xD b (by omega)
 unfold wm vt
 simp only[e1,f1,KP b c,GR b c,Int.one_mul,Int.zero_mul,Int.mul_zero,g,wn,Int.add_zero,Int.zero_add,e,f0]
 exact f
abbrev T:=Int
abbrev E:T->Value:=Value.int .i64
def nz:T:=0
theorem MY (x:T):cI (E x)=true:=rfl
section
variable {H B:PH} {L:List Ob} {a:Addr} {s t:Sl} {per:Int} {l:List T} {d:List Bool}
theorem Bh {r:Sl} {v:T} {n:Nat} {Q:Sl->PH->Prop} (p:b9 E H r [v]) (C:1<=n) (N:n<=65536) (D:∀s H',aA H' [aC H,aW E s (List.replicate n v)]->Q s H'):fu r n H Q:=by
 have F:(r.len:Int)=1:=p.bF
 refine aF (aE (by simp) ?_)
 rw[F,xD (by omega) (by omega),xD (by omega) (by omega)]
 refine mul_one (by omega) (by omega) (aF (aE (by decide) (aF (aE (by simp;omega) ?_))))
 rw[bA (by omega) (by omega)]
 refine SB (enc:=E) (x:=nz) (aA.start H) (by omega) (by omega) λq H1 g G=>QO g 1 rfl (p.ext G) MY λK e=>?_
 rw[Int.toNat_natCast] at e
 have A:(min [v].length (List.replicate n nz).length:Nat)=1:=by simp;omega
 rw[Int.toNat_natCast,A]
 have e1:[v].take (List.replicate n nz).length++(List.replicate n nz).drop [v].length=List.replicate 1 v++List.replicate (n- 1) nz:=by
  rw[List.length_replicate,List.take_of_length_le (by simp;omega)];simp
 rw[e1] at e
 refine yy (λm st y=>∃k z,st=((k:Nat):Int)/\m=n-k/\1<=k/\k<=n/\List.length z=n-k/\aA y [aC H,aW E q (List.replicate k v++z)]) (n- 1) ⟨1,_,rfl,rfl,Nat.le_refl _,C,by simp,e⟩ ?_
 rintro m st w again ⟨k,z,rfl,rfl,I,J,f,b⟩ i
 have o:(q.len:Int)=n:=by rw[(b.list (enc:=E) 1 rfl).bF];simp[f];omega
 rw[o]
 have hlen:(List.replicate k v++z).length=n:=by simp[f];omega
 refine aL (λc=>?_) (λc=>?_)
 ·have j:k<n:=by simpa using c
  refine Ja b 1 rfl (by omega) (by omega) (by omega) λ_=>Ja b 1 rfl (by omega) (by omega) (by omega) λu=>?_
  simp only[Int.toNat_natCast,Int.toNat_zero,List.drop_zero,Nat.sub_zero] at u ⊢
  refine AK b 1 rfl (by omega) (by omega) u MY λM h=>?_
  rw[Nv j rfl f] at h
  have e2:min ((List.replicate k v++z).take k).length (n-k)=min k (n-k):=by rw[List.length_take,hlen];omega
  rw[e2,bA (by omega) (by omega)]
  exact i (n-(k+min k (n-k))) _ _ (by omega) ⟨k+min k (n-k),_,by push_cast;rfl,rfl,by omega,by omega,by rw[List.length_drop,f];omega,h⟩
 ·have:k=n:=by simp at c;omega
  subst this
  have:z=[]:=List.length_eq_zero_iff.1 (by omega)
  subst this
  rw[List.append_nil] at b
  exact D q w b
theorem eI {n per:Int} {v:T} {Q:Option Addr->PH->Prop} (g:¬(1<=n/\n<=65536/\1<=per/\per<=65536)->Q none H)
 (f:(1<=n/\n<=65536/\1<=per/\per<=65536)->∀a s t H',aA H' [aC H,aW E s (List.replicate n.toNat v),aW Value.bool t (List.replicate (pH n per).toNat false),aG a (oR s t per)]->Q (some a) H'):mz n per v H Q:=by
 by_cases b:1<=n/\n<=65536/\1<=per/\per<=65536
 ·refine aF (aE (by simp;omega) (aF (aE (by simp;omega) (aF (aE (by simp;omega) (aE (by simp;omega) ?_))))))
  have y:=I5 b.1 b.2.2.1
  have p:=gE b.1 b.2.2.1
  have e:IntKind.wrap .i64 (Int.tdiv (IntKind.wrap .i64 ((IntKind.wrap .i64 (n+per))- 1)) per)=pH n per:=by
   rw[bA (x:=n+per) (by omega) (by omega),bA (x:=n+per- 1) (by omega) (by omega),GQ (by omega)]
   exact bA (by show -9223372036854775808<=pH n per;omega) (by show pH n per< 9223372036854775808;omega)
  rw[e]
  refine⟨by omega,⟨by omega,Int.le_refl _,by omega⟩,Cp (enc:=E) (x:=v) (aA.start H) λr H1 h z=>?_⟩
  obtain⟨N,rfl⟩:=Int.eq_ofNat_of_zero_le (show 0<=n by omega)
  refine Bh (h.list 1 rfl) (by omega) (by omega) λs u j=>?_
  have k:=h.aQ j
  refine Cq (enc:=Value.bool) (x:=false) k λt w m A=>kV m λa i o C=>f b a s t i (o.pick [0,2,3,4] (by decide) (by simp) (by simp))
 ·have q:=g b
  refine aF (aL (λc=>aF (ae rfl (aF (ae rfl (ae rfl q))))) (λc=>?_))
  refine aF (aL (λc2=>aF (ae rfl (ae rfl q))) (λc2=>?_))
  refine aF (aL (λc3=>ae rfl q) (λc3=>ae (by simp at c c2 c3 ⊢; omega) q))
theorem xE {Q:Int->PH->Prop} (r:aZ H a (oR s t per)) (c:(s.len:Int)=l.length) (b:Q l.length H):iL (some a) H Q:=by
 refine aE rfl (aD (aa (x:=s) r rfl ?_))
 rw[c];exact b
theorem fB {Q:Int->PH->Prop} (r:aZ H a (oR s t per)) (c:(t.len:Int)=d.length) (b:Q d.length H):iy (some a) H Q:=by
 refine aE rfl (aD (aa (x:=t) r rfl ?_))
 rw[c];exact b
theorem cZ {i:Int} {Q:T->Bool->PH->Prop} (r:aZ H a (oR s t per)) (h:b9 E H s l) (g:∀x,0<=i->i<l.length->l[i.toNat]?=some x->Q x true H) (b:¬(0<=i/\i<l.length)->Q nz false H):fV (some a) i H Q:=by
 refine aF (aL (λc=>ae rfl (b (by simp at c;omega))) (λc=>xE r h.bF ?_))
 refine aL (λc2=>b (by simp at c2;omega)) (λc2=>?_)
 have e:0<=i:=by simpa using c
 have f:i<l.length:=by simpa using c2
 exact aD (aa (x:=s) r rfl (eJ h e f λx j=>g x e f j))
theorem GS {k:Int} {v:T} {Q:Bool->PH->Prop} (h:aA H L) (r:aZ H a (oR s t per)) (i j:Nat) (hi:L[i]?=some (aW E s l)) (p:L[j]?=some (aW Value.bool t d)) (o:i≠j) (ok:pA l.length per d)
 (m:∀H',aA H' ((L.set i (aW E s (wz vK l k v))).set j (aW Value.bool t (zP vK per l d k v)))->Q (decide (0<=k/\k<l.length)) H'):gM (some a) k v H Q:=by
 have ss:∀{α:Type} {L:List α} {i:Nat} {O:α},L[i]?=some O->L.set i O=L:=λ{α L i O} h=>by
  apply List.ext_getElem?
  intro j
  by_cases e:i=j
  ·subst e;rw[List.getElem?_set_self (List.getElem?_eq_some_iff.1 h).1,h]
  ·rw[List.getElem?_set_ne e]
 have stay:zO vK l k v=false->Q (decide (0<=k/\k<l.length)) H:=λg=>by
  have:=m H
  rw[wz,zP,if_neg (by simp[g]),if_neg (by simp[g]),ss hi,ss p] at this
  exact this h
 have C:=h.list i hi
 refine cZ r C (λx f n q=>?_) (λz=>?_)
 ·have b:decide (0<=k/\k<(l.length:Int))=true:=decide_eq_true ⟨f,n⟩
  rw[b] at m stay
  refine aF (ae rfl ?_)
  refine aF (aL (λc=>?_) (λc=>stay ?_))
  ·have g:zO vK l k v=true:=by rw[zO,b,q];exact c
   rw[wz,zP,if_pos g,if_pos g] at m
   have A:=Q1 ok.p1 f n
   have:=ok.d;have:=ok.n2;have:=ok.p1
   have D:=Int.ediv_le_self per f
   refine aD (aa (x:=s) r rfl (aD (aa (x:=t) r rfl (aD (aa (x:=per) r rfl ⟨by omega,?_⟩)))))
   refine tf h i hi f n rfl λF w=>?_
   rw[GQ f,bA (by omega) (by omega)]
   exact tf w j (by rw[List.getElem?_set_ne o];exact p) A.1 (by omega) rfl λu y=>m u y
  ·rw[zO,b,q];exact c
 ·have b:decide (0<=k/\k<(l.length:Int))=false:=decide_eq_false z
  rw[b] at stay
  refine aF (aE rfl (aF (aE rfl (stay ?_))))
  rw[zO,b];rfl
theorem FD {γ:Type} {c0:Addr} {Y:List Value->γ->PH->(Nat->γ->PH->Prop)->Prop} {i:γ} {Q:Nat->γ->PH->Prop} (I:Nat->γ->PH->Prop) (A:d.length<=65536)
 (o:∀k g H,I k g H->cellAt H c0=some (.pointer (some a))/\aZ H a (oR s t per)/\b9 Value.bool H t d) (n:I 0 i H)
 (skip:∀k g H,k<d.length->I k g H->d.getD k false=false->I (k+1) g H)
 (step:∀k g H K,k<d.length->I k g H->d.getD k false=true->(∀b H',I (k+1) b H'->K 0 b H')->(∀j b H',j≠0->Q j b H'->K j b H')->Y [.int .i64 k] g H K)
 (fin:∀g H,I d.length g H->Q 0 g H):mU c0 Y i H Q:=by
 obtain⟨u,y,l0⟩:=o _ _ _ n
 refine⟨some a,u,fB y l0.bF ?_⟩
 refine ax d.length (λk st r=>∃g,st=((k:Int),(0,g))/\I k g r) ⟨i,rfl,n⟩ ?_
 rintro k st H1 again hk ⟨g,rfl,hi⟩ f
 obtain⟨e1,z,l1⟩:=o _ _ _ hi
 refine aL (λc=>?_) (λc=>?_)
 ·have e:k<d.length:=by simpa using c
  have m:=bH (k:=k) (by omega)
  refine⟨some a,e1,aD (aa (x:=t) z rfl (eJ l1 (by omega) (by omega) λx q=>?_))⟩
  rw[Int.toNat_natCast] at q
  have h:d.getD k false=x:=by simp[List.getD,q]
  refine aF (aL (λc1=>⟨rfl,?_⟩) (λc1=>aE rfl ?_))
  ·refine step k g H1 _ e hi (h.trans c1) (λb H' p=>aE rfl ?_) (λj b H' v w=>ae (by simpa using v) w)
   rw[m];exact f e _ _ ⟨b,rfl,p⟩
  ·rw[m];exact f e _ _ ⟨g,rfl,skip k g H1 e hi (h.trans c1)⟩
 ·have:k=d.length:=by simp at c;omega
  subst this
  exact fin g H1 hi
end
end Ig
end
section
namespace jo
open Go Go.Kx KM Rw Cr It Ds Ge Rg
abbrev jt (x:Int×Sl):List Value:=[i64 x.1,Sl.v x.2]
theorem yN (x:Int×Sl):(jt x).length=2:=rfl
theorem Pz (x:Int×Sl):(jt x).all cI=true:=rfl
section
variable {H B:PH} {L:List Ob} {k:Nat} {A:DA} {D:Dk} {p:Sl} {bs:Bs} {at':Int} {c:bC} {g:Option Addr}
theorem UE {n:Nat} {Q:Sl->PH->Prop} (o:n<=2 ^ 20) (f:∀r H',aA H' [aC H,aq jt 2 r []]->Q r H'):dh Sl.nil n H Q:=by
 have l:IntKind.wrap .i64 (((Sl.nil.cap:Nat):Int)-((Sl.nil.len:Nat):Int))=0:=rfl
 have e1:IntKind.wrap .i64 ((n:Int)- 0)=n:=by rw[bo (by omega) (by omega)];omega
 unfold dh
 rw[l,e1]
 refine aF (aE (by simp) (aF (aL (λc=>?_) (λc=>?_))))
 ·have m:0<n:=by simpa using c
  refine⟨Sl.nil,⟨by decide,by decide,by decide,by decide,rfl⟩,by omega,by simp;omega,by decide,by simp;omega,[],rfl,λb e h i=>?_⟩
  simp only[Int.toNat_natCast,Nat.zero_add] at i ⊢
  refine⟨_,⟨Int.le_refl _,Int.le_refl _,by simp,i,rfl⟩,f _ _ ((aA.start H).new (O':=aq jt 2 _ []) (Ext.bL h) (.inr ⟨b,e,144,bz n [.int .i64 0,.slice none 0 0]++bz (e-n) [.int .i64 0,.slice none 0 0],?_,?_,?_⟩) (λc j=>?_))⟩
  ·simp only[Sl.cut,List.length_nil,Nat.zero_add]
   rw[if_neg (by simp;omega)]
   simp[eW]
  ·simp only[List.length_append,oV,List.length_cons,List.length_nil];omega
  ·simp
  ·obtain⟨a,d,rfl⟩:=j
   simp only[Sl.cut] at d
   rw[if_neg (by simp;omega)] at d
   simp[eW] at d
   rw[←d];exact h
 ·exact f Sl.nil H (aA.start H).zG
theorem Q3 {ls:List (Sl×List (Int×Sl))} {Q:Sl->PH->Prop} (n:b9 Sl.v H p (ls.map (·.1))) (w:∀q∈ls,dT jt 2 H q.1 q.2) (J:ls.length< 2 ^ 20) (E:(ls.map (·.2)).flatten.length<=2 ^ 20) (C:∀r H',aA H' [aC H,aq jt 2 r (ls.map (·.2)).flatten]->Q r H'):fC p H Q:=by
 have hlen:=n.bF
 rw[List.length_map] at hlen
 have d:∀k,((ls.take k).map (·.2)).flatten.length<=2 ^ 20:=λk=>by
  refine Nat.le_trans ?_ E
  have:ls.map (·.2)=(ls.take k).map (·.2)++(ls.drop k).map (·.2):=by rw[←List.map_append,List.take_append_drop]
  rw[this,List.flatten_append,List.length_append];omega
 have a:∀{k:Nat} {q:Sl×List (Int×Sl)},ls[k]?=some q->((ls.take (k+1)).map (·.2)).flatten=((ls.take k).map (·.2)).flatten++q.2:=λ{k q} h=>by rw[fk h];simp
 refine ax ls.length (λk st m=>st=((((ls.take k).map (·.2)).flatten.length:Int),(k:Int))/\m=H) ⟨by simp,rfl⟩ ?_
 rintro k st H1 again hk ⟨rfl,rfl⟩ x
 rw[hlen]
 refine aL (λc=>aF ?_) (λc=>?_)
 ·have i:k<ls.length:=by simpa using c
  refine eJ n (by omega) (by simp;omega) λs j=>?_
  rw[Int.toNat_natCast,List.getElem?_map] at j
  obtain⟨q,f,rfl⟩:=Option.map_eq_some_iff.1 j
  have b:=d k
  have o:=d (k+1)
  rw[a f,List.length_append] at o
  have e:=(w q (List.mem_of_getElem? f)).bF
  dsimp only
  rw[e,bo (by omega) (by omega)]
  refine aE (by simp;omega) ?_
  rw[bH (by omega)]
  exact x i _ _ ⟨by rw[a f,List.length_append];push_cast;rfl,rfl⟩
 ·have:k=ls.length:=by simp at c;omega
  subst this
  refine UE (d ls.length) λK G b=>?_
  refine ax ls.length (λk st m=>st.2=(k:Int)/\aA m [aC H1,aq jt 2 st.1 ((ls.take k).map (·.2)).flatten]) ⟨rfl,by simpa using b⟩ ?_
  rintro k ⟨st,_⟩ y u F ⟨e,b⟩ t
  simp only at e b;subst e
  refine aL (λc2=>?_) (λc2=>?_)
  ·have i:k<ls.length:=by simpa using c2
   refine eJ (n.ext b.base) (by omega) (by simp;omega) λs j=>?_
   rw[Int.toNat_natCast,List.getElem?_map] at j
   obtain⟨q,f,rfl⟩:=Option.map_eq_some_iff.1 j
   have o:=d (k+1)
   rw[a f,List.length_append] at o
   have l:=(w q (List.mem_of_getElem? f)).ext b.base
   refine sQ yN (by decide) b 1 rfl (l.cells yN (by decide)) l.1 Pz rfl (by omega) λr I z=>?_
   rw[bH (by omega)]
   exact t i _ _ ⟨rfl,by rw[a f];exact z⟩
  ·have:k=ls.length:=by simp at c2;omega
   subst this
   rw[List.take_length] at b
   exact C st y b
theorem zb {aO:Int} {Q:sY->PH->Prop} (h:aA H (aC B::L)) (y:Gm B g c) (r:bg c)
 (R:∀sb ss i H',Ext B i->yM i sb sb ss (eH c aO)->aA H' (aC i::L)->Q (eC (eH c aO) sb sb ss) H'):uf g aO H Q:=by
 have ag:=gE r
 obtain⟨aa,ab,ac,ad,ae,af⟩:=id r
 obtain⟨U,t⟩:=Int.eq_ofNat_of_zero_le (show 0<=cR c by omega)
 have q:(cR c).toNat=U:=by omega
 refine az h λa1 H1 v=>fB (y.ext v.base) r λF W=>?_
 rw[t]
 refine F9 (enc:=i64) (x:=(0:Int)) (v.ext W:aA F (aC B::_)) (by omega) (by omega) λb H3 d=>gX d λl e C d=>?_
 refine lH ((y.ext e).ext d.base) λH4 X=>?_
 have K:=d.ext X
 refine UQ (enc:=bQ) (sz:=2) (x:=(0,0)) (n:=c.2.1) (by omega) (by omega) λa s Y V E=>?_
 have M:aA s (aC l::aq bQ 2 a (List.replicate c.2.1.toNat (0,0))::aG a1 (dF fN)::L):=(show aA s (aC l::(aG a1 (dF fN)::L++[aq bQ 2 a (List.replicate c.2.1.toNat (0,0))])) from K.new (O':=aq bQ 2 a (List.replicate c.2.1.toNat (0,0))) Y E V).up
 refine qv E (by decide) (by simp;omega) λZ u el=>?_
 have hu:u=(0,0):=by
  have:=el.get
  simp only[List.getElem?_replicate] at this
  split at this
  ·exact(Option.some.inj this).symm
  ·cases this
 subst hu
 refine BE lh ((1,0):cz) (j:=0) M 1 rfl el (by decide) rfl rfl λG N=>?_
 have J:(List.replicate c.2.1.toNat ((0,0):cz)).set (0:Int).toNat (1,0)=(1,0)::List.replicate (c.2.1.toNat- 1) (0,0):=by
  obtain⟨m,em⟩:∃m,c.2.1.toNat=m+1:=⟨c.2.1.toNat- 1,by omega⟩
  rw[em,List.replicate_succ];simp
 have O:aA G (aC l::aq bQ 2 a ((1,0)::List.replicate (c.2.1.toNat- 1) (0,0))::aG a1 (dF fN)::L):=by rw[←J];exact N
 obtain⟨o,f,T,P⟩:=O.fz
 have S:yM o b b a (eH c aO):=by
  have z:fv o b (List.replicate (cR c).toNat 0):=by rw[q];exact C.ext f
  exact⟨z,z,T.jv lh⟩
 refine bf (vs:=dF (eC (eH c aO) b b a)) P rfl rfl λI w=>bk (x:=eC (eH c aO) b b a) w rfl rfl ?_
 exact R b a o I (e.trans f) S w.ak
structure k0 (B:PH) (pl:List (Int×Sl)) (ps:List (Int×Bs)):Prop where
 len:pl.length=ps.length
 at_:∀(i:Nat) (x:Int×Sl) (y:Int×Bs),pl[i]?=some x->ps[i]?=some y->x.1=y.1/\Bytes B x.2 y.2
theorem k0.ext {B d:PH} {pl:List (Int×Sl)} {ps:List (Int×Bs)} (h:k0 B pl ps) (x:Ext B d):k0 d pl ps:=⟨h.len,λi a b e f=>⟨(h.at_ i a b e f).1,(h.at_ i a b e f).2.ext x⟩⟩
theorem k0.snoc {B:PH} {pl:List (Int×Sl)} {ps:List (Int×Bs)} (h:k0 B pl ps) {a:Int} {s:Sl} {b:Bs} (j:Bytes B s b):k0 B (pl++[(a,s)]) (ps++[(a,b)]):=by
 refine⟨by simp[h.len],λi x y d f=>?_⟩
 by_cases e:i<pl.length
 ·rw[List.getElem?_append_left e] at d
  rw[List.getElem?_append_left (by rw[←h.len];exact e)] at f
  exact h.at_ i x y d f
 ·have hi:=(List.getElem?_eq_some_iff.1 d).1
  simp at hi
  have:i=pl.length:=by omega
  subst this
  rw[List.getElem?_append_right (Nat.le_refl _),Nat.sub_self] at d
  rw[h.len,List.getElem?_append_right (Nat.le_refl _),Nat.sub_self] at f
  simp at d f;subst d;subst f
  exact⟨rfl,j⟩
theorem k0.append {B:PH} {pl d:List (Int×Sl)} {ps f:List (Int×Bs)} (h:k0 B pl ps) (k:k0 B d f):k0 B (pl++d) (ps++f):=by
 refine⟨by simp[h.len,k.len],λi x y a b=>?_⟩
 by_cases e:i<pl.length
 ·rw[List.getElem?_append_left e] at a
  rw[List.getElem?_append_left (by rw[←h.len];exact e)] at b
  exact h.at_ i x y a b
 ·rw[List.getElem?_append_right (by omega)] at a
  rw[List.getElem?_append_right (by rw[←h.len];omega),←h.len] at b
  exact k.at_ _ x y a b
def lO (c:bC) (aQ:Bool) (n:Nat):List (Int×Bs):=(List.range n).map λ(k:Nat)=>(gC c aQ k 0,vL c aQ k)
theorem Hi (c:bC) (aQ:Bool) (n:Nat):lO c aQ (n+1)=lO c aQ n++[(gC c aQ n 0,vL c aQ n)]:=by simp[lO,List.range_succ]
theorem DH {aQ:Bool} {Q:Sl->PH->Prop} (h:aA H (aC B::L)) (K:Gm B g c) (w:bg c)
 (hQ:∀s pl b H',Ext B b->dT jt 2 b s pl->k0 b pl (lO c aQ (cR c).toNat)->aA H' (aC b::L)->Q s H'):sS g aQ H Q:=by
 have ap:=gE w
 obtain⟨ah,ai,aj,al,am,an⟩:=id w
 have ao:cR c=(c.1+14)/ 15:=rfl
 have main:∀v:Int,v=(if aQ then -1 else 0)->dg g H λy6 I=>bp (λ(f:Sl×Int) (j:PH) (m:(Sl×Int)->PH->Prop)=>
  aJ (decide (f.2<y6)) (cU g j λF R=>bV R (row [i64 v] 3) 1 λdF S=>fu dF (if 15<(IntKind.wrap .i64 (F.1-(IntKind.wrap .i64 (f.2*15)))) then 15 else(IntKind.wrap .i64 (F.1-(IntKind.wrap .i64 (f.2*15))))) S λG T=>
   nq G T λa ar U=>kI g aQ f.2 0 U λag V=>bV V (row [i64 ag,Sl.v a] 144) 1 λd W=>fG W 144 2 32 [i64 0,.slice none 0 0] f.1 d λo X=>m (o,IntKind.wrap .i64 (f.2+1)) X)
  (Q f.1 j)) (Sl.nil,0) I:=by
  intro v hv
  refine fB (K.ext h.base) w λH1 x1=>?_
  refine ax (cR c).toNat (λi st Hk=>st.2=(i:Int)/\∃b pl,Ext B b/\k0 b pl (lO c aQ i)/\aA Hk (aC b::aq jt 2 st.1 pl::L)) ⟨rfl,B,[],.refl B,⟨rfl,λi x y O=>by simp at O⟩,aA.up (h.ext x1:aA H1 (aC B::_)).zG⟩ ?_
  rintro i ⟨st,_⟩ H2 again hi ⟨e,b,pl,z,M,u⟩ ac
  simp only at e u;subst e
  refine aL (λc2=>?_) (λc2=>?_)
  ·have ad:i<(cR c).toNat:=by simp at c2;omega
   refine lH ((K.ext z).ext u.base) λH3 x3=>sX (enc:=i64) (l:=[v]) (u.ext x3) rfl rfl λdF B4 H4 q N h4=>?_
   have hn:1<=c.1-(i:Int)*15:=by omega
   have en:(if 15<IntKind.wrap .i64 (c.1-IntKind.wrap .i64 ((i:Int)*15)) then 15 else IntKind.wrap .i64 (c.1-IntKind.wrap .i64 ((i:Int)*15)))=(((min (c.1-i*15) 15).toNat:Nat):Int):=by
    rw[bo (x:=(i:Int)*15) (by omega) (by omega),bo (by omega) (by omega)];split<;>omega
   dsimp only
   rw[en]
   refine Ig.Bh (N.ext h4.base) (by omega) (by omega) λG I aa=>?_
   have h5:=h4.made aa
   have hm:kP (List.replicate (min (c.1-i*15) 15).toNat v)=true:=by
    simp only[kP,List.length_replicate,Bool.and_eq_true,decide_eq_true_eq,List.all_eq_true,KM.bY]
    refine⟨by omega,λx O=>?_⟩
    rw[(List.mem_replicate.1 O).2,hv];split<;>omega
   refine Pa.dt (l:=List.replicate (min (c.1-i*15) 15).toNat v) (h5.list (enc:=i64) 1 rfl) (by simp;omega) (λ_ a H6 ab=>?_) (λhf=>absurd hm (by rw[hf];simp))
   have h6:=(h5:aA I (aC B4::_)).made ab
   refine gX h6 λt r P h7=>?_
   refine pI ((K.ext (z.trans (q.trans r))).ext h7.base) w ⟨by omega,by omega⟩ (.inl rfl) λH8 x8=>?_
   have h8:=(h7.ext x8:aA H8 (aC t::_)).ak
   refine IP (enc:=jt) (sz:=2) (x:=(gC c aQ i 0,a)) h8 rfl λd Y h9 x9=>?_
   have C:=aA.up (show aA Y (aC t::(aq jt 2 st pl::L++[aq jt 2 d [(gC c aQ i 0,a)]])) from h9)
   have n:=(C.get 1 rfl:bT jt 2 Y d _)
   have ae:pl.length=i:=by rw[M.len];simp[lO]
   refine sQ yN (by decide) C 2 rfl (n.cells yN (by decide)) n.len Pz rfl (by rw[ae];simp;omega) λo j Z=>?_
   rw[bH (by omega)]
   refine ac ad _ _ ⟨rfl,t,pl++[(gC c aQ i 0,a)],z.trans (q.trans r),?_,(show aA j (aC t::aq jt 2 d _::aq jt 2 o (pl++[(gC c aQ i 0,a)])::L) from Z).ak⟩
   rw[Hi]
   refine k0.snoc (M.ext (q.trans r)) ?_
   rw[vL,←hv];exact P
  ·have:i=(cR c).toNat:=by simp at c2;omega
   subst this
   obtain⟨B3,E,af,h3⟩:=u.fz
   exact hQ st pl B3 H2 (z.trans E) (af.jv yN) (M.ext E) h3
 refine aF (aL (λJ=>main (-1) (by rw[J];rfl)) (λJ=>main 0 (by rw[J];rfl)))
end
end jo
end
section
namespace Ge
open Go Go.Kx KM
theorem Oc {H B:PH} {L:List Ob} {c:bC} {Q:Option Addr->Int->PH->Prop} (h:aA H (aC B::L)) (t:bg c) (s:∀p d H',Ext B d->Gm d p c->aA H' (aC d::L)->Q p 0 H'):pU c H Q:=by
 obtain⟨m,e,n,o,q,r⟩:=t
 have w:∀{x lo hi:Int},lo<=x->x<=hi->(decide (lo<=x)&&decide (x<=hi))=true:=λh l=>by simp[h,l]
 refine fM h λa1 v H1 f a b=>?_
 have a:=a.ext b.base
 refine aa (x:=c.1) a rfl (bD ?_)
 rw[w m e]
 refine aF (aE rfl (aa (x:=c.2.1) a rfl (bD ?_)))
 rw[w n o]
 refine aF (aE rfl (aa (x:=c.2.2) a rfl (bD ?_)))
 rw[w q r]
 exact aE rfl (fF (enc:=tw) (x:=c) a rfl (fM b λj y z i u e=>s _ _ _ (f.trans i) ⟨j,rfl,u⟩ e))
end Ge
namespace jo
open Go Go.Kx KM Rw Cr It Ds Ge Rg
def lj (x:Int×Bs):Int×List Bs:=(x.1,chunks x.2 (x.2.length/ 64))
def uF (c:bC) (id aO:Int):List (Int×Bs):=
 (lO c false (cR c).toNat++lO c true (cR c).toNat)++[(bN c 0,tE c (eH c aO)),(bN c 1,List.replicate (64*(cD c).toNat) 0)]++[(1-aO% 2,List.replicate 64 0),(aO% 2,iS c id aO)]
theorem ze {b:Bs} (h:b.length=64):chunks b (b.length/ 64)=[b]:=by
 rw[h]
 show[b.take 64]=[b]
 rw[List.take_of_length_le (by omega)]
theorem Bi:∀n:Nat,chunks (List.replicate (64*n) (0:Int)) n=List.replicate n (List.replicate 64 0)
 | 0=>rfl
 |n+1=>by
  rw[chunks,List.take_replicate,List.drop_replicate,show 64*(n+1)- 64=64*n by omega,Bi n,show min 64 (64*(n+1))=64 by omega];exact List.replicate_succ.symm
theorem MZ {c:bC} (b:bg c) (aQ:Bool) (k:Nat) (hk:(k:Int)<cR c):kP (List.replicate (min (c.1-k*15) 15).toNat (if aQ then -1 else 0))=true:=by
 simp only[kP,List.length_replicate,Bool.and_eq_true,decide_eq_true_eq,List.all_eq_true,KM.bY]
 refine⟨by omega,λx a=>?_⟩
 rw[(List.mem_replicate.1 a).2];split<;>omega
theorem Aj {c:bC} (a:bg c) {aO:Int} (hm:1<=aO/\aO<=2147483647):iU c (eH c aO)=true:=by
 have r:=gE a
 obtain⟨j,l,m,n,o,q⟩:=id a
 have f:(eH c aO).cG.length=c.2.1.toNat:=by
  show(List.replicate (c.2.1.toNat- 1) ((0,0):cz)).length+1=_
  rw[List.length_replicate];omega
 rw[xq]
 have e1:uV (eH c aO)=true:=by simp[uV,eH,bE]
 have e2:iT c (eH c aO).pos=true:=by
  simp only[iT,eH,Bool.and_eq_true,KM.bY];omega
 have e3:iq (eH c aO).lb (cR c)=true:=by
  simp only[iq,eH,List.length_replicate,Bool.and_eq_true,beq_iff_eq,List.all_eq_true]
  exact⟨by omega,λx h=>by rw[(List.mem_replicate.1 h).2];rfl⟩
 have d:iq (eH c aO).lo (cR c)=true:=e3
 have e5:((eH c aO).cG.length:Int)=c.2.1:=by rw[f];omega
 have e:ry (eH c aO).pos.1 0 (eH c aO).cG=true:=by
  rw[uE]
  intro i u hu
  cases i with
  |zero=>simp[eH] at hu;subst hu;rfl
  |succ i=>
   have b:(List.replicate (c.2.1.toNat- 1) ((0,0):cz))[i]?=some u:=by simpa[eH] using hu
   have:=(List.mem_replicate.1 (List.mem_of_getElem? b)).2
   subst this
   simp[wx,bE,eH];omega
 simp only[e1,e2,e3,d,e5,e,beq_self_eq_true,Bool.and_self]
structure GU (c:bC) (x:Int×Bs):Prop where
 n:∃n:Nat,n<=4/\x.2.length=64*n/\0<=x.1/\x.1+n<=all c
 tU:bU x.2
theorem KQ {c:bC} {aQ:Bool} {n:Nat} {x:Int×Bs} (h:x∈lO c aQ n):∃k:Nat,k<n/\x=(gC c aQ k 0,vL c aQ k):=by
 simp only[lO,List.mem_map,List.mem_range] at h
 obtain⟨k,hk,rfl⟩:=h
 exact⟨k,hk,rfl⟩
theorem pB {c:bC} (f:bg c):base c+192<=all c:=by
 have d:=f.2.2.1
 have e:=f.2.2.2.2.1
 have:=GF (a:=8) (b:=24) (A:=c.2.1) (B:=c.2.2) (by omega) d (by omega) e
 simp only[all];omega
theorem Od {c:bC} (b:bg c) {id aO:Int} (hm:eG c id aO=true):∀x∈uF c id aO,GU c x:=by
 have i:=gE b
 have j:=kT b
 have h:=pB b
 have l:base c=2+2*(cD c+2*cR c):=rfl
 have f:=(Su.jF hm).2.2
 have d:∀(aQ:Bool) (x:Int×Bs),x∈lO c aQ (cR c).toNat->GU c x:=λaQ x a=>by
  obtain⟨k,hk,rfl⟩:=KQ a
  have hm:=MZ b aQ k (by omega)
  refine⟨⟨1,by omega,Pa.len (by simp;omega),?_,?_⟩,Pa.tU⟩<;>(show _<=_;simp only[gC];split<;>omega)
 have e:=Aj b (aO:=aO) f
 intro x a
 simp only[uF,List.mem_append,List.mem_cons,List.not_mem_nil,or_false] at a
 rcases a with((a|a)|rfl|rfl)|rfl|rfl
 ·exact d _ _ a
 ·exact d _ _ a
 ·refine⟨⟨(cD c).toNat,by omega,zc b (parts e),?_,?_⟩,zd b (parts e)⟩<;>(show _<=_;simp only[bN];omega)
 ·refine⟨⟨(cD c).toNat,by omega,by simp,?_,?_⟩,yc _⟩<;>(show _<=_;simp only[bN];omega)
 ·exact⟨⟨1,by omega,by simp,by show(0:Int)<=1-aO% 2;omega,by show 1-aO% 2+((1:Nat):Int)<=_;omega⟩,yc _⟩
 ·exact⟨⟨1,by omega,Su.pt,by show(0:Int)<=aO% 2;omega,by show aO% 2+((1:Nat):Int)<=_;omega⟩,Su.wE hm⟩
theorem Mb (c:bC) (id aO:Int):(uF c id aO).length=2*(cR c).toNat+4:=by simp[uF,lO];omega
theorem Oe {c:bC} (b:bg c) {id aO:Int} (hm:eG c id aO=true):(uF c id aO).map lj=KA c id aO:=by
 have d:=Aj b (aO:=aO) (Su.jF hm).2.2
 have a:∀aQ:Bool,(lO c aQ (cR c).toNat).map lj=C1 c aQ:=λaQ=>by
  simp only[lO,C1,List.map_map]
  refine List.map_congr_left λk hk=>?_
  rw[List.mem_range] at hk
  show(gC c aQ k 0,chunks (vL c aQ k) ((vL c aQ k).length/ 64))=_
  rw[vL,ze (Pa.len (by simp;omega))]
 have e1:lj (bN c 0,tE c (eH c aO))=(bN c 0,chunks (tE c (eH c aO)) (cD c).toNat):=by
  show(_,chunks _ _)=_
  rw[zc b (parts d),show 64*(cD c).toNat/ 64=(cD c).toNat by omega]
 have e2:lj (bN c 1,List.replicate (64*(cD c).toNat) 0)=(bN c 1,List.replicate (cD c).toNat (List.replicate 64 0)):=by
  show(_,chunks _ _)=_
  rw[List.length_replicate,show 64*(cD c).toNat/ 64=(cD c).toNat by omega,Bi]
 have e3:lj (1-aO% 2,List.replicate 64 0)=(1-aO% 2,[List.replicate 64 0]):=by
  show(_,chunks _ _)=_
  rw[ze (by simp)]
 have e:lj (aO% 2,iS c id aO)=(aO% 2,[iS c id aO]):=by
  show(_,chunks _ _)=_
  rw[ze Su.pt]
 simp only[uF,KA,List.map_append,List.map_cons,List.map_nil,a,e1,e2,e3,e,List.append_assoc,List.cons_append,List.nil_append]
theorem vR {α:Type} {enc:α->List Value} {sz:Nat} {H B:PH} {L:List Ob} {l:List α} {cs:List Value} {e n:Nat} {K:Sl->PH->Prop} (h:aA H (aC B::L)) (d:cs=l.flatMap enc) (f:n=l.length) (b:∀r H',aA H' (aC B::aq enc sz r l::L)->K r H'):bV H (row cs e) n K:=by
 intro r H' a
 subst d;subst f
 exact b r H' (show aA H' (aC B::(L++[aq enc sz r l])) from h.new (O':=aq enc sz r l) (.lX a) (bT.vE a rfl rfl) (jr.gI a)).up
theorem XI {x:Int×Sl} {b:Addr} {H:PH} {K:Int×Sl->Prop} (d:bw H b 2=some (jt x)) (a:K x):aU jt H b 2 K:=⟨x,d,a⟩
section
variable {H B:PH} {L:List Ob} {k:Nat} {A:DA} {D:Dk} {p:Sl} {bs:Bs} {at':Int} {c:bC} {g:Option Addr}
theorem Eh (D:Dk) (l:List (Int×List Bs)) (x:Int×List Bs):D.yK (l++[x])=(D.yK l).kQ x.1 x.2:=by simp[Dk.yK]
theorem I6 {D:Dk} {k:Nat} (ok:cM k D) (q:all c<=D.now.length):∀(n:Nat) (ps:List (Int×Bs)),(∀x∈ps,GU c x)->n<=ps.length->cM (k+4*n) (D.yK ((ps.map lj).take n))/\(D.yK ((ps.map lj).take n)).now.length=D.now.length
 | 0,ps,_,_=>by simpa[Dk.yK] using ok
 |n+1,ps,r,o=>by
  obtain⟨s,l1⟩:=I6 ok q n ps r (by omega)
  have y:ps[n]?=some ps[n]:=List.getElem?_eq_getElem (by omega)
  have hm:=r _ (List.getElem_mem (by omega:n<ps.length))
  obtain⟨m,C,f,t,i⟩:=hm.n
  have w:(ps.map lj)[n]?=some (lj ps[n]):=by rw[List.getElem?_map,y];rfl
  rw[fk w,Eh]
  have d:(lj ps[n]).2.length=m:=by
   show(chunks _ _).length=m
   rw[Rc.jc,f];omega
  have:=BI (lj ps[n]).2 (at_:=(lj ps[n]).1) s t (by rw[d,l1];exact Int.le_trans i q) λb v=>by
   obtain⟨j,l⟩:=List.getElem?_of_mem v
   have z:j<m:=by rw[←d];exact(List.getElem?_eq_some_iff.1 l).1
   have e:(lj ps[n]).2=chunks ps[n].2 m:=by show chunks _ _=_;rw[f];congr 1;omega
   rw[e] at l
   obtain⟨e1,e2⟩:=a m ps[n].2 f j b l
   subst e1
   exact⟨e2,rL (pr hm.tU _) _⟩
  rw[d] at this
  exact⟨this.1.mono (by omega),this.2.trans l1⟩
where
 a:∀(n:Nat) (b:Bs),b.length=64*n->∀j x,(chunks b n)[j]?=some x->x=(b.drop (64*j)).take 64/\x.length=64
  | 0,b,_,j,x,h=>by simp[chunks] at h
  |n+1,b,o,0,x,h=>by
   simp[chunks] at h;subst h
   simp;omega
  |n+1,b,o,j+1,x,h=>by
   rw[chunks,List.getElem?_cons_succ] at h
   obtain⟨i,u⟩:=a n (b.drop 64) (by simp;omega) j x h
   refine⟨?_,u⟩
   rw[i,List.drop_drop];congr 2;omega
theorem Q4 {x:Int×Bs} {n:Nat} (h:x.2.length=64*n):(lj x).2=chunks x.2 n:=by show chunks _ _=_;rw[h];congr 1;omega
theorem Hj {id:Int} {Q:Int->Int->PH->Prop} (h:aA H (aC B::av A D::L)) (ok:cM k D) (hk:k+60< 2 ^ 29) (j:bg c) (hm:eG c id (cj D+1)=true) (hn:all c<=D.now.length)
 (hQ:∀A' T H',A'.a=A.a->Ext B T->cM (k+60) (wD c id D)->(wD c id D).now.length=D.now.length->aA H' (aC T::av A' (wD c id D)::L)->Q (cj D+1) 0 H'):ti (some A.a) c id H Q:=by
 have cc:=gE j
 have cd:=kT j
 have bL:=pB j
 have b9:base c=2+2*(cD c+2*cR c):=rfl
 obtain⟨_,ca,bE⟩:=Su.jF hm
 have bM:0<=cj D:=by
  unfold cj
  split
  ·next x G=>
   have key:∀{b:Bs} {y:bC×Int×Int},gT b=some y->1<=y.2.2:=λ{b y} w=>by
    simp only[gT] at w
    split at w
    ·next ac=>
     cases w
     simp only[Bool.and_eq_true] at ac
     exact(Su.jF ac.1).2.2.1
    ·cases w
   unfold cY at G
   split at G
   ·next y z w hz=>
    split at G<;>cases G
    ·have:=key w;show 0<=y.2.2;omega
    ·have:=key hz;show 0<=z.2.2;omega
   ·next y w hz=>cases G;have:=key w;show 0<=y.2.2;omega
   ·next z w hz=>cases G;have:=key hz;show 0<=z.2.2;omega
   ·cases G
  ·omega
 have bD:=Aj j (aO:=cj D+1) bE
 refine fM h λa1 B1 H1 bG r1 h1=>fF (enc:=tw) (x:=c) (r1.ext h1.base) rfl ?_
 refine Oc (c:=c) h1 j λg B2 H2 ag P h2=>?_
 refine aF (aE rfl (aF (aE rfl (aF (aE (decide_eq_false (by omega)) (aF (aE (decide_eq_false (by omega)) ?_)))))))
 refine Eb (i:=0) h2 rfl ?_
 refine zW (P.ext h2.base) j λH3 x3=>aE (decide_eq_false (by omega)) ?_
 refine Be (h2.ext x3) ok (by omega) (by omega) λaJ B4 H4 aN s0 s1 h4=>?_
 refine az h4 λb6 H5 h5=>bf (vs:=s2 aJ) h5 rfl rfl λH6 h6=>AZ h6 λB6 S r6 h6=>aE rfl ?_
 have r6:=r6.ext h6.base
 have l0:=o0 ok (at_:=0) (by omega)
 have l1:=o0 ok (at_:=1) (by omega)
 refine ic (by omega) (by omega) (aa (x:=aJ.1) r6 rfl (ic (by omega) (by omega) (aa (x:=aJ.2) r6 rfl ?_)))
 refine Su.choose_spec ((s0.ext S).ext h6.base) ((s1.ext S).ext h6.base) l0 l1 (sB ok (by omega)) (sB ok (by omega)) λH7 x7=>?_
 have em:(Su.vO (cY (D.sec 0) (D.sec 1))).1.2.2.2.2=cj D:=by
  unfold cj
  generalize cY (D.sec 0) (D.sec 1)=o
  rcases o with _|⟨⟨c',i',m'⟩,k'⟩<;>rfl
 refine az (h6.ext x7) λb7 H8 h8=>bf (vs:=Su.s5 (Su.vO (cY (D.sec 0) (D.sec 1))).1) h8 rfl rfl λH9 h9=>ay (x:=(Su.vO (cY (D.sec 0) (D.sec 1))).1.2.2.2.2) h9 rfl ?_
 have xb:Ext B B6:=bG.trans (ag.trans (aN.trans S))
 rw[em,bo (x:=cj D+1) (by omega) (by omega)]
 refine fF (enc:=tw) (x:=c) (((r1.ext ag).ext (aN.trans S)).ext h9.base) rfl ?_
 have h9:=h9.ak
 refine Su.dt hm λah bV a7=>gX (h9.made a7) λbO aK bm bt=>aE rfl ?_
 have P:=P.ext (aN.trans (S.trans aK))
 refine zb bt P j λsb ss bP bW r hS am=>?_
 refine Rg.dt ((P.ext r).ext am.base) j (hS.ext am.base) bD λK bX a8=>gX (am.made a8) λbQ E bn bu=>aE rfl ?_
 refine DH bu (P.ext (r.trans E)) j λad d bR bY F bd aB bv=>?_
 refine DH bv (P.ext (r.trans (E.trans F))) j λae e bS bZ s be aD bw=>?_
 refine sX (enc:=Sl.v) (l:=[ad,ae]) bw rfl rfl λce bU b0 f bb V=>?_
 have a3:d.length=(cR c).toNat:=by rw[aB.len];simp[lO]
 have aw:e.length=(cR c).toNat:=by rw[aD.len];simp[lO]
 refine Q3 (ls:=[(ad,d),(ae,e)]) (bb.ext V.base) (λq hq=>?_) (by simp) (by simp;omega) λcg b1 a9=>?_
 ·simp only[List.mem_cons,List.not_mem_nil,or_false] at hq
  rcases hq with rfl|rfl
  ·exact(bd.ext (s.trans f)).ext V.base
  ·exact(be.ext f).ext V.base
 have W:=V.made a9
 have M:=P.ext (r.trans (E.trans (F.trans (s.trans f))))
 refine qP (M.ext W.base) j (.inl rfl) (qP (M.ext W.base) j (.inr rfl) (tT (M.ext W.base) j ?_))
 rw[bo (x:=64*cD c) (by omega) (by omega)]
 refine F9 (enc:=u8) (x:=(0:Int)) W (by omega) (by omega) λJ b2 an=>gX an λai t bc an=>?_
 refine vR (enc:=jt) (sz:=2) (l:=[(bN c 0,K),(bN c 1,J)]) an rfl rfl λa5 bi aV=>?_
 have a6:bT jt 2 bi a5 _:=aV.get 1 rfl
 refine sQ yN (by decide) aV 2 rfl (a6.cells yN (by decide)) a6.len Pz rfl (by simp[a3,aw];omega) λaH aS I=>?_
 have I:aA aS (aC ai::aq jt 2 aH (([(ad,d),(ae,e)].map (·.2)).flatten++[(bN c 0,K),(bN c 1,J)])::av A D::L):=(show aA aS (aC ai::aq jt 2 a5 _::aq jt 2 aH _::av A D::L) from I).ak
 have br:([(ad,d),(ae,e)].map (·.2)).flatten=d++e:=by simp
 rw[br] at I
 have ap:=M.ext t
 refine aF ⟨by simp[sH],?_⟩
 have bq:Int.tmod (cj D+1) 2=(cj D+1)% 2:=Int.tmod_eq_emod_of_nonneg (by omega)
 rw[bq,bo (x:=1-(cj D+1)% 2) (by omega) (by omega)]
 refine uC (ap.ext I.base) (by omega) (uC (ap.ext I.base) (by omega) ?_)
 refine Cq (enc:=u8) (x:=(0:Int)) I λC bj ba cf=>?_
 have ao:=aA.up (show aA bj (aC ai::(aq jt 2 aH (d++e++[(bN c 0,K),(bN c 1,J)])::av A D::L++[aW u8 C (List.replicate 64 0)])) from ba)
 refine gX ao λaj u aQ ao=>?_
 refine vR (enc:=jt) (sz:=2) (l:=[(1-(cj D+1)% 2,C),((cj D+1)% 2,ah)]) ao rfl rfl λaG bk aX=>?_
 have aI:bT jt 2 bk aG _:=aX.get 1 rfl
 refine sQ yN (by decide) aX 2 rfl (aI.cells yN (by decide)) aI.len Pz rfl (by simp[a3,aw];omega) λbh bl X=>?_
 have X:=(show aA bl (aC aj::aq jt 2 aG _::aq jt 2 bh (d++e++[(bN c 0,K),(bN c 1,J)]++[(1-(cj D+1)% 2,C),((cj D+1)% 2,ah)])::av A D::L) from X).ak
 have U:k0 aj (d++e++[(bN c 0,K),(bN c 1,J)]++[(1-(cj D+1)% 2,C),((cj D+1)% 2,ah)]) (uF c id (cj D+1)):=by
  have p1:=((aB.ext (s.trans (f.trans (t.trans u)))).append (aD.ext (f.trans (t.trans u))))
  have p2:=(p1.snoc (a:=bN c 0) (bn.ext (F.trans (s.trans (f.trans (t.trans u)))))).snoc (a:=bN c 1) (bc.ext u)
  have p3:=(p2.snoc (a:=1-(cj D+1)% 2) aQ).snoc (a:=(cj D+1)% 2) (bm.ext (r.trans (E.trans (F.trans (s.trans (f.trans (t.trans u)))))))
  have bp:(64*cD c).toNat=64*(cD c).toNat:=by omega
  rw[bp] at p3
  simpa[uF] using p3
 have bI:Ext B aj:=xb.trans (aK.trans (r.trans (E.trans (F.trans (s.trans (f.trans (t.trans u)))))))
 generalize(d++e++[(bN c 0,K),(bN c 1,J)]++[(1-(cj D+1)% 2,C),((cj D+1)% 2,ah)])=pl at X U
 have N:=Od j hm
 have aP:=Mb c id (cj D+1)
 have ab:=I6 ok hn
 have aU:wD c id D=(D.yK (((uF c id (cj D+1)).map lj).take (uF c id (cj D+1)).length)).flush:=by
  rw[wD,←Oe j hm,List.take_of_length_le (by simp)]
 generalize b8:uF c id (cj D+1)=PP at U N aP aU
 obtain⟨aR,aM,hv,bx⟩:=X.fz
 have aZ:=hv.jv yN
 have U:=U.ext aM
 refine ax pl.length (λi st Hk=>st=(cj D+1,(i:Int))/\∃A' T,A'.a=A.a/\Ext aR T/\aA Hk (aC T::av A' (D.yK ((PP.map lj).take i))::L)) ⟨rfl,A,aR,rfl,.refl _,by simpa[Dk.yK] using bx⟩ ?_
 rintro i st b3 again hi ⟨rfl,A',T,eA,af,Y⟩ bz
 rw[aZ.bF]
 refine aL (λc2=>?_) (λc2=>?_)
 ·have ar:i<pl.length:=by simpa using c2
  have au:i<PP.length:=by rw[←U.len];exact ar
  refine ob ((aZ.ext af).ext Y.base) (by simp) (by simpa using ar) λbJ x G bB=>XI bB ?_
  simp only[Int.toNat_natCast] at G
  refine az Y λbK aT Z=>bf (vs:=jt x) Z rfl rfl λb4 O=>ay (x:=x.1) O rfl (ay (en:=Sl.v) (x:=x.2) O rfl ?_)
  have O:=O.ak
  have w:PP[i]?=some PP[i]:=List.getElem?_eq_getElem au
  obtain⟨ex,bA⟩:=U.at_ i x _ G w
  have a2:=N _ (List.getElem_mem au)
  obtain⟨m,cb,a0,h0,h1⟩:=a2.n
  obtain⟨R,l1⟩:=ab i PP N (by omega)
  rw[←eA]
  refine GJ (n:=m) O R (by omega) (bA.ext af) a0 a2.tU (by rw[ex];exact h0) (by rw[l1,ex];exact Int.le_trans h1 hn) λA2 B2 b5 al ag aY=>aE rfl ?_
  rw[bH (by omega)]
  have hs:(PP.map lj)[i]?=some (lj PP[i]):=by rw[List.getElem?_map,w];rfl
  refine bz ar _ _ ⟨rfl,A2,B2,al.trans eA,af.trans ag,?_⟩
  rw[fk hs,Eh,Q4 a0]
  rw[ex] at aY;exact aY
 ·have:i=pl.length:=by simp at c2;omega
  subst this
  rw[U.len] at Y
  obtain⟨R,l1⟩:=ab PP.length PP N (Nat.le_refl _)
  rw[←eA]
  refine yf (i:=0) Y rfl R (by omega) λA2 aT al Z=>?_
  have a4:=R.flush
  have l2:=nS R
  rw[←aU] at Z a4 l2
  exact hQ A2 T aT (al.trans eA) (bI.trans (aM.trans af)) (a4.mono (by omega)) (l2.trans l1) Z
theorem Bj {id:Int} {Q:Int->PH->Prop} (h:aA H (aC B::av A D::L)) (ok:cM k D) (hk:k+60< 2 ^ 29) (n:bg c) (hm:eG c id (cj D+1)=true) (q:all c<=D.now.length)
 (m:∀b d H',b.a=A.a->Ext B d->cM (k+60) (wD c id D)->(wD c id D).now.length=D.now.length->aA H' (aC d::av b (wD c id D)::L)->Q 0 H'):rB (some A.a) c id H Q:=
 fM h λa1 s H1 i r f=>fF (enc:=tw) (x:=c) (r.ext f.base) rfl (Hj f ok hk n hm q λb d H' e x o l j=>m b d H' e (i.trans x) o l j)
end
end jo
end
end Go.Proofs.YtbijlklgbfminaaGreat
