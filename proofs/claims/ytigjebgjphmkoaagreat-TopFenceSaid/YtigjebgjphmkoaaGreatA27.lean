import Derived.Test.YtigjebgjphmkoaaGreatA26
set_option linter.unusedVariables false
set_option linter.unusedSimpArgs false
namespace Go.Proofs.YtigjebgjphmkoaaGreat
open Tryz
section
namespace Ig
open Go Go.Kx KM
section
variable {T:Type} (qd:T->T->Bool)
theorem ze (l:List T) (k:Int) (v:T):(pX qd l k v).length=l.length:=by unfold pX;grind
theorem T6 (per:Int) (l:List T) (d:List Bool) (k:Int) (v:T):(zP qd per l d k v).length=d.length:=by unfold zP;grind
end
structure qU (n:Nat) (per:Int) (d:List Bool):Prop where
 n1:1<=n
 n2:n<=65536
 p1:1<=per
 p2:per<=65536
 d:(d.length:Int)=nP n per
theorem NU {n per:Int} (b:1<=n) (c:1<=per):1<=nP n per:=by
 unfold nP
 exact(Int.le_ediv_iff_mul_le (by omega)).2 (by omega)
theorem gI {n per:Int} (b:1<=n) (e:1<=per):nP n per<=n:=by
 unfold nP
 refine Int.ediv_le_of_le_mul (by omega) ?_
 have:n*per=n*(per- 1)+n:=by grind
 have c:1*(per- 1)<=n*(per- 1):=Int.mul_le_mul_of_nonneg_right b (by omega)
 omega
theorem HC {n per k:Int} (f:1<=per) (c:0<=k) (hk:k<nP n per):k*per<n:=by
 unfold nP at hk
 have b:(k+1)<=(n+per- 1)/per:=by omega
 have e:=(Int.le_ediv_iff_mul_le (by omega)).1 b
 grind
theorem Wo {n per k:Int} (c:1<=per) (b:0<=k) (hk:k<n):0<=k/per/\k/per<nP n per:=by
 refine⟨Int.ediv_nonneg b (by omega),?_⟩
 unfold nP
 have:k/per+1<=(n+per- 1)/per:=by
  refine(Int.le_ediv_iff_mul_le (by omega)).2 ?_
  have:=Int.ediv_mul_le k (show per≠0 by omega)
  grind
 omega
abbrev qD (s t:Sl) (per:Int):List Value:=[Sl.v s,.int .i64 per,Sl.v t]
theorem bK {k:Nat} (h:k< 2 ^ 60):IntKind.wrap .i64 ((k:Int)+1)=((k+1:Nat):Int):=by rw[bC (by omega) (by omega)];rfl
theorem KI {a b:Int} (c:0<=a):Int.tdiv a b=a/b:=by grind
theorem tK {d:List Bool} {k:Nat} (h:d.getD k false=false):jb d (k+1)=jb d k:=by simp only[jb,List.range_succ,List.filterMap_append,List.filterMap_cons,h];simp
theorem tL {d:List Bool} {k:Nat} (h:d.getD k false=true):jb d (k+1)=jb d k++[(k:Int)]:=by simp only[jb,List.range_succ,List.filterMap_append,List.filterMap_cons,h];simp
theorem CN {x:Int} (a:0<=x) (b:x< 18446744073709551616):IntKind.wrap .u64 x=x:=by
 have c:(2:Int) ^ IntKind.u64.bits=18446744073709551616:=rfl
 simp only[IntKind.wrap,c,IntKind.signed,Bool.false_and,Bool.false_eq_true,if_false]
 omega
theorem Z4 {n:Int} (b:0<=n) (e:n< 4294967296):jd .u64 n 4294967295=n:=by
 obtain⟨k,rfl⟩:=Int.eq_ofNat_of_zero_le b
 have c:(BitVec.ofInt 64 (k:Int)&&&BitVec.ofInt 64 4294967295).toNat=k:=by
  rw[BitVec.toNat_and]
  have e2:(BitVec.ofInt 64 4294967295).toNat=2 ^ 32- 1:=rfl
  rw[e2,Nat.and_two_pow_sub_one_eq_mod]
  grind
 show IntKind.u64.wrap ((BitVec.ofInt 64 (k:Int)&&&BitVec.ofInt 64 4294967295).toNat:Int)=_
 rw[c,CN (by omega) (by omega)]
theorem Yq {n:Int} (b:0<=n) (c:n< 4294967296):gy .u64 n 32=0:=by
 simp only[gy,IntKind.bits]
 grind
theorem mul_one {n:Int} (b:0<=n) (c:n< 4294967296) {H:PH} {Q:Int->Int->PH->Prop} (f:Q 0 n H):zL 1 n H Q:=by
 have e:jd .u64 0 4294967295=0:=rfl
 have e1:jd .u64 1 4294967295=1:=rfl
 have f0:gy .u64 0 32=0:=rfl
 have f1:gy .u64 1 32=0:=rfl
 have g:IntKind.wrap .u64 0=0:=rfl
 have wn:IntKind.wrap .u64 n=n:=CN b (by omega)
 unfold zL yT
 simp only[e1,f1,Z4 b c,Yq b c,Int.one_mul,Int.zero_mul,Int.mul_zero,g,wn,Int.add_zero,Int.zero_add,e,f0]
 exact f
abbrev T:=Int
abbrev E:T->Value:=Value.int .i64
def nz:T:=0
theorem RN (x:T):cg (E x)=true:=rfl
section
variable {H B:PH} {L:List Ob} {a:Addr} {s t:Sl} {per:Int} {l:List T} {d:List Bool}
theorem Ea {r:Sl} {v:T} {n:Nat} {Q:Sl->PH->Prop} (p:cL E H r [v]) (M:1<=n) (N:n<=65536) (C:∀s H',aA H' [aC H,aS E s (List.replicate n v)]->Q s H'):gw r n H Q:=by
 have D:(r.len:Int)=1:=p.bL
 refine aE (aF (by simp) ?_)
 rw[D,CN (by omega) (by omega),CN (by omega) (by omega)]
 refine mul_one (by omega) (by omega) (aE (aF (by decide) (aE (aF (by simp;omega) ?_))))
 rw[bC (by omega) (by omega)]
 refine YD (enc:=E) (x:=nz) (aA.start H) (by omega) (by omega) λq H1 g F=>V8 g 1 rfl (p.ext F) RN λJ f=>?_
 rw[Int.toNat_natCast] at f
 have A:(min [v].length (List.replicate n nz).length:Nat)=1:=by simp;omega
 rw[Int.toNat_natCast,A]
 have e1:[v].take (List.replicate n nz).length++(List.replicate n nz).drop [v].length=List.replicate 1 v++List.replicate (n- 1) nz:=by
  grind
 rw[e1] at f
 refine Bk (λm st y=>∃k z,st=((k:Nat):Int)/\m=n-k/\1<=k/\k<=n/\List.length z=n-k/\aA y [aC H,aS E q (List.replicate k v++z)]) (n- 1) (by grind) ?_
 rintro m st w again ⟨k,z,rfl,rfl,G,I,e,b⟩ i
 have o:(q.len:Int)=n:=by rw[(b.list (enc:=E) 1 rfl).bL];simp[e];omega
 rw[o]
 have hlen:(List.replicate k v++z).length=n:=by simp[e];omega
 refine aM (λc=>?_) (λc=>?_)
 ·have j:k<n:=by simpa using c
  refine I9 b 1 rfl (by omega) (by omega) (by omega) λ_=>I9 b 1 rfl (by omega) (by omega) (by omega) λu=>?_
  simp only[Int.toNat_natCast,Int.toNat_zero,List.drop_zero,Nat.sub_zero] at u ⊢
  refine z4 b 1 rfl (by omega) (by omega) u RN λK h=>?_
  rw[TL j rfl e] at h
  have e2:min ((List.replicate k v++z).take k).length (n-k)=min k (n-k):=by rw[List.length_take,hlen];omega
  rw[e2,bC (by omega) (by omega)]
  exact i (n-(k+min k (n-k))) _ _ (by omega) ⟨k+min k (n-k),_,by push_cast;rfl,rfl,by omega,by omega,by rw[List.length_drop,e];omega,h⟩
 ·have:k=n:=by simp at c;omega
  subst this
  have:z=[]:=List.length_eq_zero_iff.1 (by omega)
  subst this
  rw[List.append_nil] at b
  exact C q w b
theorem fO {n per:Int} {v:T} {Q:Option Addr->PH->Prop} (g:¬(1<=n/\n<=65536/\1<=per/\per<=65536)->Q none H)
 (f:(1<=n/\n<=65536/\1<=per/\per<=65536)->∀a s t H',aA H' [aC H,aS E s (List.replicate n.toNat v),aS Value.bool t (List.replicate (nP n per).toNat false),aJ a (qD s t per)]->Q (some a) H'):oa n per v H Q:=by
 by_cases b:1<=n/\n<=65536/\1<=per/\per<=65536
 ·refine aE (aF (by simp;omega) (aE (aF (by simp;omega) (aE (aF (by simp;omega) (aF (by simp;omega) ?_))))))
  have y:=NU b.1 b.2.2.1
  have p:=gI b.1 b.2.2.1
  have e:IntKind.wrap .i64 (Int.tdiv (IntKind.wrap .i64 ((IntKind.wrap .i64 (n+per))- 1)) per)=nP n per:=by
   rw[bC (x:=n+per) (by omega) (by omega),bC (x:=n+per- 1) (by omega) (by omega),KI (by omega)]
   exact bC (by show -9223372036854775808<=nP n per;omega) (by show nP n per< 9223372036854775808;omega)
  rw[e]
  refine⟨by omega,⟨by omega,Int.le_refl _,by omega⟩,DE (enc:=E) (x:=v) (aA.start H) λr H1 h z=>?_⟩
  obtain⟨N,rfl⟩:=Int.eq_ofNat_of_zero_le (show 0<=n by omega)
  refine Ea (h.list 1 rfl) (by omega) (by omega) λs u j=>?_
  have k:=h.aG j
  refine Fj (enc:=Value.bool) (x:=false) k λt w m A=>lW m λa i o C=>f b a s t i (o.pick [0,2,3,4] (by decide) (by simp) (by simp))
 ·have q:=g b
  refine aE (aM (λc=>aE (aW rfl (aE (aW rfl (aW rfl q))))) (λc=>?_))
  refine aE (aM (λc2=>aE (aW rfl (aW rfl q))) (λc2=>?_))
  refine aE (aM (λc3=>aW rfl q) (λc3=>aW (by grind) q))
theorem zf {Q:Int->PH->Prop} (r:aa H a (qD s t per)) (c:(s.len:Int)=l.length) (b:Q l.length H):jY (some a) H Q:=by
 refine aF rfl (aD (aX (x:=s) r rfl ?_))
 grind
theorem fc {Q:Int->PH->Prop} (r:aa H a (qD s t per)) (c:(t.len:Int)=d.length) (b:Q d.length H):jx (some a) H Q:=by
 refine aF rfl (aD (aX (x:=t) r rfl ?_))
 grind
theorem dK {i:Int} {Q:T->Bool->PH->Prop} (r:aa H a (qD s t per)) (e:cL E H s l) (h:∀x,0<=i->i<l.length->l[i.toNat]?=some x->Q x true H) (b:¬(0<=i/\i<l.length)->Q nz false H):gL (some a) i H Q:=by
 refine aE (aM (λc=>aW rfl (b (by simp at c;omega))) (λc=>zf r e.bL ?_))
 refine aM (λc2=>b (by simp at c2;omega)) (λc2=>?_)
 have f:0<=i:=by simpa using c
 have g:i<l.length:=by grind
 exact aD (aX (x:=s) r rfl (dm e f g (by grind)))
theorem KJ {k:Int} {v:T} {Q:Bool->PH->Prop} (h:aA H L) (r:aa H a (qD s t per)) (i j:Nat) (hi:L[i]?=some (aS E s l)) (o:L[j]?=some (aS Value.bool t d)) (n:i≠j) (ok:qU l.length per d)
 (g:∀H',aA H' ((L.set i (aS E s (pX qd l k v))).set j (aS Value.bool t (zP qd per l d k v)))->Q (decide (0<=k/\k<l.length)) H'):iN (some a) k v H Q:=by
 have ss:∀{α:Type} {L:List α} {i:Nat} {O:α},L[i]?=some O->L.set i O=L:=λ{α L i O} h=>by
  apply List.ext_getElem?
  grind
 have stay:uv qd l k v=false->Q (decide (0<=k/\k<l.length)) H:=λe=>by
  have:=g H
  rw[pX,zP,if_neg (by simp[e]),if_neg (by simp[e]),ss hi,ss o] at this
  exact this h
 have z:=h.list i hi
 refine dK r z (λx f m p=>?_) (λD=>?_)
 ·have b:decide (0<=k/\k<(l.length:Int))=true:=(by grind)
  rw[b] at g stay
  refine aE (aW rfl ?_)
  refine aE (aM (λc=>?_) (λc=>stay ?_))
  ·have e:uv qd l k v=true:=by rw[uv,b,p];exact c
   rw[pX,zP,if_pos e,if_pos e] at g
   have y:=Wo ok.p1 f m
   have:=ok.d;have:=ok.n2;have:=ok.p1
   have A:=Int.ediv_le_self per f
   refine aD (aX (x:=s) r rfl (aD (aX (x:=t) r rfl (aD (aX (x:=per) r rfl ⟨by omega,?_⟩)))))
   refine uk h i hi f m rfl λC u=>?_
   rw[KI f,bC (by omega) (by omega)]
   exact uk u j (by rw[List.getElem?_set_ne n];exact o) y.1 (by omega) rfl λq w=>g q w
  ·rw[uv,b,p];exact c
 ·have b:decide (0<=k/\k<(l.length:Int))=false:=(by grind)
  rw[b] at stay
  refine aE (aF rfl (aE (aF rfl (stay ?_))))
  rw[uv,b];rfl
theorem I5 {γ:Type} {c0:Addr} {Y:List Value->γ->PH->(Nat->γ->PH->Prop)->Prop} {g0:γ} {Q:Nat->γ->PH->Prop} (I:Nat->γ->PH->Prop) (hd:d.length<=65536)
 (e:∀k g H,I k g H->cellAt H c0=some (.pointer (some a))/\aa H a (qD s t per)/\cL Value.bool H t d) (m:I 0 g0 H)
 (skip:∀k g H,k<d.length->I k g H->d.getD k false=false->I (k+1) g H)
 (step:∀k g H K,k<d.length->I k g H->d.getD k false=true->(∀b H',I (k+1) b H'->K 0 b H')->(∀j b H',j≠0->Q j b H'->K j b H')->Y [.int .i64 k] g H K)
 (fin:∀g H,I d.length g H->Q 0 g H):oB c0 Y g0 H Q:=by
 obtain⟨i,r0,l0⟩:=e _ _ _ m
 refine⟨some a,i,fc r0 l0.bL ?_⟩
 refine av d.length (λk st h=>∃g,st=((k:Int),(0,g))/\I k g h) (by grind) ?_
 rintro k st H1 again hk ⟨g,rfl,hi⟩ p
 obtain⟨e1,r1,l1⟩:=e _ _ _ hi
 refine aM (λc=>?_) (λc=>?_)
 ·have f:k<d.length:=by simpa using c
  have u:=bK (k:=k) (by omega)
  refine⟨some a,e1,aD (aX (x:=t) r1 rfl (dm l1 (by omega) (by omega) λx o=>?_))⟩
  rw[Int.toNat_natCast] at o
  have q:d.getD k false=x:=by grind
  refine aE (aM (λc1=>⟨rfl,?_⟩) (λc1=>aF rfl ?_))
  ·refine step k g H1 _ f hi (by grind) (λb H' r=>aF rfl ?_) (λj b H' v n=>aW (by grind) n)
   grind
  grind
 grind
end
end Ig
end
section
namespace jQ
open Go Go.Kx KM Rw Cr It Ds Ge Rg
abbrev k0 (x:Int×Sl):List Value:=[i64 x.1,Sl.v x.2]
theorem Ai (x:Int×Sl):(k0 x).length=2:=rfl
theorem Vk (x:Int×Sl):(k0 x).all cg=true:=rfl
section
variable {H B:PH} {L:List Ob} {k:Nat} {A:DA} {D:Dk} {p:Sl} {bs:Bs} {at':Int} {c:ax} {g:Option Addr}
theorem Z5 {n:Nat} {Q:Sl->PH->Prop} (o:n<=2 ^ 20) (f:∀r H',aA H' [aC H,au k0 2 r []]->Q r H'):eW Sl.nil n H Q:=by
 have j:IntKind.wrap .i64 (((Sl.nil.cap:Nat):Int)-((Sl.nil.len:Nat):Int))=0:=rfl
 have e1:IntKind.wrap .i64 ((n:Int)- 0)=n:=by rw[cK (by omega) (by omega)];omega
 unfold eW
 rw[j,e1]
 refine aE (aF (by simp) (aE (aM (λc=>?_) (λc=>?_))))
 ·have m:0<n:=by simpa using c
  refine⟨Sl.nil,⟨by decide,by decide,by decide,by decide,rfl⟩,by omega,by simp;omega,by decide,by simp;omega,[],rfl,λb e l h=>?_⟩
  simp only[Int.toNat_natCast,Nat.zero_add] at h ⊢
  refine⟨_,⟨Int.le_refl _,Int.le_refl _,by simp,h,rfl⟩,f _ _ ((aA.start H).new (O':=au k0 2 _ []) (Ext.bQ l) (.inr ⟨b,e,242,cN n [.int .i64 0,.slice none 0 0]++cN (e-n) [.int .i64 0,.slice none 0 0],?_,?_,?_⟩) (λc i=>?_))⟩
  ·simp only[Sl.cut,List.length_nil,Nat.zero_add]
   rw[if_neg (by simp;omega)]
   simp[fV]
  ·simp only[List.length_append,qG,List.length_cons,List.length_nil];omega
  ·simp
  ·obtain⟨a,d,rfl⟩:=i
   simp only[Sl.cut] at d
   rw[if_neg (by simp;omega)] at d
   simp[fV] at d
   grind
 ·exact f Sl.nil H (aA.start H).Bt
theorem Wp {ls:List (Sl×List (Int×Sl))} {Q:Sl->PH->Prop} (n:cL Sl.v H p (ls.map (·.1))) (w:∀q∈ls,fM k0 2 H q.1 q.2) (J:ls.length< 2 ^ 20) (E:(ls.map (·.2)).flatten.length<=2 ^ 20) (C:∀r H',aA H' [aC H,au k0 2 r (ls.map (·.2)).flatten]->Q r H'):fk p H Q:=by
 have hlen:=n.bL
 rw[List.length_map] at hlen
 have d:∀k,((ls.take k).map (·.2)).flatten.length<=2 ^ 20:=λk=>by
  refine Nat.le_trans ?_ E
  have:ls.map (·.2)=(ls.take k).map (·.2)++(ls.drop k).map (·.2):=by rw[←List.map_append,List.take_append_drop]
  rw[this,List.flatten_append,List.length_append];omega
 have a:∀{k:Nat} {q:Sl×List (Int×Sl)},ls[k]?=some q->((ls.take (k+1)).map (·.2)).flatten=((ls.take k).map (·.2)).flatten++q.2:=λ{k q} h=>by rw[gk h];simp
 refine av ls.length (λk st m=>st=((((ls.take k).map (·.2)).flatten.length:Int),(k:Int))/\m=H) ⟨by simp,rfl⟩ ?_
 rintro k st H1 again hk ⟨rfl,rfl⟩ x
 rw[hlen]
 refine aM (λc=>aE ?_) (λc=>?_)
 ·have i:k<ls.length:=by simpa using c
  refine dm n (by omega) (by simp;omega) λs j=>?_
  rw[Int.toNat_natCast,List.getElem?_map] at j
  obtain⟨q,f,rfl⟩:=Option.map_eq_some_iff.1 j
  have b:=d k
  have o:=d (k+1)
  rw[a f,List.length_append] at o
  have e:=(w q (List.mem_of_getElem? f)).bL
  dsimp only
  rw[e,cK (by omega) (by omega)]
  refine aF (by simp;omega) ?_
  rw[bK (by omega)]
  exact x i _ _ ⟨by rw[a f,List.length_append];push_cast;rfl,rfl⟩
 ·have:k=ls.length:=by simp at c;omega
  subst this
  refine Z5 (d ls.length) λr0 G b=>?_
  refine av ls.length (λk st m=>st.2=(k:Int)/\aA m [aC H1,au k0 2 st.1 ((ls.take k).map (·.2)).flatten]) ⟨rfl,by simpa using b⟩ ?_
  rintro k ⟨st,_⟩ y u F ⟨e,b⟩ t
  simp only at e b;subst e
  refine aM (λc2=>?_) (λc2=>?_)
  ·have i:k<ls.length:=by simpa using c2
   refine dm (n.ext b.base) (by omega) (by simp;omega) λs j=>?_
   rw[Int.toNat_natCast,List.getElem?_map] at j
   obtain⟨q,f,rfl⟩:=Option.map_eq_some_iff.1 j
   have o:=d (k+1)
   rw[a f,List.length_append] at o
   have l:=(w q (List.mem_of_getElem? f)).ext b.base
   refine uP Ai (by decide) b 1 rfl (l.cells Ai (by decide)) l.1 Vk rfl (by omega) λr I z=>?_
   rw[bK (by omega)]
   exact t i _ _ ⟨rfl,by rw[a f];exact z⟩
  ·have:k=ls.length:=by simp at c2;omega
   subst this
   rw[List.take_length] at b
   exact C st y b
theorem CM {aN:Int} {Q:uZ->PH->Prop} (h:aA H (aC B::L)) (y:Gm B g c) (r:bE c)
 (O:∀sb ss i H',Ext B i->Ah i sb sb ss (cY c aN)->aA H' (aC i::L)->Q (fJ (cY c aN) sb sb ss) H'):xJ g aN H Q:=by
 have ae:=gI r
 obtain⟨Y,Z,aa,ab,ac,ad⟩:=id r
 obtain⟨S,t⟩:=Int.eq_ofNat_of_zero_le (show 0<=bc c by omega)
 have q:(bc c).toNat=S:=by omega
 refine bG h λa1 H1 v=>fc (y.ext v.base) r λF U=>?_
 rw[t]
 refine Ez (enc:=i64) (x:=(0:Int)) (v.ext U:aA F (aC B::_)) (by omega) (by omega) λb H3 d=>iW d λl e C d=>?_
 refine mr ((y.ext e).ext d.base) λH4 V=>?_
 have J:=d.ext V
 refine mkN (enc:=bf) (sz:=2) (x:=(0,0)) (n:=c.2.1) (by omega) (by omega) λa s W T E=>?_
 have K:aA s (aC l::au bf 2 a (List.replicate c.2.1.toNat (0,0))::aJ a1 (dp fw)::L):=(show aA s (aC l::(aJ a1 (dp fw)::L++[au bf 2 a (List.replicate c.2.1.toNat (0,0))])) from J.new (O':=au bf 2 a (List.replicate c.2.1.toNat (0,0))) W E T).up
 refine sk E (by decide) (by simp;omega) λX u el=>?_
 have hu:u=(0,0):=by
  have:=el.get
  grind
 subst hu
 refine Dx nL ((1,0):cJ) (j:=0) K 1 rfl el (by decide) rfl rfl λG h6=>?_
 have e6:(List.replicate c.2.1.toNat ((0,0):cJ)).set (0:Int).toNat (1,0)=(1,0)::List.replicate (c.2.1.toNat- 1) (0,0):=by
  obtain⟨m,em⟩:∃m,c.2.1.toNat=m+1:=⟨c.2.1.toNat- 1,by omega⟩
  grind
 have M:aA G (aC l::au bf 2 a ((1,0)::List.replicate (c.2.1.toNat- 1) (0,0))::aJ a1 (dp fw)::L):=by grind
 obtain⟨o,f,R,N⟩:=M.fz
 have P:Ah o b b a (cY c aN):=by
  have z:gR o b (List.replicate (bc c).toNat 0):=by rw[q];exact C.ext f
  exact⟨z,z,R.lX nL⟩
 refine cF (vs:=dp (fJ (cY c aN) b b a)) N rfl rfl λI w=>cQ (x:=fJ (cY c aN) b b a) w rfl rfl ?_
 exact O b a o I (e.trans f) P w.aq
structure mY (B:PH) (pl:List (Int×Sl)) (ps:List (Int×Bs)):Prop where
 len:pl.length=ps.length
 at_:∀(i:Nat) (x:Int×Sl) (y:Int×Bs),pl[i]?=some x->ps[i]?=some y->x.1=y.1/\Bytes B x.2 y.2
theorem mY.ext {B d:PH} {pl:List (Int×Sl)} {ps:List (Int×Bs)} (h:mY B pl ps) (x:Ext B d):mY d pl ps:=⟨h.len,λi a b e f=>⟨(h.at_ i a b e f).1,(h.at_ i a b e f).2.ext x⟩⟩
theorem mY.snoc {B:PH} {pl:List (Int×Sl)} {ps:List (Int×Bs)} (h:mY B pl ps) {a:Int} {s:Sl} {b:Bs} (j:Bytes B s b):mY B (pl++[(a,s)]) (ps++[(a,b)]):=by
 refine⟨by simp[h.len],λi x y d f=>?_⟩
 by_cases e:i<pl.length
 ·rw[List.getElem?_append_left e] at d
  rw[List.getElem?_append_left (by rw[←h.len];exact e)] at f
  exact h.at_ i x y d f
 ·have hi:=(List.getElem?_eq_some_iff.1 d).1
  simp at hi
  have:i=pl.length:=by omega
  subst this
  rw[List.getElem?_append_right (Nat.le_refl _),Nat.sub_self] at d
  rw[h.len,List.getElem?_append_right (Nat.le_refl _),Nat.sub_self] at f
  grind
theorem mY.append {B:PH} {pl d:List (Int×Sl)} {ps f:List (Int×Bs)} (h:mY B pl ps) (k:mY B d f):mY B (pl++d) (ps++f):=by
 refine⟨by simp[h.len,k.len],λi x y a b=>?_⟩
 by_cases e:i<pl.length
 ·rw[List.getElem?_append_left e] at a
  rw[List.getElem?_append_left (by rw[←h.len];exact e)] at b
  exact h.at_ i x y a b
 ·rw[List.getElem?_append_right (by omega)] at a
  rw[List.getElem?_append_right (by rw[←h.len];omega),←h.len] at b
  exact k.at_ _ x y a b
def m7 (c:ax) (aG:Bool) (n:Nat):List (Int×Bs):=(List.range n).map λ(k:Nat)=>(cw c aG k 0,tG c aG k)
theorem L7 (c:ax) (aG:Bool) (n:Nat):m7 c aG (n+1)=m7 c aG n++[(cw c aG n 0,tG c aG n)]:=by simp[m7,List.range_succ]
theorem GL {aG:Bool} {Q:Sl->PH->Prop} (h:aA H (aC B::L)) (J:Gm B g c) (w:bE c)
 (hQ:∀s pl b H',Ext B b->fM k0 2 b s pl->mY b pl (m7 c aG (bc c).toNat)->aA H' (aC b::L)->Q s H'):uS g aG H Q:=by
 have ao:=gI w
 obtain⟨ah,ai,aj,ak,al,am⟩:=id w
 have an:bc c=(c.1+14)/ 15:=rfl
 have main:∀v:Int,v=(if aG then -1 else 0)->eU g H λy6 I=>bw (λ(f:Sl×Int) (j:PH) (m:(Sl×Int)->PH->Prop)=>
  aL (decide (f.2<y6)) (dF g j λF P=>bZ P (row [i64 v] 3) 1 λdp R=>gw dp (if 15<(IntKind.wrap .i64 (F.1-(IntKind.wrap .i64 (f.2*15)))) then 15 else(IntKind.wrap .i64 (F.1-(IntKind.wrap .i64 (f.2*15))))) R λG S=>
   pR G S λa ap T=>lK g aG f.2 0 T λag U=>bZ U (row [i64 ag,Sl.v a] 242) 1 λd V=>fh V 242 2 32 [i64 0,.slice none 0 0] f.1 d λo W=>m (o,IntKind.wrap .i64 (f.2+1)) W)
  (Q f.1 j)) (Sl.nil,0) I:=by
  intro v hv
  refine fc (J.ext h.base) w λH1 x1=>?_
  refine av (bc c).toNat (λi st Hk=>st.2=(i:Int)/\∃b pl,Ext B b/\mY b pl (m7 c aG i)/\aA Hk (aC b::au k0 2 st.1 pl::L)) ⟨rfl,B,[],.refl B,⟨rfl,λi x y N=>by simp at N⟩,aA.up (h.ext x1:aA H1 (aC B::_)).Bt⟩ ?_
  rintro i ⟨st,_⟩ H2 again hi ⟨e,b,pl,z,K,u⟩ ac
  simp only at e u;subst e
  refine aM (λc2=>?_) (λc2=>?_)
  ·have ad:i<(bc c).toNat:=by grind
   refine mr ((J.ext z).ext u.base) λH3 x3=>rY (enc:=i64) (l:=[v]) (u.ext x3) rfl rfl λdp B4 H4 q M Z=>?_
   have hn:1<=c.1-(i:Int)*15:=by omega
   have en:(if 15<IntKind.wrap .i64 (c.1-IntKind.wrap .i64 ((i:Int)*15)) then 15 else IntKind.wrap .i64 (c.1-IntKind.wrap .i64 ((i:Int)*15)))=(((min (c.1-i*15) 15).toNat:Nat):Int):=by
    rw[cK (x:=(i:Int)*15) (by omega) (by omega),cK (by omega) (by omega)];omega
   dsimp only
   rw[en]
   refine Ig.Ea (M.ext Z.base) (by omega) (by omega) λG I aa=>?_
   have h5:=Z.made aa
   have hm:gx (List.replicate (min (c.1-i*15) 15).toNat v)=true:=by
    simp only[gx,List.length_replicate,Bool.and_eq_true,decide_eq_true_eq,List.all_eq_true,KM.bD]
    refine⟨by omega,λx N=>?_⟩
    rw[(List.mem_replicate.1 N).2,hv];split<;>omega
   refine Pa.fP (l:=List.replicate (min (c.1-i*15) 15).toNat v) (h5.list (enc:=i64) 1 rfl) (by simp;omega) (λ_ a H6 ab=>?_) (by grind)
   have h6:=(h5:aA I (aC B4::_)).made ab
   refine iW h6 λt r O h7=>?_
   refine qe ((J.ext (z.trans (q.trans r))).ext h7.base) w (by grind) (.inl rfl) λH8 x8=>?_
   have h8:=(h7.ext x8:aA H8 (aC t::_)).aq
   refine Ml (enc:=k0) (sz:=2) (x:=(cw c aG i 0,a)) h8 rfl λd X h9 x9=>?_
   have C:=aA.up (show aA X (aC t::(au k0 2 st pl::L++[au k0 2 d [(cw c aG i 0,a)]])) from h9)
   have n:=(C.get 1 rfl:bj k0 2 X d _)
   have ae:pl.length=i:=by rw[K.len];simp[m7]
   refine uP Ai (by decide) C 2 rfl (n.cells Ai (by decide)) n.len Vk rfl (by rw[ae];simp;omega) λo j Y=>?_
   rw[bK (by omega)]
   refine ac ad _ _ ⟨rfl,t,pl++[(cw c aG i 0,a)],z.trans (q.trans r),?_,(show aA j (aC t::au k0 2 d _::au k0 2 o (pl++[(cw c aG i 0,a)])::L) from Y).aq⟩
   rw[L7]
   refine mY.snoc (K.ext (q.trans r)) ?_
   rw[tG,←hv];exact O
  ·have:i=(bc c).toNat:=by grind
   subst this
   obtain⟨B3,E,af,h3⟩:=u.fz
   exact hQ st pl B3 H2 (z.trans E) (af.lX Ai) (K.ext E) h3
 refine aE (aM (by grind) (by grind))
end
end jQ
end
section
namespace Ge
open Go Go.Kx KM
theorem T7 {H B:PH} {L:List Ob} {c:ax} {Q:Option Addr->Int->PH->Prop} (h:aA H (aC B::L)) (r:bE c) (q:∀p b H',Ext B b->Gm b p c->aA H' (aC b::L)->Q p 0 H'):qt c H Q:=by
 obtain⟨j,d,l,m,n,o⟩:=r
 have w:∀{x lo hi:Int},lo<=x->x<=hi->(decide (lo<=x)&&decide (x<=hi))=true:=(by grind)
 refine gN h λa1 t H1 e r1 a=>?_
 have r1:=r1.ext a.base
 refine aX (x:=c.1) r1 rfl (bH ?_)
 rw[w j d]
 refine aE (aF rfl (aX (x:=c.2.1) r1 rfl (bH ?_)))
 rw[w l m]
 refine aE (aF rfl (aX (x:=c.2.2) r1 rfl (bH ?_)))
 rw[w n o]
 exact aF rfl (iK (enc:=zZ) (x:=c) r1 rfl (gN a λi u v f s d=>q _ _ _ (e.trans f) ⟨i,rfl,s⟩ d))
end Ge
namespace jQ
open Go Go.Kx KM Rw Cr It Ds Ge Rg
def mZ (x:Int×Bs):Int×List Bs:=(x.1,chunks x.2 (x.2.length/ 64))
def wT (c:ax) (id aN:Int):List (Int×Bs):=
 (m7 c false (bc c).toNat++m7 c true (bc c).toNat)++[(ar c 0,gV c (cY c aN)),(ar c 1,List.replicate (64*(bW c).toNat) 0)]++[(1-aN% 2,List.replicate 64 0),(aN% 2,eZ c id aN)]
theorem CO {b:Bs} (h:b.length=64):chunks b (b.length/ 64)=[b]:=by
 rw[h]
 show[b.take 64]=[b]
 grind
theorem Eb:∀n:Nat,chunks (List.replicate (64*n) (0:Int)) n=List.replicate n (List.replicate 64 0)
 | 0=>rfl
 |n+1=>by
  rw[chunks,List.take_replicate,List.drop_replicate,show 64*(n+1)- 64=64*n by omega,Eb n,show min 64 (64*(n+1))=64 by omega];exact List.replicate_succ.symm
theorem Hs {c:ax} (b:bE c) (aG:Bool) (k:Nat) (hk:(k:Int)<bc c):gx (List.replicate (min (c.1-k*15) 15).toNat (if aG then -1 else 0))=true:=by
 simp only[gx,List.length_replicate,Bool.and_eq_true,decide_eq_true_eq,List.all_eq_true,KM.bD]
 refine⟨by omega,λx a=>?_⟩
 rw[(List.mem_replicate.1 a).2];split<;>omega
theorem AJ {c:ax} (a:bE c) {aN:Int} (hm:1<=aN/\aN<=2147483647):fW c (cY c aN)=true:=by
 have m:=gI a
 obtain⟨d,e,f,h,j,l⟩:=id a
 have o:(cY c aN).bk.length=c.2.1.toNat:=by
  show(List.replicate (c.2.1.toNat- 1) ((0,0):cJ)).length+1=_
  grind
 rw[AI]
 have e1:BM (cY c aN)=true:=by rfl
 have e2:fj c (cY c aN).pos=true:=by
  simp only[fj,cY,Bool.and_eq_true,KM.bD];omega
 have e3:gU (cY c aN).lb (bc c)=true:=by
  simp only[gU,cY,List.length_replicate,Bool.and_eq_true,beq_iff_eq,List.all_eq_true]
  grind
 have e4:gU (cY c aN).lo (bc c)=true:=e3
 have e5:((cY c aN).bk.length:Int)=c.2.1:=by omega
 have n:nX (cY c aN).pos.1 0 (cY c aN).bk=true:=by
  rw[wS]
  intro i u hu
  cases i with
  |zero=>simp[cY] at hu;subst hu;rfl
  |succ i=>
   have b:(List.replicate (c.2.1.toNat- 1) ((0,0):cJ))[i]?=some u:=by simpa[cY] using hu
   have:=(List.mem_replicate.1 (List.mem_of_getElem? b)).2
   subst this
   rfl
 grind
structure KL (c:ax) (x:Int×Bs):Prop where
 n:∃n:Nat,n<=4/\x.2.length=64*n/\0<=x.1/\x.1+n<=all c
 uY:bP x.2
theorem Ox {c:ax} {aG:Bool} {n:Nat} {x:Int×Bs} (h:x∈m7 c aG n):∃k:Nat,k<n/\x=(cw c aG k 0,tG c aG k):=by
 simp only[m7,List.mem_map,List.mem_range] at h
 grind
theorem oI {c:ax} (f:bE c):base c+192<=all c:=by
 have d:=f.2.2.1
 have e:=f.2.2.2.2.1
 have:=J5 (a:=8) (b:=24) (A:=c.2.1) (B:=c.2.2) (by omega) d (by omega) e
 simp only[all];omega
theorem KN {c:ax} (a:bE c) {id aN:Int} (hm:dA c id aN=true):∀x∈wT c id aN,KL c x:=by
 have i:=gI a
 have j:=kj a
 have f:=oI a
 have l:base c=2+2*(bW c+2*bc c):=rfl
 have e:=(Su.kt hm).2.2
 have h:∀(aG:Bool) (x:Int×Bs),x∈m7 c aG (bc c).toNat->KL c x:=λaG x b=>by
  obtain⟨k,hk,rfl⟩:=Ox b
  have hm:=Hs a aG k (by omega)
  refine⟨⟨1,by omega,Pa.len (by simp;omega),?_,?_⟩,Pa.uY⟩<;>(show _<=_;simp only[cw];split<;>omega)
 have d:=AJ a (aN:=aN) e
 intro x b
 simp only[wT,List.mem_append,List.mem_cons,List.not_mem_nil,or_false] at b
 rcases b with((b|b)|rfl|rfl)|rfl|rfl
 ·grind
 ·grind
 ·refine⟨⟨(bW c).toNat,by omega,wv a (parts d),?_,?_⟩,wx a (parts d)⟩<;>(show _<=_;simp only[ar];omega)
 ·refine⟨⟨(bW c).toNat,by omega,by simp,?_,?_⟩,BH _⟩<;>(show _<=_;simp only[ar];omega)
 ·exact⟨⟨1,by omega,by simp,by omega,by omega⟩,BH _⟩
 ·exact⟨⟨1,by omega,Su.rI,by omega,by omega⟩,Su.wN hm⟩
theorem Ht (c:ax) (id aN:Int):(wT c id aN).length=2*(bc c).toNat+4:=by simp[wT,m7];omega
theorem E8 {c:ax} (b:bE c) {id aN:Int} (hm:dA c id aN=true):(wT c id aN).map mZ=Fv c id aN:=by
 have d:=AJ b (aN:=aN) (Su.kt hm).2.2
 have a:∀aG:Bool,(m7 c aG (bc c).toNat).map mZ=Fu c aG:=λaG=>by
  simp only[m7,Fu,List.map_map]
  refine List.map_congr_left λk hk=>?_
  rw[List.mem_range] at hk
  show(cw c aG k 0,chunks (tG c aG k) ((tG c aG k).length/ 64))=_
  rw[tG,CO (Pa.len (by simp;omega))]
 have e1:mZ (ar c 0,gV c (cY c aN))=(ar c 0,chunks (gV c (cY c aN)) (bW c).toNat):=by
  show(_,chunks _ _)=_
  rw[wv b (parts d),show 64*(bW c).toNat/ 64=(bW c).toNat by omega]
 have e2:mZ (ar c 1,List.replicate (64*(bW c).toNat) 0)=(ar c 1,List.replicate (bW c).toNat (List.replicate 64 0)):=by
  show(_,chunks _ _)=_
  rw[List.length_replicate,show 64*(bW c).toNat/ 64=(bW c).toNat by omega,Eb]
 have e3:mZ (1-aN% 2,List.replicate 64 0)=(1-aN% 2,[List.replicate 64 0]):=by
  show(_,chunks _ _)=_
  rw[CO (by simp)]
 have e4:mZ (aN% 2,eZ c id aN)=(aN% 2,[eZ c id aN]):=by
  show(_,chunks _ _)=_
  rw[CO Su.rI]
 simp only[wT,Fv,List.map_append,List.map_cons,List.map_nil,a,e1,e2,e3,e4,List.append_assoc,List.cons_append,List.nil_append]
theorem zg {α:Type} {enc:α->List Value} {sz:Nat} {H B:PH} {L:List Ob} {l:List α} {cs:List Value} {e n:Nat} {K:Sl->PH->Prop} (h:aA H (aC B::L)) (d:cs=l.flatMap enc) (f:n=l.length) (b:∀r H',aA H' (aC B::au enc sz r l::L)->K r H'):bZ H (row cs e) n K:=by
 intro r H' a
 subst d;subst f
 exact b r H' (show aA H' (aC B::(L++[au enc sz r l])) from h.new (O':=au enc sz r l) (.nD a) (bj.xk a rfl rfl) (kz.iI a)).up
theorem ldP {x:Int×Sl} {b:Addr} {H:PH} {K:Int×Sl->Prop} (d:cI H b 2=some (k0 x)) (a:K x):aT k0 H b 2 K:=⟨x,d,a⟩
section
variable {H B:PH} {L:List Ob} {k:Nat} {A:DA} {D:Dk} {p:Sl} {bs:Bs} {at':Int} {c:ax} {g:Option Addr}
theorem Hu (D:Dk) (l:List (Int×List Bs)) (x:Int×List Bs):D.zQ (l++[x])=(D.zQ l).dW x.1 x.2:=by simp[Dk.zQ]
theorem NV {D:Dk} {k:Nat} (ok:bu k D) (q:all c<=D.now.length):∀(n:Nat) (ps:List (Int×Bs)),(∀x∈ps,KL c x)->n<=ps.length->bu (k+4*n) (D.zQ ((ps.map mZ).take n))/\(D.zQ ((ps.map mZ).take n)).now.length=D.now.length
 | 0,ps,_,_=>by simpa[Dk.zQ] using ok
 |n+1,ps,r,o=>by
  obtain⟨s,l1⟩:=NV ok q n ps r (by omega)
  have C:ps[n]?=some ps[n]:=(by simp)
  have hm:=r _ (List.getElem_mem (by omega:n<ps.length))
  obtain⟨m,z,f,t,i⟩:=hm.n
  have w:(ps.map mZ)[n]?=some (mZ ps[n]):=by grind
  rw[gk w,Hu]
  have d:(mZ ps[n]).2.length=m:=by
   show(chunks _ _).length=m
   rw[Rc.kW,f];omega
  have:=tu (mZ ps[n]).2 (at_:=(mZ ps[n]).1) s t (by rw[d,l1];exact Int.le_trans i q) λb v=>by
   obtain⟨j,l⟩:=List.getElem?_of_mem v
   have y:j<m:=by grind
   have e:(mZ ps[n]).2=chunks ps[n].2 m:=by show chunks _ _=_;grind
   rw[e] at l
   obtain⟨e1,e2⟩:=a m ps[n].2 f j b l
   subst e1
   exact⟨e2,wu (vG hm.uY _) _⟩
  rw[d] at this
  exact⟨this.1.mono (by omega),by omega⟩
where
 a:∀(n:Nat) (b:Bs),b.length=64*n->∀j x,(chunks b n)[j]?=some x->x=(b.drop (64*j)).take 64/\x.length=64
  | 0,b,_,j,x,h=>by simp[chunks] at h
  |n+1,b,o,0,x,h=>by
   simp[chunks] at h;grind
  |n+1,b,o,j+1,x,h=>by
   rw[chunks,List.getElem?_cons_succ] at h
   obtain⟨i,u⟩:=a n (b.drop 64) (by simp;omega) j x h
   refine⟨?_,u⟩
   rw[i,List.drop_drop];congr 2;omega
theorem Wq {x:Int×Bs} {n:Nat} (h:x.2.length=64*n):(mZ x).2=chunks x.2 n:=by show chunks _ _=_;grind
theorem L8 {id:Int} {Q:Int->Int->PH->Prop} (h:aA H (aC B::bA A D::L)) (ok:bu k D) (hk:k+60< 2 ^ 29) (f:bE c) (hm:dA c id (cj D+1)=true) (hn:all c<=D.now.length)
 (hQ:∀A' N H',A'.a=A.a->Ext B N->bu (k+60) (ya c id D)->(ya c id D).now.length=D.now.length->aA H' (aC N::bA A' (ya c id D)::L)->Q (cj D+1) 0 H'):v9 (some A.a) c id H Q:=by
 have b6:=gI f
 have b7:=kj f
 have bC:=oI f
 have b3:base c=2+2*(bW c+2*bc c):=rfl
 obtain⟨_,b4,bv⟩:=Su.kt hm
 have bD:0<=cj D:=by
  omega
 have bt:=AJ f (aN:=cj D+1) bv
 refine gN h λa1 B1 H1 bw r1 h1=>iK (enc:=zZ) (x:=c) (r1.ext h1.base) rfl ?_
 refine T7 (c:=c) h1 f λg B2 H2 Z J h2=>?_
 refine aE (aF rfl (aE (aF rfl (aE (aF (by grind) (aE (aF (by grind) ?_)))))))
 refine Hm (i:=0) h2 rfl ?_
 refine CG (J.ext h2.base) f λH3 x3=>aF (by grind) ?_
 refine EX (h2.ext x3) ok (by omega) (by omega) λax B4 H4 aB s0 s1 h4=>?_
 refine bG h4 λb0 H5 h5=>cF (vs:=s2 ax) h5 rfl rfl λH6 h6=>Fz h6 λB6 M r6 h6=>aF rfl ?_
 have r6:=r6.ext h6.base
 have l0:=nZ ok (at_:=0) (by omega)
 have l1:=nZ ok (at_:=1) (by omega)
 refine mi (by omega) (by omega) (aX (x:=ax.1) r6 rfl (mi (by omega) (by omega) (aX (x:=ax.2) r6 rfl ?_)))
 refine Su.choose_spec ((s0.ext M).ext h6.base) ((s1.ext M).ext h6.base) l0 l1 (ru ok (by omega)) (ru ok (by omega)) λH7 x7=>?_
 have em:(Su.xw (cz (D.sec 0) (D.sec 1))).1.2.2.2.2=cj D:=by
  unfold cj
  generalize cz (D.sec 0) (D.sec 1)=o
  rcases o with _|⟨⟨c',i',m'⟩,k'⟩<;>rfl
 refine bG (h6.ext x7) λb1 H8 h8=>cF (vs:=Su.s5 (Su.xw (cz (D.sec 0) (D.sec 1))).1) h8 rfl rfl λH9 h9=>ak (x:=(Su.xw (cz (D.sec 0) (D.sec 1))).1.2.2.2.2) h9 rfl ?_
 have xb:Ext B B6:=bw.trans (Z.trans (aB.trans M))
 rw[em,cK (x:=cj D+1) (by omega) (by omega)]
 refine iK (enc:=zZ) (x:=c) (((r1.ext Z).ext (aB.trans M)).ext h9.base) rfl ?_
 have h9:=h9.aq
 refine Su.fP hm λaa bO aZ=>iW (h9.made aZ) λbF ay be bk=>aF rfl ?_
 have J:=J.ext (aB.trans (M.trans ay))
 refine CM bk J f λsb ss bH bP j hS ae=>?_
 refine Rg.fP ((J.ext j).ext ae.base) f (hS.ext ae.base) bt λE bQ a0=>iW (ae.made a0) λbI w bf bl=>aF rfl ?_
 refine GL bl (J.ext (j.trans w)) f λW b bJ bR y a6 am bm=>?_
 refine GL bm (J.ext (j.trans (w.trans y))) f λX d bM bS r a7 an bn=>?_
 refine rY (enc:=Sl.v) (l:=[W,X]) bn rfl rfl λb8 bN bT e a4 P=>?_
 have aU:b.length=(bc c).toNat:=by rw[am.len];simp[m7]
 have al:d.length=(bc c).toNat:=by rw[an.len];simp[m7]
 refine Wp (ls:=[(W,b),(X,d)]) (a4.ext P.base) (λq hq=>?_) (by simp) (by simp;omega) λca bU a2=>?_
 ·simp only[List.mem_cons,List.not_mem_nil,or_false] at hq
  rcases hq with rfl|rfl
  ·exact(a6.ext (r.trans e)).ext P.base
  ·exact(a7.ext e).ext P.base
 have R:=P.made a2
 have F:=J.ext (j.trans (w.trans (y.trans (r.trans e))))
 refine ry (F.ext R.base) f (.inl rfl) (ry (F.ext R.base) f (.inr rfl) (vY (F.ext R.base) f ?_))
 rw[cK (x:=64*bW c) (by omega) (by omega)]
 refine Ez (enc:=u8) (x:=(0:Int)) R (by omega) (by omega) λC bV af=>iW af λab s a5 af=>?_
 refine zg (enc:=k0) (sz:=2) (l:=[(ar c 0,E),(ar c 1,C)]) af rfl rfl λaW a9 aL=>?_
 have aY:bj k0 2 a9 aW _:=aL.get 1 rfl
 refine uP Ai (by decide) aL 2 rfl (aY.cells Ai (by decide)) aY.len Vk rfl (by simp[aU,al];omega) λap aI z=>?_
 have z:aA aI (aC ab::au k0 2 ap (([(W,b),(X,d)].map (·.2)).flatten++[(ar c 0,E),(ar c 1,C)])::bA A D::L):=(show aA aI (aC ab::au k0 2 aW _::au k0 2 ap _::bA A D::L) from z).aq
 have bi:([(W,b),(X,d)].map (·.2)).flatten=b++d:=by simp
 rw[bi] at z
 have ah:=F.ext s
 refine aE ⟨by simp[sd],?_⟩
 have bh:Int.tmod (cj D+1) 2=(cj D+1)% 2:=Int.tmod_eq_emod_of_nonneg (by omega)
 rw[bh,cK (x:=1-(cj D+1)% 2) (by omega) (by omega)]
 refine wQ (ah.ext z.base) (by omega) (wQ (ah.ext z.base) (by omega) ?_)
 refine Fj (enc:=u8) (x:=(0:Int)) z λu ba a3 b9=>?_
 have ag:=aA.up (show aA ba (aC ab::(au k0 2 ap (b++d++[(ar c 0,E),(ar c 1,C)])::bA A D::L++[aS u8 u (List.replicate 64 0)])) from a3)
 refine iW ag λac t aG ag=>?_
 refine zg (enc:=k0) (sz:=2) (l:=[(1-(cj D+1)% 2,u),((cj D+1)% 2,aa)]) ag rfl rfl λao bb aO=>?_
 have aw:bj k0 2 bb ao _:=aO.get 1 rfl
 refine uP Ai (by decide) aO 2 rfl (aw.cells Ai (by decide)) aw.len Vk rfl (by simp[aU,al];omega) λa8 bd S=>?_
 have S:=(show aA bd (aC ac::au k0 2 ao _::au k0 2 a8 (b++d++[(ar c 0,E),(ar c 1,C)]++[(1-(cj D+1)% 2,u),((cj D+1)% 2,aa)])::bA A D::L) from S).aq
 have O:mY ac (b++d++[(ar c 0,E),(ar c 1,C)]++[(1-(cj D+1)% 2,u),((cj D+1)% 2,aa)]) (wT c id (cj D+1)):=by
  have p1:=((am.ext (r.trans (e.trans (s.trans t)))).append (an.ext (e.trans (s.trans t))))
  have p2:=(p1.snoc (a:=ar c 0) (bf.ext (y.trans (r.trans (e.trans (s.trans t)))))).snoc (a:=ar c 1) (a5.ext t)
  have p3:=(p2.snoc (a:=1-(cj D+1)% 2) aG).snoc (a:=(cj D+1)% 2) (be.ext (j.trans (w.trans (y.trans (r.trans (e.trans (s.trans t)))))))
  have bg:(64*bW c).toNat=64*(bW c).toNat:=by omega
  rw[bg] at p3
  simpa[wT] using p3
 have bx:Ext B ac:=xb.trans (ay.trans (j.trans (w.trans (y.trans (r.trans (e.trans (s.trans t)))))))
 generalize(b++d++[(ar c 0,E),(ar c 1,C)]++[(1-(cj D+1)% 2,u),((cj D+1)% 2,aa)])=pl at S O
 have G:=KN f hm
 have aD:=Ht c id (cj D+1)
 have V:=NV ok hn
 have aK:ya c id D=(D.zQ (((wT c id (cj D+1)).map mZ).take (wT c id (cj D+1)).length)).flush:=by
  rw[ya,←E8 f hm,List.take_of_length_le (by simp)]
 generalize b2:wT c id (cj D+1)=PP at O G aD aK
 obtain⟨aH,az,hv,bo⟩:=S.fz
 have aQ:=hv.lX Ai
 have O:=O.ext az
 refine av pl.length (λi st Hk=>st=(cj D+1,(i:Int))/\∃A' N,A'.a=A.a/\Ext aH N/\aA Hk (aC N::bA A' (D.zQ ((PP.map mZ).take i))::L)) ⟨rfl,A,aH,rfl,.refl _,by simpa[Dk.zQ] using bo⟩ ?_
 rintro i st bX again hi ⟨rfl,A',N,eA,Y,T⟩ bp
 rw[aQ.bL]
 refine aM (λc2=>?_) (λc2=>?_)
 ·have ai:i<pl.length:=by simpa using c2
  have aj:i<PP.length:=by rw[←O.len];exact ai
  refine su ((aQ.ext Y).ext T.base) (by simp) (by simpa using ai) λbz x hx br=>ldP br ?_
  simp only[Int.toNat_natCast] at hx
  refine bG T λbB aJ U=>cF (vs:=k0 x) U rfl rfl λbY I=>ak (x:=x.1) I rfl (ak (en:=Sl.v) (x:=x.2) I rfl ?_)
  have I:=I.aq
  have hy:PP[i]?=some PP[i]:=List.getElem?_eq_getElem aj
  obtain⟨ex,bq⟩:=O.at_ i x _ hx hy
  have aT:=G _ (List.getElem_mem aj)
  obtain⟨m,b5,aR,h0,h1⟩:=aT.n
  obtain⟨K,l1⟩:=V i PP G (by omega)
  rw[←eA]
  refine zb (n:=m) I K (by omega) (bq.ext Y) aR aT.uY (by rw[ex];exact h0) (by rw[l1,ex];exact Int.le_trans h1 hn) λA2 B2 bZ ad Z aP=>aF rfl ?_
  rw[bK (by omega)]
  have hs:(PP.map mZ)[i]?=some (mZ PP[i]):=by rw[List.getElem?_map,hy];rfl
  refine bp ai _ _ ⟨rfl,A2,B2,ad.trans eA,Y.trans Z,?_⟩
  rw[gk hs,Hu,Wq aR]
  rw[ex] at aP;exact aP
 ·have:i=pl.length:=by simp at c2;omega
  subst this
  rw[O.len] at T
  obtain⟨K,l1⟩:=V PP.length PP G (Nat.le_refl _)
  rw[←eA]
  refine BK (i:=0) T rfl K (by omega) λA2 aJ ad U=>?_
  have aV:=K.flush
  have l2:=iz K
  rw[←aK] at U aV l2
  exact hQ A2 N aJ (ad.trans eA) (bx.trans (az.trans Y)) (aV.mono (by omega)) (l2.trans l1) U
theorem L9 {id:Int} {Q:Int->PH->Prop} (h:aA H (aC B::bA A D::L)) (ok:bu k D) (hk:k+60< 2 ^ 29) (n:bE c) (hm:dA c id (cj D+1)=true) (q:all c<=D.now.length)
 (m:∀b d H',b.a=A.a->Ext B d->bu (k+60) (ya c id D)->(ya c id D).now.length=D.now.length->aA H' (aC d::bA b (ya c id D)::L)->Q 0 H'):wA (some A.a) c id H Q:=
 gN h λa1 r H1 i r1 f=>iK (enc:=zZ) (x:=c) (r1.ext f.base) rfl (L8 f ok hk n hm q λb d H' e x o l j=>m b d H' e (i.trans x) o l j)
end
end jQ
end
end Go.Proofs.YtigjebgjphmkoaaGreat
section
namespace Go.Kx
section
variable {H H' B:PH} {L L':List Ob} {O O':Ob}
theorem aa.part {a:Addr} {cs vs:List Value} {off n:Nat} (h:aa H a cs) (c:off+n<=cs.length) (b:(cs.drop off).take n=vs):cI H (a.add off) n=some vs:=by
 obtain⟨e,he⟩:=h.2.2
 rw[h.addr,fV,qJ he (by omega),Nat.zero_add,b]
theorem T8 {β:Type} {en:β->List Value} {a:Addr} {cs:List Value} {off n:Nat} {x:β} {K:β->Prop} (h:aa H a cs) (c:off+n<=cs.length) (d:(cs.drop off).take n=en x) (b:K x):aT en H (a.add off) n K:=⟨x,h.part c d,b⟩
theorem pI {β:Type} {en:β->List Value} {a:Addr} {cs:List Value} {off n:Nat} {x:β} {K:β->Prop} (h:aA H L) (i:Nat) (hi:L[i]?=some (aJ a cs)) (c:off+n<=cs.length) (d:(cs.drop off).take n=en x) (b:K x):aT en H (a.add off) n K:=T8 (h.get i hi) c d b
theorem Ws {a:Addr} {cs vs ws:List Value} {off:Nat} {K:PH->Prop} (h:aa H a cs) (b:off+vs.length<=cs.length) (g:vs.all cg=true) (hw:cs.take off++vs++cs.drop (off+vs.length)=ws) (d:∀H',aa H' a ws->td a.block H H'->K H'):aV H (a.add off) vs K:=by
 obtain⟨e,he⟩:=h.2.2
 refine⟨a.block,off,cs,e,by rw[h.addr,fV];simp,he,b,g,d _ ⟨h.1,h.2.1,e,?_⟩ λc o f b=>?_⟩
 ·rw[PH.eH,kK _ _ _ b,hw]
 ·rw[PH.al _ _ b];exact f
theorem xS {a:Addr} {cs vs:List Value} (ws:List Value) {off:Nat} {K:PH->Prop} (h:aA H L) (i:Nat) (hi:L[i]?=some (aJ a cs)) (d:off+vs.length<=cs.length) (f:vs.all cg=true) (hw:cs.take off++vs++cs.drop (off+vs.length)=ws) (e:∀H',aA H' (L.set i (aJ a ws))->K H'):aV H (a.add off) vs K:=
 Ws (h.get i hi) d f hw λH' r k=>e H' (h.cR (O':=aJ a ws) i hi r (λc b=>.inl b) λc o b d=>k c o b d)
theorem dc {a:Addr} {cs:List Value} {j:Nat} {v:Value} {K:Prop} (h:aA H L) (i:Nat) (hi:L[i]?=some (aJ a cs)) (c:cs[j]?=some v) (b:K):ay H (a.add j) v K:=dE (h.get i hi) c b
theorem wy {a:Addr} {cs vs:List Value} {n:Nat} {K:Prop} (h:aA H L) (i:Nat) (hi:L[i]?=some (aJ a cs)) (c:n=cs.length) (d:cs=vs) (b:K):gQ H a n vs K:=⟨by subst d;exact(h.get i hi:aa H a cs).all c,b⟩
theorem ig {a:Addr} {v:Value} {K:Prop} (h:aa H a [v]) (b:K):ay H a v K:=⟨by have:=h.cell (i:=0) rfl;rwa[add_zero'] at this,b⟩
theorem az {β:Type} {en:β->Value} {a:Addr} {x:β} {K:β->Prop} (h:aa H a [en x]) (b:K x):aH en H a K:=⟨x,by have:=h.cell (i:=0) rfl;rwa[add_zero'] at this,b⟩
theorem NW {α:Type}:∀l:List α,(List.range l.length).filterMap (λi=>l[i]?)=l
 |[]=>rfl
 |x::l=>by
  rw[List.length_cons,List.range_succ_eq_map,List.filterMap_cons,List.filterMap_map]
  exact congrArg (x::·) (NW l)
theorem aA.KO {X Y:List Ob} (h:aA H (aC B::(X++L))) (n:Nat) (is:List Nat) (a:X.length=n) (b:is.Perm (List.range n)) (e:Y=is.filterMap λi=>X[i]?):aA H (aC B::(Y++L)):=by
 subst e;subst a
 refine h.perm (.cons _ (.append_right L ?_))
 have:=b.filterMap (λi=>X[i]?)
 rw[NW] at this
 exact this.symm
theorem aA.wh {X:List Ob} (h:aA H (aC B::(X++O::L))):aA H (aC B::O::(X++L)):=h.perm (by simp)
theorem aA.ua {X:List Ob} (h:aA H (aC B::O::(X++L))):aA H (aC B::(X++O::L)):=h.perm (.cons _ List.perm_middle.symm)
theorem aA.kG {X:List Ob} (h:aA H (aC B::(X++O::L))):aA H (aC B::(X++L)):=h.wh.aq
end
theorem aA.Yr {H B:PH} {X L:List Ob} {O P:Ob} (h:aA H (aC B::O::P::(X++L))):aA H (aC B::(X++O::P::L)):=h.perm (.cons _ (show(O::P::(X++L)).Perm (X++O::P::L) from List.perm_append_comm_assoc [O,P] X L))
theorem aA.pull {H B:PH} {X Y L:List Ob} (h:aA H (aC B::(X++(Y++L)))):aA H (aC B::(Y++(X++L))):=h.perm (.cons _ (List.perm_append_comm_assoc X Y L))
theorem aA.sub {H:PH} {L L':List Ob} (h:aA H L) (s:List.Sublist L' L):aA H L':=by
 rw[aA.iff] at h ⊢
 grind
end Go.Kx
end
namespace Go.Proofs.YtigjebgjphmkoaaGreat
open Tryz
section
namespace Sc
open Go Go.Kx KM Rw Cr Ds Ge Rc
abbrev s5 (x:Pos):List Value:=[i64 x.1,i64 x.2.1,i64 x.2.2.1,i64 x.2.2.2.1,i64 x.2.2.2.2]
abbrev jD (d g:Option Addr) (p e:Pos) (err:Int):List Value:=[.pointer d,.pointer g,i64 p.1,i64 p.2.1,i64 p.2.2.1,i64 p.2.2.2.1,i64 p.2.2.2.2,.bool false,i64 e.1,i64 e.2.1,i64 e.2.2.1,i64 e.2.2.2.1,i64 e.2.2.2.2,i64 err]
abbrev Cu:R5:=(0,0,0,Sl.nil,Sl.nil)
section
variable {H B:PH} {L:List Ob} {k:Nat} {A:DA} {D:Dk} {c:ax} {g:Option Addr} {sa:Addr} {p p' e:Pos} {err:Int}
theorem fO {d:Addr} {Q:Option Addr->PH->Prop} (h:aA H (aC B::L)) (b:Gm B g c) (i:∀sa H',aA H' (aC B::aJ sa (jD (some d) g p p 0)::L)->Q (some sa) H'):Bv (some d) g p H Q:=by
 obtain⟨f,rfl,j⟩:=b
 refine bG h λa1 H1 a=>aE (aF rfl (aF rfl ?_))
 refine cQ (x:=p) a rfl rfl (cQ (x:=p) a rfl rfl (bG a.aq (by omega)))
theorem KP {i j:Nat} {at':Int} {Q:Sl->Bool->PH->Prop} (h:aA H (aC B::L)) (hi:L[i]?=some (aJ sa (jD (some A.a) g p e err))) (o:L[j]?=some (bA A D)) (ok:bu k D) (hk:k< 2 ^ 29) (f:0<=at'/\at'<D.now.length)
 (n:∀r H',aA H' (aC B::aS u8 r (D.sec at')::L.set i (aJ sa (jD (some A.a) g p e 0)))->Q r true H'):lM (some sa) at' H Q:=by
 refine aD (aU (x:=some A.a) h (i+1) hi rfl (BL (i:=j) h o ok hk f λr H1 m=>aD (cU (j:=13) m (i+2) hi (by simp) rfl λd b=>aD ?_)))
 have b:aA d (aC B::aS u8 r (D.sec at')::L.set i (aJ sa (jD (some A.a) g p e 0))):=b
 have l:=(List.getElem?_eq_some_iff.1 hi).1
 refine aU (x:=(0:Int)) b (i+2) (by simp[l];rfl) rfl ?_
 exact n r d b
theorem vW {i j:Nat} {at':Int} {Q:Sl->Bool->PH->Prop} (h:aA H (aC B::L)) (hi:L[i]?=some (aJ sa (jD (some A.a) g p e err))) (l:L[j]?=some (bA A D)) (ok:bu k D) (hk:k< 2 ^ 29) (d:0<=at'/\at'<D.now.length)
 (n:∀r b H',Ext B b->Bytes b r (D.sec at')->aA H' (aC b::L.set i (aJ sa (jD (some A.a) g p e 0)))->Q r true H'):lM (some sa) at' H Q:=
 KP h hi l ok hk d λr m f=>iW f (by grind)
theorem kX {c:ax} (a:bE c) {s:Int} (h:0<=s/\s<c.2.1):0<=aZ c s/\aZ c s+c.2.2<=all c:=by
 have i:=qT a
 have f:=a.2.2.2.2
 have d:0<=s*c.2.2:=Int.mul_nonneg h.1 (by omega)
 have b:(s+1)*c.2.2<=c.2.1*c.2.2:=Int.mul_le_mul_of_nonneg_right (by omega) (by omega)
 rw[Int.add_mul] at b
 simp only[aZ,all];omega
theorem qV {c:ax} (a:bE c):all c<=2078:=by
 have b:=qT a
 have:=G9 a
 simp only[all];omega
theorem zh {s:Int} {Q:Int->PH->Prop} (d:Gm H g c) (b:bE c) (h:0<=s/\s<c.2.1) (a:∀H',Ext H H'->Q (aZ c s) H'):gO g s H Q:=
 Tx d b λH' x=>by rw[if_pos h];exact a H' x
theorem yd {Q:Pos->Bool->PH->Prop} (h:aA H (aC B::aJ sa (jD (some A.a) g p e err)::bA A D::L)) (ok:bu k D) (hk:k< 2 ^ 29) (P:Gm B g c) (F:bE c) (hn:all c<=D.now.length)
 (hQ:∀l H',Ext B l->aA H' (aC l::aJ sa (jD (some A.a) g p e 0)::bA A D::L)->Q ((fK c D p).getD p) (fK c D p).isSome H'):sP (some sa) H Q:=by
 have ab:=qV F
 refine bG h λa1 H1 W=>aD (pI (en:=s5) (x:=p) W 2 rfl (by simp) rfl (cF (vs:=s5 p) W rfl rfl λH2 h2=>aD (cU (j:=13) h2 2 rfl (by simp) rfl λS m=>aD ?_)))
 have m:aA S (aC B::aJ a1 (s5 p)::aJ sa (jD (some A.a) g p e 0)::bA A D::L):=m
 refine aU (x:=g) m 2 rfl rfl (ak (x:=p.1) m rfl (oH (P.ext m.base) F ?_))
 refine E0 (b:=decide (p.2.1< 0)) (λk=>ak (x:=p.2.1) m rfl (k S (.refl _))) λH4 x4=>?_
 have t:=m.ext x4
 refine E0 (b:=decide (c.2.2<=p.2.1)) (λk=>ak (x:=p.2.1) t rfl (aD (aU (x:=g) t 2 rfl rfl (mr (P.ext t.base) λw G=>dc (t.ext G) 1 rfl rfl (k w G))))) λw G=>?_
 have n:=t.ext G
 have fin:∀(v:Pos) (b:Bool) (z:List Value) l H',Ext B l->aA H' (aC l::aJ a1 z::aJ sa (jD (some A.a) g p e 0)::bA A D::L)->z=s5 v->v=(fK c D p).getD p->b=(fK c D p).isSome->
  aT s5 H' a1 5 λu=>aV H' a1 (s5 u) λI=>aT s5 I a1 5 λu=>Q u b I:=λv b z l H' xb f ez ev y=>by
  subst ez;subst ev;subst y
  exact cQ f rfl rfl (cF f rfl rfl λT C=>cQ (x:=(fK c D p).getD p) C rfl rfl (hQ l T xb C.aq))
 refine aM (λc1=>?_) (λc1=>?_)
 ·have en:fK c D p=none:=by
   rw[fK,if_neg]
   simp only[KM.bN,Bool.or_eq_true,Bool.not_eq_true',Bool.and_eq_false_iff,decide_eq_false_iff_not,decide_eq_true_eq] at c1
   simp only[KM.bN,Bool.and_eq_true,decide_eq_true_eq];omega
  exact fin p false _ B w (.refl B) n rfl (by rw[en];rfl) (by rw[en];rfl)
 ·simp only[Bool.or_eq_false_iff,Bool.not_eq_false',Bool.and_eq_true,decide_eq_true_eq,decide_eq_false_iff_not] at c1
  have V:fK c D p=wK c D p:=by
   rw[fK,if_pos]
   simp only[KM.bN,Bool.and_eq_true,decide_eq_true_eq];omega
  refine ak (x:=p.2.1) n rfl (aM (λc2=>?_) (λc2=>?_))
  ·have en:fK c D p=some p:=by rw[V,wK,if_pos (by simpa using c2)]
   exact fin p true _ B w (.refl B) n rfl (by rw[en];rfl) (by rw[en];rfl)
  ·have M:0<=p.1/\p.1<c.2.1:=by omega
   obtain⟨ac,ad⟩:=kX F M
   have eh:wK c D p=match headD (D.sec (aZ c p.1)) with
    |none=>none
    |some (Z,aN,cZ,prev)=>if Z=p.1/\cZ=p.2.2.1/\prev=p.2.2.2.1/\p.2.2.2.2<=aN then some (p.1,1,cZ,prev,aN) else none:=by
    rw[wK,if_neg (by simpa using c2)];rfl
   refine aD (aU (x:=g) n 2 rfl rfl (ak (x:=p.1) n rfl (zh (P.ext n.base) F M λT x6=>?_)))
   have C:=n.ext x6
   refine vW (i:=1) (j:=2) C rfl rfl ok hk (by grind) λr q H7 N U E=>?_
   have E:aA H7 (aC q::aJ a1 (s5 p)::aJ sa (jD (some A.a) g p e 0)::bA A D::L):=E
   have Y:=nZ ok (at_:=aZ c p.1) (by omega)
   have X:=ru ok (at_:=aZ c p.1) (by omega)
   refine Hd.hG (U.ext E.base) Y X λH8 x8=>?_
   have h8:=E.ext x8
   refine bG h8 λJ H9 h9=>cF (vs:=Hd.s4 (Hd.of (headD (D.sec (aZ c p.1))))) h9 rfl rfl λR d=>?_
   have e1:(fK c D p)=if Hd.fits (D.sec (aZ c p.1)) p=true then some (p.1,1,(Hd.of (headD (D.sec (aZ c p.1)))).2.2.1,(Hd.of (headD (D.sec (aZ c p.1)))).2.2.2,(Hd.of (headD (D.sec (aZ c p.1)))).2.1) else none:=by
    rw[V,eh]
    unfold Hd.fits
    cases headD (D.sec (aZ c p.1)) with
    |none=>rfl
    |some x=>
     obtain⟨Z,aN,cZ,prev⟩:=x
     simp only[Hd.of,Bool.and_eq_true,beq_iff_eq,decide_eq_true_eq,and_assoc]
   generalize hh:Hd.of (headD (D.sec (aZ c p.1)))=hd at d e1 ⊢
   refine aE (aW rfl (qb (λb H'=>b=Hd.fits (D.sec (aZ c p.1)) p/\aA H' (aC q::aJ J (Hd.s4 hd)::aJ a1 (s5 p)::aJ sa (jD (some A.a) g p e 0)::bA A D::L)) (λb H' ⟨y,f⟩=>?_) λk' K=>?_))
   ·refine aE (aM (λcb=>?_) (λcb=>?_))
    ·rw[←y,if_pos cb] at e1
     refine aU (x:=p.1) f 2 rfl rfl (ak (x:=hd.2.2.1) f rfl (ak (x:=hd.2.2.2) f rfl (ak (x:=hd.2.1) f rfl (fb (vs:=s5 (p.1,1,hd.2.2.1,hd.2.2.2,hd.2.1)) f 2 rfl rfl rfl λo s=>?_))))
     have s:aA o (aC q::aJ J (Hd.s4 hd)::aJ a1 (s5 (p.1,1,hd.2.2.1,hd.2.2.2,hd.2.1))::aJ sa (jD (some A.a) g p e 0)::bA A D::L):=s
     exact fin _ b _ q o N s.aq rfl (by rw[e1];rfl) (by grind)
    ·rw[←y,if_neg (by rw[cb];simp)] at e1
     exact fin p b _ q H' N f.aq rfl (by rw[e1];rfl) (by grind)
   ·refine aM (λO=>?_) (λO=>K false R ⟨?_,d⟩)
    ·refine aD (aU (x:=false) d 3 rfl rfl (aE (aF rfl (cE (x:=p) d 2 rfl rfl rfl ?_))))
     exact Hd.AG (U.ext d.base) Y X λo aa=>K _ o ⟨rfl,d.ext aa⟩
    ·unfold Hd.fits
     cases h0:headD (D.sec (aZ c p.1)) with
     |none=>rfl
     |some x=>rw[h0] at O;cases O
theorem yI {b:Bs} (a:bP b):0<=dV b/\dV b<=7:=by
 have:=xv a 15 1
 unfold dV
 omega
theorem NX {a b:Bs} {k w:Nat} (h:k+w<=a.length):num (a++b) k w=num a k w:=by
 unfold num
 grind
def GM (p:Pos) (n:Int):Option (Rec×Int)->Option (Rec×Pos)
 |none=>none
 |some (r,sum)=>if r.cZ=p.2.2.1/\r.prev=p.2.2.2.1/\p.2.2.2.2<=r.aN then some (r,(p.1,p.2.1+n,r.cZ+1,sum,r.aN)) else none
theorem CP {c:ax} {D:Dk} {p:Pos} (h:¬c.2.2<=p.2.1):gd c D p=if dV (D.sec (aZ c p.1+p.2.1))=0∨c.2.2<p.2.1+dV (D.sec (aZ c p.1+p.2.1)) then none else GM p (dV (D.sec (aZ c p.1+p.2.1))) (wq (D.dQ (aZ c p.1+p.2.1) (dV (D.sec (aZ c p.1+p.2.1))).toNat)):=by
 rw[gd,if_neg h];rfl
theorem GN {p:Pos} {n:Int} {o:Option (Rec×Int)} {r:Rec} {q:Pos} (h:GM p n o=some (r,q)):∃s,o=some (r,s)/\q=(p.1,p.2.1+n,r.cZ+1,s,r.aN):=by
 unfold GM at h
 grind
theorem KQ {c:ax} {D:Dk} {p:Pos} {r:Rec} {q:Pos} (b:0<=dV (D.sec (aZ c p.1+p.2.1))) (h:gd c D p=some (r,q)):p.2.1<c.2.2/\q.1=p.1/\p.2.1<q.2.1/\q.2.1<=c.2.2:=by
 by_cases a:c.2.2<=p.2.1
 ·rw[gd,if_pos a] at h;cases h
 ·rw[CP a] at h
  split at h
  ·cases h
  ·obtain⟨s,_,rfl⟩:=GN h
   grind
theorem hZ {Q:R5->Pos->Bool->PH->Prop} (h:aA H (aC B::aJ sa (jD (some A.a) g p' e 0)::bA A D::L)) (ok:bu k D) (hk:k< 2 ^ 29) (hg:Gm B g c) (hc:bE c) (hn:all c<=D.now.length)
 (ag:0<=p.1/\p.1<c.2.1) (a0:1<=p.2.1/\p.2.1<=64)
 (hy:∀r q,gd c D p=some (r,q)->∀x f H',Ext B f->qC f x r->aA H' (aC f::aJ sa (jD (some A.a) g p' e 0)::bA A D::L)->Q x q true H')
 (ae:gd c D p=none->∀x q f H',Ext B f->aA H' (aC f::aJ sa (jD (some A.a) g p' e 0)::bA A D::L)->Q x q false H'):uq (some sa) p H Q:=by
 have aX:=qV hc
 obtain⟨a3,a5⟩:=kX hc ag
 refine bG h λa1 H1 h1=>bG h1 λn H2 h2=>bG h2 λl H3 V=>?_
 have no:gd c D p=none->∀(x:R5) (q:Pos) (z y:List Value) f H',Ext B f->aA H' (aC f::aJ l z::aJ n y::aJ a1 (s5 p)::aJ sa (jD (some A.a) g p' e 0)::bA A D::L)->z=s5 q->y=r5 x->
  aT r5 H' n 5 λaI=>aT s5 H' l 5 λal=>aV H' n (r5 aI) λac=>gQ ac l 5 (s5 al)<|aV ac l (s5 al) λN=>aT r5 N n 5 λaK=>aT s5 N l 5 λaL=>Q aK aL false N:=λhs x q z y f H' Z K ez U=>by
  subst ez;subst U
  refine cE (x:=x) K 2 rfl rfl rfl (cQ (x:=q) K rfl rfl (fb (vs:=r5 x) K 2 rfl rfl rfl λH4 o=>wy o 1 rfl rfl rfl (fb (vs:=s5 q) o 1 rfl rfl rfl λJ u=>cE (x:=x) u 2 rfl rfl rfl (cE (x:=q) u 1 rfl rfl rfl ?_))))
  exact ae hs x q f J Z (show aA J (aC f::aJ l (s5 q)::aJ n (r5 x)::aJ a1 (s5 p)::aJ sa (jD (some A.a) g p' e 0)::bA A D::L) from u).aq.aq.aq
 refine aU (x:=p.2.1) V 3 rfl rfl (aD (aU (x:=g) V 4 rfl rfl (mr (hg.ext V.base) λH4 x4=>?_)))
 have o:=V.ext x4
 refine dc o 3 rfl rfl (aM (λc1=>?_) (λc1=>?_))
 ·exact no (by rw[gd,if_pos (by simpa using c1)]) Cu (0,0,0,0,0) _ _ B H4 (.refl B) o rfl rfl
 have au:¬c.2.2<=p.2.1:=by grind
 refine aD (aU (x:=g) o 4 rfl rfl (aU (x:=p.1) o 3 rfl rfl (aU (x:=p.2.1) o 3 rfl rfl (zh (hg.ext o.base) hc ag λJ x5=>dc (o.ext x5) 3 rfl rfl ?_))))
 have u:=o.ext x5
 rw[cK (x:=aZ c p.1+p.2.1) (by omega) (by omega)]
 refine KP (i:=3) (j:=4) u rfl rfl ok hk (by omega) λr H6 W=>?_
 have W:aA H6 (aC B::aS u8 r (D.sec (aZ c p.1+p.2.1))::aJ l (s5 (0,0,0,0,0))::aJ n (r5 Cu)::aJ a1 (s5 p)::aJ sa (jD (some A.a) g p' e 0)::bA A D::L):=W
 have hl:=nZ ok (at_:=aZ c p.1+p.2.1) (by omega)
 have hb:=ru ok (at_:=aZ c p.1+p.2.1) (by omega)
 refine RH (W.list 1 rfl) hl hb λH7 x7=>?_
 have S:=W.ext x7
 have aH:=yI hb
 have es:=CP (D:=D) au
 generalize aj:dV (D.sec (aZ c p.1+p.2.1))=sz at aH es ⊢
 refine xq (b:=sz==0) (λk=>k) ?_
 refine E0 (b:=decide (c.2.2<p.2.1+sz)) (λk=>aU (x:=p.2.1) S 4 rfl rfl (aD (aU (x:=g) S 5 rfl rfl (mr (hg.ext S.base) λH8 Y=>dc (S.ext Y) 4 rfl rfl ?_)))) λH8 Y=>?_
 ·rw[cK (x:=p.2.1+sz) (by omega) (by omega)];exact k H8 Y
 have h8:=S.ext Y
 refine aM (λc2=>?_) (λc2=>?_)
 ·refine no ?_ Cu (0,0,0,0,0) _ _ B H8 (.refl B) h8.aq rfl rfl
  grind
 have aw:¬(sz=0∨c.2.2<p.2.1+sz):=by grind
 rw[if_neg aw] at es
 obtain⟨m,em⟩:∃m:Nat,sz=(m:Int)+1:=⟨(sz- 1).toNat,by omega⟩
 subst em
 have aQ:aZ c p.1+p.2.1+((m+1:Nat):Int)<=D.now.length:=by omega
 refine av m (λi st Hk=>st.2=((i+1:Nat):Int)/\∃f,Ext B f/\aA Hk (aC f::aS u8 st.1 (D.dQ (aZ c p.1+p.2.1) (i+1))::aJ l (s5 (0,0,0,0,0))::aJ n (r5 Cu)::aJ a1 (s5 p)::aJ sa (jD (some A.a) g p' e 0)::bA A D::L)) ⟨rfl,B,.refl B,by simpa[Dk.dQ] using h8⟩ ?_
 rintro i ⟨st,_⟩ H9 again hi ⟨ei,B9,am,h9⟩ ay
 simp only at ei h9;subst ei
 have ai:=zU ok (i+1) (aZ c p.1+p.2.1) (by omega) (by omega)
 refine aM (λc3=>?_) (λc3=>?_)
 ·have aB:i<m:=by grind
  rw[cK (x:=aZ c p.1+p.2.1+((i+1:Nat):Int)) (by omega) (by omega)]
  refine vW (i:=4) (j:=5) h9 rfl rfl ok hk (by grind) λa6 C ap I ar t=>aF rfl ?_
  have t:aA ap (aC C::aS u8 st (D.dQ (aZ c p.1+p.2.1) (i+1))::aJ l (s5 (0,0,0,0,0))::aJ n (r5 Cu)::aJ a1 (s5 p)::aJ sa (jD (some A.a) g p' e 0)::bA A D::L):=t
  have az:=nZ ok (at_:=aZ c p.1+p.2.1+((i+1:Nat):Int)) (by omega)
  refine pe t 1 rfl (ar.ext t.base) NQ rfl (by rw[ai,az];omega) λa2 aa F=>?_
  rw[bK (by omega)]
  refine ay aB _ _ ⟨rfl,C,am.trans I,?_⟩
  rw[DM]
  exact F
 ·have:i=m:=by grind
  subst this
  have ah:=CD ok (i+1) (aZ c p.1+p.2.1) (by omega) (by omega)
  have en:((i:Int)+1).toNat=i+1:=by omega
  rw[en] at es
  have ad:num (D.dQ (aZ c p.1+p.2.1) (i+1)) 15 1=(i:Int)/\tI (D.dQ (aZ c p.1+p.2.1) (i+1))=true:=by
   have O:∀k w,k+w<=64->num (D.dQ (aZ c p.1+p.2.1) (i+1)) k w=num (D.sec (aZ c p.1+p.2.1)) k w:=λk w aY=>by
    rw[Dk.dQ];exact NX (by omega)
   rw[GB] at aj
   split at aj
   ·next af=>
    refine⟨by rw[O 15 1 (by omega)];omega,?_⟩
    simp only[tI,O 0 1 (by omega),O 1 1 (by omega),O 14 1 (by omega),O 15 1 (by omega)] at af ⊢
    exact af
   ·omega
  refine iW h9 λC I bb t=>?_
  generalize D.dQ (aZ c p.1+p.2.1) (i+1)=bs at ai ah es ad bb
  have Z:Ext B C:=am.trans I
  have ak:∀(x:R5) f H',Ext C f->gd c D p=none->aA H' (aC f::aJ l (s5 (0,0,0,0,0))::aJ n (r5 x)::aJ a1 (s5 p)::aJ sa (jD (some A.a) g p' e 0)::bA A D::L)->
   aT s5 H' l 5 λT=>aV H' n (r5 Cu) λM=>gQ M l 5 (s5 T)<|aV M l (s5 T) λG=>aT r5 G n 5 λan=>aT s5 G l 5 λao=>Q an ao false G:=λx f H' aO hs K=>by
   refine cQ (x:=(0,0,0,0,0)) K rfl rfl (fb (vs:=r5 Cu) K 2 rfl rfl rfl λH4 o=>wy o 1 rfl rfl rfl (fb (vs:=s5 (0,0,0,0,0)) o 1 rfl rfl rfl λJ u=>cE (x:=Cu) u 2 rfl rfl rfl (cE (x:=(0,0,0,0,0)) u 1 rfl rfl rfl ?_)))
   exact ae hs Cu (0,0,0,0,0) f J (Z.trans aO) (show aA J (aC f::aJ l (s5 (0,0,0,0,0))::aJ n (r5 Cu)::aJ a1 (s5 p)::aJ sa (jD (some A.a) g p' e 0)::bA A D::L) from u).aq.aq.aq
  refine Rc.hG t bb ad.2 (by omega) ah (λU x s aa v X F=>?_) (λen s aa v F=>?_)
  ·rw[U] at es
   refine fb (vs:=r5 x) F 2 rfl rfl rfl λE d=>?_
   have d:aA E (aC s::aJ l (s5 (0,0,0,0,0))::aJ n (r5 x)::aJ a1 (s5 p)::aJ sa (jD (some A.a) g p' e 0)::bA A D::L):=d
   have aG:dH (gn bs)=true:=by
    rw[BJ] at U
    grind
   have aP:1<=(gn bs).cZ/\(gn bs).cZ<=2147483647:=by
    simp only[dH,Bool.and_eq_true] at aG
    exact KM.bD.1 (by grind)
   refine xq (b:=x.2.1 != p.2.2.1) (λk=>aU (x:=x.2.1) d 2 rfl rfl (aU (x:=p.2.2.1) d 3 rfl rfl k)) ?_
   refine xq (b:=x.2.2.1 != p.2.2.2.1) (λk=>aU (x:=x.2.2.1) d 2 rfl rfl (aU (x:=p.2.2.2.1) d 3 rfl rfl k)) ?_
   refine xq (b:=decide (x.1<p.2.2.2.2)) (λk=>aU (x:=x.1) d 2 rfl rfl (aU (x:=p.2.2.2.2) d 3 rfl rfl k)) ?_
   have e1:=X.e1;have e2:=X.e2;have e3:=X.e3
   refine aM (λc4=>ak x s E v ?_ d) (λc4=>?_)
   ·rw[es,GM,if_neg]
    grind
   ·have ax:gd c D p=some (gn bs,(p.1,p.2.1+((i:Int)+1),(gn bs).cZ+1,cX (gn bs),(gn bs).aN)):=by
     rw[es,GM,if_pos]
     grind
    refine cE (x:=x) d 2 rfl rfl rfl (aU (x:=p.1) d 3 rfl rfl (aU (x:=p.2.1) d 3 rfl rfl (aU (x:=x.2.1) d 2 rfl rfl (aU (x:=x.1) d 2 rfl rfl (fb (vs:=r5 x) d 2 rfl rfl rfl λaR P=>dc P 3 rfl rfl (dc P 3 rfl rfl ?_))))))
    rw[cK (x:=p.2.1+((i:Int)+1)) (by omega) (by omega),cK (x:=x.2.1+1) (by omega) (by omega),e1,e2]
    refine fb (vs:=s5 (p.1,p.2.1+((i:Int)+1),(gn bs).cZ+1,cX (gn bs),(gn bs).aN)) P 1 rfl rfl rfl λab R=>cE (x:=x) R 2 rfl rfl rfl (cE (x:=(p.1,p.2.1+((i:Int)+1),(gn bs).cZ+1,cX (gn bs),(gn bs).aN)) R 1 rfl rfl rfl ?_)
    exact hy _ _ ax x s ab (Z.trans v) X (show aA ab (aC s::aJ l (s5 (p.1,p.2.1+((i:Int)+1),(gn bs).cZ+1,cX (gn bs),(gn bs).aN))::aJ n (r5 x)::aJ a1 (s5 p)::aJ sa (jD (some A.a) g p' e 0)::bA A D::L) from R).aq.aq.aq
  ·rw[en] at es
   refine fb (vs:=r5 (0,0,0,Sl.nil,Sl.nil)) F 2 rfl rfl rfl λE d=>?_
   have d:aA E (aC s::aJ l (s5 (0,0,0,0,0))::aJ n (r5 Cu)::aJ a1 (s5 p)::aJ sa (jD (some A.a) g p' e 0)::bA A D::L):=d
   exact aE (aW rfl (aE (aW rfl (aE (aW rfl (aW rfl (ak Cu s E v es d)))))))
end
end Sc
end
section
namespace Sc
open Go Go.Kx KM Rw Cr Ds Ge Rc
def kY (c:ax) (D:Dk) (p:Pos):List (Pos×Rec)×Pos×Option Int:=match fK c D p with
 |none=>([],p,none)
 |some q=>la c D c.2.2.toNat q
structure HD (c:ax) (x:Pos×Rec):Prop where
 oV:0<=x.1.1/\x.1.1<c.2.1
 off:1<=x.1.2.1/\x.1.2.1<c.2.2
 may:dH x.2=true
theorem Oy {c:ax} {D:Dk} {p:Pos} (h:gd c D p=none):∀n,la c D n p=([],p,none)
 | 0=>rfl
 |n+1=>by rw[la,h]
theorem GO {c:ax} {D:Dk} {p q:Pos} {r:Rec} {g:Int} (h:gd c D p=some (r,q)) (a:dC r.items=some g) (n:Nat):la c D (n+1) p=([(p,r)],q,some g):=by
 rw[la,h];grind
theorem KR {c:ax} {D:Dk} {p q:Pos} {r:Rec} (h:gd c D p=some (r,q)) (a:dC r.items=none) (n:Nat):la c D (n+1) p=((p,r)::(la c D n q).1,(la c D n q).2):=by
 rw[la,h];grind
theorem T9 {c:ax} {D:Dk} {p q:Pos} (h:fK c D p=some q):(0<=q.1/\q.1<c.2.1)/\1<=q.2.1/\q.2.1<=max (c.2.2- 1) 1:=by
 unfold fK at h
 split at h
 ·next a=>
  simp only[Bool.and_eq_true,KM.bD] at a
  unfold wK at h
  grind
 ·cases h
theorem MA {c:ax} {D:Dk} {p:Pos} {r:Rec} {q:Pos} (h:gd c D p=some (r,q)):dH r=true:=by
 by_cases a:c.2.2<=p.2.1
 ·rw[gd,if_pos a] at h;cases h
 ·rw[CP a] at h
  split at h
  ·cases h
  ·obtain⟨s,b,_⟩:=GN h
   rw[BJ] at b
   grind
section
variable {H B:PH} {L:List Ob} {k:Nat} {A:DA} {D:Dk} {c:ax} {g:Option Addr} {sa c0:Addr} {p p' e:Pos} {err:Int}
theorem RO {Q:Value->PH->Prop} (h:aA H (aC B::L)) (b:∀c0 a H',Ext B a->aa a c0 [.pointer (some sa)]->aA H' (aC a::L)->Q (.func (.func 305) #[] #[.pointer (some c0)]) H'):qv (some sa) H Q:=
 gN h (by omega)
theorem CQ {i:Nat} {Q:Pos->PH->Prop} (h:aA H (aC B::L)) (hi:L[i]?=some (aJ sa (jD (some A.a) g p e err))) (j:∀H',aA H' (aC B::L)->Q e H'):rU (some sa) H Q:=
 bG h λa1 H1 b=>aF rfl (aD (pI (x:=e) b (i+2) hi (by simp) rfl (cF (vs:=s5 e) b rfl rfl λf d=>cQ (x:=e) d rfl rfl (j f d.aq))))
theorem E9 {i:Nat} {Q:Int->PH->Prop} (h:aA H (aC B::L)) (hi:L[i]?=some (aJ sa (jD (some A.a) g p e err))) (b:Q err H):ur (some sa) H Q:=
 aF rfl (aD (aU (x:=err) h (i+1) hi rfl b))
theorem MB {γ:Type} {Y:List Value->γ->PH->(Nat->γ->PH->Prop)->Prop} {g0:γ} {Q:Nat->γ->PH->Prop} (I:List (Pos×Rec)->Pos->Option Int->γ->PH->List Ob->Prop)
 (h:aA H (aC B::aJ sa (jD (some A.a) g p e err)::bA A D::L)) (am:aa B c0 [.pointer (some sa)]) (ok:bu k D) (hk:k< 2 ^ 29) (hg:Gm B g c) (X:bE c) (hn:all c<=D.now.length)
 (hI:∀l q n j A' O M,Ext A' O->I l q n j A' M->I l q n j O M)
 (h0:I [] ((fK c D p).getD p) none g0 B L)
 (step:∀pre x m T j f M u N K,Ext B f->I pre x.1 none j f M->pre++[x] <+: (kY c D p).1->HD c x->qC f m x.2->aA N (aC f::aJ u (s5 x.1)::aJ sa (jD (some A.a) g p T 0)::bA A D::M)->
  (∀F B3 V H3,Ext f B3->I (pre++[x]) T (dC x.2.items) F B3 V->aA H3 (aC B3::aJ u (s5 x.1)::aJ sa (jD (some A.a) g p T 0)::bA A D::V)->K 0 F H3)->
  Y [.agg (s5 x.1).toArray,.agg (r5 m).toArray] j N K)
 (fin:∀j f M N,Ext B f->I (kY c D p).1 (kY c D p).2.1 (kY c D p).2.2 j f M->aA N (aC f::aJ sa (jD (some A.a) g p (kY c D p).2.1 0)::bA A D::M)->Q 0 j N):sD c0 Y g0 H Q:=by
 have s:∀{H'},Ext B H'->aa H' c0 [.pointer (some sa)]:=λx=>am.ext x
 refine az (x:=some sa) (s h.base) (aF rfl (az (x:=some sa) (s h.base) ?_))
 refine yd h ok hk hg X hn λf H1 ab h1=>bG h1 λu N h2=>cF (vs:=s5 ((fK c D p).getD p)) h2 rfl rfl λH3 h3=>?_
 refine az (x:=some sa) (s (ab.trans h3.base)) (cQ (x:=(fK c D p).getD p) h3 rfl rfl (aD (xS (jD (some A.a) g p ((fK c D p).getD p) 0) h3 2 rfl (by simp) rfl rfl λH4 h4=>?_)))
 have au:=X.2.2.2.2
 refine av c.2.2.toNat (λi st Hk=>∃pre e1 nx j f M,st.2=(0,j)/\Ext B f/\I pre e1 nx j f M/\aA Hk (aC f::aJ u (s5 e1)::aJ sa (jD (some A.a) g p e1 0)::bA A D::M)/\
  ((st.1=false/\kY c D p=(pre,e1,nx))∨(st.1=true/\nx=none/\(0<=e1.1/\e1.1<c.2.1)/\1+i<=e1.2.1/\e1.2.1<=c.2.2/\kY c D p=(pre++(la c D (c.2.2.toNat-i) e1).1,(la c D (c.2.2.toNat-i) e1).2))))
  ⟨[],_,none,g0,f,L,rfl,ab,by grind,h4,?_⟩ ?_
 ·unfold kY
  cases hb:fK c D p with
  |none=>simp
  |some q=>
   obtain⟨q1,q2,q3⟩:=T9 hb
   grind
 rintro i ⟨more,st⟩ H5 again hi ⟨pre,e1,nx,j,B5,M,es,t,Z,W,S⟩ al
 simp only at es S;subst es
 refine aM (λcm=>?_) (λcm=>?_)
 ·rcases S with⟨hf,_⟩|⟨_,rfl,G,ax,ay,b⟩
  ·grind
  refine az (x:=some sa) (s (t.trans W.base)) (cQ (x:=e1) W rfl rfl ?_)
  have ak:=(W.swap.perm (L':=aC B5::aJ sa (jD (some A.a) g p e1 0)::bA A D::aJ u (s5 e1)::M) (.cons _ (.cons _ (.swap _ _ _))))
  have back:∀{H' O cs},aA H' (aC O::aJ sa cs::bA A D::aJ u (s5 e1)::M)->aA H' (aC O::aJ u (s5 e1)::aJ sa cs::bA A D::M):=λh=>h.perm (.cons _ ((List.Perm.cons _ (.swap _ _ _)).trans (.swap _ _ _)))
  refine hZ (p:=e1) ak ok hk (hg.ext t) X hn G (by grind) (λr q d m J H6 v hm h6=>?_) (λd x q J H6 v h6=>?_)
  ·refine bG (back h6) λC H7 h7=>bG h7 λE H8 h8=>fb (vs:=r5 m) h8 2 rfl rfl rfl λH9 h9=>fb (vs:=s5 q) h9 1 rfl rfl rfl λz o=>aF rfl ?_
   have o:aA z (aC J::aJ E (s5 q)::aJ C (r5 m)::aJ u (s5 e1)::aJ sa (jD (some A.a) g p e1 0)::bA A D::M):=o
   refine az (x:=some sa) (s (t.trans (v.trans o.base))) (cQ (x:=q) o rfl rfl (aD (xS (jD (some A.a) g p q 0) o 4 rfl (by simp) rfl rfl λag w=>?_)))
   have w:aA ag (aC J::aJ E (s5 q)::aJ C (r5 m)::aJ u (s5 e1)::aJ sa (jD (some A.a) g p q 0)::bA A D::M):=w
   refine cE (x:=m) w 2 rfl rfl rfl (DR (hm.ext w.base) λah ao=>?_)
   have P:=w.ext ao
   refine cE (x:=e1) P 3 rfl rfl rfl (cE (x:=m) P 2 rfl rfl rfl ⟨rfl,?_⟩)
   have ad:=KQ (yI (ru ok (at_:=aZ c e1.1+e1.2.1) ?_)).1 d
   ·obtain⟨o1,o2,o3,o4⟩:=ad
    have an:i<c.2.2.toNat:=by omega
    obtain⟨n,en⟩:∃n,c.2.2.toNat-i=n+1:=⟨c.2.2.toNat-i- 1,by omega⟩
    have ai:c.2.2.toNat-(i+1)=n:=by omega
    have ae:pre++[(e1,r)] <+: (kY c D p).1:=by
     rw[b,en]
     cases y:dC r.items with
     |none=>rw[KR d y];simp
     |some gg=>rw[GO d y];simp
    refine step pre (e1,r) m q j J M u ah _ (t.trans v) (by grind) ae ⟨G,⟨by show 1<=e1.2.1;omega,o1⟩,MA d⟩ hm P.aq.aq λF af V ap U ac R=>?_
    refine aF rfl (az (x:=some sa) (s ((t.trans (v.trans U)).trans R.base)) (aD (pI (en:=s5) (x:=q) R 2 rfl (by simp) rfl (cF (vs:=s5 q) R rfl rfl λar aj=>?_))))
    refine al an _ _ ⟨pre++[(e1,r)],q,dC r.items,F,af,V,rfl,t.trans (v.trans U),ac,aj,?_⟩
    rw[ai]
    cases y:dC r.items with
    |none=>
     rw[en,KR d y] at b
     exact .inr ⟨rfl,rfl,by rw[o2];exact G,by push_cast;omega,o4,by rw[b];simp⟩
    |some gg=>
     rw[en,GO d y] at b
     exact .inl ⟨rfl,b⟩
   ·obtain⟨s1,s2⟩:=kX X G
    have aw:e1.2.1<c.2.2:=by
     by_cases hh:c.2.2<=e1.2.1
     ·rw[gd,if_pos hh] at d;cases d
     ·omega
    omega
  ·refine bG (back h6) λC H7 h7=>bG h7 λE H8 h8=>fb (vs:=r5 x) h8 2 rfl rfl rfl λH9 h9=>fb (vs:=s5 q) h9 1 rfl rfl rfl λz o=>aW rfl ?_
   have o:aA z (aC J::aJ E (s5 q)::aJ C (r5 x)::aJ u (s5 e1)::aJ sa (jD (some A.a) g p e1 0)::bA A D::M):=o
   rw[Oy d,List.append_nil] at b
   have:=fin j J M z (t.trans v)
   rw[b] at this
   exact this (hI _ _ _ _ _ _ _ v Z) o.aq.aq.aq
 ·rcases S with⟨_,b⟩|⟨ht,_⟩
  ·have:=fin j B5 M H5 t
   rw[b] at this
   exact this Z W.aq
  ·simp only at cm;rw[ht] at cm;cases cm
end
end Sc
end
section
namespace Ch
open Go Go.Kx KM Rw Cr Ds Ge Rc Sc
abbrev tM (d g:Option Addr) (p e:Pos) (err:Int):List Value:=[.pointer d,.pointer g,i64 p.1,i64 p.2.1,i64 p.2.2.1,i64 p.2.2.2.1,i64 p.2.2.2.2,i64 e.1,i64 e.2.1,i64 e.2.2.1,i64 e.2.2.2.1,i64 e.2.2.2.2,i64 err]
def rZ (c:ax) (q:Pos) (nx:Option Int):Pos×Bool:=match nx with
 |none=>(q,false)
 |some g=>if bN g 0 (c.2.1- 1) then((g,0,q.2.2),true) else(q,false)
theorem UA (c:ax) (D:Dk) (n:Nat) (p:Pos):mG c D (n+1) p=if(rZ c (kY c D p).2.1 (kY c D p).2.2).2 then(mG c D n (rZ c (kY c D p).2.1 (kY c D p).2.2).1).map (λy=>((kY c D p).1++y.1,y.2)) else some ((kY c D p).1,(kY c D p).2.1):=by
 rw[mG]
 unfold kY
 cases fK c D p with
 |none=>rfl
 |some q=>
  simp only
  generalize la c D c.2.2.toNat q=x
  obtain⟨l,e,nx⟩:=x
  cases nx with
  |none=>rfl
  |some g=>
   simp only[rZ]
   grind
section
variable {H B:PH} {L:List Ob} {k:Nat} {A:DA} {D:Dk} {c:ax} {g:Option Addr} {ca c0:Addr} {p e:Pos} {err:Int}
theorem fO {d:Addr} {Q:Option Addr->PH->Prop} (h:aA H (aC B::L)) (b:Gm B g c) (i:∀ca H',aA H' (aC B::aJ ca (tM (some d) g p p 0)::L)->Q (some ca) H'):z7 (some d) g p H Q:=by
 obtain⟨f,rfl,j⟩:=b
 refine bG h λa1 H1 a=>aE (aF rfl (aF rfl ?_))
 refine cQ (x:=p) a rfl rfl (cQ (x:=p) a rfl rfl (bG a.aq (by omega)))
theorem HE {i:Nat} {m:R5} {r:Rec} {q:Pos} {Q:Pos->Bool->PH->Prop} (h:aA H (aC B::L)) (hi:L[i]?=some (aJ ca (tM (some A.a) g p e err))) (O:qC B m r) (M:Gm B g c) (K:bE c)
 (J:∀H',aA H' (aC B::L)->Q (rZ c q (dC r.items)).1 (rZ c q (dC r.items)).2 H'):ti (some ca) m q H Q:=by
 refine bG h λa1 H1 G=>bG G λu R I=>bG I λd S w=>cE (x:=m) w 3 rfl rfl rfl (DR (O.ext w.base) λF P=>?_)
 have n:=w.ext P
 have fin:∀(v:Pos) (b:Bool) H',aA H' (aC B::aJ d (s5 (0,0,0,0,0))::aJ u (s5 v)::aJ a1 (r5 m)::L)->v=(rZ c q (dC r.items)).1->b=(rZ c q (dC r.items)).2->
  aT s5 H' u 5 λC=>aV H' d (s5 C) λs=>aT s5 s d 5 λE=>Q E b s:=λv b H' l e1 e2=>by
  refine cE (x:=v) l 2 rfl rfl rfl (cF (vs:=s5 v) l rfl rfl λy o=>cQ (x:=v) o rfl rfl ?_)
  rw[e1,e2]
  exact J y o.aq.aq.aq
 refine qb (λb H'=>b=(rZ c q (dC r.items)).2/\aA H' (aC B::aJ d (s5 (0,0,0,0,0))::aJ u (s5 q)::aJ a1 (r5 m)::L)) (λb H' ⟨f,l⟩=>?_) λT t=>?_
 ·refine aE (aM (λcb=>?_) (λcb=>?_))
  ·rw[cb] at f
   have e2:(rZ c q (dC r.items)).1=((dC r.items).getD 0,0,q.2.2):=by
    unfold rZ at f ⊢
    grind
   refine cU (j:=0) l 2 rfl (by simp) rfl λy o=>cU (j:=1) o 2 rfl (by simp) rfl (by grind)
  ·rw[cb] at f
   have e2:(rZ c q (dC r.items)).1=q:=by
    unfold rZ at f ⊢
    grind
   grind
 ·refine aM (λc1=>?_) (λc1=>t _ _ ⟨?_,n⟩)
  ·refine aD (aU (x:=g) n (i+4) hi rfl (oH (M.ext n.base) K (t _ F ⟨?_,n⟩)))
   cases N:dC r.items with
   |none=>grind
   |some z=>
    simp only[rZ,Option.getD_some]
    show bN z 0 (c.2.1- 1)=_
    grind
  ·cases N:dC r.items with
   |none=>rfl
   |some z=>grind
theorem Oz {Q:Value->PH->Prop} (h:aA H (aC B::L)) (b:∀c0 a H',Ext B a->aa a c0 [.pointer (some ca)]->aA H' (aC a::L)->Q (.func (.func 297) #[] #[.pointer (some c0)]) H'):oM (some ca) H Q:=
 gN h (by omega)
theorem CQ {i:Nat} {Q:Pos->PH->Prop} (h:aA H (aC B::L)) (hi:L[i]?=some (aJ ca (tM (some A.a) g p e err))) (j:∀H',aA H' (aC B::L)->Q e H'):sR (some ca) H Q:=
 bG h λa1 H1 b=>aF rfl (aD (pI (x:=e) b (i+2) hi (by simp) rfl (cF (vs:=s5 e) b rfl rfl λf d=>cQ (x:=e) d rfl rfl (j f d.aq))))
theorem E9 {i:Nat} {Q:Int->PH->Prop} (h:aA H (aC B::L)) (hi:L[i]?=some (aJ ca (tM (some A.a) g p e err))) (b:Q err H):sS (some ca) H Q:=
 aF rfl (aD (aU (x:=err) h (i+1) hi rfl b))
end
end Ch
end
section
namespace Ch
open Go Go.Kx KM Rw Cr Ds Ge Rc Sc
section
variable {H B:PH} {L:List Ob} {k:Nat} {A:DA} {D:Dk} {c:ax} {g:Option Addr} {ca c0:Addr} {p e en:Pos} {err:Int}
def segI {γ:Type} (c:ax) (A:DA) (g:Option Addr) (p i:Pos) (h:Int) (ca am:Addr) (done:List (Pos×Rec)) (J:List (Pos×Rec)->γ->PH->List Ob->Prop)
    (pre:List (Pos×Rec)) (q:Pos) (nx:Option Int) (f:Nat×γ) (B:PH) (M:List Ob):Prop:=
 f.1=0/\∃d b,J (done++pre) f.2 B b/\M=aJ ca (tM (some A.a) g p d 0)::aJ am [.bool (rZ c q nx).2]::b/\(nx.isSome->d=(rZ c q nx).1)
theorem KT {γ:Type} {yv:Value} {Y:List Value->γ->PH->(Nat->γ->PH->Prop)->Prop} {g0:γ} {Q:Nat->γ->PH->Prop} (n:Nat) (l:List (Pos×Rec)) (J:List (Pos×Rec)->γ->PH->List Ob->Prop)
 (f:mG c D n p=some (l,en)) (h:aA H (aC B::aJ ca (tM (some A.a) g p e err)::bA A D::L)) (bd:aa B c0 [.pointer (some ca)]) (ok:bu k D) (hk:k< 2 ^ 29) (hg:Gm B g c) (hc:bE c) (hn:all c<=D.now.length)
 (hJ:∀l r A' B' M,Ext A' B'->J l r A' M->J l r B' M) (h0:J [] g0 B L)
 (step:∀pre x m r z M P H2 K,Ext B z->J pre r z M->pre++[x] <+: l->HD c x->qC z m x.2->aA H2 (aC z::(P++M))->
  (∀ae B3 M3 H3,Ext z B3->J (pre++[x]) ae B3 M3->aA H3 (aC B3::(P++M3))->K 0 ae H3)->Y [.agg (s5 x.1).toArray,.agg (r5 m).toArray] r H2 K)
 (fin:∀r z M H2,Ext B z->J l r z M->aA H2 (aC z::aJ ca (tM (some A.a) g p en 0)::bA A D::M)->Q 0 r H2):pV c0 yv Y g0 H Q:=by
 have o:∀{H'},Ext B H'->aa H' c0 [.pointer (some ca)]:=λx=>bd.ext x
 refine gN h λa1 z H1 T r1 h1=>?_
 refine az (x:=some ca) (o (T.trans h1.base)) (aF rfl ?_)
 have al:=o (T.trans h1.base)
 refine az (x:=some ca) al (az (x:=some ca) al (az (x:=some ca) al (aD (pI (en:=s5) (x:=p) h1 1 rfl (by simp) rfl (aD (xS (tM (some A.a) g p p err) h1 1 rfl (by simp) rfl rfl λH2 h2=>?_))))))
 refine ig (o (T.trans (h2:aA H2 (aC z::_)).base)) (aD (cU (j:=12) h2 1 rfl (by simp) rfl λH3 h3=>?_))
 have h3:aA H3 (aC z::aJ ca (tM (some A.a) g p p 0)::bA A D::L):=h3
 refine bG h3 λbj H4 h4=>jF h4 1 rfl rfl λH5 h5=>?_
 refine av n (λi st Hk=>∃I rest r B5 M b more,st.2=(0,r)/\Ext z B5/\J I r B5 M/\l=I++rest/\aA Hk (aC B5::aJ st.1 [.bool more]::aJ ca (tM (some A.a) g p b 0)::bA A D::M)/\
  (more=true->mG c D (n-i) b=some (rest,en))/\(more=false->rest=[]/\b=en)) ⟨[],l,g0,z,L,p,true,rfl,.refl _,hJ _ _ _ _ _ T h0,rfl,h5,λ_=>f,λh=>by cases h⟩ ?_
 rintro i ⟨am,st⟩ H6 again hi ⟨I,rest,r,B6,M,b,more,es,ab,aO,hl,Z,ay,ax⟩ aP
 simp only at es Z;subst es
 refine eB (x:=more) Z 1 rfl (aM (λcm=>?_) (λcm=>?_))
 ·subst cm
  have f:=ay rfl
  obtain⟨n',a6⟩:∃n',n-i=n'+1:=by
   cases hh:n-i with
   |zero=>rw[hh] at f;cases f
   |succ n'=>exact⟨n',rfl⟩
  have aR:i<n:=by omega
  rw[a6,UA] at f
  have au:=T.trans ab
  refine aE (aE ?_)
  have ar:=o (au.trans Z.base)
  refine az (x:=some ca) ar (aD (aU (x:=some A.a) Z 2 rfl rfl (az (x:=some ca) ar (aD (aU (x:=g) Z 2 rfl rfl (az (x:=some ca) ar (aD (pI (en:=s5) (x:=b) Z 2 rfl (by simp) rfl ?_))))))))
  refine Sc.fO Z (hg.ext au) λsa H7 h7=>bG h7 λaS H8 h8=>jF h8 1 rfl rfl λH9 h9=>Fz (show aA H9 (aC B6::aJ aS [.pointer (some sa)]::aJ sa (jD (some A.a) g b b 0)::aJ am [.bool true]::aJ ca (tM (some A.a) g p b 0)::bA A D::M) from h9) λB9 ac V h9=>?_
  refine jF h9 2 rfl rfl λa0 af=>?_
  have af:aA a0 (aC B9::aJ sa (jD (some A.a) g b b 0)::aJ am [.bool false]::aJ ca (tM (some A.a) g p b 0)::bA A D::M):=af
  refine az (x:=some sa) (V.ext af.base) (Sc.RO af λcp aZ a2 s bg a7=>?_)
  have w:=au.trans (ac.trans s)
  have aT:aA a2 (aC aZ::aJ sa (jD (some A.a) g b b 0)::bA A D::(aJ ca (tM (some A.a) g p b 0)::aJ am [.bool false]::M)):=a7.perm (.cons _ (.cons _ ((List.Perm.cons _ (.swap _ _ _)).trans ((List.Perm.swap _ _ _).trans (.cons _ (.swap _ _ _))))))
  have wp:∀{H' B' cs ds es} {N:List Ob},aA H' (aC B'::aJ sa cs::bA A D::(aJ ca ds::aJ am es::N))->aA H' (aC B'::aJ sa cs::aJ am es::aJ ca ds::bA A D::N):=λh=>h.perm (.cons _ (.cons _ ((List.Perm.cons _ (.swap _ _ _)).trans ((List.Perm.swap _ _ _).trans (.cons _ (.swap _ _ _))))))
  refine BB cp _ _ _ _ (MB (segI c A g p b 0 ca am I J) aT bg ok hk (hg.ext w) hc hn ?_ ?_ ?_ ?_)
  ·rintro l q nx r A' B' M x ⟨h1,ec,W,h2,h3,h4⟩
   exact⟨h1,ec,W,hJ _ _ _ _ _ x h2,h3,h4⟩
  ·exact⟨rfl,b,M,by rw[List.append_nil];exact hJ _ _ _ _ _ (ac.trans s) aO,rfl,λh=>by cases h⟩
  ·rintro pre x m v ⟨j,r⟩ E _ a9 a3 K d ⟨e0,ec,W,S,rfl,aQ⟩ aW be hm ak aw
   simp only at e0 S;subst e0
   refine⟨x.1,m,rfl,bG ak λai bh u=>cF (vs:=s5 x.1) u rfl rfl λa4 O=>bG O λaj aG ag=>cF (vs:=r5 m) ag rfl rfl λaH C=>?_⟩
   have ao:=o ((w.trans d).trans C.base)
   refine az (x:=some ca) ao (az (x:=some ca) ao (cQ (x:=m) C rfl rfl (az (x:=some sa) ((V.ext (s.trans d)).ext C.base) (Sc.CQ (i:=3) C rfl λaI F=>wy F 1 rfl rfl rfl ?_))))
   have ap:=o ((w.trans d).trans F.base)
   refine ig ap (ig ap (HE (i:=5) F rfl hm (hg.ext (w.trans d)) hc λaK G=>?_))
   have aX:=o ((w.trans d).trans G.base)
   refine ig aX (aD (xS (tM (some A.a) g p (rZ c v (dC x.2.items)).1 0) G 6 rfl (by simp) rfl rfl λbi a8=>jF a8 7 rfl rfl λaL R=>?_))
   have R:aA aL (aC E::aJ aj (r5 m)::aJ ai (s5 x.1)::aJ a9 (s5 x.1)::aJ sa (jD (some A.a) g b v 0)::bA A D::aJ ca (tM (some A.a) g p (rZ c v (dC x.2.items)).1 0)::aJ am [.bool (rZ c v (dC x.2.items)).2]::W):=R
   refine az (en:=id) (x:=yv) (((r1.ext (ab.trans (ac.trans s))).ext d).ext R.base) (cE (x:=x.1) R 2 rfl rfl rfl (cQ (x:=m) R rfl rfl ⟨rfl,rfl,?_⟩))
   refine step (I++pre) x m r E W [aJ aj (r5 m),aJ ai (s5 x.1),aJ a9 (s5 x.1),aJ sa (jD (some A.a) g b v 0),bA A D,aJ ca (tM (some A.a) g p (rZ c v (dC x.2.items)).1 0),aJ am [.bool (rZ c v (dC x.2.items)).2]] aL _ (w.trans d) S ?_ be hm R λae aB M3 aN aY bc ba=>aF rfl ?_
   ·obtain⟨t,ht⟩:=aW
    rw[hl,List.append_assoc]
    have:∃t2,rest=(kY c D b).1++t2:=by
     split at f
     ·obtain⟨y,hy,ey⟩:=Option.map_eq_some_iff.1 f
      cases ey;exact⟨y.1,rfl⟩
     ·cases f;exact⟨[],by simp⟩
    obtain⟨t2,bf⟩:=this
    refine⟨t++t2,?_⟩
    rw[bf,←ht];simp
   ·have bb:aA aN (aC aB::aJ aj (r5 m)::aJ ai (s5 x.1)::aJ a9 (s5 x.1)::aJ sa (jD (some A.a) g b v 0)::bA A D::aJ ca (tM (some A.a) g p (rZ c v (dC x.2.items)).1 0)::aJ am [.bool (rZ c v (dC x.2.items)).2]::M3):=ba
    exact aw (0,ae) aB _ aN aY ⟨rfl,_,M3,by rw[←List.append_assoc];exact bc,rfl,λ_=>rfl⟩ bb.aq.aq
  ·rintro⟨j,r⟩ E _ a3 d ⟨e0,ec,W,S,rfl,aQ⟩ ak
   simp only at e0 S;subst e0
   have u:=wp ak
   have ad:=w.trans d
   refine aF rfl (eB u 2 rfl (aM (λcm=>?_) (λcm=>?_)))
   ·have X:(rZ c (kY c D b).2.1 (kY c D b).2.2).2=false:=by simpa using cm
    rw[X] at f u
    have an:=o (ad.trans u.base)
    have ah:=(V.ext (s.trans d)).ext u.base
    refine az (x:=some ca) an (az (x:=some ca) an (az (x:=some sa) ah (az (x:=some sa) ah (Sc.CQ (i:=0) u rfl λa4 O=>?_))))
    have U:=o (ad.trans O.base)
    refine ig ((V.ext (s.trans d)).ext O.base) (ig U (ig U (Sc.E9 (i:=0) O rfl (ig U (ig U (aD (xS (tM (some A.a) g p (kY c D b).2.1 0) O 3 rfl (by simp) rfl rfl λaG ag=>?_)))))))
    refine ig (o (ad.trans (ag:aA aG (aC E::_)).base)) (aD (cU (j:=12) ag 3 rfl (by simp) rfl λaH C=>?_))
    have C:aA aH (aC E::aJ sa (jD (some A.a) g b (kY c D b).2.1 0)::aJ am [.bool false]::aJ ca (tM (some A.a) g p (kY c D b).2.1 0)::bA A D::W):=C
    rw[if_neg (by simp)] at f
    injection f with f
    obtain⟨e1,e2⟩:=Prod.mk.inj f
    refine eB (x:=false) C 2 rfl (bG C.aq.aq λa5 aI F=>jF F 1 rfl rfl λaK G=>aP aR _ _ ⟨l,[],r,E,W,en,false,rfl,ab.trans ((ac.trans s).trans d),?_,by simp,?_,λh=>(by cases h),λ_=>⟨rfl,rfl⟩⟩)
    ·rw[hl,←e1];exact S
    ·rw[e2] at G;exact G
   ·have X:(rZ c (kY c D b).2.1 (kY c D b).2.2).2=true:=by simpa using cm
    rw[X] at f u
    rw[if_pos rfl] at f
    obtain⟨y,hy,ey⟩:=Option.map_eq_some_iff.1 f
    obtain⟨e1,e2⟩:=Prod.mk.inj ey
    have aV:ec=(rZ c (kY c D b).2.1 (kY c D b).2.2).1:=aQ (by
     cases hh:(kY c D b).2.2 with
     |none=>rw[hh] at X;cases X
     |some _=>rfl)
    subst aV
    refine eB (x:=true) u 2 rfl (bG u.aq.aq λa5 aI F=>jF F 1 rfl rfl λaK G=>aP aR _ _ ⟨I++(kY c D b).1,y.1,r,E,W,_,true,rfl,ab.trans ((ac.trans s).trans d),S,?_,G,λ_=>?_,λh=>(by cases h)⟩)
    ·rw[hl,List.append_assoc,e1]
    ·rw[show n-(i+1)=n' by omega,hy,←e2]
 ·subst cm
  obtain⟨rfl,rfl⟩:=ax rfl
  rw[List.append_nil] at hl;subst hl
  exact fin r B6 M H6 (T.trans ab) aO Z.aq
end
end Ch
end
section
namespace Ig
open Go Go.Kx KM
theorem FA (x:Int):cg (Value.int .i64 x)=true:=rfl
theorem KU {H B:PH} {L:List Ob} {n per v:Int} {Q:Option Addr->PH->Prop} (h:aA H (aC B::L)) (j:1<=n/\n<=65536/\1<=per/\per<=65536)
 (g:∀c a s t H',Ext B c->aa c a (qD s t per)->aA H' (aC c::(L++[aS E s (List.replicate n.toNat v),aS Value.bool t (List.replicate (nP n per).toNat false)]))->Q (some a) H'):oa n per v H Q:=by
 refine fO (by omega) λ_ a s t H1 d=>?_
 have i:=h.aG d
 have e:aA H1 (aC B::(L++[aS E s (List.replicate n.toNat v),aS Value.bool t (List.replicate (nP n per).toNat false)])++[aJ a (qD s t per)]):=by
  grind
 obtain⟨c,x,r,f⟩:=e.freeze
 exact g c a s t H1 x r f
theorem KV {n per:Int} (c:1<=n/\n<=65536/\1<=per/\per<=65536) {v:Int}:qU (List.replicate n.toNat v).length per (List.replicate (nP n per).toNat false):=by
 have:=NU c.1 c.2.2.1
 have:=gI c.1 c.2.2.1
 refine⟨by simp;omega,by simp;omega,c.2.2.1,c.2.2.2,?_⟩
 grind
theorem qU.set {l:List Int} {per:Int} {d:List Bool} (ok:qU l.length per d) (k v:Int):qU (pX qd l k v).length per (zP qd per l d k v):=by
 refine⟨by rw[ze];exact ok.n1,by rw[ze];exact ok.n2,ok.p1,ok.p2,by rw[ze,T6];exact ok.d⟩
theorem qU.clean {n:Nat} {per:Int} {d:List Bool} (ok:qU n per d):qU n per (List.replicate d.length false):=⟨ok.n1,ok.n2,ok.p1,ok.p2,by rw[List.length_replicate];exact ok.d⟩
theorem qU.GP {n:Nat} {per:Int} {d:List Bool} (ok:qU n per d):d.length<=65536:=by
 have c:=ok.d;have e:=ok.n2;have f:=ok.n1
 have:=gI (n:=n) (per:=per) (by omega) ok.p1
 omega
theorem uA {l:List Int} {b x:Int} (c:0<=b) (d:b<l.length) (e:l[b.toNat]?=some x):bT l b=x:=by rw[bT,if_pos ⟨c,d⟩];simp[List.getD,e]
structure qW (B:PH) (a b o:Addr) (s0 t0 s1 t1:Sl):Prop where
 im:aa B a [.pointer (some b),.pointer (some o)]
 rb:aa B b (qD s0 t0 15)
 ro:aa B o (qD s1 t1 15)
theorem qW.ext {B c:PH} {a b o:Addr} {s0 t0 s1 t1:Sl} (r:qW B a b o s0 t0 s1 t1) (x:Ext B c):qW c a b o s0 t0 s1 t1:=⟨r.im.ext x,r.rb.ext x,r.ro.ext x⟩
structure dN (n:Nat) (M:Im):Prop where
 p0:qU M.l0.length 15 M.d0
 p1:qU M.l1.length 15 M.d1
 n0:M.l0.length=n
 n1:M.l1.length=n
 uD:n<=64
 FB:1<=n
def dO (s0 t0 s1 t1:Sl) (M:Im):List Ob:=[aS E s0 M.l0,aS Value.bool t0 M.d0,aS E s1 M.l1,aS Value.bool t1 M.d1]
theorem dN.put {n:Nat} {M:Im} (ok:dN n M) (aG:Bool) (b at':Int):dN n (M.put aG b at'):=by
 cases aG with
 |true=>exact⟨ok.p0,ok.p1.set b at',ok.n0,by show(pX qd M.l1 b at').length=n;rw[ze];exact ok.n1,ok.uD,ok.FB⟩
 |false=>exact⟨ok.p0.set b at',ok.p1,by show(pX qd M.l0 b at').length=n;rw[ze];exact ok.n0,ok.n1,ok.uD,ok.FB⟩
theorem dN.cP {n:Nat} {M:Im} (ok:dN n M) (aG:Bool):(M.cP aG).length=n:=by cases aG;exact ok.n0;exact ok.n1
section
variable {H B:PH} {R:List Ob} {a b o:Addr} {s0 t0 s1 t1:Sl} {M:Im} {n:Nat}
theorem fx {aG:Bool} {Q:Option Addr->PH->Prop} (r:qW H a b o s0 t0 s1 t1) (d:Q (some (if aG then o else b)) H):cv (some a) aG H Q:=by
 refine aF rfl (aM (λc=>?_) (λc=>?_))
 ·rw[c] at d;exact aD (aX (x:=some o) r.im rfl d)
 ·rw[c] at d;exact aD (aX (x:=some b) r.im rfl d)
theorem nR {Q:Int->PH->Prop} (r:qW H a b o s0 t0 s1 t1) (d:(s0.len:Int)=n) (c:Q n H):iq (some a) H Q:=
 fx r (aF rfl (aD (aX (x:=s0) r.rb rfl (by grind))))
theorem oH {x k:Int} {Q:Bool->PH->Prop} (r:qW H a b o s0 t0 s1 t1) (d:(s0.len:Int)=n) (f:n<=64) (e:Q (decide (1<=k/\k<=n/\0<=x/\x<=n-k)) H):ou (some a) x k H Q:=by
 have no:¬(1<=k/\k<=n/\0<=x/\x<=n-k)->Q false H:=(by grind)
 refine aE (aM (λc=>nR r d (aE (aM (λc1=>aE ?_) (λc1=>aE (aF rfl (no ?_)))))) (λc=>aE (aF rfl (aE (aF rfl (no ?_))))))
 ·refine aM (λc2=>nR r d ?_) (λc2=>no ?_)
  ·have k1:1<=k:=by simpa using c
   have k2:k<=n:=by grind
   have k3:0<=x:=by grind
   rw[bC (by omega) (by omega)]
   grind
  grind
 ·grind
 grind
theorem Hv {L:List Ob} {p:Addr} {s t:Sl} {l:List Int} {d:List Bool} {x at':Int} {Q:Int->PH->Prop} (h:aA H L) (r:aa H p (qD s t 15)) (i j:Nat) (hi:L[i]?=some (aS E s l)) (v:L[j]?=some (aS Value.bool t d)) (f:i≠j) (ok:qU l.length 15 d)
 (u:∀H',aA H' ((L.set i (aS E s (pX qd l x at'))).set j (aS Value.bool t (zP qd 15 l d x at')))->Q (gone (bT l x) at') H'):qc (some p) x at' H Q:=by
 have fin:∀y:Int,y=bT l x->iN (some p) x at' H λA e=>aL (y==at') (Q 0 e) (Q (if y< 0 then 0 else y) e):=by
  rintro _ rfl
  refine KJ h r i j hi v f ok λH' g=>?_
  have q:=u H' g
  unfold gone at q
  refine aM (λc=>?_) (λc=>?_)
  ·grind
  grind
 refine dK r (h.list i hi) (λy k m z=>fin y (uA k m z).symm) (λw=>fin 0 (by rw[bT,if_neg w]))
theorem pZ {aG:Bool} {x at':Int} {Q:Int->PH->Prop} (h:aA H (aC B::(dO s0 t0 s1 t1 M++R))) (r:qW B a b o s0 t0 s1 t1) (ok:dN n M)
 (d:∀H',aA H' (aC B::(dO s0 t0 s1 t1 (M.put aG x at')++R))->Q (gone (bT (M.cP aG) x) at') H'):qc (some (if aG then o else b)) x at' H Q:=by
 cases aG with
 |true=>exact Hv h (r.ext h.base).ro 3 4 rfl rfl (by decide) ok.p1 λH' c=>d H' c
 |false=>exact Hv h (r.ext h.base).rb 1 2 rfl rfl (by decide) ok.p0 λH' c=>d H' c
theorem DU {M:Im} (h:aA H (aC B::(dO s0 t0 s1 t1 M++R))) (ok:dN n M):(s0.len:Int)=n:=by
 rw[(h.list (enc:=E) 1 rfl).bL,ok.n0]
theorem hZ {aG:Bool} {x at':Int} {Q:Int->Bool->PH->Prop} (h:aA H (aC B::(dO s0 t0 s1 t1 M++R))) (r:qW B a b o s0 t0 s1 t1) (ok:dN n M) (g:0<=x/\x<n) (e:1<=at'/\at'< 4096)
 (c:∀H',aA H' (aC B::(dO s0 t0 s1 t1 (M.put aG x at')++R))->Q (gone (bT (M.cP aG) x) at') true H'):sQ (some a) aG x at' H Q:=by
 have d:=ok.uD
 have f:=ok.FB
 refine oH (r.ext h.base) (DU h ok) d ?_
 rw[decide_eq_true (show 1<=(1:Int)/\(1:Int)<=n/\0<=x/\x<=n- 1 from⟨by omega,by omega,by omega,by omega⟩)]
 refine aE (aF rfl ?_)
 rw[decide_eq_false (show¬at'< 1 by omega)]
 refine aE (aF rfl ?_)
 rw[decide_eq_false (show¬4096<=at' by omega)]
 exact aF rfl (fx (r.ext h.base) (pZ h r ok c))
theorem KW {x:Int} {Q:Int->Bool->PH->Prop} (h:aA H (aC B::(dO s0 t0 s1 t1 M++R))) (r:qW B a b o s0 t0 s1 t1) (c:Q (bT M.l0 x) (decide (0<=x/\x<M.l0.length)) H):sV (some a) x H Q:=by
 refine fx (r.ext h.base) (dK (r.ext h.base).rb (h.list 1 rfl) (λy d e g=>?_) (λf=>?_))
 ·rw[uA d e g,decide_eq_true ⟨d,e⟩] at c;exact c
 ·rw[bT,if_neg f,decide_eq_false f] at c;exact c
end
theorem Ys {H:PH} {L N:List Ob} (h:aA H (L++[sC N])):aA H (L++N):=by
 have l:aA H N:=h.all L.length (sC N) (by simp)
 have f:∀(j:Nat) (A:Ob),(L++N)[j]?=some A->(j<L.length/\L[j]?=some A)∨(L.length<=j/\N[j-L.length]?=some A):=(by grind)
 have key:∀(i j:Nat) (A B:Ob),L[i]?=some A->N[j]?=some B->Dj A B:=λi j A B hi d c m hf=>by
  have g:=(List.getElem?_eq_some_iff.1 hi).1
  exact h.dj i L.length A (sC N) (by rw[List.getElem?_append_left g];exact hi) (by simp) (by omega) c m ⟨j,B,d,hf⟩
 refine⟨λj A d=>?_,λi j A B hi d k=>?_⟩
 ·rcases f j A d with⟨e,d⟩|⟨_,d⟩
  ·exact h.all j A (by grind)
  ·exact l.all _ A d
 ·rcases f i A hi with⟨e1,hi⟩|⟨e1,hi⟩<;>rcases f j B d with⟨e2,d⟩|⟨e2,d⟩
  ·exact h.dj i j A B (by grind) (by grind) k
  ·grind
  ·exact(key j _ B A d hi).symm
  ·exact l.dj _ _ A B hi d (by omega)
section
variable {H:PH} {a:Addr} {s t:Sl} {per:Int}
theorem AK {γ:Type} {c0:Addr} {Y:List Value->γ->PH->(Nat->γ->PH->Prop)->Prop} {g0:γ} {Q:Nat->γ->PH->Prop} (N:Nat) (ls:Nat->List Int) (I:Nat->γ->PH->Prop) (hd:N<=65536) (e:∀k,(ls k).length=N)
 (f:∀k g H,I k g H->cellAt H c0=some (.pointer (some a))/\aa H a (qD s t per)/\cL E H s (ls k)) (p:I 0 g0 H)
 (step:∀k g H K x,k<N->I k g H->(ls k)[k]?=some x->(∀d H',I (k+1) d H'->K 0 d H')->(∀j d H',j≠0->Q j d H'->K j d H')->Y [.int .i64 k,.int .i64 x] g H K)
 (fin:∀g H,I N g H->Q 0 g H):pW c0 Y g0 H Q:=by
 obtain⟨m,r0,l0⟩:=f _ _ _ p
 have q:=e 0
 refine⟨some a,m,zf r0 l0.bL ?_⟩
 rw[q]
 refine av N (λk st l=>∃g,st=((k:Int),(0,g))/\I k g l) (by grind) ?_
 rintro k st H1 again hk ⟨g,rfl,hi⟩ v
 obtain⟨e1,r1,l1⟩:=f _ _ _ hi
 have u:=e k
 refine aM (λc=>?_) (λc=>?_)
 ·have h:k<N:=by simpa using c
  have y:=bK (k:=k) (by omega)
  refine⟨some a,e1,aD (aX (x:=s) r1 rfl (dm l1 (by omega) (by omega) λx i=>⟨rfl,?_⟩))⟩
  rw[Int.toNat_natCast] at i
  refine step k g H1 _ x h hi i (λd H' w=>aF rfl ?_) (λj d H' z r=>aW (by grind) r)
  grind
 grind
end
theorem KX {n:Nat} (h:1<=n/\n<=64):dN n (mF n):=by
 have g:1<=(n:Int)/\(n:Int)<=65536/\1<=(15:Int)/\(15:Int)<=65536:=(by grind)
 exact⟨KV g (v:=0),KV g (v:= -1),by simp[mF],by simp[mF],h.2,h.1⟩
theorem RP {H B:PH} {L:List Ob} {n:Nat} {Q:Option Addr->PH->Prop} (h:aA H (aC B::L)) (w:1<=n/\n<=64)
 (m:∀c a b o s0 t0 s1 t1 H',Ext B c->qW c a b o s0 t0 s1 t1->aA H' (aC c::(L++dO s0 t0 s1 t1 (mF n)))->Q (some a) H'):z6 n H Q:=by
 have g:1<=(n:Int)/\(n:Int)<=65536/\1<=(15:Int)/\(15:Int)<=65536:=(by omega)
 refine aE (aF (by simp;omega) (aF (by simp;omega) (KU h g λu b s0 t0 H1 q r1 i=>KU i g λf o s1 t1 v e p j=>lW j λa d k y=>?_)))
 obtain⟨c,x,r,l⟩:=(show aA d (aC f::(L++dO s0 t0 s1 t1 (mF n))++[aJ a [.pointer (some b),.pointer (some o)]]) by simpa[dO,mF] using k).freeze
 exact m c a b o s0 t0 s1 t1 d (q.trans (e.trans x)) ⟨r,r1.ext (e.trans x),p.ext x⟩ l
theorem KY (z:Int):(gl z).length<=1:=by unfold gl;grind
theorem GQ {aG:Bool} {b:Int} {M:Im} {n:Nat} (ok:dN n M):∀i,dN n (gZ aG b M i).1/\(gZ aG b M i).2.length<=i
 | 0=>⟨ok,Nat.le_refl _⟩
 |i+1=>⟨(GQ ok i).1.put aG (b+i) 0,by
  have c:=(GQ (aG:=aG) (b:=b) ok i).2
  have d:=KY (gone (bT ((gZ aG b M i).1.cP aG) (b+i)) 0)
  rw[gZ,List.length_append];omega⟩
theorem AL {M:Im} {n:Nat} (ok:dN n M):∀i,dN n (gD M i).1/\(gD M i).2.length<=i
 | 0=>⟨ok,Nat.le_refl _⟩
 |i+1=>by
  obtain⟨c,d⟩:=AL ok i
  rw[gD,oG]
  split
  ·grind
  ·have e:=KY (gone (bT (gD M i).1.l0 i) (bT (gD M i).1.l1 i))
   exact⟨(c.put false i (bT (gD M i).1.l1 i)).put true i (-1),by rw[List.length_append];omega⟩
theorem xT {M:Im} {n:Nat} (ok:dN n M):∀i,dN n (gb M i).1/\(gb M i).2.length<=i
 | 0=>⟨ok,Nat.le_refl _⟩
 |i+1=>⟨(xT ok i).1.put true i (-1),by
  have c:=(xT ok i).2
  have d:=KY (gone (bT (gb M i).1.l1 i) (-1))
  rw[gb,List.length_append];omega⟩
section
variable {H B:PH} {R:List Ob} {a b o:Addr} {s0 t0 s1 t1:Sl} {M:Im} {n:Nat}
theorem Ec {Q:Sl->PH->Prop} (h:aA H (aC B::(dO s0 t0 s1 t1 M++R))) (r:qW B a b o s0 t0 s1 t1) (ok:dN n M)
 (X:∀H' g,aA H' (aC B::(dO s0 t0 s1 t1 (gD M n).1++(aS E g (gD M n).2::R)))->Q g H'):mA (some a) H Q:=by
 have hn:=ok.uD
 refine lW (aA.Jc (L:=aC B::dO s0 t0 s1 t1 M) (N:=R) h) λa1 H1 U x1=>lW U λA H2 D x2=>eB (x:=some a) D 6 rfl (fx (aG:=true) (r.ext D.base) (lW D λc0 S V x3=>?_))
 have h4:aA S (aC B::(dO s0 t0 s1 t1 (gD M 0).1++[aS E Sl.nil (gD M 0).2,aJ a1 [.pointer (some a)],aJ A [Sl.v Sl.nil],aJ c0 [.pointer (some o)],sC R])):=V.Bp.pick [0,1,2,3,4,9,6,7,8,5] (by decide) rfl (by simp[dO])
 refine kS _ _ _ _ _ (AK (a:=o) (s:=s1) (t:=t1) (per:=15) n (λk=>(gD M k).1.l1)
  (λk _ u=>∃q,aA u (aC B::(dO s0 t0 s1 t1 (gD M k).1++[aS E q (gD M k).2,aJ a1 [.pointer (some a)],aJ A [Sl.v q],aJ c0 [.pointer (some o)],sC R]))) (by omega) (λk=>(AL ok k).1.n1)
  ?_ (by grind) ?_ ?_)
 ·rintro k _ u ⟨q,hk⟩
  exact⟨hk.Bq 8 rfl,(r.ext hk.base).ro,hk.list 3 rfl⟩
 ·rintro k _ u K x Z ⟨q,hk⟩ hx w _
  obtain⟨z,aa⟩:=AL ok k
  have m:bT (gD M k).1.l1 k=x:=uA (by omega) (by grind) (by grind)
  refine⟨_,_,rfl,aM (λc=>?_) (λc=>?_)⟩
  ·have C:x= -1:=by simpa using c
   have e:gD M (k+1)=gD M k:=by rw[gD,oG,if_pos (by rw[m,C])]
   grind
  ·have C:¬x= -1:=by simpa using c
   have e:gD M (k+1)=(((gD M k).1.put false k x).put true k (-1),(gD M k).2++gl (gone (bT (gD M k).1.l0 k) x)):=by rw[gD,oG,if_neg (by rw[m];exact C),m]
   refine eB (x:=some a) hk 6 rfl (aD (aX (x:=some b) (r.ext hk.base).im rfl (pZ (aG:=false) hk r z λp i=>aE ?_)))
   have rest:∀y f,aA f (aC B::(dO s0 t0 s1 t1 ((gD M k).1.put false k x)++[aS E y ((gD M k).2++gl (gone (bT (gD M k).1.l0 k) x)),aJ a1 [.pointer (some a)],aJ A [Sl.v y],aJ c0 [.pointer (some o)],sC R]))->
    aH .pointer f a1 λO=>aP O λJ=>aH .pointer f (J.add 1) λP=>iN P k (-1) f λab G=>K 0 () G:=λy f d=>by
    refine eB (x:=some a) d 6 rfl (aD (aX (x:=some o) (r.ext d.base).im rfl (KJ d (r.ext d.base).ro 3 4 rfl rfl (by decide) (z.put _ _ _).p1 λI F=>?_)))
    exact w () I ⟨y,by rw[e];exact F⟩
   refine aM (λc1=>?_) (λc1=>?_)
   ·have j:0<gone (bT (gD M k).1.l0 k) x:=by simpa[Im.cP] using c1
    refine eB (x:=q) i 7 rfl (DE (enc:=E) i λq1 f d x6=>pe (l:=(gD M k).2) (ys:=[gone (bT (gD M k).1.l0 k) x]) d 5 rfl (d.list 10 rfl) FA rfl (by simp;omega) λY I F=>jF F 7 rfl rfl λT W=>rest Y T ?_)
    rw[gl,if_pos j]
    exact W.pick [0,1,2,3,4,5,6,7,8,9] (by decide) rfl (by simp[dO])
   ·have j:¬0<gone (bT (gD M k).1.l0 k) x:=by simpa[Im.cP] using c1
    refine rest q p ?_
    rw[gl,if_neg j,List.append_nil]
    exact i
 ·rintro _ u ⟨q,hk⟩
  refine eB (x:=q) hk 7 rfl (jF hk 7 rfl rfl λp i=>eB (x:=q) i 7 rfl (X p q ?_))
  have d:aA p ((aC B::(dO s0 t0 s1 t1 (gD M n).1++[aS E q (gD M n).2]))++[sC R]):=i.pick [0,1,2,3,4,5,9] (by decide) rfl (by simp[dO])
  simpa using Ys d
theorem uc {Q:Sl->PH->Prop} (h:aA H (aC B::(dO s0 t0 s1 t1 M++R))) (r:qW B a b o s0 t0 s1 t1) (ok:dN n M)
 (F:∀H' g,aA H' (aC B::(dO s0 t0 s1 t1 (gb M n).1++(aS E g (gb M n).2::R)))->Q g H'):l9 (some a) H Q:=by
 have U:=ok.uD
 refine lW (aA.Jc (L:=aC B::dO s0 t0 s1 t1 M) (N:=R) h) λa1 H1 z X=>lW z λp O m Y=>eB (x:=some a) m 6 rfl (fx (aG:=true) (r.ext m.base) (lW m λc0 w A Z=>?_))
 have T:aA w (aC B::(dO s0 t0 s1 t1 (gb M 0).1++[aS E Sl.nil (gb M 0).2,aJ a1 [.pointer (some a)],aJ p [Sl.v Sl.nil],aJ c0 [.pointer (some o)],sC R])):=A.Bp.pick [0,1,2,3,4,9,6,7,8,5] (by decide) rfl (by simp[dO])
 refine kS _ _ _ _ _ (AK (a:=o) (s:=s1) (t:=t1) (per:=15) n (λk=>(gb M k).1.l1)
  (λk _ i=>∃q,aA i (aC B::(dO s0 t0 s1 t1 (gb M k).1++[aS E q (gb M k).2,aJ a1 [.pointer (some a)],aJ p [Sl.v q],aJ c0 [.pointer (some o)],sC R]))) (by omega) (λk=>(xT ok k).1.n1)
  ?_ (by grind) ?_ ?_)
 ·rintro k _ i ⟨q,hk⟩
  exact⟨hk.Bq 8 rfl,(r.ext hk.base).ro,hk.list 3 rfl⟩
 ·rintro k _ i K x I ⟨q,hk⟩ V c _
  obtain⟨u,J⟩:=xT ok k
  refine⟨_,_,rfl,eB (x:=some a) hk 6 rfl (aD (aX (x:=some o) (r.ext hk.base).im rfl (pZ (aG:=true) hk r u λf d=>?_)))⟩
  refine aM (λc1=>?_) (λc1=>?_)
  ·have e:0<gone (bT (gb M k).1.l1 k) (-1):=by simpa[Im.cP] using c1
   refine eB (x:=q) d 7 rfl (DE (enc:=E) d λW P j x6=>pe (l:=(gb M k).2) (ys:=[gone (bT (gb M k).1.l1 k) (-1)]) j 5 rfl (j.list 10 rfl) FA rfl (by simp;omega) λG S C=>jF C 7 rfl rfl λy D=>c () y ⟨G,?_⟩)
   rw[gb,gl,if_pos e]
   exact D.pick [0,1,2,3,4,5,6,7,8,9] (by decide) rfl (by simp[dO])
  ·have e:¬0<gone (bT (gb M k).1.l1 k) (-1):=by simpa[Im.cP] using c1
   refine c () f ⟨q,?_⟩
   rw[gb,gl,if_neg e,List.append_nil]
   exact d
 ·rintro _ i ⟨q,hk⟩
  refine eB (x:=q) hk 7 rfl (jF hk 7 rfl rfl λf d=>eB (x:=q) d 7 rfl (F f q ?_))
  have j:aA f ((aC B::(dO s0 t0 s1 t1 (gb M n).1++[aS E q (gb M n).2]))++[sC R]):=d.pick [0,1,2,3,4,5,9] (by decide) rfl (by simp[dO])
  simpa using Ys j
theorem RQ {Q:Int->PH->Prop} (h:aA H (aC B::(dO s0 t0 s1 t1 M++R))) (r:qW B a b o s0 t0 s1 t1) (ok:dN n M) (m:∀H',Ext H H'->Q (wJ M.l1) H'):oO (some a) H Q:=by
 have y:=ok.uD
 have e1:=ok.n1
 have i:=r.ext h.base
 have p:=h.list (enc:=E) 3 rfl
 refine lW (aA.start H) λa1 H1 j u=>fx (aG:=true) (i.ext u) (lW j λc0 w l z=>?_)
 refine kS _ _ _ _ _ (AK (a:=o) (s:=s1) (t:=t1) (per:=15) n (λ_=>M.l1)
  (λk _ e=>aA e [aC H,aJ a1 [.int .i64 (wJ (M.l1.take k))],aJ c0 [.pointer (some o)]]) (by omega) (λ_=>e1)
  ?_ l ?_ ?_)
 ·rintro k _ e hk
  exact⟨hk.Bq 2 rfl,(i.ext hk.base).ro,p.ext hk.base⟩
 ·rintro k _ e K x v hk q d _
  have e2:M.l1.take (k+1)=M.l1.take k++[x]:=by rw[List.take_add_one,q];rfl
  have hle:wJ (M.l1.take k)<=k:=Nat.le_trans List.countP_le_length (by rw[List.length_take];omega)
  refine⟨_,_,rfl,aM (λc=>?_) (λc=>d () e ?_)⟩
  ·refine eB (enc:=E) (x:=(wJ (M.l1.take k):Int)) hk 1 rfl (jF hk 1 rfl rfl λg f=>d () g ?_)
   rw[bK (by omega)] at f
   rw[e2,wJ,List.countP_append,List.countP_singleton,if_pos c]
   exact f
  ·rw[e2,wJ,List.countP_append,List.countP_singleton,if_neg (by rw[c];decide)]
   exact hk
 ·rintro _ e hk
  rw[List.take_of_length_le (by omega)] at hk
  refine eB (enc:=E) (x:=(wJ M.l1:Int)) hk 1 rfl (jF hk 1 rfl rfl λg f=>eB (enc:=E) (x:=(wJ M.l1:Int)) f 1 rfl (m g f.base))
end
end Ig
end
section
namespace Ig
open Go Go.Kx KM
theorem KZ (i:Nat) (x:Int):(rp i x).length<=1:=by unfold rp;grind
theorem BN (l0 l1:List Int):∀i,(tF l0 l1 i).length<=2*i
 | 0=>Nat.le_refl _
 |i+1=>by
  have a:=BN l0 l1 i
  have b:=KZ i (bT l0 i)
  have c:=KZ i (bT l1 i)
  rw[tF,List.length_append,List.length_append];omega
end Ig
end
section
namespace Ig
open Go Go.Kx KM
section
variable {H B:PH} {L:List Ob} {a:Addr} {s t:Sl} {per:Int} {l:List Int} {d:List Bool}
theorem wz {k:Int} {Q:Sl->PH->Prop} (r:aa H a (qD s t per)) (p:dX E H s l) (v:(t.len:Int)=d.length) (ok:qU l.length per d)
 (u:¬(0<=k/\k<d.length)->Q Sl.nil H) (j:∀(lo hi:Nat),0<=k->k<d.length->(lo:Int)=k*per->(hi:Int)=min ((k+1)*per) l.length->lo<hi->hi<=l.length->cL E H (s.cut 1 lo hi) ((l.drop lo).take (hi-lo))->Q (s.cut 1 lo hi) H):lx (some a) k H Q:=by
 refine aE (aM (λc=>aW rfl (by grind)) (λc=>fc r v ?_))
 refine aM (by grind) (λc2=>?_)
 have h:0<=k:=by simpa using c
 have i:k<d.length:=by grind
 have hd:=ok.d;have:=ok.n2;have g:=ok.p1;have:=ok.p2;have:=ok.n1
 have hle:=Ig.gI (n:=l.length) (per:=per) (by omega) g
 have A:=HC g h (by rw[←hd];exact i)
 have m:0<=k*per:=Int.mul_nonneg h (by omega)
 have e1:(k+1)*per=k*per+per:=by rw[Int.add_mul,Int.one_mul]
 have w:IntKind.wrap .i64 (k*per)=k*per:=bC (by omega) (by omega)
 have y:IntKind.wrap .i64 (k+1)=k+1:=bC (by omega) (by omega)
 have z:IntKind.wrap .i64 ((k+1)*per)=(k+1)*per:=bC (by omega) (by omega)
 refine aD (aX (x:=s) r rfl (aD (aX (x:=per) r rfl (aD (aX (x:=per) r rfl (aD (aX (x:=s) r rfl ?_)))))))
 rw[w,y,z,p.list.bL]
 have em:(if(l.length:Int)<(k+1)*per then(l.length:Int) else(k+1)*per)=min ((k+1)*per) l.length:=by split<;>omega
 rw[em]
 obtain⟨lo,f⟩:=Int.eq_ofNat_of_zero_le m
 obtain⟨hi,e⟩:=Int.eq_ofNat_of_zero_le (show 0<=min ((k+1)*per) (l.length:Int) by omega)
 rw[f,e]
 refine Mg p (by omega) (by omega) (by omega) λq=>?_
 simp only[Int.toNat_natCast] at q ⊢
 exact j lo hi h i f.symm e.symm (by omega) (by omega) q
theorem EC {k:Int} {lo hi:Nat} (e:0<=k) (f:k<d.length) (c:(lo:Int)=k*per) (g:(hi:Int)=min ((k+1)*per) l.length) (i:lo<hi):(l.drop lo).take (hi-lo)=bt l per d k:=by
 have e1:(k+1)*per=k*per+per:=by grind
 rw[bt,if_pos ⟨e,f⟩,←c,Int.toNat_natCast]
 by_cases h:hi=l.length
 ·rw[List.take_of_length_le (by grind),List.take_of_length_le (by grind)]
 grind
theorem qe {k:Int} {Q:Sl->PH->Prop} (r:aa H a (qD s t per)) (u:dX E H s l) (v:(t.len:Int)=d.length) (ok:qU l.length per d) (c:∀q H',aA H' [aC H,aS E q (bt l per d k)]->Q q H'):jG (some a) k H Q:=by
 have m:=ok.n2
 refine wz r u v ok (λm=>?_) (λlo hi f g i h j hle p=>?_)
 ·have e:bt l per d k=[]:=by rw[bt,if_neg m]
  rw[e] at c
  exact Br (enc:=E) (l:=[]) .nil RN rfl (by decide) c
 ·rw[EC f g i h j] at p
  refine Br (enc:=E) p RN rfl ?_ c
  have:(bt l per d k).length<=l.length:=by
   rw[bt,if_pos ⟨f,g⟩,List.length_take,List.length_drop];omega
  omega
def ye (per:Int) (l:List Int) (d:List Bool) (k:Int) (ys:List Int):List Int:=if(0<=k/\k<d.length)/\ys.length=(bt l per d k).length then l.take (k*per).toNat++ys++l.drop ((k*per).toNat+ys.length) else l
def CR (per:Int) (l:List Int) (d:List Bool) (k:Int) (ys:List Int):List Bool:=if(0<=k/\k<d.length)/\ys.length=(bt l per d k).length then d.set k.toNat false else d
theorem Hw {k:Int} {x:Sl} {ys:List Int} {Q:Bool->PH->Prop} (h:aA H L) (r:aa H a (qD s t per)) (i j:Nat) (hi:L[i]?=some (aS E s l)) (w:L[j]?=some (aS Value.bool t d)) (J:i≠j) (ok:qU l.length per d)
 (D:∀H',aA H' (L.set i (aS E s (ye per l d k ys)))->aa H' a (qD s t per)) (z:cL E H x ys)
 (f:∀H',aA H' ((L.set i (aS E s (ye per l d k ys))).set j (aS Value.bool t (CR per l d k ys)))->Q (decide ((0<=k/\k<d.length)/\ys.length=(bt l per d k).length)) H'):jH (some a) k x H Q:=by
 have ss:∀{α:Type} {L:List α} {i:Nat} {O:α},L[i]?=some O->L.set i O=L:=λ{α L i O} h=>by
  apply List.ext_getElem?
  grind
 have stay:¬((0<=k/\k<d.length)/\ys.length=(bt l per d k).length)->Q false H:=λe=>by
  have:=f H
  rw[ye,CR,if_neg e,if_neg e,ss hi,ss w,decide_eq_false e] at this
  exact this h
 have I:dX E H s l:=h.get i hi
 refine wz r I (h.list j w).bL ok (λP=>aE (aW rfl (aW rfl (by grind)))) (λlo hi m p g v y hle N=>?_)
 have he:=EC (l:=l) m p g v y
 have K:(bt l per d k).length=hi-lo:=by grind
 have u:((s.cut 1 lo hi).len:Int)=(hi-lo:Nat):=by rfl
 have A:=z.bL
 rw[u,A]
 refine aE (aF (by simp;omega) (aM (λc=>stay λe=>?_) (λc=>?_)))
 ·grind
 ·have C:ys.length=hi-lo:=by grind
  have e:(0<=k/\k<d.length)/\ys.length=(bt l per d k).length:=(by omega)
  rw[decide_eq_true e] at f
  have G:ye per l d k ys=l.take lo++ys.take (hi-lo)++l.drop (lo+min ys.length (hi-lo)):=by
   rw[ye,if_pos e,←g,Int.toNat_natCast,show ys.take (hi-lo)=ys from List.take_of_length_le (by omega),←C,Nat.min_self]
  rw[CR,if_pos e] at f
  rw[G] at D f
  refine z4 h i (by assumption) (by omega) hle z RN λF q=>aD (aX (x:=t) (D F q) rfl ?_)
  exact uk q j (by grind) m p rfl (by omega)
end
section
variable {H B:PH} {R:List Ob} {a b o:Addr} {s0 t0 s1 t1:Sl} {M:Im} {n:Nat}
theorem dN.bR (ok:dN n M) (aG:Bool):qU (M.cP aG).length 15 (M.bR aG):=by cases aG;exact ok.p0;exact ok.p1
theorem GR {aG:Bool} {k:Int} {Q:Sl->PH->Prop} (h:aA H (aC B::(dO s0 t0 s1 t1 M++R))) (r:qW B a b o s0 t0 s1 t1) (ok:dN n M)
 (e:∀q H',aA H' (aC B::aS E q (bt (M.cP aG) 15 (M.bR aG) k)::(dO s0 t0 s1 t1 M++R))->Q q H'):ns (some a) aG k H Q:=by
 refine fx (r.ext h.base) ?_
 cases aG with
 |false=>exact qe (r.ext h.base).rb (h.get 1 rfl) (h.list (enc:=Value.bool) 2 rfl).bL ok.p0 λq H' c=>e q H' (h.made c)
 |true=>exact qe (r.ext h.base).ro (h.get 3 rfl) (h.list (enc:=Value.bool) 4 rfl).bL ok.p1 λq H' c=>e q H' (h.made c)
theorem rJ {l:List Int} {d:List Bool} {k:Int} (h:0<=k/\k<d.length):bt l 15 d k=(l.drop (k*15).toNat).take 15:=by rw[bt,if_pos h];rfl
theorem zi {l:List Int} {d:List Bool} {k:Int} {ys:List Int} (ok:qU l.length 15 d) (hk:0<=k/\k<d.length) (c:ys.length=(bt l 15 d k).length):(l.take (k*15).toNat++ys++l.drop ((k*15).toNat+ys.length)).length=l.length:=by
 have e:=HC (n:=l.length) (per:=15) (k:=k) (by decide) hk.1 (by rw[←ok.d];exact hk.2)
 rw[rJ hk] at c
 grind
theorem dN.load {k:Nat} {aG:Bool} {ys:List Int} (ok:dN n M) (hk:k<(M.bR aG).length) (f:ys.length=(bt (M.cP aG) 15 (M.bR aG) k).length):dN n (M.load aG k ys):=by
 have key:=zi (ok.bR aG) (k:=(k:Int)) (by omega) f
 rw[show((k:Int)*15).toNat=k*15 by omega] at key
 have pg:∀{l:List Int} {d:List Bool} {c:List Int},qU l.length 15 d->c.length=l.length->qU c.length 15 (d.set k false):=λok e=>by
  rw[e];exact⟨ok.n1,ok.n2,ok.p1,ok.p2,by rw[List.length_set];exact ok.d⟩
 cases aG with
 |false=>exact⟨pg ok.p0 key,ok.p1,key.trans ok.n0,ok.n1,ok.uD,ok.FB⟩
 |true=>exact⟨ok.p0,pg ok.p1 key,ok.n0,key.trans ok.n1,ok.uD,ok.FB⟩
theorem O0 {aG:Bool} {k:Nat} {x:Sl} {ys:List Int} {Q:Bool->PH->Prop} (h:aA H (aC B::(dO s0 t0 s1 t1 M++R))) (r:qW B a b o s0 t0 s1 t1) (ok:dN n M)
 (hk:k<(M.bR aG).length) (N:cL E B x ys) (T:ys.length=(bt (M.cP aG) 15 (M.bR aG) k).length) (hr:∀y∈ys,(if aG then -1 else 0)<=y/\y<=4095)
 (S:∀H',aA H' (aC B::(dO s0 t0 s1 t1 (M.load aG k ys)++R))->Q true H'):qu (some a) aG k x H Q:=by
 have ad:0<(bt (M.cP aG) 15 (M.bR aG) (k:Int)).length:=by
  have U:=HC (n:=(M.cP aG).length) (per:=15) (k:=k) (by decide) (by omega) (by rw[←(ok.bR aG).d];omega)
  rw[rJ (by omega)];simp;omega
 have ae:ys.length<=15:=by rw[T,rJ (by grind)];simp;omega
 have V:=N.bL
 have fin:∀H1 g,aA H1 (aC B::(dO s0 t0 s1 t1 M++R))->cL E B g ys->jH (some (if aG then o else b)) k g H1 λA p=>Q A p:=λH1 g f G=>by
  have C:(0<=(k:Int)/\(k:Int)<(M.bR aG).length)/\ys.length=(bt (M.cP aG) 15 (M.bR aG) k).length:=(by omega)
  have e1:ye 15 (M.cP aG) (M.bR aG) k ys=(M.cP aG).take (k*15)++ys++(M.cP aG).drop (k*15+ys.length):=by
   rw[ye,if_pos C,show((k:Int)*15).toNat=k*15 by omega]
  have e2:CR 15 (M.cP aG) (M.bR aG) k ys=(M.bR aG).set k false:=by rw[CR,if_pos C,Int.toNat_natCast]
  cases aG with
  |false=>
   refine Hw (ys:=ys) f (r.ext f.base).rb 1 2 rfl rfl (by decide) ok.p0 (λH' e=>(r.ext (e:aA H' (aC B::_)).base).rb) (G.ext f.base) λH' e=>?_
   rw[show decide ((0<=(k:Int)/\(k:Int)<M.d0.length)/\ys.length=(bt M.l0 15 M.d0 k).length)=true from decide_eq_true C]
   refine S H' ?_
   rw[show ye 15 M.l0 M.d0 k ys=_ from e1,show CR 15 M.l0 M.d0 k ys=_ from e2] at e
   exact e
  |true=>
   refine Hw (ys:=ys) f (r.ext f.base).ro 3 4 rfl rfl (by decide) ok.p1 (λH' e=>(r.ext (e:aA H' (aC B::_)).base).ro) (G.ext f.base) λH' e=>?_
   rw[show decide ((0<=(k:Int)/\(k:Int)<M.d1.length)/\ys.length=(bt M.l1 15 M.d1 k).length)=true from decide_eq_true C]
   refine S H' ?_
   rw[show ye 15 M.l1 M.d1 k ys=_ from e1,show CR 15 M.l1 M.d1 k ys=_ from e2] at e
   exact e
 refine fx (r.ext h.base) ?_
 have bc:∀(K:Sl->PH->Prop),(∀q H',aA H' (aC B::aS E q (bt (M.cP aG) 15 (M.bR aG) k)::(dO s0 t0 s1 t1 M++R))->K q H')->jG (some (if aG then o else b)) k H K:=λK F=>by
  cases aG with
  |false=>exact qe (r.ext h.base).rb (h.get 1 rfl) (h.list (enc:=Value.bool) 2 rfl).bL ok.p0 λq H' e=>F q H' (h.made e)
  |true=>exact qe (r.ext h.base).ro (h.get 3 rfl) (h.list (enc:=Value.bool) 4 rfl).bL ok.p1 λq H' e=>F q H' (h.made e)
 refine bc _ λy4 H1 f=>?_
 have W:(y4.len:Int)=ys.length:=by rw[(f.list (enc:=E) 1 rfl).bL,T]
 have aa:=f.aq
 rw[W,V]
 refine aE (aF (by grind) (aF (by simp) (aE ?_)))
 have main:∀v:Int,v=(if aG then -1 else 0)->kv x 1 0 (ys.length:Int) λw=>
  bw (λ(z:Int) (j:PH) (m:Int->PH->Prop)=>
   aL (decide (z<(w.len:Int)))
   (bX w 1 z λO=>aH (.int .i64) j O λJ=>
    aO (λ(Y:Bool) (D:PH)=>aL Y (Q false D) (m (IntKind.wrap .i64 (z+1)) D))
    λI=>aL (decide (J<v)) (I true j) (I (decide (4096<=J)) j))
   (kv x 1 0 (ys.length:Int) λg=>jH (some (if aG then o else b)) k g j λA p=>Q A p))
  0 H1:=λv hv=>by
  refine ni N (by omega) (by omega) (by omega) λw u _=>?_
  have P:(ys.drop (0:Int).toNat).take ((ys.length:Int).toNat-(0:Int).toNat)=ys:=by simp
  rw[P] at u
  refine av ys.length (λi st Z=>st=(i:Int)/\Z=H1) (by simp) ?_
  rintro i st H2 again hi ⟨rfl,rfl⟩ ac
  rw[u.bL]
  refine aM (λc=>?_) (λc=>?_)
  ·have U:i<ys.length:=by simpa using c
   refine dm (u.ext f.base) (by omega) (by omega) λy hy=>?_
   have X:=hr y (by grind)
   rw[←hv] at X
   rw[bK (by omega)]
   exact aE (aF (by grind) (aF (by grind) (by grind)))
  ·refine ni N (by omega) (by omega) (by omega) λg ab _=>?_
   grind
 exact aM (λc=>main (-1) (by rw[c];rfl)) (λc=>main 0 (by rw[c];rfl))
end
end Ig
end
section
namespace Ig
open Go Go.Kx KM
section
variable {H B:PH} {R L:List Ob} {a b o c0:Addr} {s0 t0 s1 t1:Sl} {M:Im} {n:Nat}
theorem NY {Q:Value->PH->Prop} (h:aA H (aC B::L)) (d:∀c0 c H',Ext B c->aa c c0 [.pointer (some a)]->aA H' (aC c::L)->Q (.func (.func 139) #[] #[.pointer (some c0)]) H'):nu (some a) H Q:=
 gN h (by omega)
theorem GU {γ:Type} {yv:Value} {Y:List Value->γ->PH->(Nat->γ->PH->Prop)->Prop} {g0:γ} {Q:Nat->γ->PH->Prop} (J:List (Int×Int)->γ->PH->List Ob->Prop)
 (h:aA H (aC B::(dO s0 t0 s1 t1 M++R))) (r:qW B a b o s0 t0 s1 t1) (ok:dN n M) (ad:aa B c0 [.pointer (some a)])
 (hJ:∀l m A' d N,Ext A' d->J l m A' N->J l m d N) (h0:J [] g0 B R)
 (step:∀pre x m q O F K,pre.length<=200->Ext B q->J pre m q O->aA F (aC q::(dO s0 t0 s1 t1 M++O))->
  (∀E f w C,Ext q f->J (pre++[x]) E f w->aA C (aC f::(dO s0 t0 s1 t1 M++w))->K 0 E C)->Y [.int .i64 x.1,.int .i64 x.2] m F K)
 (fin:∀m q O F,Ext B q->J M.refs m q O->aA F (aC q::(dO s0 t0 s1 t1 M++O))->Q 0 m F):sE c0 yv Y g0 H Q:=by
 have hn:=ok.uD
 refine gN h λa1 q H1 p r1 D=>az (x:=some a) ((ad.ext p).ext D.base) (fx (aG:=false) ((r.ext p).ext D.base) (gN D λac B2 F A rc h2=>?_))
 refine kS _ _ _ _ _ (AK (a:=b) (s:=s0) (t:=t0) (per:=15) n (λ_=>M.l0)
  (λk g u=>g.1=0/\∃d v,Ext B2 d/\J (tF M.l0 M.l1 k) g.2 d v/\aA u (aC d::(dO s0 t0 s1 t1 M++v))) (by omega) (λ_=>ok.n0) ?_ ⟨rfl,B2,R,.refl _,hJ _ _ _ _ _ (p.trans A) h0,h2⟩ ?_ ?_)
 ·rintro k g u ⟨_,d,v,z,_,hk⟩
  exact⟨by have:=((rc.ext z).ext hk.base).cell (i:=0) rfl;rwa[add_zero'] at this,((r.ext (p.trans (A.trans z))).ext hk.base).rb,hk.list 1 rfl⟩
 ·rintro k ⟨j,m⟩ u K x an ⟨P,d,v,z,G,hk⟩ hx Z _
  simp only at P G;subst P
  have U:=p.trans (A.trans z)
  have ak:bT M.l0 k=x:=uA (by omega) (by have:=ok.n0;omega) (by rw[Int.toNat_natCast];exact hx)
  refine⟨_,_,rfl,az (x:=some a) ((ad.ext U).ext hk.base) (aD (aX (x:=some o) ((r.ext U).ext hk.base).im rfl ?_))⟩
  have ai:∀Q2:Int->Bool->PH->Prop,Q2 (bT M.l1 k) true u->gL (some o) k u Q2:=λQ2 ab=>
   dK ((r.ext U).ext hk.base).ro (hk.list 3 rfl) (λy h0 D hy=>by rw[uA h0 D hy] at ab;exact ab) (λhh=>absurd ⟨by omega,by have:=ok.n1;omega⟩ hh)
  refine ai _ ?_
  have ah:∀{f C},Ext d f->Ext f C->aa C a1 [yv]:=λx y=>((r1.ext (A.trans z)).ext x).ext y
  refine qb (λs H'=>s.1=false/\s.2.1=0/\∃f w,Ext d f/\J (tF M.l0 M.l1 k++rp k x) s.2.2 f w/\aA H' (aC f::(dO s0 t0 s1 t1 M++w))) ?_ λk' af=>?_
  ·rintro⟨sb,sj,aj⟩ C ⟨e1,e2,f,w,V,S,h3⟩
   simp only at e1 e2 S;subst e1;subst e2
   refine qb (λs H'=>s.1=false/\s.2.1=0/\∃I X,Ext f I/\J (tF M.l0 M.l1 (k+1)) s.2.2 I X/\aA H' (aC I::(dO s0 t0 s1 t1 M++X))) ?_ λk2 ag=>?_
   ·rintro⟨sb,sj,am⟩ H4 ⟨e1,e2,I,X,al,ae,h4⟩
    simp only at e1 e2 ae;subst e1;subst e2
    exact aF rfl (Z _ _ ⟨rfl,I,X,z.trans (V.trans al),ae,h4⟩)
   ·have er:∀{l},rp k (bT M.l1 k)=l->tF M.l0 M.l1 (k+1)=tF M.l0 M.l1 k++rp k x++l:=λe=>by rw[tF,ak,e]
    refine aF rfl (aE (aM (λc=>?_) (λc=>ag _ _ ⟨rfl,rfl,f,w,.refl _,?_,h3⟩)))
    ·refine az (en:=id) (x:=yv) (ah V h3.base) ⟨rfl,rfl,?_⟩
     refine step (tF M.l0 M.l1 k++rp k x) ((k:Int),bT M.l1 k) aj f w C _ (by have D:=BN M.l0 M.l1 k;have h2:=KZ k x;rw[List.length_append];omega) (U.trans V) S h3 λE B5 R5 H5 W T h5=>ag _ _ ⟨rfl,rfl,B5,R5,W,?_,h5⟩
     rw[er (by rw[rp,if_pos (by simpa using c)])];exact T
    ·rw[er (by rw[rp,if_neg (by simpa using c)]),List.append_nil];exact S
  ·refine aM (λc=>?_) (λc=>af _ _ ⟨rfl,rfl,d,v,.refl _,?_,hk⟩)
   ·refine az (en:=id) (x:=yv) (ah (.refl _) hk.base) ⟨rfl,rfl,?_⟩
    refine step (tF M.l0 M.l1 k) ((k:Int),x) m d v u _ (by have D:=BN M.l0 M.l1 k;omega) U G hk λE B5 R5 H5 W T h5=>af _ _ ⟨rfl,rfl,B5,R5,W,?_,h5⟩
    rw[rp,if_pos (by simpa using c)];exact T
   ·rw[rp,if_neg (by simpa using c),List.append_nil];exact G
 ·rintro⟨j,m⟩ u ⟨P,d,v,z,G,hk⟩
  simp only at P G;subst P
  refine aF rfl (fin m d v u (p.trans (A.trans z)) ?_ hk)
  rw[Im.refs,ok.n0];exact G
theorem MC {Q:PH->Prop} (h:aA H (aC B::(dO s0 t0 s1 t1 M++R))) (r:qW B a b o s0 t0 s1 t1) (f:∀H',aA H' (aC B::(dO s0 t0 s1 t1 M.clean++R))->Q H'):px (some a) H Q:=by
 refine fx (aG:=false) (r.ext h.base) (aW rfl (aD (aX (x:=t0) (r.ext h.base).rb rfl (Mh (enc:=Value.bool) (x:=false) h 2 rfl λH1 c=>?_))))
 have c:aA H1 (aC B::(dO s0 t0 s1 t1 {M with d0:=List.replicate M.d0.length false}++R)):=c
 refine fx (aG:=true) (r.ext c.base) (aW rfl (aD (aX (x:=t1) (r.ext c.base).ro rfl (Mh (enc:=Value.bool) (x:=false) c 4 rfl λd e=>?_))))
 exact f d e
end
end Ig
end
section
namespace Us
open Go Go.Kx KM Ge
section
variable {H:PH} {L:List Ob} {a:Addr} {p:Option Addr} {s t:Sl} {l:List cJ} {v:List Int}
theorem HF {γ:Type} {c0:Addr} {Y:List Value->γ->PH->(Nat->γ->PH->Prop)->Prop} {g0:γ} {Q:Nat->γ->PH->Prop} (I:Nat->γ->PH->Prop) (hd:l.length< 2 ^ 40)
 (h:∀k g H,I k g H->cellAt H c0=some (.pointer (some a))/\aa H a (iS p s t)/\fM bf 2 H s l) (n:I 0 g0 H)
 (skip:∀k g H,k<l.length->I k g H->((l.getD k (0,0)).1==2)=false->I (k+1) g H)
 (step:∀k g H K,k<l.length->I k g H->((l.getD k (0,0)).1==2)=true->(∀d H',I (k+1) d H'->K 0 d H')->(∀j d H',j≠0->Q j d H'->K j d H')->Y [.int .i64 k] g H K)
 (fin:∀g H,I l.length g H->Q 0 g H):qS c0 Y g0 H Q:=by
 obtain⟨f,r0,l0⟩:=h _ _ _ n
 refine⟨some a,f,aF rfl ⟨some a,f,aD (aX (x:=s) r0 rfl ?_)⟩⟩
 rw[l0.bL]
 refine av l.length (λk st m=>∃g,st=((k:Int),(0,g))/\I k g m) (by grind) ?_
 rintro k st H1 again hk ⟨g,rfl,hi⟩ u
 obtain⟨e1,r1,l1⟩:=h _ _ _ hi
 refine aM (λc=>?_) (λc=>?_)
 ·have e:k<l.length:=by simpa using c
  have y:=bK (k:=k) (by omega)
  refine⟨some a,e1,aD (aX (x:=s) r1 rfl (su l1 (by simp) (by simpa using e) λb x r o=>Yn o ?_))⟩
  rw[Int.toNat_natCast] at r
  have i:l.getD k (0,0)=x:=by grind
  rw[←i]
  refine aE (aM (λc1=>⟨rfl,?_⟩) (λc1=>aF rfl ?_))
  ·refine step k g H1 _ e hi c1 (λd H' w=>aF rfl ?_) (λj d H' z q=>aW (by grind) q)
   grind
  grind
 grind
theorem RR {H B:PH} {L:List Ob} {p:Option Addr} {c:ax} {x:Sl} {ul:List cJ} {Q:Option Addr->PH->Prop} (h:aA H (aC B::L)) (g:Gm H p c) (d:bE c) (i:fM bf 2 H x ul) (m:ul=[]∨(ul.length:Int)=c.2.1) (n:∀u,u∈ul->AH u=true)
 (f:∀b a s t H',Ext B b->aa b a (iS p s t)->aA H' (aC b::(L++[au bf 2 s (Jr c.2.1.toNat ul),aS (Value.int .i64) t (List.replicate c.2.1.toNat 0)]))->Q (some a) H'):xo p x H Q:=by
 have e:ul.length< 2 ^ 40:=by
  have:=d.2.2.2.1
  grind
 refine RL g d i e (by grind) λ_ _ a s t H1 k1=>?_
 have k2:=h.aG k1
 have k3:aA H1 (aC B::(L++[au bf 2 s (Jr c.2.1.toNat ul),aS (Value.int .i64) t (List.replicate c.2.1.toNat 0)])++[aJ a (iS p s t)]):=by grind
 obtain⟨b,k,rb,j⟩:=k3.freeze
 exact f b a s t H1 k rb j
end
end Us
end
section
namespace Mo
open Go Go.Kx KM Rw Cr Ds Ge Rc Sc Rg
abbrev AM:=KM.Stat
abbrev cr (x:AM):List Value:=[i64 x.1,i64 x.2.1,i64 x.2.2.1,i64 x.2.2.2.1,i64 x.2.2.2.2.1,i64 x.2.2.2.2.2.1,i64 x.2.2.2.2.2.2.1,i64 x.2.2.2.2.2.2.2.1,i64 x.2.2.2.2.2.2.2.2.1,i64 x.2.2.2.2.2.2.2.2.2]
def m8:AM:=(0,0,0,0,0,0,0,0,0,0)
def eP:Pos:=(0,0,0,0,0)
abbrev jE (d g:Option Addr) (sb:Pos) (r:uZ) (slot:Int) (t m:Option Addr) (st:AM) (e:Pos):List Value:=
 [.pointer d,.pointer g,i64 sb.1,i64 sb.2.1,i64 sb.2.2.1,i64 sb.2.2.2.1,i64 sb.2.2.2.2,i64 r.1,i64 r.2.1,i64 r.2.2.1,i64 r.2.2.2.1,i64 r.2.2.2.2.1,i64 r.2.2.2.2.2.1,i64 r.2.2.2.2.2.2.1,i64 r.2.2.2.2.2.2.2.1,i64 r.2.2.2.2.2.2.2.2.1,i64 r.2.2.2.2.2.2.2.2.2.1,i64 r.2.2.2.2.2.2.2.2.2.2.1,Sl.v r.2.2.2.2.2.2.2.2.2.2.2.1,Sl.v r.2.2.2.2.2.2.2.2.2.2.2.2.1,Sl.v r.2.2.2.2.2.2.2.2.2.2.2.2.2,i64 slot,.pointer t,.pointer m,
  i64 st.1,i64 st.2.1,i64 st.2.2.1,i64 st.2.2.2.1,i64 st.2.2.2.2.1,i64 st.2.2.2.2.2.1,i64 st.2.2.2.2.2.2.1,i64 st.2.2.2.2.2.2.2.1,i64 st.2.2.2.2.2.2.2.2.1,i64 st.2.2.2.2.2.2.2.2.2,i64 e.1,i64 e.2.1,i64 e.2.2.1,i64 e.2.2.2.1,i64 e.2.2.2.2]
theorem add_add {H:PH} {a:Addr} {cs:List Value} (h:aa H a cs) (i j:Nat):(a.add i).add j=a.add (i+j):=by
 rw[h.addr,fV,fV,fV,Nat.zero_add,Nat.zero_add]
section
variable {H B:PH} {L:List Ob} {k:Nat} {A:DA} {D:Dk} {c:ax} {fa:Addr} {g t m:Option Addr} {sb e:Pos} {r:uZ} {slot:Int} {st:AM}
theorem UB {a b:Bs} {x:ax×Int×Int} {s:Int} (h:cz a b=some (x,s)):dA x.1 x.2.1 x.2.2=true:=by
 have key:∀{b:Bs} {y:ax×Int×Int},eJ b=some y->dA y.1 y.2.1 y.2.2=true:=λ{b y} d=>by
  simp only[eJ] at d
  grind
 unfold cz at h
 grind
theorem wQ {id aN s:Int} {Q:Int->PH->Prop} (h:aA H (aC B::aJ fa (jE (some A.a) none eP fw 0 none none m8 eP)::bA A D::L)) (ok:bu k D) (hk:k< 2 ^ 29)
 (y:cz (D.sec 0) (D.sec 1)=some ((c,id,aN),s)) (hn:all c<=D.now.length)
 (O:∀g p H',Ext B p->Gm p g c->aA H' (aC p::aJ fa (jE (some A.a) g (Su.sup c id aN) fw 0 none none m8 eP)::bA A D::L)->Q 0 H'):oq (some fa) H Q:=by
 have z:=UB y
 have n:bE c:=(Su.kt z).1
 have P:=jQ.oI n
 have U:=qT n
 refine aD (aU (x:=some A.a) h 1 rfl rfl (jQ.EX h.swap ok hk (by omega) λq V H1 C s0 s1 J=>?_))
 refine bG J.swap λa8 W K=>cF (vs:=jQ.s2 q) K rfl rfl λX d=>Fz d λF l o d=>aF rfl ?_
 have o:=o.ext d.base
 have l0:=nZ ok (at_:=0) (by omega)
 have l1:=nZ ok (at_:=1) (by omega)
 refine mi (by omega) (by omega) (aX (x:=q.1) o rfl (mi (by omega) (by omega) (aX (x:=q.2) o rfl ?_)))
 refine Su.choose_spec ((s0.ext l).ext d.base) ((s1.ext l).ext d.base) l0 l1 (ru ok (by omega)) (ru ok (by omega)) λY S=>?_
 have M:=d.ext S
 rw[y]
 refine aD (xS (jE (some A.a) none (Su.sup c id aN) fw 0 none none m8 eP) M 1 rfl (by simp) rfl rfl λv f=>aF rfl ?_)
 have f:aA v (aC F::aJ fa (jE (some A.a) none (Su.sup c id aN) fw 0 none none m8 eP)::bA A D::L):=f
 have R:aa v fa _:=f.get 1 rfl
 refine aD ?_
 rw[add_add R]
 refine pI (en:=zZ) (x:=c) f 1 rfl (by simp) rfl ?_
 refine T7 (c:=c) f n λg u Z E w N=>aD (cU (j:=1) N 1 rfl (by simp) rfl λG b=>?_)
 have b:aA G (aC u::aJ fa (jE (some A.a) g (Su.sup c id aN) fw 0 none none m8 eP)::bA A D::L):=b
 refine aD (aU (x:=some A.a) b 1 rfl rfl (aD (aU (x:=g) b 1 rfl rfl (Hm (i:=1) b rfl (dc b 1 rfl rfl (CG (w.ext b.base) n λI T=>aF (by grind) ?_))))))
 exact O g u I (C.trans (l.trans E)) w (b.ext T)
theorem vW {at':Int} {n:Nat} {Q:Sl->Int->PH->Prop} (h:aA H (aC B::aJ fa (jE (some A.a) g sb r slot t m st e)::bA A D::L)) (ok:bu k D) (hk:k< 2 ^ 29) (M:0<=at') (T:at'+n<=D.now.length)
 (K:∀q b H',Ext B b->Bytes b q (D.dQ at' n)->aA H' (aC b::aJ fa (jE (some A.a) g sb r slot t m st e)::bA A D::L)->Q q 0 H'):pf (some fa) at' n H Q:=by
 have N:=ok.now
 refine av n (λi s I=>s.2=(i:Int)/\∃b,Ext B b/\aA I (aC b::aS u8 s.1 (D.dQ at' i)::aJ fa (jE (some A.a) g sb r slot t m st e)::bA A D::L)) ⟨rfl,B,.refl _,AB h⟩ ?_
 rintro i ⟨s,_⟩ H1 again hi ⟨o,P,f,d⟩ u
 simp only at o d;subst o
 refine aM (λc1=>?_) (λc1=>?_)
 ·have w:i<n:=by grind
  rw[cK (x:=at'+(i:Int)) (by omega) (by omega)]
  refine aD (aU (x:=some A.a) d 2 rfl rfl (BL (i:=2) d rfl ok hk (by omega) λy R j=>aF rfl (iW j λG E l p=>?_)))
  have z:=zU ok i at' (by omega) (by omega)
  have v:=nZ ok (at_:=at'+(i:Int)) (by omega)
  refine pe p 1 rfl (l.ext p.base) NQ rfl (by rw[z,v];omega) λO S J=>?_
  rw[bK (by omega)]
  refine u w _ _ ⟨rfl,G,f.trans E,?_⟩
  rw[DM]
  exact J
 ·have:i=n:=by grind
  subst this
  exact iW d λF C l j=>K _ F H1 (f.trans C) l j
abbrev DV (r:fH):AM:=(r.mode,r.view,r.aQ,r.seq,r.done,0,r.gen,0,0,0)
theorem ry {a0:Bs} {sl:Int} {rg:fH} {Q:Int->PH->Prop} (h:aA H (aC B::aJ fa (jE (some A.a) g sb fw 0 none none m8 eP)::bA A D::L)) (ok:bu k D) (hk:k< 2 ^ 29) (O:Gm B g c) (o:bE c) (hn:all c<=D.now.length)
 (hr:j0 c (D.dQ (ar c 0) (bW c).toNat) (D.dQ (ar c 1) (bW c).toNat)=some (rg,sl)) (ao:fW c rg=true)
 (hQ:∀x ta s t ia ib io s0 t0 s1 t1 f H',Ext B f->wR f x rg->aa f ta (Us.iS g s t)->Ig.qW f ia ib io s0 t0 s1 t1->
  aA H' (aC f::(Ig.dO s0 t0 s1 t1 (mF c.1.toNat)++(aJ fa (jE (some A.a) g sb x sl (some ta) (some ia) (DV rg) eP)::bA A D::au Us.bf 2 s rg.bk::aS i64 t (List.replicate c.2.1.toNat 0)::L)))->Q 0 H'):oL (some fa) H Q:=by
 have aX:=kj o
 have az:=jQ.oI o
 have aW:=gI o
 have aV:base c=2+2*(bW c+2*bc c):=rfl
 obtain⟨aL,aN,aO,aP,aR,aT⟩:=id o
 obtain⟨nl,ae⟩:=Int.eq_ofNat_of_zero_le (show 0<=bW c by omega)
 have w:(bW c).toNat=nl:=by omega
 rw[w] at hr
 have af:ar c 0=2:=by simp[ar]
 have ag:ar c 1=2+bW c:=by simp[ar]
 refine bG h λa1 H1 h1=>?_
 refine av 2 (λi st Hk=>st=(i:Int)/\∃f x,Ext B f/\(1<=i->Bytes f x.1 (D.dQ (ar c 0) nl))/\(2<=i->Bytes f x.2 (D.dQ (ar c 1) nl))/\aA Hk (aC f::aJ a1 (jQ.s2 x)::aJ fa (jE (some A.a) g sb fw 0 none none m8 eP)::bA A D::L)) ⟨rfl,B,(Sl.nil,Sl.nil),.refl _,λh=>absurd h (by omega),λh=>absurd h (by omega),h1⟩ ?_
 rintro i st H2 again hi ⟨rfl,f,x,K,Z,ap,l⟩ V
 refine aM (λc1=>?_) (λc1=>?_)
 ·have X:i< 2:=by simp at c1;omega
  refine aD (aU (x:=g) l 2 rfl rfl (aD (aU (x:=g) l 2 rfl rfl (Ge.ry ((O.ext K).ext l.base) o (by omega) (dc l 2 rfl rfl (vY ((O.ext K).ext l.base) o ?_))))))
  rw[ae]
  have am:=l.perm (L':=aC f::aJ fa (jE (some A.a) g sb fw 0 none none m8 eP)::bA A D::aJ a1 (jQ.s2 x)::L) (.cons _ ((List.Perm.swap _ _ _).trans (.cons _ (.swap _ _ _))))
  have back:∀{H' f cs} {y:jQ.S2},aA H' (aC f::aJ fa cs::bA A D::aJ a1 (jQ.s2 y)::L)->aA H' (aC f::aJ a1 (jQ.s2 y)::aJ fa cs::bA A D::L):=λh=>h.perm (.cons _ ((List.Perm.cons _ (.swap _ _ _)).trans (.swap _ _ _)))
  have R:i=0∨i=1:=by omega
  have W:0<=ar c (i:Int)/\ar c (i:Int)+nl<=D.now.length:=by
   rcases R with rfl|rfl
   ·rw[show((0:Nat):Int)=0 from rfl,af];omega
   ·rw[show((1:Nat):Int)=1 from rfl,ag];omega
  refine Mo.vW am ok hk W.1 W.2 λq F H3 p hq G=>aF rfl ?_
  have G:=back G
  rw[bK (by omega)]
  refine⟨_,⟨by omega,by simpa using c1,rfl⟩,?_⟩
  rw[Nat.mul_one,Int.toNat_natCast]
  rcases R with rfl|rfl
  ·refine cU (j:=0) G 1 rfl (by simp) rfl λH4 N=>V X _ _ ⟨rfl,F,(q,x.2),K.trans p,λ_=>hq,λh=>absurd h (by omega),N⟩
  ·refine cU (j:=1) G 1 rfl (by simp) rfl λH4 N=>V X _ _ ⟨rfl,F,(x.1,q),K.trans p,λ_=>(Z (by omega)).ext p,λ_=>hq,N⟩
 ·have:i=2:=by simp at c1;omega
  subst this
  refine aE (aD (aU (x:=g) l 2 rfl rfl (mi (by omega) (by omega) (aU (x:=x.1) l 1 rfl rfl (mi (by omega) (by omega) (aU (x:=x.2) l 1 rfl rfl ?_))))))
  refine Rg.choose_spec l (O.ext K) o (Z (by omega)) (ap (by omega)) (by rw[w];exact zU ok nl _ (by omega) (by omega)) (by rw[w];exact zU ok nl _ (by omega) (by omega)) (CD ok nl _ (by omega) (by omega)) (CD ok nl _ (by omega) (by omega)) (λb J an aY F H3 p ac G=>?_) (λY=>by rw[hr] at Y;cases Y)
  obtain⟨er,ek⟩:=Prod.mk.inj (Option.some.inj (an.symm.trans hr))
  subst er;subst ek
  obtain⟨d,so,ss,rfl,hS⟩:=ac
  have P:=parts ao
  have S:Ext B F:=K.trans p
  refine bG G.aq λM H4 N=>cF (vs:=dp (fJ b d so ss)) N rfl rfl λH5 h5=>aF rfl (cQ (x:=fJ b d so ss) h5 rfl rfl ?_)
  refine aD (xS (jE (some A.a) g sb (fJ b d so ss) 0 none none m8 eP) h5 2 rfl (by simp) rfl rfl λH6 h6=>aD (cU (j:=21) h6 2 rfl (by simp) rfl λH7 n=>?_))
  have n:aA H7 (aC F::aJ M (dp (fJ b d so ss))::aJ fa (jE (some A.a) g sb (fJ b d so ss) J none none m8 eP)::bA A D::L):=n
  refine ak (x:=b.mode) n rfl (ak (x:=b.view) n rfl (ak (x:=b.aQ) n rfl (ak (x:=b.seq) n rfl (ak (x:=b.done) n rfl (ak (x:=b.gen) n rfl (aD (xS (jE (some A.a) g sb (fJ b d so ss) J none none (DV b) eP) n 2 rfl (by simp) rfl rfl λH8 I=>?_)))))))
  have I:aA H8 (aC F::aJ M (dp (fJ b d so ss))::aJ fa (jE (some A.a) g sb (fJ b d so ss) J none none (DV b) eP)::bA A D::L):=I
  refine aD (aU (x:=g) I 2 rfl rfl (ak (en:=Sl.v) (x:=ss) I rfl (aD (aU (x:=g) I 2 rfl rfl ?_))))
  have h9:=I.aq
  refine Us.RR h9 ((O.ext S).ext h9.base) o (show fM Us.bf 2 H8 ss b.bk from hS.bk.ext h9.base) (.inr P.bk) (λu hu=>?_) λaB ta s t aG z ax E=>?_
  ·have:=P.us u hu
   simp only[Us.AH,Bool.and_eq_true,decide_eq_true_eq];omega
  ·have ab:Jr c.2.1.toNat b.bk=b.bk:=by
    rw[Jr,List.drop_eq_nil_of_le (by simp;have:=P.bk;omega),List.append_nil]
   rw[ab] at E
   refine dc E 1 rfl rfl (mr ((O.ext (S.trans z)).ext E.base) λaH ay=>?_)
   have ad:c.1=(c.1.toNat:Int):=by omega
   rw[ad]
   refine Ig.RP (E.ext ay) (by omega) λT ia ib io s0 t0 s1 t1 aI C aw ah=>?_
   refine aD (cU (j:=22) ah 1 rfl (by simp) rfl λaK ai=>aD (cU (j:=23) ai 1 rfl (by simp) rfl λU aj=>?_))
   refine hQ (fJ b d so ss) ta s t ia ib io s0 t0 s1 t1 T U (S.trans (z.trans C)) ⟨d,so,ss,rfl,hS.ext (z.trans C)⟩ (ax.ext C) aw ?_
   have al:aA U (aC T::((aJ fa (jE (some A.a) g sb (fJ b d so ss) J (some ta) (some ia) (DV b) eP)::bA A D::L)++([au Us.bf 2 s b.bk,aS i64 t (List.replicate c.2.1.toNat 0)]++Ig.dO s0 t0 s1 t1 (mF c.1.toNat)))):=by
    rw[←List.append_assoc];exact aj
   refine al.perm (.cons _ ?_)
   have e:(aJ fa (jE (some A.a) g sb (fJ b d so ss) J (some ta) (some ia) (DV b) eP)::bA A D::L)++([au Us.bf 2 s b.bk,aS i64 t (List.replicate c.2.1.toNat 0)]++Ig.dO s0 t0 s1 t1 (mF c.1.toNat))=([aJ fa (jE (some A.a) g sb (fJ b d so ss) J (some ta) (some ia) (DV b) eP),bA A D]++(L++[au Us.bf 2 s b.bk,aS i64 t (List.replicate c.2.1.toNat 0)]))++Ig.dO s0 t0 s1 t1 (mF c.1.toNat):=by simp
   rw[e]
   refine List.perm_append_comm.trans (.append_left _ ?_)
   exact .cons _ (.cons _ (List.perm_append_comm (l₁:=L)))
end
end Mo
end
end Go.Proofs.YtigjebgjphmkoaaGreat
section
namespace KM
theorem UC {α:Type} {p:Prop} [Decidable p] {a:Option α} {b:α} (h:(if p then a else none)=some b):p/\a=some b:=by
 grind
def FC (c:ax) (aG:Bool) (k:Nat) (M:Im) (a:Im->Option Im):Option (List Int)->Option Im
 |none=>none
 |some refs=>if(refs.take (bt (M.cP aG) 15 (M.bR aG) k).length).all (λx=>yH c x||decide (x< 1))&&((refs.take (bt (M.cP aG) 15 (M.bR aG) k).length).all (λx=>bN x (if aG then -1 else 0) 4095)) then a (M.load aG k (refs.take (bt (M.cP aG) 15 (M.bR aG) k).length)) else none
theorem AN (c:ax) (D:Dk) (aG:Bool) (k:Nat) (x:Int) (l:List Int) (M:Im):dJ c D aG k (x::l) M=FC c aG k M (dJ c D aG (k+1) l) (oU (D.sec (cw c aG k x))):=by
 rfl
theorem FD (c:ax) (D:Dk) (aG:Bool) (k:Nat) (M:Im):dJ c D aG k [] M=some M:=rfl
end KM
namespace Go.Proofs.YtigjebgjphmkoaaGreat
open Tryz
namespace Mo
open Go Go.Kx KM Rw Cr Ds Ge Rc Sc Rg
section
variable {H B:PH} {L:List Ob} {k:Nat} {A:DA} {D:Dk} {c:ax} {fa a1:Addr} {g t m:Option Addr} {sb e:Pos} {r:uZ} {slot:Int} {st:AM}
def CS (c:ax) (x:Int):Bool:=yH c x||decide (x< 1)
theorem RS {x:Int} {Q:Bool->PH->Prop} (j:aa H fa (jE (some A.a) g sb r slot t m st e)) (i:Gm H g c) (f:bE c) (d:∀H',Ext H H'->Q (CS c x) H'):pj (some fa) x H Q:=by
 refine aD (aX (x:=g) j rfl (F5 i f λH1 l=>?_))
 have q:=d H1 l
 split
 ·next b=>
  have e:yH c x=true:=by rw[yH,KM.bD];omega
  rw[CS,e] at q
  exact aE (aW rfl q)
 ·next b=>
  have e:yH c x=false:=by rw[yH,Bool.eq_false_iff];intro h;rw[KM.bD] at h;omega
  rw[CS,e] at q
  exact aE (aF rfl q)
theorem Z6 {x:Int} {K:Value->PH->Prop} (j:aa H fa (jE (some A.a) g sb r slot t m st e)) (d:aa H a1 [.pointer (some fa)]) (i:Gm H g c) (f:bE c) (l:∀H',Ext H H'->K (.bool (!CS c x)) H'):xI prog (.func (.func 249) #[] #[.pointer (some a1)]) [i64 x] H K:=by
 refine⟨249,#[],#[.pointer (some a1)],rfl,iU func249 rfl rfl,?_⟩
 have h:=zw (p0:=x) (c0:=a1) (H:=H) (Q:=λb H'=>Ext H H'/\b=(!CS c x)) (az (x:=some fa) d (RS j i f (by simp)))
 exact fU.mono h (by grind)
theorem RT {p:Sl} {l:List Int} {Q:Bool->PH->Prop} (h:gR H p l) (y:l.length< 2 ^ 40) (s:aa H fa (jE (some A.a) g sb r slot t m st e)) (j:aa H a1 [.pointer (some fa)]) (q:Gm H g c) (o:bE c)
 (n:∀x∈l,CS c x=true) (w:∀H',Ext H H'->Q false H'):dM p (.func (.func 249) #[] #[.pointer (some a1)]) H Q:=by
 unfold dM iC
 refine av l.length (λk st i=>st=(k:Int)/\Ext H i) ⟨rfl,.refl H⟩ ?_
 rintro k st H1 again hk ⟨rfl,b⟩ d
 rw[h.bL]
 refine aM (λc=>?_) (by grind)
 have f:k<l.length:=by simpa using c
 refine dm (h.ext b) (by omega) (by omega) λx z=>Z6 (s.ext b) (j.ext b) (q.ext b) o λv u=>⟨_,rfl,aF ?_ ?_⟩
 ·grind
 ·rw[bK (by omega)]
  exact d f _ _ ⟨rfl,b.trans u⟩
theorem DW {D:Dk} {aG:Bool} {k:Nat} {x:Int} {l:List Int} {M b:Im} (h:dJ c D aG k (x::l) M=some b):
 ∃refs,oU (D.sec (cw c aG k x))=some refs/\(∀y∈refs.take (bt (M.cP aG) 15 (M.bR aG) k).length,CS c y=true/\(if aG then -1 else 0)<=y/\y<=4095)/\
  dJ c D aG (k+1) l (M.load aG k (refs.take (bt (M.cP aG) 15 (M.bR aG) k).length))=some b:=by
 rw[AN] at h
 generalize oU (D.sec (cw c aG k x))=o at h ⊢
 cases o with
 |none=>cases h
 |some refs=>
  rw[FC] at h
  obtain⟨a,h⟩:=UC h
  simp only[Bool.and_eq_true,List.all_eq_true,KM.bD] at a
  exact⟨refs,rfl,λy d=>⟨a.1 y d,a.2 y d⟩,h⟩
theorem Ka {at':Int} (ok:bu k D) (a:bE c) (h:all c<=D.now.length) {aG:Bool} {i:Nat} {x:Int} (hi:(i:Int)<bc c) (j:0<=x/\x<=1):0<=cw c aG i x/\cw c aG i x<D.now.length:=by
 have f:=kj a
 have b:=jQ.oI a
 have d:base c=2+2*(bW c+2*bc c):=rfl
 simp only[cw]
 omega
theorem fc {aG:Bool} {p:Sl} {mf:List Int} {n:Nat} {ia ib io:Addr} {s0 t0 s1 t1:Sl} {M C:Im} {Q:Int->PH->Prop}
 (h:aA H (aC B::(Ig.dO s0 t0 s1 t1 M++(aJ fa (jE (some A.a) g sb r slot t (some ia) st e)::bA A D::L)))) (ok:bu k D) (hk:k< 2 ^ 29) (hg:Gm B g c) (K:bE c) (hn:all c<=D.now.length)
 (R:Ig.qW B ia ib io s0 t0 s1 t1) (ad:Ig.dN n M) (ai:((M.bR aG).length:Int)=bc c) (hp:gR B p mf) (ao:(mf.length:Int)=bc c) (ae:∀x∈mf,0<=x/\x<=1) (ah:dJ c D aG 0 mf M=some C)
 (hQ:∀q H',Ext B q->Ig.dN n C->aA H' (aC q::(Ig.dO s0 t0 s1 t1 C++(aJ fa (jE (some A.a) g sb r slot t (some ia) st e)::bA A D::L)))->Q 0 H'):ly (some fa) aG p H Q:=by
 have al:=gI K
 refine gN h λa1 B1 H1 ak r1 h1=>?_
 refine av mf.length (λi s Hk=>s=(i:Int)/\∃q b,Ext B1 q/\Ig.dN n b/\((b.bR aG).length:Int)=bc c/\dJ c D aG i (mf.drop i) b=some C/\aA Hk (aC q::(Ig.dO s0 t0 s1 t1 b++(aJ fa (jE (some A.a) g sb r slot t (some ia) st e)::bA A D::L))))
  ⟨rfl,B1,M,.refl _,ad,ai,by simpa using ah,h1⟩ ?_
 rintro i s H2 again hi ⟨rfl,B2,b,J,w,aj,d,u⟩ ag
 have z:=ak.trans J
 rw[hp.bL]
 refine aM (λc1=>?_) (λc1=>?_)
 ·have I:i<mf.length:=by grind
  refine dm ((hp.ext z).ext u.base) (by omega) (by omega) λx X=>?_
  rw[Int.toNat_natCast] at X
  have Y:=ae x (by grind)
  have hd:mf.drop i=x::mf.drop (i+1):=by
   rw[List.drop_eq_getElem_cons I];congr 1
   rw[List.getElem?_eq_getElem I] at X;exact Option.some.inj X
  rw[hd] at d
  obtain⟨refs,hrefs,P,W⟩:=DW d
  have G:=Ka (at':=0) ok K hn (aG:=aG) (i:=i) (x:=x) (by omega) Y
  have o:∀{q H'},Ext B2 q->Ext q H'->aa H' a1 [.pointer (some fa)]:=λx y=>((r1.ext J).ext x).ext y
  refine az (x:=some fa) (o (.refl _) u.base) (aD (aU (x:=some A.a) u 5 rfl rfl (az (x:=some fa) (o (.refl _) u.base) (aD (aU (x:=g) u 5 rfl rfl ?_)))))
  refine qe ((hg.ext z).ext u.base) K (by omega) (by omega) λH3 x3=>?_
  have T:=u.ext x3
  refine dc T 5 rfl rfl (ig (o (.refl _) T.base) (BL (i:=5) T rfl ok hk G λar H4 h4=>aF rfl (iW h4 λB5 f ab h5=>?_)))
  have hl:=nZ ok G
  have hb:=ru ok G
  refine Pa.hG (ab.ext h5.base) hl hb (λl O au H6 af=>?_) (by grind)
  rw[hrefs] at O
  have el:=Option.some.inj O
  subst el
  refine aF rfl (iW (h5.made af) λB6 j ac U=>?_)
  refine az (x:=some fa) (o (f.trans j) U.base) (aD (aU (x:=some ia) U 5 rfl rfl ?_))
  refine Ig.GR (aG:=aG) (k:=(i:Int)) U (R.ext (z.trans (f.trans j))) w λaw H7 v=>?_
  have S:=(v.list (enc:=Ig.E) 1 rfl).bL
  rw[S]
  have v:=v.aq
  have an:refs.length=15:=by
   rw[oU] at hrefs
   split at hrefs
   ·have:=Option.some.inj hrefs;rw[←this,Pa.xx]
   grind
  have am:(bt (b.cP aG) 15 (b.bR aG) (i:Int)).length<=15:=by
   unfold bt;grind
  refine ni ac (by omega) (by omega) (by omega) λap F _=>?_
  simp only[Int.toNat_zero,List.drop_zero,Nat.sub_zero,Int.toNat_natCast] at F
  refine RT (F.ext v.base) (by simp;omega) (v.get 5 rfl) (o (f.trans j) v.base) ((hg.ext (z.trans (f.trans j))).ext v.base) K (λy Z=>(P y Z).1) λH8 x8=>?_
  have V:=v.ext x8
  refine aE (aF rfl (az (x:=some fa) (o (f.trans j) V.base) (aD (aU (x:=some ia) V 5 rfl rfl ?_))))
  have N:i<(b.bR aG).length:=by omega
  have hlen:(refs.take (bt (b.cP aG) 15 (b.bR aG) (i:Int)).length).length=(bt (b.cP aG) 15 (b.bR aG) (i:Int)).length:=by simp;omega
  refine Ig.O0 V (R.ext (z.trans (f.trans j))) w N F hlen (λy Z=>(P y Z).2) λH9 h9=>aF rfl ?_
  rw[bK (by omega)]
  refine ag I _ _ ⟨rfl,B6,_,J.trans (f.trans j),w.load N hlen,?_,W,h9⟩
  rw[←aj]
  cases aG<;>simp[Im.bR,Im.load]
 ·have:i=mf.length:=by simp at c1;omega
  subst this
  rw[List.drop_length] at d
  have e:b=C:=by rw[FD] at d;exact Option.some.inj d
  subst e
  exact hQ B2 H2 z w u
end
end Mo
end Go.Proofs.YtigjebgjphmkoaaGreat
end
namespace Go.Proofs.YtigjebgjphmkoaaGreat
open Tryz
section
namespace Ig
open Go Go.Kx KM
section
variable {H B:PH} {R:List Ob} {a b o:Addr} {s0 t0 s1 t1:Sl} {M:Im} {n:Nat}
theorem xz {aG:Bool} {x:Int} {k:Nat} {Q:Sl->Bool->PH->Prop} (h:aA H (aC B::(dO s0 t0 s1 t1 M++R))) (r:qW B a b o s0 t0 s1 t1) (ok:dN n M) (J:0<=x) (hk:1<=k) (I:x+k<=n)
 (z:∀H' g,aA H' (aC B::(dO s0 t0 s1 t1 (gZ aG x M k).1++(aS E g (gZ aG x M k).2::R)))->Q g true H'):qw (some a) aG x k H Q:=by
 have A:=ok.uD
 refine oH (r.ext h.base) (DU h ok) A ?_
 rw[decide_eq_true (show 1<=(k:Int)/\(k:Int)<=n/\0<=x/\x<=n-k from⟨by omega,by omega,by omega,by omega⟩)]
 refine aF rfl ?_
 have f:aA H ((aC B::dO s0 t0 s1 t1 M)++[sC R]++[aS E Sl.nil []]):=(aA.Jc h).Bp
 have m:aA H (aC B::(dO s0 t0 s1 t1 (gZ aG x M 0).1++[aS E Sl.nil (gZ aG x M 0).2,sC R])):=f.pick [0,1,2,3,4,6,5] (by decide) rfl (by simp[dO])
 refine av k (λi st w=>st.2=(i:Int)/\aA w (aC B::(dO s0 t0 s1 t1 (gZ aG x M i).1++[aS E st.1 (gZ aG x M i).2,sC R]))) ⟨rfl,m⟩ ?_
 clear f m
 rintro i ⟨g,st⟩ H1 again hi ⟨e,f⟩ D
 simp only at e f
 subst e
 obtain⟨t,G⟩:=GQ (aG:=aG) (b:=x) ok i
 refine aM (λc=>?_) (λc=>?_)
 ·have F:i<k:=by simpa using c
  refine aE (fx (r.ext f.base) ?_)
  rw[bC (x:=x+(i:Int)) (by omega) (by omega)]
  refine pZ f r t λu m=>?_
  have d:∀q p,aA p (aC B::(dO s0 t0 s1 t1 (gZ aG x M (i+1)).1++[aS E q (gZ aG x M (i+1)).2,sC R]))->again (q,IntKind.wrap .i64 ((i:Int)+1)) p:=λq p s=>by
   rw[bK (by omega)]
   grind
  refine aM (λc1=>?_) (λc1=>?_)
  ·have j:0<gone (bT ((gZ aG x M i).1.cP aG) (x+i)) 0:=by grind
   refine DE (enc:=E) m λK p s N=>pe (l:=(gZ aG x M i).2) (ys:=[gone (bT ((gZ aG x M i).1.cP aG) (x+i)) 0]) s 5 rfl (s.list 7 rfl) FA rfl (by simp;omega) λC v y=>d C v ?_
   have e:(gZ aG x M (i+1)).2=(gZ aG x M i).2++[gone (bT ((gZ aG x M i).1.cP aG) (x+i)) 0]:=by rw[gZ,gl,if_pos j]
   rw[e]
   exact y.pick [0,1,2,3,4,5,6] (by decide) rfl (by simp[dO])
  ·have j:¬0<gone (bT ((gZ aG x M i).1.cP aG) (x+i)) 0:=by grind
   refine d g u ?_
   have e:(gZ aG x M (i+1)).2=(gZ aG x M i).2:=by rw[gZ,gl,if_neg j,List.append_nil]
   rw[e];exact m
 ·have:i=k:=by grind
  subst this
  exact z H1 g (Ys (L:=aC B::(dO s0 t0 s1 t1 (gZ aG x M i).1++[aS E g (gZ aG x M i).2])) (by simpa using f)|>λh=>by simpa using h)
theorem Hx {x:Int} {k:Nat} {Q:Sl->Bool->PH->Prop} (h:aA H (aC B::(dO s0 t0 s1 t1 M++R))) (r:qW B a b o s0 t0 s1 t1) (ok:dN n M) (f:0<=x) (hk:1<=k) (d:x+k<=n)
 (c:∀H' g,aA H' (aC B::(dO s0 t0 s1 t1 (M.cut true x k).1++(aS E g (M.cut true x k).2::R)))->Q g true H'):nt (some a) x k H Q:=by
 have e:M.cut true x k=gZ true x M k:=by
  rw[Im.cut,if_pos]
  ·rfl
  ·have:=ok.n0
   simp only[Im.has,Bool.and_eq_true,decide_eq_true_eq];omega
 rw[e] at c
 exact xz h r ok f hk d c
end
end Ig
end
end Go.Proofs.YtigjebgjphmkoaaGreat
section
namespace KM
def DX (n:Nat) (f:Fd) (i:eG) (at_:Int):Bool:=
 (decide (0<=f.seq)&&decide (f.seq<=2147483646))&&((i.1==1&&(decide (0<=i.2.1)&&decide (i.2.1<n))&&(decide (1<=at_)&&decide (at_<=4095)))||i.1==3||i.1==7||(i.1==2&&(decide (0<=i.2.1)&&decide (1<=i.2.2.1)&&decide (i.2.1+i.2.2.1<=n))))
def w5 (n:Nat):Fd->Int->List eG->Bool
 |_,_,[]=>true
 |f,at_,i::l=>DX n f i (if bM i then at_+1 else at_)&&w5 n (f.jN i (if bM i then at_+1 else at_)) (if bM i then at_+1 else at_) l
def ud (c:ax) (n:Nat) (f:Fd) (x:Pos×Rec):Bool:=w5 n (f.dI x.2.aN) (aZ c x.1.1+x.1.2.1) x.2.items
def lU (c:ax) (n:Nat):Fd->List (Pos×Rec)->Bool
 |_,[]=>true
 |f,x::l=>ud c n f x&&lU c n (f.dh c x) l
theorem Kb {c:ax} {n:Nat}:∀{l pre:List (Pos×Rec)} {x:Pos×Rec} {f:Fd},lU c n f l=true->pre++[x] <+: l->ud c n (pre.foldl (Fd.dh c) f) x=true
 |[],pre,x,f,_,h=>by simp at h
 |y::l,[],x,f,b,h=>by
  obtain⟨t,a⟩:=h
  simp at a
  rw[lU,Bool.and_eq_true] at b
  grind
 |y::l,z::pre,x,f,b,h=>by
  obtain⟨t,a⟩:=h
  simp at a
  rw[lU,Bool.and_eq_true] at b
  rw[List.foldl_cons,a.1]
  exact Kb b.2 ⟨t,by simpa using a.2⟩
end KM
namespace Go.Proofs.YtigjebgjphmkoaaGreat
open Tryz
namespace Mo
open Go Go.Kx KM Rw Cr Ds Ge Rc Sc Rg
theorem dD {H:PH} {L:List Ob} {α:Type} {enc:α->Value} {a:Addr} {cs:List Value} {p q:Nat} {x:α} {K:α->Prop} (h:aA H L) (i:Nat) (hi:L[i]?=some (aJ a cs)) (d:cs[p+q]?=some (enc x)) (b:K x):aH enc H ((a.add p).add q) K:=by
 rw[add_add (h.get i hi:aa H a cs)];exact aU h i hi d b
theorem kH {H:PH} {L:List Ob} {a:Addr} {cs:List Value} {p q:Nat} {v:Value} {K:PH->Prop} (ws:List Value) (h:aA H L) (i:Nat) (hi:L[i]?=some (aJ a cs)) (d:p+q<cs.length) (j:cg v=true) (hw:cs.set (p+q) v=ws) (b:∀H',aA H' (L.set i (aJ a ws))->K H'):aV H ((a.add p).add q) [v] K:=by
 rw[add_add (h.get i hi:aa H a cs)];subst hw;exact cU h i hi d j b
abbrev wc (r:fH) (f:KM.Fd):AM:=(r.mode,r.view,f.aQ,f.seq,f.done,0,r.gen,0,0,0)
section
variable {H B:PH} {L R:List Ob} {k n:Nat} {A:DA} {D:Dk} {c:ax} {fa ta ia ib io:Addr} {g:Option Addr} {sb e:Pos} {rg:fH} {x14:uZ} {slot:Int} {s t s0 t0 s1 t1:Sl} {f:KM.Fd}
abbrev oJ (d g:Option Addr) (sb:Pos) (x14:uZ) (slot:Int) (fa ta ia:Addr) (rg:fH) (e:Pos) (s t s0 t0 s1 t1:Sl) (f:KM.Fd) (R:List Ob):List Ob:=
 Ig.dO s0 t0 s1 t1 f.m++(aJ fa (jE d g sb x14 slot (some ta) (some ia) (wc rg f) e)::au Us.bf 2 s f.t.l::aS i64 t f.t.v::R)
structure tO (n:Nat) (f:KM.Fd):Prop where
 im:Ig.dN n f.m
 tv:f.t.v.length=f.t.l.length
theorem tO.forget (ok:tO n f):tO n f.forget:=⟨by show Ig.dN n (gb f.m f.m.l1.length).1;exact(Ig.xT ok.im _).1,ok.tv⟩
theorem uc {d:Option Addr} {Q:PH->Prop} (h:aA H (aC B::oJ d g sb x14 slot fa ta ia rg e s t s0 t0 s1 t1 f R)) (i:Ig.qW B ia ib io s0 t0 s1 t1) (ok:tO n f)
 (p:∀H',aA H' (aC B::oJ d g sb x14 slot fa ta ia rg e s t s0 t0 s1 t1 f.forget R)->Q H'):ja (some fa) H Q:=by
 refine aD (aU (x:=some ia) h 5 rfl rfl (Ig.uc h i ok.im λH1 q b=>?_))
 refine aD (dD (x:=f.done) b 6 rfl rfl (aD (kH (jE d g sb x14 slot (some ta) (some ia) (wc rg f.forget) e) b 6 rfl (by simp) rfl rfl λa j=>p a ?_)))
 have e1:f.forget.m=(gb f.m n).1:=by show(gb f.m f.m.l1.length).1=_;rw[ok.im.n1]
 have o:aA a (aC B::(Ig.dO s0 t0 s1 t1 (gb f.m n).1++(aS Ig.E q (gb f.m n).2::aJ fa (jE d g sb x14 slot (some ta) (some ia) (wc rg f.forget) e)::au Us.bf 2 s f.t.l::aS i64 t f.t.v::R))):=j
 show aA a (aC B::(Ig.dO s0 t0 s1 t1 f.forget.m++_))
 rw[e1]
 exact o.kG
theorem DY {d:Option Addr} {i:eG} {at':Int} {Q:PH->Prop} (h:aA H (aC B::oJ d g sb x14 slot fa ta ia rg e s t s0 t0 s1 t1 f R)) (w:Ig.qW B ia ib io s0 t0 s1 t1) (E:aa B ta (Us.iS g s t)) (ok:tO n f) (hd:DX n f i at'=true)
 (j:∀H',tO n (f.jN i at')->aA H' (aC B::oJ d g sb x14 slot fa ta ia rg e s t s0 t0 s1 t1 (f.jN i at') R)->Q H'):kc (some fa) i at' H Q:=by
 simp only[DX,Bool.and_eq_true,Bool.or_eq_true,beq_iff_eq,decide_eq_true_eq] at hd
 obtain⟨⟨O,P⟩,hd⟩:=hd
 refine bG h λa1 H1 a=>ak (x:=i.1) a rfl ?_
 have up:∀{H' X},aA H' (aC B::aJ a1 [i64 i.1,i64 i.2.1,i64 i.2.2.1,i64 i.2.2.2]::X)->aA H' (aC B::X):=λh=>h.aq
 rcases hd with((⟨⟨e1,J⟩,N⟩|e3)|o)|⟨e2,⟨G,K⟩,M⟩
 ·refine aW (by rw[e1];rfl) (aD (aU (x:=some ia) a 6 rfl rfl ?_))
  refine ak (x:=i.2.1) a rfl ?_
  refine mP.i (Ig.hZ a.aq w ok.im J (by grind) λu b=>?_)
  refine aD (dD (x:=f.seq) b 5 rfl rfl (aD ?_))
  rw[cK (x:=f.seq+1) (by omega) (by omega)]
  have el:f.m.lay true i.2.1 at'=f.m.put true i.2.1 at':=by
   rw[Im.lay,if_pos]
   have:=ok.im.n0;have:=ok.im.FB
   simp only[Im.has,bN,Bool.and_eq_true,decide_eq_true_eq];omega
  have p:f.jN i at'={f with m:=f.m.put true i.2.1 at',seq:=f.seq+1}:=by rw[KM.Fd.jN,if_pos e1,el]
  rw[p] at j
  exact kH (jE d g sb x14 slot (some ta) (some ia) (wc rg {f with m:=f.m.put true i.2.1 at',seq:=f.seq+1}) e) b 5 rfl (by simp) rfl rfl λy r=>j y ⟨by exact ok.im.put true i.2.1 at',ok.tv⟩ r
 ·have p:f.jN i at'={f with aQ:=i.2.2.2,seq:=f.seq+1,done:=f.seq+1,m:=f.m.fS.1}:=by rw[KM.Fd.jN,if_neg (by omega),if_neg (by omega),if_pos e3]
  rw[p] at j
  refine aF (by rw[e3];rfl) (aF (by rw[e3];rfl) (aW (by rw[e3];rfl) ?_))
  refine ak (x:=i.2.2.2) a rfl (aD (dD (x:=f.seq) a 6 rfl rfl (aD ?_)))
  rw[cK (x:=f.seq+1) (by omega) (by omega)]
  refine kH (jE d g sb x14 slot (some ta) (some ia) (wc rg {f with aQ:=i.2.2.2}) e) a 6 rfl (by simp) rfl rfl λu b=>?_
  refine aD (kH (jE d g sb x14 slot (some ta) (some ia) (wc rg {f with aQ:=i.2.2.2,seq:=f.seq+1}) e) b 6 rfl (by simp) rfl rfl λy r=>?_)
  refine aD (dD (x:=f.seq+1) r 6 rfl rfl (aD ?_))
  refine kH (jE d g sb x14 slot (some ta) (some ia) (wc rg {f with aQ:=i.2.2.2,seq:=f.seq+1,done:=f.seq+1}) e) r 6 rfl (by simp) rfl rfl λF z=>?_
  have z:aA F (aC B::aJ a1 [i64 i.1,i64 i.2.1,i64 i.2.2.1,i64 i.2.2.2]::oJ d g sb x14 slot fa ta ia rg e s t s0 t0 s1 t1 {f with aQ:=i.2.2.2,seq:=f.seq+1,done:=f.seq+1} R):=z
  refine aD (aU (x:=some ia) z 6 rfl rfl (Ig.Ec (up z) w ok.im λC q I=>j C ⟨(Ig.AL ok.im _).1,ok.tv⟩ ?_))
  have e1:f.m.fS.1=(gD f.m n).1:=by show(gD f.m f.m.l1.length).1=_;rw[ok.im.n1]
  show aA C (aC B::(Ig.dO s0 t0 s1 t1 f.m.fS.1++_))
  rw[e1]
  exact I.kG
 ·have p:f.jN i at'={f with t:=f.t.jh i.2.2.2}:=by rw[KM.Fd.jN,if_neg (by omega),if_neg (by omega),if_neg (by omega),if_neg (by omega),if_neg (by omega),if_neg (by omega),if_pos o]
  rw[p] at j
  refine aF (by rw[o];rfl) (aF (by rw[o];rfl) (aF (by rw[o];rfl) (aF (by rw[o];rfl) (aF (by rw[o];rfl) (aF (by rw[o];rfl) (aW (by rw[o];rfl) ?_))))))
  refine aD (aU (x:=some ta) a 6 rfl rfl (ak (x:=i.2.2.2) a rfl ?_))
  refine Us.Hp a.aq (E.ext a.aq.base) 6 7 rfl rfl (by decide) ok.tv λu b=>j u ⟨ok.im,?_⟩ b
  show(qB f.t.l f.t.v i.2.2.2).length=(kF f.t.l i.2.2.2).length
  rw[qB,kF]
  split
  ·rw[List.length_set,Us.KC];exact ok.tv
  ·exact ok.tv
 ·obtain⟨m,hm⟩:∃m:Nat,i.2.2.1=m:=⟨i.2.2.1.toNat,by omega⟩
  have p:f.jN i at'={f with m:=(f.m.cut true i.2.1 i.2.2.1).1,seq:=f.seq+1}:=by rw[KM.Fd.jN,if_neg (by omega),if_pos e2]
  rw[p] at j
  refine aF (by rw[e2];rfl) (aW (by rw[e2];rfl) (aD (aU (x:=some ia) a 6 rfl rfl ?_)))
  refine ak (x:=i.2.1) a rfl (ak (x:=i.2.2.1) a rfl ?_)
  rw[hm] at j ⊢
  refine mP.i (Ig.Hx (up a) w ok.im G (by omega) (by omega) λu q b=>?_)
  have b:aA u (aC B::(Ig.dO s0 t0 s1 t1 (f.m.cut true i.2.1 m).1++_)):=b.kG
  refine aD (dD (x:=f.seq) b 5 rfl rfl (aD ?_))
  rw[cK (x:=f.seq+1) (by omega) (by omega)]
  exact kH (jE d g sb x14 slot (some ta) (some ia) (wc rg {f with m:=(f.m.cut true i.2.1 m).1,seq:=f.seq+1}) e) b 5 rfl (by simp) rfl rfl λy r=>j y ⟨by show Ig.dN n (f.m.cut true i.2.1 m).1;unfold Im.cut;split;exact(Ig.GQ ok.im _).1;exact ok.im,ok.tv⟩ r
end
end Mo
end Go.Proofs.YtigjebgjphmkoaaGreat
end
namespace Go.Proofs.YtigjebgjphmkoaaGreat
open Tryz
section
namespace Mo
open Go Go.Kx KM Rw Cr Ds Ge Rc Sc Rg
theorem O1 (f:KM.Fd) (i:eG) (a:Int):(f.jN i a).aN=f.aN:=by
 unfold KM.Fd.jN
 grind
theorem MD (l:List eG):∀(f:KM.Fd) (a:Int),(f.items a l).aN=f.aN:=by
 induction l with
 |nil=>intro f a;rfl
 |cons i l b=>intro f a;rw[KM.Fd.items,b,O1]
theorem Yt {X L:List Ob} {P Q:Ob}:(P::(X++Q::L)).Perm (Q::(X++P::L)):=(List.Perm.cons _ List.perm_middle).trans ((List.Perm.swap _ _ _).trans (.cons _ List.perm_middle.symm))
theorem GV (l:List cJ) (k st:Int):(eC l k st).length=l.length:=by unfold eC;split;exact Us.T3 _ _ _;rfl
theorem RU (l:List cJ) (k:Int):(kT l k).length=l.length:=by unfold kT;split;exact Us.KC _ _ _;rfl
section
variable {H B:PH} {L R:List Ob} {k n:Nat} {A:DA} {D:Dk} {c:ax} {fa ta ia ib io a1:Addr} {g:Option Addr} {sb e:Pos} {rg:fH} {x14:uZ} {slot:Int} {s t s0 t0 s1 t1:Sl} {f:KM.Fd}
abbrev UD (d g:Option Addr) (sb:Pos) (x14:uZ) (slot:Int) (fa ta ia:Addr) (rg:fH) (e:Pos) (s t s0 t0 s1 t1:Sl) (f:KM.Fd):List Ob:=
 Ig.dO s0 t0 s1 t1 f.m++[aJ fa (jE d g sb x14 slot (some ta) (some ia) (wc rg f) e),au Us.bf 2 s f.t.l,aS i64 t f.t.v]
theorem yf {d:Option Addr}:oJ d g sb x14 slot fa ta ia rg e s t s0 t0 s1 t1 f R=UD d g sb x14 slot fa ta ia rg e s t s0 t0 s1 t1 f++R:=by rfl
theorem RW {d:Option Addr} {x:Pos×Rec} {m:R5} {am:Addr} {P:List Ob} {K:PH->Prop} (h:aA H (aC B::oJ d g sb x14 slot fa ta ia rg e s t s0 t0 s1 t1 f (aJ am [i64 f.aN]::P))) (hg:Gm B g c) (hc:bE c)
 (ax:Ig.qW B ia ib io s0 t0 s1 t1) (ae:aa B ta (Us.iS g s t)) (r1:aa B a1 [.pointer (some fa)]) (ok:tO n f) (hr:ud c n f x=true) (Q:HD c x) (hm:qC B m x.2)
 (hK:∀H',tO n (f.dh c x)->aA H' (aC B::oJ d g sb x14 slot fa ta ia rg e s t s0 t0 s1 t1 (f.dh c x) (aJ am [i64 (f.dh c x).aN]::P))->K H'):
 aj H (row [i64 0,i64 0,i64 0,i64 0,i64 0] 185) λa ba=>aV ba a (s5 x.1) λbb=>aj bb (row [i64 0,i64 0,i64 0,Sl.v Sl.nil,Sl.v Sl.nil] 273) λj bc=>aV bc j (r5 m) λy=>
 aH (.int .i64) y (j.add 0) λbo=>aH (.int .i64) y am λbp=>
 aO (λ(bO:Unit) (z:PH)=>aH .pointer z a1 λbq=>aP bq λbe=>aH .pointer z (be.add 1) λbr=>aH (.int .i64) z (a.add 0) λbs=>aH (.int .i64) z (a.add 1) λaF=>
  gO br bs z λbv Y=>ay Y (a.add 1) (i64 aF)<|aH Sl.v Y (j.add 3) λaG=>
  bw (λ(G:Int×Int) (q:PH) (U:(Int×Int)->PH->Prop)=>aL (decide (G.2<(aG.len:Int)))
   (bX aG 4 G.2 λak=>aT It.fI q ak 4 λbt=>aj q (row [i64 0,i64 0,i64 0,i64 0] 196) λC bd=>aV bd C (It.fI bt) λag=>aT It.fI ag C 4 λbu=>pT bu ag λbx ah=>
    aO (λ(aB:Int) (Z:PH)=>aH .pointer Z a1 λaf=>aT It.fI Z C 4 λN=>kc af N aB Z λI=>U (aB,IntKind.wrap .i64 (G.2+1)) I)
    λar=>aL bx (ar (IntKind.wrap .i64 (G.1+1)) ah) (ar G.1 ah))
   (aH .pointer q a1 λaX=>aP aX λaQ=>aH .pointer q (aQ.add 22) λaY=>aH (.int .i64) q (a.add 0) λa0=>aH (.int .i64) q (j.add 1) λa2=>ke aY a0 a2 q λW=>
    aT r5 W j 5 λa3=>pU a3 W λbF a9 p=>aL a9
     (aH .pointer p a1 λa4=>aP a4 λaR=>aH .pointer p (aR.add 22) λa5=>aH (.int .i64) p (a.add 0) λa6=>lO a5 a6 p λaI=>K aI)
     (K p)))
  (IntKind.wrap .i64 (bv+aF),0) Y)
 λap=>aL (decide (bp<bo)) (aH (.int .i64) y (j.add 0) λa7=>aV y am [i64 a7] λX=>aH .pointer X a1 λa8=>ja a8 X λaK=>ap () aK) (ap () y):=by
 have bN:=qV hc
 have bB:=Sc.kX hc Q.oV
 have bA:=Q.off
 have bJ:=hc.2.2.2.2.2
 rw[yf] at h
 refine bG h λa H1 h1=>cF (vs:=s5 x.1) h1 rfl rfl λH2 h2=>bG h2.ua λj H3 h3=>cF (vs:=r5 m) h3 rfl rfl λH4 V=>?_
 have V:aA H4 (aC B::oJ d g sb x14 slot fa ta ia rg e s t s0 t0 s1 t1 f (aJ j (r5 m)::aJ a (s5 x.1)::aJ am [i64 f.aN]::P)):=by rw[yf];exact V.ua
 refine aU (x:=m.1) V 8 rfl rfl (eB (x:=f.aN) V 10 rfl ?_)
 refine qb (λ_ H'=>tO n (f.dI x.2.aN)/\aA H' (aC B::oJ d g sb x14 slot fa ta ia rg e s t s0 t0 s1 t1 (f.dI x.2.aN) (aJ j (r5 m)::aJ a (s5 x.1)::aJ am [i64 (f.dI x.2.aN).aN]::P))) ?_ λk' an=>?_
 ·rintro _ H5 ⟨aw,o⟩
  have S:∀{H'},Ext B H'->aa H' a1 [.pointer (some fa)]:=λx=>r1.ext x
  refine az (x:=some fa) (S o.base) (aD (aU (x:=g) o 5 rfl rfl (aU (x:=x.1.1) o 9 rfl rfl (aU (x:=x.1.2.1) o 9 rfl rfl (Sc.zh (hg.ext o.base) hc Q.oV λH6 x6=>dc (o.ext x6) 9 rfl rfl ?_)))))
  have h6:=o.ext x6
  rw[cK (x:=aZ c x.1.1+x.1.2.1) (by omega) (by omega)]
  refine aU (enc:=Sl.v) (x:=m.2.2.2.1) h6 8 rfl rfl ?_
  have al:=hm.it
  have bz:x.2.items.length<=6:=by
   have:=Q.may
   simp only[dH,Bool.and_eq_true,KM.bD] at this
   have:=this.1.1.1.2;omega
  have bl:ud c n f x=w5 n (f.dI x.2.aN) (aZ c x.1.1+x.1.2.1) x.2.items:=rfl
  rw[bl] at hr
  have ao:f.dh c x=(((f.dI x.2.aN).items (aZ c x.1.1+x.1.2.1) x.2.items).tail x.1.1 x.2.cZ (dC x.2.items).isSome):=rfl
  have bk:(f.dh c x).aN=(f.dI x.2.aN).aN:=by rw[ao];exact MD _ _ _
  rw[bk,ao] at hK
  generalize f.dI x.2.aN=f1 at aw h6 hr hK ⊢
  have aW:0<=aZ c x.1.1+x.1.2.1/\aZ c x.1.1+x.1.2.1<=4000:=by omega
  generalize aZ c x.1.1+x.1.2.1=O at hr hK aW ⊢
  refine av x.2.items.length (λi st Hk=>∃fi,st.2=(i:Int)/\w5 n fi st.1 (x.2.items.drop i)=true/\f1.items O x.2.items=fi.items st.1 (x.2.items.drop i)/\tO n fi/\(O<=st.1/\st.1<=O+i)/\
   aA Hk (aC B::oJ d g sb x14 slot fa ta ia rg e s t s0 t0 s1 t1 fi (aJ j (r5 m)::aJ a (s5 x.1)::aJ am [i64 f1.aN]::P))) ⟨f1,rfl,by grind,by simp,aw,by simp,h6⟩ ?_
  rintro i ⟨ai,_⟩ H7 again hi ⟨fi,ei,ac,r,T,bi,F⟩ bh
  simp only at ei ac r bi;subst ei
  rw[al.bL]
  refine aM (λc1=>?_) (λc1=>?_)
  ·have ad:i<x.2.items.length:=by grind
   refine Bu (al.ext F.base) (by omega) (by omega) λak it M bj=>⟨it,bj,?_⟩
   rw[Int.toNat_natCast] at M
   have hd:x.2.items.drop i=it::x.2.items.drop (i+1):=by
    rw[List.drop_eq_getElem_cons ad];congr 1
    rw[List.getElem?_eq_getElem ad] at M;exact Option.some.inj M
   rw[hd,w5,Bool.and_eq_true] at ac
   rw[hd,KM.Fd.items] at r
   refine bG F λC H8 J=>cF (vs:=It.fI it) J rfl rfl λH9 u=>cQ (x:=it) u rfl rfl (It.Ag λw bn=>?_)
   have E:=u.ext bn
   have fin:∀at',at'=(if bM it then ai+1 else ai)->aH .pointer w a1 λaf=>aT It.fI w C 4 λN=>kc af N at' w λI=>again (at',IntKind.wrap .i64 ((i:Int)+1)) I:=λat' e'=>by
    subst e'
    refine az (x:=some fa) (S E.base) (cQ (x:=it) E rfl rfl (DY E.aq ax ae T ac.1 λbH bC bI=>?_))
    rw[bK (by omega)]
    exact bh ad _ _ (by grind)
   refine aE (aM (λcl=>fin _ ?_) (λcl=>fin _ ?_))
   ·rw[if_pos cl,cK (by omega) (by omega)]
   grind
  ·have:i=x.2.items.length:=by grind
   subst this
   rw[List.drop_length] at r
   have r:f1.items O x.2.items=fi:=r
   rw[r] at hK
   refine az (x:=some fa) (S F.base) (aD (aU (x:=some ta) F 5 rfl rfl (aU (x:=x.1.1) F 9 rfl rfl (aU (x:=m.2.1) F 8 rfl rfl ?_))))
   refine Us.GH F (ae.ext F.base) 6 rfl λH8 J=>?_
   have J:aA H8 (aC B::(Ig.dO s0 t0 s1 t1 fi.m++(aJ fa (jE d g sb x14 slot (some ta) (some ia) (wc rg fi) e)::au Us.bf 2 s (eC fi.t.l x.1.1 m.2.1)::aS i64 t fi.t.v::(aJ j (r5 m)::aJ a (s5 x.1)::aJ am [i64 f1.aN]::P)))):=J
   refine cE (x:=m) J 8 rfl rfl rfl (DR (hm.ext J.base) λH9 x9=>?_)
   have u:=J.ext x9
   have e2:=hm.e2
   have bm:∀b,tO n (fi.tail x.1.1 x.2.cZ b):=λb=>⟨T.im,by
    show fi.t.v.length=List.length (if b then _ else _)
    split
    ·rw[RU,GV];exact T.tv
    ·rw[GV];exact T.tv⟩
   have fin:∀H' l',l'=(if(dC x.2.items).isSome then kT (eC fi.t.l x.1.1 x.2.cZ) x.1.1 else eC fi.t.l x.1.1 x.2.cZ)->aA H' (aC B::(Ig.dO s0 t0 s1 t1 fi.m++(aJ fa (jE d g sb x14 slot (some ta) (some ia) (wc rg fi) e)::au Us.bf 2 s l'::aS i64 t fi.t.v::(aJ j (r5 m)::aJ a (s5 x.1)::aJ am [i64 f1.aN]::P))))->K H':=λH' l' el h'=>by
    refine hK H' (bm _) ?_
    have eT:(fi.tail x.1.1 x.2.cZ (dC x.2.items).isSome)={fi with t:={fi.t with l:=l'}}:=by rw[el];rfl
    rw[eT]
    have bg:aA H' (aC B::(UD d g sb x14 slot fa ta ia rg e s t s0 t0 s1 t1 {fi with t:={fi.t with l:=l'}}++(aJ j (r5 m)::aJ a (s5 x.1)::aJ am [i64 f1.aN]::P))):=by rw[←yf];exact h'
    rw[yf]
    exact bg.kG.kG
   rw[e2] at u
   refine aM (λcn=>?_) (λcn=>?_)
   ·refine az (x:=some fa) (S u.base) (aD (aU (x:=some ta) u 5 rfl rfl (aU (x:=x.1.1) u 9 rfl rfl ?_)))
    exact Us.xu u (ae.ext u.base) 6 rfl λw E=>fin w _ (by grind) E
   grind
 ·have e1:=hm.e1
  refine aM (λc1=>?_) (λc1=>an _ _ ?_)
  ·have ab:f.aN<x.2.aN:=by grind
   refine aU (x:=m.1) V 8 rfl rfl (jF V 10 rfl rfl λH5 o=>?_)
   have o:aA H5 (aC B::oJ d g sb x14 slot fa ta ia rg e s t s0 t0 s1 t1 {f with aN:=x.2.aN} (aJ j (r5 m)::aJ a (s5 x.1)::aJ am [i64 x.2.aN]::P)):=by rw[←e1];exact o
   refine az (x:=some fa) (r1.ext o.base) (uc o ax (f:={f with aN:=x.2.aN}) ⟨ok.im,ok.tv⟩ λH6 h6=>an _ _ ?_)
   have en:f.dI x.2.aN=({f with aN:=x.2.aN}:KM.Fd).forget:=by rw[KM.Fd.dI,if_pos ab]
   rw[en]
   exact⟨tO.forget ⟨ok.im,ok.tv⟩,h6⟩
  ·have ab:¬f.aN<x.2.aN:=by grind
   rw[KM.Fd.dI,if_neg ab]
   grind
end
end Mo
end
section
namespace Mo
open Go Go.Kx KM Rw Cr Ds Ge Rc Sc Rg
section
variable {H B:PH} {L R:List Ob} {k n:Nat} {A:DA} {D:Dk} {c:ax} {fa ta ia ib io a1:Addr} {g:Option Addr} {sb e en:Pos} {rg:fH} {x14:uZ} {slot:Int} {s t s0 t0 s1 t1 sb' so' ss':Sl} {f:KM.Fd}
theorem Kc {nf:Nat} {l:List (Pos×Rec)} {Q:Int->PH->Prop} (h:aA H (aC B::oJ (some A.a) g sb (fJ rg sb' so' ss') slot fa ta ia rg eP s t s0 t0 s1 t1 f (bA A D::L))) (ok:bu k D) (hk:k< 2 ^ 29) (V:Gm B g c) (hc:bE c) (hn:all c<=D.now.length)
 (J:Ig.qW B ia ib io s0 t0 s1 t1) (aj:aa B ta (Us.iS g s t)) (ak:tO n f) (ae:f.aN=rg.pos.2.2.2.2) (ad:mG c D nf rg.pos=some (l,en)) (ag:lU c n f l=true)
 (hQ:∀S H',Ext B S->tO n (l.foldl (KM.Fd.dh c) f).forget->aA H' (aC S::oJ (some A.a) g sb (fJ rg sb' so' ss') slot fa ta ia rg en s t s0 t0 s1 t1 (l.foldl (KM.Fd.dh c) f).forget (bA A D::L))->Q 0 H'):nF (some fa) H Q:=by
 refine gN h λa1 B1 H1 O r1 v=>?_
 have Z:aa H1 fa (jE (some A.a) g sb (fJ rg sb' so' ss') slot (some ta) (some ia) (wc rg f) eP):=v.get 5 rfl
 have y:=r1.ext v.base
 refine az (x:=some fa) y (aD (aU (x:=some A.a) v 5 rfl rfl (az (x:=some fa) y (aD (aU (x:=g) v 5 rfl rfl (az (x:=some fa) y (aD ?_)))))))
 rw[add_add Z]
 refine pI (en:=s5) (x:=rg.pos) v 5 rfl (by simp) rfl (Ch.fO v (V.ext O) λca H2 T=>?_)
 refine az (x:=some fa) (r1.ext T.base) (aD ?_)
 rw[add_add Z,add_add Z]
 refine aU (x:=rg.pos.2.2.2.2) T 6 rfl rfl (bG T λb H3 h3=>jF h3 1 rfl rfl λH4 U=>?_)
 have U:aA H4 (aC B1::aJ b [i64 rg.pos.2.2.2.2]::aJ ca (Ch.tM (some A.a) g rg.pos rg.pos 0)::oJ (some A.a) g sb (fJ rg sb' so' ss') slot fa ta ia rg eP s t s0 t0 s1 t1 f (bA A D::L)):=U
 refine Ch.Oz U λc0 B5 H5 p ai h5=>?_
 have ac:aA H5 (aC B5::aJ ca (Ch.tM (some A.a) g rg.pos rg.pos 0)::bA A D::oJ (some A.a) g sb (fJ rg sb' so' ss') slot fa ta ia rg eP s t s0 t0 s1 t1 f (aJ b [i64 f.aN]::L)):=by
  rw[ae,yf]
  rw[yf] at h5
  exact h5.perm (.cons _ ((List.Perm.swap _ _ _).trans (.cons _ Yt)))
 have z:=O.trans p
 refine zO c0 _ _ _ _ λyv=>Ch.KT nf l (λpre _ S N=>∃d,d=pre.foldl (KM.Fd.dh c) f/\tO n d/\N=oJ (some A.a) g sb (fJ rg sb' so' ss') slot fa ta ia rg eP s t s0 t0 s1 t1 d (aJ b [i64 d.aN]::L))
  ad ac ai ok hk (V.ext z) hc hn (by simp) (by grind) ?_ ?_
 ·rintro pre x m _ q M P H6 K j ⟨d,E,u,rfl⟩ W af hm F I
  have G:aA H6 (aC q::oJ (some A.a) g sb (fJ rg sb' so' ss') slot fa ta ia rg eP s t s0 t0 s1 t1 d (aJ b [i64 d.aN]::(L++P))):=F.rot
  have o:=z.trans j
  have hr:=Kb ag W
  rw[←E] at hr
  refine⟨x.1,m,rfl,?_⟩
  refine RW (a1:=a1) (x:=x) (m:=m) G (V.ext o) hc (J.ext o) (aj.ext o) (r1.ext (p.trans j)) u hr af hm λC ah r=>?_
  refine I () q _ C (.refl _) ⟨d.dh c x,by rw[E];simp,ah,rfl⟩ ?_
  exact aA.rot (X:=oJ (some A.a) g sb (fJ rg sb' so' ss') slot fa ta ia rg eP s t s0 t0 s1 t1 (d.dh c x) (aJ b [i64 (d.dh c x).aN]::L)) (Y:=P) r
 ·rintro _ q M H6 j ⟨d,E,u,rfl⟩ F
  subst E
  have o:=z.trans j
  have r6:=(r1.ext (p.trans j)).ext F.base
  refine az (x:=some fa) r6 (Ch.CQ (i:=0) F rfl λH7 G=>ig ((r1.ext (p.trans j)).ext G.base) (aD (xS (jE (some A.a) g sb (fJ rg sb' so' ss') slot (some ta) (some ia) (wc rg (l.foldl (KM.Fd.dh c) f)) en) G 7 rfl (by simp) rfl rfl λC r=>?_)))
  have r:aA C (aC q::aJ ca (Ch.tM (some A.a) g rg.pos en 0)::bA A D::oJ (some A.a) g sb (fJ rg sb' so' ss') slot fa ta ia rg en s t s0 t0 s1 t1 (l.foldl (KM.Fd.dh c) f) (aJ b [i64 (l.foldl (KM.Fd.dh c) f).aN]::L)):=r
  refine az (x:=some fa) ((r1.ext (p.trans j)).ext r.base) ?_
  rw[yf] at r
  have w:aA C (aC q::oJ (some A.a) g sb (fJ rg sb' so' ss') slot fa ta ia rg en s t s0 t0 s1 t1 (l.foldl (KM.Fd.dh c) f) (aJ ca (Ch.tM (some A.a) g rg.pos en 0)::bA A D::aJ b [i64 (l.foldl (KM.Fd.dh c) f).aN]::L)):=by
   rw[yf]
   exact r.Yr
  refine uc w (J.ext o) u λH9 w=>Ch.E9 (i:=7) w rfl ?_
  refine hQ q H9 o u.forget ?_
  rw[yf] at w ⊢
  have al:=w.kG
  have ab:aA H9 (aC q::((UD (some A.a) g sb (fJ rg sb' so' ss') slot fa ta ia rg en s t s0 t0 s1 t1 (l.foldl (KM.Fd.dh c) f).forget++[bA A D])++aJ b [i64 (l.foldl (KM.Fd.dh c) f).aN]::L)):=by
   grind
  have am:=ab.kG
  grind
end
end Mo
end
section
namespace Wr
open Go Go.Kx KM Rw Ge Sc
abbrev yA (d g t:Option Addr) (p:Pos) (kI kC:Sl):List Value:=[.pointer d,.pointer g,.pointer t,i64 p.1,i64 p.2.1,i64 p.2.2.1,i64 p.2.2.2.1,i64 p.2.2.2.2,Sl.v kI,Sl.v kC]
theorem fO {H B:PH} {L:List Ob} {c:ax} {d t:Addr} {g:Option Addr} {p:Pos} {Q:Option Addr->PH->Prop} (h:aA H (aC B::L)) (l:Gm B g c) (j:bE c) (m:fj c p=true)
 (u:∀wa H',aA H' (aC B::aJ wa (yA (some d) g (some t) p Sl.nil Sl.nil)::L)->Q (some wa) H'):yV (some d) g (some t) p H Q:=by
 obtain⟨i,rfl,o⟩:=l
 refine bG h λa1 H1 a=>aE (aF rfl (aE (aF rfl (aE (aF rfl (cQ (x:=p) a rfl rfl (Hn ⟨i,rfl,o.ext a.base⟩ j λr q=>?_)))))))
 rw[m]
 have b:=a.ext q
 exact aF rfl (cQ (x:=p) b rfl rfl (bG b.aq (by omega)))
end Wr
namespace Mo
open Go Go.Kx KM Rw Cr Ds Ge Rc Sc Rg
theorem HG {c:ax} {v:List Int} {a b:Int} (h:∀x,x∈v->0<=x/\x<=2147483647):∀x,x∈gX c v a b->0<=x/\x<=2147483647:=by
 unfold gX
 split
 ·intro x d
  rcases List.mem_or_eq_of_mem_set d with d|d
  ·exact h x d
  ·subst d
   refine Us.Wn ?_
   unfold bg
   split
   ·rw[List.getD]
    cases i:v[((a-base c)/c.2.2).toNat]? with
    |none=>simp
    |some y=>exact(h y (by grind)).1
   ·omega
 ·exact h
theorem CT {c:ax} {v:List Int} {a b:Int}:(gX c v a b).length=v.length:=by unfold gX;grind
theorem jc {H:PH} {L:List Ob} {a:Addr} {cs:List Value} {p q:Nat} {v:Value} {K:Prop} (h:aA H L) (i:Nat) (hi:L[i]?=some (aJ a cs)) (d:cs[p+q]?=some v) (b:K):ay H ((a.add p).add q) v K:=by
 rw[add_add (h.get i hi:aa H a cs)];exact dc h i hi d b
section
variable {H B:PH} {L R:List Ob} {k n:Nat} {A:DA} {D:Dk} {c:ax} {fa ta ia ib io a1:Addr} {g:Option Addr} {sb e en:Pos} {rg:fH} {x14:uZ} {slot id aN:Int} {s t s0 t0 s1 t1 sb' so' ss':Sl} {f:KM.Fd}
abbrev Kd (d g:Option Addr) (sb:Pos) (x14:uZ) (slot:Int) (fa ta ia:Addr) (st:AM) (e:Pos) (s t s0 t0 s1 t1:Sl) (f:KM.Fd) (v:List Int) (R:List Ob):List Ob:=
 Ig.dO s0 t0 s1 t1 f.m++(aJ fa (jE d g sb x14 slot (some ta) (some ia) st e)::au Us.bf 2 s f.t.l::aS i64 t v::R)
abbrev stM (r:fH) (f:KM.Fd) (aN:Int):AM:=(r.mode,r.view,f.aQ,f.seq,f.done,aN,r.gen,0,0,0)
theorem ME {Q:Option Addr->Int->PH->Prop} (h:aA H (aC B::oJ (some A.a) g (Su.sup c id aN) x14 slot fa ta ia rg en s t s0 t0 s1 t1 f (bA A D::L))) (ok:bu k D) (hk:k+3< 2 ^ 29) (hg:Gm B g c) (G:bE c) (hn:all c<=D.now.length)
 (aG:Ig.qW B ia ib io s0 t0 s1 t1) (ah:aa B ta (Us.iS g s t)) (ar:tO n f) (hv:(f.t.v.length:Int)=c.2.1) (ax:∀x,x∈f.t.v->0<=x/\x<=2147483647)
 (hp:fj c (en.1,en.2.1,en.2.2.1,en.2.2.2.1,aN+1)=true) (W:dA c id (aN+1)=true) (aw:(bg (0,0) f.t.l en.1).1=1)
 (hQ:∀A' wa o H',A'.a=A.a->Ext B o->bu (k+3) ((D.put (aZ c en.1+en.2.1) (List.replicate 64 0)).put ((aN+1)% 2) (eZ c id (aN+1))).flush->(((D.put (aZ c en.1+en.2.1) (List.replicate 64 0)).put ((aN+1)% 2) (eZ c id (aN+1))).flush).now.length=D.now.length->
  aA H' (aC o::aJ wa (Wr.yA (some A.a) g (some ta) (en.1,en.2.1,en.2.2.1,en.2.2.2.1,aN+1) Sl.nil Sl.nil)::Kd (some A.a) g (Su.sup c id (aN+1)) x14 slot fa ta ia (stM rg f (aN+1)) (en.1,en.2.1,en.2.2.1,en.2.2.2.1,aN+1) s t s0 t0 s1 t1 f (jW c f.t.v f.m.refs)
   (bA A' (((D.put (aZ c en.1+en.2.1) (List.replicate 64 0)).put ((aN+1)% 2) (eZ c id (aN+1))).flush)::L))->Q (some wa) 0 H'):oN (some fa) H Q:=by
 have aP:=(Su.kt W).2.2
 have af:(0<=en.1/\en.1<c.2.1)/\0<=en.2.1/\en.2.1<c.2.2:=by
  simp only[fj,Bool.and_eq_true,KM.bD] at hp;omega
 have aK:=Sc.kX G af.1
 have aM:=qV G
 refine gN h λa1 B1 H1 aH r1 h1=>az (x:=some fa) (r1.ext h1.base) (aD (aU (x:=some ia) h1 5 rfl rfl ?_))
 refine Ig.NY h1 λc0 B2 H2 ab aB h2=>?_
 have Z:=aH.trans ab
 refine vU c0 _ _ _ _ λyv=>Ig.GU (λpre _ o N=>N=aJ fa (jE (some A.a) g (Su.sup c id aN) x14 slot (some ta) (some ia) (wc rg f) en)::au Us.bf 2 s f.t.l::aS i64 t (jW c f.t.v pre)::bA A D::L/\
  ((jW c f.t.v pre).length:Int)=c.2.1/\(∀x,x∈jW c f.t.v pre->0<=x/\x<=2147483647)) h2 (aG.ext Z) ar.im aB (by simp) ⟨rfl,hv,ax⟩ ?_ ?_
 ·rintro pre x _ U N H3 K _ F ⟨rfl,hl,hr⟩ u ac
  have E:=Z.trans F
  refine⟨x.1,x.2,rfl,az (x:=some fa) ((r1.ext (ab.trans F)).ext u.base) (aD (aU (x:=some ta) u 5 rfl rfl ?_))⟩
  refine Us.DS u ((ah.ext E).ext u.base) ((hg.ext E).ext u.base) G 7 rfl hl hr (by decide) λH4 z=>?_
  have er:jW c f.t.v (pre++[x])=gX c (jW c f.t.v pre) x.2 1:=by simp[jW]
  refine ac () U _ H4 (.refl _) ⟨rfl,by rw[er,CT];exact hl,by rw[er];exact HG hr⟩ ?_
  rw[er]
  exact z
 ·rintro _ U N H3 F ⟨rfl,hl,hr⟩ u
  have E:=Z.trans F
  have r:∀{o H'},Ext U o->Ext o H'->aa H' a1 [.pointer (some fa)]:=λx y=>((r1.ext (ab.trans F)).ext x).ext y
  refine az (x:=some fa) (r (.refl _) u.base) (aD (dD (x:=aN) u 5 rfl rfl (aD ?_)))
  rw[cK (x:=aN+1) (by omega) (by omega)]
  refine kH (jE (some A.a) g (Su.sup c id (aN+1)) x14 slot (some ta) (some ia) (wc rg f) en) u 5 rfl (by simp) rfl rfl λH4 z=>?_
  have z:aA H4 (aC U::Kd (some A.a) g (Su.sup c id (aN+1)) x14 slot fa ta ia (wc rg f) en s t s0 t0 s1 t1 f (jW c f.t.v f.m.refs) (bA A D::L)):=z
  have q1:=r (.refl _) z.base
  refine az (x:=some fa) q1 (az (x:=some fa) q1 (az (x:=some fa) q1 (aD (dD (x:=aN+1) z 5 rfl rfl (az (x:=some fa) q1 (aD (dD (x:=aN+1) z 5 rfl rfl (aD ?_))))))))
  refine kH (jE (some A.a) g (Su.sup c id (aN+1)) x14 slot (some ta) (some ia) (stM rg f (aN+1)) en) z 5 rfl (by simp) rfl rfl λH5 h5=>?_
  have h5:aA H5 (aC U::Kd (some A.a) g (Su.sup c id (aN+1)) x14 slot fa ta ia (stM rg f (aN+1)) en s t s0 t0 s1 t1 f (jW c f.t.v f.m.refs) (bA A D::L)):=h5
  refine ig (r (.refl _) h5.base) (aD (kH (jE (some A.a) g (Su.sup c id (aN+1)) x14 slot (some ta) (some ia) (stM rg f (aN+1)) (en.1,en.2.1,en.2.2.1,en.2.2.2.1,aN+1)) h5 5 rfl (by simp) rfl rfl λH6 C=>?_))
  have C:aA H6 (aC U::Kd (some A.a) g (Su.sup c id (aN+1)) x14 slot fa ta ia (stM rg f (aN+1)) (en.1,en.2.1,en.2.2.1,en.2.2.2.1,aN+1) s t s0 t0 s1 t1 f (jW c f.t.v f.m.refs) (bA A D::L)):=C
  have q6:=r (.refl _) C.base
  refine az (x:=some fa) q6 (aD (aU (x:=some A.a) C 5 rfl rfl (az (x:=some fa) q6 (aD (aU (x:=g) C 5 rfl rfl (az (x:=some fa) q6 (aD (aU (x:=some ta) C 5 rfl rfl (az (x:=some fa) q6 (aD ?_))))))))))
  refine pI (en:=s5) (x:=(en.1,en.2.1,en.2.2.1,en.2.2.2.1,aN+1)) C 5 rfl (by simp) rfl (Wr.fO C (hg.ext E) G hp λwa H7 h7=>?_)
  refine az (x:=some fa) (r (.refl _) h7.base) (aD (pI (en:=s5) (x:=Su.sup c id (aN+1)) h7 6 rfl (by simp) rfl ?_))
  refine Su.fP W λaR H8 av=>iW (h7.made av) λB8 ai ak p=>?_
  have T:=E.trans ai
  have X:∀{o H'},Ext B8 o->Ext o H'->aa H' a1 [.pointer (some fa)]:=λx y=>r (ai.trans x) y
  have V:=X (.refl _) p.base
  refine aE (aF rfl (mP.i (aE (aF rfl (az (x:=some fa) V (aD (aU (x:=some ta) p 6 rfl rfl (az (x:=some fa) V (aD (dD (x:=en.1) p 6 rfl rfl ?_))))))))))
  refine Us.Ot ((ah.ext T).ext p.base) ((p.get 7 rfl:bj Us.bf 2 H8 s _).lX Us.nL) ?_
  rw[aw]
  refine aF rfl (aE ?_)
  refine az (x:=some fa) V (aD (aU (x:=some A.a) p 6 rfl rfl (az (x:=some fa) V (aD (aU (x:=g) p 6 rfl rfl (az (x:=some fa) V (aD (dD (x:=en.1) p 6 rfl rfl (az (x:=some fa) V (aD (dD (x:=en.2.1) p 6 rfl rfl ⟨by simp[sd],?_⟩)))))))))))
  refine Sc.zh ((hg.ext T).ext p.base) G af.1 λH9 x9=>?_
  have h9:=p.ext x9
  have q9:=X (.refl _) h9.base
  refine jc h9 6 rfl rfl (ig q9 (dc h9 6 rfl rfl (ig q9 (Fj (enc:=u8) (x:=(0:Int)) h9 λal am aj aQ=>?_))))
  have q:=aA.up (show aA am (aC B8::(aJ wa (Wr.yA (some A.a) g (some ta) (en.1,en.2.1,en.2.2.1,en.2.2.2.1,aN+1) Sl.nil Sl.nil)::Kd (some A.a) g (Su.sup c id (aN+1)) x14 slot fa ta ia (stM rg f (aN+1)) (en.1,en.2.1,en.2.2.1,en.2.2.2.1,aN+1) s t s0 t0 s1 t1 f (jW c f.t.v f.m.refs) (bA A D::L)++[aS u8 al (List.replicate 64 0)])) from aj)
  refine iW q λJ w hz q=>?_
  have Y:∀{o H'},Ext J o->Ext o H'->aa H' a1 [.pointer (some fa)]:=λx y=>X (w.trans x) y
  have ag:=Y (.refl _) q.base
  refine jc q 6 rfl rfl (ig ag (dc q 6 rfl rfl (ig ag ?_)))
  rw[cK (x:=aZ c en.1+en.2.1) (by omega) (by omega)]
  have I:(List.replicate 64 (0:Int)).length=64:=by simp
  refine yk (i:=8) q rfl ok (by omega) (by grind) hz I λA2 an M d=>aF rfl ?_
  have O:=ok.put (at_:=aZ c en.1+en.2.1) (b:=List.replicate 64 0) (by grind) I (BH _)
  have l2:=nY ok (at_:=aZ c en.1+en.2.1) (b:=List.replicate 64 0) (by omega) I
  generalize D.put (aZ c en.1+en.2.1) (List.replicate 64 0)=D2 at d O l2 hQ
  have d:aA an (aC J::aJ wa (Wr.yA (some A.a) g (some ta) (en.1,en.2.1,en.2.2.1,en.2.2.2.1,aN+1) Sl.nil Sl.nil)::Kd (some A.a) g (Su.sup c id (aN+1)) x14 slot fa ta ia (stM rg f (aN+1)) (en.1,en.2.1,en.2.2.1,en.2.2.2.1,aN+1) s t s0 t0 s1 t1 f (jW c f.t.v f.m.refs) (bA A2 D2::L)):=d
  have S:=Y (.refl _) d.base
  refine az (x:=some fa) S (aD (aU (x:=some A.a) d 6 rfl rfl (az (x:=some fa) S (aD (aU (x:=g) d 6 rfl rfl (az (x:=some fa) S (aD (dD (x:=aN+1) d 6 rfl rfl ?_))))))))
  have aq:Int.tmod (aN+1) 2=(aN+1)% 2:=(by grind)
  rw[aq]
  refine Ge.wQ ((hg.ext (T.trans w)).ext d.base) (by omega) (dc d 6 rfl rfl (ig S ?_))
  have aI:=jQ.oI G
  have aO:=qT G
  rw[←M] at d ⊢
  refine yk (i:=8) d rfl O (by omega) (by grind) (ak.ext w) Su.rI λA3 ao ad j=>aF rfl ?_
  have P:=O.put (at_:=(aN+1)% 2) (b:=eZ c id (aN+1)) (by grind) Su.rI (Su.wN W)
  have l3:=nY O (at_:=(aN+1)% 2) (b:=eZ c id (aN+1)) (by grind) Su.rI
  generalize D2.put ((aN+1)% 2) (eZ c id (aN+1))=D3 at j P l3 hQ
  rw[M] at j
  have j:aA ao (aC J::aJ wa (Wr.yA (some A.a) g (some ta) (en.1,en.2.1,en.2.2.1,en.2.2.2.1,aN+1) Sl.nil Sl.nil)::Kd (some A.a) g (Su.sup c id (aN+1)) x14 slot fa ta ia (stM rg f (aN+1)) (en.1,en.2.1,en.2.2.1,en.2.2.2.1,aN+1) s t s0 t0 s1 t1 f (jW c f.t.v f.m.refs) (bA A3 D3::L)):=j
  have ay:=Y (.refl _) j.base
  refine az (x:=some fa) ay (aD (aU (x:=some A.a) j 6 rfl rfl ?_))
  rw[←M,←ad] at j ⊢
  refine BK (i:=8) j rfl P (by omega) λA4 ap aL ae=>?_
  rw[ad,M] at ae
  exact hQ A4 wa J ap (by grind) (T.trans w) P.flush ((iz P).trans (l3.trans l2)) ae
end
end Mo
end
end Go.Proofs.YtigjebgjphmkoaaGreat
section
namespace KM
structure ED (D:Dk) (S:St) (c:ax) (id aN sl:Int) (rg:fH) (slot:Int) (m0 m1:Im) (l:List (Pos×Rec)) (en:Pos) (f:Fd):Prop where
 sup:cz (D.sec 0) (D.sec 1)=some ((c,id,aN),sl)
 len:all c<=D.now.length
 mX:j0 c (D.dQ (ar c 0) (bW c).toNat) (D.dQ (ar c 1) (bW c).toNat)=some (rg,slot)
 p0:dJ c D false 0 rg.lb (mF c.1.toNat)=some m0
 p1:dJ c D true 0 rg.lo m0=some m1
 ch:mG c D (c.2.1.toNat+1) rg.pos=some (l,en)
 fe:f=(l.foldl (Fd.dh c) ⟨⟨rg.bk,List.replicate c.2.1.toNat 0⟩,m1,rg.aQ,rg.seq,rg.done,rg.pos.2.2.2.2⟩).forget
 pos:fj c (en.1,en.2.1,en.2.2.1,en.2.2.2.1,aN+1)=true
 sm:dA c id (aN+1)=true
 st:(bg (0,0) f.t.l en.1).1=1
 S_:S=⟨c,((D.put (aZ c en.1+en.2.1) (List.replicate 64 0)).put ((aN+1)% 2) (eZ c id (aN+1))).flush,{f.t with v:=jW c f.t.v f.m.refs},f.m,⟨(en.1,en.2.1,en.2.2.1,en.2.2.2.1,aN+1),[],[]⟩,⟨rg.mode,rg.view,f.aQ,f.seq,f.done,aN+1,rg.gen,slot,rg.lb,rg.lo⟩⟩
theorem CU {D:Dk} {S:St} (h:kU D=some S):∃c id aN sl rg slot b m1 l en f,ED D S c id aN sl rg slot b m1 l en f:=by
 unfold kU at h
 generalize e1:cz (D.sec 0) (D.sec 1)=o1 at h
 rcases o1 with _|⟨⟨c,id,aN⟩,sl⟩
 ·cases h
 simp only at h
 by_cases e:(D.now.length:Int)<all c
 ·grind
 rw[if_neg e] at h
 generalize e2:j0 c (D.dQ (ar c 0) (bW c).toNat) (D.dQ (ar c 1) (bW c).toNat)=o2 at h
 rcases o2 with _|⟨rg,slot⟩
 ·cases h
 simp only at h
 generalize e3:dJ c D false 0 rg.lb (mF c.1.toNat)=o3 at h
 rcases o3 with _|b
 ·cases h
 simp only at h
 generalize e4:dJ c D true 0 rg.lo b=g at h
 rcases g with _|m1
 ·cases h
 simp only at h
 generalize e5:mG c D (c.2.1.toNat+1) rg.pos=i at h
 rcases i with _|⟨l,en⟩
 ·cases h
 simp only at h
 generalize d:(l.foldl (Fd.dh c) ⟨⟨rg.bk,List.replicate c.2.1.toNat 0⟩,m1,rg.aQ,rg.seq,rg.done,rg.pos.2.2.2.2⟩).forget=f at h
 split at h
 ·next a=>
  simp only[Bool.and_eq_true,beq_iff_eq] at a
  refine⟨c,id,aN,sl,rg,slot,b,m1,l,en,f,e1,by omega,e2,e3,e4,e5,d.symm,a.1.1,a.1.2,a.2,by grind⟩
 ·cases h
end KM
end
section
namespace KM
def AO (u:cJ):Prop:=(0<=u.1/\u.1<=2)/\0<=u.2/\u.2<=2147483647
structure iE (N:Nat) (t:Tb):Prop where
 l:t.l.length=N
 v:t.v.length=N
 vr:∀x,x∈t.v->0<=x/\x<=2147483647
 us:∀u,u∈t.l->AO u
theorem Ke {l:List cJ} (h:∀u,u∈l->AO u) (k:Int):AO (bg (0,0) l k):=by
 have z:AO (0,0):=⟨by simp,by simp⟩
 unfold bg
 grind
theorem NZ {l:List cJ} (h:∀u,u∈l->AO u) {k s:Int} (a:0<=s/\s<=2):∀u,u∈wI l k s->AO u:=λu hu=>by
 rcases List.mem_or_eq_of_mem_set hu with hu|hu
 ·exact h u hu
 ·subst hu;exact⟨a,(Ke h k).2⟩
theorem Wu {l:List cJ} (h:∀u,u∈l->AO u) {k s:Int} (a:0<=s/\s<=2147483647):∀u,u∈CC l k s->AO u:=λu hu=>by
 rcases List.mem_or_eq_of_mem_set hu with hu|hu
 ·exact h u hu
 ·subst hu;exact⟨(Ke h k).1,a⟩
theorem iE.jh {N:Nat} {t:Tb} (h:iE N t) (k:Int):iE N (t.jh k):=by
 unfold Tb.jh kF qB
 split
 ·refine⟨by rw[wI,List.length_set];exact h.l,by rw[List.length_set];exact h.v,λx a=>?_,NZ h.us (by omega)⟩
  rcases List.mem_or_eq_of_mem_set a with a|a
  ·exact h.vr x a
  omega
 ·exact h
theorem iE.Vl {N:Nat} {t:Tb} (h:iE N t) (k:Int):iE N ⟨kT t.l k,t.v⟩:=by
 unfold kT
 split
 ·exact⟨by show(wI _ _ _).length=N;rw[wI,List.length_set];exact h.l,h.v,h.vr,NZ h.us (by omega)⟩
 ·exact h
theorem iE.O2 {N:Nat} {t:Tb} (h:iE N t) (k s:Int):iE N ⟨eC t.l k s,t.v⟩:=by
 unfold eC
 split
 ·next a=>
  simp only[Bool.and_eq_true,decide_eq_true_eq] at a
  exact⟨by show(CC _ _ _).length=N;rw[CC,List.length_set];exact h.l,h.v,h.vr,Wu h.us a.2⟩
 ·exact h
theorem Wv {x b:Int} (h:0<=x):0<=sL x b/\sL x b<=2147483647:=by unfold sL;omega
theorem HG {c:ax} {v:List Int} {a b:Int} (h:∀x,x∈v->0<=x/\x<=2147483647):∀x,x∈gX c v a b->0<=x/\x<=2147483647:=by
 unfold gX
 split
 ·intro x d
  rcases List.mem_or_eq_of_mem_set d with d|d
  ·exact h x d
  ·subst d
   refine Wv ?_
   unfold bg
   split
   ·rw[List.getD]
    cases e:v[((a-base c)/c.2.2).toNat]? with
    |none=>simp
    |some y=>exact(h y (by grind)).1
   ·omega
 ·exact h
theorem CT {c:ax} {v:List Int} {a b:Int}:(gX c v a b).length=v.length:=by unfold gX;grind
theorem iE.O3 {N:Nat} {t:Tb} (h:iE N t) (c:ax) (a b:Int):iE N ⟨t.l,gX c t.v a b⟩:=⟨h.l,CT.trans h.v,HG h.vr,h.us⟩
theorem iE.refs {N:Nat} {t:Tb} (h:iE N t) (c:ax):∀(l:List (Int×Int)),iE N ⟨t.l,jW c t.v l⟩:=by
 intro l
 induction l generalizing t with
 |nil=>exact h
 |cons x l a=>exact a (h.O3 c x.2 1)
theorem iE.gone {N:Nat} {t:Tb} (h:iE N t) (c:ax):∀(l:List Int),iE N ⟨t.l,lZ c t.v l⟩:=by
 intro l
 induction l generalizing t with
 |nil=>exact h
 |cons x l a=>
  show iE N ⟨t.l,lZ c (if 0<x then gX c t.v x (-1) else t.v) l⟩
  split
  ·exact a (h.O3 c x (-1))
  ·exact a h
theorem Ww {N:Nat} {f:Fd} (h:iE N f.t) (i:eG) (a:Int):iE N (f.jN i a).t:=by
 unfold Fd.jN
 repeat (split;·first|exact h|exact h.jh _)
 exact h
theorem Kg {N:Nat}:∀(l:List eG) {f:Fd} (h:iE N f.t) (a:Int),iE N (f.items a l).t
 |[],f,h,a=>h
 |i::l,f,h,a=>Kg l (Ww h i _) _
theorem UE {N:Nat} {f:Fd} (h:iE N f.t) (m:Int):iE N (f.dI m).t:=by unfold Fd.dI;split<;>exact h
theorem Wx {N:Nat} {f:Fd} (h:iE N f.t) (c:ax) (x:Pos×Rec):iE N (f.dh c x).t:=by
 have a:=Kg x.2.items (UE h x.2.aN) (aZ c x.1.1+x.1.2.1)
 show iE N ⟨if _ then kT (eC _ _ _) _ else eC _ _ _,_⟩
 split
 ·exact(a.O2 _ _).Vl _
 ·exact a.O2 _ _
theorem FE {N:Nat}:∀(l:List (Pos×Rec)) {f:Fd} (h:iE N f.t) (c:ax),iE N (l.foldl (Fd.dh c) f).t
 |[],f,h,c=>h
 |x::l,f,h,c=>FE l (Wx h c x) c
end KM
end
section
namespace KM
def lV (D:Dk):Bool:=match cz (D.sec 0) (D.sec 1) with
 |none=>false
 |some ((c,id,aN),_)=>match j0 c (D.dQ (ar c 0) (bW c).toNat) (D.dQ (ar c 1) (bW c).toNat) with
  |none=>false
  |some (r,slot)=>match dJ c D false 0 r.lb (mF c.1.toNat) with
   |none=>false
   |some a=>match dJ c D true 0 r.lo a with
    |none=>false
    |some m1=>match mG c D (c.2.1.toNat+1) r.pos with
     |none=>false
     |some (l,en)=>lU c c.1.toNat ⟨⟨r.bk,List.replicate c.2.1.toNat 0⟩,m1,r.aQ,r.seq,r.done,r.pos.2.2.2.2⟩ l
theorem ED.Z7 {D:Dk} {S:St} {c:ax} {id aN sl:Int} {rg:fH} {slot:Int} {a m1:Im} {l:List (Pos×Rec)} {en:Pos} {f:Fd} (P:ED D S c id aN sl rg slot a m1 l en f) (h:lV D=true):
 lU c c.1.toNat ⟨⟨rg.bk,List.replicate c.2.1.toNat 0⟩,m1,rg.aQ,rg.seq,rg.done,rg.pos.2.2.2.2⟩ l=true:=by
 unfold lV at h
 rw[P.sup] at h
 simp only at h
 rw[P.mX] at h
 simp only at h
 rw[P.p0] at h
 simp only at h
 rw[P.p1] at h
 simp only at h
 rw[P.ch] at h
 exact h
theorem Na {c:ax} {a b:Bs} {r:fH} {s:Int} (h:j0 c a b=some (r,s)):fW c r=true:=by
 have key:∀{b:Bs} {y:fH},jf c b=some y->fW c y=true:=λ{b y} e=>by
  unfold jf at e
  grind
 have h:tE (jf c a) (jf c b)=some (r,s):=h
 generalize e1:jf c a=o1 at h
 generalize e2:jf c b=o2 at h
 rcases o1 with _|x
 ·rcases o2 with _|y
  ·cases h
  ·have:=Option.some.inj h;injection this with d;rw[←d];exact key e2
 ·rcases o2 with _|y
  ·have:=Option.some.inj h;injection this with d;rw[←d];exact key e1
  ·simp only[tE] at h
   grind
end KM
namespace Go.Proofs.YtigjebgjphmkoaaGreat
open Tryz
namespace So
open Go Go.Kx KM Rw Ge Sc Rg Mo
abbrev yO (d g t m w:Option Addr) (st:AM) (slot:Int) (lb lo:Sl):List Value:=[.pointer d,.pointer g,.pointer t,.pointer m,.pointer w,i64 st.1,i64 st.2.1,i64 st.2.2.1,i64 st.2.2.2.1,i64 st.2.2.2.2.1,i64 st.2.2.2.2.2.1,i64 st.2.2.2.2.2.2.1,i64 st.2.2.2.2.2.2.2.1,i64 st.2.2.2.2.2.2.2.2.1,i64 st.2.2.2.2.2.2.2.2.2,i64 slot,Sl.v lb,Sl.v lo]
structure Ad where
 da:Addr
 g:Option Addr
 ta:Addr
 ia:Addr
 ib:Addr
 io:Addr
 wa:Addr
 sa:Addr
 s:Sl
 t:Sl
 s0:Sl
 t0:Sl
 s1:Sl
 t1:Sl
structure mg (B:PH) (X:Ad) (c:ax):Prop where
 g:Gm B X.g c
 ta:aa B X.ta (Us.iS X.g X.s X.t)
 im:Ig.qW B X.ia X.ib X.io X.s0 X.t0 X.s1 X.t1
theorem mg.ext {B a:PH} {X:Ad} {c:ax} (h:mg B X c) (x:Ext B a):mg a X c:=⟨h.g.ext x,h.ta.ext x,h.im.ext x⟩
abbrev BO (S:KM.St):AM:=(S.n.mode,S.n.view,S.n.aQ,S.n.seq,S.n.done,S.n.aN,S.n.gen,0,0,0)
structure Wt where
 kI:Sl
 kC:Sl
 bl:List Sl
 lb:Sl
 lo:Sl
structure gJ (B:PH) (W:Wt) (S:KM.St):Prop where
 lb:gR B W.lb S.n.lb
 lo:gR B W.lo S.n.lo
 len:W.bl.length=S.w.blocks.length
 at_:∀(i:Nat) (x:Sl) (b:Bs),W.bl[i]?=some x->S.w.blocks[i]?=some b->Bytes B x b
theorem gJ.ext {B d:PH} {W:Wt} {S:KM.St} (h:gJ B W S) (x:Ext B d):gJ d W S:=⟨h.lb.ext x,h.lo.ext x,h.len,λi a b e f=>(h.at_ i a b e f).ext x⟩
abbrev Hy (A:Ds.DA) (X:Ad) (W:Wt) (S:KM.St):List Ob:=
 [Ds.bA A S.d,au Us.bf 2 X.s S.t.l,aS i64 X.t S.t.v,aJ X.wa (Wr.yA (some X.da) X.g (some X.ta) S.w.p W.kI W.kC),au It.fI 4 W.kI S.w.items,aS Sl.v W.kC W.bl,aJ X.sa (yO (some X.da) X.g (some X.ta) (some X.ia) (some X.wa) (BO S) S.n.slot W.lb W.lo)]
abbrev oX (A:Ds.DA) (X:Ad) (W:Wt) (S:KM.St):List Ob:=Ig.dO X.s0 X.t0 X.s1 X.t1 S.m++Hy A X W S
abbrev cD (A:Ds.DA) (X:Ad) (W:Wt) (S:KM.St) (R:List Ob):List Ob:=oX A X W S++R
section
variable {H B:PH} {L R:List Ob} {k n:Nat} {A:Ds.DA} {D:Dk} {c:ax}
theorem xU {p:Sl} {l:List Int} {Q:Sl->PH->Prop} (d:gR H p l) (e:l.length<=2 ^ 20) (b:∀q H',aA H' [aC H,aS i64 q l]->Q q H'):df p H Q:=
 Br (enc:=i64) d a rfl (by omega) b
where a:∀y:Int,cg (i64 y)=true:=λ_=>rfl
theorem RX {d g t m w:Option Addr} {f:uZ} {rg:fH} {st:AM} {slot:Int} {Q:Option Addr->PH->Prop} (h:aA H (aC B::L)) (J:wR B f rg) (u:rg.lb.length<=2 ^ 20/\rg.lo.length<=2 ^ 20)
 (G:∀lb lo sa b H',Ext B b->gR b lb rg.lb->gR b lo rg.lo->aA H' (aC b::aJ sa (yO d g t m w st slot lb lo)::L)->Q (some sa) H'):yW d t m w g slot f st H Q:=by
 obtain⟨sb,so,ss,rfl,s⟩:=J
 refine bG h λa1 H1 E=>bG E λS N a=>cQ (x:=st) a rfl rfl (aU (enc:=Sl.v) (x:=sb) a 2 rfl rfl (aU (enc:=Sl.v) (x:=so) a 2 rfl rfl ?_))
 refine xU (s.lb.ext a.base) u.1 λq O o=>iW (a.made o) λM i I e=>dc e 2 rfl rfl (wy e 1 rfl rfl rfl ?_)
 refine xU ((s.lo.ext i).ext e.base) u.2 λK P r=>iW (e.made r) λz j y p=>wy p 1 rfl rfl rfl ?_
 exact bG p.aq.aq λl C F=>G q K l z C (i.trans j) (I.ext j) y F
end
end So
namespace Mo
open Go Go.Kx KM Rw Cr Ds Ge Rc Sc Rg So
section
variable {H B:PH} {L R:List Ob} {k n:Nat} {A:Ds.DA} {D:Dk} {c:ax}
theorem EE (c:ax) (h:0<=c.1):((nP c.1.toNat 15).toNat:Int)=(bc c).toNat:=by
 simp only[nP,bc];omega
theorem RY {S:KM.St} {Q:Option Addr->Int->PH->Prop} (h:aA H (aC B::bA A D::L)) (ok:bu k D) (hk:k+3< 2 ^ 29) (hS:kU D=some S) (ac:lV D=true)
 (hQ:∀A' X W N H',A'.a=A.a->A'.a=X.da->Ext B N->mg N X S.c->gJ N W S->W.kI=Sl.nil->bE S.c->bu (k+3) S.d->S.d.now.length=D.now.length->all S.c<=D.now.length->Ig.dN S.c.1.toNat S.m->iE S.c.2.1.toNat S.t->
  aA H' (aC N::cD A' X W S L)->Q (some X.sa) 0 H'):yX (some A.a) H Q:=by
 obtain⟨c,id,aN,sl,rg,slot,m0,m1,l,en,f,P⟩:=CU hS
 have V:=P.Z7 ac
 have U:=Na P.mX
 have q:=parts U
 have o:bE c:=(Su.kt P.sm).1
 have av:=gI o
 have ap:=o.1;have aq:=o.2.1;have ar:=o.2.2.1
 refine aF rfl (bG h λfa H1 h1=>?_)
 refine wQ h1 ok (by omega) P.sup P.len λg B2 H2 am hg h2=>aF rfl ?_
 refine Mo.ry (a0:=[]) h2 ok (by omega) hg o P.len P.mX U λaw ta s t ia ib io s0 t0 s1 t1 B3 H3 aa ad J w h3=>aF rfl ?_
 obtain⟨i,j,p,rfl,hR⟩:=ad
 have r:=hg.ext aa
 have ae:=Ig.KX (n:=c.1.toNat) (by omega)
 have e0:((mF c.1.toNat).bR false).length=(bc c).toNat:=by
  have:=EE c (by omega)
  show(List.replicate (nP c.1.toNat 15).toNat false).length=_
  grind
 refine dD (enc:=Sl.v) (x:=i) h3 5 rfl rfl ?_
 refine fc (aG:=false) h3 ok (by omega) r o P.len w ae (by omega) (hR.lb) q.lb.1 q.lb.2 P.p0 λB4 H4 y I h4=>aF rfl ?_
 refine dD (enc:=Sl.v) (x:=j) h4 5 rfl rfl ?_
 have e1:(m0.bR true).length=(bc c).toNat:=by
  have h1:=(I.bR true).d
  have h2:=I.cP true
  have:=EE c (by omega)
  grind
 refine fc (aG:=true) h4 ok (by omega) (r.ext y) o P.len (w.ext y) I (by omega) (hR.lo.ext y) q.lo.1 q.lo.2 P.p1 λB5 H5 ab ak h5=>aF rfl ?_
 have b:=y.trans ab
 have b:=y.trans ab
 have K:iE c.2.1.toNat (⟨rg.bk,List.replicate c.2.1.toNat 0⟩:Tb):=⟨by show rg.bk.length=_;have:=q.bk;omega,by simp,by simp,λu hu=>q.us u hu⟩
 have h6:aA H5 (aC B5::oJ (some A.a) g (Su.sup c id aN) (fJ rg i j p) slot fa ta ia rg eP s t s0 t0 s1 t1 ⟨⟨rg.bk,List.replicate c.2.1.toNat 0⟩,m1,rg.aQ,rg.seq,rg.done,rg.pos.2.2.2.2⟩ (bA A D::L)):=
  aA.KO (X:=Ig.dO s0 t0 s1 t1 m1++[aJ fa (jE (some A.a) g (Su.sup c id aN) (fJ rg i j p) slot (some ta) (some ia) (DV rg) eP),bA A D,au Us.bf 2 s rg.bk,aS i64 t (List.replicate c.2.1.toNat 0)])
   (Y:=Ig.dO s0 t0 s1 t1 m1++[aJ fa (jE (some A.a) g (Su.sup c id aN) (fJ rg i j p) slot (some ta) (some ia) (DV rg) eP),au Us.bf 2 s rg.bk,aS i64 t (List.replicate c.2.1.toNat 0),bA A D]) h5 8 [0,1,2,3,4,6,7,5] rfl (by decide) rfl
 have fe:=P.fe
 have G:tO c.1.toNat ⟨⟨rg.bk,List.replicate c.2.1.toNat 0⟩,m1,rg.aQ,rg.seq,rg.done,rg.pos.2.2.2.2⟩:=⟨ak,by rw[K.v,K.l]⟩
 have M:iE c.2.1.toNat f.t:=by rw[fe];exact FE l K c
 have T:(⟨⟨rg.bk,List.replicate c.2.1.toNat 0⟩,m1,rg.aQ,rg.seq,rg.done,rg.pos.2.2.2.2⟩:KM.Fd).aN=rg.pos.2.2.2.2:=rfl
 generalize(⟨⟨rg.bk,List.replicate c.2.1.toNat 0⟩,m1,rg.aQ,rg.seq,rg.done,rg.pos.2.2.2.2⟩:KM.Fd)=f0 at h6 fe G V T
 refine Kc h6 ok (by omega) (r.ext b) o P.len (w.ext b) (J.ext b) G T P.ch V λB7 H7 F z h7=>aF rfl ?_
 rw[←fe] at z h7
 refine ME h7 ok hk ((r.ext b).ext F) o P.len ((w.ext b).ext F) ((J.ext b).ext F) z (by rw[M.v];omega) M.vr P.pos P.sm P.st λe wa B8 H8 O an al l8 C=>aF rfl ?_
 have Z:=b.trans (F.trans an)
 refine aU (x:=some ta) C 6 rfl rfl (aU (x:=some ia) C 6 rfl rfl (aU (x:=g) C 6 rfl rfl (aU (x:=slot) C 6 rfl rfl ?_)))
 refine pI (en:=dp) (x:=fJ rg i j p) C 6 rfl (by simp) rfl (pI (en:=cr) (x:=stM rg f (aN+1)) C 6 rfl (by simp) rfl ?_)
 refine RX C (rg:=rg) ⟨i,j,p,rfl,hR.ext Z⟩ ⟨by have:=q.lb.1;omega,by have:=q.lo.1;omega⟩ λlb lo sa B9 H9 ao ai aj h9=>?_
 have eS:=P.S_
 have E:=Z.trans ao
 refine hQ e ⟨e.a,g,ta,ia,ib,io,wa,sa,s,t,s0,t0,s1,t1⟩ ⟨Sl.nil,Sl.nil,[],lb,lo⟩ B9 H9 O rfl (am.trans (aa.trans E)) ?_ ?_ rfl ?_ ?_ ?_ ?_ ?_ ?_ ?_
 all_goals rw[eS]
 ·exact⟨r.ext E,J.ext E,w.ext E⟩
 ·exact⟨ai,aj,rfl,by simp⟩
 ·exact o
 ·exact al
 ·exact l8
 ·exact P.len
 ·exact z.im
 ·exact M.refs c f.m.refs
 ·generalize((D.put (aZ c en.1+en.2.1) (List.replicate 64 0)).put ((aN+1)% 2) (eZ c id (aN+1))).flush=D9 at h9 ⊢
  rw[←O] at h9
  have af:=(show aA H9 (aC B9::(aJ sa (yO (some e.a) g (some ta) (some ia) (some wa) (stM rg f (aN+1)) slot lb lo)::aJ wa (Wr.yA (some e.a) g (some ta) (en.1,en.2.1,en.2.2.1,en.2.2.2.1,aN+1) Sl.nil Sl.nil)::Ig.dO s0 t0 s1 t1 f.m++aJ fa (jE (some e.a) g (Su.sup c id (aN+1)) (fJ rg i j p) slot (some ta) (some ia) (stM rg f (aN+1)) (en.1,en.2.1,en.2.2.1,en.2.2.2.1,aN+1))::(au Us.bf 2 s f.t.l::aS i64 t (jW c f.t.v f.m.refs)::bA e D9::L))) from h9).kG
  have ag:=AB (enc:=Sl.v) af
  have ah:=aA.up (ag.Bt (enc:=It.fI) (sz:=4))
  exact aA.KO (X:=[au It.fI 4 Sl.nil [],aS Sl.v Sl.nil [],aJ sa (yO (some e.a) g (some ta) (some ia) (some wa) (stM rg f (aN+1)) slot lb lo),aJ wa (Wr.yA (some e.a) g (some ta) (en.1,en.2.1,en.2.2.1,en.2.2.2.1,aN+1) Sl.nil Sl.nil)]++Ig.dO s0 t0 s1 t1 f.m++[au Us.bf 2 s f.t.l,aS i64 t (jW c f.t.v f.m.refs),bA e D9])
   (Y:=Ig.dO s0 t0 s1 t1 f.m++[bA e D9,au Us.bf 2 s f.t.l,aS i64 t (jW c f.t.v f.m.refs),aJ wa (Wr.yA (some e.a) g (some ta) (en.1,en.2.1,en.2.2.1,en.2.2.2.1,aN+1) Sl.nil Sl.nil),au It.fI 4 Sl.nil [],aS Sl.v Sl.nil [],aJ sa (yO (some e.a) g (some ta) (some ia) (some wa) (stM rg f (aN+1)) slot lb lo)])
   ah 11 [4,5,6,7,10,8,9,3,0,1,2] rfl (by decide) rfl
end
end Mo
end Go.Proofs.YtigjebgjphmkoaaGreat
end
section
namespace KM
theorem zj:∀(n:Nat) (b:Bs),b.length=64*n->∀j x,(chunks b n)[j]?=some x->x=(b.drop (64*j)).take 64/\x.length=64
 | 0,b,_,j,x,h=>by simp[chunks] at h
 |n+1,b,d,0,x,h=>by
  simp[chunks] at h;grind
 |n+1,b,d,j+1,x,h=>by
  rw[chunks,List.getElem?_cons_succ] at h
  obtain⟨a,c⟩:=zj n (b.drop 64) (by simp;omega) j x h
  refine⟨?_,c⟩
  rw[a,List.drop_drop];congr 2;omega
theorem Ed:∀l:List Bs,(∀b∈l,b.length=64)->chunks l.flatten l.length=l
 |[],_=>rfl
 |b::l,h=>by
  have c:=h b (by simp)
  rw[List.flatten_cons,List.length_cons,chunks,List.take_append_of_le_length (by omega),List.take_of_length_le (by omega),List.drop_append_of_le_length (by omega),List.drop_of_length_le (by omega),List.nil_append,Ed l λx a=>h x (by simp[a])]
theorem qf:∀(n:Nat) (b:Bs),(chunks b n).length=n
 | 0,_=>rfl
 |n+1,b=>by rw[chunks,List.length_cons,qf n]
theorem IA:∀(n:Nat) (b:Bs),chunks b (n+1)=chunks b n++[(b.drop (64*n)).take 64]
 | 0,b=>by simp[chunks]
 |n+1,b=>by rw[chunks,IA n,chunks,List.cons_append,List.drop_drop,show 64+64*n=64*(n+1) by omega]
theorem GW:∀(n i:Nat) (b:Bs),i<=n->chunks b i=(chunks b n).take i
 |n,0,b,_=>by simp[chunks]
 | 0,i+1,b,h=>by omega
 |n+1,i+1,b,h=>by rw[chunks,chunks,List.take_succ_cons,←GW n i _ (by omega)]
theorem xV {D:Dk} {k n i:Nat} {b:Bs} {at_:Int} (ok:bu k D) (e:b.length=64*n) (g:bP b) (c:0<=at_) (f:at_+n<=D.now.length) (hi:i<=n):bu (k+i) (D.dW at_ (chunks b i))/\(D.dW at_ (chunks b i)).now.length=D.now.length:=by
 have:=tu (chunks b i) (at_:=at_) ok c (by rw[qf];omega) λx a=>by
  rw[GW n i b hi] at a
  obtain⟨j,d⟩:=List.getElem?_of_mem (List.mem_of_mem_take a)
  obtain⟨e1,e2⟩:=zj n b e j x d
  grind
 rw[qf] at this
 exact this
end KM
namespace Go.Proofs.YtigjebgjphmkoaaGreat
open Tryz
namespace So
open Go Go.Kx KM Rw Ge Sc Rg Mo Ds Rc
structure ji (k:Nat) (S:KM.St):Prop where
 c:bE S.c
 dk:bu k S.d
 len:all S.c<=S.d.now.length
 im:Ig.dN S.c.1.toNat S.m
 tb:iE S.c.2.1.toNat S.t
 p1:0<=S.w.p.1/\S.w.p.1<S.c.2.1
 p2:0<=S.w.p.2.1/\S.w.p.2.1<=S.c.2.2
 cZ:1<=S.w.p.2.2.1/\S.w.p.2.2.1<=k
 prev:0<=S.w.p.2.2.2.1/\S.w.p.2.2.2.1<=4294967295
 ue:1<=S.w.p.2.2.2.2/\S.w.p.2.2.2.2<=2147483647
theorem ji.mono {k m:Nat} {S:KM.St} (h:ji k S) (hm:k<=m):ji m S:={h with dk:=h.dk.mono hm,cZ:=⟨h.cZ.1,by have:=h.cZ.2;omega⟩}
section
variable {H B:PH} {L R:List Ob} {k n:Nat} {A:Ds.DA} {X:Ad} {W:Wt} {S:KM.St}
theorem ji.head (h:ji k S) (hk:k< 2 ^ 28):Hd.may (S.w.p.1,S.w.p.2.2.2.2,S.w.p.2.2.1,S.w.p.2.2.2.1)=true:=by
 have:=h.p1;have:=h.ue;have:=h.cZ;have:=h.prev;have:=h.c.2.2.2.1
 simp only[Hd.may,rn,Bool.and_eq_true,KM.bD]
 omega
theorem ji.aY (h:ji k S) (hk:k< 2 ^ 28) (m:S.w.p.2.1<S.c.2.2):ji (k+1) S.aY/\1<=S.aY.w.p.2.1/\S.aY.w.p.2.1<S.c.2.2/\S.aY.d.now.length=S.d.now.length:=by
 have i:=h.c.2.2.2.2.1
 have j:=h.p2
 unfold KM.St.aY
 simp only
 split
 ·exact⟨h.mono (by omega),by omega,by omega,rfl⟩
 ·have o:=Sc.kX h.c h.p1
  have g:=h.len
  have a:(gH S.w.p.1 S.w.p.2.2.2.2 S.w.p.2.2.1 S.w.p.2.2.2.1).length=64:=rfl
  have e:bP (gH S.w.p.1 S.w.p.2.2.2.2 S.w.p.2.2.1 S.w.p.2.2.2.1):=Hd.uY (h.head hk)
  generalize gH S.w.p.1 S.w.p.2.2.2.2 S.w.p.2.2.1 S.w.p.2.2.2.1=f at a e ⊢
  have ok:=h.dk.put (at_:=aZ S.c S.w.p.1) (b:=f) (by omega) a e
  have l:=nY h.dk (at_:=aZ S.c S.w.p.1) (b:=f) (by grind) a
  refine⟨⟨h.c,ok,?_,h.im,h.tb,h.p1,⟨by show(0:Int)<=1;omega,by show(1:Int)<=S.c.2.2;omega⟩,⟨h.cZ.1,by have:=h.cZ.2;show S.w.p.2.2.1<=((k+1:Nat):Int);omega⟩,h.prev,h.ue⟩,Int.le_refl 1,by show(1:Int)<S.c.2.2;omega,l⟩
  show _<=((S.d.put (aZ S.c S.w.p.1) f).now.length:Int)
  rw[l];exact g
theorem yd {Q:Int->PH->Prop} (h:aA H (aC B::cD A X W S R)) (q:A.a=X.da) (z:mg B X S.c) (ok:ji k S) (hk:k< 2 ^ 28)
 (f:∀l m H',l.a=X.da->Ext B m->aA H' (aC m::cD l X W S.aY R)->Q 0 H'):lE (some X.wa) H Q:=by
 refine aD (dD (x:=S.w.p.2.1) h 8 rfl rfl (aM (λc1=>?_) (λc1=>?_)))
 ·have e:S.aY=S:=by unfold KM.St.aY;grind
  rw[e] at f
  exact f A B H q (.refl B) h
 ·have K:=Sc.kX ok.c ok.p1
  have J:=ok.len
  have I:=ok.c.2.2.2.2.1
  have e:S.aY={S with d:=S.d.put (aZ S.c S.w.p.1) (gH S.w.p.1 S.w.p.2.2.2.2 S.w.p.2.2.1 S.w.p.2.2.2.1),w:={S.w with p:=(S.w.p.1,1,S.w.p.2.2.1,S.w.p.2.2.2.1,S.w.p.2.2.2.2)}}:=by
   unfold KM.St.aY;grind
  rw[e] at f
  refine aD (dD (x:=S.w.p.1) h 8 rfl rfl (aD (dD (x:=S.w.p.2.2.2.2) h 8 rfl rfl (aD (dD (x:=S.w.p.2.2.1) h 8 rfl rfl (aD (dD (x:=S.w.p.2.2.2.1) h 8 rfl rfl ?_)))))))
  refine Hd.fP (x:=(S.w.p.1,S.w.p.2.2.2.2,S.w.p.2.2.1,S.w.p.2.2.2.1)) (ok.head hk) λE H1 o=>iW (h.made o) λt j C b=>aF rfl ?_
  refine aD (aU (x:=some X.da) b 8 rfl rfl (aD (aU (x:=X.g) b 8 rfl rfl (aD (dD (x:=S.w.p.1) b 8 rfl rfl ?_)))))
  refine Sc.zh ((z.g.ext j).ext b.base) ok.c ok.p1 λF r=>dc (b.ext r) 8 rfl rfl ?_
  rw[←q]
  refine yk (i:=4) (b.ext r) rfl ok.dk (by omega) (by grind) C rfl λs G D v=>aF rfl (aD ?_)
  refine kH (Wr.yA (some X.da) X.g (some X.ta) (S.w.p.1,1,S.w.p.2.2.1,S.w.p.2.2.2.1,S.w.p.2.2.2.2) W.kI W.kC) v 8 rfl (by simp) rfl rfl λu y=>?_
  exact f s t u (by grind) j y
theorem xW {a b:Int} {Q:Int->PH->Prop} (h:0<=a/\a<=1000) (d:0<=b/\b<=1000) (c:Q (behind a b) H):km a b H Q:=by
 unfold km
 have e:(if a< 1 then 1 else a)=max a 1:=by omega
 rw[e,cK (x:=max a 1+1) (by omega) (by omega),cK (by omega) (by omega)]
 exact c
theorem Kh (r:Rec):0<=cX r/\cX r<=4294967295:=AA _
theorem Aj (r:Rec):(cH r).length=1+r.blocks.length:=by simp[cH];omega
theorem GX {r:Rec} (hm:dH r=true) (c:∀b∈r.blocks,b.length=64):chunks (uI r) (1+r.blocks.length)=cH r:=by
 have:=Ed (cH r) λb a=>by
  simp only[cH,List.mem_cons] at a
  rcases a with rfl|a
  ·rw[List.length_append,(za hm).1,bO]
  grind
 rw[Aj] at this
 exact this
abbrev du (S:KM.St) (items:List eG) (blocks:List Bs):Rec:=⟨S.w.p.2.2.2.2,S.w.p.2.2.1,S.w.p.2.2.2.1,items,blocks⟩
theorem Nb {r:Rec} (h:dH r=true):(1<=r.items.length/\r.items.length<=6)/\r.blocks.length<=6/\∀b∈r.blocks,b.length=64:=by
 simp only[dH,Bool.and_eq_true,KM.bD,beq_iff_eq,List.all_eq_true] at h
 have:=h.1.1.1.2
 have:=h.1.2
 have a:=List.countP_le_length (p:=bM) (l:=r.items)
 exact⟨by omega,by omega,h.2⟩
theorem ji.jM (h:ji k S) (hk:k< 2 ^ 28) {items:List eG} {blocks:List Bs} (hm:dH (du S items blocks)=true) (e:∀b∈blocks,bP b) (j:1<=S.w.p.2.1) (l:S.w.p.2.1+1+blocks.length<=S.c.2.2):ji (k+7) (S.jM items blocks)/\(S.jM items blocks).d.now.length=S.d.now.length:=by
 obtain⟨hi,g,a⟩:=Nb hm
 have m:=Sc.kX h.c h.p1
 have f:=h.len
 have key:=xV (i:=1+blocks.length) (at_:=aZ S.c S.w.p.1+S.w.p.2.1) h.dk (E3 hm) (CJ hm e) (by omega) (by grind) (by simp)
 rw[GX hm a] at key
 refine⟨⟨h.c,key.1.mono (by grind),by rw[show(S.jM items blocks).d.now.length=_ from key.2];exact f,h.im,h.tb.O2 _ _,h.p1,⟨?_,?_⟩,⟨?_,?_⟩,Kh _,h.ue⟩,key.2⟩
 ·show 0<=behind _ _;unfold behind;omega
 ·show behind S.w.p.2.1 (blocks.length:Int)<=S.c.2.2;unfold behind;omega
 ·show 1<=S.w.p.2.2.1+1;have:=h.cZ;omega
 ·show S.w.p.2.2.1+1<=_;have:=h.cZ;omega
end
end So
end Go.Proofs.YtigjebgjphmkoaaGreat
end
namespace Go.Proofs.YtigjebgjphmkoaaGreat
open Tryz
section
namespace So
open Go Go.Kx KM Rw Ge Sc Rg Mo Ds Rc
section
variable {H B:PH} {L R:List Ob} {k n:Nat} {A:Ds.DA} {X:Ad} {W:Wt} {S:KM.St}
theorem tr {items:List eG} {blocks:List Bs} {kI kC:Sl} {Q:Int->PH->Prop} (h:aA H (aC B::cD A X W S R)) (hA:A.a=X.da) (hX:mg B X S.c) (ok:ji k S) (hk:k< 2 ^ 28)
 (hr:∀H' q R',Ext B q->aA H' (aC q::cD A X W S R')->qC H' (S.w.p.2.2.2.2,S.w.p.2.2.1,S.w.p.2.2.2.1,kI,kC) (du S items blocks)) (hm:dH (du S items blocks)=true) (hb:∀b∈blocks,bP b) (ar:(kC.len:Int)=blocks.length) (hp:1<=S.w.p.2.1) (aP:S.w.p.2.1+1+blocks.length<=S.c.2.2)
 (E:∀m q H',m.a=X.da->Ext B q->aA H' (aC q::cD m X W (S.jM items blocks) R)->Q 0 H'):lF (some X.wa) kI kC H Q:=by
 obtain⟨aM,aq,ag⟩:=Nb hm
 have hs:=Sc.kX ok.c ok.p1
 have hl:=ok.len
 have aO:=ok.dk.now
 have aH:=ok.cZ
 have aL:=ok.c.2.2.2.2
 have aG:blocks.length<=6:=aq
 refine gN h λa1 B1 H1 N r1 h1=>bG h1 λG H2 D=>?_
 have D:aA H2 (aC B1::cD A X W S (aJ G [i64 0]::R)):=D.ua
 have o:∀{q H'},Ext B1 q->Ext q H'->aa H' a1 [.pointer (some X.wa)]:=λx y=>(r1.ext x).ext y
 have q2:=o (.refl _) D.base
 refine az (x:=some X.wa) q2 (aD (dD (x:=S.w.p.2.2.2.2) D 8 rfl rfl (az (x:=some X.wa) q2 (aD (dD (x:=S.w.p.2.2.1) D 8 rfl rfl (az (x:=some X.wa) q2 (aD (dD (x:=S.w.p.2.2.2.1) D 8 rfl rfl ?_))))))))
 refine Rc.fP (by grind) hm λaf H3 ao=>iW (D.made ao) λB3 C hy I=>aF rfl (aE ?_)
 have q3:=o C I.base
 refine az (x:=some X.wa) q3 (aD (aU (x:=X.g) I 8 rfl rfl (az (x:=some X.wa) q3 (aD (dD (x:=S.w.p.1) I 8 rfl rfl (az (x:=some X.wa) q3 (aD (dD (x:=S.w.p.2.1) I 8 rfl rfl ?_))))))))
 refine Sc.zh ((hX.g.ext (N.trans C)).ext I.base) ok.c ok.p1 λH4 x4=>?_
 have h4:=I.ext x4
 refine jc h4 8 rfl rfl (ig (o C h4.base) (bG h4 λr H5 J=>?_))
 have J:aA H5 (aC B3::cD A X W S (aJ r [i64 0]::aJ G [i64 0]::R)):=J.ua
 refine jc J 8 rfl rfl (ig (o C J.base) (jF J 12 rfl rfl λH6 T=>?_))
 have eb:behind S.w.p.2.1 0=S.w.p.2.1+1:=by unfold behind;omega
 rw[cK (x:=aZ S.c S.w.p.1+S.w.p.2.1) (by omega) (by omega)] at T
 have T:aA H6 (aC B3::cD A X W S (aJ r [i64 (aZ S.c S.w.p.1+S.w.p.2.1)]::aJ G [i64 0]::R)):=T
 refine Rc.HA (p:=af) T λc0 c1 z H7 O ae aB h7 x7=>?_
 have s:=C.trans O
 have au:=E3 hm
 have ac:=CJ hm hb
 have ak:=GX hm ag
 have av:S.jM items blocks={S with d:=S.d.dW (aZ S.c S.w.p.1+S.w.p.2.1) (cH (du S items blocks)),t:={S.t with l:=eC S.t.l S.w.p.1 S.w.p.2.2.1},w:={S.w with p:=(S.w.p.1,behind S.w.p.2.1 blocks.length,S.w.p.2.2.1+1,cX (du S items blocks),S.w.p.2.2.2.2)}}:=rfl
 rw[av,←ak] at E
 have F:(uI (du S items blocks)).length=64*(1+blocks.length):=au
 have E:∀m q H',m.a=X.da->Ext B q->aA H' (aC q::cD m X W {S with d:=S.d.dW (aZ S.c S.w.p.1+S.w.p.2.1) (chunks (uI (du S items blocks)) (1+blocks.length)),t:={S.t with l:=eC S.t.l S.w.p.1 S.w.p.2.2.1},w:={S.w with p:=(S.w.p.1,behind S.w.p.2.1 blocks.length,S.w.p.2.2.1+1,cX (du S items blocks),S.w.p.2.2.2.2)}} R)->Q 0 H':=E
 generalize uI (du S items blocks)=bs at hy ac E F h7 ae
 generalize aI:cX (du S items blocks)=sm at E ⊢
 generalize ap:aZ S.c S.w.p.1+S.w.p.2.1=j at E h7 ⊢
 have M:0<=j/\j+((1+blocks.length:Nat):Int)<=S.d.now.length:=by subst ap;omega
 refine kR c0 c1 _ _ _ _ (Rc.CK (x:=af) (b:=bs) (1+blocks.length)
  (λi _ P=>∃m,m.a=X.da/\aA P (aC z::cD m X W {S with d:=S.d.dW j (chunks bs i)} (aJ r [i64 (j+(i:Int))]::aJ G [i64 0]::R)))
  F (by omega) ?_ ⟨A,hA,by simpa[chunks,Dk.dW] using h7⟩ ?_ ?_)
 ·rintro i _ P ⟨m,_,f⟩
  exact⟨Rc.aa.one (ae.ext f.base),Rc.aa.one (aB.ext f.base),(hy.ext O).ext f.base⟩
 ·rintro i _ P K y aN ⟨m,eA,f⟩ ax U _
  obtain⟨ay,ah⟩:=xV (i:=i) ok.dk F ac M.1 M.2 (by omega)
  have aw:Bytes z y ((bs.drop (64*i)).take 64):=ax z (hy.ext O)
  refine⟨y,rfl,az (x:=some X.wa) (o s f.base) (aD (aU (x:=some X.da) f 8 rfl rfl (eB (x:=j+(i:Int)) f 12 rfl ?_)))⟩
  rw[←eA]
  refine yk (i:=4) f rfl ay (by omega) (by rw[ah];omega) aw (by simp;omega) λA2 H8 al h8=>aF rfl ?_
  refine eB (x:=j+(i:Int)) h8 12 rfl (jF h8 12 rfl rfl λH9 u=>U () H9 ⟨A2,al.trans eA,?_⟩)
  have e:IntKind.wrap .i64 (j+(i:Int)+1)=j+((i+1:Nat):Int):=by rw[cK (by omega) (by omega)];push_cast;omega
  rw[e] at u
  rw[IA,DN,qf]
  exact u
 ·rintro _ P ⟨m,eA,f⟩
  have q8:=o s f.base
  refine aF rfl (az (x:=some X.wa) q8 (aD (aU (x:=some X.ta) f 8 rfl rfl (az (x:=some X.wa) q8 (aD (dD (x:=S.w.p.1) f 8 rfl rfl (az (x:=some X.wa) q8 (aD (dD (x:=S.w.p.2.2.1) f 8 rfl rfl ?_)))))))))
  refine Us.GH f ((hX.ta.ext (N.trans s)).ext f.base) 6 rfl λH9 u=>?_
  have u:aA H9 (aC z::cD m X W {S with d:=S.d.dW j (chunks bs (1+blocks.length)),t:={S.t with l:=eC S.t.l S.w.p.1 S.w.p.2.2.1}} (aJ r [i64 (j+((1+blocks.length:Nat):Int))]::aJ G [i64 0]::R)):=u
  have v:=o s u.base
  refine az (x:=some X.wa) v (az (x:=some X.wa) v (az (x:=some X.wa) v (az (x:=some X.wa) v (aD (dD (x:=S.w.p.2.1) u 8 rfl rfl (az (x:=some X.wa) v (aD (dD (x:=S.w.p.2.2.1) u 8 rfl rfl ?_))))))))
  rw[ar]
  refine xW ⟨by omega,by omega⟩ ⟨by omega,by omega⟩ (jc u 8 rfl rfl (ig v (ig v (ig v (ig v (aD ?_))))))
  refine kH (Wr.yA (some X.da) X.g (some X.ta) (S.w.p.1,behind S.w.p.2.1 blocks.length,S.w.p.2.2) W.kI W.kC) u 8 rfl (by simp) rfl rfl λai Y=>?_
  have ad:=o s (Y:aA ai (aC z::_)).base
  refine ig ad (ig ad (aD ?_))
  rw[cK (x:=S.w.p.2.2.1+1) (by omega) (by omega)]
  refine kH (Wr.yA (some X.da) X.g (some X.ta) (S.w.p.1,behind S.w.p.2.1 blocks.length,S.w.p.2.2.1+1,S.w.p.2.2.2) W.kI W.kC) Y 8 rfl (by simp) rfl rfl λaj Z=>?_
  refine ig (o s (Z:aA aj (aC z::_)).base) (aD ?_)
  refine kH (Wr.yA (some X.da) X.g (some X.ta) (S.w.p.1,behind S.w.p.2.1 blocks.length,S.w.p.2.2.1+1,sm,S.w.p.2.2.2.2) W.kI W.kC) Z 8 rfl (by simp) rfl rfl λaK am=>?_
  refine jF am 13 rfl rfl λV ab=>eB (x:=(0:Int)) ab 13 rfl ?_
  have an:aA V (aC z::(oX m X W {S with d:=S.d.dW j (chunks bs (1+blocks.length)),t:={S.t with l:=eC S.t.l S.w.p.1 S.w.p.2.2.1},w:={S.w with p:=(S.w.p.1,behind S.w.p.2.1 blocks.length,S.w.p.2.2.1+1,sm,S.w.p.2.2.2.2)}}++aJ r [i64 (j+((1+blocks.length:Nat):Int))]::aJ G [i64 0]::R)):=ab
  exact E m z V eA (N.trans s) an.kG.kG
end
end So
end
section
namespace So
open Go Go.Kx KM Rw Ge Sc Rg Mo Ds Rc
structure bB (k:Nat) (S:KM.St):Prop extends ji k S where
 lt:S.w.p.2.1<S.c.2.2
 it:∀i∈S.w.items,cB i=true
 bl:S.w.blocks.length=S.w.items.countP bM
 xy:∀b∈S.w.blocks,b.length=64/\bP b
 fit:S.w.items≠[]->S.w.items.length<=6/\behind S.w.p.2.1 S.w.blocks.length<S.c.2.2
theorem bB.mono {k m:Nat} {S:KM.St} (h:bB k S) (hm:k<=m):bB m S:={h with toji:=h.toji.mono hm}
section
variable {H B:PH} {L R:List Ob} {k n:Nat} {A:Ds.DA} {X:Ad} {W:Wt} {S:KM.St}
theorem bB.may (h:bB k S) (hk:k< 2 ^ 28) (hi:S.w.items≠[]):dH (du S.aY S.aY.w.items S.aY.w.blocks)=true:=by
 have a:du S.aY S.aY.w.items S.aY.w.blocks=⟨S.w.p.2.2.2.2,S.w.p.2.2.1,S.w.p.2.2.2.1,S.w.items,S.w.blocks⟩:=by
  unfold KM.St.aY;grind
 have:=h.cZ;have:=h.ue;have:=h.prev;have:=(h.fit hi).1
 have c:1<=S.w.items.length:=by
  grind
 rw[a]
 simp only[dH,Bool.and_eq_true,KM.bD,List.all_eq_true,beq_iff_eq]
 exact⟨⟨⟨⟨⟨⟨⟨by omega,by omega⟩,⟨by omega,by omega⟩⟩,⟨by omega,by omega⟩⟩,⟨by omega,by omega⟩⟩,h.it⟩,h.bl⟩,λb a=>(h.xy b a).1⟩
theorem Ak (S:KM.St):S.aY.w.items=S.w.items/\S.aY.w.blocks=S.w.blocks/\S.aY.c=S.c/\S.aY.n=S.n/\S.aY.t=S.t/\S.aY.m=S.m/\(S.aY.w.p.1=S.w.p.1/\S.aY.w.p.2.2=S.w.p.2.2)/\S.aY.w.p.2.1=max S.w.p.2.1 1∨S.w.p.2.1< 0:=by
 unfold KM.St.aY
 grind
theorem ji.Cv (h:ji k S):S.aY.w.items=S.w.items/\S.aY.w.blocks=S.w.blocks/\S.aY.c=S.c/\S.aY.n=S.n/\S.aY.t=S.t/\S.aY.m=S.m/\(S.aY.w.p.1=S.w.p.1/\S.aY.w.p.2.2=S.w.p.2.2)/\S.aY.w.p.2.1=max S.w.p.2.1 1:=by
 rcases Ak S with a|a
 ·exact a
 ·have:=h.p2;omega
theorem bB.emit (h:bB k S) (hk:k+1< 2 ^ 28):bB (k+8) S.emit/\S.emit.w.items=[]/\S.emit.w.blocks=[]/\S.emit.c=S.c/\S.emit.n=S.n/\S.emit.m=S.m/\S.emit.d.now.length=S.d.now.length/\
 S.emit.w.p.2.1=(if S.w.items=[] then S.w.p.2.1 else behind S.w.p.2.1 S.w.blocks.length)/\(S.emit.w.p.1=S.w.p.1/\S.emit.w.p.2.2.2.2=S.w.p.2.2.2.2)/\S.emit.t.v=S.t.v:=by
 unfold KM.St.emit
 by_cases he:S.w.items=[]
 ·rw[if_pos (by rw[he];rfl)]
  have a:S.w.blocks=[]:=List.eq_nil_of_length_eq_zero (by rw[h.bl,he];rfl)
  exact⟨h.mono (by omega),he,a,rfl,rfl,rfl,rfl,by rw[if_pos he],⟨rfl,rfl⟩,rfl⟩
 ·rw[if_neg (by simpa using he)]
  obtain⟨y,z,E,C⟩:=h.toji.aY (by omega) h.lt
  obtain⟨o,e,q,r,s,u,⟨x,f⟩,g⟩:=h.toji.Cv
  have hm:=h.may (by omega) he
  have hf:=(h.fit he).2
  have D:behind S.w.p.2.1 S.w.blocks.length=S.aY.w.p.2.1+1+S.aY.w.blocks.length:=by rw[g,e];rfl
  obtain⟨u1,l⟩:=y.jM (by omega) hm (by rw[e];exactλb a=>(h.xy b a).2) z (by grind)
  rw[o,e] at u1 l
  have eo:(S.aY.jM S.w.items S.w.blocks).w.p.2.1=behind S.w.p.2.1 S.w.blocks.length:=by
   show behind S.aY.w.p.2.1 _=_
   rw[g];unfold behind;omega
  refine⟨⟨⟨u1.c,u1.dk,u1.len,u1.im,u1.tb,u1.p1,u1.p2,u1.cZ,u1.prev,u1.ue⟩,?_,λi hi=>?_,rfl,λb a=>?_,λj=>absurd rfl j⟩,rfl,rfl,q,r,u,l.trans C,by rw[if_neg he];exact eo,⟨x,by show S.aY.w.p.2.2.2.2=_;rw[f]⟩,by show S.aY.t.v=_;rw[s]⟩
  ·show(S.aY.jM S.w.items S.w.blocks).w.p.2.1<S.aY.c.2.2
   grind
  ·cases hi
  ·cases a
theorem rowsOf {H:PH} {s:Sl} {bl:List Sl} {bs:List Bs} (h:cL Sl.v H s bl) (e:bl.length=bs.length) (c:∀(i:Nat) (x:Sl) (b:Bs),bl[i]?=some x->bs[i]?=some b->Bytes H x b) (d:∀b∈bs,b.length=64/\bP b):wP H s bs:=by
 refine⟨bl.zip bs,?_,?_,λq a=>?_⟩
 ·rw[List.map_snd_zip];omega
 ·rw[List.map_fst_zip];exact h;omega
 ·obtain⟨i,hi⟩:=List.getElem?_of_mem a
  rw[List.getElem?_zip_eq_some] at hi
  grind
theorem AP {Q:Int->PH->Prop} (h:aA H (aC B::cD A X W S R)) (F:A.a=X.da) (V:mg B X S.c) (o:gJ B W S) (ok:bB k S) (hk:k+1< 2 ^ 28)
 (y:∀I J r H',I.a=X.da->Ext B r->gJ r J S.emit->aA H' (aC r::cD I X J S.emit R)->Q 0 H'):iu (some X.wa) H Q:=by
 refine aF rfl (aD (aU (x:=some X.da) h 8 rfl rfl ?_))
 rw[←F]
 refine CL (i:=4) h rfl ?_
 rw[ok.dk.off]
 have vi:bj It.fI 4 H W.kI S.w.items:=h.get 9 rfl
 refine aF rfl (aD (aU (enc:=Sl.v) (x:=W.kI) h 8 rfl rfl ?_))
 rw[vi.bL]
 refine aM (λc1=>?_) (λc1=>?_)
 ·have he:S.w.items=[]:=(by simp_all)
  have e:S.emit=S:=by unfold KM.St.emit;grind
  rw[e] at y
  exact y A W B H F (.refl B) o h
 ·have he:S.w.items≠[]:=(by grind)
  have e:S.emit=(S.aY.jM S.w.items S.w.blocks).bare:=by unfold KM.St.emit;grind
  obtain⟨w1,w2,w3,w4⟩:=ok.toji.aY (by omega) ok.lt
  obtain⟨K,b2,b3,M,b5,b6,⟨b7,ab⟩,b8⟩:=ok.toji.Cv
  have hm:=ok.may (by omega) he
  rw[K,b2] at hm
  have hf:=(ok.fit he).2
  have ac:behind S.w.p.2.1 S.w.blocks.length=S.aY.w.p.2.1+1+S.w.blocks.length:=by rw[b8];rfl
  refine yd h F V ok.toji (by omega) λA1 B1 H1 N f u=>aF rfl ?_
  have vb:dX Sl.v H1 W.kC W.bl:=u.get 10 rfl
  refine aD (aU (enc:=Sl.v) (x:=W.kI) u 8 rfl rfl (aD (aU (enc:=Sl.v) (x:=W.kC) u 8 rfl rfl ?_)))
  refine tr (items:=S.w.items) (blocks:=S.w.blocks) u N (by rw[b3];exact V.ext f) w1 (by omega) (λH' r R' aa E=>?_) hm (λb G=>(ok.xy b G).2) (by rw[vb.list.bL,o.len]) w2 (by grind) λC D H2 O q h2=>aF rfl ?_
  ·have z:bj It.fI 4 H' W.kI S.aY.w.items:=E.get 9 rfl
   have Z:dX Sl.v H' W.kC W.bl:=E.get 10 rfl
   rw[K] at z
   have:=(ok.fit he).1
   exact⟨rfl,rfl,rfl,z.lX It.bL,rowsOf Z.list o.len (λi x b hx G=>(o.at_ i x b hx G).ext ((f.trans aa).trans E.base)) ok.xy,by show S.w.items.length<_;omega,by have:=List.countP_le_length (p:=bM) (l:=S.w.items);show S.w.blocks.length<_;rw[ok.bl];omega⟩
  ·refine aD (cU (j:=8) h2 8 rfl (by simp) rfl λH3 h3=>aD (cU (j:=9) h3 8 rfl (by simp) rfl λH4 h4=>?_))
   rw[e] at y
   refine y C ⟨Sl.nil,Sl.nil,[],W.lb,W.lo⟩ D H4 O (f.trans q) ⟨?_,?_,rfl,by simp⟩ ?_
   ·show gR D W.lb S.aY.n.lb;rw[M];exact o.lb.ext (f.trans q)
   ·show gR D W.lo S.aY.n.lo;rw[M];exact o.lo.ext (f.trans q)
   ·have P:=aA.up ((AB (enc:=Sl.v) h4).Bt (enc:=It.fI) (sz:=4))
    generalize S.aY.jM S.w.items S.w.blocks=T at P ⊢
    have U:=aA.KO (X:=[au It.fI 4 Sl.nil [],aS Sl.v Sl.nil []]++Ig.dO X.s0 X.t0 X.s1 X.t1 T.m++[Ds.bA C T.d,au Us.bf 2 X.s T.t.l,aS i64 X.t T.t.v,aJ X.wa (Wr.yA (some X.da) X.g (some X.ta) T.w.p Sl.nil Sl.nil),au It.fI 4 W.kI T.w.items,aS Sl.v W.kC W.bl,aJ X.sa (yO (some X.da) X.g (some X.ta) (some X.ia) (some X.wa) (BO T) T.n.slot W.lb W.lo)])
     (Y:=oX C X ⟨Sl.nil,Sl.nil,[],W.lb,W.lo⟩ T.bare++[au It.fI 4 W.kI T.w.items,aS Sl.v W.kC W.bl]) P 13 [2,3,4,5,6,7,8,9,0,1,12,10,11] rfl (by decide) rfl
    rw[List.append_assoc] at U
    exact U.kG.kG
end
end So
end
section
namespace So
open Go Go.Kx KM Rw Ge Sc Rg Mo Ds Rc
section
variable {H B:PH} {L R:List Ob} {k n:Nat} {A:Ds.DA} {X:Ad} {W:Wt} {S:KM.St}
theorem AG {off a b:Int} {Q:Bool->PH->Prop} (h:aA H (aC B::cD A X W S R)) (j:mg B X S.c) (m:0<=off/\off<=1000) (l:0<=b/\b<=1000)
 (f:∀H',aA H' (aC B::cD A X W S R)->Q (fits S.c off a b) H'):mC (some X.wa) off a b H Q:=by
 have e:fits S.c off a b=(decide (a<=6)&&decide (behind off b<S.c.2.2)):=rfl
 rw[e] at f
 refine mP.i (Vf (λc1 kk=>aD (aU (x:=X.g) h 8 rfl rfl (xW m l (dc h 8 rfl rfl (mr (j.g.ext h.base) λH1 d=>kk H1 d))))) λH1 d=>?_)
 exact f H1 (h.ext d)
theorem ym (h:ji k S) {g:Int} (b:0<=g/\g<S.c.2.1) (a:Int):ji k (S.sX a g):=by
 have d:=h.c.2.2.2.2.1
 exact⟨h.c,h.dk,h.len,h.im,h.tb.Vl _,b,⟨Int.le_refl 0,by show(0:Int)<=S.c.2.2;omega⟩,h.cZ,h.prev,h.ue⟩
theorem w6 {g:Int} (h:0<=g/\g<=31) (ok:ji k S) (hk:k< 2 ^ 28):dH (du S [(7,0,0,g)] [])=true:=by
 have:=ok.cZ;have:=ok.ue;have:=ok.prev
 have e1:cB (7,0,0,g)=true:=by simp[cB,bN];omega
 have e2:bM (7,0,0,g)=false:=by rw[bM,e1];rfl
 simp only[dH,Bool.and_eq_true,KM.bD,List.all_eq_true,beq_iff_eq,List.countP_cons,List.countP_nil,e2]
 refine⟨⟨⟨⟨⟨⟨⟨by omega,by omega⟩,⟨by omega,by omega⟩⟩,⟨by omega,by omega⟩⟩,⟨by simp,by simp⟩⟩,λi hi=>?_⟩,by simp⟩,λb a=>by cases a⟩
 have:=List.mem_singleton.1 hi;subst this;exact e1
theorem bB.cR (h:bB k S) (hk:k+20< 2 ^ 28) (hi:S.w.items=[]) (x:S.w.blocks=[]) (z:1<=S.w.p.2.1) {g:Int} (y:0<=g/\g<S.c.2.1):bB (k+8) (S.cR g)/\(S.cR g).w.items=[]/\(S.cR g).w.blocks=[]/\(S.cR g).c=S.c/\(S.cR g).n=S.n/\(S.cR g).m=S.m/\(S.cR g).d.now.length=S.d.now.length/\(S.cR g).w.p.2.1=1/\(S.cR g).w.p.2.2.2.2=S.w.p.2.2.2.2/\(S.cR g).w.p.1=g:=by
 have M:=h.c.2.2.2.1;have K:=h.c.2.2.2.2.1
 have hm:=w6 (g:=g) (by omega) h.toji (by omega)
 have G:=h.lt
 obtain⟨u1,C⟩:=h.toji.jM (by omega) hm (by simp) z (by grind)
 have o:=ym u1 (g:=g) y S.w.p.1
 obtain⟨v1,v2,D,v4⟩:=o.aY (by omega) (by show(0:Int)<S.c.2.2;omega)
 obtain⟨q,r,e,s,I,t,⟨u,f⟩,J⟩:=o.Cv
 have v:S.cR g=((S.jM [(7,0,0,g)] []).sX S.w.p.1 g).aY:=rfl
 rw[v]
 have a:((S.jM [(7,0,0,g)] []).sX S.w.p.1 g).aY.w.items=[]:=q.trans hi
 have j:((S.jM [(7,0,0,g)] []).sX S.w.p.1 g).aY.w.blocks=[]:=r.trans x
 refine⟨⟨v1,?_,λi F=>?_,?_,λb E=>?_,λl=>absurd a l⟩,a,j,e,s,t,v4.trans C,?_,by rw[f];rfl,u⟩
 ·rw[e];exact D
 ·grind
 ·grind
 ·grind
 rfl
theorem RZ {g:Int} {Q:Int->PH->Prop} (h:aA H (aC B::cD A X W S R)) (hA:A.a=X.da) (s:mg B X S.c) (r:gJ B W S) (ok:bB k S) (hk:k+20< 2 ^ 28) (hi:S.w.items=[]) (hb:S.w.blocks=[]) (K:1<=S.w.p.2.1) (hg:0<=g/\g<S.c.2.1)
 (q:∀u f H',u.a=X.da->Ext B f->gJ f W (S.cR g)->aA H' (aC f::cD u X W (S.cR g) R)->Q 0 H'):oz (some X.wa) g H Q:=by
 have h6:=ok.c.2.2.2.1;have h5:=ok.c.2.2.2.2.1
 have hm:=w6 (g:=g) (by grind) ok.toji (by omega)
 have aa:=ok.lt
 obtain⟨u1,u2⟩:=ok.toji.jM (by omega) hm (by simp) K (by grind)
 have t:=ym u1 (g:=g) hg S.w.p.1
 obtain⟨b1,v,b3,y,b5,b6,⟨b7,z⟩,b8⟩:=t.Cv
 refine aD (dD (x:=S.w.p.1) h 8 rfl rfl (jQ.zg (enc:=It.fI) (sz:=4) (l:=[(7,0,0,g)]) h rfl rfl λr5 H1 o=>?_))
 obtain⟨B1,b,hv,o⟩:=o.fz
 have I:=hv.lX It.bL
 refine tr (items:=[(7,0,0,g)]) (blocks:=[]) (kI:=r5) (kC:=Sl.nil) o hA (s.ext b) ok.toji (by omega) (λH' f R' N h'=>?_) hm (by simp) rfl K (by grind) λO U H2 C d i=>aF rfl ?_
 ·exact⟨rfl,rfl,rfl,(I.ext N).ext h'.base,⟨[],rfl,Cr.Tu⟩,by simp,by simp⟩
 ·have et:S.cR g=((S.jM [(7,0,0,g)] []).sX S.w.p.1 g).aY:=rfl
  rw[et] at q
  have F:(S.jM [(7,0,0,g)] []).c=S.c:=rfl
  have J:(S.jM [(7,0,0,g)] []).n=S.n:=rfl
  have j:(S.jM [(7,0,0,g)] []).w.blocks=S.w.blocks:=rfl
  generalize S.jM [(7,0,0,g)] []=T at i q u1 t b1 v b3 y b5 b6 b7 z b8 F J j
  refine aD (aU (x:=some X.ta) i 8 rfl rfl (Us.xu i ((s.ta.ext (b.trans d)).ext i.base) 6 rfl λH3 h3=>aD ?_))
  refine kH (Wr.yA (some X.da) X.g (some X.ta) (g,T.w.p.2) W.kI W.kC) h3 8 rfl (by simp) rfl rfl λH4 h4=>aD ?_
  refine kH (Wr.yA (some X.da) X.g (some X.ta) (g,0,T.w.p.2.2) W.kI W.kC) h4 8 rfl (by simp) rfl rfl λY e=>?_
  have e:aA Y (aC U::cD O X W (T.sX S.w.p.1 g) R):=e
  have G:(T.sX S.w.p.1 g).c=S.c:=F
  refine yd e C (by rw[G];exact s.ext (b.trans d)) t (by omega) λP V Z D m E=>q P V Z D (b.trans (d.trans m)) ?_ E
  have M:=b.trans (d.trans m)
  have eb:(T.sX S.w.p.1 g).aY.w.blocks=S.w.blocks:=v.trans j
  have en:(T.sX S.w.p.1 g).aY.n=S.n:=y.trans J
  exact⟨by rw[en];exact r.lb.ext M,by rw[en];exact r.lo.ext M,by rw[eb];exact r.len,by grind⟩
theorem UF (l:List cJ):(rX l= -1∨(0<=rX l/\rX l<l.length/\(bg (0,0) l (rX l)).1=0)):=by
 unfold rX
 split
 ·next a=>
  refine .inr ⟨by omega,by omega,?_⟩
  have:=List.findIdx_getElem (w:=a)
  simp only[beq_iff_eq] at this
  rw[Us.kB (x:=l[l.findIdx λu=>u.1==0]) (by omega) (by simp)]
  exact this
 simp
theorem yn (l:List cJ) (sp:Bool):(bY l sp< 0/\jP l (bY l sp)=false)∨(0<=bY l sp/\bY l sp<l.length/\jP l (bY l sp)=true):=by
 have neg:jP l (-1)=false:=Us.KD l
 unfold bY
 split
 ·grind
 ·rcases UF l with h|⟨a,b,c⟩
  ·grind
  ·refine .inr ⟨a,b,?_⟩
   rw[jP,Bool.and_eq_true,beq_iff_eq]
   exact⟨Us.bD.2 ⟨a,b⟩,c⟩
structure Z8 (k:Nat) (S:KM.St) (b:Int) (T:KM.St) (e:Int):Prop where
 ok:bB (k+16) T
 c:T.c=S.c
 n:T.n=S.n
 m:T.m=S.m
 len:T.d.now.length=S.d.now.length
 fits:e=0->fits T.c T.w.p.2.1 (T.w.items.length+1) (T.w.blocks.length+b)=true
theorem bB.jh (h:bB k S) (g:Int):bB k ({S with t:=S.t.jh g}:KM.St):=⟨⟨h.c,h.dk,h.len,h.im,h.tb.jh g,h.p1,h.p2,h.cZ,h.prev,h.ue⟩,h.lt,h.it,h.bl,h.xy,h.fit⟩
theorem wU (h:bB k S) (hk:k+1< 2 ^ 28):S.emit.w.p.2.1=(if S.w.items.isEmpty then S.w.p.2.1 else behind S.w.p.2.1 S.w.blocks.length):=by
 rw[(h.emit hk).2.2.2.2.2.2.2.1]
 simp
theorem wV (S:KM.St) (b:Int) (sp:Bool):(fits S.c S.w.p.2.1 (S.w.items.length+1) (S.w.blocks.length+b)=true/\S.room b sp=(S,0))∨
 (¬fits S.c S.w.p.2.1 (S.w.items.length+1) (S.w.blocks.length+b)=true/\fits S.c (if S.w.items.isEmpty then S.w.p.2.1 else behind S.w.p.2.1 S.w.blocks.length) 1 b=true/\S.room b sp=(S.emit,0))∨
 (¬fits S.c S.w.p.2.1 (S.w.items.length+1) (S.w.blocks.length+b)=true/\¬fits S.c (if S.w.items.isEmpty then S.w.p.2.1 else behind S.w.p.2.1 S.w.blocks.length) 1 b=true/\bY S.t.l sp< 0/\S.room b sp=(S,6))∨
 (¬fits S.c S.w.p.2.1 (S.w.items.length+1) (S.w.blocks.length+b)=true/\¬fits S.c (if S.w.items.isEmpty then S.w.p.2.1 else behind S.w.p.2.1 S.w.blocks.length) 1 b=true/\0<=bY S.t.l sp/\S.room b sp=(({S with t:=S.t.jh (bY S.t.l sp)}:KM.St).emit.cR (bY S.t.l sp),0)):=by
 by_cases c1:fits S.c S.w.p.2.1 (S.w.items.length+1) (S.w.blocks.length+b)=true
 ·exact .inl ⟨c1,by unfold KM.St.room;rw[if_pos c1]⟩
 by_cases c2:fits S.c (if S.w.items.isEmpty then S.w.p.2.1 else behind S.w.p.2.1 S.w.blocks.length) 1 b=true
 ·exact .inr (.inl ⟨c1,c2,by unfold KM.St.room;grind⟩)
 by_cases c3:bY S.t.l sp< 0
 ·exact .inr (.inr (.inl ⟨c1,c2,c3,by unfold KM.St.room;grind⟩))
 ·exact .inr (.inr (.inr ⟨c1,c2,by omega,by unfold KM.St.room;rw[if_neg c1,if_neg c2,if_neg c3]⟩))
theorem yo {c:ax} {off b:Int} (a:24<=c.2.2) (d:b=0∨b=1) (h:¬fits c off 1 b=true):1<=off:=by
 unfold KM.fits KM.behind at h
 grind
theorem BP (h:bB k S) (hk:k+40< 2 ^ 28) {b:Int} (r:b=0∨b=1) (sp:Bool):Z8 k S b (S.room b sp).1 (S.room b sp).2:=by
 have q:=h.c.2.2.2.2.1
 have u:=wU h (by omega)
 rcases wV S b sp with⟨c1,e⟩|⟨_,c2,e⟩|⟨_,_,_,e⟩|⟨_,c2,c3,e⟩
 ·rw[e];exact⟨h.mono (by omega),rfl,rfl,rfl,rfl,λ_=>c1⟩
 ·rw[e]
  obtain⟨e1,e2,e3,e4,e5,d,f,m,o⟩:=h.emit (by omega)
  refine⟨e1.mono (by omega),e4,e5,d,f,λ_=>?_⟩
  grind
 ·rw[e];exact⟨h.mono (by omega),rfl,rfl,rfl,rfl,by simp⟩
 ·rw[e]
  have G:=yn S.t.l sp
  have F:=h.tb.l
  have E:=h.c.2.2.1
  have s:0<=bY S.t.l sp/\bY S.t.l sp<S.c.2.1:=by omega
  have i:=h.jh (bY S.t.l sp)
  obtain⟨e1,e2,e3,e4,e5,d,f,m,o⟩:=i.emit (by omega)
  have a:=wU i (by omega)
  generalize({S with t:=S.t.jh (bY S.t.l sp)}:KM.St).emit=T at e1 e2 e3 e4 e5 d f a ⊢
  have e4:T.c=S.c:=e4
  have a:T.w.p.2.1=(if S.w.items.isEmpty then S.w.p.2.1 else behind S.w.p.2.1 S.w.blocks.length):=a
  have v:1<=T.w.p.2.1:=by rw[a];exact yo q r c2
  obtain⟨u1,x,y,j,z,C,D,u8,I⟩:=e1.cR (g:=bY S.t.l sp) (by omega) e2 e3 v (by rw[e4];exact s)
  refine⟨u1,j.trans e4,z.trans e5,C.trans d,D.trans f,λ_=>?_⟩
  show KM.fits (T.cR (bY S.t.l sp)).c (T.cR (bY S.t.l sp)).w.p.2.1 ((T.cR (bY S.t.l sp)).w.items.length+1) ((T.cR (bY S.t.l sp)).w.blocks.length+b)=true
  rw[x,y,j,u8,e4]
  unfold KM.fits KM.behind
  simp only[Bool.and_eq_true,decide_eq_true_eq,List.length_nil]
  omega
theorem Ra {b:Int} {sp:Bool} {Q:Int->PH->Prop} (h:aA H (aC B::cD A X W S R)) (s:A.a=X.da) (m:mg B X S.c) (f:gJ B W S) (ok:bB k S) (hk:k+40< 2 ^ 28) (hb:b=0∨b=1)
 (j:∀G J E H',G.a=X.da->Ext B E->gJ E J (S.room b sp).1->aA H' (aC E::cD G X J (S.room b sp).1 R)->Q (S.room b sp).2 H'):o0 (some X.wa) b sp H Q:=by
 have h5:=ok.c.2.2.2.2
 have ag:=ok.p2
 have vi:bj It.fI 4 H W.kI S.w.items:=h.get 9 rfl
 have vb:dX Sl.v H W.kC W.bl:=h.get 10 rfl
 have af:S.w.items.length<=6:=by
  by_cases he:S.w.items=[]
  ·rw[he];simp
  ·exact(ok.fit he).1
 have ae:S.w.blocks.length<=6:=by have:=List.countP_le_length (p:=bM) (l:=S.w.items);rw[ok.bl];omega
 refine mP.i (aD (dD (x:=S.w.p.2.1) h 8 rfl rfl (aD (aU (enc:=Sl.v) (x:=W.kI) h 8 rfl rfl (aD (aU (enc:=Sl.v) (x:=W.kC) h 8 rfl rfl ?_))))))
 rw[vi.bL,vb.list.bL,f.len,cK (x:=(S.w.items.length:Int)+1) (by omega) (by omega),cK (x:=(S.w.blocks.length:Int)+b) (by omega) (by omega)]
 refine AG h m (by omega) (by omega) λH1 g=>aM (λc1=>?_) (λc1=>?_)
 ·have e:S.room b sp=(S,0):=by unfold KM.St.room;grind
  rw[e] at j
  exact j A W B H1 s (.refl B) f g
 ·have ab:=wU ok (by omega)
  refine aD (dD (x:=S.w.p.2.1) g 8 rfl rfl (aD (aU (enc:=Sl.v) (x:=W.kI) g 8 rfl rfl ?_)))
  have Z:bj It.fI 4 H1 W.kI S.w.items:=g.get 9 rfl
  have Y:dX Sl.v H1 W.kC W.bl:=g.get 10 rfl
  rw[Z.bL]
  refine qb (λoff H'=>off=(if S.w.items.isEmpty then S.w.p.2.1 else behind S.w.p.2.1 S.w.blocks.length)/\aA H' (aC B::cD A X W S R)) (λoff H2 ⟨eo,h2⟩=>?_) λk' C=>?_
  ·have F:0<=off/\off<=1000:=by
    rw[eo];unfold behind;omega
   refine AG h2 m F (by omega) λH3 r=>aM (λc2=>?_) (λc2=>?_)
   ·rw[eo] at c2
    have e:S.room b sp=(S.emit,0):=by unfold KM.St.room;grind
    rw[e] at j
    exact AP r s m f ok (by omega) (by omega)
   ·have V:=yn S.t.l sp
    have hl:=ok.tb.l
    have hv:=ok.tb.v
    have ac:=ok.c.2.2.1
    have ad:=ok.c.2.2.2.1
    refine aD (aU (x:=some X.ta) r 8 rfl rfl (Us.kq r (m.ta.ext r.base) 6 7 rfl rfl (by decide) (by rw[hv,hl]) (by omega) λI o=>?_))
    have K:¬(KM.fits S.c (if S.w.items.isEmpty then S.w.p.2.1 else behind S.w.p.2.1 S.w.blocks.length) 1 b=true):=by grind
    rcases V with⟨V,z⟩|⟨ah,ai,U⟩
    ·have e:S.room b sp=(S,6):=by unfold KM.St.room;grind
     rw[e] at j
     rw[z]
     have O:kF S.t.l (bY S.t.l sp)=S.t.l/\qB S.t.l S.t.v (bY S.t.l sp)=S.t.v:=by rw[kF,qB,z];simp
     rw[O.1,O.2] at o
     exact aW rfl (j A W B I s (.refl B) f o)
    ·have e:S.room b sp=(({S with t:=S.t.jh (bY S.t.l sp)}:KM.St).emit.cR (bY S.t.l sp),0):=by unfold KM.St.room;grind
     rw[e] at j
     rw[U]
     refine aF rfl ?_
     rw[if_pos rfl]
     have o:aA I (aC B::cD A X W ({S with t:=S.t.jh (bY S.t.l sp)}:KM.St) R):=o
     have q:=ok.jh (bY S.t.l sp)
     have hg:0<=bY S.t.l sp/\bY S.t.l sp<S.c.2.1:=by omega
     obtain⟨e1,e2,e3,e4,e5,e6,e7,e8,e9⟩:=q.emit (by omega)
     have d:=wU q (by omega)
     refine AP o s m ⟨f.lb,f.lo,f.len,f.at_⟩ q (by omega) λA5 W5 B5 H5 M D y u=>aF rfl ?_
     generalize({S with t:=S.t.jh (bY S.t.l sp)}:KM.St).emit=T at e1 e2 e3 e4 e5 e6 e7 d y u j
     have e4:T.c=S.c:=e4
     have d:T.w.p.2.1=(if S.w.items.isEmpty then S.w.p.2.1 else behind S.w.p.2.1 S.w.blocks.length):=d
     have hp:1<=T.w.p.2.1:=by rw[d];exact yo h5.1 hb K
     exact RZ u M (by rw[e4];exact m.ext D) y e1 (by omega) e2 e3 hp (by grind) λA6 B6 H6 N aa P h6=>j A6 W5 B6 H6 N (D.trans aa) P h6
  ·refine aM (λc2=>?_) (λc2=>C _ _ ⟨?_,g⟩)
   ·refine aD (aU (enc:=Sl.v) (x:=W.kC) g 8 rfl rfl ?_)
    rw[Y.list.bL,f.len]
    refine xW (by omega) (by grind) (C _ _ ⟨?_,g⟩)
    grind
   simp_all
end
end So
end
section
namespace So
open Go Go.Kx KM Rw Ge Sc Rg Mo Ds Rc
section
variable {H B:PH} {L R:List Ob} {k n:Nat} {A:Ds.DA} {X:Ad} {W:Wt} {S:KM.St}
theorem bB.GP (h:bB k S):S.w.items.length<=6/\S.w.blocks.length<=6:=by
 have a:S.w.items.length<=6:=by
  by_cases he:S.w.items=[]
  ·rw[he];simp
  ·exact(h.fit he).1
 have:=List.countP_le_length (p:=bM) (l:=S.w.items)
 exact⟨a,by rw[h.bl];omega⟩
theorem Ee {Q:Int->PH->Prop} (h:aA H (aC B::cD A X W S R)) (d:mg B X S.c) (ok:ji k S) (b:∀H',aA H' (aC B::cD A X W S R)->Q S.first H'):lG (some X.wa) H Q:=by
 have o:=Sc.kX ok.c ok.p1
 have m:=ok.p2
 have j:=ok.c.2.2.2.2
 have f:=qV ok.c
 refine mP.i (aD (aU (x:=X.g) h 8 rfl rfl (aD (dD (x:=S.w.p.1) h 8 rfl rfl (aD (dD (x:=S.w.p.2.1) h 8 rfl rfl ?_))))))
 refine Sc.zh (d.g.ext h.base) ok.c ok.p1 λH1 e=>?_
 have a:=h.ext e
 refine jc a 8 rfl rfl (xW (by grind) (by simp) ?_)
 have l:1<=behind S.w.p.2.1 0/\behind S.w.p.2.1 0<=100:=by unfold KM.behind;omega
 rw[cK (x:=aZ S.c S.w.p.1+behind S.w.p.2.1 0) (by omega) (by omega)]
 exact b H1 a
theorem bB.hold (h:bB k S) {i:eG} {b:Option Bs} (hi:cB i=true) (e:b.isSome=bM i) (f:∀x,b=some x->x.length=64/\bP x) (hf:fits S.c S.w.p.2.1 (S.w.items.length+1) (S.w.blocks.length+(if b.isSome then 1 else 0))=true):bB k (S.hold i b):=by
 have g:(b.toList.length:Int)=if b.isSome then 1 else 0:=by grind
 unfold KM.fits at hf
 simp only[Bool.and_eq_true,decide_eq_true_eq] at hf
 refine⟨⟨h.c,h.dk,h.len,h.im,h.tb,h.p1,h.p2,h.cZ,h.prev,h.ue⟩,h.lt,λj a=>?_,?_,λx d=>?_,λ_=>⟨?_,?_⟩⟩
 ·rcases List.mem_append.1 a with a|a
  ·exact h.it j a
  grind
 ·show(S.w.blocks++b.toList).length=(S.w.items++[i]).countP bM
  rw[List.length_append,List.countP_append,h.bl,List.countP_singleton,←e]
  grind
 ·rcases List.mem_append.1 d with d|d
  ·exact h.xy x d
  grind
 ·show(S.w.items++[i]).length<=6
  grind
 ·show behind S.w.p.2.1 ((S.w.blocks++b.toList).length:Int)<S.c.2.2
  grind
theorem zW {i:eG} {p:Sl} {b:Option Bs} {sp:Bool} {Q:Int->Int->PH->Prop} (h:aA H (aC B::cD A X W S R)) (hA:A.a=X.da) (hX:mg B X S.c) (hW:gJ B W S) (ok:bB k S) (hk:k+40< 2 ^ 28)
 (hi:cB i=true) (F:i.1≠7) (az:b.isSome=bM i) (al:(p.len:Int)=if b.isSome then 64 else 0) (an:∀x,b=some x->(x.length=64/\bP x)/\Bytes B p x)
 (hQ:∀A' W' O H',A'.a=X.da->Ext B O->gJ O W' (S.add i b sp).1->aA H' (aC O::cD A' X W' (S.add i b sp).1 R)->Q (S.add i b sp).2.1 (S.add i b sp).2.2 H'):ki (some X.wa) i p sp H Q:=by
 have ab:(if b.isSome then(1:Int) else 0)=0∨(if b.isSome then(1:Int) else 0)=1:=by omega
 have D:=BP ok hk ab sp
 refine gN h λa1 B1 H1 C r1 h1=>iK (enc:=It.fI) (x:=i) (r1.ext h1.base) rfl (It.Ag λH2 x2=>?_)
 have h2:=h1.ext x2
 have ae:∀{O H'},Ext B1 O->Ext O H'->aa H' a1 (It.fI i):=λx y=>(r1.ext x).ext y
 rw[←az]
 refine qb (λs H'=>s=(if b.isSome then(64:Int) else 0)/\aA H' (aC B1::cD A X W S R)) (λs H3 ⟨es,h3⟩=>?_) λk' z=>aM (by grind) (by grind)
 subst es
 refine aE (aF rfl (iK (enc:=It.fI) (x:=i) (ae (.refl _) h3.base) rfl (It.gE λH4 x4=>?_)))
 rw[hi]
 have h4:=h3.ext x4
 refine aE (aF rfl (aX (x:=i.1) (ae (.refl _) h4.base) rfl ?_))
 have e7:(i.1==7)=false:=by grind
 rw[e7]
 refine aE (aF rfl ?_)
 rw[al]
 refine aF (by simp) (aD (aU (x:=some X.da) h4 8 rfl rfl ?_))
 rw[←hA]
 refine CL (i:=4) h4 rfl ?_
 rw[ok.dk.off]
 have ediv:IntKind.wrap .i64 (Int.tdiv (if b.isSome then(64:Int) else 0) 64)=(if b.isSome then(1:Int) else 0):=by split<;>decide
 rw[ediv]
 refine aF rfl (Ra h4 hA (hX.ext C) (hW.ext C) ok hk ab λK f Y H5 ah J m V=>?_)
 by_cases he:(S.room (if b.isSome then 1 else 0) sp).2=0
 ·have e:S.add i b sp=((S.room (if b.isSome then 1 else 0) sp).1.hold i b,if b.isSome then(S.room (if b.isSome then 1 else 0) sp).1.first+(S.room (if b.isSome then 1 else 0) sp).1.w.blocks.length else 0,0):=by
   unfold KM.St.add;grind
  rw[e] at hQ
  have ad:=D.fits he
  have d:=D.ok
  have hc:=D.c
  rw[he]
  generalize(S.room (if b.isSome then 1 else 0) sp).1=T at hQ V m ad d hc
  refine aF rfl ?_
  have fin:∀(y:Int) (g:Wt) o P,Ext Y o->g.kI=f.kI->gJ o g ({T with w:={T.w with blocks:=T.w.blocks++b.toList}}:KM.St)->aA P (aC o::cD K X g ({T with w:={T.w with blocks:=T.w.blocks++b.toList}}:KM.St) R)->y=(if b.isSome then T.first+T.w.blocks.length else 0)->
   aP (some X.wa) λag=>aH Sl.v P (ag.add 8) λam=>aT It.fI P a1 4 λaI=>bZ P (row (It.fI aI) 196) 1 λM af=>ay af (ag.add 8) (Sl.v am)<|fh af 196 4 32 [i64 0,i64 0,i64 0,i64 0] am M λN ar=>
    aP (some X.wa) λaw=>aV ar (aw.add 8) [Sl.v N] λav=>Q y 0 av:=λy g o P q ai u t ey=>by
   subst ey
   refine aD (aU (enc:=Sl.v) (x:=g.kI) t 8 rfl rfl (iK (enc:=It.fI) (x:=i) (ae (J.trans q) t.base) rfl ?_))
   refine jQ.zg (enc:=It.fI) (sz:=4) (l:=[i]) t (by simp) rfl λM H7 F=>dc F 9 rfl rfl ?_
   have v7:bj It.fI 4 H7 M [i]:=F.get 1 rfl
   refine uP It.bL (by decide) F 10 rfl (v7.cells It.bL (by decide)) v7.len It.Vh rfl ?_ λN H8 h8=>?_
   ·have:=d.fit
    by_cases hn:T.w.items=[]
    ·show(4*(T.w.items.length+[i].length)+4096)*32<=_;rw[hn];simp
    ·have:=(this hn).1;show(4*(T.w.items.length+1)+4096)*32<=_;omega
   ·refine aD (cU (j:=8) h8 9 rfl (by simp) rfl λU h9=>?_)
    exact hQ K ⟨N,g.kC,g.bl,g.lb,g.lo⟩ o U ah (C.trans (J.trans q)) ⟨u.lb,u.lo,u.len,u.at_⟩ (show aA U (aC o::au It.fI 4 M [i]::cD K X ⟨N,g.kC,g.bl,g.lb,g.lo⟩ (T.hold i b) R) from h9).aq
  refine qb (λy H'=>y=(if b.isSome then T.first+T.w.blocks.length else 0)/\∃g o,Ext Y o/\g.kI=f.kI/\gJ o g ({T with w:={T.w with blocks:=T.w.blocks++b.toList}}:KM.St)/\aA H' (aC o::cD K X g ({T with w:={T.w with blocks:=T.w.blocks++b.toList}}:KM.St) R))
   (λy H' ⟨ey,g,o,q,ai,u,t⟩=>fin y g o H' q ai u t ey) λk' z=>?_
  cases ac:b with
  |none=>
   rw[ac] at z al
   have eT:({T with w:={T.w with blocks:=T.w.blocks++(none:Option Bs).toList}}:KM.St)=T:=by simp
   rw[eT] at z
   exact aF rfl (z _ _ ⟨rfl,f,Y,.refl _,rfl,m,V⟩)
  |some bs=>
   rw[ac] at z ad
   obtain⟨⟨aO,aL⟩,aB⟩:=an bs ac
   have ap:=aB.ext (C.trans J)
   have aJ:=d.GP
   have ax:mg Y X T.c:=by rw[hc];exact hX.ext (C.trans J)
   refine aW rfl (aD (aU (enc:=Sl.v) (x:=f.kC) V 8 rfl rfl ?_))
   refine Rw.kV V (ap.ext V.base) (by omega) λr P t=>iW t λo q hy t=>dc t 8 rfl rfl ?_
   refine F0 (enc:=Sl.v) (l:=[r]) t rfl rfl λaG H7 F=>dc F 9 rfl rfl ?_
   refine pe (l:=f.bl) (ys:=[r]) F 11 rfl (F.list (enc:=Sl.v) 1 rfl) (λ_=>rfl) rfl (by rw[m.len];simp;omega) λI H8 h8=>aD (cU (j:=9) h8 9 rfl (by simp) rfl λU h9=>aD ?_)
   have Z:aA U (aC o::cD K X ⟨f.kI,I,f.bl++[r],f.lb,f.lo⟩ ({T with w:={T.w with blocks:=T.w.blocks++[bs]}}:KM.St) R):=(show aA U (aC o::aS Sl.v aG [r]::cD K X ⟨f.kI,I,f.bl++[r],f.lb,f.lo⟩ ({T with w:={T.w with blocks:=T.w.blocks++[bs]}}:KM.St) R) from h9).aq
   have ao:ji (k+16) ({T with w:={T.w with blocks:=T.w.blocks++[bs]}}:KM.St):=⟨d.c,d.dk,d.len,d.im,d.tb,d.p1,d.p2,d.cZ,d.prev,d.ue⟩
   have v10:dX Sl.v U I (f.bl++[r]):=Z.get 10 rfl
   refine aU (enc:=Sl.v) (x:=I) Z 8 rfl rfl (Ee Z (ax.ext q) ao λaK aj=>dc aj 8 rfl rfl ?_)
   have ef:({T with w:={T.w with blocks:=T.w.blocks++[bs]}}:KM.St).first=T.first:=rfl
   have aN:0<=T.first/\T.first<=10000:=by
    have hs:=Sc.kX d.c d.p1
    have:=d.p2;have:=d.c.2.2.2.2;have:=qV d.c
    unfold KM.St.first KM.behind;omega
   rw[v10.list.bL,ef,List.length_append,m.len,List.length_singleton,cK (x:=T.first+((T.w.blocks.length+1:Nat):Int)) (by omega) (by omega),cK (x:=T.first+((T.w.blocks.length+1:Nat):Int)- 1) (by omega) (by omega)]
   refine z _ _ ⟨?_,⟨f.kI,I,f.bl++[r],f.lb,f.lo⟩,o,q,rfl,⟨m.lb.ext q,m.lo.ext q,?_,λi x b E G=>?_⟩,aj⟩
   ·show _=T.first+(T.w.blocks.length:Int);omega
   ·show(f.bl++[r]).length=(T.w.blocks++[bs]).length
    simp[m.len]
   ·have E:(f.bl++[r])[i]?=some x:=E
    have G:(T.w.blocks++[bs])[i]?=some b:=G
    by_cases ak:i<f.bl.length
    ·rw[List.getElem?_append_left ak] at E
     rw[List.getElem?_append_left (by rw[←m.len];exact ak)] at G
     exact(m.at_ i x b E G).ext q
    ·rw[List.getElem?_append_right (by omega)] at E
     rw[List.getElem?_append_right (by rw[←m.len];omega)] at G
     have e1:i-f.bl.length=0:=by
      have:=(List.getElem?_eq_some_iff.1 E).1;simp at this;omega
     rw[e1] at E
     rw[←m.len,e1] at G
     simp at E G;subst E;subst G
     exact hy
 ·have e:S.add i b sp=((S.room (if b.isSome then 1 else 0) sp).1,0,(S.room (if b.isSome then 1 else 0) sp).2):=by
   unfold KM.St.add;grind
  rw[e] at hQ
  exact aW (by grind) (hQ K f Y H5 ah (C.trans J) m V)
end
end So
end
section
namespace So
open Go Go.Kx KM Rw Ge Sc Rg Mo Ds Rc
section
variable {H B:PH} {L R:List Ob} {k n:Nat} {A:Ds.DA} {X:Ad} {W:Wt} {S:KM.St}
theorem uw (h:aA H (aC B::cD A X W S R)):aA H (aC B::(Ig.dO X.s0 X.t0 X.s1 X.t1 S.m++(Hy A X W S++R))):=h
theorem yg {Q:Option Addr->PH->Prop} (h:aA H (aC B::cD A X W S R)) (a:Q (some X.ia) H):kg (some X.sa) H Q:=aF rfl (aD (aU (x:=some X.ia) h 11 rfl rfl a))
theorem fx {Q:Option Addr->PH->Prop} (h:aA H (aC B::cD A X W S R)) (a:Q (some X.ta) H):kf (some X.sa) H Q:=aF rfl (aD (aU (x:=some X.ta) h 11 rfl rfl a))
theorem DZ {Q:Option Addr->PH->Prop} (h:aA H (aC B::cD A X W S R)) (a:Q (some X.da) H):oA (some X.sa) H Q:=aF rfl (aD (aU (x:=some X.da) h 11 rfl rfl a))
theorem IB {Q:Option Addr->PH->Prop} (h:aA H (aC B::cD A X W S R)) (a:Q X.g H):nv (some X.sa) H Q:=aF rfl (aD (aU (x:=X.g) h 11 rfl rfl a))
theorem AQ {b m:Int} {Q:Bool->PH->Prop} (h:aA H (aC B::cD A X W S R)) (d:mg B X S.c) (ok:ji k S) (hm:0<=m/\m<=1000) (a:Q (S.has b m) H):mO (some X.sa) b m H Q:=by
 have f:=ok.im.uD
 refine yg h (Ig.nR (n:=S.c.1.toNat) (d.im.ext h.base) (Ig.DU (uw h) ok.im) ?_)
 have e:S.has b m=(((decide (1<=m)&&decide (m<=(S.c.1.toNat:Int)))&&decide (0<=b))&&decide (b<=(S.c.1.toNat:Int)-m)):=by
  rw[KM.St.has,Im.has,ok.im.n0];grind
 rw[e] at a
 rw[cK (x:=(S.c.1.toNat:Int)-m) (by omega) (by omega)]
 exact dR (λk=>k) (dR (λk=>k) (dR (λk=>k) a))
theorem ve {mode:Int} {may:Bool} {Q:Int->PH->Prop} (h:aA H (aC B::cD A X W S R)) (d:A.a=X.da) (c:Q (S.asks mode may) H):ir (some X.sa) mode may H Q:=by
 refine aF rfl (dR (b:=S.n.mode != mode) (λkk=>aD (dD (x:=S.n.mode) h 11 rfl rfl kk)) ?_)
 unfold KM.St.asks at c
 refine aM (λc1=>?_) (λc1=>?_)
 ·grind
 ·rw[if_neg (by simpa using c1)] at c
  refine aM (λc2=>?_) (λc2=>aD (aU (x:=some X.da) h 11 rfl rfl ?_))
  ·grind
  ·rw[if_neg (by rw[c2];simp)] at c
   rw[←d]
   refine CL (i:=4) h rfl (aM (λc3=>?_) (λc3=>?_))
   ·grind
   grind
theorem qX (a:S.d.off=false) {mode:Int} {may:Bool} (hm:mode=0∨S.n.mode=mode) (b:may=true):S.asks mode may=0:=by
 unfold KM.St.asks
 grind
theorem bB.live (h:bB k S) (at':Int) (l:List Int):bB k (S.live at' l):=⟨⟨h.c,h.dk,h.len,h.im,((h.tb.O3 S.c at' 1).gone S.c l),h.p1,h.p2,h.cZ,h.prev,h.ue⟩,h.lt,h.it,h.bl,h.xy,h.fit⟩
theorem vd {at':Int} {p:Sl} {l:List Int} {Q:PH->Prop} (h:aA H (aC B::cD A X W S R)) (b:mg B X S.c) (ok:ji k S) (m:gR B p l) (z:l.length< 2 ^ 20)
 (w:∀H',aA H' (aC B::cD A X W (S.live at' l) R)->Q H'):jt (some X.sa) at' p H Q:=by
 have C:=ok.tb.v
 have j:=ok.c.2.2.1
 refine aD (aU (x:=some X.ta) h 11 rfl rfl (Us.DS h (b.ta.ext h.base) (b.g.ext h.base) ok.c 7 rfl (by omega) ok.tb.vr (by decide) λH1 f=>?_))
 have f:aA H1 (aC B::cD A X W ({S with t:={S.t with v:=gX S.c S.t.v at' 1}}:KM.St) R):=f
 refine av l.length (λi s r=>s=(i:Int)/\aA r (aC B::cD A X W ({S with t:={S.t with v:=lZ S.c (gX S.c S.t.v at' 1) (l.take i)}}:KM.St) R)) ⟨rfl,f⟩ ?_
 rintro i s q again hi ⟨rfl,a⟩ d
 rw[m.bL]
 have tb:=(ok.tb.O3 S.c at' 1).gone S.c (l.take i)
 refine aM (λc1=>?_) (λc1=>?_)
 ·have e:i<l.length:=by grind
  refine aE (dm (m.ext a.base) (by omega) (by omega) λx o=>?_)
  rw[Int.toNat_natCast] at o
  have u:lZ S.c (gX S.c S.t.v at' 1) (l.take (i+1))=if 0<x then gX S.c (lZ S.c (gX S.c S.t.v at' 1) (l.take i)) x (-1) else lZ S.c (gX S.c S.t.v at' 1) (l.take i):=by
   rw[It.gk o];simp[lZ]
  rw[bK (by omega)]
  refine aM (λc2=>?_) (λc2=>d e _ _ ⟨rfl,?_⟩)
  ·refine aD (aU (x:=some X.ta) a 11 rfl rfl (Us.DS a (b.ta.ext a.base) (b.g.ext a.base) ok.c 7 rfl (by have:=tb.v;grind) tb.vr (by decide) λy j=>d e _ _ ⟨rfl,?_⟩))
   rw[u,if_pos (by simpa using c2)]
   exact j
  grind
 ·have:i=l.length:=by grind
  subst this
  rw[List.take_length] at a
  exact w q a
end
end So
end
section
namespace So
open Go Go.Kx KM Rw Ge Sc Rg Mo Ds Rc
section
variable {H B:PH} {L R:List Ob} {k n:Nat} {A:Ds.DA} {X:Ad} {W:Wt} {S:KM.St}
theorem gJ.of {B:PH} {W:Wt} {S T:KM.St} (h:gJ B W S) (e1:T.n.lb=S.n.lb) (e2:T.n.lo=S.n.lo) (e3:T.w.blocks=S.w.blocks):gJ B W T:=⟨by rw[e1];exact h.lb,by rw[e2];exact h.lo,by rw[e3];exact h.len,λi x b a c=>h.at_ i x b a (by grind)⟩
theorem bB.same (h:bB k S) {T:KM.St} (a:T.c=S.c) (hd:T.d=S.d) (b:T.t=S.t) (hw:T.w=S.w) (hm:Ig.dN S.c.1.toNat T.m):bB k T:=by
 refine⟨⟨?_,?_,?_,?_,?_,?_,?_,?_,?_,?_⟩,?_,?_,?_,?_,?_⟩
 ·rw[a];exact h.c
 ·rw[hd];exact h.dk
 ·rw[a,hd];exact h.len
 ·grind
 ·rw[a,b];exact h.tb
 ·rw[a,hw];exact h.p1
 ·rw[a,hw];exact h.p2
 ·rw[hw];exact h.cZ
 ·rw[hw];exact h.prev
 ·rw[hw];exact h.ue
 ·rw[a,hw];exact h.lt
 ·rw[hw];exact h.it
 ·rw[hw];exact h.bl
 ·rw[hw];exact h.xy
 ·rw[a,hw];exact h.fit
structure AddP (k:Nat) (S:KM.St) (T:KM.St):Prop where
 ok:bB (k+16) T
 c:T.c=S.c
 n:T.n=S.n
 m:T.m=S.m
 len:T.d.now.length=S.d.now.length
theorem qY (h:bB k S) (hk:k+40< 2 ^ 28) {i:eG} {b:Option Bs} {sp:Bool} (hi:cB i=true) (j:b.isSome=bM i) (f:∀x,b=some x->x.length=64/\bP x):AddP k S (S.add i b sp).1/\((S.add i b sp).2.2=0->b.isSome=true->1<=(S.add i b sp).2.1/\(S.add i b sp).2.1<=4095):=by
 have d:(if b.isSome then(1:Int) else 0)=0∨(if b.isSome then(1:Int) else 0)=1:=by omega
 have a:=BP h hk d sp
 by_cases he:(S.room (if b.isSome then 1 else 0) sp).2=0
 ·have e:S.add i b sp=((S.room (if b.isSome then 1 else 0) sp).1.hold i b,if b.isSome then(S.room (if b.isSome then 1 else 0) sp).1.first+(S.room (if b.isSome then 1 else 0) sp).1.w.blocks.length else 0,0):=by
   unfold KM.St.add;grind
  have hf:=a.fits he
  rw[e]
  obtain⟨o1,o2,o3,l,o,_⟩:=a
  generalize(S.room (if b.isSome then 1 else 0) sp).1=T at*
  refine⟨⟨o1.hold hi j f hf,o2,o3,l,o⟩,λ_ g=>?_⟩
  have p:=Sc.kX o1.c o1.p1
  have:=o1.p2;have:=o1.c.2.2.2.2;have:=qV o1.c;have:=o1.GP
  show 1<=(if b.isSome then T.first+T.w.blocks.length else 0)/\(if b.isSome then T.first+T.w.blocks.length else 0)<=4095
  rw[if_pos g]
  unfold KM.St.first KM.behind;omega
 ·have e:S.add i b sp=((S.room (if b.isSome then 1 else 0) sp).1,0,(S.room (if b.isSome then 1 else 0) sp).2):=by
   unfold KM.St.add;grind
  rw[e]
  exact⟨⟨a.ok,a.c,a.n,a.m,a.len⟩,by grind⟩
theorem uf (ok:ji k S) {b m:Int} (h:S.has b m=true):0<=b/\b+m<=S.c.1.toNat/\1<=m:=by
 rw[KM.St.has,Im.has,ok.im.n0] at h
 grind
theorem GY (ok:bB k S) (hk:k+40< 2 ^ 28) {b:Int} {data:Bs} (hm:S.n.mode=1) (h:S.has b 1=true) (hd:data.length=64) (j:bP data) (he:(S.add (1,b,0,0) (some data) false).2.2=0) (hi:cB (1,b,0,0)=true):
 S.lay true b data=(({(S.add (1,b,0,0) (some data) false).1 with n:={S.n with seq:=S.n.seq+1},m:=S.m.put true b (S.add (1,b,0,0) (some data) false).2.1}:KM.St).live (S.add (1,b,0,0) (some data) false).2.1 [gone (bT S.m.l1 b) (S.add (1,b,0,0) (some data) false).2.1],0):=by
 have i:bM (1,b,0,0)=true:=by rw[bM,hi];rfl
 obtain⟨P,c⟩:=qY (sp:=false) ok hk hi (b:=some data) (by rw[i];rfl) (by grind)
 have f:=qX ok.dk.off (S:=S) (mode:=1) (may:=S.has b 1&&data.length==64) (.inr hm) (by grind)
 unfold KM.St.lay
 simp only[if_true]
 rw[f,if_neg (by simp),if_neg (by rw[he];simp)]
 have c:=c he rfl
 have l:=uf ok.toji h
 have d:∀(T:KM.St) (a:Int),T.m=S.m->1<=a/\a<=4095->T.m.lay true b a=S.m.put true b a:=λT a e f=>by
  rw[e,Im.lay,if_pos]
  rw[Im.has,ok.im.n0]
  simp only[bN,Bool.and_eq_true,decide_eq_true_eq];omega
 rw[d _ _ P.m c]
 have g:((S.add (1,b,0,0) (some data) false).1.m.cP true)=S.m.l1:=by rw[P.m];rfl
 rw[g,P.n]
theorem Rb (ok:bB k S) (hk:k+40< 2 ^ 28) {b:Int} {data:Bs} (hm:S.n.mode=1) (f:S.has b 1=true) (hd:data.length=64) (a:bP data) (he:(S.add (1,b,0,0) (some data) false).2.2=0) (hi:cB (1,b,0,0)=true):
 bB (k+16) (S.lay true b data).1/\(S.lay true b data).1.c=S.c/\(S.lay true b data).1.d.now.length=S.d.now.length/\(S.lay true b data).1.n={S.n with seq:=S.n.seq+1}/\(S.lay true b data).2=0:=by
 rw[GY ok hk hm f hd a he hi]
 have g:bM (1,b,0,0)=true:=by rw[bM,hi];rfl
 obtain⟨P,i⟩:=qY (sp:=false) ok hk hi (b:=some data) (by rw[g];rfl) (by grind)
 obtain⟨o1,o2,o3,h,e⟩:=P
 generalize(S.add (1,b,0,0) (some data) false).2.1=at'
 generalize(S.add (1,b,0,0) (some data) false).1=T at o1 o2 o3 h e
 refine⟨bB.live (S:=({T with n:={S.n with seq:=S.n.seq+1},m:=S.m.put true b at'}:KM.St)) (o1.same rfl rfl rfl rfl ?_) _ _,o2,e,rfl,rfl⟩
 rw[o2];exact ok.im.put true b at'
theorem MF {b:Int} {data:Bs} {p:Sl} {Q:Int->PH->Prop} (h:aA H (aC B::cD A X W S R)) (J:A.a=X.da) (s:mg B X S.c) (hW:gJ B W S) (ok:bB k S) (hk:k+40< 2 ^ 28)
 (hm:S.n.mode=1) (z:S.has b 1=true) (N:Bytes B p data) (hd:data.length=64) (K:bP data) (he:(S.add (1,b,0,0) (some data) false).2.2=0) (hi:cB (1,b,0,0)=true) (ab:0<=S.n.seq/\S.n.seq< 2 ^ 40)
 (r:∀C F v H',C.a=X.da->Ext B v->gJ v F (S.lay true b data).1->aA H' (aC v::cD C X F (S.lay true b data).1 R)->Q 0 H'):py (some X.sa) b p H Q:=by
 have M:bM (1,b,0,0)=true:=by rw[bM,hi];rfl
 obtain⟨P,f⟩:=qY (sp:=false) ok hk hi (b:=some data) (by rw[M];rfl) (by grind)
 have f:=f he rfl
 have aa:=uf ok.toji z
 rw[GY ok hk hm z hd K he hi] at r
 refine AQ h s ok.toji (by omega) ?_
 rw[z]
 refine aE (aW rfl ?_)
 rw[N.bL,hd]
 refine ve h J ?_
 rw[qX (mode:=1) (may:=(((64:Nat):Int)==64)) ok.dk.off (.inr hm) rfl]
 refine aF rfl (aD (aU (x:=some X.wa) h 11 rfl rfl ?_))
 refine zW (i:=(1,b,0,0)) (b:=some data) h J s hW ok hk hi (by simp) (by rw[M];rfl) (by rw[N.bL,hd];rfl) (by grind) λu d D H1 G o t w=>?_
 rw[he]
 obtain⟨o1,o2,o3,j,o5⟩:=P
 generalize(S.add (1,b,0,0) (some data) false).2.1=at' at f r ⊢
 generalize(S.add (1,b,0,0) (some data) false).1=T at w t o1 o2 o3 j o5 r
 refine aF rfl (aD (dD (x:=T.n.seq) w 11 rfl rfl (aD ?_)))
 rw[o3,cK (x:=S.n.seq+1) (by omega) (by omega)]
 refine kH (yO (some X.da) X.g (some X.ta) (some X.ia) (some X.wa) (BO ({T with n:={S.n with seq:=S.n.seq+1}}:KM.St)) T.n.slot d.lb d.lo) w 11 rfl (by simp) rfl (by simp_all) λV e=>?_
 have e:aA V (aC D::cD u X d ({T with n:={S.n with seq:=S.n.seq+1}}:KM.St) R):=by rw[o3] at e;exact e
 refine aD (aU (x:=some X.ia) e 11 rfl rfl ?_)
 have O:Ig.dN S.c.1.toNat T.m:=by rw[j];exact ok.im
 refine Ig.hZ (uw e) (s.im.ext o) O (by omega) (by grind) λY y=>?_
 have y:aA Y (aC D::cD u X d ({T with n:={S.n with seq:=S.n.seq+1},m:=T.m.put true b at'}:KM.St) R):=y
 refine rY (enc:=i64) (l:=[gone (bT (T.m.cP true) b) at']) y rfl rfl λac E H4 q hr h4=>?_
 have U:ji (k+16) ({T with n:={S.n with seq:=S.n.seq+1},m:=T.m.put true b at'}:KM.St):=(o1.same (T:=({T with n:={S.n with seq:=S.n.seq+1},m:=T.m.put true b at'}:KM.St)) rfl rfl rfl rfl (by rw[o2,j];exact ok.im.put true b at')).toji
 refine vd h4 (by show mg E X T.c;rw[o2];exact s.ext (o.trans q)) U hr (by simp) λZ I=>?_
 have et:T.m.cP true=S.m.l1:=by rw[j];rfl
 rw[et,j] at I
 exact r u d E Z G (o.trans q) ((t.ext q).of (by show S.n.lb=_;rw[o3]) (by show S.n.lo=_;rw[o3]) rfl) I
end
end So
end
section
namespace So
open Go Go.Kx KM Rw Ge Sc Rg Mo Ds Rc
section
variable {H B:PH} {L R:List Ob} {k n:Nat} {A:Ds.DA} {X:Ad} {W:Wt} {S:KM.St}
theorem bB.flush (h:bB k S):bB (k+1) ({S with d:=S.d.flush}:KM.St):=by
 refine⟨⟨h.c,h.dk.flush,?_,h.im,h.tb,h.p1,h.p2,⟨h.cZ.1,?_⟩,h.prev,h.ue⟩,h.lt,h.it,h.bl,h.xy,h.fit⟩
 ·show _<=(S.d.flush.now.length:Int)
  rw[iz h.dk];exact h.len
 ·have:=h.cZ.2;grind
theorem FF (h:bB k S) (hk:k+1< 2 ^ 28):bB (k+9) S.ic/\S.ic.c=S.c/\S.ic.n=S.n/\S.ic.m=S.m/\S.ic.d.now.length=S.d.now.length/\S.ic.w.items=[]/\S.ic.w.blocks=[]:=by
 obtain⟨e1,e2,e3,e4,e5,a,b,_⟩:=h.emit hk
 unfold KM.St.ic
 exact⟨e1.flush,e4,e5,a,(iz e1.dk).trans b,e2,e3⟩
theorem O4 {Q:Int->PH->Prop} (h:aA H (aC B::cD A X W S R)) (s:A.a=X.da) (v:mg B X S.c) (u:gJ B W S) (ok:bB k S) (hk:k+10< 2 ^ 28)
 (t:∀e f d H',e.a=X.da->Ext B d->gJ d f S.ic->aA H' (aC d::cD e X f S.ic R)->Q 0 H'):pz (some X.sa) H Q:=by
 obtain⟨e1,e2,e3,e4,e5,z,C,_⟩:=ok.emit (by omega)
 refine aD (aU (x:=some X.wa) h 11 rfl rfl (AP h s v u ok (by omega) λy q o H1 g l b j=>aF rfl (aD (aU (x:=some X.da) j 11 rfl rfl ?_))))
 rw[←g]
 refine BK (i:=4) j rfl e1.dk (by omega) λm p w r=>?_
 exact t m q o p (by grind) l ⟨b.lb,b.lo,b.len,b.at_⟩ r
theorem BQ (ok:bB k S) {ep:Int} (hm:S.n.mode=1) (a:ep=S.n.aQ+1) (he:(S.add (3,0,0,ep) none false).2.2=0):
 S.mark ep=(({(S.add (3,0,0,ep) none false).1.ic with n:={(S.add (3,0,0,ep) none false).1.ic.n with aQ:=ep,seq:=(S.add (3,0,0,ep) none false).1.ic.n.seq+1,done:=(S.add (3,0,0,ep) none false).1.ic.n.seq+1},m:=(S.add (3,0,0,ep) none false).1.ic.m.fS.1}:KM.St).live 0 (S.add (3,0,0,ep) none false).1.ic.m.fS.2,0):=by
 have b:=qX ok.dk.off (S:=S) (mode:=1) (may:=ep==S.n.aQ+1) (.inr hm) (by simp[a])
 unfold KM.St.mark
 grind
theorem Ki {ep:Int} (h:1<=ep/\ep<=2147483647):cB (3,0,0,ep)=true/\bM (3,0,0,ep)=false:=by
 have e:cB (3,0,0,ep)=true:=by simp[cB,bN];omega
 exact⟨e,by rw[bM,e];rfl⟩
theorem Nc (ok:bB k S) (hk:k+60< 2 ^ 28) {ep:Int} (hm:S.n.mode=1) (a:ep=S.n.aQ+1) (j:1<=ep/\ep<=2147483647) (he:(S.add (3,0,0,ep) none false).2.2=0):
 bB (k+26) (S.mark ep).1/\(S.mark ep).1.c=S.c/\(S.mark ep).1.d.now.length=S.d.now.length/\(S.mark ep).1.n={S.n with aQ:=ep,seq:=S.n.seq+1,done:=S.n.seq+1}/\(S.mark ep).2=0/\(S.mark ep).1.w.items=[]:=by
 rw[BQ ok hm a he]
 obtain⟨hi,i⟩:=Ki j
 obtain⟨P,_⟩:=qY (sp:=false) ok (by omega) hi (b:=none) (by rw[i];rfl) (by simp)
 obtain⟨o1,o2,o3,p,h⟩:=P
 generalize(S.add (3,0,0,ep) none false).1=T at o1 o2 o3 p h
 obtain⟨l1,l2,e,l,f,g,o⟩:=FF o1 (by omega)
 generalize T.ic=U at l1 l2 e l f g o
 have en:U.n=S.n:=e.trans o3
 refine⟨(bB.live (S:=({U with n:={U.n with aQ:=ep,seq:=U.n.seq+1,done:=U.n.seq+1},m:=U.m.fS.1}:KM.St)) (l1.same rfl rfl rfl rfl ?_) _ _).mono (by omega),l2.trans o2,f.trans h,?_,rfl,g⟩
 ·show Ig.dN _ (gD U.m U.m.l1.length).1
  exact(Ig.AL l1.im _).1
 ·show({U.n with aQ:=ep,seq:=U.n.seq+1,done:=U.n.seq+1}:Sn)=_
  rw[en]
theorem O5 {ep:Int} {Q:Int->PH->Prop} (h:aA H (aC B::cD A X W S R)) (J:A.a=X.da) (o:mg B X S.c) (hW:gJ B W S) (ok:bB k S) (hk:k+60< 2 ^ 28)
 (hm:S.n.mode=1) (s:ep=S.n.aQ+1) (hr:1<=ep/\ep<=2147483647) (he:(S.add (3,0,0,ep) none false).2.2=0) (aa:0<=S.n.seq/\S.n.seq< 2 ^ 40)
 (l:∀C D v H',C.a=X.da->Ext B v->gJ v D (S.mark ep).1->aA H' (aC v::cD C X D (S.mark ep).1 R)->Q 0 H'):rC (some X.sa) ep H Q:=by
 rw[BQ ok hm s he] at l
 obtain⟨hi,M⟩:=Ki hr
 obtain⟨P,_⟩:=qY (sp:=false) ok (by omega) hi (b:=none) (by rw[M];rfl) (by simp)
 refine aE (aW rfl (aD (dD (x:=S.n.aQ) h 11 rfl rfl ?_)))
 rw[cK (x:=S.n.aQ+1) (by omega) (by omega),show(ep==S.n.aQ+1)=true by simp[s]]
 refine ve h J ?_
 rw[qX (mode:=1) ok.dk.off (.inr hm) rfl]
 refine aF rfl (aD (aU (x:=some X.wa) h 11 rfl rfl ?_))
 refine zW (i:=(3,0,0,ep)) (b:=none) h J o hW ok (by omega) hi (by simp) (by rw[M];rfl) rfl (λx hx=>by cases hx) λA1 W1 Y H1 E t p G=>?_
 rw[he]
 obtain⟨o1,o2,o3,o4,o5⟩:=P
 generalize(S.add (3,0,0,ep) none false).2.1=at'
 generalize(S.add (3,0,0,ep) none false).1=T at G p o1 o2 o3 o4 o5 l
 have K:mg Y X T.c:=by rw[o2];exact o.ext t
 refine aF rfl (O4 G E K p o1 (by omega) λu d Z H2 F V r y=>aF rfl ?_)
 obtain⟨l1,l2,O,l4,l5,l6,l7⟩:=FF o1 (by omega)
 generalize T.ic=U at y r l1 l2 O l4 l5 l6 l7 l
 have en:U.n=S.n:=O.trans o3
 refine aD (dD (x:=U.n.seq) y 11 rfl rfl (aD ?_))
 rw[show U.n.seq=S.n.seq by rw[en],cK (x:=S.n.seq+1) (by omega) (by omega),show S.n.seq=U.n.seq by rw[en]]
 refine kH (yO (some X.da) X.g (some X.ta) (some X.ia) (some X.wa) (BO ({U with n:={U.n with aQ:=ep}}:KM.St)) U.n.slot d.lb d.lo) y 11 rfl (by simp) rfl rfl λH3 h3=>aD ?_
 refine kH (yO (some X.da) X.g (some X.ta) (some X.ia) (some X.wa) (BO ({U with n:={U.n with aQ:=ep,seq:=U.n.seq+1}}:KM.St)) U.n.slot d.lb d.lo) h3 11 rfl (by simp) rfl rfl λH4 I=>aD ?_
 refine dD (x:=U.n.seq+1) I 11 rfl rfl (aD ?_)
 refine kH (yO (some X.da) X.g (some X.ta) (some X.ia) (some X.wa) (BO ({U with n:={U.n with aQ:=ep,seq:=U.n.seq+1,done:=U.n.seq+1}}:KM.St)) U.n.slot d.lb d.lo) I 11 rfl (by simp) rfl rfl λH5 f=>?_
 have f:aA H5 (aC Z::cD u X d ({U with n:={U.n with aQ:=ep,seq:=U.n.seq+1,done:=U.n.seq+1}}:KM.St) R):=f
 refine aD (aU (x:=some X.ia) f 11 rfl rfl ?_)
 have z:=t.trans V
 refine Ig.Ec (uw f) (o.im.ext z) l1.im λH6 q h6=>?_
 obtain⟨w,e,N,j⟩:=h6.wh.fz
 have e1:U.m.fS=gD U.m U.c.1.toNat:=by show gD U.m U.m.l1.length=_;rw[l1.im.n1]
 rw[←e1] at j N
 have j:aA H6 (aC w::cD u X d ({U with n:={U.n with aQ:=ep,seq:=U.n.seq+1,done:=U.n.seq+1},m:=U.m.fS.1}:KM.St) R):=j
 have AH:ji (k+25) ({U with n:={U.n with aQ:=ep,seq:=U.n.seq+1,done:=U.n.seq+1},m:=U.m.fS.1}:KM.St):=(l1.same (T:=({U with n:={U.n with aQ:=ep,seq:=U.n.seq+1,done:=U.n.seq+1},m:=U.m.fS.1}:KM.St)) rfl rfl rfl rfl (by rw[e1];exact(Ig.AL l1.im _).1)).toji
 have hlen:U.m.fS.2.length< 2 ^ 20:=by
  rw[e1]
  have:=(Ig.AL l1.im U.c.1.toNat).2;have:=l1.im.uD;omega
 refine vd j (by show mg w X U.c;rw[l2,o2];exact o.ext (z.trans e)) AH (dX.list N) hlen λH8 h8=>?_
 exact l u d w H8 F (z.trans e) ((r.ext e).of rfl rfl rfl) h8
end
end So
end
section
namespace So
open Go Go.Kx KM Rw Ge Sc Rg Mo Ds Rc
section
variable {H B:PH} {L R:List Ob} {k n:Nat} {A:Ds.DA} {X:Ad} {W:Wt} {S:KM.St}
theorem kJ {Q:AM->PH->Prop} (h:aA H (aC B::cD A X W S R)) (v:mg B X S.c) (ok:ji k S) (O:∀u H',Ext B u->aA H' (aC u::cD A X W S R)->Q S.status H'):eI (some X.sa) H Q:=by
 have hN:=ok.tb.l
 have T:=ok.c.2.2.2.1
 have hn:=ok.im.uD
 refine bG h λa1 H1 z=>aF rfl (aD (pI (en:=cr) (x:=BO S) z 12 rfl (by simp) rfl (bG z λa Y F=>cF (vs:=cr (BO S)) F rfl rfl λw b=>?_)))
 have b:aA w (aC B::aJ a (cr (BO S))::aJ a1 (cr m8)::cD A X W S R):=b
 refine aD (aU (x:=some X.ta) b 13 rfl rfl (aD (aU (x:=some X.ia) b 13 rfl rfl ?_)))
 refine Us.free_spec (v.ta.ext b.base) ((b.get 8 rfl:bj Us.bf 2 w X.s S.t.l).lX Us.nL) (by omega) λD C=>dc (b.ext C) 13 rfl rfl ?_
 have G:=b.ext C
 have p:aA D (aC B::cD A X W S (aJ a (cr (BO S))::aJ a1 (cr m8)::R)):=G.Yr
 refine Ig.RQ (uw p) (v.im) ok.im λZ P=>?_
 have I:=p.ext P
 refine cU (j:=7) I 12 rfl (by simp) rfl λH6 J=>cU (j:=9) J 12 rfl (by simp) rfl λE i=>?_
 have i:aA E (aC B::cD A X W S (aJ a (cr (S.n.mode,S.n.view,S.n.aQ,S.n.seq,S.n.done,S.n.aN,S.n.gen,cG S.t.l,0,wJ S.m.l1))::aJ a1 (cr m8)::R)):=i
 refine aD (aU (x:=some X.ia) i 11 rfl rfl (Ig.NY i λc0 V H8 q rc M=>?_))
 refine vU c0 _ _ _ _ λyv=>Ig.GU (λpre _ u N=>N=Hy A X W S++(aJ a (cr (S.n.mode,S.n.view,S.n.aQ,S.n.seq,S.n.done,S.n.aN,S.n.gen,cG S.t.l,pre.length,wJ S.m.l1))::aJ a1 (cr m8)::R))
  (uw M) (v.im.ext q) ok.im rc (by simp) rfl ?_ ?_
 ·rintro pre x _ g N y K U r rfl d o
  refine⟨x.1,x.2,rfl,aU (x:=(pre.length:Int)) d 12 rfl rfl ?_⟩
  rw[cK (x:=(pre.length:Int)+1) (by omega) (by omega)]
  refine cU (j:=8) d 12 rfl (by simp) rfl λe f=>o () g _ e (.refl _) rfl ?_
  rw[List.length_append,List.length_singleton]
  exact f
 ·rintro _ g N y r rfl d
  have d:aA y (aC g::cD A X W S (aJ a (cr S.status)::aJ a1 (cr m8)::R)):=d
  refine cE (x:=S.status) d 12 rfl rfl rfl (fb (vs:=cr S.status) d 13 rfl rfl rfl λe f=>cE (x:=S.status) f 13 rfl rfl rfl ?_)
  exact O g e (q.trans r) (show aA e (aC g::(oX A X W S++aJ a (cr S.status)::aJ a1 (cr S.status)::R)) from f).kG.kG
end
end So
end
end Go.Proofs.YtigjebgjphmkoaaGreat
section
namespace KM
def kZ (c:ax) (aG:Bool) (l:List Int) (d:List Bool) (r:Dk×List Int) (k:Int):Dk×List Int:=(r.1.put (cw c aG k (1-bg 0 r.2 k)) (oT (bt l 15 d k)),r.2.set k.toNat (1-bg 0 r.2 k))
theorem vf (c:ax) (aG:Bool) (l:List Int) (d:List Bool):∀(a:List Int) (r:Dk×List Int),Ft c aG l d a r=a.foldl (kZ c aG l d) r
 |[],r=>rfl
 |k::a,r=>by rw[Ft,vf c aG l d a,List.foldl_cons];rfl
end KM
namespace Go.Proofs.YtigjebgjphmkoaaGreat
open Tryz
namespace So
open Go Go.Kx KM Rw Ge Sc Rg Mo Ds Rc
section
variable {H B:PH} {L R:List Ob} {k n:Nat} {A:Ds.DA} {X:Ad} {W:Wt} {S:KM.St}
structure iF (c:ax) (l:List Int):Prop where
 len:(l.length:Int)=bc c
 r:∀x∈l,0<=x/\x<=1
theorem iF.cR {c:ax} {l:List Int} (h:iF c l) {k:Int}:iF c (l.set k.toNat (1-bg 0 l k)):=by
 refine⟨by rw[List.length_set];exact h.len,λx a=>?_⟩
 rcases List.mem_or_eq_of_mem_set a with a|a
 ·exact h.r x a
 ·have:0<=bg 0 l k/\bg 0 l k<=1:=by
   unfold bg
   split
   ·rw[List.getD]
    cases b:l[k.toNat]? with
    |none=>simp
    |some y=>exact h.r y (by grind)
   ·omega
  omega
def yB (M:Im):Prop:=(∀x∈M.l0,-1<=x/\x<=4095)/\∀x∈M.l1,-1<=x/\x<=4095
theorem w7 {M:Im} (h:yB M) (aG:Bool) (k:Int):gx (bt (M.cP aG) 15 (M.bR aG) k)=true:=by
 have b:(bt (M.cP aG) 15 (M.bR aG) k).length<=15:=by unfold bt;grind
 simp only[gx,Bool.and_eq_true,decide_eq_true_eq,List.all_eq_true,KM.bD]
 refine⟨b,λx a=>?_⟩
 unfold bt at a
 split at a
 ·have a:=List.mem_of_mem_drop (List.mem_of_mem_take a)
  cases aG
  ·exact h.1 x a
  ·exact h.2 x a
 ·cases a
structure zk (k:Nat) (S:KM.St) (i:Nat) (r:Dk×List Int):Prop where
 ok:bu (k+i) r.1
 len:r.1.now.length=S.d.now.length
 sl:iF S.c r.2
theorem w8 (ok:ji k S) {aG:Bool} {i:Nat} {r:Dk×List Int} (P:zk k S i r) (hi:(i:Int)<bc S.c) (e:yB S.m):zk k S (i+1) (kZ S.c aG (S.m.cP aG) (S.m.bR aG) r i)/\(bg 0 r.2 i=0∨bg 0 r.2 i=1)/\(0<=cw S.c aG i (1-bg 0 r.2 i)/\cw S.c aG i (1-bg 0 r.2 i)<r.1.now.length):=by
 have d:bg 0 r.2 (i:Int)=0∨bg 0 r.2 (i:Int)=1:=by
  have f:i<r.2.length:=by have:=P.sl.len;omega
  rw[Us.kB (x:=r.2[i]) (by omega) (by simp)]
  have:=P.sl.r r.2[i] (by simp);omega
 have a:=Ka (at':=0) (aG:=aG) (i:=i) (x:=1-bg 0 r.2 (i:Int)) P.ok ok.c (by rw[P.len];exact ok.len) hi (by omega)
 have hm:=w7 e aG (i:Int)
 have b:(bt (S.m.cP aG) 15 (S.m.bR aG) (i:Int)).length<=15:=by
  simp only[gx,Bool.and_eq_true,decide_eq_true_eq] at hm;exact hm.1
 exact⟨⟨P.ok.put a (Pa.len b) Pa.uY,(nY P.ok a (Pa.len b)).trans P.len,P.sl.cR⟩,d,a⟩
theorem fc {aG:Bool} {Q:Sl->Int->PH->Prop} (h:aA H (aC B::cD A X W S R)) (hA:A.a=X.da) (hX:mg B X S.c) (hW:gJ B W S) (ok:ji k S) (hk:k+10< 2 ^ 28) (hr:yB S.m) (an:iF S.c S.n.lb) (ao:iF S.c S.n.lo)
 (hQ:∀o q j H',o.a=X.da->Ext B j->gR j q (S.bV aG).2->zk k S 5 (S.bV aG)->aA H' (aC j::cD o X W ({S with d:=(S.bV aG).1}:KM.St) R)->Q q 0 H'):pw (some X.sa) aG H Q:=by
 have bv:=gI ok.c
 have bs:=ok.c.1
 have bu:((S.m.bR aG).length:Int)=bc S.c:=by
  have h1:=(ok.im.bR aG).d
  have h2:=ok.im.cP aG
  rw[h2] at h1
  have:((nP S.c.1.toNat 15:Int))=bc S.c:=by simp only[nP,bc];omega
  omega
 refine gN h λa1 B1 H1 bp r1 h1=>gN h1 λa4 D H2 aw r4 h2=>bG h2 λw H3 h3=>bG h3.ua λe H4 h4=>?_
 have h4:aA H4 (aC D::cD A X W S (aJ e [i64 0]::aJ w [Sl.v Sl.nil]::R)):=h4.ua
 have af:=bp.trans aw
 have F:∀{j H'},Ext D j->Ext j H'->aa H' a1 [.pointer (some X.sa)]:=λx y=>((r1.ext aw).ext x).ext y
 have V:∀{j H'},Ext D j->Ext j H'->aa H' a4 [.bool aG]:=λx y=>(r4.ext x).ext y
 have bi:∀(Q2:Addr->PH->Prop),(∀b q B5 H5,Ext D B5->aA H5 (aC B5::aS i64 q (if aG then S.n.lo else S.n.lb)::cD A X W S (aJ b [Sl.v q]::aJ e [i64 0]::aJ w [Sl.v Sl.nil]::R))->Q2 b H5)->
  aH .pointer H4 a1 λbl=>aP bl λa6=>iH 2 (a6.add 16) 1 0 λa8=>aH Sl.v H4 a8 λbm=>df bm H4 λbq a2=>aj a2 (row [.slice none 0 0] 36) λb a3=>aV a3 b [Sl.v bq] λG=>
   aH .bool G a4 λbn=>aO (λ(bw:Unit) (a5:PH)=>Q2 b a5) λap=>aL bn (aH .pointer G a1 λaW=>aP aW λaI=>iH 2 (aI.add 16) 1 1 λaK=>aH Sl.v G aK λaX=>df aX G λaY ay=>aV ay b [Sl.v aY] λaB=>ap () aB) (ap () G):=λQ2 al=>by
  refine az (x:=some X.sa) (F (.refl _) h4.base) (aD ⟨_,⟨by omega,by omega,rfl⟩,?_⟩)
  refine dD (enc:=Sl.v) (x:=W.lb) h4 11 rfl rfl (xU ((hW.lb.ext af).ext h4.base) (by have:=an.len;omega) λq H5 ba=>?_)
  have N:=h4.made ba
  refine bG N λb H6 h6=>jF h6 1 rfl rfl λH7 C=>?_
  have C:aA H7 (aC D::aJ b [Sl.v q]::aS i64 q S.n.lb::cD A X W S (aJ e [i64 0]::aJ w [Sl.v Sl.nil]::R)):=C
  refine az (en:=.bool) (x:=aG) (V (.refl _) C.base) (aE (aM (λc=>?_) (λc=>?_)))
  ·refine az (x:=some X.sa) (F (.refl _) C.base) (aD ⟨_,⟨by omega,by omega,rfl⟩,?_⟩)
   refine dD (enc:=Sl.v) (x:=W.lo) C 13 rfl rfl (xU ((hW.lo.ext af).ext C.base) (by have:=ao.len;omega) λU J ac=>?_)
   have O:=C.made ac
   refine jF O 2 rfl rfl λH9 T=>al b U D H9 (.refl _) ?_
   rw[if_pos c]
   have T:aA H9 (aC D::(([aS i64 U S.n.lo,aJ b [Sl.v U]]++aS i64 q S.n.lb::(cD A X W S (aJ e [i64 0]::aJ w [Sl.v Sl.nil]::R))))):=T
   have E:aA H9 (aC D::aS i64 U S.n.lo::aJ b [Sl.v U]::cD A X W S (aJ e [i64 0]::aJ w [Sl.v Sl.nil]::R)):=T.kG
   exact(show aA H9 (aC D::aJ b [Sl.v U]::(aS i64 U S.n.lo::oX A X W S++(aJ e [i64 0]::aJ w [Sl.v Sl.nil]::R))) from E.swap).ua
  ·refine al b q D H7 (.refl _) ?_
   rw[if_neg (by rw[c];simp)]
   exact(show aA H7 (aC D::aJ b [Sl.v q]::(aS i64 q S.n.lb::oX A X W S++(aJ e [i64 0]::aJ w [Sl.v Sl.nil]::R))) from C).ua
 refine bi _ λb q B5 H5 Y N=>?_
 have av:=af.trans Y
 refine az (x:=some X.sa) (F Y N.base) (aD (aU (x:=some X.ia) N 12 rfl rfl (az (en:=.bool) (x:=aG) (V Y N.base) (mP.i (Ig.fx ((hX.im.ext av).ext N.base) (gN N λcd B6 H6 ax bj h6=>?_))))))
 have ag:=av.trans ax
 have bd:=(ok.im.bR aG).GP
 have aR:iF S.c (if aG then S.n.lo else S.n.lb):=by split;exact ao;exact an
 have ah:S.bV aG=(jb (S.m.bR aG) (S.m.bR aG).length).foldl (kZ S.c aG (S.m.cP aG) (S.m.bR aG)) (S.d,if aG then S.n.lo else S.n.lb):=vf _ _ _ _ _ _
 refine yF cd _ _ _ _ (Ig.I5 (a:=if aG then X.io else X.ib) (s:=if aG then X.s1 else X.s0) (t:=if aG then X.t1 else X.t0) (per:=15) (d:=S.m.bR aG)
  (λi _ M=>∃o r j,r=(jb (S.m.bR aG) i).foldl (kZ S.c aG (S.m.cP aG) (S.m.bR aG)) (S.d,if aG then S.n.lo else S.n.lb)/\o.a=X.da/\Ext B6 j/\zk k S i r/\
   aA M (aC j::aS i64 q r.2::cD o X W ({S with d:=r.1}:KM.St) (aJ b [Sl.v q]::aJ e [i64 0]::aJ w [Sl.v Sl.nil]::R))) bd
  ?_ ⟨A,(S.d,if aG then S.n.lo else S.n.lb),B6,rfl,hA,.refl _,⟨ok.dk,rfl,aR⟩,h6⟩ ?_ ?_ ?_)
 ·rintro i _ M ⟨o,r,j,_,_,u,_,f⟩
  refine⟨by have:=((bj.ext u).ext f.base).cell (i:=0) rfl;rw[add_zero'] at this;rw[this],?_,?_⟩
  ·have:=(hX.im.ext (ag.trans u)).ext f.base
   cases aG;exact this.rb;exact this.ro
  ·cases aG
   ·exact f.list (enc:=Value.bool) 3 rfl
   ·exact f.list (enc:=Value.bool) 5 rfl
 ·rintro i _ M hi ⟨o,r,j,er,eA,u,P,f⟩ hd
  exact⟨o,r,j,by rw[Ig.tK hd];exact er,eA,u,⟨P.ok.mono (by omega),P.len,P.sl⟩,f⟩
 ·rintro i _ M K hi ⟨o,r,j,er,eA,u,P,f⟩ hd ai _
  have am:(i:Int)<bc S.c:=by omega
  obtain⟨P2,hg,bb⟩:=w8 ok P am hr (aG:=aG)
  have au:=ag.trans u
  have ad:=(Y.trans (ax.trans u))
  have hm:=w7 hr aG (i:Int)
  have aQ:(bt (S.m.cP aG) 15 (S.m.bR aG) (i:Int)).length<=15:=by
   simp only[gx,Bool.and_eq_true,decide_eq_true_eq] at hm;exact hm.1
  refine⟨_,rfl,az (x:=some X.sa) (F ad f.base) (aD (aU (x:=some X.ia) f 12 rfl rfl (az (en:=.bool) (x:=aG) (V ad f.base) ?_)))⟩
  have be:aA M (aC j::(Ig.dO X.s0 X.t0 X.s1 X.t1 S.m++(aS i64 q r.2::(Hy o X W ({S with d:=r.1}:KM.St)++(aJ b [Sl.v q]::aJ e [i64 0]::aJ w [Sl.v Sl.nil]::R))))):=(show aA M (aC j::aS i64 q r.2::(Ig.dO X.s0 X.t0 X.s1 X.t1 S.m++(Hy o X W ({S with d:=r.1}:KM.St)++(aJ b [Sl.v q]::aJ e [i64 0]::aJ w [Sl.v Sl.nil]::R)))) from f).ua
  refine Ig.GR (aG:=aG) (k:=(i:Int)) be (hX.im.ext au) ok.im λbx H7 C=>?_
  refine Pa.fP (l:=bt (S.m.cP aG) 15 (S.m.bR aG) (i:Int)) (C.list (enc:=i64) 1 rfl) (by omega) (λ_ bz J ac=>?_) (λhf=>absurd hm (by rw[hf];simp))
  have O:=C.made ac
  refine aF rfl (iW O λZ I aT T=>?_)
  have E:aA J (aC Z::aS i64 q r.2::cD o X W ({S with d:=r.1}:KM.St) (aJ b [Sl.v q]::aJ e [i64 0]::aJ w [Sl.v Sl.nil]::R)):=(show aA J (aC Z::(Ig.dO X.s0 X.t0 X.s1 X.t1 S.m++aS i64 q r.2::(Hy o X W ({S with d:=r.1}:KM.St)++(aJ b [Sl.v q]::aJ e [i64 0]::aJ w [Sl.v Sl.nil]::R)))) from T.aq).wh
  have bh:i<r.2.length:=by have:=P.sl.len;omega
  have bf:r.2[((i:Int)).toNat]?=some (bg 0 r.2 (i:Int)):=Us.Yl (by omega) (by omega)
  have vq:dX i64 J q r.2:=E.get 1 rfl
  refine eB (enc:=Sl.v) (x:=q) E 13 rfl (eB (enc:=Sl.v) (x:=q) E 13 rfl (dm vq.list (by omega) (by omega) λz hz=>?_))
  rw[bf] at hz
  have ez:=Option.some.inj hz
  subst ez
  rw[cK (x:=1-bg 0 r.2 (i:Int)) (by omega) (by omega)]
  refine uk E 1 rfl (by omega) (by omega) rfl λak p=>?_
  have ae:=ad.trans I
  have bo:=au.trans I
  have p:aA ak (aC Z::aS i64 q (r.2.set ((i:Int)).toNat (1-bg 0 r.2 (i:Int)))::cD o X W ({S with d:=r.1}:KM.St) (aJ b [Sl.v q]::aJ e [i64 0]::aJ w [Sl.v Sl.nil]::R)):=p
  have ar:=F ae p.base
  have v11:dX i64 ak q (r.2.set ((i:Int)).toNat (1-bg 0 r.2 (i:Int))):=p.get 1 rfl
  refine az (x:=some X.sa) ar (aD (aU (x:=some X.da) p 12 rfl rfl (az (x:=some X.sa) ar (aD (aU (x:=X.g) p 12 rfl rfl (az (en:=.bool) (x:=aG) (V ae p.base) (eB (enc:=Sl.v) (x:=q) p 13 rfl (dm v11.list (by omega) (by rw[List.length_set];omega) λz hz=>?_))))))))
  rw[List.getElem?_set_self (by rw[Int.toNat_natCast];exact bh)] at hz
  have ez:=Option.some.inj hz
  subst ez
  refine qe ((hX.g.ext bo).ext p.base) ok.c ⟨by omega,am⟩ (by omega) λbr bk=>?_
  have ab:=p.ext bk
  refine dc ab 12 rfl rfl (ig (F ae ab.base) ?_)
  rw[←eA]
  refine yk (i:=5) ab rfl P.ok (by omega) bb aT (Pa.len aQ) λaZ a0 aN a9=>aF rfl (ai () a0 ⟨aZ,kZ S.c aG (S.m.cP aG) (S.m.bR aG) r i,Z,?_,aN.trans eA,u.trans I,P2,?_⟩)
  ·rw[Ig.tL hd,List.foldl_append,←er];rfl
  ·exact a9
 ·rintro _ M ⟨o,r,j,er,eA,u,P,f⟩
  rw[←ah] at er
  subst er
  refine aF rfl (eB (enc:=Sl.v) (x:=q) f 13 rfl (jF f 15 rfl rfl λH7 C=>jF C 14 rfl rfl λJ O=>eB (enc:=Sl.v) (x:=q) O 15 rfl (eB (x:=(0:Int)) O 14 rfl ?_)))
  refine iW (show aA J (aC j::aS i64 q (S.bV aG).2::(oX o X W ({S with d:=(S.bV aG).1}:KM.St)++aJ b [Sl.v q]::aJ e [i64 0]::aJ w [Sl.v q]::R)) from O) λZ I hq T=>?_
  exact hQ o q Z J eA (ag.trans (u.trans I)) hq ⟨P.ok.mono (by omega),P.len,P.sl⟩ T.kG.kG.kG
end
end So
end Go.Proofs.YtigjebgjphmkoaaGreat
end
namespace Go.Proofs.YtigjebgjphmkoaaGreat
open Tryz
section
namespace So
open Go Go.Kx KM Rw Ge Sc Rg Mo Ds Rc
section
variable {H B:PH} {L R:List Ob} {k n:Nat} {A:Ds.DA} {X:Ad} {W:Wt} {S:KM.St}
theorem IC {i:Nat} {wa:Addr} {d g t:Option Addr} {p:Pos} {kI kC:Sl} {Q:Pos->PH->Prop} (h:aA H (aC B::L)) (hi:L[i]?=some (aJ wa (Wr.yA d g t p kI kC))) (e:∀H',aA H' (aC B::L)->Q p H'):mv (some wa) H Q:=
 bG h λa1 H1 a=>aF rfl (aD (pI (en:=s5) (x:=p) a (i+2) hi (by simp) rfl (cF (vs:=s5 p) a rfl rfl λc b=>cQ (x:=p) b rfl rfl (e c b.aq))))
theorem Rd {Q:Pos->PH->Prop} (h:aA H (aC B::cD A X W S R)) (e:∀H',aA H' (aC B::cD A X W S R)->Q S.w.p H'):sU (some X.sa) H Q:=
 bG h λa1 H1 a=>aF rfl (aD (aU (x:=some X.wa) a 12 rfl rfl (IC (i:=8) a rfl λf d=>cF (vs:=s5 S.w.p) d rfl rfl λc b=>cQ (x:=S.w.p) b rfl rfl (e c b.aq))))
def fC (S:KM.St) (lb lo:List Int):Dk:=(S.d.dW (ar S.c (1-S.n.slot)) (chunks (gV S.c (S.mX lb lo)) (bW S.c).toNat)).flush
theorem Nd (ok:ji k S) {lb lo:List Int} (hm:fW S.c (S.mX lb lo)=true) (h:S.n.slot=0∨S.n.slot=1):bu (k+5) (fC S lb lo)/\(fC S lb lo).now.length=S.d.now.length:=by
 have g:=kj ok.c
 have b:=jQ.oI ok.c
 have f:=gI ok.c
 have e:base S.c=2+2*(bW S.c+2*bc S.c):=rfl
 have j:=ok.len
 have a:0<=ar S.c (1-S.n.slot)/\ar S.c (1-S.n.slot)+((bW S.c).toNat:Int)<=S.d.now.length:=by
  unfold ar
  grind
 have P:=parts hm
 obtain⟨k1,k2⟩:=xV (i:=(bW S.c).toNat) ok.dk (wv ok.c P) (wx ok.c P) a.1 a.2 (by simp)
 exact⟨(k1.flush).mono (by omega),(iz k1).trans k2⟩
theorem Kj {b:Sl×Sl} {lb lo:List Int} {Q:Int->PH->Prop} (h:aA H (aC B::cD A X W S R)) (V:A.a=X.da) (Y:mg B X S.c) (ok:ji k S) (hk:k+10< 2 ^ 28) (Z:gR B b.1 lb) (ab:gR B b.2 lo) (hm:fW S.c (S.mX lb lo)=true) (am:S.n.slot=0∨S.n.slot=1)
 (F:∀J D H',J.a=X.da->Ext B D->aA H' (aC D::cD J X W ({S with d:=fC S lb lo}:KM.St) R)->Q 0 H'):oy (some X.sa) b H Q:=by
 have al:=kj ok.c
 have af:=jQ.oI ok.c
 have ak:=gI ok.c
 have aj:base S.c=2+2*(bW S.c+2*bc S.c):=rfl
 have hl:=ok.len
 have P:=parts hm
 have ag:=P.gen
 have w:0<=ar S.c (1-S.n.slot)/\ar S.c (1-S.n.slot)+((bW S.c).toNat:Int)<=S.d.now.length:=by
  unfold ar
  grind
 have hN:=ok.tb.l
 have hV:=ok.tb.v
 have ai:=ok.c.2.2.2.1
 refine gN h λa1 B1 H1 o r1 j=>?_
 have e1:∀{D H'},Ext B1 D->Ext D H'->aa H' a1 [Sl.v b.1,Sl.v b.2]:=λx y=>(r1.ext x).ext y
 refine aD (aU (x:=X.g) j 11 rfl rfl (aD (dD (x:=S.n.gen) j 11 rfl rfl (aD (dD (x:=S.n.view) j 11 rfl rfl (aD (dD (x:=S.n.mode) j 11 rfl rfl (aD (dD (x:=S.n.aQ) j 11 rfl rfl (aD (dD (x:=S.n.seq) j 11 rfl rfl (aD (dD (x:=S.n.done) j 11 rfl rfl (aD (aU (x:=some X.wa) j 11 rfl rfl ?_)))))))))))))))
 have q1:=e1 (.refl _) j.base
 refine mi (by omega) (by omega) (aX (x:=b.1) q1 rfl (mi (by omega) (by omega) (aX (x:=b.2) q1 rfl (aD (aU (x:=some X.ta) j 11 rfl rfl ?_)))))
 refine IC (i:=7) j rfl λH2 e=>?_
 have q2:=e1 (.refl _) e.base
 refine dc e 11 rfl rfl (dE q2 rfl (dE q2 rfl (jc e 11 rfl rfl (jc e 11 rfl rfl (jc e 11 rfl rfl (jc e 11 rfl rfl (jc e 11 rfl rfl (jc e 11 rfl rfl (dc e 11 rfl rfl ?_)))))))))
 refine Us.RK (fr:=true) ((Y.ta.ext o).ext e.base) ((e.get 6 rfl:bj Us.bf 2 H2 X.s S.t.l).lX Us.nL) (e.list (enc:=i64) 7 rfl) (by rw[hN,hV]) (by omega) λae H3 T=>?_
 have h3:=e.made T
 obtain⟨B4,p,hv,f⟩:=h3.fz
 have ac:=hv.lX Us.nL
 have q4:=e1 p f.base
 refine dE q4 rfl (dE q4 rfl (jc f 11 rfl rfl (jc f 11 rfl rfl (jc f 11 rfl rfl (jc f 11 rfl rfl (jc f 11 rfl rfl (jc f 11 rfl rfl (dc f 11 rfl rfl ?_))))))))
 rw[cK (x:=S.n.gen+1) (by have:(S.mX lb lo).gen=S.n.gen+1:=rfl;omega) (by have:(S.mX lb lo).gen=S.n.gen+1:=rfl;omega)]
 have G:=(Y.g.ext (o.trans p))
 refine Rg.fP (r:=S.mX lb lo) (sb:=b.1) (so:=b.2) (ss:=ae) (G.ext f.base) ok.c ⟨(Z.ext (o.trans p)).ext f.base,(ab.ext (o.trans p)).ext f.base,ac.ext f.base⟩ hm λz N U=>iW (f.made U) λK I hz C=>aF rfl ?_
 refine aD (aU (x:=some X.da) C 11 rfl rfl (aD (aU (x:=X.g) C 11 rfl rfl (aD (aU (x:=S.n.slot) C 11 rfl rfl ?_)))))
 rw[cK (x:=1-S.n.slot) (by omega) (by omega)]
 refine Ge.ry ((G.ext I).ext C.base) ok.c (by omega) (dc C 11 rfl rfl ?_)
 have u:=wv ok.c P
 have E:=wx ok.c P
 obtain⟨k1,k2⟩:=xV (i:=(bW S.c).toNat) ok.dk u E w.1 w.2 (by simp)
 have eD:fC S lb lo=(S.d.dW (ar S.c (1-S.n.slot)) (chunks (gV S.c (S.mX lb lo)) (bW S.c).toNat)).flush:=rfl
 rw[eD] at F
 generalize gV S.c (S.mX lb lo)=bs at hz u E k1 k2 F
 have h7:aA N (aC K::Ds.bA A S.d::(Ig.dO X.s0 X.t0 X.s1 X.t1 S.m++((Hy A X W S).drop 1++R))):=(show aA N (aC K::(Ig.dO X.s0 X.t0 X.s1 X.t1 S.m++Ds.bA A S.d::((Hy A X W S).drop 1++R))) from C).wh
 rw[←V]
 refine jQ.zb (n:=(bW S.c).toNat) h7 ok.dk (by omega) hz u E w.1 w.2 λA8 M H8 O ad q=>aF rfl ?_
 have q:=q.ua
 generalize S.d.dW (ar S.c (1-S.n.slot)) (chunks bs (bW S.c).toNat)=D8 at q k1 k2 F
 have q:aA H8 (aC M::cD A8 X W ({S with d:=D8}:KM.St) R):=q
 refine aD (aU (x:=some X.da) q 11 rfl rfl ?_)
 rw[←V,←O]
 refine BK (i:=4) q rfl k1 (by omega) λA9 H9 ah h9=>?_
 exact F A9 M H9 (by grind) (o.trans (p.trans (I.trans ad))) h9
end
end So
end
end Go.Proofs.YtigjebgjphmkoaaGreat
