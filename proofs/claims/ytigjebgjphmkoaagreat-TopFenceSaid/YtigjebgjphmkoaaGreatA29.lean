import Derived.Test.YtigjebgjphmkoaaGreatA28
set_option linter.unusedVariables false
set_option linter.unusedSimpArgs false
namespace Go.Proofs.YtigjebgjphmkoaaGreat
open Tryz
section
namespace Lo
open Go Go.Kx KM So Rc
theorem nM.mf {c:ax} {rg:fH} {m1:Im} {D:Dk} {n:KM.Sn} (h:nM c D n rg m1):iF c n.lb/\iF c n.lo:=by
 have a:=Ce h.mX
 simp only[fW,gU,Bool.and_eq_true,Bool.or_eq_true,beq_iff_eq,List.all_eq_true] at a
 obtain⟨⟨⟨⟨_,lb⟩,lo⟩,_⟩,_⟩:=a
 rw[←h.lb,←h.lo]
 exact⟨⟨lb.1,λx b=>by have:=lb.2 x b;omega⟩,⟨lo.1,λx b=>by have:=lo.2 x b;omega⟩⟩
abbrev vn (c:ax) (st:Int->Int) (p:Pos) (x:Int):Prop:=x<=0∨Us c st p.1 p.2.1 x
abbrev vK (c:ax) (p:Pos) (nb:Nat) (x:Int):Prop:=aZ c p.1+behind p.2.1 0<=x/\x<aZ c p.1+behind p.2.1 nb
structure GF (c:ax) (D:Dk) (lb lo:List Int) (st:Int->Int) (p:Pos) (F:KM.Fd):Prop where
 us:Ao (vn c st p) F.m
 pg:uK c D lb lo F.m
 vl:(F.t.v.length:Int)=c.2.1
 vz:∀x∈F.t.v,x=0
 ln:F.m.l0.length<=64/\F.m.l1.length=F.m.l0.length
structure GS (c:ax) (D:Dk) (lb lo:List Int) (st:Int->Int) (p:Pos) (nb:Nat) (M:Im) (v:List Int):Prop where
 u0:∀x∈M.l0,vn c st p x
 u1:∀x∈M.l1,vn c st p x∨vK c p nb x
 Gr:uj c M v
 pg:uK c D lb lo M
section
variable {c:ax} {D D':Dk} {lb lo:List Int} {st st':Int->Int} {p p':Pos} {F:KM.Fd} {M M':Im} {v v':List Int} {nb nb':Nat}
theorem PO (e:bE c) (a:iF c lb/\iF c lo) {aG:Bool} {k:Nat} {s:Int} (h:(if aG then lo else lb)[k]?=some s):2<=cw c aG k s/\cw c aG k s<base c:=by
 have b:=(List.getElem?_eq_some_iff.1 h).1
 have hm:=List.mem_of_getElem? h
 have j:=e.1;have d:=e.2.2.1
 have l:(k:Int)<bc c/\(0<=s/\s<=1):=by
  cases aG with
  |false=>have:=a.1.len;have d:k<lb.length:=b;exact⟨by omega,a.1.r s hm⟩
  |true=>have:=a.2.len;have d:k<lo.length:=b;exact⟨by omega,a.2.r s hm⟩
 have i:0<=bW c:=by simp only[bW];omega
 have g:0<=bc c:=by omega
 have f:base c=2+2*(bW c+2*bc c):=rfl
 simp only[cw]
 omega
theorem SH (h:uK c D lb lo M) (b:bE c) (d:iF c lb/\iF c lo) (e:∀a,2<=a->a<base c->D'.sec a=D.sec a):uK c D' lb lo M:=
 h.sec λaG k s hk=>by have:=PO b d hk;grind
theorem GF.to (h:GF c D lb lo st p F) (d:bE c) (e:iF c lb/\iF c lo) (b:∀a,2<=a->a<base c->D'.sec a=D.sec a) (hu:∀x,Us c st p.1 p.2.1 x->Us c st' p'.1 p'.2.1 x):GF c D' lb lo st' p' F:=
 ⟨h.us.mono (by grind),SH h.pg d e b,h.vl,h.vz,h.ln⟩
theorem XE {l:List cJ} {v:List Int} {k:Int} (h:∀x∈v,x=0):(∀x∈qB l v k,x=0)/\(qB l v k).length=v.length:=by
 unfold qB
 grind
theorem Y5 {f:KM.Fd} (h:∀x∈f.t.v,x=0) (i:eG) (a:Int):(∀x∈(f.jN i a).t.v,x=0)/\(f.jN i a).t.v.length=f.t.v.length:=by
 unfold KM.Fd.jN
 repeat (split;·first|exact⟨h,rfl⟩|exact XE h)
 exact⟨h,rfl⟩
theorem Nq:∀(l:List eG) {f:KM.Fd} (a:Int),(∀x∈f.t.v,x=0)->(∀x∈(f.items a l).t.v,x=0)/\(f.items a l).t.v.length=f.t.v.length
 |[],_,_,h=>⟨h,rfl⟩
 |i::l,f,a,h=>by
  have b:=Y5 h i (if bM i then a+1 else a)
  have d:=Nq l (if bM i then a+1 else a) b.1
  rw[KM.Fd.items]
  grind
theorem Y6 {f:KM.Fd} (h:∀x∈f.t.v,x=0) (x:Pos×Rec):(∀y∈(f.dh c x).t.v,y=0)/\(f.dh c x).t.v.length=f.t.v.length:=by
 have a:=Nq x.2.items (f:=f.dI x.2.aN) (aZ c x.1.1+x.1.2.1) (by rw[vm];exact h)
 rw[vm] at a
 exact a
theorem GF.dh (h:GF c D lb lo st p F) {x:Pos×Rec} (d:∀y,aZ c x.1.1+x.1.2.1<=y->y<=aZ c x.1.1+x.1.2.1+x.2.items.countP bM->Us c st p.1 p.2.1 y):GF c D lb lo st p (F.dh c x):=by
 have b:=Y6 (c:=c) h.vz x
 have a:=(Dh F.m.l0.length F.m.l1.length).dh (cf:=c) (f:=F) (x:=x) (by grind) (by simp)
 exact⟨(Ao.cl (P:=vn c st p) (by omega)).dh h.us (by grind),uK.cl.dh h.pg (by simp),by rw[b.2];exact h.vl,b.1,by rw[a.1,a.2];exact h.ln⟩
theorem GS.to (h:GS c D lb lo st p nb M v) (f:bE c) (g:iF c lb/\iF c lo) (e:∀a,2<=a->a<base c->D'.sec a=D.sec a) (hu:∀x,Us c st p.1 p.2.1 x->Us c st' p'.1 p'.2.1 x) (hw:∀x,vK c p nb x->vn c st' p' x∨vK c p' nb' x):GS c D' lb lo st' p' nb' M v:=
 ⟨λx b=>(h.u0 x b).imp id (hu x),λx b=>by
  rcases h.u1 x b with d|d
  ·grind
  grind,h.Gr,SH h.pg f g e⟩
theorem Nr {s:Int} (d:bE c) (b:0<=p.1/\p.1<c.2.1) (e:0<=p.2.1) (hf:behind p.2.1 nb<=c.2.2) {x:Int} (h:vK c p nb x):Us c st p.1 (behind p.2.1 nb) x:=by
 unfold vK behind at h
 unfold behind at hf ⊢
 exact⟨p.1,x-aZ c p.1,b,⟨by omega,by omega⟩,by omega,λ_=>by omega,λa=>absurd rfl a⟩
theorem SI {Q:Im->Prop} (a:∀M aG b x,Q M->x<=0->Q (M.put aG b x)) (h:Q M) (aG:Bool) (b:Int):∀n,Q (gZ aG b M n).1
 | 0=>h
 |n+1=>a _ aG (b+n) 0 (SI a h aG b n) (by simp)
theorem SJ {Q:Im->Prop} (a:∀M aG b x,Q M->x<=0->Q (M.put aG b x)) (h:Q M):∀n,Q (gb M n).1
 | 0=>h
 |n+1=>a _ true n (-1) (SJ a h n) (by omega)
theorem Ns {d e:Int->Prop} (g:∀x,x<=0->d x) (i:∀x,x<=0->e x):∀(M:Im) aG b x,(∀y∈M.l0,d y)/\(∀y∈M.l1,e y)->x<=0->(∀y∈(M.put aG b x).l0,d y)/\(∀y∈(M.put aG b x).l1,e y):=λM aG b x h f=>by
 cases aG with
 |false=>exact⟨λy a=>by rcases vJ a with a|rfl;exact h.1 y a;exact g _ f,h.2⟩
 |true=>exact⟨h.1,λy a=>by rcases vJ a with a|rfl;exact h.2 y a;exact i _ f⟩
theorem GS.cut (h:GS c D lb lo st p nb M v) (f:bE c) (e:1<=base c) (aG:Bool) (b n:Int):GS c D lb lo st p nb (M.cut aG b n).1 (lZ c (gX c v 0 1) (M.cut aG b n).2):=by
 have d:(∀y∈(M.cut aG b n).1.l0,vn c st p y)/\(∀y∈(M.cut aG b n).1.l1,vn c st p y∨vK c p nb y):=by
  unfold Im.cut
  split
  ·exact SI (Q:=λM=>(∀y∈M.l0,vn c st p y)/\(∀y∈M.l1,vn c st p y∨vK c p nb y)) (Ns (λx a=>.inl a) (λx a=>.inl (.inl a))) ⟨h.u0,h.u1⟩ aG b _
  ·exact⟨h.u0,h.u1⟩
 exact⟨d.1,d.2,h.Gr.cut f e aG b n,uK.cl.cut h.pg aG b n⟩
theorem GS.forget (h:GS c D lb lo st p nb M v) (d:bE c) (b:1<=base c):GS c D lb lo st p nb M.forget.1 (lZ c (gX c v 0 1) M.forget.2):=by
 have a:=SJ (Q:=λM=>(∀y∈M.l0,vn c st p y)/\(∀y∈M.l1,vn c st p y∨vK c p nb y)) (Ns (by omega) (by omega)) (M:=M) ⟨h.u0,h.u1⟩ M.l1.length
 exact⟨a.1,a.2,h.Gr.forget d b,uK.cl.forget h.pg⟩
theorem GS.fS (h:GS c D lb lo st p 0 M v) (f:bE c) (e:1<=base c):GS c D lb lo st p 0 M.fS.1 (lZ c (gX c v 0 1) M.fS.2):=by
 have b:Ao (vn c st p) M:=⟨h.u0,λx d=>by
  rcases h.u1 x d with a|a
  ·exact a
  grind⟩
 have a:=(Ao.cl (P:=vn c st p) (by omega)).fS b
 exact⟨a.r0,λx d=>.inl (a.r1 x d),h.Gr.fS f e,uK.cl.fS h.pg⟩
theorem GS.put (h:GS c D lb lo st p nb M v) (e:bE c) (d:1<=base c) (b:Int) {x:Int} (f:vn c st p x∨vK c p nb x):GS c D lb lo st p nb (M.put true b x) (lZ c (gX c v x 1) [gone (bT M.l1 b) x]):=
 ⟨h.u0,λy a=>by rcases vJ a with a|rfl;exact h.u1 y a;exact f,h.Gr.put e d true b x,uK.cl.put M true b x h.pg (by simp)⟩
theorem LO (k:bE c) {s o x g:Int} (h:Us c st s o x) (b:gp c g x=true):g=s∨st g≠0:=by
 obtain⟨a,y,f,d,e,i,j⟩:=h
 unfold gp at b
 simp only[Bool.and_eq_true,decide_eq_true_eq] at b
 have:(x-base c)/c.2.2=a:=by
  rw[e,aZ,show base c+a*c.2.2+y-base c=y+c.2.2*a by rw[Int.mul_comm];omega,Int.add_mul_ediv_left _ _ (by omega),Int.ediv_eq_zero_of_lt d.1 d.2];omega
 grind
theorem Vs (b:bE c) {g x y:Int} (d:0<=g/\g<c.2.1) (a:0<=y/\y<c.2.2) (e:x=aZ c g+y):gp c g x=true:=by
 have f:=eK b d a
 have:(x-base c)/c.2.2=g:=by
  rw[e,aZ,show base c+g*c.2.2+y-base c=y+c.2.2*g by rw[Int.mul_comm];omega,Int.add_mul_ediv_left _ _ (by omega),Int.ediv_eq_zero_of_lt a.1 a.2];omega
 unfold gp
 simp_all
theorem Uk (a:bE c) {x g:Int} (e:0<=p.1/\p.1<c.2.1) (d:0<=p.2.1) (hf:behind p.2.1 nb<=c.2.2) (h:vK c p nb x) (b:gp c g x=true):g=p.1:=by
 have:=LO (st:=λ_=>0) a (Nr (s:=0) a e d hf h) b
 omega
theorem GS.free (h:GS c D lb lo st p nb M v) (e:bE c) (n:0<=p.1/\p.1<c.2.1) (m:0<=p.2.1) (hf:nb=0∨behind p.2.1 nb<=c.2.2) {g:Int} (o:st g=0) (b:g≠p.1):ju c M g=0:=by
 have l:1<=base c:=by have:=fB e;omega
 have j:∀x,vn c st p x∨vK c p nb x->¬gp c g x=true:=λx a i=>by
  rcases a with(k|d)|d
  ·have:=sA (g:=g) l k
   unfold ind at this;grind
  ·rcases LO e d i with f|f
   ·exact b f
   omega
  ·rcases hf with hf|hf
   ·grind
   ·exact b (Uk e n m hf d i)
 unfold ju
 rw[List.countP_eq_zero.2 λx a=>j x (.inl (h.u0 x a)),List.countP_eq_zero.2 λx a=>j x (h.u1 x a)]
theorem GS.jh (h:GS c D lb lo st p nb M v) (j:bE c) (n:0<=p.1/\p.1<c.2.1) (m:0<=p.2.1) (hf:nb=0∨behind p.2.1 nb<=c.2.2) {l:List cJ} {g:Int} (k:st g=0) (d:g≠p.1):GS c D lb lo st p nb M (qB l v g):=by
 refine⟨h.u0,h.u1,?_,h.pg⟩
 unfold qB
 split
 ·next b=>
  have hk:0<=g:=by
   rw[jP,Bool.and_eq_true] at b
   exact(Us.bD.1 b.1).1
  obtain⟨c1,c2,c3,i⟩:=h.Gr
  have f:∀x,bg 0 (v.set g.toNat 0) x=if x=g then 0 else bg 0 v x:=λx=>by
   by_cases a:g<v.length
   ·exact LJ ⟨hk,a⟩ 0 x
   ·rw[List.set_eq_of_length_le (by omega)]
    split
    ·next e=>
     subst e
     unfold bg
     grind
    ·rfl
  refine⟨⟨by rw[List.length_set];exact c1.1,λx=>?_⟩,c2,c3,λx=>?_⟩
  ·rw[f];split
   ·omega
   ·exact c1.2 x
  ·rw[f];split
   ·next e=>subst e;rw[h.free j n m hf k d];simp
   ·exact i x
 ·exact h.Gr
end
end Lo
end
end Go.Proofs.YtigjebgjphmkoaaGreat
section
namespace KM
theorem Cf {U:Int->Prop} {D c:Dk} (h:Alike U D c):∀(n:Nat) (a:Int),(∀i:Nat,i<n->U (a+i))->D.dQ a n=c.dQ a n
 | 0,_,_=>rfl
 |n+1,a,hu=>by
  have d:=h a (by have:=hu 0 (by omega);grind)
  rw[Dk.dQ,Dk.dQ,d,Cf h n (a+1) (by grind)]
end KM
namespace Go.Proofs.YtigjebgjphmkoaaGreat
open Tryz
namespace Lo
open Go Go.Kx KM So
def Ba (n:Nat) (i:eG):Prop:=(i.1=1/\0<=i.2.1/\i.2.1<n)∨i.1=3∨(i.1=2/\0<=i.2.1/\1<=i.2.2.1/\i.2.1+i.2.2.1<=n)
abbrev SK (c:ax) (rg:fH) (m1:Im):KM.Fd:=⟨⟨rg.bk,List.replicate c.2.1.toNat 0⟩,m1,rg.aQ,rg.seq,rg.done,rg.pos.2.2.2.2⟩
structure tU (b:Int) (S:KM.St) (st:Int->Int) (free:Nat) (rg:fH) (m1:Im) (l:List (Pos×Rec)) (e:Pos) (F:KM.Fd):Prop where
 hd:nM S.c S.d S.n rg m1
 log:Log S.c S.d st free S.w.p rg m1 l e F
 ref:cS S.c S.m
 Cg:cS S.c F.m
 gF:GF S.c S.d S.n.lb S.n.lo st S.w.p F
 gS:GS S.c S.d S.n.lb S.n.lo st S.w.p S.w.blocks.length S.m S.t.v
 LP:∀i∈S.w.items,i.1≠7
 bz:∀x∈S.w.blocks,dV x=0
 pm:S.w.p.2.2.2.2=S.n.aN
 f0:0<=F.done/\F.done<=F.seq/\F.seq+S.w.items.length<=b
 f1:0<=F.aQ/\F.aQ<=b
 i3:∀i∈S.w.items,i.1=3->0<=i.2.2.2/\i.2.2.2<=b
 Ik:∀i∈S.w.items,Ba S.c.1.toNat i
 rl:lU S.c S.c.1.toNat (SK S.c rg m1) l=true
 bb:b<=2147483646
abbrev Lg (b:Int) (S:KM.St) (rg:fH) (m1:Im) (l:List (Pos×Rec)) (e:Pos) (F:KM.Fd):Prop:=tU b S (dP S.t.l) (cG S.t.l) rg m1 l e F
theorem Ci {c:ax} {n:Nat} {x:Pos×Rec}:∀(l:List (Pos×Rec)) (f:KM.Fd),lU c n f l=true->ud c n (l.foldl (KM.Fd.dh c) f) x=true->lU c n f (l++[x])=true
 |[],f,_,h=>by show(ud c n f x&&lU c n (f.dh c x) [])=true;rw[show lU c n (f.dh c x) []=true from rfl,Bool.and_true];exact h
 |y::l,f,a,h=>by
  rw[lU,Bool.and_eq_true] at a
  show(ud c n f y&&lU c n (f.dh c y) (l++[x]))=true
  rw[a.1,Ci l (f.dh c y) a.2 h];rfl
section
variable {b:Int} {S:KM.St} {rg:fH} {m1:Im} {l:List (Pos×Rec)} {e:Pos} {F:KM.Fd} {k:Nat} {E:Dk}
theorem XF {l a:List cJ} (f:l.length=a.length) (h:∀g,dP l g=dP a g):l.map (·.1)=a.map (·.1):=by
 refine List.ext_getElem (by grind) λi c d=>?_
 rw[List.length_map] at c d
 have:=h i
 unfold dP bg at this
 grind
theorem LQ (l:List cJ):cG l=(l.map (·.1)).countP (· ==0):=by rw[cG,List.countP_map];rfl
theorem LR {l a:List cJ} (c:l.length=a.length) (h:∀g,dP l g=dP a g):cG l=cG a:=by rw[LQ,LQ,XF c h]
theorem nM.alike {c:ax} {D d:Dk} {n n':KM.Sn} {rg:fH} {m1:Im} (h:nM c D n rg m1) (v:bE c) (u:∀a,2<=a->a<base c->D.sec a=d.sec a) (H:n'.slot=n.slot/\n'.gen=n.gen/\n'.lb=n.lb/\n'.lo=n.lo)
 (g:∃id,eJ (d.sec (n'.aN% 2))=some (c,id,n'.aN)/\0<=id/\id<=2147483647) (x:∀y,eJ (d.sec (1-n'.aN% 2))=some y->y.2.2<n'.aN):nM c d n' rg m1:=by
 obtain⟨n1,n2,n3,K⟩:=H
 have R:0<=bW c:=by have:=v.2.2.1;simp only[bW];omega
 have Q:0<=bc c:=by have:=v.1;simp only[bc];omega
 have P:base c=2+2*(bW c+2*bc c):=rfl
 have o:∀s,(s=0∨s=1)->D.dQ (ar c s) (bW c).toNat=d.dQ (ar c s) (bW c).toNat:=λs g=>Cf (U:=λa=>2<=a/\a<base c) (λa p=>u a p.1 p.2) _ _ λi hi=>by
  simp only[ar]
  rcases g with rfl|rfl<;>omega
 have m:=Ce h.mX
 simp only[fW,gU,Bool.and_eq_true,Bool.or_eq_true,beq_iff_eq,List.all_eq_true] at m
 obtain⟨⟨⟨⟨_,lb⟩,lo⟩,_⟩,_⟩:=m
 have f:∀(aG:Bool) (k:Nat) (s:Int),(if aG then rg.lo else rg.lb)[k]?=some s->D.sec (cw c aG k s)=d.sec (cw c aG k s):=λaG k s hk=>by
  have q:=(List.getElem?_eq_some_iff.1 hk).1
  have hm:=List.mem_of_getElem? hk
  have t:(k:Int)<bc c/\(s=0∨s=1):=by
   cases aG with
   |false=>have:=lb.1;have C:k<rg.lb.length:=q;exact⟨by omega,lb.2 s hm⟩
   |true=>have:=lo.1;have C:k<rg.lo.length:=q;exact⟨by omega,lo.2 s hm⟩
  refine u _ ?_ ?_
  ·simp only[cw];cases aG<;>simp<;>omega
  ·simp only[cw];cases aG<;>simp<;>omega
 have j:∀(aG:Bool) (l:List Int) (k:Nat) (M:Im),(∀(i:Nat) (s:Int),l[i]?=some s->D.sec (cw c aG (k+i:Nat) s)=d.sec (cw c aG (k+i:Nat) s))->dJ c D aG k l M=dJ c d aG k l M:=by
  intro aG l
  induction l with
  |nil=>intro k M _;rfl
  |cons s l I=>
   intro k M hk
   have r:=hk 0 s rfl
   rw[Nat.add_zero] at r
   have z:dJ c D aG (k+1) l=dJ c d aG (k+1) l:=funext λA=>I (k+1) A λi O w=>by have:=hk (i+1) O (by simpa using w);rwa[show k+(i+1)=k+1+i by omega] at this
   rw[AN,AN,r,z]
 obtain⟨J,B,t⟩:=h.m1
 refine⟨g,x,by rw[n1];exact h.slot,by rw[n1,←o _ h.slot];exact h.mX,by rw[n1,←o _ (by rcases h.slot with G|G<;>omega)];exact h.Y3,by rw[n2];exact h.gen,by rw[n3];exact h.lb,by rw[K];exact h.lo,λaG k s hk=>?_,J,?_,?_⟩
 ·obtain⟨refs,L,N⟩:=(h.pg aG k s hk).ok
  exact⟨refs,by rw[←f aG k s hk];exact L,N⟩
 ·rw[←j false rg.lb 0 _ λi s g=>by rw[Nat.zero_add];exact f false i s g];exact B
 ·rw[←j true rg.lo 0 _ λi s g=>by rw[Nat.zero_add];exact f true i s g];exact t
end
end Lo
end Go.Proofs.YtigjebgjphmkoaaGreat
end
section
namespace KM
theorem Y7 {D:Dk} {S:St} {c:ax} {id aN sl:Int} {rg:fH} {slot:Int} {a m1:Im} {l:List (Pos×Rec)} {en:Pos} {f:Fd} (P:ED D S c id aN sl rg slot a m1 l en f)
 (h:lU c c.1.toNat ⟨⟨rg.bk,List.replicate c.2.1.toNat 0⟩,m1,rg.aQ,rg.seq,rg.done,rg.pos.2.2.2.2⟩ l=true):lV D=true:=by
 unfold lV
 rw[P.sup]
 simp only
 rw[P.mX]
 simp only
 rw[P.p0]
 simp only
 rw[P.p1]
 simp only
 rw[P.ch]
 exact h
end KM
namespace Go.Proofs.YtigjebgjphmkoaaGreat
open Tryz
namespace Lo
open Go Go.Kx KM So
section
variable {b:Int} {S:KM.St} {rg:fH} {m1:Im} {l:List (Pos×Rec)} {e:Pos} {F:KM.Fd} {k j:Nat} {E:Dk}
theorem nM.sec (h:nM S.c S.d S.n rg m1) (f:∀a,E.sec a=S.d.sec a) (g:bE S.c):nM S.c E S.n rg m1:=
 h.alike g (by grind) (by grind) (by rw[f];exact h.sup) (by rw[f];exact h.LG)
theorem Log.sec {c:ax} {D:Dk} {st:Int->Int} {free:Nat} {p:Pos} (h:Log c D st free p rg m1 l e F) (f:∀a,E.sec a=D.sec a):Log c E st free p rg m1 l e F:=by
 have g:KM.Alike (Us c st p.1 p.2.1) D E:=λa _=>(f a).symm
 refine{h with run:=?_,AV:=λa i d=>by rw[f];exact h.AV a i d}
 rcases h.run with⟨d,o,r,s⟩|⟨d,q,m,n⟩
 ·grind
 ·exact .inr ⟨d,q,m.alike g (by simp),n.alike g⟩
def iA (S:KM.St) (E:Dk) (id:Int) (rg:fH) (F:KM.Fd):KM.St:=
 ⟨S.c,((E.put (aZ S.c S.w.p.1+S.w.p.2.1) pM).put ((S.n.aN+1)% 2) (eZ S.c id (S.n.aN+1))).flush,{F.forget.t with v:=jW S.c F.forget.t.v F.forget.m.refs},F.forget.m,
  ⟨(S.w.p.1,S.w.p.2.1,S.w.p.2.2.1,S.w.p.2.2.2.1,S.n.aN+1),[],[]⟩,⟨rg.mode,rg.view,F.aQ,F.done,F.done,S.n.aN+1,rg.gen,S.n.slot,rg.lb,rg.lo⟩⟩
theorem Lg.opens (h:Lg b S rg m1 l e F) (ok:bB k S) (hk:k< 2 ^ 28) (v:bu j E) (m:∀a,E.sec a=S.d.sec a) (hlen:E.now.length=S.d.now.length) (B:1<=S.n.aN/\S.n.aN+1<=2147483647):
 ∃id,kU E=some (iA S E id rg F)/\lV E=true/\0<=id/\id<=2147483647:=by
 have f:=h.hd.sec m ok.c
 have o:=h.log.sec m
 obtain⟨id,sl,i,r⟩:=f.choose
 obtain⟨z,s,u⟩:=f.m1
 have A:=ok.lt;have D:=ok.p2;have C:=ok.p1;have y:=ok.cZ;have x:=ok.prev
 have q:=o.chain ok.c v (by rw[hlen];exact ok.len) ok.p1 (by grind) (Ce h.hd.mX)
 have e1:=h.log.e1;have e2:=h.log.e2;have e3:=h.log.e3;have e4:=h.log.e4
 have g:((e.1,e.2.1,e.2.2.1,e.2.2.2.1,S.n.aN+1):Pos)=(S.w.p.1,S.w.p.2.1,S.w.p.2.2.1,S.w.p.2.2.2.1,S.n.aN+1):=by grind
 have P:ED E (iA S E id rg F) S.c id S.n.aN sl rg S.n.slot z m1 l e F.forget:=by
  refine⟨i,by rw[hlen];exact ok.len,f.region,s,u,q,by rw[h.log.fold],?_,?_,?_,?_⟩
  ·rw[g]
   simp only[fj,Bool.and_eq_true,KM.bD]
   omega
  ·simp only[dA,Bool.and_eq_true,KM.bD]
   exact⟨⟨rG.2 ok.c,by omega⟩,by omega⟩
  ·show(bg (0,0) F.t.l e.1).1=1
   have:=h.log.Ib e.1
   rw[e1,h.log.Cx] at this
   rw[e1];exact this
  ·rw[g,e1,e2];rfl
 exact⟨id,XC P,Y7 P h.rl,r⟩
theorem Y8:dV pM=0:=by rfl
theorem Il (c:ax) (id m:Int):(eZ c id m).length=64:=by rfl
theorem pP:pM.length=64/\bP pM:=⟨rfl,λx a=>by rw[(List.mem_replicate.1 a).2];omega⟩
theorem Lg.again (h:Lg b S rg m1 l e F) (ok:bB k S) (B:bu j E) (Y:∀a,E.sec a=S.d.sec a) (hlen:E.now.length=S.d.now.length) (ai:1<=S.n.aN/\S.n.aN+1<=2147483647) {id:Int} (Z:0<=id/\id<=2147483647) (K:bP (eZ S.c id (S.n.aN+1))):
 Lg b (iA S E id rg F) rg m1 l e F:=by
 have G:=h.hd.sec Y ok.c
 have H:=h.log.sec Y
 have aa:=ok.lt;have ac:=ok.p2;have J:=ok.p1;have r:=ok.c;have X:=r.2.2.2.2.1
 have ah:=fB r
 have hr:=eK r J ⟨ac.1,aa⟩
 have aj:=ok.len
 have A:0<=aZ S.c S.w.p.1+S.w.p.2.1/\aZ S.c S.w.p.1+S.w.p.2.1<E.now.length:=by omega
 have Q:=B.put A pP.1 pP.2
 have ag:=nY B A pP.1
 have O:0<=(S.n.aN+1)% 2/\(S.n.aN+1)% 2<(E.put (aZ S.c S.w.p.1+S.w.p.2.1) pM).now.length:=by omega
 have L:=Il S.c id (S.n.aN+1)
 have af:=Q.put O L K
 have key:∀a,(iA S E id rg F).d.sec a=if a=(S.n.aN+1)% 2 then eZ S.c id (S.n.aN+1) else if a=aZ S.c S.w.p.1+S.w.p.2.1 then pM else E.sec a:=λa=>by
  show((E.put _ pM).put _ _).flush.sec a=_
  rw[tT af,mh Q O L K,mh B A pP.1 pP.2]
 have ae:dA S.c id (S.n.aN+1)=true:=by
  simp only[dA,Bool.and_eq_true,KM.bD]
  exact⟨⟨rG.2 ok.c,by omega⟩,by omega⟩
 have u:∀g,dP F.t.l g=dP S.t.l g:=h.log.Ib
 have D:cG F.t.l=cG S.t.l:=LR (by rw[h.log.len,ok.tb.l]) u
 have U:∀a,base S.c<=a->a≠(S.n.aN+1)% 2:=(by omega)
 have T:∀a,2<=a->a<base S.c->(iA S E id rg F).d.sec a=S.d.sec a:=(by grind)
 have f:GF S.c (iA S E id rg F).d rg.lb rg.lo (dP F.t.l) (iA S E id rg F).w.p F:=by
  rw[h.hd.lb,h.hd.lo]
  exact h.gF.to r h.hd.mf T λx z=>z.mono (by grind) (.inl ⟨rfl,Int.le_refl _⟩)
 have W:GS S.c (iA S E id rg F).d rg.lb rg.lo (dP F.t.l) (iA S E id rg F).w.p 0 F.m.forget.1 (jW S.c F.t.v F.m.forget.1.refs):=by
  have o:=(Ao.cl (P:=vn S.c (dP F.t.l) (iA S E id rg F).w.p) (by omega)).forget f.us
  have s:=(Dh F.m.l0.length F.m.l1.length).forget (M:=F.m) (by simp)
  exact⟨o.r0,λx z=>.inl (o.r1 x z),uj.refs r (by omega) f.vl f.vz (by rw[s.1];exact f.ln.1) (by rw[s.1,s.2];exact f.ln.2),uK.cl.forget f.pg⟩
 refine⟨G.alike r (λa R o=>?_) ⟨rfl,h.hd.gen,h.hd.lb,h.hd.lo⟩ ⟨id,?_,Z⟩ ?_,⟨?_,h.log.e1,h.log.e2,h.log.e3,h.log.e4,?_,h.log.fold,λg=>rfl,?_,(λg hg=>h.log.one g (by rw[←u];exact hg)),h.log.len,?_,?_⟩,h.Cg.forget,h.Cg,f,W,(λi hi=>by cases hi),(λx z=>by cases z),rfl,⟨h.f0.1,h.f0.2.1,?_⟩,h.f1,(λi hi=>by cases hi),(λi hi=>by cases hi),h.rl,h.bb⟩
 ·grind
 ·rw[show(iA S E id rg F).n.aN=S.n.aN+1 from rfl,key,if_pos rfl];exact IU ae
 ·intro y V
  rw[show(iA S E id rg F).n.aN=S.n.aN+1 from rfl,key,if_neg (by omega),if_neg (by omega)] at V
  obtain⟨ak,q1,q2⟩:=G.sup
  rw[show 1-(S.n.aN+1)% 2=S.n.aN% 2 by omega,q1] at V
  cases V
  show S.n.aN<S.n.aN+1;omega
 ·have N:∀a,Us S.c (dP S.t.l) S.w.p.1 S.w.p.2.1 a->Us S.c (dP F.t.l) S.w.p.1 S.w.p.2.1 a:=λa C=>C.mono (by grind) (by simp)
  have I:KM.Alike (Us S.c (dP S.t.l) S.w.p.1 S.w.p.2.1) E (iA S E id rg F).d:=λa C=>by
   have hs:=C.oV r
   rw[key,if_neg (by omega),if_neg]
   rintro rfl
   exact Us.not X (by grind) (by simp) C
  rcases H.run with⟨o,s,h3,h4⟩|⟨o,q,hq,ad⟩
  ·refine .inl ⟨o,s,h3,?_⟩
   have e1:=h.log.e1;have e2:=h.log.e2
   rw[s] at e1 e2
   rw[show(iA S E id rg F).c=S.c from rfl,key,if_neg (by rw[e1];have:=eK r J (x:=0) ⟨by omega,by omega⟩;omega),if_pos (by rw[e1];omega)]
  ·exact .inr ⟨o,q,hq.alike I N,(ad.alike I).mono N⟩
 ·show e.2.2.2.2<=S.n.aN+1
  have:=h.log.e5;rw[h.pm] at this;omega
 ·show dP F.t.l S.w.p.1=1
  rw[u];exact h.log.Cx
 ·show(turns l+1+cG F.t.l:Int)<=S.c.2.1
  rw[D];exact h.log.fuel
 ·intro a R o
  rw[key,if_neg (U a R)]
  split
  ·intro ab;exact absurd Y8 ab
  ·exact H.AV a R o
 ·show F.seq+(0:Nat)<=b
  have:=h.f0.2.2;omega
end
end Lo
end Go.Proofs.YtigjebgjphmkoaaGreat
end
namespace Go.Proofs.YtigjebgjphmkoaaGreat
open Tryz
section
namespace Lo
open Go Go.Kx KM So Rc
section
variable {b:Int} {S:KM.St} {rg:fH} {m1:Im} {l:List (Pos×Rec)} {e:Pos} {F:KM.Fd} {k j:Nat} {E:Dk} {c:ax}
structure Ul (b:Int) (n:Nat) (f f':KM.Fd):Prop where
 d:0<=f'.done/\f'.done<=f'.seq
 s:f'.seq<=f.seq+n
 e:0<=f'.aQ/\f'.aQ<=b
theorem LS {f:KM.Fd} (h:0<=f.done/\f.done<=f.seq) (he:0<=f.aQ/\f.aQ<=b) (i:eG) (hi:i.1=3->0<=i.2.2.2/\i.2.2.2<=b) (a:Int):Ul b 1 f (f.jN i a):=by
 unfold KM.Fd.jN
 split
 ·exact⟨by grind,by simp,he⟩
 split
 ·exact⟨by grind,by simp,he⟩
 split
 ·next d=>exact⟨by grind,by simp,hi d⟩
 split
 ·exact⟨h,by grind,he⟩
 split
 ·exact⟨h,by grind,he⟩
 split
 ·exact⟨h,by grind,he⟩
 split
 ·exact⟨h,by grind,he⟩
 ·exact⟨h,by omega,he⟩
theorem Io:∀(l:List eG) {f:KM.Fd} (a:Int),0<=f.done/\f.done<=f.seq->0<=f.aQ/\f.aQ<=b->(∀i∈l,i.1=3->0<=i.2.2.2/\i.2.2.2<=b)->Ul b l.length f (f.items a l)
 |[],f,_,h,he,_=>⟨h,by show f.seq<=f.seq+((0:Nat):Int);omega,he⟩
 |i::l,f,a,h,he,hi=>by
  obtain⟨n1,n2,n3⟩:=LS h he i (hi i List.mem_cons_self) (if bM i then a+1 else a)
  obtain⟨g,n,m⟩:=Io l (if bM i then a+1 else a) n1 n3 λj d=>hi j (List.mem_cons_of_mem _ d)
  rw[KM.Fd.items]
  exact⟨g,by grind,m⟩
theorem LU {f:KM.Fd} (h:0<=f.done/\f.done<=f.seq) (he:0<=f.aQ/\f.aQ<=b) (x:Pos×Rec) (hi:∀i∈x.2.items,i.1=3->0<=i.2.2.2/\i.2.2.2<=b):Ul b x.2.items.length f (f.dh c x):=by
 have a:(0<=(f.dI x.2.aN).done/\(f.dI x.2.aN).done<=(f.dI x.2.aN).seq)/\(f.dI x.2.aN).seq<=f.seq/\(f.dI x.2.aN).aQ=f.aQ:=by
  unfold KM.Fd.dI
  split
  ·exact⟨⟨h.1,Int.le_refl _⟩,h.2,rfl⟩
  omega
 obtain⟨d,m,g⟩:=Io x.2.items (aZ c x.1.1+x.1.2.1) a.1 (by rw[a.2.2];exact he) hi
 exact⟨d,by show((f.dI x.2.aN).items _ x.2.items).seq<=_;omega,g⟩
theorem XG {f:KM.Fd} {n:Nat} {i:eG} {a:Int} (h:0<=f.seq/\f.seq<=2147483646) (hi:Ba n i∨i.1=7) (q:1<=a/\a<=4095):DX n f i a=true:=by
 simp only[DX,Bool.and_eq_true,Bool.or_eq_true,beq_iff_eq,decide_eq_true_eq]
 refine⟨h,?_⟩
 rcases hi with(⟨g,m,d⟩|d|⟨g,m,d,o⟩)|p
 ·omega
 ·omega
 ·omega
 omega
theorem Ip {n:Nat}:∀(l:List eG) {f:KM.Fd} {a:Int},0<=f.done/\f.done<=f.seq->0<=f.aQ/\f.aQ<=b->(∀i∈l,i.1=3->0<=i.2.2.2/\i.2.2.2<=b)->f.seq+l.length<=2147483647->(∀i∈l,Ba n i∨i.1=7)->1<=a->a+l.countP bM<=4095->w5 n f a l=true
 |[],_,_,_,_,_,_,_,_,_=>rfl
 |i::l,f,a,h,he,q,m,r,p,g=>by
  rw[List.countP_cons] at g
  rw[List.length_cons] at m
  have hd:=LS h he i (by grind) (if bM i then a+1 else a)
  have o:=hd.s
  rw[w5,Bool.and_eq_true]
  refine⟨XG (by grind) (by grind) ?_,Ip l hd.d hd.e (by grind) (by omega) (by grind) ?_ ?_⟩
  ·grind
  ·omega
  grind
theorem Nt {f:KM.Fd} {n:Nat} (h:0<=f.done/\f.done<=f.seq) (he:0<=f.aQ/\f.aQ<=b) (x:Pos×Rec) (g:∀i∈x.2.items,i.1=3->0<=i.2.2.2/\i.2.2.2<=b) (p:f.seq+x.2.items.length<=2147483647) (m:∀i∈x.2.items,Ba n i∨i.1=7) (a:1<=aZ c x.1.1+x.1.2.1) (d:aZ c x.1.1+x.1.2.1+x.2.items.countP bM<=4095):ud c n f x=true:=by
 have o:(0<=(f.dI x.2.aN).done/\(f.dI x.2.aN).done<=(f.dI x.2.aN).seq)/\(f.dI x.2.aN).seq<=f.seq/\(f.dI x.2.aN).aQ=f.aQ:=by
  unfold KM.Fd.dI
  split
  ·exact⟨⟨h.1,Int.le_refl _⟩,h.2,rfl⟩
  omega
 exact Ip x.2.items o.1 (by omega) g (by omega) m a d
theorem nM.oV {D f:Dk} {n:KM.Sn} (h:nM c D n rg m1) (g:bE c) (d:∀a,a<base c->f.sec a=D.sec a):nM c f n rg m1:=by
 have m:=fB g
 exact h.alike g (λa _ i=>(d a i).symm) ⟨rfl,rfl,rfl,rfl⟩ (by rw[d _ (by omega)];exact h.sup) (by rw[d _ (by omega)];exact h.LG)
theorem Cj {D:Dk} (f:bE c) (ok:bu k D) {a:Int} {ls:List Bs} (h:base c<=a) (d:a+ls.length<=D.now.length) (g:∀x∈ls,x.length=64/\bP x):∀x,x<base c->(D.dW a ls).sec x=D.sec x:=λx i=>by
 rw[xD ls ok (by have:=fB f;omega) d g,if_neg (by omega)]
theorem Gs (ok:bB k S):S.w.blocks.length=0∨behind S.w.p.2.1 S.w.blocks.length<=S.c.2.2:=by
 by_cases he:S.w.items=[]
 ·have:=ok.bl
  grind
 ·have:=(ok.fit he).2
  omega
theorem tU.aY {st:Int->Int} {free:Nat} (h:tU b S st free rg m1 l e F) (ok:bB k S) (hk:k< 2 ^ 28):∃o,tU b S.aY st free rg m1 l o F:=by
 by_cases A:0<S.w.p.2.1
 ·have e:S.aY=S:=by unfold KM.St.aY;grind
  grind
 ·have v:=ok.p2;have f:=ok.c;have u:=fB f;have t:=f.2.2.2.2.1
  have q:S.aY={S with d:=S.d.put (aZ S.c S.w.p.1) (gH S.w.p.1 S.w.p.2.2.2.2 S.w.p.2.2.1 S.w.p.2.2.2.1),w:={S.w with p:=(S.w.p.1,1,S.w.p.2.2.1,S.w.p.2.2.2.1,S.w.p.2.2.2.2)}}:=by
   unfold KM.St.aY;grind
  have hm:rn S.w.p.1 S.w.p.2.2.2.2 S.w.p.2.2.1 S.w.p.2.2.2.1=true:=ok.toji.head hk
  have i:(gH S.w.p.1 S.w.p.2.2.2.2 S.w.p.2.2.1 S.w.p.2.2.2.1).length=64:=rfl
  have g:bP (gH S.w.p.1 S.w.p.2.2.2.2 S.w.p.2.2.1 S.w.p.2.2.2.1):=Hd.uY (ok.toji.head hk)
  have s:=eK f ok.p1 (x:=0) (by omega)
  rw[Int.add_zero] at s
  have z:=ok.len
  have r:=h.log.Cv f ok.dk ok.len ok.p1 (by omega) hm i g
  rw[q]
  have m:∀a,a<base S.c->(S.d.put (aZ S.c S.w.p.1) (gH S.w.p.1 S.w.p.2.2.2.2 S.w.p.2.2.1 S.w.p.2.2.2.1)).sec a=S.d.sec a:=λa y=>by
   rw[mh ok.dk ⟨by omega,by omega⟩ i g,if_neg (by omega)]
  have hu:∀x,Us S.c st S.w.p.1 S.w.p.2.1 x->Us S.c st S.w.p.1 1 x:=λx n=>n.mono (by simp) (by omega)
  refine⟨_,⟨h.hd.oV f m,r,h.ref,h.Cg,h.gF.to f h.hd.mf (by grind) hu,h.gS.to f h.hd.mf (by grind) hu (λx n=>.inr ?_),h.LP,h.bz,h.pm,h.f0,h.f1,h.i3,h.Ik,h.rl,h.bb⟩⟩
  unfold vK behind at n ⊢
  grind
theorem EL {r:Rec} (hm:dH r=true) (d:∀x∈r.blocks,bP x):∀x∈cH r,x.length=64/\bP x:=by
 obtain⟨g,h,i,m,n,o,p⟩:=BX hm
 intro x a
 rcases List.mem_cons.1 a with rfl|a
 ·refine⟨FR hm,?_⟩
  have:bP (uI r):=CJ hm d
  intro y f
  exact this y (by rw[HN];exact List.mem_append_left _ f)
 grind
end
end Lo
end
section
namespace So
open Go Go.Kx KM Rw Ge Sc Rg Mo Ds Rc Re Li
structure Um (S:KM.St) (b:Int):Prop where
 has:S.has b 1=true
 ref:bT S.m.l0 b=0∨((0<bT S.m.l0 b/\bT S.m.l0 b<S.d.now.length)/\(bT S.m.l0 b<S.first∨S.first+S.w.blocks.length<=bT S.m.l0 b))
section
variable {H B:PH} {L R:List Ob} {k n:Nat} {A:Ds.DA} {X:Ad} {W:Wt} {S:KM.St}
theorem SL {b:Int} {Q:Sl->Int->PH->Prop} (h:aA H (aC B::cD A X W S R)) (q:A.a=X.da) (l:mg B X S.c) (s:gJ B W S) (ok:bB k S) (hk:k+1< 2 ^ 28) (o:Um S b)
 (j:∀r e H',Ext B e->Bytes e r (S.read b).1->(S.read b).1.length=64->aA H' (aC e::cD A X W S R)->Q r 0 H'):lS (some X.sa) b H Q:=by
 have T:=qX (mode:=0) (S:=S) (may:=S.has b 1) ok.dk.off (.inl rfl) o.has
 have z:(S.read b).1=(S.bytes (bT S.m.l0 b)).1:=by
  unfold KM.St.read;grind
 rw[z] at j
 refine AQ h l ok.toji (by omega) ?_
 rw[o.has]
 refine ve h q ?_
 rw[qX (mode:=0) ok.dk.off (.inl rfl) rfl]
 refine aF rfl (aD (aU (x:=some X.ia) h 11 rfl rfl (Ig.KW (uw h) l.im ?_)))
 rcases o.ref with O|⟨g,p⟩
 ·have f:(S.bytes (bT S.m.l0 b)).1=List.replicate 64 0:=by unfold KM.St.bytes;grind
  rw[f] at j
  refine aW (by grind) (Ez (enc:=u8) (x:=(0:Int)) h (by omega) (by decide) λr H1 g=>iW g (by grind))
 ·have hf:=Lo.Gs ok
  have M:=ok.p2
  have U:=Sc.kX ok.c ok.p1
  have P:=ok.c.2.2.2.2.2
  have F:=Sc.qV ok.c
  have J:0<=S.first/\S.first<=8192:=by unfold KM.St.first KM.behind;omega
  have G:S.w.blocks.length<=64:=by unfold KM.behind at hf;omega
  have f:(S.bytes (bT S.m.l0 b)).1=S.d.sec (bT S.m.l0 b):=by
   unfold KM.St.bytes KM.St.D6
   rw[if_neg (by omega),if_neg (by omega),Fy ok.dk ⟨by omega,g.2⟩]
  rw[f] at j
  have D:=nZ ok.dk (at_:=bT S.m.l0 b) (by grind)
  refine aF (by simp;omega) (aD (aU (x:=some X.wa) h 11 rfl rfl (aF rfl (aD (aU (enc:=Sl.v) (x:=W.kC) h 8 rfl rfl ?_)))))
  have C:dX Sl.v H W.kC W.bl:=h.get 10 rfl
  have hlen:(W.kC.len:Int)=S.w.blocks.length:=by rw[C.list.bL,s.len]
  rw[hlen]
  refine av S.w.blocks.length (λi st y=>st=(i:Int)/\aA y (aC B::cD A X W S R)) ⟨rfl,h⟩ ?_
  rintro i st H1 again hi ⟨rfl,g1⟩ E
  refine aM (λc=>?_) (λc=>?_)
  ·have K:i<S.w.blocks.length:=by simpa using c
   have t:dX Sl.v H1 W.kC W.bl:=g1.get 10 rfl
   have I:W.bl.length=S.w.blocks.length:=s.len
   refine dm t.list (by omega) (by omega) λx V=>Ee g1 l ok.toji λu N=>?_
   rw[cK (x:=S.first+(i:Int)) (by omega) (by omega)]
   refine aF (by simp;omega) ?_
   rw[bK (by omega)]
   grind
  ·refine aD (aU (x:=some X.da) g1 8 rfl rfl ?_)
   rw[←q]
   refine BL (i:=4) g1 rfl ok.dk (by omega) (by grind) λr u p=>iW p (by grind)
def vL (S:KM.St) (n:Nat):List Bs:=(List.range n).map λ(j:Nat)=>(S.read j).1
theorem nR {Q:Sl->Bool->PH->Prop} (h:aA H (aC B::cD A X W S R)) (G:A.a=X.da) (K:mg B X S.c) (J:gJ B W S) (ok:bB k S) (hk:k+1< 2 ^ 28) (T:n<=64) (M:∀j:Nat,j<n->Um S j)
 (I:∀r bl b H',Ext B b->cL Sl.v b r bl->ij b bl (vL S n)->aA H' (aC b::cD A X W S R)->Q r true H'):mE (some X.sa) n H Q:=by
 refine av n (λi st E=>st.2=(i:Int)/\∃b bl,Ext B b/\ij b bl (vL S i)/\aA E (aC b::cD A X W S (aS Sl.v st.1 bl::R))) ⟨rfl,B,[],.refl _,.nil,(AB (enc:=Sl.v) h).ua⟩ ?_
 rintro i ⟨s,_⟩ H1 again hi ⟨e,C,bl,f,hB,g1⟩ t
 simp only at e g1;subst e
 refine aM (λc=>?_) (λc=>?_)
 ·have m:i<n:=by simpa using c
  refine SL g1 G (K.ext f) (J.ext f) ok hk (M i m) λy g O d w q o=>aE (aF rfl ?_)
  rw[w.bL,q]
  refine aF rfl (F0 (enc:=Sl.v) (l:=[y]) o rfl rfl λx P p=>?_)
  have u:bl.length=i:=by rw[hB.len];simp[vL]
  refine pe (l:=bl) (ys:=[y]) p 13 rfl (p.list (enc:=Sl.v) 1 rfl) (λ_=>rfl) rfl (by rw[u];simp;omega) λz D F=>?_
  rw[bK (by omega)]
  refine t m _ _ ⟨rfl,g,bl++[y],f.trans d,?_,(show aA D (aC g::aS Sl.v x [y]::cD A X W S (aS Sl.v z (bl++[y])::R)) from F).aq⟩
  have e:vL S (i+1)=vL S i++[(S.read i).1]:=by simp[vL,List.range_succ]
  rw[e];exact(hB.ext d).snoc w
 ·have:i=n:=by grind
  subst this
  obtain⟨g,d,N,o⟩:=(show aA H1 (aC C::(oX A X W S++aS Sl.v s bl::R)) from g1).wh.fz
  exact I s bl g H1 (f.trans d) (dX.list N) (hB.ext d) o
theorem LV {p q:Sl} {bl cl:List Sl} {fs:List Bs} {Q:Bool->PH->Prop} (a:cL Sl.v H p bl) (g:cL Sl.v H q cl) (hB:ij H bl fs) (d:ij H cl fs) (s:fs.length< 2 ^ 30) (o:∀f∈fs,f.length< 2 ^ 40) (m:Q true H):oS p q H Q:=by
 have e1:=hB.len;have e2:=d.len
 refine aF (by rw[a.bL,g.bL,e1,e2];simp) (av fs.length (λi st l=>st=(i:Int)/\l=H) (by grind) ?_)
 rintro i st H1 again hi ⟨rfl,rfl⟩ r
 rw[a.bL,e1]
 refine aM (λc=>?_) (λc=>m)
 have e:i<fs.length:=by simpa using c
 refine dm a (by omega) (by omega) λx h=>dm g (by omega) (by omega) λy j=>?_
 rw[Int.toNat_natCast] at h j
 have b:=List.getElem?_eq_getElem e
 refine Ma.Ef (hB.at_ i x _ h b) (d.at_ i y _ j b) (by grind) ?_
 rw[beq_self_eq_true]
 refine aF rfl ?_
 rw[bK (by omega)]
 grind
end
end So
end
section
namespace Rr
open Go Go.Kx KM BE Cr Rw Fm
section
variable {H B:PH} {L:List Ob} {a:Addr} {s p:Sl} {b l:List Int} {k w:Nat} {f:oW}
theorem CF {Q:Int->PH->Prop} (j:Bytes H s l) (C:bP l) (F:l.length< 2 ^ 62) (t:Q (mz l) H):sW s H Q:=by
 rw[Q4] at t
 refine Ma.Kr (by decide) (by decide) ?_
 have z:G2 .u32 (IntKind.wrap .u32 (0% 4294967296))=((BitVec.allOnes 32).toNat:Int):=by decide
 rw[z]
 refine av l.length (λk s1 H1=>H1=H/\s1=(((yG (BitVec.allOnes 32) (l.take k)).toNat:Int),(k:Int))) ⟨rfl,rfl⟩ ?_
 rintro k s1 H1 again hk ⟨rfl,rfl⟩ u
 refine aM (λg=>?_) (λg=>?_)
 ·have x:k<l.length:=by simp at g;rw[j.1] at g;omega
  refine dm j (by simp) (by omega) λy o=>?_
  obtain⟨A,E⟩:=C.get o
  rw[show((k:Int)).toNat=k by simp] at o
  refine av 8 (λi s2 q=>q=H1/\s2=(((wE (yG (BitVec.allOnes 32) (l.take k)) y.toNat i).toNat:Int),(((BitVec.ofNat 32 y.toNat)>>>i).toNat:Int),(i:Int))) ⟨rfl,?_⟩ ?_
  ·have D:IntKind.u32.wrap y=(((BitVec.ofNat 32 y.toNat)>>>0).toNat:Int):=by
    obtain⟨n,rfl⟩:=Int.eq_ofNat_of_zero_le A
    rfl
   rw[D];rfl
  rintro i s2 q r hi ⟨rfl,rfl⟩ d
  refine aM (λv=>?_) (λv=>?_)
  ·have c:i< 8:=by grind
   refine aE ?_
   have m:((BitVec.ofNat 32 y.toNat)>>>i).getLsbD 0=y.toNat.testBit i:=by
    grind
   have h:((BitVec.ofNat 32 y.toNat)>>>i)>>>1=(BitVec.ofNat 32 y.toNat)>>>(i+1):=by rfl
   dsimp only
   rw[Tn,m]
   refine aM (λe=>d c _ _ ⟨rfl,?_⟩) (λe=>d c _ _ ⟨rfl,?_⟩)
   ·rw[D0,D0,VZ,h,bC (by omega) (by omega)];simp only[wE,CA,e,if_true];rfl
   ·rw[D0,D0,h,bC (by omega) (by omega)];simp only[wE,CA,e];rfl
  ·have c:i=8:=by grind
   subst c
   refine u x _ _ ⟨rfl,?_⟩
   rw[bC (by omega) (by omega),oe o,Ac]
   rfl
 ·have:k=l.length:=by simp at g;rw[j.1] at g;omega
  subst this
  dsimp only
  rw[Va,Q0,List.take_length]
  exact t
theorem bH {x lo hi:Int} {Q:Bool->PH->Prop} (c:Q (bN x lo hi) H):dU x lo hi H Q:=dR (b:=decide (x<=hi)) (λk=>k) c
theorem zb {x y:Bs} {n:Nat} {Q:Bool->PH->Prop} (h:aA H (aC B::aJ a (cells s x.length)::aS u8 s (x++List.replicate n 0)::L)) (d:Bytes H p y) (hk:y.length<=n) (o:x.length+n<=2 ^ 30)
 (j:∀H',aA H' (aC B::aJ a (cells s (x++y).length)::aS u8 s (x++y++List.replicate (n-y.length) 0)::L)->Q true H'):lH (some a) p H Q:=by
 have c:=(h.list (enc:=u8) 2 rfl).bL
 refine aD (ak (x:=s) h rfl (aD (ak (x:=(x.length:Int)) h rfl (aF ?_ (aD (ak (x:=s) h rfl (aD (ak (x:=(x.length:Int)) h rfl ?_))))))))
 ·rw[c,d.bL,cK (by omega) (by simp;omega)];simp;omega
 rw[c]
 refine I9 h 2 rfl (by omega) (by grind) (by omega) λ_=>?_
 rw[Int.toNat_natCast,Int.toNat_natCast]
 refine z4 h 2 rfl (by simp) (by simp) d NQ λH1 e=>?_
 have e3:(x++List.replicate n (0:Int)).length-x.length=n:=by simp
 have e1:min y.length n=y.length:=by omega
 rw[e3,e1,List.take_left,List.take_of_length_le (by omega),List.drop_append,List.drop_eq_nil_of_le (by omega),List.nil_append,List.drop_replicate,Nat.add_sub_cancel_left] at e
 have g:aA H1 (aC B::aJ a (cells s x.length)::aS u8 s (x++y++List.replicate (n-y.length) 0)::L):=e
 refine aD (ak (x:=(x.length:Int)) g rfl (aD ?_))
 rw[d.bL,cK (by omega) (by omega)]
 refine xP g (by simp) rfl λi m=>j i ?_
 grind
def JO (w:Nat):Int:=256 ^ w- 1
theorem SM {Q:Int->PH->Prop} (hw:w=1∨w=2∨w=4) (c:Q (JO w) H):rF w H Q:=by
 rcases hw with rfl|rfl|rfl
 ·exact aW rfl c
 ·exact aF rfl (aW rfl c)
 ·exact aF rfl (aF rfl (aW rfl c))
theorem pZ {x:Bs} {n:Nat} {Q:Bool->PH->Prop} (h:aA H (aC B::aJ a (cells s x.length)::aS u8 s (x++List.replicate n 0)::L)) (V:gR B p l) (hw:w=1∨w=2∨w=4) (U:∀x∈l,0<=x/\x< 256 ^ w) (hk:w*l.length<=n) (hb:x.length+n<=2 ^ 30)
 (hQ:∀H',aA H' (aC B::aJ a (cells s (x++l.flatMap (le w)).length)::aS u8 s (x++l.flatMap (le w)++List.replicate (n-w*l.length) 0)::L)->Q true H'):gM (some a) w p H Q:=by
 have w1:1<=w:=by omega
 have w4:w<=4:=by omega
 have X:(256:Int) ^ w<=2 ^ 33/\(0:Int)< 256 ^ w:=by grind
 have hle:l.length<=w*l.length:=(by grind)
 have hB:gR H p l:=V.ext (h.base)
 have A:=(h.list (enc:=u8) 2 rfl).bL
 have C:(x++List.replicate n (0:Int)).length=x.length+n:=by simp
 refine SM hw (aE (aF (decide_eq_false (by unfold JO;omega)) (aD (ak (x:=s) h rfl ?_))))
 rw[A,hB.bL,decide_eq_false (by rw[C];omega)]
 refine aF rfl (aD (ak (x:=s) h rfl (aD (ak (x:=(x.length:Int)) h rfl ?_))))
 have W:(l.length:Int)*(w:Int)=((w*l.length:Nat):Int):=by grind
 rw[A,C,W,cK (x:=((w*l.length:Nat):Int)) (by omega) (by omega),cK (by omega) (by omega),decide_eq_false (by omega)]
 refine aF rfl (av l.length (λi st g=>st=(i:Int)/\g=H) (by grind) ?_)
 rintro i st H1 again hi ⟨rfl,rfl⟩ o
 refine aM (λc=>?_) (λc=>?_)
 ·have t:i<l.length:=by simpa using c
  refine dm hB (by omega) (by omega) λx F=>bH ?_
  have d:=U x (by grind)
  have e:bN x 0 (JO w)=true:=KM.bD.2 ⟨d.1,by unfold JO;omega⟩
  rw[e]
  refine aF rfl ?_
  rw[bK (by omega)]
  grind
 ·clear o
  refine av l.length (λi st g=>st=(i:Int)/\aA g (aC B::aJ a (cells s (x++(l.take i).flatMap (le w)).length)::aS u8 s (x++(l.take i).flatMap (le w)++List.replicate (n-w*i) 0)::L)) (by grind) ?_
  rintro i st G I aa ⟨rfl,q⟩ o
  have P:gR G p l:=V.ext (q.base)
  have S:(l.take i).length=i:=by simp;omega
  have hm:w*(i+1)=w*i+w:=rfl
  refine aM (λc=>?_) (λc=>?_)
  ·have t:i<l.length:=by simpa using c
   have ab:w*(i+1)<=w*l.length:=(by grind)
   refine dm P (by omega) (by omega) λy F=>?_
   have d:=U y (by grind)
   have R:(x++(l.take i).flatMap (le w)).length=x.length+w*i:=by rw[List.length_append,xr,S]
   generalize hz:x++(l.take i).flatMap (le w)=z at q R
   refine av w (λj st g=>st=(y/ 256 ^ j,(j:Int))/\aA g (aC B::aJ a (cells s (z.length+j))::aS u8 s (z++(le w y).take j++List.replicate (n-w*i-j) 0)::L)) (by grind) ?_
   rintro j st H3 J hj ⟨rfl,m⟩ E
   refine aM (λc3=>?_) (λc3=>?_)
   ·have T:j<w:=by simpa using c3
    have a0:0<=y/ 256 ^ j:=Int.ediv_nonneg d.1 (Int.le_of_lt (Int.pow_pos (by decide)))
    have a1:y/ 256 ^ j<=y:=Int.ediv_le_self _ d.1
    have u:(z++(le w y).take j).length=z.length+j:=by rw[List.length_append,List.length_take,bO];omega
    refine aD (ak (x:=s) m rfl (aD (ak (x:=((z.length+j:Nat):Int)) m rfl ?_)))
    have Z:IntKind.wrap .u8 (jd .i64 (y/ 256 ^ j) 255)=y/ 256 ^ j% 256:=by rw[J2 a0 (by omega),Ma.JJ];omega
    rw[Z]
    obtain⟨r,N⟩:∃r,n-w*i-j=r+1:=⟨n-w*i-j- 1,by omega⟩
    refine uk m 2 rfl (by omega) (by rw[List.length_append,u,N];simp;omega) rfl λH4 O=>aD (ak (x:=((z.length+j:Nat):Int)) (by exact O) rfl (aD ?_))
    rw[cK (by omega) (by omega)]
    refine xP O (by simp) rfl λY h5=>?_
    rw[bK (by omega),show(8:Int)=((8:Nat):Int) from rfl,CE a0 (by omega)]
    refine E T _ _ ⟨?_,?_⟩
    ·have e:y/ 256 ^ j/ 2 ^ 8=y/ 256 ^ (j+1):=by
      rw[Int.ediv_ediv_of_nonneg (Int.le_of_lt (Int.pow_pos (by decide))),Int.pow_succ];rfl
     rw[e]
    ·have e9:(((z.length+j:Nat):Int)).toNat=z.length+j:=by omega
     have K:(z++(le w y).take j++List.replicate (n-w*i-j) (0:Int)).set (z.length+j) (y/ 256 ^ j% 256)=z++(le w y).take (j+1)++List.replicate (n-w*i-(j+1)) 0:=by
      rw[List.set_append_right _ _ (by omega),u,Nat.sub_self,N,List.replicate_succ,List.set_cons_zero,EA w y j (by omega),EA w y (j+1) (by omega),le_succ,show n-w*i-(j+1)=r by omega]
      simp
     have D:aA Y (aC B::aJ a ((cells s (z.length+j)).set 1 (i64 (((z.length+j:Nat):Int)+1)))::aS u8 s ((z++(le w y).take j++List.replicate (n-w*i-j) (0:Int)).set (((z.length+j:Nat):Int)).toNat (y/ 256 ^ j% 256))::L):=h5
     rw[e9,K] at D
     have M:(cells s (z.length+j)).set 1 (i64 (((z.length+j:Nat):Int)+1))=cells s (z.length+(j+1)):=by
      show[Sl.v s,i64 (((z.length+j:Nat):Int)+1)]=[Sl.v s,i64 ((z.length+(j+1):Nat):Int)]
      rw[show(((z.length+j:Nat):Int)+1)=((z.length+(j+1):Nat):Int) by omega]
     rw[M] at D;exact D
   ·have:j=w:=by simp at c3;omega
    subst this
    rw[bK (by omega)]
    refine o t _ _ ⟨rfl,?_⟩
    have e1:(l.take (i+1)).flatMap (le j)=(l.take i).flatMap (le j)++le j y:=by rw[Int.toNat_natCast] at F;rw[oe F];simp
    have e2:(le j y).take j=le j y:=List.take_of_length_le (by simp[bO])
    rw[e1,hm,←List.append_assoc,hz,List.length_append,bO,Nat.sub_add_eq]
    rw[e2] at m;exact m
  ·have:i=l.length:=by simp at c;omega
   subst this
   rw[List.take_length] at q
   exact hQ G q
end
end Rr
end
section
namespace Rr
open Go Go.Kx KM BE Cr Rw Fm
section
variable {H B:PH} {L:List Ob} {a:Addr} {s p:Sl} {b l:List Int} {k w:Nat} {f:oW}
theorem ML {n:Nat} {Q:Option Addr->PH->Prop} (h:aA H (aC B::L)) (i:n<=65536) (e:∀a s H',aA H' (aC B::aJ a (cells s 0)::aS u8 s (List.replicate n 0)::L)->Q (some a) H'):pC n H Q:=by
 refine bH ?_
 rw[show bN (n:Int) 0 65536=true from KM.bD.2 (by omega)]
 refine aF rfl (Ez (enc:=u8) (x:=(0:Int)) h (by omega) (by omega) λr H1 d=>bG d λa c g=>e a r c ?_)
 grind
theorem XH {Q:Bool->PH->Prop} (h:(s.len:Int)=f.data.length) (hm:cx f=true) (n:f.kind≠8) (i:∀H',Ext H H'->Q true H'):mW (dL f s) H Q:=by
 refine dZ (.start H) λa H1 c m=>ak (x:=f.view) c rfl (bH ?_)
 have g:=i H1 m
 simp only[cx,Bool.and_eq_true] at hm
 obtain⟨j,hm⟩:=hm
 rw[j]
 refine aF rfl (ak (x:=f.seq) c rfl (bH (ak (x:=f.block) c rfl (bH (ak (x:=f.kind) c rfl ?_)))))
 split at hm
 ·next hk=>
  simp only[Bool.and_eq_true,beq_iff_eq] at hm
  obtain⟨⟨⟨⟨⟨m1,m2⟩,m3⟩,m4⟩,d⟩,e⟩:=hm
  rw[m1,m2]
  refine aW (by rw[hk];rfl) (aE (aW rfl (aE (aW rfl (ak (x:=f.count) c rfl ?_)))))
  rw[m4]
  refine aE (aW rfl (ak (x:=f.aQ) c rfl ?_))
  rw[d]
  refine aE (aW rfl (ak (x:=f.done) c rfl ?_))
  rw[e]
  refine aE (aW rfl (ak (en:=Sl.v) (x:=s) c rfl ?_))
  rw[h,m3];exact g
 ·next hk=>
  refine aF (by simpa using hk) ?_
  split at hm
  ·next hk=>
   simp only[Bool.and_eq_true,beq_iff_eq,KM.bD] at hm
   obtain⟨⟨⟨⟨⟨m1,m2⟩,m3⟩,d⟩,e⟩,m4⟩:=hm
   rw[show bN f.seq 1 2147483647=true from KM.bD.2 m1,show bN f.block 0 63=true from KM.bD.2 m2]
   refine aW (by rw[hk];rfl) (aE (aW rfl (aE (aW rfl (ak (x:=f.count) c rfl (ak (x:=f.block) c rfl (bH ?_)))))))
   rw[cK (by omega) (by omega),show bN f.count 1 (64-f.block)=true from KM.bD.2 m3]
   refine aE (aW rfl (ak (x:=f.aQ) c rfl ?_))
   rw[d]
   refine aE (aW rfl (ak (x:=f.done) c rfl ?_))
   rw[e]
   refine aE (aW rfl (ak (en:=Sl.v) (x:=s) c rfl ?_))
   rw[h,m4];exact g
  ·next hk=>
   refine aF (by simpa using hk) ?_
   split at hm
   ·next hk=>
    simp only[Bool.and_eq_true,beq_iff_eq] at hm
    obtain⟨⟨⟨⟨⟨m1,m2⟩,m3⟩,m4⟩,d⟩,e⟩:=hm
    rw[m1]
    refine aW (by rw[hk];rfl) (aE (aW rfl (ak (x:=f.block) c rfl ?_)))
    rw[m3]
    refine aE (aW rfl (ak (x:=f.count) c rfl ?_))
    rw[m4]
    refine aE (aW rfl (ak (x:=f.aQ) c rfl (bH ?_)))
    rw[m2]
    refine aE (aW rfl (ak (x:=f.done) c rfl ?_))
    rw[d]
    refine aE (aW rfl (ak (en:=Sl.v) (x:=s) c rfl ?_))
    rw[h,e];exact g
   ·next hk=>
    refine aF (by simpa using hk) ?_
    split at hm
    ·next hk=>
     simp only[Bool.and_eq_true,beq_iff_eq] at hm
     obtain⟨⟨⟨⟨⟨m1,m2⟩,m3⟩,m4⟩,d⟩,e⟩:=hm
     refine aF (by rw[hk];rfl) (aW (by rw[hk];rfl) (ak (x:=f.seq) c rfl ?_))
     rw[m1]
     refine aE (aW rfl (ak (x:=f.block) c rfl ?_))
     rw[m2]
     refine aE (aW rfl (ak (x:=f.count) c rfl ?_))
     rw[m3]
     refine aE (aW rfl (ak (x:=f.aQ) c rfl ?_))
     rw[m4]
     refine aE (aW rfl (ak (x:=f.done) c rfl ?_))
     rw[d]
     refine aE (aW rfl (ak (en:=Sl.v) (x:=s) c rfl ?_))
     rw[h,e];exact g
    ·cases hm
theorem PQ {l:List Int} {cs:List Value} {e m w n:Nat} {x:Bs} {K:PH->Prop} (h:aA H (aC B::aJ a (cells s x.length)::aS u8 s (x++List.replicate n 0)::L)) (o:cs=l.map i64) (hm:m=l.length) (hw:w=1∨w=2∨w=4) (q:∀x∈l,0<=x/\x< 256 ^ w) (hk:w*l.length<=n) (j:x.length+n<=2 ^ 30)
 (u:∀c H',Ext B c->aA H' (aC c::aJ a (cells s (x++l.flatMap (le w)).length)::aS u8 s (x++l.flatMap (le w)++List.replicate (n-w*l.length) 0)::L)->K H'):bZ H (row cs e) m λr d=>gM (some a) w r d λ_ g=>K g:=
 rY (enc:=i64) (l:=l) h o hm λr c d v t i=>pZ i t hw q hk j (by grind)
theorem xY {Q:Sl->Int->PH->Prop} (h:aA H (aC B::L)) (u:Bytes B s f.data) (Z:bP f.data) (hm:cx f=true) (X:f.kind≠8) (Y:∀z j H',Ext B j->Bytes j z (cV f)->aA H' (aC j::L)->Q z 0 H'):fp (dL f s) H Q:=by
 have P:=parts hm
 have hk:=P.kind;have hv:=P.view;have hq:=P.seq;have ac:=P.block;have hc:=P.count;have he:=P.aQ;have hd:=P.done
 have ad:f.data.length<=64:=by have:=P.data;omega
 refine bG h λa H1 F=>cQ (x:=dL f s) F rfl rfl (XH u.bL hm X λH2 x2=>?_)
 have I:=F.ext x2
 have M:=u.bL
 refine aF rfl (ak (en:=Sl.v) (x:=s) I rfl ?_)
 rw[M,cK (x:=25+(f.data.length:Int)) (by omega) (by omega),show(25+(f.data.length:Int))=((25+f.data.length:Nat):Int) by omega]
 refine ML (n:=25+f.data.length) I (by omega) λa2 y H3 J=>aU (x:=f.kind) J 3 rfl rfl ?_
 rw[Ma.JJ,show f.kind% 256=f.kind by omega]
 have m0:∀x∈[(75:Int),70,f.kind],0<=x/\x<=255:=(by grind)
 refine rY (enc:=u8) (l:=[75,70,f.kind]) J rfl rfl λr B4 H4 O hr K=>?_
 refine zb (x:=[]) (y:=[75,70,f.kind]) K (hr.ext K.base) (by simp;omega) (by simp;omega) λH5 o=>?_
 have m1:=two (a:=f.view) (b:=f.seq) (m:=256 ^ 4) (by omega) (by omega)
 refine aU (x:=f.view) o 3 rfl rfl (aU (x:=f.seq) o 3 rfl rfl (PQ (l:=[f.view,f.seq]) o rfl rfl (by decide) m1 (by simp;omega) (by grind) λB6 H6 R q=>?_))
 have m2:=two (a:=f.block) (b:=f.count) (m:=256 ^ 1) (by omega) (by omega)
 refine aU (x:=f.block) q 3 rfl rfl (aU (x:=f.count) q 3 rfl rfl (PQ (l:=[f.block,f.count]) q rfl rfl (by decide) m2 (by simp;omega) (by simp[bO];omega) λB7 H7 S t=>?_))
 have m3:=two (a:=f.aQ) (b:=f.done) (m:=256 ^ 4) (by omega) (by omega)
 refine aU (x:=f.aQ) t 3 rfl rfl (aU (x:=f.done) t 3 rfl rfl (PQ (l:=[f.aQ,f.done]) t rfl rfl (by decide) m3 (by simp;omega) (by simp[bO];omega) λU H8 T e=>?_))
 have N:Ext B U:=O.trans (R.trans (S.trans T))
 refine aU (enc:=Sl.v) (x:=s) e 3 rfl rfl (zb e ((u.ext N).ext e.base) (by simp;omega) (by simp[bO];omega) λH9 c=>?_)
 have V:[]++[(75:Int),70,f.kind]++[f.view,f.seq].flatMap (le 4)++[f.block,f.count].flatMap (le 1)++[f.aQ,f.done].flatMap (le 4)++f.data=jT f:=by
  rw[BG _ m2,jT];simp
 rw[V] at c
 have W:25+f.data.length-[(75:Int),70,f.kind].length- 4*[f.view,f.seq].length- 1*[f.block,f.count].length- 4*[f.aQ,f.done].length-f.data.length=4:=by simp;omega
 rw[W] at c
 have ab:(jT f).length=21+f.data.length:=rK
 refine aD (ak (en:=Sl.v) (x:=y) c rfl (aD (ak (x:=((jT f).length:Int)) c rfl ?_)))
 refine ni (c.list (enc:=u8) 2 rfl) (by omega) (by omega) (by simp;omega) λr0 g _=>?_
 have e2:((jT f++List.replicate 4 (0:Int)).drop (0:Int).toNat).take (((jT f).length:Int).toNat-(0:Int).toNat)=jT f:=by simp
 rw[e2] at g
 refine CF g (FH P Z) (by omega) ?_
 have i:=AA (jT f)
 refine PQ (l:=[mz (jT f)]) c rfl rfl (by decide) (λx g=>by have:=List.mem_singleton.1 g;subst this;exact⟨i.1,by have:=i.2;show _<(4294967296:Int);omega⟩) (by simp) (by omega) λaa E A d=>aD (ak (en:=Sl.v) (x:=y) d rfl ?_)
 have e3:jT f++[mz (jT f)].flatMap (le 4)++List.replicate (4- 4*[mz (jT f)].length) 0=cV f:=by
  rw[cV,closed];simp
 rw[e3] at d
 refine iW d.aq λD C hz G=>Y y D E (N.trans (A.trans C)) hz G.aq
end
end Rr
end
section
namespace Lo
open Go Go.Kx KM So Rc
section
variable {b:Int} {S:KM.St} {rg:fH} {m1:Im} {l:List (Pos×Rec)} {e:Pos} {F:KM.Fd} {k j:Nat} {c:ax} {st:Int->Int} {free:Nat}
theorem LW (a:bE c):all c<=2078:=Sc.qV a
theorem tU.emit (h:tU b S st free rg m1 l e F) (ok:bB k S) (hk:k+1< 2 ^ 28):∃Z U Q,tU b S.emit st free rg m1 Z U Q:=by
 by_cases he:S.w.items=[]
 ·have H:S.emit=S:=by unfold KM.St.emit;grind
  grind
 ·have H:S.emit=(S.aY.jM S.w.items S.w.blocks).bare:=by unfold KM.St.emit;grind
  obtain⟨e1,f⟩:=h.aY ok (by omega)
  obtain⟨a,w2,w3,w4⟩:=ok.toji.aY (by omega) ok.lt
  obtain⟨E,R,G,b4,b5,b6,⟨b7,aa⟩,T⟩:=ok.toji.Cv
  have hm:=ok.may (by omega) he
  have hf:=(ok.fit he).2
  rw[E,R] at hm
  have r:=f.log.e1;have u:=f.log.e2
  have ac:behind S.aY.w.p.2.1 S.w.blocks.length=S.aY.w.p.2.1+(1+(S.w.blocks.length:Int)):=by unfold behind;omega
  have W:S.aY.w.p.2.1+(1+(S.w.blocks.length:Int))<S.aY.c.2.2:=by rw[G,T];unfold behind at hf;omega
  have A:∀x∈S.w.blocks,bP x:=λx q=>(ok.xy x q).2
  have o:=EL hm A
  have O:∀i∈S.w.items,i.1≠7:=h.LP
  have Y:=f.log.rec_ a.c a.dk a.len a.p1 w2 hm A o (by grind) rfl rfl rfl h.bz O
  have P:(cH (du S.aY S.w.items S.w.blocks)).length=1+S.w.blocks.length:=by rw[cH,List.length_cons];show S.w.blocks.length+1=_;omega
  have B:=eK a.c a.p1 (x:=S.aY.w.p.2.1) (by omega)
  have ae:=eK a.c a.p1 (x:=S.aY.w.p.2.1+(1+(S.w.blocks.length:Int))) (by omega)
  have ad:=a.len
  have g:=LU (c:=S.aY.c) ⟨f.f0.1,f.f0.2.1⟩ f.f1 (e1,du S.aY S.w.items S.w.blocks) h.i3
  have N:=f.f0.2.2
  rw[E] at N
  have af:(F.dh S.aY.c (e1,du S.aY S.w.items S.w.blocks)).seq<=F.seq+S.w.items.length:=g.s
  have X:=Cj a.c a.dk B.1 (by omega) o
  have hu:∀x,Us S.aY.c st S.aY.w.p.1 S.aY.w.p.2.1 x->Us S.aY.c st S.aY.w.p.1 (behind S.aY.w.p.2.1 S.w.blocks.length) x:=λx q=>q.mono (by simp) (by omega)
  have C:=f.hd.mf
  have J:GF S.aY.c (S.aY.d.dW (aZ S.aY.c S.aY.w.p.1+S.aY.w.p.2.1) (cH (du S.aY S.w.items S.w.blocks))) S.aY.n.lb S.aY.n.lo st (S.aY.w.p.1,behind S.aY.w.p.2.1 S.w.blocks.length,S.aY.w.p.2.2.1+1,cX (du S.aY S.w.items S.w.blocks),S.aY.w.p.2.2.2.2) F:=
   f.gF.to a.c C (by grind) hu
  have I:=J.dh (x:=(e1,du S.aY S.w.items S.w.blocks)) λy D z=>by
   have D:aZ S.aY.c e1.1+e1.2.1<=y:=D
   have z:y<=aZ S.aY.c e1.1+e1.2.1+S.w.items.countP bM:=z
   rw[r,u] at D z
   rw[←ok.bl] at z
   exact⟨S.aY.w.p.1,y-aZ S.aY.c S.aY.w.p.1,a.p1,by omega,by omega,by grind,by simp⟩
  have L:GS S.aY.c S.aY.d S.aY.n.lb S.aY.n.lo st S.aY.w.p S.w.blocks.length S.aY.m S.aY.t.v:=by have:=f.gS;grind
  have K:GS S.aY.c (S.aY.d.dW (aZ S.aY.c S.aY.w.p.1+S.aY.w.p.2.1) (cH (du S.aY S.w.items S.w.blocks))) S.aY.n.lb S.aY.n.lo st (S.aY.w.p.1,behind S.aY.w.p.2.1 S.w.blocks.length,S.aY.w.p.2.2.1+1,cX (du S.aY S.w.items S.w.blocks),S.aY.w.p.2.2.2.2) 0 S.aY.m S.aY.t.v:=
   L.to a.c C (by grind) hu λx q=>.inl (.inr (Nr (s:=0) a.c a.p1 (by omega) (by omega) q))
  rw[H]
  refine⟨l++[(e1,du S.aY S.w.items S.w.blocks)],nx e1 (du S.aY S.w.items S.w.blocks),F.dh S.aY.c (e1,du S.aY S.w.items S.w.blocks),⟨f.hd.oV a.c (Cj a.c a.dk B.1 (by rw[P];omega) o),?_,f.ref,?_,I,K,(λi hi=>by cases hi),(λx q=>by cases q),f.pm,⟨g.d.1,g.d.2,?_⟩,g.e,(λi hi=>by cases hi),(λi hi=>by cases hi),?_,h.bb⟩⟩
  ·show Log S.aY.c (S.aY.d.dW (aZ S.aY.c S.aY.w.p.1+S.aY.w.p.2.1) (cH (du S.aY S.w.items S.w.blocks))) st free (S.aY.w.p.1,behind S.aY.w.p.2.1 S.w.blocks.length,S.aY.w.p.2.2.1+1,cX (du S.aY S.w.items S.w.blocks),S.aY.w.p.2.2.2.2) rg m1 _ _ _
   grind
  ·refine LF f.Cg (x:=(e1,du S.aY S.w.items S.w.blocks)) ?_ ?_
   ·grind
   ·show aZ S.aY.c e1.1+e1.2.1+S.w.items.countP bM<all S.aY.c
    rw[r,u,←ok.bl];omega
  ·show _+((0:Nat):Int)<=b
   omega
  ·have ab:=h.bb
   have V:=LW a.c
   refine Ci l _ f.rl ?_
   have M:l.foldl (KM.Fd.dh S.aY.c) (SK S.aY.c rg m1)=F:=f.log.fold.symm
   show ud S.aY.c S.aY.c.1.toNat (l.foldl (KM.Fd.dh S.aY.c) (SK S.aY.c rg m1)) (e1,du S.aY S.w.items S.w.blocks)=true
   rw[M]
   refine Nt (c:=S.aY.c) ⟨f.f0.1,f.f0.2.1⟩ f.f1 (e1,du S.aY S.w.items S.w.blocks) h.i3 (by grind) (λi hi=>.inl (by rw[G];exact h.Ik i hi)) ?_ ?_
   ·show 1<=aZ S.aY.c e1.1+e1.2.1
    rw[r,u];have:=fB a.c;omega
   ·show aZ S.aY.c e1.1+e1.2.1+S.w.items.countP bM<=4095
    rw[r,u,←ok.bl];omega
theorem zt (ok:bB k S):dP S.emit.t.l=dP S.t.l:=by
 unfold KM.St.emit
 split
 ·rfl
 ·obtain⟨f,h,i,m,a,n,⟨o,d⟩,p⟩:=ok.toji.Cv
  show dP (eC S.aY.t.l _ _)=_
  funext g
  rw[vk,a]
theorem tU.cR (h:tU b S st free rg m1 l e F) (ok:bB k S) (hk:k+20< 2 ^ 28) (hi:S.w.items=[]) (hb:S.w.blocks=[]) (V:1<=S.w.p.2.1) {g:Int} (M:0<=g/\g<S.c.2.1) (U:st g=0) (T:1<=free):
 ∃l' J Z,tU b (S.cR g) (λx=>if x=S.w.p.1 then 2 else if x=g then 1 else st x) (free- 1) rg m1 l' J Z:=by
 have h6:=ok.c.2.2.2.1;have h5:=ok.c.2.2.2.2.1;have f:=ok.c
 have hm:=w6 (g:=g) (by grind) ok.toji (by omega)
 have ai:=ok.lt
 obtain⟨u1,u2⟩:=ok.toji.jM (by omega) hm (by simp) V (by grind)
 have u3:=ym u1 (g:=g) M S.w.p.1
 have E:=u3.head (by omega)
 have o:=EL hm (by simp)
 have q:(cH (du S [(7,0,0,g)] [])).length=1:=rfl
 have et:S.cR g={S with d:=(S.d.dW (aZ S.c S.w.p.1+S.w.p.2.1) (cH (du S [(7,0,0,g)] []))).put (aZ S.c g) (gH g S.w.p.2.2.2.2 (S.w.p.2.2.1+1) (cX (du S [(7,0,0,g)] []))),t:={S.t with l:=kT (eC S.t.l S.w.p.1 S.w.p.2.2.1) S.w.p.1},w:={S.w with p:=(g,1,S.w.p.2.2.1+1,cX (du S [(7,0,0,g)] []),S.w.p.2.2.2.2)}}:=by
  rfl
 have z:(gH g S.w.p.2.2.2.2 (S.w.p.2.2.1+1) (cX (du S [(7,0,0,g)] []))).length=64:=rfl
 have u:bP (gH g S.w.p.2.2.2.2 (S.w.p.2.2.1+1) (cX (du S [(7,0,0,g)] []))):=Hd.uY E
 obtain⟨J,hL⟩:=h.log.cR f ok.dk ok.len ok.p1 V hm o (by omega) rfl rfl rfl M U rfl rfl E z u T
 have W:=h.log.e1;have X:=h.log.e2
 have G:=eK f ok.p1 (x:=S.w.p.2.1) (by omega)
 have Y:=eK f M (x:=0) (by grind)
 rw[Int.add_zero] at Y
 have ah:=ok.len
 have af:=fB f
 obtain⟨I,A⟩:=tu (cH (du S [(7,0,0,g)] [])) (at_:=aZ S.c S.w.p.1+S.w.p.2.1) ok.dk (by omega) (by rw[q];show _+(1:Int)<=_;omega) o
 have r:=LU (c:=S.c) ⟨h.f0.1,h.f0.2.1⟩ h.f1 (e,du S [(7,0,0,g)] []) (λi s h3=>by
  have:=List.mem_singleton.1 s;subst this;cases h3)
 have ak:(F.dh S.c (e,du S [(7,0,0,g)] [])).seq<=F.seq:=by
  have hn:(F.dI S.w.p.2.2.2.2).seq<=F.seq:=by
   unfold KM.Fd.dI
   split
   ·exact h.f0.2.1
   simp
  exact hn
 have D:=h.f0.2.2
 rw[hi] at D
 have ad:=h.log.Cx
 have aj:S.w.p.1≠g:=(by grind)
 have ac:∀a,a<base S.c->((S.d.dW (aZ S.c S.w.p.1+S.w.p.2.1) (cH (du S [(7,0,0,g)] []))).put (aZ S.c g) (gH g S.w.p.2.2.2.2 (S.w.p.2.2.1+1) (cX (du S [(7,0,0,g)] [])))).sec a=S.d.sec a:=λa L=>by
  rw[mh I (by rw[A];omega) z u,if_neg (by omega),Cj f ok.dk G.1 (by rw[q];show _+(1:Int)<=_;omega) o a L]
 have hu:∀x,Us S.c st S.w.p.1 S.w.p.2.1 x->Us S.c (λx=>if x=S.w.p.1 then 2 else if x=g then 1 else st x) g 1 x:=λx C=>C.mono (by omega) (by omega)
 have H:=h.hd.mf
 have O:GF S.c ((S.d.dW (aZ S.c S.w.p.1+S.w.p.2.1) (cH (du S [(7,0,0,g)] []))).put (aZ S.c g) (gH g S.w.p.2.2.2.2 (S.w.p.2.2.1+1) (cX (du S [(7,0,0,g)] [])))) S.n.lb S.n.lo (λx=>if x=S.w.p.1 then 2 else if x=g then 1 else st x) (g,1,S.w.p.2.2.1+1,cX (du S [(7,0,0,g)] []),S.w.p.2.2.2.2) F:=
  h.gF.to f H (by grind) hu
 have Q:([(7,0,0,g)]:List eG).countP bM=0:=by
  rw[List.countP_cons]
  have:bM (7,0,0,g)=false:=by rw[bM];simp
  grind
 have N:=O.dh (x:=(e,du S [(7,0,0,g)] [])) λy K B=>by
  have K:aZ S.c e.1+e.2.1<=y:=K
  have B:y<=aZ S.c e.1+e.2.1+(([(7,0,0,g)]:List eG).countP bM:Nat):=B
  rw[W,X] at K B
  rw[Q] at B
  exact⟨S.w.p.1,y-aZ S.c S.w.p.1,ok.p1,by omega,by omega,by omega,by simp⟩
 have P:GS S.c ((S.d.dW (aZ S.c S.w.p.1+S.w.p.2.1) (cH (du S [(7,0,0,g)] []))).put (aZ S.c g) (gH g S.w.p.2.2.2.2 (S.w.p.2.2.1+1) (cX (du S [(7,0,0,g)] [])))) S.n.lb S.n.lo (λx=>if x=S.w.p.1 then 2 else if x=g then 1 else st x) (g,1,S.w.p.2.2.1+1,cX (du S [(7,0,0,g)] []),S.w.p.2.2.2.2) S.w.blocks.length S.m S.t.v:=
  h.gS.to f H (by grind) hu (by grind)
 rw[et]
 refine⟨l++[(e,du S [(7,0,0,g)] [])],J,F.dh S.c (e,du S [(7,0,0,g)] []),⟨h.hd.oV f (λa L=>?_),hL,h.ref,?_,N,P,(λi s=>by rw[show({S with d:=_,t:=_,w:={S.w with p:=_}}:KM.St).w.items=S.w.items from rfl,hi] at s;cases s),(λx C=>by rw[show({S with d:=_,t:=_,w:={S.w with p:=_}}:KM.St).w.blocks=S.w.blocks from rfl,hb] at C;cases C),h.pm,⟨r.d.1,r.d.2,?_⟩,r.e,h.i3,h.Ik,?_,h.bb⟩⟩
 ·show((S.d.dW _ _).put _ _).sec a=S.d.sec a
  rw[mh I (by rw[A];omega) z u,if_neg (by omega),Cj f ok.dk G.1 (by rw[q];show _+(1:Int)<=_;omega) o a L]
 ·refine LF h.Cg (x:=(e,du S [(7,0,0,g)] [])) ?_ ?_
  ·grind
  grind
 ·grind
 ·have ae:=h.bb
  have aa:=LW f
  have ab:F.seq+((0:Nat):Int)<=b:=D
  refine Ci l _ h.rl ?_
  have R:l.foldl (KM.Fd.dh S.c) (SK S.c rg m1)=F:=h.log.fold.symm
  show ud S.c S.c.1.toNat (l.foldl (KM.Fd.dh S.c) (SK S.c rg m1)) (e,du S [(7,0,0,g)] [])=true
  rw[R]
  have ag:([(7,0,0,g)]:List eG).countP bM<=0:=by
   omega
  refine Nt (c:=S.c) ⟨h.f0.1,h.f0.2.1⟩ h.f1 (e,du S [(7,0,0,g)] []) (by simp) (by grind) (by simp) ?_ ?_
  ·grind
  grind
end
end Lo
end
section
namespace Lo
open Go Go.Kx KM So Rc
section
variable {b:Int} {S:KM.St} {rg:fH} {m1:Im} {l:List (Pos×Rec)} {e:Pos} {F:KM.Fd} {k j:Nat} {c:ax} {st:Int->Int} {free:Nat}
theorem tU.mono (h:tU b S st free rg m1 l e F) {a:Int} (g:b<=a) (d:a<=2147483646):tU a S st free rg m1 l e F:=
 {h with bb:=d,f0:=⟨h.f0.1,h.f0.2.1,by have:=h.f0.2.2;omega⟩,f1:=⟨h.f1.1,by have:=h.f1.2;omega⟩,i3:=λi hi f=>by have:=h.i3 i hi f;omega}
theorem Y9 (S:KM.St) (g:Int):(S.cR g).t.l=kT (eC S.t.l S.w.p.1 S.w.p.2.2.1) S.w.p.1:=by
 rfl
theorem Lg.room (h:Lg b S rg m1 l e F) (ok:bB k S) (hk:k+40< 2 ^ 28) {bb:Int} (R:bb=0∨bb=1) (sp:Bool):∃r i f,Lg b (S.room bb sp).1 rg m1 r i f:=by
 have P:=ok.c.2.2.2.2.1
 rcases wV S bb sp with⟨c1,m⟩|⟨_,c2,m⟩|⟨_,_,_,m⟩|⟨_,c2,c3,m⟩
 ·grind
 ·rw[m]
  obtain⟨r,i,f,s⟩:=h.emit ok (by omega)
  refine⟨r,i,f,?_⟩
  show tU b S.emit (dP S.emit.t.l) (cG S.emit.t.l) rg m1 r i f
  rw[zt ok,qi ok];exact s
 ·grind
 ·rw[m]
  have K:=yn S.t.l sp
  have Z:=ok.tb.l
  have Y:=ok.c.2.2.1
  rcases K with⟨K,U⟩|⟨V,W,o⟩
  ·omega
  have y:0<=bY S.t.l sp/\bY S.t.l sp<S.t.l.length:=(by grind)
  have A:0<=bY S.t.l sp/\bY S.t.l sp<S.c.2.1:=by omega
  have d:dP S.t.l (bY S.t.l sp)=0:=by
   have:=o
   rw[jP,Bool.and_eq_true,beq_iff_eq] at this
   exact this.2
  have G:=IS o
  generalize bY S.t.l sp=g at y A d G o ⊢
  have n:=ok.jh g
  have O:tU b ({S with t:=S.t.jh g}:KM.St) (dP S.t.l) (cG S.t.l) rg m1 l e F:=⟨h.hd,h.log,h.ref,h.Cg,h.gF,h.gS.jh ok.c ok.p1 ok.p2.1 (Gs ok) d (λB=>by rw[B,h.log.Cx] at d;cases d),h.LP,h.bz,h.pm,h.f0,h.f1,h.i3,h.Ik,h.rl,h.bb⟩
  obtain⟨r,i,f,s⟩:=O.emit n (by omega)
  obtain⟨e1,e2,e3,e4,e5,L,M,X,E⟩:=n.emit (by omega)
  have a:=wU n (by omega)
  have z:=zt n
  have v:=qi n
  generalize({S with t:=S.t.jh g}:KM.St).emit=T at e1 e2 e3 e4 e5 L M E a s z v ⊢
  have e4:T.c=S.c:=e4
  have a:T.w.p.2.1=(if S.w.items.isEmpty then S.w.p.2.1 else behind S.w.p.2.1 S.w.blocks.length):=a
  have I:1<=T.w.p.2.1:=by rw[a];exact yo P R c2
  have J:T.w.p.1=S.w.p.1:=E.1.1
  obtain⟨l2,u,D,Q⟩:=s.cR e1 (by omega) e2 e3 I (g:=g) (by rw[e4];exact A) d (by omega)
  have q:=h.log.Cx
  have C:dP (({S with t:=S.t.jh g}:KM.St).t.l)=λx=>if x=g then 1 else dP S.t.l x:=funext λx=>Cc y d x
  refine⟨l2,u,D,?_⟩
  have es:dP (T.cR g).t.l=λx=>if x=T.w.p.1 then 2 else if x=g then 1 else dP S.t.l x:=funext λx=>by
   have H:S.w.p.1≠g:=λB=>by rw[←B,q] at d;cases d
   rw[Y9,LB,vk,vk,z,C]
   simp only
   rw[J,if_neg H,q]
   simp only[and_true]
  have N:cG (T.cR g).t.l=cG S.t.l- 1:=by
   rw[IT e1 (by omega) I (by rw[e4];exact A),v]
   show cG (kF S.t.l g)=_
   omega
  show tU b (T.cR g) (dP (T.cR g).t.l) (cG (T.cR g).t.l) rg m1 l2 u D
  rw[es,N];exact Q
theorem Lg.add (h:Lg b S rg m1 l e F) (ok:bB k S) (hk:k+40< 2 ^ 28) {i:eG} {bo:Option Bs} {sp:Bool} (v:i.1≠7) (y:∀x,bo=some x->dV x=0) (u:i.1=3->0<=i.2.2.2/\i.2.2.2<=b+1) (t:Ba S.c.1.toNat i) (m:b+1<=2147483646):
 ∃r q o,Lg (b+1) (S.add i bo sp).1 rg m1 r q o:=by
 have f:(if bo.isSome then(1:Int) else 0)=0∨(if bo.isSome then(1:Int) else 0)=1:=by omega
 obtain⟨r,q,o,d⟩:=h.room ok hk f sp
 have g:=(BP ok hk f sp).c
 have n:=(BP ok hk f sp).ok.c
 refine⟨r,q,o,?_⟩
 by_cases he:(S.room (if bo.isSome then 1 else 0) sp).2=0
 ·have e:(S.add i bo sp).1=(S.room (if bo.isSome then 1 else 0) sp).1.hold i bo:=by
   unfold KM.St.add;grind
  rw[e]
  generalize(S.room (if bo.isSome then 1 else 0) sp).1=T at d g n ⊢
  refine⟨d.hd,d.log,d.ref,d.Cg,d.gF,d.gS.to n d.hd.mf (λ_ _ _=>rfl) (λ_ a=>a) (λx a=>.inr ?_),λx a=>?_,λx a=>?_,d.pm,⟨d.f0.1,d.f0.2.1,?_⟩,⟨d.f1.1,by have:=d.f1.2;omega⟩,λx a s=>?_,λx a=>?_,d.rl,m⟩
  ·show aZ T.c T.w.p.1+KM.behind T.w.p.2.1 0<=x/\x<aZ T.c T.w.p.1+KM.behind T.w.p.2.1 ((T.w.blocks++bo.toList).length:Nat)
   rw[List.length_append]
   unfold vK KM.behind at a
   unfold KM.behind
   omega
  ·rcases List.mem_append.1 a with a|a
   ·exact d.LP x a
   grind
  ·rcases List.mem_append.1 a with a|a
   ·exact d.bz x a
   grind
  ·show _+((T.w.items++[i]).length:Int)<=_
   rw[List.length_append,List.length_singleton]
   have:=d.f0.2.2;omega
  ·rcases List.mem_append.1 a with a|a
   ·have:=d.i3 x a s;omega
   grind
  ·rcases List.mem_append.1 a with a|a
   ·exact d.Ik x a
   ·have:=List.mem_singleton.1 a;subst this;show Ba T.c.1.toNat _;rw[g];exact t
 ·have e:(S.add i bo sp).1=(S.room (if bo.isSome then 1 else 0) sp).1:=by
   unfold KM.St.add;grind
  rw[e]
  exact d.mono (by omega) m
theorem ZA (ok:bB k S) (hk:k+40< 2 ^ 28) {i:eG} {x:Bs} {sp:Bool} (he:(S.add i (some x) sp).2.2=0):base S.c<=(S.add i (some x) sp).2.1/\(S.add i (some x) sp).2.1<all S.c:=by
 have d:=BP ok hk (b:=1) (.inr rfl) sp
 have f:(S.room 1 sp).2=0:=by
  by_cases a:(S.room 1 sp).2=0
  ·exact a
  ·exfalso;apply a
   have:(S.add i (some x) sp).2.2=(S.room 1 sp).2:=by
    unfold KM.St.add;grind
   omega
 have e:(S.add i (some x) sp).2.1=(S.room 1 sp).1.first+(S.room 1 sp).1.w.blocks.length:=by
  unfold KM.St.add;grind
 rw[e]
 have hf:=d.fits f
 obtain⟨o1,o2,o3,h,m,_⟩:=d
 generalize(S.room 1 sp).1=T at*
 rw[←o2]
 unfold KM.fits KM.behind at hf
 simp only[Bool.and_eq_true,decide_eq_true_eq] at hf
 have g:=o1.p2
 have:=eK o1.c o1.p1 (x:=behind T.w.p.2.1 0+T.w.blocks.length) ⟨by unfold KM.behind;omega,by unfold KM.behind;omega⟩
 unfold KM.St.first
 omega
theorem Un {i:eG} {x:Bs} {sp:Bool} (he:(S.add i (some x) sp).2.2=0):vK (S.add i (some x) sp).1.c (S.add i (some x) sp).1.w.p (S.add i (some x) sp).1.w.blocks.length (S.add i (some x) sp).2.1:=by
 have d:(S.room 1 sp).2=0:=by
  by_cases a:(S.room 1 sp).2=0
  ·exact a
  ·exfalso;apply a
   have:(S.add i (some x) sp).2.2=(S.room 1 sp).2:=by
    unfold KM.St.add;grind
   omega
 have e:S.add i (some x) sp=((S.room 1 sp).1.hold i (some x),(S.room 1 sp).1.first+(S.room 1 sp).1.w.blocks.length,0):=by
  unfold KM.St.add;grind
 rw[e]
 generalize(S.room 1 sp).1=T
 show aZ T.c T.w.p.1+KM.behind T.w.p.2.1 0<=T.first+T.w.blocks.length/\T.first+T.w.blocks.length<aZ T.c T.w.p.1+KM.behind T.w.p.2.1 ((T.w.blocks++[x]).length:Nat)
 rw[List.length_append,List.length_singleton]
 unfold KM.St.first KM.behind
 omega
theorem nM.of_n {D:Dk} {n n':KM.Sn} (h:nM c D n rg m1) (a:bE c) (d:n'.slot=n.slot/\n'.gen=n.gen/\n'.lb=n.lb/\n'.lo=n.lo) (hm:n'.aN=n.aN):nM c D n' rg m1:=
 h.alike a (by simp) d (by rw[hm];exact h.sup) (by rw[hm];exact h.LG)
theorem tU.nm (h:tU b S st free rg m1 l e F) (f:bE S.c) {n':KM.Sn} {m':Im} (a:n'.slot=S.n.slot/\n'.gen=S.n.gen/\n'.lb=S.n.lb/\n'.lo=S.n.lo) (hm:n'.aN=S.n.aN) (i:cS S.c m') (v:List Int) (g:GS S.c S.d n'.lb n'.lo st S.w.p S.w.blocks.length m' v):
 tU b ({S with n:=n',m:=m',t:={S.t with v:=v}}:KM.St) st free rg m1 l e F:=
 ⟨h.hd.of_n f a hm,h.log,i,h.Cg,by rw[show({S with n:=n',m:=m',t:={S.t with v:=v}}:KM.St).n=n' from rfl,a.2.2.1,a.2.2.2];exact h.gF,g,h.LP,h.bz,by show S.w.p.2.2.2.2=n'.aN;rw[hm];exact h.pm,h.f0,h.f1,h.i3,h.Ik,h.rl,h.bb⟩
theorem Lg.lay (h:Lg b S rg m1 l e F) (ok:bB k S) (hk:k+40< 2 ^ 28) {x:Int} {data:Bs} (hm:S.n.mode=1) (q:S.has x 1=true) (hd:data.length=64) (s:bP data) (he:(S.add (1,x,0,0) (some data) false).2.2=0) (hi:cB (1,x,0,0)=true) (B:dV data=0) (r:b+1<=2147483646):
 ∃p g f,Lg (b+1) (S.lay true x data).1 rg m1 p g f:=by
 obtain⟨p,g,f,o⟩:=h.add ok hk (i:=(1,x,0,0)) (bo:=some data) (sp:=false) (show(1:Int)≠7 by decide) (λy A=>by cases A;exact B) (λu=>by cases u) (by have:=uf ok.toji q;exact .inl ⟨rfl,by show 0<=x;omega,by show x<_;omega⟩) r
 have d:=ZA ok hk he
 have w:bM (1,x,0,0)=true:=by rw[bM,hi];rfl
 obtain⟨P,_⟩:=qY (sp:=false) ok hk hi (b:=some data) (by rw[w];rfl) (by grind)
 rw[GY ok hk hm q hd s he hi]
 have z:=h.ref
 obtain⟨o1,o2,o3,t,C⟩:=P
 have a:=Un he
 generalize(S.add (1,x,0,0) (some data) false).2.1=at' at d a ⊢
 generalize(S.add (1,x,0,0) (some data) false).1=T at o o1 o2 o3 t C a ⊢
 have v:=o.gS.put o1.c (by have:=fB o1.c;omega) x (.inr a)
 refine⟨p,g,f,?_⟩
 exact o.nm o1.c (n':={S.n with seq:=S.n.seq+1}) (m':=S.m.put true x at') (by rw[o3];exact⟨rfl,rfl,rfl,rfl⟩) (by rw[o3]) (by rw[o2];exact z.put (.inl (.inr d))) _ (by rw[show({S.n with seq:=S.n.seq+1}:KM.Sn).lb=T.n.lb by rw[o3],show({S.n with seq:=S.n.seq+1}:KM.Sn).lo=T.n.lo by rw[o3],←t];exact v)
theorem tU.flush (h:tU b S st free rg m1 l e F) (ok:bB k S):tU b ({S with d:=S.d.flush}:KM.St) st free rg m1 l e F:=
 ⟨h.hd.sec (E:=S.d.flush) (λa=>tT ok.dk a) ok.c,h.log.sec (E:=S.d.flush) λa=>tT ok.dk a,h.ref,h.Cg,h.gF.to ok.c h.hd.mf (λa _ _=>tT ok.dk a) (by simp),h.gS.to ok.c h.hd.mf (λa _ _=>tT ok.dk a) (by simp) (by grind),h.LP,h.bz,h.pm,h.f0,h.f1,h.i3,h.Ik,h.rl,h.bb⟩
theorem Lg.ic (h:Lg b S rg m1 l e F) (ok:bB k S) (hk:k+1< 2 ^ 28):∃g f a,Lg b S.ic rg m1 g f a:=by
 obtain⟨g,f,a,i⟩:=h.emit ok hk
 have e1:=(ok.emit hk).1
 refine⟨g,f,a,?_⟩
 show tU b ({S.emit with d:=S.emit.d.flush}:KM.St) (dP S.emit.t.l) (cG S.emit.t.l) rg m1 g f a
 rw[zt ok,qi ok]
 exact i.flush e1
theorem Lg.mark (h:Lg b S rg m1 l e F) (ok:bB k S) (hk:k+60< 2 ^ 28) {ep:Int} (hm:S.n.mode=1) (q:ep=S.n.aQ+1) (v:1<=ep/\ep<=2147483647) (t:ep<=b+1) (p:b+1<=2147483646) (he:(S.add (3,0,0,ep) none false).2.2=0):
 ∃r m g,Lg (b+1) (S.mark ep).1 rg m1 r m g:=by
 obtain⟨r,m,g,o⟩:=h.add ok (by omega) (i:=(3,0,0,ep)) (bo:=none) (sp:=false) (show(3:Int)≠7 by decide) (λy x=>by cases x) (λ_=>⟨by show 0<=ep;omega,t⟩) (.inr (.inl rfl)) p
 obtain⟨hi,u⟩:=Ki v
 obtain⟨P,_⟩:=qY (sp:=false) ok (by omega) hi (b:=none) (by rw[u];rfl) (by simp)
 rw[BQ ok hm q he]
 obtain⟨o1,o2,o3,z,A⟩:=P
 generalize(S.add (3,0,0,ep) none false).1=T at o o1 o2 o3 z A ⊢
 obtain⟨l2,e2,s,a⟩:=o.ic o1 (by omega)
 obtain⟨u1,B,C,D,E,G,H⟩:=FF o1 (by omega)
 have d:T.ic.w.blocks.length=0:=by grind
 generalize T.ic=U at a u1 B C D E G H d ⊢
 have f:=a.gS
 rw[d] at f
 have f:=f.fS u1.c (by have:=fB u1.c;omega)
 exact⟨l2,e2,s,a.nm u1.c (n':={U.n with aQ:=ep,seq:=U.n.seq+1,done:=U.n.seq+1}) (by grind) rfl a.ref.fS _ (by grind)⟩
end
end Lo
end
section
namespace Lo
open Go Go.Kx KM So Rc Ge
section
variable {S:KM.St} {k:Nat} {c:ax} {aG:Bool}
def pb (c:ax) (aG:Bool):Int:=2+2*(bW c+(if aG then bc c else 0))
theorem kD (c:ax) (aG:Bool) (i s:Int):cw c aG i s=pb c aG+2*i+s:=by
 unfold cw pb
 grind
structure Vt (S:KM.St) (aG:Bool) (r:Dk×List Int):Prop where
 pg:∀(i:Nat) (s:Int),r.2[i]?=some s->zr S.c r.1 S.c.1.toNat aG i s
 Di:∀a,a<pb S.c aG∨pb S.c aG+2*bc S.c<=a->r.1.sec a=S.d.sec a
theorem Nu (a:bE c):all c<=4096:=by
 have:=Sc.qV a
 omega
theorem pc (d:bE c) {M:Im} (h:cS c M):yB M:=by
 have e:=Nu d
 have f:=fB d
 refine⟨λx b=>?_,λx b=>?_⟩
 ·rcases h.r0 x b with(a|a)|⟨a,_⟩
  ·omega
  ·omega
  ·cases a
 ·rcases h.r1 x b with(a|a)|⟨_,a⟩<;>omega
theorem ZB {M:Im} (h:cS c M) (aG:Bool) {x:Int} (a:x∈M.cP aG):sY c aG x:=by
 cases aG with
 |false=>exact h.r0 x a
 |true=>exact h.r1 x a
theorem zu (ok:ji k S) (aG:Bool):((S.m.bR aG).length:Int)=bc S.c:=by
 have e:=ok.c.1
 have a:=(ok.im.bR aG).d
 have b:=ok.im.cP aG
 rw[b] at a
 have:((nP S.c.1.toNat 15:Int))=bc S.c:=by simp only[nP,bc];omega
 omega
theorem XI (ok:ji k S) (g:cS S.c S.m) {D:Dk} {i:Nat} {s:Int} (hi:(i:Int)<bc S.c) (f:D.sec (cw S.c aG i s)=oT (bt (S.m.cP aG) 15 (S.m.bR aG) i)):zr S.c D S.c.1.toNat aG i s:=by
 have hd:=zu ok aG
 have q:=rJ (l:=S.m.cP aG) (d:=S.m.bR aG) (n:=S.c.1.toNat) (k:=i) (ok.im.cP aG) (by omega)
 have hm:=w7 (pc ok.c g) aG (i:Int)
 have e:∀x∈bt (S.m.cP aG) 15 (S.m.bR aG) (i:Int),sY S.c aG x:=λx a=>by
  unfold bt at a
  split at a
  ·exact ZB g aG (by grind)
  ·cases a
 have h:(bt (S.m.cP aG) 15 (S.m.bR aG) (i:Int)++List.replicate (15-(bt (S.m.cP aG) 15 (S.m.bR aG) (i:Int)).length) 0).take (wY S.c.1.toNat i)=bt (S.m.cP aG) 15 (S.m.bR aG) (i:Int):=by
  grind
 have o:=Nu ok.c
 have p:=fB ok.c
 refine⟨_,by rw[f];exact FT hm,λx a=>?_,λx a=>?_⟩
 ·rw[h] at a
  rcases e x a with(b|b)|⟨_,b⟩
  ·omega
  ·exact .inl (by rw[yH,KM.bD];omega)
  omega
 ·rw[h] at a
  rcases e x a with(b|b)|⟨j,b⟩
  ·omega
  ·omega
  grind
theorem Uo (ok:ji k S) (f:cS S.c S.m) {i:Nat} {r:Dk×List Int} (P:zk k S i r) (h:Vt S aG r) (hi:(i:Int)<bc S.c):Vt S aG (kZ S.c aG (S.m.cP aG) (S.m.bR aG) r i):=by
 obtain⟨q,t,g⟩:=w8 (aG:=aG) ok P hi (pc ok.c f)
 have hm:=w7 (pc ok.c f) aG (i:Int)
 have d:(bt (S.m.cP aG) 15 (S.m.bR aG) (i:Int)).length<=15:=by
  simp only[gx,Bool.and_eq_true,decide_eq_true_eq] at hm;exact hm.1
 have key:∀a,(kZ S.c aG (S.m.cP aG) (S.m.bR aG) r i).1.sec a=if a=cw S.c aG i (1-bg 0 r.2 i) then oT (bt (S.m.cP aG) 15 (S.m.bR aG) i) else r.1.sec a:=λa=>mh P.ok g (Pa.len d) Pa.uY a
 refine⟨λj s b=>?_,λa l=>?_⟩
 ·have b:(r.2.set (i:Int).toNat (1-bg 0 r.2 i))[j]?=some s:=b
  rw[Int.toNat_natCast,List.getElem?_set] at b
  by_cases e:i=j
  ·subst e
   rw[if_pos rfl] at b
   split at b
   ·have b:=Option.some.inj b
    subst b
    exact XI ok f hi (by grind)
   ·cases b
  ·rw[if_neg e] at b
   obtain⟨refs,n,o⟩:=(h.pg j s b).ok
   have p:=P.sl.r s (by grind)
   refine⟨refs,?_,o⟩
   rw[key,if_neg]
   ·exact n
   ·rw[kD,kD]
    omega
 ·rw[key,if_neg]
  ·exact h.Di a l
  ·rw[kD];omega
theorem Nv (ok:ji k S) (b:cS S.c S.m) (j:iF S.c S.n.lb) (l:iF S.c S.n.lo) (aG:Bool) (e:∀(i:Nat) (s:Int),(if aG then S.n.lo else S.n.lb)[i]?=some s->zr S.c S.d S.c.1.toNat aG i s):Vt S aG (S.bV aG):=by
 have g:=zu ok aG
 have a:iF S.c (if aG then S.n.lo else S.n.lb):=by grind
 have key:∀i,i<=(S.m.bR aG).length->zk k S i ((jb (S.m.bR aG) i).foldl (kZ S.c aG (S.m.cP aG) (S.m.bR aG)) (S.d,if aG then S.n.lo else S.n.lb))/\Vt S aG ((jb (S.m.bR aG) i).foldl (kZ S.c aG (S.m.cP aG) (S.m.bR aG)) (S.d,if aG then S.n.lo else S.n.lb)):=by
  intro i
  induction i with
  |zero=>intro _;exact⟨⟨ok.dk,rfl,a⟩,e,λ_ _=>rfl⟩
  |succ i f=>
   intro hi
   obtain⟨P,h⟩:=f (by omega)
   cases hd:(S.m.bR aG).getD i false with
   |false=>rw[Ig.tK hd];exact⟨⟨P.ok.mono (by omega),P.len,P.sl⟩,h⟩
   |true=>
    rw[Ig.tL hd,List.foldl_append]
    exact⟨(w8 ok P (by omega) (pc ok.c b)).1,Uo ok b P h (by omega)⟩
 rw[KM.St.bV,vf]
 exact(key _ (Nat.le_refl _)).2
end
end Lo
end
end Go.Proofs.YtigjebgjphmkoaaGreat
section
namespace KM
theorem Ei:∀(n:Nat) (b:Bs),b.length=64*n->(chunks b n).flatten=b
 | 0,b,h=>by
   have a:b=[]:=(by grind)
   subst a;rfl
 |n+1,b,h=>by rw[chunks,List.flatten_cons,Ei n (b.drop 64) (by rw[List.length_drop];omega),List.take_append_drop]
end KM
namespace Go.Proofs.YtigjebgjphmkoaaGreat
open Tryz
namespace Lo
open Go Go.Kx KM So Rc Ge
section
variable {b:Int} {S:KM.St} {rg:fH} {m1:Im} {l:List (Pos×Rec)} {e:Pos} {F:KM.Fd} {k j:Nat} {c:ax} {st:Int->Int} {free:Nat}
theorem Nw {oV:Int}:∀(l:List cJ) (k:Nat),(∀(i:Nat) (u:cJ),l[i]?=some u->wG u (((k+i:Nat):Int)==oV)=true)->nX oV k l=true
 |[],_,_=>rfl
 |u::l,k,h=>by
  rw[nX,Bool.and_eq_true]
  exact⟨h 0 u rfl,Nw l (k+1) λi v a=>by have:=h (i+1) v (by grind);grind⟩
theorem Bb {l:List cJ} {i:Nat} {u:cJ} (h:l[i]?=some u):dP l i=u.1:=by
 unfold dP bg
 grind
theorem LX {l:List cJ} {v:List Int} {i:Nat} {u:cJ} (h:(iT l v)[i]?=some u):∃w,l[i]?=some w/\u.2=w.2/\(u.1=w.1∨u.1=0/\w.1=2):=by
 rw[show iT l v=eO l v l.length from rfl,Us.vc] at h
 split at h
 ·next a=>
  obtain⟨w,hw,rfl⟩:=Option.map_eq_some_iff.1 h
  refine⟨w,hw,rfl,.inr ⟨rfl,?_⟩⟩
  have:=a.2
  rw[j1,Bool.and_eq_true,beq_iff_eq,List.getD,hw] at this
  exact this.1
 grind
theorem Bc (l:List cJ) (v:List Int):(iT l v).length=l.length:=Us.tJ _ _ _
theorem HT {l:List cJ} {v:List Int} {g:Int} (h:dP l g=1):dP (iT l v) g=1:=by
 have a:0<=g/\g.toNat<l.length:=by
  unfold dP bg at h
  grind
 obtain⟨i,rfl⟩:∃i:Nat,g=i:=(by grind)
 rw[Int.toNat_natCast] at a
 have d:(iT l v)[i]?=some ((iT l v)[i]'(by rw[Bc];exact a.2)):=(by simp)
 obtain⟨w,hw,f,m⟩:=LX d
 rw[Bb d]
 rw[Bb hw] at h
 omega
theorem Nx {l:List cJ} {v:List Int} {g:Int} (h:dP (iT l v) g=1):dP l g=1:=by
 have d:0<=g/\g.toNat<(iT l v).length:=by
  unfold dP bg at h
  grind
 obtain⟨i,rfl⟩:∃i:Nat,g=i:=(by grind)
 rw[Int.toNat_natCast] at d
 have a:(iT l v)[i]?=some ((iT l v)[i]):=(by simp)
 obtain⟨w,hw,f,m⟩:=LX a
 rw[Bb a] at h
 rw[Bb hw]
 omega
theorem XJ {l:List cJ} {g:Int} (h:dP l g=1):cG l+1<=l.length:=by
 have hle:cG l<=l.length:=List.countP_le_length
 by_cases he:cG l=l.length
 ·exfalso
  have a:=List.countP_eq_length.1 he
  unfold dP bg at h
  grind
 ·omega
structure ZC (S:KM.St):Prop where
 gen:0<=S.n.gen/\S.n.gen< 2147483647
 view:1<=S.n.view/\S.n.view<=2147483647
 mode:S.n.mode=1∨S.n.mode=2
 aQ:0<=S.n.aQ/\S.n.aQ<=2147483647
 seq:0<=S.n.done/\S.n.done<=S.n.seq/\S.n.seq<=2147483647
theorem Iq {c:ax} {l:List Int} (h:iF c l):gU l (bc c)=true:=by
 simp only[gU,Bool.and_eq_true,beq_iff_eq,List.all_eq_true,Bool.or_eq_true]
 exact⟨h.len,λx a=>by have:=h.r x a;omega⟩
theorem Up (ok:bB k S) (hk:k< 2 ^ 28) (m:∀g,dP S.t.l g=1->g=S.w.p.1) (q:dP S.t.l S.w.p.1=1) (a:ZC S) {lb lo:List Int} (n:iF S.c lb) (o:iF S.c lo):fW S.c (S.mX lb lo)=true:=by
 have y:=ok.p1;have z:=ok.p2;have s:=ok.lt;have r:=ok.cZ;have A:=ok.prev;have x:=ok.ue
 have B:=a.gen;have C:=a.view;have f:=a.mode;have D:=a.aQ;have E:=a.seq
 simp only[fW,fj,KM.St.mX,Bool.and_eq_true,KM.bD,Bool.or_eq_true,beq_iff_eq]
 refine⟨⟨⟨⟨⟨⟨⟨⟨⟨⟨by omega,by omega⟩,f⟩,by omega⟩,by omega⟩,by omega⟩,⟨⟨⟨⟨by omega,by omega⟩,by omega⟩,by omega⟩,by omega⟩⟩,Iq n⟩,Iq o⟩,?_⟩,Nw _ 0 λi u hu=>?_⟩
 ·rw[Bc,ok.tb.l];have:=ok.c.2.2.1;omega
 ·rw[Nat.zero_add]
  have d:=(Kk ok.tb).us u (by grind)
  simp only[wG,Bool.and_eq_true,KM.bD,beq_iff_eq]
  refine⟨⟨d.1,d.2⟩,?_⟩
  rw[Bool.eq_iff_iff,beq_iff_eq,beq_iff_eq]
  constructor
  ·intro h
   have:dP (iT S.t.l S.t.v) i=1:=by rw[Bb hu];exact h
   exact m _ (Nx this)
  ·intro h
   have:dP (iT S.t.l S.t.v) i=1:=by rw[h];exact HT q
   rw[Bb hu] at this;exact this
end
end Lo
end Go.Proofs.YtigjebgjphmkoaaGreat
end
namespace Go.Proofs.YtigjebgjphmkoaaGreat
open Tryz
section
namespace Lo
open Go Go.Kx KM So Rc Ge Mo
section
variable {S:KM.St} {k:Nat} {c:ax} {aG:Bool}
theorem EC {l:List Int} {d:List Bool} {i:Nat} (hi:i<d.length):bt l 15 d i=(l.drop (i*15)).take 15:=by
 unfold bt
 grind
theorem SN (ok:ji k S) (o:cS S.c S.m) {i:Nat} {r:Dk×List Int} (P:zk k S i r) (hi:(i:Int)<bc S.c) (h:∀(j:Nat) (s:Int),r.2[j]?=some s->j<i∨(S.m.bR aG).getD j true=false->oK S.c r.1 aG j s (S.m.cP aG)):
 ∀(j:Nat) (s:Int),(kZ S.c aG (S.m.cP aG) (S.m.bR aG) r i).2[j]?=some s->j<i+1∨(S.m.bR aG).getD j true=false->oK S.c (kZ S.c aG (S.m.cP aG) (S.m.bR aG) r i).1 aG j s (S.m.cP aG):=by
 obtain⟨w,x,g⟩:=w8 (aG:=aG) ok P hi (pc ok.c o)
 have hm:=w7 (pc ok.c o) aG (i:Int)
 have f:(bt (S.m.cP aG) 15 (S.m.bR aG) (i:Int)).length<=15:=by
  simp only[gx,Bool.and_eq_true,decide_eq_true_eq] at hm;exact hm.1
 have hd:=zu ok aG
 have u:=rJ (l:=S.m.cP aG) (d:=S.m.bR aG) (n:=S.c.1.toNat) (k:=i) (ok.im.cP aG) (by omega)
 have key:∀a,(kZ S.c aG (S.m.cP aG) (S.m.bR aG) r i).1.sec a=if a=cw S.c aG i (1-bg 0 r.2 i) then oT (bt (S.m.cP aG) 15 (S.m.bR aG) i) else r.1.sec a:=λa=>mh P.ok g (Pa.len f) Pa.uY a
 intro j s b p
 have b:(r.2.set (i:Int).toNat (1-bg 0 r.2 i))[j]?=some s:=b
 rw[Int.toNat_natCast,List.getElem?_set] at b
 by_cases e:i=j
 ·subst e
  rw[if_pos rfl] at b
  split at b
  ·have b:=Option.some.inj b
   subst b
   refine⟨_,by rw[key,if_pos rfl];exact FT hm,?_⟩
   rw[List.take_append_of_le_length (by omega),List.take_of_length_le (by omega),EC (by omega)]
  ·cases b
 ·rw[if_neg e] at b
  obtain⟨refs,q,t⟩:=h j s b (p.imp (λh=>by omega) id)
  have v:=P.sl.r s (List.mem_of_getElem? b)
  refine⟨refs,?_,t⟩
  rw[key,if_neg]
  ·exact q
  ·rw[kD,kD]
   omega
theorem LY (ok:ji k S) (g:cS S.c S.m) (r:iF S.c S.n.lb) (t:iF S.c S.n.lo) (aG:Bool) (o:∀(i:Nat) (s:Int),(if aG then S.n.lo else S.n.lb)[i]?=some s->(S.m.bR aG).getD i true=false->oK S.c S.d aG i s (S.m.cP aG)):
 ∀(i:Nat) (s:Int),(S.bV aG).2[i]?=some s->oK S.c (S.bV aG).1 aG i s (S.m.cP aG):=by
 have q:=zu ok aG
 have e:iF S.c (if aG then S.n.lo else S.n.lb):=by grind
 have key:∀i,i<=(S.m.bR aG).length->zk k S i ((jb (S.m.bR aG) i).foldl (kZ S.c aG (S.m.cP aG) (S.m.bR aG)) (S.d,if aG then S.n.lo else S.n.lb))/\
  ∀(j:Nat) (s:Int),((jb (S.m.bR aG) i).foldl (kZ S.c aG (S.m.cP aG) (S.m.bR aG)) (S.d,if aG then S.n.lo else S.n.lb)).2[j]?=some s->j<i∨(S.m.bR aG).getD j true=false->oK S.c ((jb (S.m.bR aG) i).foldl (kZ S.c aG (S.m.cP aG) (S.m.bR aG)) (S.d,if aG then S.n.lo else S.n.lb)).1 aG j s (S.m.cP aG):=by
  intro i
  induction i with
  |zero=>intro _;exact⟨⟨ok.dk,rfl,e⟩,λj s a l=>o j s a (by grind)⟩
  |succ i p=>
   intro hi
   obtain⟨P,h⟩:=p (by omega)
   cases hd:(S.m.bR aG).getD i false with
   |false=>
    rw[Ig.tK hd]
    refine⟨⟨P.ok.mono (by omega),P.len,P.sl⟩,λj s a l=>h j s a ?_⟩
    grind
   |true=>
    rw[Ig.tL hd,List.foldl_append]
    exact⟨(w8 ok P (by omega) (pc ok.c g)).1,SN ok g P (by omega) h⟩
 intro i s a
 have f:=key (S.m.bR aG).length (Nat.le_refl _)
 rw[KM.St.bV,vf] at a ⊢
 have hlen:=f.1.sl.len
 have b:=(List.getElem?_eq_some_iff.1 a).1
 refine f.2 i s a (.inl ?_)
 have b:i<((jb (S.m.bR aG) (S.m.bR aG).length).foldl (kZ S.c aG (S.m.cP aG) (S.m.bR aG)) (S.d,if aG then S.n.lo else S.n.lb)).2.length:=b
 omega
theorem zv {D:Dk} {n:Nat} {T:List Int} (p:c.1.toNat=n) (j:T.length=n):∀(l:List Int) (k:Nat) (M a:Im),dJ c D aG k l M=some a->(M.cP aG).length=n->k+l.length<=(M.bR aG).length->(∀(i:Nat) (s:Int),l[i]?=some s->oK c D aG (k+i) s T)->
 (M.cP aG).take (k*15)=T.take (k*15)->(a.cP aG).take ((k+l.length)*15)=T.take ((k+l.length)*15)/\(a.cP aG).length=n/\a.cP (!aG)=M.cP (!aG)
 |[],k,M,a,h,d,_,_,m=>by
  rw[FD] at h
  have:=Option.some.inj h
  subst this
  exact⟨m,d,rfl⟩
 |s::l,k,M,a,h,d,hk,q,m=>by
  rw[List.length_cons] at hk
  obtain⟨refs,y,_,u⟩:=DW h
  obtain⟨w,r1,v⟩:=q 0 s rfl
  rw[Nat.add_zero] at r1 v
  rw[y] at r1
  have e:=Option.some.inj r1
  subst e
  have r:(bt (M.cP aG) 15 (M.bR aG) k).length=wY n k:=rJ d (by omega)
  rw[r,←p,v] at u
  have f:((T.drop (k*15)).take 15).length=wY n k:=by rw[List.length_take,List.length_drop,j];rfl
  have o:(M.load aG k ((T.drop (k*15)).take 15)).cP aG=(M.cP aG).take (k*15)++(T.drop (k*15)).take 15++(M.cP aG).drop (k*15+((T.drop (k*15)).take 15).length):=by cases aG<;>rfl
  have eo:(M.load aG k ((T.drop (k*15)).take 15)).cP (!aG)=M.cP (!aG):=by cases aG<;>rfl
  have x:((M.load aG k ((T.drop (k*15)).take 15)).bR aG).length=(M.bR aG).length:=by cases aG<;>simp[Im.load,Im.bR]
  have g:=zv p j l (k+1) _ a u (by rw[o];exact zi d f) (by rw[x];omega) (λi z t=>by have:=q (i+1) z (by simpa using t);rwa[show k+(i+1)=k+1+i by omega] at this) (by
   rw[o,m,show(k+1)*15=k*15+15 by omega]
   rw[←List.take_add]
   by_cases t:k*15+15<=n
   ·rw[List.take_append_of_le_length (by rw[List.length_take,j];omega),List.take_take,Nat.min_self]
   ·have b:T.take (k*15+15)=T:=List.take_of_length_le (by omega)
    rw[b,List.drop_eq_nil_of_le (by rw[f];unfold wY;omega),List.append_nil,b])
  rw[List.length_cons,show k+(l.length+1)=k+1+l.length by omega]
  exact⟨g.1,g.2.1,g.2.2.trans eo⟩
end
end Lo
end
section
namespace Lo
open Go Go.Kx KM So Rc Ge
section
variable {b:Int} {S:KM.St} {rg:fH} {m1:Im} {l:List (Pos×Rec)} {e:Pos} {F:KM.Fd} {k j:Nat} {c:ax} {st:Int->Int} {free:Nat}
theorem Uq {l:List cJ} {v:List Int} {g:Int} (f:0<=g) (h:dP (iT l v) g=0) (a:dP l g≠0):bg 0 v g=0:=by
 obtain⟨i,rfl⟩:∃i:Nat,g=i:=⟨g.toNat,by omega⟩
 have e:(iT l v)[i]?=if i<l.length/\j1 l v i=true then _ else _:=Us.vc l v l.length i
 split at e
 ·next d=>
  have:=d.2
  rw[j1,Bool.and_eq_true,beq_iff_eq,beq_iff_eq] at this
  unfold bg
  grind
 ·exfalso
  apply a
  unfold dP bg at h ⊢
  grind
theorem Lg.chk (h:Lg b S rg m1 l e F) (ok:bB k S) (hk:k+60< 2 ^ 28) (hn:ZC S) (hb:S.n.seq<=b/\S.n.aQ<=b):vI S/\(∃f aj z F',Lg b S.check.1 f aj [] z F')/\∀a,base S.emit.c<=a->S.check.1.d.sec a=S.emit.d.sec a:=by
 obtain⟨l1,e1,F1,q⟩:=h.emit ok (by omega)
 obtain⟨o1,o2,o3,o4,V,o6,o7,o8,o9⟩:=ok.emit (by omega)
 have M:=zt ok
 have al:=qi ok
 have ag:=vH o4 V
 have L:=h.hd.mf
 have hrefs:=pc ok.c h.ref
 unfold Al yJ w9 at ag
 have key:∀T:KM.St,T=S.emit->vI S/\(∃f aj z F',Lg b (({((T.bJ (T.bV false).1).bJ ((T.bJ (T.bV false).1).bV true).1.flush).bJ (fC ((T.bJ (T.bV false).1).bJ ((T.bJ (T.bV false).1).bV true).1.flush) (T.bV false).2 ((T.bJ (T.bV false).1).bV true).2) with n:={T.n with gen:=T.n.gen+1,slot:=1-T.n.slot,lb:=(T.bV false).2,lo:=((T.bJ (T.bV false).1).bV true).2},m:=T.m.clean,t:={T.t with l:=iT T.t.l T.t.v}}:KM.St)) f aj [] z F')/\∀a,base T.c<=a->(fC ((T.bJ (T.bV false).1).bJ ((T.bJ (T.bV false).1).bV true).1.flush) (T.bV false).2 ((T.bJ (T.bV false).1).bV true).2).sec a=T.d.sec a:=by
  intro T ac
  have Z:Al S=(T.bJ (T.bV false).1).bJ ((T.bJ (T.bV false).1).bV true).1.flush:=by rw[ac];rfl
  have an:w9 S=T.bV false:=by rw[ac];rfl
  have ao:yJ S=(T.bJ (T.bV false).1).bV true:=by rw[ac];rfl
  rw[←ac] at q o1 o2 o3 o4 V o6 o7 M al
  have E:=o1.c
  have u:iF T.c T.n.lb/\iF T.c T.n.lo:=by rw[o4,V];exact L
  have hR:cS T.c T.m:=q.ref
  have g0:=Nv o1.toji hR u.1 u.2 false (λi s o=>q.hd.pg false i s (by rw[←q.hd.lb] at o;exact o))
  have O:=tP o1.toji (pc E hR) u.1 u.2 false
  have N:bB (k+8+5) (T.bJ (T.bV false).1):=o1.zl O.ok O.len (by omega)
  have a6:pb T.c false+2*bc T.c=pb T.c true:=by unfold pb;simp;omega
  have aY:base T.c=pb T.c true+2*bc T.c:=by unfold pb base;simp;omega
  have aT:=gI E
  have a8:=kj E
  have aO:=jQ.oI E
  have aS:pb T.c false=2+2*bW T.c:=by unfold pb;simp
  have g1:=Nv N.toji (S:=T.bJ (T.bV false).1) hR u.1 u.2 true (λi s o=>by
   have o:T.n.lo[i]?=some s:=o
   have h0:=q.hd.pg true i s (by rw[←q.hd.lo] at o;exact o)
   obtain⟨refs,I,W⟩:=h0.ok
   refine⟨refs,?_,W⟩
   rw[show(T.bJ (T.bV false).1).d=(T.bV false).1 from rfl,g0.Di _ (.inr ?_)]
   ·exact I
   ·have Y:=u.2.r s (List.mem_of_getElem? o)
    show pb T.c false+2*bc T.c<=cw T.c true i s
    rw[kD];omega)
  have P:=tP N.toji (S:=T.bJ (T.bV false).1) (pc E hR) u.1 u.2 true
  have H:=P.ok
  have q0:=LY o1.toji hR u.1 u.2 false (λi s o hd=>q.gS.pg false i s o hd)
  have I:=LY N.toji (S:=T.bJ (T.bV false).1) hR u.1 u.2 true (λi s o hd=>by
   have o:T.n.lo[i]?=some s:=o
   obtain⟨refs,a1,a2⟩:=q.gS.pg true i s o hd
   refine⟨refs,?_,a2⟩
   rw[show(T.bJ (T.bV false).1).d=(T.bV false).1 from rfl,g0.Di _ (.inr ?_)]
   ·exact a1
   ·have Y:=u.2.r s (List.mem_of_getElem? o)
    show pb T.c false+2*bc T.c<=cw T.c true i s
    rw[kD];omega)
  have q0:∀(i:Nat) (s:Int),(T.bV false).2[i]?=some s->oK T.c (T.bV false).1 false i s T.m.l0:=q0
  have I:∀(i:Nat) (s:Int),((T.bJ (T.bV false).1).bV true).2[i]?=some s->oK T.c ((T.bJ (T.bV false).1).bV true).1 true i s T.m.l1:=I
  generalize aK:(T.bJ (T.bV false).1).bV true=r1 at g1 P H Z ao I ⊢
  generalize a7:T.bV false=r0 at g0 O N g1 P Z an aK q0 ⊢
  have az:r1.1.now.length=T.d.now.length:=P.len.trans O.len
  have aA:bB (k+8+5+5+1) ((T.bJ r0.1).bJ r1.1.flush):=N.zl H.flush ((iz H).trans P.len) (by omega)
  have Q:fW T.c (((T.bJ r0.1).bJ r1.1.flush).mX r0.2 r1.2)=true:=
   Up (S:=(T.bJ r0.1).bJ r1.1.flush) aA (by omega) (λg hg=>q.log.one g (by rw[←M];exact hg)) (by show dP T.t.l T.w.p.1=1;rw[M];exact q.log.Cx)
    ⟨by show 0<=T.n.gen/\T.n.gen< 2147483647;rw[V];exact hn.gen,by show 1<=T.n.view/\T.n.view<=2147483647;rw[V];exact hn.view,by show T.n.mode=1∨T.n.mode=2;rw[V];exact hn.mode,by show 0<=T.n.aQ/\T.n.aQ<=2147483647;rw[V];exact hn.aQ,by show 0<=T.n.done/\T.n.done<=T.n.seq/\T.n.seq<=2147483647;rw[V];exact hn.seq⟩ O.sl P.sl
  have C:T.n.slot=0∨T.n.slot=1:=q.hd.slot
  refine⟨⟨hrefs,L.1,L.2,h.hd.slot,by rw[Z,an,ao,←o4];exact Q⟩,?_⟩
  generalize A:((T.bJ r0.1).bJ r1.1.flush).mX r0.2 r1.2=f at Q ⊢
  have PR:=Rg.parts Q
  have af:=Rg.wv E PR
  have ak:=Rg.wx E PR
  have a4:=o1.len
  have ae:0<=ar T.c (1-T.n.slot)/\ar T.c (1-T.n.slot)+((bW T.c).toNat:Int)<=r1.1.flush.now.length:=by
   rw[iz H,az]
   unfold ar
   rcases C with z|z<;>rw[z]<;>omega
  have J:(chunks (gV T.c f) (bW T.c).toNat).length=(bW T.c).toNat:=qf _ _
  have ah:∀x∈chunks (gV T.c f) (bW T.c).toNat,x.length=64/\bP x:=λx B=>by
   obtain⟨i,hi⟩:=List.getElem?_of_mem B
   obtain⟨I,W⟩:=zj _ _ af i x hi
   refine⟨W,λy R=>?_⟩
   rw[I] at R
   exact ak y (List.mem_of_mem_drop (List.mem_of_mem_take R))
  have okF:=H.flush
  have aL:=(tu (chunks (gV T.c f) (bW T.c).toNat) (at_:=ar T.c (1-T.n.slot)) okF ae.1 (by rw[J];exact ae.2) ah).1
  have key:∀a,(fC ((T.bJ r0.1).bJ r1.1.flush) r0.2 r1.2).sec a=if ar T.c (1-T.n.slot)<=a/\a<ar T.c (1-T.n.slot)+(bW T.c).toNat then(chunks (gV T.c f) (bW T.c).toNat).getD (a-ar T.c (1-T.n.slot)).toNat [] else r1.1.sec a:=λa=>by
   have e0:fC ((T.bJ r0.1).bJ r1.1.flush) r0.2 r1.2=(r1.1.flush.dW (ar T.c (1-T.n.slot)) (chunks (gV T.c f) (bW T.c).toNat)).flush:=by rw[←A];rfl
   rw[e0,tT aL,xD _ okF ae.1 (by rw[J];exact ae.2) ah,J,tT H]
  have low:∀a,a< 2->(fC ((T.bJ r0.1).bJ r1.1.flush) r0.2 r1.2).sec a=T.d.sec a:=λa ha=>by
   rw[key,if_neg (by unfold ar;rcases C with z|z<;>rw[z]<;>omega),g1.Di a (.inl (show a<pb T.c true by omega))]
   exact g0.Di a (.inl (show a<pb T.c false by omega))
  have hi:∀a,base T.c<=a->(fC ((T.bJ r0.1).bJ r1.1.flush) r0.2 r1.2).sec a=T.d.sec a:=λa ha=>by
   rw[key,if_neg (by unfold ar;rcases C with z|z<;>rw[z]<;>omega),g1.Di a (.inr (by show pb T.c true+2*bc T.c<=a;omega))]
   exact g0.Di a (.inr (by omega))
  have wh:∀a,pb T.c false<=a->(fC ((T.bJ r0.1).bJ r1.1.flush) r0.2 r1.2).sec a=r1.1.sec a:=λa ha=>by
   rw[key,if_neg (by unfold ar;rcases C with z|z<;>rw[z]<;>omega)]
  have aw:(fC ((T.bJ r0.1).bJ r1.1.flush) r0.2 r1.2).dQ (ar T.c (1-T.n.slot)) (bW T.c).toNat=gV T.c f:=by
   have:=HQ (D:=fC ((T.bJ r0.1).bJ r1.1.flush) r0.2 r1.2) (chunks (gV T.c f) (bW T.c).toNat) (ar T.c (1-T.n.slot)) λi x B=>by
    have aF:=(List.getElem?_eq_some_iff.1 B).1
    rw[J] at aF
    rw[key,if_pos (by omega),show(ar T.c (1-T.n.slot)+(i:Int)-ar T.c (1-T.n.slot)).toNat=i by omega,List.getD,B];rfl
   rw[J,Ei _ _ af] at this
   exact this
  have hold:(fC ((T.bJ r0.1).bJ r1.1.flush) r0.2 r1.2).dQ (ar T.c T.n.slot) (bW T.c).toNat=T.d.dQ (ar T.c T.n.slot) (bW T.c).toNat:=by
   refine Cf (U:=λa=>ar T.c T.n.slot<=a/\a<ar T.c T.n.slot+(bW T.c).toNat) (λa ha=>?_) _ _ λi a0=>by omega
   obtain⟨am,ad⟩:=ha
   have aE:a<pb T.c false:=by
    unfold ar at ad
    rcases C with z|z<;>rw[z] at ad<;>omega
   rw[key,if_neg (by unfold ar at am ad ⊢; rcases C with z|z<;>rw[z] at am ad ⊢ <;>omega),g1.Di a (.inl (by show a<pb T.c true;omega))]
   exact g0.Di a (.inl aE)
  have ab:∀(aG:Bool) (i:Nat) (s:Int),(if aG then f.lo else f.lb)[i]?=some s->zr T.c (fC ((T.bJ r0.1).bJ r1.1.flush) r0.2 r1.2) T.c.1.toNat aG i s:=λaG i s o=>by
   cases aG with
   |false=>
    have o:r0.2[i]?=some s:=by rw[←A] at o;exact o
    obtain⟨refs,I,W⟩:=(g0.pg i s o).ok
    have Y:=O.sl.r s (List.mem_of_getElem? o)
    have aD:=(List.getElem?_eq_some_iff.1 o).1
    have aJ:=O.sl.len
    refine⟨refs,?_,W⟩
    rw[wh _ (by rw[kD];omega),g1.Di _ (.inl (by rw[kD];show _<pb T.c true;omega))]
    exact I
   |true=>
    have o:r1.2[i]?=some s:=by rw[←A] at o;exact o
    obtain⟨refs,I,W⟩:=(g1.pg i s o).ok
    have Y:=P.sl.r s (List.mem_of_getElem? o)
    refine⟨refs,?_,W⟩
    rw[wh _ (by rw[kD];omega)]
    exact I
  have K:∀(aG:Bool) (i:Nat) (s:Int),(if aG then r1.2 else r0.2)[i]?=some s->oK T.c (fC ((T.bJ r0.1).bJ r1.1.flush) r0.2 r1.2) aG i s (T.m.cP aG):=λaG i s o=>by
   cases aG with
   |false=>
    have o:r0.2[i]?=some s:=o
    obtain⟨refs,a1,a2⟩:=q0 i s o
    have Y:=O.sl.r s (List.mem_of_getElem? o)
    have aD:=(List.getElem?_eq_some_iff.1 o).1
    have aJ:=O.sl.len
    refine⟨refs,?_,a2⟩
    rw[wh _ (by rw[kD];omega),g1.Di _ (.inl (by rw[kD];show _<pb T.c true;omega))]
    exact a1
   |true=>
    have o:r1.2[i]?=some s:=o
    obtain⟨refs,a1,a2⟩:=I i s o
    have Y:=P.sl.r s (List.mem_of_getElem? o)
    refine⟨refs,?_,a2⟩
    rw[wh _ (by rw[kD];omega)]
    exact a1
  have aa:Cd T.c.1.toNat (bc T.c).toNat (mF T.c.1.toNat):=by
   have aX:=E.1
   have K:(nP T.c.1.toNat 15).toNat=(bc T.c).toNat:=by simp only[nP,bc];omega
   exact⟨List.length_replicate,List.length_replicate,by show(List.replicate _ _).length=_;rw[List.length_replicate];exact K,by show(List.replicate _ _).length=_;rw[List.length_replicate];exact K⟩
  have aP:(r0.2.length:Int)=bc T.c:=O.sl.len
  have aR:(r1.2.length:Int)=bc T.c:=P.sl.len
  obtain⟨n0,ap,ai,ax⟩:=JN (D:=fC ((T.bJ r0.1).bJ r1.1.flush) r0.2 r1.2) false r0.2 0 (mF T.c.1.toNat) aa (cS.mF _) (by omega) λi s o=>by rw[Nat.zero_add];exact ab false i s (by rw[←A];exact o)
  obtain⟨n1,aq,a3,ay⟩:=JN (D:=fC ((T.bJ r0.1).bJ r1.1.flush) r0.2 r1.2) true r1.2 0 n0 ai ax (by omega) λi s o=>by rw[Nat.zero_add];exact ab true i s (by rw[←A];exact o)
  have t0:=zv (c:=T.c) (aG:=false) rfl o1.im.n0 r0.2 0 (mF T.c.1.toNat) n0 ap aa.l0 (by show 0+r0.2.length<=(mF T.c.1.toNat).d0.length;rw[aa.d0];omega) (λi s o=>by rw[Nat.zero_add];exact K false i s o) rfl
  have t1:=zv (c:=T.c) (aG:=true) rfl o1.im.n1 r1.2 0 n0 n1 aq ai.l1 (by show 0+r1.2.length<=n0.d1.length;rw[ai.d1];omega) (λi s o=>by rw[Nat.zero_add];exact K true i s o) rfl
  have aU:T.c.1.toNat<=(bc T.c).toNat*15:=by have:=E.1;simp only[bc];omega
  have aV:=o1.im.n0;have aW:=o1.im.n1;have aM:=o1.im.uD
  have i0:n1.l0=T.m.l0:=by
   have G:n1.l0=n0.l0:=t1.2.2
   have X:n0.l0.take ((0+r0.2.length)*15)=T.m.l0.take ((0+r0.2.length)*15):=t0.1
   have h3:n0.l0.length=T.c.1.toNat:=t0.2.1
   rw[List.take_of_length_le (by omega),List.take_of_length_le (by omega)] at X
   exact G.trans X
  have i1:n1.l1=T.m.l1:=by
   have X:n1.l1.take ((0+r1.2.length)*15)=T.m.l1.take ((0+r1.2.length)*15):=t1.1
   have h3:n1.l1.length=T.c.1.toNat:=t1.2.1
   rw[List.take_of_length_le (by omega),List.take_of_length_le (by omega)] at X
   exact X
  have hz:∀x,(x∈T.m.l0∨x∈T.m.l1)->vn T.c (dP S.t.l) T.w.p x->vn T.c (dP (iT T.t.l T.t.v)) T.w.p x:=λx B hu=>by
   rcases hu with hu|⟨g,y,hg,R,e,G,X⟩
   ·exact .inl hu
   ·refine .inr ⟨g,y,hg,R,e,G,λaH h0=>?_⟩
    have h3:=Uq hg.1 h0 (by rw[M];exact X aH)
    have h4:=q.gS.Gr.none h3 B
    rw[Vs E hg R e] at h4;cases h4
  have au:∀x∈T.m.l0,vn T.c (dP (iT T.t.l T.t.v)) T.w.p x:=λx B=>hz x (.inl B) (q.gS.u0 x B)
  have av:∀x∈T.m.l1,vn T.c (dP (iT T.t.l T.t.v)) T.w.p x:=λx B=>hz x (.inr B) (by
   rcases q.gS.u1 x B with G|G
   ·exact G
   ·exfalso
    rw[o3] at G
    unfold vK KM.behind at G
    have:((([]:List Bs).length:Nat):Int)=0:=rfl
    omega)
  have aB:GF T.c (fC ((T.bJ r0.1).bJ r1.1.flush) r0.2 r1.2) r0.2 r1.2 (dP (iT T.t.l T.t.v)) T.w.p ⟨⟨f.bk,List.replicate T.c.2.1.toNat 0⟩,n1,f.aQ,f.seq,f.done,f.pos.2.2.2.2⟩:=
   ⟨⟨λx B=>au x (by rw[←i0];exact B),λx B=>av x (by rw[←i1];exact B)⟩,λaG i s o _=>by
     have:=K aG i s o
     have ee:n1.cP aG=T.m.cP aG:=by cases aG;exact i0;exact i1
     show oK T.c _ aG i s (n1.cP aG)
     rw[ee];exact this,by show((List.replicate T.c.2.1.toNat (0:Int)).length:Int)=_;rw[List.length_replicate];have:=E.2.2.1;omega,λx B=>(List.mem_replicate.1 B).2,by show n1.l0.length<=64/\n1.l1.length=n1.l0.length;rw[i0,i1];omega⟩
  have aC:GS T.c (fC ((T.bJ r0.1).bJ r1.1.flush) r0.2 r1.2) r0.2 r1.2 (dP (iT T.t.l T.t.v)) T.w.p T.w.blocks.length T.m.clean T.t.v:=
   ⟨au,λx B=>.inl (av x B),q.gS.Gr,λaG i s o _=>by have:=K aG i s o;cases aG<;>exact this⟩
  have eb:f.lb=r0.2:=by rw[←A];rfl
  have eo:f.lo=r1.2:=by rw[←A];rfl
  have ep:f.pos=T.w.p:=by rw[←A];rfl
  have es:f.bk=iT T.t.l T.t.v:=by rw[←A];rfl
  have en:T.n=S.n:=V
  refine⟨⟨f,n1,T.w.p,⟨⟨f.bk,List.replicate T.c.2.1.toNat 0⟩,n1,f.aQ,f.seq,f.done,f.pos.2.2.2.2⟩,⟨⟨?_,?_,?_,?_,?_,?_,eb,eo,ab,n0,by rw[eb];exact ap,by rw[eo];exact aq⟩,⟨?_,rfl,rfl,rfl,rfl,Int.le_refl _,rfl,λg=>by rw[es],?_,λg hg=>?_,?_,?_,?_⟩,q.ref.clean,ay,aB,aC,q.LP,q.bz,q.pm,?_,?_,q.i3,q.Ik,rfl,q.bb⟩⟩,hi⟩
  ·show∃id,eJ ((fC _ _ _).sec (T.n.aN% 2))=some (T.c,id,T.n.aN)/\_
   rw[low _ (by omega)];exact q.hd.sup
  ·show∀y,eJ ((fC _ _ _).sec (1-T.n.aN% 2))=some y->y.2.2<T.n.aN
   rw[low _ (by omega)];exact q.hd.LG
  ·show 1-T.n.slot=0∨1-T.n.slot=1
   omega
  ·show jf T.c ((fC _ _ _).dQ (ar T.c (1-T.n.slot)) (bW T.c).toNat)=some f
   rw[aw];exact No Q
  ·show∀y,jf T.c ((fC _ _ _).dQ (ar T.c (1-(1-T.n.slot))) (bW T.c).toNat)=some y->y.gen<f.gen
   rw[show 1-(1-T.n.slot)=T.n.slot by omega,hold,q.hd.mX]
   intro y R
   have R:=Option.some.inj R
   subst R
   rw[q.hd.gen,←A]
   show T.n.gen<T.n.gen+1;omega
  ·rw[←A];rfl
  ·by_cases aI:T.w.p.2.1=0
   ·refine .inl ⟨rfl,ep.symm,by rw[ep];exact aI,?_⟩
    have X:=q.log.e2;have G:=q.log.e1
    rcases q.log.run with⟨_,W,q3,q4⟩|⟨I,_⟩
    ·show(fC _ _ _).sec (aZ T.c f.pos.1)=pM
     rw[W] at G
     have hr:=eK E o1.p1 (x:=0) ⟨by omega,by have:=E.2.2.2.2.1;omega⟩
     rw[ep,hi _ (by omega),←G];exact q4
    ·omega
   ·have a5:=o1.p2
    exact .inr ⟨by omega,f.pos,.inl ⟨by rw[ep];omega,rfl⟩,by rw[ep];exact .nil _⟩
  ·show dP (iT T.t.l T.t.v) T.w.p.1=1
   exact HT (by rw[M];exact q.log.Cx)
  ·have:dP (iT T.t.l T.t.v) g=1:=hg
   exact q.log.one g (by rw[←M];exact Nx this)
  ·show f.bk.length=T.c.2.1.toNat
   rw[es,Bc,o1.tb.l]
  ·show((turns []:Nat):Int)+1+(cG (iT T.t.l T.t.v):Int)<=T.c.2.1
   have:=XJ (l:=iT T.t.l T.t.v) (g:=T.w.p.1) (HT (by rw[M];exact q.log.Cx))
   rw[Bc,o1.tb.l] at this
   have h3:=E.2.2.1
   show(0:Int)+1+_<=_
   omega
  ·intro a h0 G
   show dV ((fC _ _ _).sec a)≠0->num ((fC _ _ _).sec a) 6 4<T.w.p.2.2.1
   rw[hi a h0];exact q.log.AV a h0 G
  ·rw[←A]
   show 0<=T.n.done/\T.n.done<=T.n.seq/\T.n.seq+(T.w.items.length:Int)<=b
   rw[o2,en]
   have:=hn.seq
   exact⟨this.1,this.2.1,by show S.n.seq+((0:Nat):Int)<=b;omega⟩
  ·rw[←A]
   show 0<=T.n.aQ/\T.n.aQ<=b
   rw[en];have:=hn.aQ;exact⟨this.1,hb.2⟩
 have:=key S.emit rfl
 rw[ag]
 exact this
end
end Lo
end
section
namespace Lo
open Go Go.Kx KM So Rc Ge
section
variable {b:Int} {S:KM.St} {rg:fH} {m1:Im} {l:List (Pos×Rec)} {e:Pos} {F:KM.Fd} {k j:Nat} {c:ax} {st:Int->Int} {free:Nat}
theorem Lg.cut (h:Lg b S rg m1 l e F) (ok:bB k S) (hk:k+40< 2 ^ 28) {x n:Int} (hm:S.n.mode=1) (o:S.has x n=true) (he:(S.add (2,x,n,0) none false).2.2=0) (hi:cB (2,x,n,0)=true) (p:b+1<=2147483646):
 ∃g f d,Lg (b+1) (S.cut true x n).1 rg m1 g f d:=by
 obtain⟨g,f,d,a⟩:=h.add ok hk (i:=(2,x,n,0)) (bo:=none) (sp:=false) (show(2:Int)≠7 by decide) (λy s=>by cases s) (λq=>by cases q) (by have:=uf ok.toji o;exact .inr (.inr ⟨rfl,by show 0<=x;omega,by show 1<=n;omega,by show x+n<=_;omega⟩)) p
 have r:bM (2,x,n,0)=false:=by rw[bM,hi];rfl
 obtain⟨P,_⟩:=qY (sp:=false) ok hk hi (b:=none) (by rw[r];rfl) (by simp)
 rw[Gb ok hm o he]
 obtain⟨o1,o2,o3,t,u⟩:=P
 generalize(S.add (2,x,n,0) none false).1=T at a o1 o2 o3 t u ⊢
 exact⟨g,f,d,a.nm o1.c (n':={T.n with seq:=T.n.seq+1}) (m':=(T.m.cut true x n).1) (by simp) rfl (a.ref.cut true x n) _ (a.gS.cut o1.c (by have:=fB o1.c;omega) true x n)⟩
theorem Lg.raised (h:Lg b S rg m1 l e F) (ok:bB k S) (view mode:Int):Lg b (S.raised view mode) rg m1 l e F:=
 h.nm ok.c (n':={S.n with seq:=S.n.done,view:=view,mode:=mode}) (m':=S.m.forget.1) (by simp) rfl h.ref.forget _ (h.gS.forget ok.c (by have:=fB ok.c;omega))
theorem Lg.raise (h:Lg b S rg m1 l e F) (ok:bB k S) (hk:k+60< 2 ^ 28) {view mode:Int} (hm:S.n.mode=1) (m:1<=view/\view<=2147483647) (f:mode=1∨mode=2) (s:S.n.view<view)
 (g:0<=S.n.gen/\S.n.gen< 2147483647) (he:0<=S.n.aQ/\S.n.aQ<=b) (i:0<=S.n.done/\S.n.done<=b) (t:b<=2147483647):vI (S.raised view mode)/\(∃p o r q,Lg b (S.raise view mode).1 p o [] r q)/\∀a,base (S.raised view mode).emit.c<=a->(S.raise view mode).1.d.sec a=(S.raised view mode).emit.d.sec a:=by
 rw[xA hm m f s ok.dk.off]
 exact(h.raised ok view mode).chk (vg ok view mode) hk ⟨g,m,f,⟨he.1,by show S.n.aQ<=2147483647;omega⟩,⟨i.1,Int.le_refl _,by show S.n.done<=2147483647;omega⟩⟩ ⟨i.2,he.2⟩
end
end Lo
end
section
namespace Lo
open Go Go.Kx KM So Rc Ge
structure lj (D D':Dk):Prop where
 s:D'.safe=D.safe
 h:fY D->fY D'
theorem lj.refl (D:Dk):lj D D:=⟨rfl,id⟩
theorem lj.trans {D E G:Dk} (a:lj D E) (b:lj E G):lj D G:=⟨b.s.trans a.s,λh=>b.h (a.h h)⟩
section
variable {b:Int} {S:KM.St} {k j:Nat} {c:ax} {D:Dk}
theorem lj.put (ok:bu k D) {a:Int} {x:Bs} (h:0<=a/\a<D.now.length) (d:x.length=64):lj D (D.put a x):=⟨K9 ok h d,λe=>e.put ok h d⟩
theorem lj.dW (ok:bu k D) {a:Int} {ls:List Bs} (d:0<=a) (e:a+ls.length<=D.now.length) (f:∀x∈ls,x.length=64/\bP x):lj D (D.dW a ls):=⟨IY ls ok d e f,λg=>fY.dW ls g ok d e f⟩
theorem Dl (ok:ji k S) (hk:k< 2 ^ 28):lj S.d S.aY.d:=by
 unfold KM.St.aY
 simp only
 split
 ·exact .refl _
 ·have f:=Sc.kX ok.c ok.p1
  have e:=ok.len
  have a:=ok.c.2.2.2.2.1
  exact .put ok.dk (by grind) rfl
theorem Gt (ok:ji k S) {items:List eG} {blocks:List Bs} (hm:dH (du S items blocks)=true) (e:∀x∈blocks,bP x) (h:1<=S.w.p.2.1) (hf:S.w.p.2.1+(1+(blocks.length:Int))<=S.c.2.2):lj S.d (S.jM items blocks).d:=by
 have a:=EL hm e
 have i:=Sc.kX ok.c ok.p1
 have g:=ok.len
 have f:(cH (du S items blocks)).length=1+blocks.length:=Aj _
 exact .dW ok.dk (by omega) (by grind) a
theorem yh (ok:bB k S) (hk:k+1< 2 ^ 28):lj S.d S.emit.d:=by
 unfold KM.St.emit
 by_cases he:S.w.items=[]
 ·rw[if_pos (by rw[he];rfl)];exact .refl _
 ·rw[if_neg (by simpa using he)]
  obtain⟨i,l,r,s⟩:=ok.toji.aY (by omega) ok.lt
  obtain⟨a,e,f,n,o,p,⟨q,m⟩,g⟩:=ok.toji.Cv
  have hm:=ok.may (by omega) he
  have hf:=(ok.fit he).2
  rw[a,e] at hm
  exact(Dl ok.toji (by omega)).trans (Gt i hm (λx h=>(ok.xy x h).2) l (by rw[f,g];unfold behind at hf;omega))
theorem PS (ok:bB k S) (hk:k+20< 2 ^ 28) (a:1<=S.w.p.2.1) {g:Int} (e:0<=g/\g<S.c.2.1):lj S.d (S.cR g).d:=by
 have l:=ok.c.2.2.2.1;have i:=ok.c.2.2.2.2.1
 have hm:=w6 (g:=g) (by grind) ok.toji (by omega)
 have h:=ok.lt
 obtain⟨u1,m⟩:=ok.toji.jM (by omega) hm (by simp) a (by grind)
 have f:=ym u1 (g:=g) e S.w.p.1
 exact(Gt ok.toji hm (by simp) a (by grind)).trans (Dl (S:=(S.jM [(7,0,0,g)] []).sX S.w.p.1 g) f (by omega))
theorem PT (ok:bB k S) (hk:k+40< 2 ^ 28) {bb:Int} (n:bb=0∨bb=1) (sp:Bool):lj S.d (S.room bb sp).1.d:=by
 have m:=ok.c.2.2.2.2.1
 rcases wV S bb sp with⟨c1,e⟩|⟨_,c2,e⟩|⟨_,_,_,e⟩|⟨_,c2,c3,e⟩
 ·rw[e];exact .refl _
 ·rw[e];exact yh ok (by omega)
 ·rw[e];exact .refl _
 ·rw[e]
  have x:=yn S.t.l sp
  have v:=ok.tb.l
  have s:=ok.c.2.2.1
  have u:0<=bY S.t.l sp/\bY S.t.l sp<S.c.2.1:=by omega
  have g:=ok.jh (bY S.t.l sp)
  obtain⟨e1,e2,e3,e4,e5,h,i,q,r⟩:=g.emit (by omega)
  have a:=wU g (by omega)
  have f:=yh g (by omega)
  generalize({S with t:=S.t.jh (bY S.t.l sp)}:KM.St).emit=T at e1 e2 e3 e4 e5 h i a f ⊢
  have e4:T.c=S.c:=e4
  have a:T.w.p.2.1=(if S.w.items.isEmpty then S.w.p.2.1 else behind S.w.p.2.1 S.w.blocks.length):=a
  have o:1<=T.w.p.2.1:=by rw[a];exact yo m n c2
  exact lj.trans (D:=S.d) f (PS e1 (by omega) o (by grind))
theorem Dm (ok:bB k S) (hk:k+40< 2 ^ 28) {i:eG} {bo:Option Bs} {sp:Bool}:lj S.d (S.add i bo sp).1.d:=by
 have a:(if bo.isSome then(1:Int) else 0)=0∨(if bo.isSome then(1:Int) else 0)=1:=by omega
 have f:=PT ok hk a sp
 by_cases he:(S.room (if bo.isSome then 1 else 0) sp).2=0
 ·have e:(S.add i bo sp).1=(S.room (if bo.isSome then 1 else 0) sp).1.hold i bo:=by
   unfold KM.St.add;grind
  rw[e];exact f
 ·have e:(S.add i bo sp).1=(S.room (if bo.isSome then 1 else 0) sp).1:=by
   unfold KM.St.add;grind
  grind
theorem yC {D:Dk} (ok:bu k D) (h:fY D):fY D.flush/\D.flush.safe=D.flush.now:=by
 have:=h.flush ok
 exact⟨this.1,by rw[this.2,xp ok]⟩
theorem MM (ok:bB k S) (hk:k+1< 2 ^ 28) (h:fY S.d):fY S.ic.d/\S.ic.d.safe=S.ic.d.now:=
 yC (ok.emit hk).1.dk ((yh ok hk).h h)
theorem PU (ok:bB k S) (hk:k+60< 2 ^ 28) (h:fY S.d) {ep:Int} (hm:S.n.mode=1) (a:ep=S.n.aQ+1) (f:1<=ep/\ep<=2147483647) (he:(S.add (3,0,0,ep) none false).2.2=0):fY (S.mark ep).1.d/\(S.mark ep).1.d.safe=(S.mark ep).1.d.now:=by
 obtain⟨hi,e⟩:=Ki f
 obtain⟨P,_⟩:=qY (sp:=false) ok (by omega) hi (b:=none) (by rw[e];rfl) (by simp)
 rw[BQ ok hm a he]
 exact MM P.ok (by omega) ((Dm ok (by omega)).h h)
theorem Ej (ok:ji k S) (f:yB S.m) (q:iF S.c S.n.lb) (r:iF S.c S.n.lo) (aG:Bool):lj S.d (S.bV aG).1:=by
 have p:=zu ok aG
 have e:iF S.c (if aG then S.n.lo else S.n.lb):=by grind
 have key:∀i,i<=(S.m.bR aG).length->zk k S i ((jb (S.m.bR aG) i).foldl (kZ S.c aG (S.m.cP aG) (S.m.bR aG)) (S.d,if aG then S.n.lo else S.n.lb))/\lj S.d ((jb (S.m.bR aG) i).foldl (kZ S.c aG (S.m.cP aG) (S.m.bR aG)) (S.d,if aG then S.n.lo else S.n.lb)).1:=by
  intro i
  induction i with
  |zero=>intro _;exact⟨⟨ok.dk,rfl,e⟩,.refl _⟩
  |succ i g=>
   intro hi
   obtain⟨P,h⟩:=g (by omega)
   cases hd:(S.m.bR aG).getD i false with
   |false=>rw[Ig.tK hd];exact⟨⟨P.ok.mono (by omega),P.len,P.sl⟩,h⟩
   |true=>
    rw[Ig.tL hd,List.foldl_append]
    obtain⟨l,s,o⟩:=w8 (aG:=aG) ok P (by omega) f
    have hm:=w7 f aG (i:Int)
    have a:(bt (S.m.cP aG) 15 (S.m.bR aG) (i:Int)).length<=15:=by
     simp only[gx,Bool.and_eq_true,decide_eq_true_eq] at hm;exact hm.1
    exact⟨l,h.trans (.put P.ok o (Pa.len a))⟩
 rw[KM.St.bV,vf]
 exact(key _ (Nat.le_refl _)).2
theorem MN (ok:bB k S) (hk:k+60< 2 ^ 28) (P:vI S) (h:fY S.d):fY S.check.1.d/\S.check.1.d.safe=S.check.1.d.now:=by
 obtain⟨o1,o2,o3,y,z,L,M,N,O⟩:=ok.emit (by omega)
 have v:=(yh ok (by omega)).h h
 have q:=vH y z
 obtain⟨p1,p2,p3,p4,p5⟩:=P
 rw[q]
 unfold Al yJ w9 at p5 ⊢
 have a:iF S.emit.c S.emit.n.lb/\iF S.emit.c S.emit.n.lo:=by grind
 have g:yB S.emit.m:=by grind
 rw[←y] at p5
 rw[←z] at p4
 generalize S.emit=T at*
 have s:=tP o1.toji g a.1 a.2 false
 have E:=Ej o1.toji g a.1 a.2 false
 have e:bB (k+8+5) (T.bJ (T.bV false).1):=o1.zl s.ok s.len (by omega)
 have l:=tP e.toji (S:=T.bJ (T.bV false).1) g a.1 a.2 true
 have F:=Ej e.toji (S:=T.bJ (T.bV false).1) g a.1 a.2 true
 have u:=F.h (E.h v)
 have C:=yC l.ok u
 have r:bB (k+8+5+5+1) ((T.bJ (T.bV false).1).bJ ((T.bJ (T.bV false).1).bV true).1.flush):=e.zl l.ok.flush ((iz l.ok).trans l.len) (by omega)
 show fY (fC _ _ _)/\(fC _ _ _).safe=(fC _ _ _).now
 have t:=Rg.parts p5
 have p:=Rg.wv o1.c t
 have B:=Rg.wx o1.c t
 have K:=kj o1.c
 have G:=jQ.oI o1.c
 have J:=gI o1.c
 have I:base T.c=2+2*(bW T.c+2*bc T.c):=rfl
 have w:=r.len
 have f:0<=ar T.c (1-T.n.slot)/\ar T.c (1-T.n.slot)+((bW T.c).toNat:Int)<=((T.bJ (T.bV false).1).bV true).1.flush.now.length:=by
  have w:all T.c<=(((T.bJ (T.bV false).1).bV true).1.flush.now.length:Int):=w
  unfold ar
  grind
 have o:∀x∈chunks (gV T.c (((T.bJ (T.bV false).1).bJ ((T.bJ (T.bV false).1).bV true).1.flush).mX (T.bV false).2 ((T.bJ (T.bV false).1).bV true).2)) (bW T.c).toNat,x.length=64/\bP x:=λx H=>by
  obtain⟨i,hi⟩:=List.getElem?_of_mem H
  obtain⟨Q,R⟩:=zj _ _ p i x hi
  grind
 have A:=(tu _ (at_:=ar T.c (1-T.n.slot)) l.ok.flush f.1 (by rw[qf];exact f.2) o).1
 exact yC A (fY.dW _ C.1 l.ok.flush f.1 (by rw[qf];exact f.2) o)
end
end Lo
end
section
namespace Lo
open Go Go.Kx KM So Rc Ge
def lA (S:KM.St):Int:=21*(7-cG S.t.l)+max (eo S) 1
section
variable {k:Nat} {S:KM.St}
theorem SO (h:bB k S) (hk:k+40< 2 ^ 28) {b:Int} (F:b=0∨b=1) (n:S.c.2.2=24) (H:lA S<=87):
 (S.room b false).2=0/\21*(7-(cG (S.room b false).1.t.l:Int))+behind (S.room b false).1.w.p.2.1 ((S.room b false).1.w.blocks.length+b)<=lA S+2:=by
 have L:=h.p2
 have G:=wU h (by omega)
 have f:eo S=(if S.w.items.isEmpty then S.w.p.2.1 else behind S.w.p.2.1 S.w.blocks.length):=by
  unfold eo;simp
 rcases wV S b false with⟨c1,e⟩|⟨_,c2,e⟩|⟨_,c2,c3,e⟩|⟨_,c2,c3,e⟩
 ·rw[e]
  refine⟨rfl,?_⟩
  show 21*(7-(cG S.t.l:Int))+behind S.w.p.2.1 (S.w.blocks.length+b)<=lA S+2
  unfold lA eo
  by_cases hi:S.w.items=[]
  ·have s:S.w.blocks=[]:=List.eq_nil_of_length_eq_zero (by rw[h.bl,hi];rfl)
   rw[if_pos hi,s];unfold KM.behind;grind
  ·rw[if_neg hi];unfold KM.behind;omega
 ·rw[e]
  obtain⟨e1,e2,e3,e4,e5,q,r,D,E⟩:=h.emit (by omega)
  refine⟨rfl,?_⟩
  show 21*(7-(cG S.emit.t.l:Int))+behind S.emit.w.p.2.1 (S.emit.w.blocks.length+b)<=lA S+2
  have o:=HM h (by omega)
  rw[eo,if_pos e2] at o
  rw[qi h,e3,o]
  have:=e1.p2
  rw[o] at this
  unfold lA KM.behind;grind
 ·exfalso
  rw[←f] at c2
  have m:22<=eo S:=by
   unfold KM.fits KM.behind at c2
   simp only[Bool.and_eq_true,decide_eq_true_eq] at c2
   rw[n] at c2
   omega
  have v:2<cG S.t.l:=by unfold lA at H;omega
  have K:(0:Int)<=rX S.t.l:=by
   unfold rX
   have:0<S.t.l.countP λu=>u.1==0:=by unfold cG at v;omega
   obtain⟨u,hu,B⟩:=List.countP_pos_iff.1 this
   rw[if_pos (List.findIdx_lt_length_of_exists ⟨u,hu,B⟩)]
   omega
  rw[bY,if_neg (by simp;omega)] at c3
  omega
 ·rw[e]
  refine⟨rfl,?_⟩
  have A:=yn S.t.l false
  have O:=h.tb.l
  have P:=h.c.2.2.1
  rcases A with⟨A,_⟩|⟨M,N,z⟩
  ·omega
  have y:0<=bY S.t.l false/\bY S.t.l false<S.c.2.1:=by omega
  have j:=h.jh (bY S.t.l false)
  obtain⟨e1,e2,e3,e4,e5,q,r,D,E⟩:=j.emit (by omega)
  have a:=wU j (by omega)
  have d:=qi j
  generalize({S with t:=S.t.jh (bY S.t.l false)}:KM.St).emit=T at e1 e2 e3 e4 e5 q r a d ⊢
  have e4:T.c=S.c:=e4
  have a:T.w.p.2.1=(if S.w.items.isEmpty then S.w.p.2.1 else behind S.w.p.2.1 S.w.blocks.length):=a
  have i:1<=T.w.p.2.1:=by rw[a];exact yo (by omega) F c2
  obtain⟨u1,Q,I,R,U,V,W,u8,X⟩:=e1.cR (g:=bY S.t.l false) (by omega) e2 e3 i (by rw[e4];exact y)
  have x:=IT e1 (by omega) i (g:=bY S.t.l false) (by rw[e4];exact y)
  show 21*(7-(cG (T.cR (bY S.t.l false)).t.l:Int))+behind (T.cR (bY S.t.l false)).w.p.2.1 ((T.cR (bY S.t.l false)).w.blocks.length+b)<=lA S+2
  have J:cG (kF S.t.l (bY S.t.l false))+1=cG S.t.l:=IS z
  have d:cG T.t.l=cG (kF S.t.l (bY S.t.l false)):=d
  rw[←f] at c2
  have m:22<=eo S:=by
   unfold KM.fits KM.behind at c2
   simp only[Bool.and_eq_true,decide_eq_true_eq] at c2
   rw[n] at c2
   omega
  rw[x,u8,I,d]
  have C:23-b<=eo S:=by
   unfold KM.fits KM.behind at c2
   simp only[Bool.and_eq_true,decide_eq_true_eq] at c2
   rw[n] at c2
   omega
  unfold lA KM.behind;simp only[List.length_nil];omega
theorem FW (h:bB k S) (hk:k+40< 2 ^ 28) (i:eG) (b:Option Bs) (d:S.c.2.2=24) (f:lA S<=87):
 (S.add i b false).2.2=0/\lA (S.add i b false).1<=lA S+2:=by
 have a:(if b.isSome then(1:Int) else 0)=0∨(if b.isSome then(1:Int) else 0)=1:=by omega
 obtain⟨r1,g⟩:=SO h hk a d f
 have e:S.add i b false=((S.room (if b.isSome then 1 else 0) false).1.hold i b,if b.isSome then(S.room (if b.isSome then 1 else 0) false).1.first+(S.room (if b.isSome then 1 else 0) false).1.w.blocks.length else 0,0):=by
  unfold KM.St.add;grind
 rw[e]
 refine⟨rfl,?_⟩
 generalize(S.room (if b.isSome then 1 else 0) false).1=T at g
 have j:eo (T.hold i b)=behind T.w.p.2.1 (T.w.blocks.length+if b.isSome then(1:Int) else 0):=by
  unfold eo KM.St.hold
  rw[if_neg (by simp)]
  grind
 have m:(2:Int)<=behind T.w.p.2.1 (T.w.blocks.length+if b.isSome then(1:Int) else 0):=by unfold KM.behind;omega
 show 21*(7-(cG T.t.l:Int))+max (eo (T.hold i b)) 1<=_
 omega
theorem PV (h:bB k S) (hk:k+1< 2 ^ 28):lA S.ic=lA S:=by
 show 21*(7-(cG S.emit.t.l:Int))+max (eo S.emit) 1=_
 rw[qi h,HM h hk];rfl
theorem Ur (l:List cJ) (v:List Int):cG l<=cG (iT l v):=by
 have key:∀(l a:List cJ),l.length=a.length->(∀(i:Nat) (u w:cJ),l[i]?=some u->a[i]?=some w->u.1=0->w.1=0)->cG l<=cG a:=by
  intro l
  induction l with
  |nil=>grind
  |cons u l e=>
   intro a d h
   cases a with
   |nil=>cases d
   |cons w a=>
    have c:=h 0 u w rfl rfl
    have hi:=e a (by grind) λi b w' hu hw=>h (i+1) b w' (by grind) (by grind)
    unfold cG at hi ⊢
    grind
 refine key l (iT l v) (Bc l v).symm λi u w hu hw c=>?_
 obtain⟨b,f,_,g⟩:=LX hw
 grind
theorem PW (h:bB k S) (hk:k+1< 2 ^ 28):lA S.check.1<=lA S:=by
 obtain⟨o1,o2,o3,b,c,f,g,i,j⟩:=h.emit (by omega)
 rw[vH b c]
 show 21*(7-(cG (iT S.emit.t.l S.emit.t.v):Int))+max (eo S.emit) 1<=_
 have d:=Ur S.emit.t.l S.emit.t.v
 have e:=qi h
 have a:=HM h hk
 rw[a]
 unfold lA
 omega
end
end Lo
end
section
namespace Lo
open Go Go.Kx KM So Rc Ge
structure Gu (b ph:Int) (k:Nat) (S:KM.St):Prop where
 ok:bB k S
 lg:∃rg m1 l e F,Lg b S rg m1 l e F
 Gv:S.c.2.2=24/\S.c.2.1=8
 Ny:lA S<=ph
 gen:0<=S.n.gen/\S.n.gen<=b
 aN:1<=S.n.aN/\S.n.aN<=b
structure Inv (b ph:Int) (k:Nat) (S:KM.St):Prop extends Gu b ph k S where
 held:fY S.d
 mode:S.n.mode=1∨S.n.mode=2
 view:1<=S.n.view/\S.n.view<=2147483647
 aQ:0<=S.n.aQ/\S.n.aQ<=b
 seq:0<=S.n.done/\S.n.done<=S.n.seq/\S.n.seq<=b
 safe:∃S0,Gu b ph k S0/\S.d.safe=S0.d.now/\S0.c=S.c
section
variable {b ph:Int} {S:KM.St} {k:Nat}
theorem Gu.mono (h:Gu b ph k S) {c a:Int} {f:Nat} (i:b<=c) (d:c<=2147483646) (j:ph<=a) (hk:k<=f):Gu c a f S:=by
 obtain⟨rg,m1,l,e,F,g⟩:=h.lg
 exact⟨h.ok.mono hk,⟨rg,m1,l,e,F,g.mono i d⟩,h.Gv,by have:=h.Ny;omega,by have:=h.gen;omega,by have:=h.aN;omega⟩
theorem Inv.HU (P:Gu b ph k S) (held:fY S.d) (a:S.d.safe=S.d.now) (mode:S.n.mode=1∨S.n.mode=2) (view:1<=S.n.view/\S.n.view<=2147483647) (aQ:0<=S.n.aQ/\S.n.aQ<=b) (seq:0<=S.n.done/\S.n.done<=S.n.seq/\S.n.seq<=b):Inv b ph k S:=
 ⟨P,held,mode,view,aQ,seq,S,P,a,rfl⟩
theorem Gu.SP {f:KM.St} (g:Gu b ph k f) {E:Dk} (h:bu k E) (C:∀a,E.sec a=f.d.sec a) (hlen:E.now.length=f.d.now.length) (Q:fY E) (hk:k+10< 2 ^ 28) (O:b+1<=2147483646):∃i,kU E=some i/\lV E=true/\Inv (b+1) ph (k+3) i/\i.c=f.c/\i.w.items=[]/\i.w.blocks=[]/\(1<=i.w.p.2.2.1/\i.w.p.2.2.1<=k+3)/\fj i.c i.w.p=true:=by
 obtain⟨rg,m1,l,e,F,j⟩:=g.lg
 have u:1<=f.n.aN/\f.n.aN+1<=2147483647:=by have:=g.aN;omega
 obtain⟨id,I,A,G⟩:=j.opens g.ok (by omega) h C hlen u
 have L:dA f.c id (f.n.aN+1)=true:=by
  simp only[dA,Bool.and_eq_true,KM.bD]
  exact⟨⟨rG.2 g.ok.c,by omega⟩,by omega⟩
 have v:bP (eZ f.c id (f.n.aN+1)):=Su.wN L
 have N:=j.again g.ok h C hlen u G v
 have s:1<=(iA f E id rg F).w.p.2.2.1/\(iA f E id rg F).w.p.2.2.1<=k+3:=by
  have:=g.ok.cZ
  show 1<=f.w.p.2.2.1/\f.w.p.2.2.1<=(k:Int)+3
  omega
 have M:=IP h I s
 have m:=Ce j.hd.mX
 simp only[fW,Bool.and_eq_true,Bool.or_eq_true,beq_iff_eq,KM.bD] at m
 have H:=g.ok.lt;have K:=g.ok.p2;have J:=g.ok.p1;have Z:=g.ok.prev;have W:=g.ok.cZ
 have Y:=g.ok.len
 have T:=fB g.ok.c
 have hr:=eK g.ok.c J ⟨K.1,H⟩
 have o:0<=aZ f.c f.w.p.1+f.w.p.2.1/\aZ f.c f.w.p.1+f.w.p.2.1<E.now.length:=by omega
 have z:=h.put o pP.1 pP.2
 have R:=nY h o pP.1
 have y:0<=(f.n.aN+1)% 2/\(f.n.aN+1)% 2<(E.put (aZ f.c f.w.p.1+f.w.p.2.1) pM).now.length:=by omega
 have x:=Il f.c id (f.n.aN+1)
 have r:=yC (z.put y x v) ((Q.put h o pP.1).put z y x)
 have q:cG F.t.l=cG f.t.l:=LR (by rw[j.log.len,g.ok.tb.l]) j.log.Ib
 have B:lA (iA f E id rg F)<=ph:=by
  have:=g.Ny
  unfold lA at this ⊢
  have e1:cG (iA f E id rg F).t.l=cG f.t.l:=q
  have e2:eo (iA f E id rg F)=f.w.p.2.1:=by rfl
  have e3:f.w.p.2.1<=eo f:=by
   unfold eo
   split
   ·simp
   ·unfold KM.behind;omega
  omega
 have P:=g.gen;have X:=g.aN
 have D:=j.hd.gen
 have U:=j.f0;have V:=j.f1
 refine⟨_,I,A,Inv.HU ⟨M,⟨rg,m1,l,e,F,N.mono (by omega) O⟩,g.Gv,B,?_,?_⟩ r.1 r.2 ?_ ?_ ?_ ?_,rfl,rfl,rfl,s,?_⟩
 ·show 0<=rg.gen/\rg.gen<=b+1
  rw[D];omega
 ·show 1<=f.n.aN+1/\f.n.aN+1<=b+1
  omega
 ·show rg.mode=1∨rg.mode=2
  exact m.1.1.1.1.1.1.1.1.2
 ·show 1<=rg.view/\rg.view<=2147483647
  exact m.1.1.1.1.1.1.1.1.1.2
 ·show 0<=F.aQ/\F.aQ<=b+1
  omega
 ·show 0<=F.done/\F.done<=F.done/\F.done<=b+1
  omega
 ·show fj f.c (f.w.p.1,f.w.p.2.1,f.w.p.2.2.1,f.w.p.2.2.2.1,f.n.aN+1)=true
  simp only[fj,Bool.and_eq_true,KM.bD]
  omega
theorem Inv.jL (h:Inv b ph k S) (hk:k+10< 2 ^ 28) (j:b+1<=2147483646):∃e,kU (S.d.jL [])=some e/\lV (S.d.jL [])=true/\Inv (b+1) ph (k+3) e/\e.c=S.c/\e.w.items=[]/\e.w.blocks=[]/\(1<=e.w.p.2.2.1/\e.w.p.2.2.1<=k+3)/\fj e.c e.w.p=true:=by
 obtain⟨i,g,l,m⟩:=h.safe
 have f:=h.ok.dk.jL []
 have hlen:(S.d.jL []).now.length=i.d.now.length:=by rw[Ia];grind
 have:=g.SP (f.1.mono (by simp)) (λa=>R6 h.ok.dk g.ok.dk l a) hlen rfl hk j
 grind
end
end Lo
end
section
namespace Lo
open Go Go.Kx KM So Rc Ge
abbrev Gw (S:KM.St) (x:Int):Prop:=Us S.c (dP S.t.l) S.w.p.1 S.w.p.2.1 x
def Ck (S T:KM.St):Prop:=∀x,Gw S x->T.d.sec x=S.d.sec x
section
variable {b:Int} {S T:KM.St} {k j:Nat} {c:ax} {rg:fH} {m1:Im} {l:List (Pos×Rec)} {e:Pos} {F:KM.Fd}
theorem Ak (ok:bB k S) (hk:k< 2 ^ 28):Ck S S.aY:=λx g=>by
 unfold KM.St.aY
 simp only
 split
 ·rfl
 ·next o=>
  have m:=ok.p2;have a:=ok.c;have f:=a.2.2.2.2.1
  have h:=eK a ok.p1 (x:=0) (by omega)
  rw[Int.add_zero] at h
  have n:=ok.len;have i:=fB a
  show(S.d.put _ _).sec x=_
  rw[mh ok.dk (by grind) rfl (Hd.uY (ok.toji.head hk)),if_neg]
  rintro rfl
  rw[←Int.add_zero (aZ S.c S.w.p.1)] at g
  exact Us.not f (by grind) (by omega) g
theorem Ir (ok:ji k S) {items:List eG} {blocks:List Bs} (hm:dH (du S items blocks)=true) (m:∀x∈blocks,bP x) (t:1<=S.w.p.2.1) (hf:S.w.p.2.1+(1+(blocks.length:Int))<=S.c.2.2):Ck S (S.jM items blocks):=λx i=>by
 have g:=EL hm m
 have u:=Sc.kX ok.c ok.p1
 have s:=ok.len
 have h:(cH (du S items blocks)).length=1+blocks.length:=Aj _
 show(S.d.dW _ _).sec x=_
 have o:=eK ok.c ok.p1 (x:=S.w.p.2.1) (by grind)
 have q:=(by omega)
 have n:=fB ok.c
 rw[xD _ (a:=aZ S.c S.w.p.1+S.w.p.2.1) ok.dk (by omega) (by omega) g,if_neg]
 rintro⟨r,f⟩
 have f:x<aZ S.c S.w.p.1+S.w.p.2.1+((cH (du S items blocks)).length:Int):=f
 rw[h] at f
 have e:x=aZ S.c S.w.p.1+(x-aZ S.c S.w.p.1):=by omega
 rw[e] at i
 exact Us.not ok.c.2.2.2.2.1 (by omega) (by omega) i
theorem Dn (ok:bB k S) (hk:k+1< 2 ^ 28):Ck S S.emit:=λx a=>by
 unfold KM.St.emit
 by_cases he:S.w.items=[]
 ·grind
 ·rw[if_neg (by simpa using he)]
  obtain⟨n,o,u,v⟩:=ok.toji.aY (by omega) ok.lt
  obtain⟨f,g,d,r,h,s,⟨i,q⟩,m⟩:=ok.toji.Cv
  have hm:=ok.may (by omega) he
  have hf:=(ok.fit he).2
  rw[f,g] at hm
  have hu:Gw S.aY x:=by
   have:Us S.aY.c (dP S.aY.t.l) S.aY.w.p.1 S.aY.w.p.2.1 x:=by
    rw[d,h,i]
    exact a.mono (by simp) (by omega)
   exact this
  have:=Ir n hm (λx a=>(ok.xy x a).2) o (by rw[d,m];unfold behind at hf;omega) x hu
  exact this.trans (Ak ok (by omega) x a)
theorem SQ (ok:bB k S) (hk:k+20< 2 ^ 28) (n:1<=S.w.p.2.1) {g:Int} (h:0<=g/\g<S.c.2.1) (u:g≠S.w.p.1):∀x,Gw S x->gp S.c g x=false->(S.cR g).d.sec x=S.d.sec x:=λx r f=>by
 have z:=ok.c.2.2.2.1;have v:=ok.c.2.2.2.2.1
 have hm:=w6 (g:=g) (by omega) ok.toji (by omega)
 have t:=ok.lt
 obtain⟨u1,B⟩:=ok.toji.jM (by omega) hm (by simp) n (by grind)
 have i:=ym u1 (g:=g) h S.w.p.1
 have o:=Ir ok.toji hm (by simp) n (by grind) x r
 unfold KM.St.cR KM.St.aY
 simp only
 rw[if_neg (by show¬(0:Int)< 0;omega)]
 have q:=eK ok.c h (x:=0) (by omega)
 rw[Int.add_zero] at q
 have s:=fB ok.c
 have m:=i.len
 show(((S.jM [(7,0,0,g)] []).sX S.w.p.1 g).d.put (aZ S.c g) _).sec x=_
 have m:all S.c<=(((S.jM [(7,0,0,g)] []).sX S.w.p.1 g).d.now.length:Int):=m
 refine(mh i.dk (a:=aZ S.c g) (by omega) rfl (Hd.uY (i.head (by omega))) x).trans ?_
 rw[if_neg]
 ·exact o
 ·intro A
  rw[Vs ok.c h (y:=0) (by omega) (by omega)] at f;cases f
theorem XK {st:Int->Int} {s o x g:Int} (d:bE c) (h:Us c st s o x) (m:st g=0) (i:g≠s):gp c g x=false:=by
 cases f:gp c g x with
 |false=>rfl
 |true=>
  rcases LO d h f with a|a
  ·omega
  omega
theorem SR (h:Lg b S rg m1 l e F) (ok:bB k S) (hk:k+40< 2 ^ 28) {bb:Int} (E:bb=0∨bb=1) (sp:Bool):Ck S (S.room bb sp).1:=by
 have D:=ok.c.2.2.2.2.1
 rcases wV S bb sp with⟨c1,d⟩|⟨_,c2,d⟩|⟨_,_,_,d⟩|⟨_,c2,c3,d⟩
 ·rw[d];exactλx _=>rfl
 ·rw[d];exact Dn ok (by omega)
 ·rw[d];exactλx _=>rfl
 ·rw[d]
  have v:=yn S.t.l sp
  have R:=ok.tb.l
  have Q:=ok.c.2.2.1
  rcases v with⟨v,L⟩|⟨N,O,u⟩
  ·omega
  have G:0<=bY S.t.l sp/\bY S.t.l sp<S.c.2.1:=by omega
  have f:dP S.t.l (bY S.t.l sp)=0:=by
   have:=u
   rw[jP,Bool.and_eq_true,beq_iff_eq] at this
   exact this.2
  have o:bY S.t.l sp≠S.w.p.1:=λH=>by rw[H,h.log.Cx] at f;cases f
  have m:0<=bY S.t.l sp/\bY S.t.l sp<S.t.l.length:=(by omega)
  generalize bY S.t.l sp=g at G f o m ⊢
  have i:=ok.jh g
  obtain⟨e1,e2,e3,e4,e5,A,B,P,C⟩:=i.emit (by omega)
  have a:=wU i (by omega)
  have n:=Dn i (by omega)
  have r:=zt i
  have q:({S with t:=S.t.jh g}:KM.St).emit.w.p.1=S.w.p.1:=C.1.1
  have K:dP (({S with t:=S.t.jh g}:KM.St).t.l)=λx=>if x=g then 1 else dP S.t.l x:=funext λx=>Cc m f x
  generalize({S with t:=S.t.jh g}:KM.St).emit=T at e1 e2 e3 e4 e5 A B a n r q ⊢
  have e4:T.c=S.c:=e4
  have a:T.w.p.2.1=(if S.w.items.isEmpty then S.w.p.2.1 else behind S.w.p.2.1 S.w.blocks.length):=a
  have J:1<=T.w.p.2.1:=by rw[a];exact yo D E c2
  have I:S.w.p.2.1<=T.w.p.2.1:=by
   rw[a]
   split
   ·simp
   ·unfold KM.behind;omega
  intro x z
  have M:=XK ok.c z f o
  have s:Gw ({S with t:=S.t.jh g}:KM.St) x:=z.mono (by grind) (by simp)
  have y:Gw T x:=by
   have:Us T.c (dP T.t.l) T.w.p.1 T.w.p.2.1 x:=by
    rw[e4,r,q]
    exact s.mono (by simp) (by grind)
   exact this
  exact(SQ e1 (by omega) J (by grind) (by omega) x y (by grind)).trans (n x s)
theorem add_same (h:Lg b S rg m1 l e F) (ok:bB k S) (hk:k+40< 2 ^ 28) {i:eG} {bo:Option Bs} {sp:Bool}:Ck S (S.add i bo sp).1:=by
 have a:(if bo.isSome then(1:Int) else 0)=0∨(if bo.isSome then(1:Int) else 0)=1:=by omega
 have d:=SR h ok hk a sp
 by_cases he:(S.room (if bo.isSome then 1 else 0) sp).2=0
 ·have e:(S.add i bo sp).1=(S.room (if bo.isSome then 1 else 0) sp).1.hold i bo:=by
   unfold KM.St.add;grind
  rw[e];exact d
 ·have e:(S.add i bo sp).1=(S.room (if bo.isSome then 1 else 0) sp).1:=by
   unfold KM.St.add;grind
  grind
theorem Dp {r:fH} {q:Im} {D:List (Pos×Rec)} {u:Pos} {s:KM.Fd} {t:Int} (h:Lg b S rg m1 l e F) (ok:bB k S) (v:Lg t T r q D u s) (i:bB j T) (I:T.c=S.c) (g:T.m.l0=S.m.l0) (B:Ck S T) (x:Int):T.read x=S.read x:=by
 have o:∀{b:Int} {S:KM.St} {k:Nat} {rg:fH} {m1:Im} {l:List (Pos×Rec)} {e:Pos} {F:KM.Fd},Lg b S rg m1 l e F->bB k S->∀x,0<bT S.m.l0 x->Gw S (bT S.m.l0 x)/\S.D6 (bT S.m.l0 x)=(S.d.sec (bT S.m.l0 x),0):=by
  intro b S k rg m1 l e F h ok x C
  have hm:bT S.m.l0 x∈S.m.l0:=by
   rcases FU S.m.l0 x with a|a
   ·omega
   ·exact a
  have hu:Gw S (bT S.m.l0 x):=by
   rcases h.gS.u0 _ hm with a|a
   ·omega
   ·exact a
  generalize bT S.m.l0 x=y at C hu ⊢
  have J:=hu.oV ok.c
  have hlen:=ok.len
  have H:=ok.p2
  refine⟨hu,?_⟩
  unfold KM.St.D6
  rw[if_neg,Fy ok.dk (by omega)]
  rintro⟨a,z⟩
  unfold KM.St.first KM.behind at a z
  have hf:=Gs ok
  unfold KM.behind at hf
  have e:y=aZ S.c S.w.p.1+(y-aZ S.c S.w.p.1):=by omega
  rw[e] at hu
  exact Us.not ok.c.2.2.2.2.1 (by omega) (by omega) hu
 have n:T.has x 1=S.has x 1:=by unfold KM.St.has Im.has;rw[g]
 unfold KM.St.read
 have A:T.asks 0 (T.has x 1)=S.asks 0 (S.has x 1):=by
  unfold KM.St.asks
  rw[n,ok.dk.off,i.dk.off]
  simp
 rw[A]
 simp only
 split
 ·rfl
 ·rw[g]
  unfold KM.St.bytes
  split
  ·rfl
  ·next G=>
   have f:0<bT S.m.l0 x:=by
    have:sY S.c false (bT S.m.l0 x):=uA h.ref.r0 x
    have E:=fB ok.c
    rcases this with(a|a)|⟨a,_⟩
    ·omega
    ·omega
    ·cases a
   obtain⟨hu,e1⟩:=o h ok x f
   have e2:=(o v i x (by rw[g];exact f)).2
   rw[g] at e2
   rw[e1,e2,B _ hu]
theorem SS (M:Im):M.forget.1.l0=M.l0:=by
 have:∀n,(gb M n).1.l0=M.l0:=by
  intro n
  induction n with
  |zero=>rfl
  |succ n a=>exact a
 exact this _
theorem ZD (M:Im) (x n:Int):(M.cut true x n).1.l0=M.l0:=by
 unfold Im.cut
 split
 ·have:∀i,(gZ true x M i).1.l0=M.l0:=by
   intro i
   induction i with
   |zero=>rfl
   |succ i a=>exact a
  exact this _
 ·rfl
end
end Lo
end
section
namespace Lo
open Go Go.Kx KM So Rc Ge Mo
section
variable {b ph:Int} {S T:KM.St} {k:Nat}
theorem Inv.mono (h:Inv b ph k S) {d c:Int} {g:Nat} (e:b<=d) (a:d<=2147483646) (f:ph<=c) (hk:k<=g):Inv d c g S:=by
 obtain⟨j,i,m,l⟩:=h.safe
 exact⟨h.toGu.mono e a f hk,h.held,h.mode,h.view,by have:=h.aQ;omega,by have:=h.seq;omega,j,i.mono e a f hk,m,l⟩
theorem Inv.lay (h:Inv b ph k S) (hk:k+200< 2 ^ 28) (q:b+1<=2147483646) (E:ph<=87) {x:Int} {data:Bs} (hm:S.n.mode=1) (a:S.has x 1=true) (hd:data.length=64) (g:bP data) (A:dV data=0):
 cB (1,x,0,0)=true/\(S.add (1,x,0,0) (some data) false).2.2=0/\Inv (b+1) (ph+2) (k+60) (S.lay true x data).1/\∀y,(S.lay true x data).1.read y=S.read y:=by
 have ok:=h.ok
 have C:=uf ok.toji a
 have B:=ok.c
 have hi:cB (1,x,0,0)=true:=by
  have:=ok.im.uD
  simp[cB,bN];omega
 have J:=h.Ny
 obtain⟨he,D⟩:=FW ok (by omega) (1,x,0,0) (some data) h.Gv.1 (by omega)
 have i:=GY ok (by omega) hm a hd g he hi
 obtain⟨l1,l2,L,f,M⟩:=Rb ok (by omega) hm a hd g he hi
 obtain⟨rg,m1,l,e,F,p⟩:=h.lg
 obtain⟨K,I,H,j⟩:=p.lay ok (by omega) hm a hd g he hi A q
 have o:lj S.d (S.lay true x data).1.d:=by
  rw[i];exact Dm ok (by omega)
 obtain⟨v,u,z,w⟩:=h.safe
 have r:(S.lay true x data).1.m.l0=S.m.l0:=by rw[i];rfl
 have t:Ck S (S.lay true x data).1:=by
  rw[i];exact add_same p ok (by omega)
 have G:lA (S.lay true x data).1=lA (S.add (1,x,0,0) (some data) false).1:=by rw[i];rfl
 refine⟨hi,he,⟨⟨l1.mono (by omega),⟨_,_,_,_,_,j⟩,by rw[l2];exact h.Gv,by omega,?_,?_⟩,o.h h.held,?_,?_,?_,?_,v,u.mono (by omega) q (by omega) (by omega),by rw[o.s];exact z,by rw[l2];exact w⟩,λy=>Dp p ok j l1 l2 r t y⟩
 ·rw[f];have:=h.gen;exact⟨this.1,by show S.n.gen<=_;omega⟩
 ·rw[f];have:=h.aN;exact⟨this.1,by show S.n.aN<=_;omega⟩
 ·rw[f];exact h.mode
 ·rw[f];exact h.view
 ·rw[f];have:=h.aQ;exact⟨this.1,by show S.n.aQ<=_;omega⟩
 ·rw[f];have:=h.seq;exact⟨this.1,by show S.n.done<=S.n.seq+1;omega,by show S.n.seq+1<=_;omega⟩
theorem Inv.cut (h:Inv b ph k S) (hk:k+200< 2 ^ 28) (p:b+1<=2147483646) (C:ph<=87) {x:Int} (hm:S.n.mode=1) (a:S.has x 1=true):
 cB (2,x,1,0)=true/\(S.add (2,x,1,0) none false).2.2=0/\Inv (b+1) (ph+2) (k+60) (S.cut true x 1).1/\∀y,(S.cut true x 1).1.read y=S.read y:=by
 have ok:=h.ok
 have A:=uf ok.toji a
 have hi:cB (2,x,1,0)=true:=by
  have:=ok.im.uD
  simp[cB,bN];omega
 have H:=h.Ny
 obtain⟨he,B⟩:=FW ok (by omega) (2,x,1,0) none h.Gv.1 (by omega)
 have f:=Gb ok (x:=x) (n:=1) hm a he
 obtain⟨l1,l2,J,c,K⟩:=Rf ok (by omega) hm a he hi
 obtain⟨rg,m1,l,e,F,j⟩:=h.lg
 obtain⟨I,G,E,g⟩:=j.cut ok (by omega) hm a he hi p
 have i:lj S.d (S.cut true x 1).1.d:=by
  rw[f];exact Dm ok (by omega)
 obtain⟨v,u,z,w⟩:=h.safe
 have q:bM (2,x,1,0)=false:=by rw[bM,hi];rfl
 have o:=(qY (sp:=false) ok (by omega) hi (b:=none) (by rw[q];rfl) (by simp)).1.m
 have r:(S.cut true x 1).1.m.l0=S.m.l0:=by
  rw[f]
  show((S.add (2,x,1,0) none false).1.m.cut true x 1).1.l0=_
  rw[ZD,o]
 have t:Ck S (S.cut true x 1).1:=by
  rw[f];exact add_same j ok (by omega)
 have D:lA (S.cut true x 1).1=lA (S.add (2,x,1,0) none false).1:=by rw[f];rfl
 refine⟨hi,he,⟨⟨l1.mono (by omega),⟨_,_,_,_,_,g⟩,by rw[l2];exact h.Gv,by omega,?_,?_⟩,i.h h.held,?_,?_,?_,?_,v,u.mono (by omega) p (by omega) (by omega),by rw[i.s];exact z,by rw[l2];exact w⟩,λy=>Dp j ok g l1 l2 r t y⟩
 ·rw[c];have:=h.gen;exact⟨this.1,by show S.n.gen<=_;omega⟩
 ·rw[c];have:=h.aN;exact⟨this.1,by show S.n.aN<=_;omega⟩
 ·rw[c];exact h.mode
 ·rw[c];exact h.view
 ·rw[c];have:=h.aQ;exact⟨this.1,by show S.n.aQ<=_;omega⟩
 ·rw[c];have:=h.seq;exact⟨this.1,by show S.n.done<=S.n.seq+1;omega,by show S.n.seq+1<=_;omega⟩
theorem Inv.mark (h:Inv b ph k S) (hk:k+200< 2 ^ 28) (g:b+1<=2147483646) (o:ph<=87) {ep:Int} (hm:S.n.mode=1) (a:ep=S.n.aQ+1):
 (S.add (3,0,0,ep) none false).2.2=0/\Inv (b+1) (ph+2) (k+60) (S.mark ep).1:=by
 have ok:=h.ok
 have s:=h.Ny
 have j:=h.aQ
 obtain⟨he,m⟩:=FW ok (by omega) (3,0,0,ep) none h.Gv.1 (by omega)
 obtain⟨l1,l2,u,c,v,w⟩:=Nc ok (by omega) hm a (by omega) he
 obtain⟨rg,m1,l,e,F,f⟩:=h.lg
 obtain⟨t,r,q,d⟩:=f.mark ok (by omega) hm a (by omega) (by omega) g he
 obtain⟨k1,k2⟩:=PU ok (by omega) h.held hm a (by omega) he
 obtain⟨hi,i⟩:=Ki (show 1<=ep/\ep<=2147483647 by omega)
 have P:=(qY (sp:=false) ok (by omega) hi (b:=none) (by rw[i];rfl) (by simp)).1
 have p:lA (S.mark ep).1=lA (S.add (3,0,0,ep) none false).1:=by
  rw[BQ ok hm a he,←PV P.ok (by omega)];rfl
 refine⟨he,Inv.HU ⟨l1.mono (by omega),⟨_,_,_,_,_,d⟩,by rw[l2];exact h.Gv,by omega,?_,?_⟩ k1 k2 ?_ ?_ ?_ ?_⟩
 ·rw[c];have:=h.gen;exact⟨this.1,by show S.n.gen<=_;omega⟩
 ·rw[c];have:=h.aN;exact⟨this.1,by show S.n.aN<=_;omega⟩
 ·rw[c];exact h.mode
 ·rw[c];exact h.view
 ·rw[c];show 0<=ep/\ep<=b+1;omega
 ·rw[c];have:=h.seq;exact⟨by show 0<=S.n.seq+1;omega,Int.le_refl _,by show S.n.seq+1<=_;omega⟩
theorem Inv.raise (h:Inv b ph k S) (hk:k+200< 2 ^ 28) (D:b+1<=2147483646) {view mode:Int} (hm:S.n.mode=1) (t:1<=view/\view<=2147483647) (j:mode=1∨mode=2) (w:S.n.view<view):
 vI (S.raised view mode)/\Inv (b+1) (ph+2) (k+60) (S.raise view mode).1/\(S.raise view mode).1.n.view=view/\(S.raise view mode).1.n.mode=mode/\(S.raise view mode).1.c=S.c/\(∀y,(S.raise view mode).1.read y=S.read y)/\
  (S.raise view mode).1.n.seq=(S.raise view mode).1.n.done:=by
 have ok:=h.ok
 have p:=h.seq;have z:=h.gen
 obtain⟨rg,m1,l,e,F,v⟩:=h.lg
 obtain⟨P,⟨L,K,N,M,g⟩,f⟩:=v.raise ok (by omega) hm t j w ⟨z.1,by omega⟩ h.aQ ⟨p.1,by omega⟩ (by omega)
 have G:=xA hm t j w ok.dk.off
 have d:=vg ok view mode
 have r:=CY d (by omega) P
 have o:=MN d (by omega) P h.held
 have E:=PW d (by omega)
 obtain⟨o1,o2,o3,u,C,I,Q,R,U⟩:=d.emit (by omega)
 have i:=vH u C
 rw[show(S.raise view mode).1=(S.raised view mode).check.1 by rw[G]] at g f ⊢
 have a:(S.raised view mode).check.1.n={(S.raised view mode).emit.n with gen:=(S.raised view mode).emit.n.gen+1,slot:=1-(S.raised view mode).emit.n.slot,lb:=(w9 (S.raised view mode)).2,lo:=(yJ (S.raised view mode)).2}:=by rw[i]
 have s:(S.raised view mode).check.1.c=S.c:=by rw[i];exact u
 have A:(S.raised view mode).check.1.m.l0=S.m.l0:=by
  rw[i]
  show(S.raised view mode).emit.m.l0=_
  rw[I];exact SS S.m
 rw[C] at a
 have J:lA (S.raised view mode)=lA S:=rfl
 have O:=h.Ny
 have B:Ck S (S.raised view mode).check.1:=λx H=>by
  have q:Gw (S.raised view mode) x:=H
  have:=q.oV d.c
  rw[f x (by rw[u];exact this.1)]
  exact Dn d (by omega) x q
 refine⟨P,Inv.HU ⟨r.mono (by omega),⟨_,_,_,_,_,g.mono (by omega) D⟩,by rw[s];exact h.Gv,by omega,?_,?_⟩ o.1 o.2 ?_ ?_ ?_ ?_,by rw[a];rfl,by rw[a];rfl,s,λy=>Dp v ok g r s A B y,by rw[a];rfl⟩
 ·rw[a];show 0<=S.n.gen+1/\S.n.gen+1<=b+1;omega
 ·rw[a];have:=h.aN;exact⟨this.1,by show S.n.aN<=_;omega⟩
 ·rw[a];exact j
 ·rw[a];exact t
 ·rw[a];have:=h.aQ;exact⟨this.1,by show S.n.aQ<=_;omega⟩
 ·rw[a];exact⟨p.1,Int.le_refl _,by show S.n.done<=_;omega⟩
end
end Lo
end
section
namespace Re
open Go Go.Kx KM Rw Ge Sc Rg Mo Ds Rc So Wi Fm Lo
theorem Ut (y:Int):dV (iJ y)=0:=by
 have a:num (iJ y) 0 1=(y% 256+0)% 256+256*0:=rfl
 have e1:num (iJ y) 1 1=(y% 256+1)% 256+256*0:=rfl
 unfold dV
 omega
structure Kn (S S':KM.St) (ra pm mk:Bool) (v e:Int):Prop where
 want:e=if S.n.mode=2 then 7 else if ra=true/\(v<S.n.view∨v=S.n.view/\pm=true) then 8 else if ra=false/\v≠S.n.view then 8 else 0
 ge:S.n.view<=S'.n.view
 up:S'.n.view≠S.n.view->ra=true/\S'.n.view=v
 md:S.n.mode=2->S'.n.mode=2
 same:e≠0->S'=S
 prom:e=0->pm=true->S'.n.mode=2
 read:mk=false∨e≠0->∀y,S'.read y=S.read y
theorem Kn.no {S:KM.St} {ra pm mk:Bool} {v e:Int} (h:e≠0) (w:e=if S.n.mode=2 then 7 else if ra=true/\(v<S.n.view∨v=S.n.view/\pm=true) then 8 else if ra=false/\v≠S.n.view then 8 else 0):Kn S S ra pm mk v e:=
 ⟨w,Int.le_refl _,by simp,λh=>h,λ_=>rfl,by omega,by simp⟩
section
variable {H B:PH} {L R:List Ob} {k n:Nat} {A:Ds.DA} {F:Fr} {W:Wt} {S:KM.St} {V:WM} {f:oW} {b ph:Int}
theorem XL (I:Inv b ph k S) (hm:S.n.mode=1) (a:b+1<=2 ^ 30):uz S:=by
 have:=I.view;have:=I.aQ;have:=I.seq
 exact⟨hm,I.view,by omega,by omega,by omega⟩
theorem MO {v t:Int} {Q:Int->PH->Prop} (h:aA H (aC B::qg A F W S (lf 4 t) R)) (D:S.n.mode=1->t=S.n.seq+1) (m:A.a=F.X.da) (o:pJ B F S.c) (r:gJ B W S) (I:Inv b ph k S) (hk:k+200< 2 ^ 28) (J:b+1<=2 ^ 30) (i:1<=v/\v<=2147483647)
 (p:∀j l d e g H',j.a=F.X.da->Ext B g->gJ g l d->Inv (b+1) (ph+2) (k+60) d->d.c=S.c->Kn S d true true false v e->(∃q,aA H' (aC g::qg j F l d (lf 4 q) R)/\(d.n.mode=1->q=d.n.seq+1))->Q e H'):iO (some F.fa) v H Q:=by
 by_cases hm:S.n.mode=1/\S.n.view<v
 ·obtain⟨P,x,n1,n2,n3,z,K⟩:=I.raise hk (by omega) hm.1 i (.inr rfl) hm.2
  refine Dc h m o r I.ok (by omega) hm.1 i hm.2 P λu y w H1 eA C s E l1 G=>p u y _ 0 w H1 eA C s x n3 ⟨?_,by omega,by grind,by omega,by simp,λ_ _=>n2,λ_=>z⟩ (by grind)
  grind
 ·refine lh o h.base (UK h i (.inr rfl) (by omega) (p A W S _ B H m (.refl _) r (I.mono (by omega) (by omega) (by omega) (by omega)) rfl (Kn.no ?_ ?_) (by grind)))
  ·omega
  ·have:=I.mode
   grind
theorem SU {p:Sl} {q0:Int} {Q:Sl->Int->PH->Prop} (h:aA H (aC B::qg A F W S (lf 4 q0) R)) (r:S.n.mode=1->q0=S.n.seq+1) (v:A.a=F.X.da) (J:pJ B F S.c) (x:gJ B W S) (I:Inv b ph k S) (hk:k+200< 2 ^ 28) (hb:b+1<=2 ^ 30) (G:ph<=87) (hp:Bytes B p (cV f)) (hm:cx f=true) (o:bP f.data)
 (D:f.kind=9∨(f.kind≠8/\f.kind≠9)/\f.seq=S.n.seq+1/\(f.kind=1->S.has f.block 1=true/\∃y,f.data=iJ y)/\(f.kind=2->S.has f.block 1=true/\f.count=1)/\(f.kind=3->f.aQ=S.n.aQ+1))
 (w:∀s t m q e i H',s.a=F.X.da->Ext B i->gJ i t m->Inv (b+1) (ph+2) (k+60) m->m.c=S.c->Kn S m (f.kind==9) false (f.kind==3) f.view e->(∃q,aA H' (aC i::qg s F t m (lf 4 q) R)/\(m.n.mode=1->q=m.n.seq+1))->Q q e H'):lQ (some F.fa) p H Q:=by
 have P:=parts hm
 have hl:(cV f).length=25+f.data.length:=by rw[cV,ko,rK];omega
 have hd:=P.data
 have M:=P.view
 have hD:=Ru hm o
 have hB:=FJ P o
 have hn:S.n.mode=1->uz S:=λhm=>XL I hm (by omega)
 have ae:=I.mode
 have Im:Inv (b+1) (ph+2) (k+60) S:=I.mono (by omega) (by omega) (by omega) (by omega)
 have aa:f.kind=1∨f.kind=2∨f.kind=3∨f.kind=8∨f.kind=9:=by
  unfold cx at hm
  by_cases e1:f.kind=1
  ·exact .inl e1
  by_cases e2:f.kind=2
  ·exact .inr (.inl e2)
  by_cases e3:f.kind=3
  ·exact .inr (.inr (.inl e3))
  by_cases e8:f.kind=8
  ·exact .inr (.inr (.inr (.inl e8)))
  by_cases Y:f.kind=9
  ·exact .inr (.inr (.inr (.inr Y)))
  rw[if_neg e1,if_neg e2,if_neg e3,if_neg e8,if_neg Y,Bool.and_false] at hm
  cases hm
 by_cases E:S.n.mode=1/\f.kind≠9/\f.view=S.n.view
 ·obtain⟨d,g,O⟩:=E
  have e0:=r d
  subst e0
  obtain⟨h8,ad,k1,k2,k3⟩:(f.kind≠8/\f.kind≠9)/\_:=by
   rcases D with e|e
   ·exact absurd e g
   ·exact e
  have hN:=hn d
  have hs:=I.seq;have he:=I.aQ
  have key:Da S (fT f)/\Inv (b+1) (ph+2) (k+60) (S.op (fT f)).1/\(f.kind≠3->∀y,(S.op (fT f)).1.read y=S.read y):=by
   rcases aa with e|e|e|e|e
   ·obtain⟨a1,y,u⟩:=k1 e
    obtain⟨c1,c2,c3,U⟩:=I.lay hk (by omega) G d a1 (data:=f.data) (by rw[u,vV]) o (by rw[u];exact Ut y)
    have eo:S.op (fT f)=S.lay true f.block f.data:=by unfold KM.St.op;rw[if_pos (show(fT f).kind=1 from e)];rfl
    rw[eo]
    exact⟨⟨.inl e,λ_=>⟨a1,by show f.data.length=64;rw[u,vV],o,c1,c2⟩,λh=>absurd (show f.kind=2 from h) (by omega),λh=>absurd (show f.kind=3 from h) (by omega)⟩,c3,λ_=>U⟩
   ·obtain⟨a1,u⟩:=k2 e
    obtain⟨c1,c2,c3,U⟩:=I.cut hk (by omega) G d a1
    have eo:S.op (fT f)=S.cut true f.block 1:=by unfold KM.St.op;rw[if_neg (show(fT f).kind≠1 by show f.kind≠1;omega),if_pos (show(fT f).kind=2 from e),←u];rfl
    rw[eo]
    refine⟨⟨.inr (.inl e),λh=>absurd (show f.kind=1 from h) (by omega),λ_=>?_,λh=>absurd (show f.kind=3 from h) (by omega)⟩,c3,λ_=>U⟩
    show S.has f.block f.count=true/\cB (2,f.block,f.count,0)=true/\(S.add (2,f.block,f.count,0) none false).2.2=0
    rw[u];exact⟨a1,c1,c2⟩
   ·have a1:=k3 e
    obtain⟨c2,c3⟩:=I.mark hk (by omega) G d (ep:=f.aQ) a1
    have eo:S.op (fT f)=S.mark f.aQ:=by unfold KM.St.op;rw[if_neg (show(fT f).kind≠1 by show f.kind≠1;omega),if_neg (show(fT f).kind≠2 by show f.kind≠2;omega)];rfl
    rw[eo]
    exact⟨⟨.inr (.inr e),λh=>absurd (show f.kind=1 from h) (by omega),λh=>absurd (show f.kind=2 from h) (by omega),λ_=>⟨a1,c2⟩⟩,c3,λh=>absurd e h⟩
   ·omega
   ·omega
  obtain⟨ho,T,hr⟩:=key
  obtain⟨p1,p2,p3,p4,p5,p6,p7,p8,p9,af,ag⟩:=BR I.ok (by omega) hN ho
  refine CV J h.base (kq h v J x I.ok (by omega) hN (by omega) (by omega) hp hD (by omega) (by omega) hB O ad (λ_=>rfl) (by show 0< 4;decide) (by show S.n.seq+1+1<_;omega) ho λs t q i H' eA j z hq l=>?_)
  refine w s t _ q 0 i H' eA j z T p3 ⟨?_,by omega,λh=>absurd p7 h,λh=>absurd d (by omega),λh=>absurd rfl h,(λ_ h=>by cases h),λh=>?_⟩ ?_
  ·rw[if_neg (by omega),if_neg (by simp[g]),if_neg (by simp[O])]
  ·refine hr λe=>?_
   rw[e] at h
   rcases h with h|h
   ·cases h
   ·exact h rfl
  ·exact⟨_,l,λ_=>by show S.n.seq+1+1=_;omega⟩
 ·have N:S.has f.block 1=true->0<=f.block/\f.block+1<=S.c.1.toNat:=λC=>by have:=uf I.ok.toji C;omega
  refine CV J h.base (UL h v J x I.ok (by omega) hp hD (by omega) (by omega) hB (λh7 i H' j l=>?_) hn M ?_ (λe=>?_) (λd K=>(I.raise hk (by omega) d M (.inl rfl) K).1) (λd ab i H' j l=>?_) (λd g he q i H' j l=>?_) λd g K s t q i H' eA j z l=>?_)
  ·refine w A W S _ 7 i H' v j (x.ext j) Im rfl (Kn.no (by decide) ?_) ⟨_,l,r⟩
   rw[if_pos (by omega)]
  ·exact⟨by rcases D with e|e<;>omega,λd g C=>E ⟨d,g,C⟩⟩
  ·rcases D with Y|⟨_,_,k1,k2,_⟩
   ·omega
   ·rcases e with e|e
    ·have:=N (k1 e).1
     have Z:f.count=0:=Gc hm e
     rw[Z,if_pos (by decide)];omega
    ·have:=N (k2 e).1
     have Z:=(k2 e).2
     rw[Z,if_neg (by decide)];omega
  ·refine w A W S _ 8 i H' v j (x.ext j) Im rfl (Kn.no (by decide) ?_) ⟨_,l,r⟩
   rw[if_neg (by omega)]
   by_cases g:f.kind=9
   ·rw[if_pos ⟨by simp[g],.inl (ab g)⟩]
   ·rw[if_neg (by simp[g]),if_pos ⟨by simp[g],λC=>E ⟨d,g,C⟩⟩]
  ·refine w A W S q 0 i H' v j (x.ext j) Im rfl ⟨?_,Int.le_refl _,λh=>absurd rfl h,λh=>h,λ_=>rfl,(λ_ h=>by cases h),λ_ _=>rfl⟩ ⟨_,l,r⟩
   rw[if_neg (by omega),if_neg (by simp[he]),if_neg (by simp[g])]
  ·obtain⟨P,T,n1,n2,n3,n4,n5⟩:=I.raise hk (by omega) d M (.inl rfl) K
   have ac:=(IE I.ok (by omega) d M (.inl rfl) K).2.2.2.1
   refine w s t _ q 0 i H' eA j z T n3 ⟨?_,by omega,λ_=>⟨by simp[g],n1⟩,λh2=>absurd d (by omega),λh=>absurd rfl h,(λ_ h=>by cases h),λ_=>n4⟩ ⟨_,l,λ_=>by rw[ac]⟩
   rw[if_neg (by omega),if_neg (by simp;omega),if_neg (by simp[g])]
end
end Re
end
end Go.Proofs.YtigjebgjphmkoaaGreat
section
namespace KM
def Vu (c:ax):Bool:=
 ((((fD c).sec 1==eZ c 1 1)&&(eJ ((fD c).sec 0)).isNone)&&(((fD c).dQ (ar c 0) (bW c).toNat==gV c (cY c 1))&&(jf c ((fD c).dQ (ar c 1) (bW c).toNat)).isNone))&&
 (((List.range (bc c).toNat).all λk=>((fD c).sec (cw c false k 0)==tG c false k)&&((fD c).sec (cw c true k 0)==tG c true k))&&
 ((((fD c).now.drop (base c).toNat).all λb=>b.1==List.replicate 64 0)&&(cj (fresh (all c).toNat)==0)))
def JP:Nat->Bool
 | 0=>true
 |n+1=>Vu ((n:Int)+1,8,24)&&JP n
theorem PX:JP 20=true:=by decide+kernel
theorem LZ:∀(n i:Nat),JP n=true->i<n->Vu ((i:Int)+1,8,24)=true
 | 0,i,_,h=>by omega
 |n+1,i,h,hi=>by
  rw[JP,Bool.and_eq_true] at h
  by_cases e:i=n
  ·grind
  ·exact LZ n i h.2 (by omega)
end KM
end
namespace Go.Proofs.YtigjebgjphmkoaaGreat
open Tryz
section
namespace Lo
open Go Go.Kx KM So Rc Ge Mo
section
variable {c:ax} {k:Nat}
structure Gx (k:Nat) (n:Nat) (D:Dk):Prop where
 ok:bu k D
 held:fY D
 len:D.now.length=n
theorem SV:∀(l:List (Int×List Bs)) {D:Dk} {k n:Nat},Gx k n D->(∀x∈l,x.2.length<=4/\(0<=x.1/\x.1+x.2.length<=n)/\∀y∈x.2,y.length=64/\bP y)->Gx (k+4*l.length) n (D.zQ l)
 |[],_,_,_,h,_=>h
 |x::l,D,k,n,h,d=>by
  obtain⟨f,a,b⟩:=d x List.mem_cons_self
  obtain⟨p1,p2⟩:=tu x.2 (at_:=x.1) h.ok a.1 (by rw[h.len];exact a.2) b
  have e:Gx (k+4) n (D.dW x.1 x.2):=⟨p1.mono (by omega),fY.dW x.2 h.held h.ok a.1 (by rw[h.len];exact a.2) b,p2.trans h.len⟩
  have:=SV l e λy g=>d y (by grind)
  rw[List.length_cons,show k+4*(l.length+1)=k+4+4*l.length by omega]
  exact this
theorem XM (a:bE c) (hm:dA c 1 (cj (fresh (all c).toNat)+1)=true):Gx 60 (all c).toNat (fD c):=by
 have m:=Sc.qV a
 have p:=gI a
 have h:=jQ.oI a
 have f:Gx 0 (all c).toNat (fresh (all c).toNat):=⟨Ma.Kv (by omega),rfl,by simp[fresh]⟩
 have j:=jQ.Ht c 1 (cj (fresh (all c).toNat)+1)
 have b:=SV (Fv c 1 (cj (fresh (all c).toNat)+1)) f λx e=>by
  rw[←jQ.E8 a hm] at e
  obtain⟨y,l,rfl⟩:=List.mem_map.1 e
  obtain⟨⟨n,r,nl,n0,n1⟩,q⟩:=jQ.KN a hm y l
  have hlen:(jQ.mZ y).2.length=n:=by show(chunks y.2 (y.2.length/ 64)).length=n;rw[qf];omega
  refine⟨by omega,⟨n0,by rw[hlen];show y.1+(n:Int)<=_;omega⟩,λz d=>?_⟩
  have d:z∈chunks y.2 (y.2.length/ 64):=d
  obtain⟨i,hi⟩:=List.getElem?_of_mem d
  obtain⟨s,t⟩:=zj _ _ (by omega) i z hi
  grind
 have o:(Fv c 1 (cj (fresh (all c).toNat)+1)).length<=14:=by
  rw[←jQ.E8 a hm,List.length_map,j];omega
 have g:=yC b.ok b.held
 exact⟨b.ok.flush.mono (by omega),g.1,(iz b.ok).trans b.len⟩
def PY (c:ax):KM.St:=⟨c,fD c,⟨(cY c 1).bk,List.replicate c.2.1.toNat 0⟩,mF c.1.toNat,⟨(0,0,1,0,1),[],[]⟩,⟨1,1,0,0,0,1,1,0,(cY c 1).lb,(cY c 1).lo⟩⟩
def Uu (aG:Bool):Int:=if aG then -1 else 0
theorem XN {D:Dk} {aG:Bool} {i:Nat} (a:bE c) (hi:(i:Int)<bc c) (h:D.sec (cw c aG i 0)=tG c aG i):oK c D aG i 0 (List.replicate c.1.toNat (Uu aG)):=by
 have hm:=jQ.Hs a aG i hi
 refine⟨_,by rw[h];exact FT hm,?_⟩
 have e:(min (c.1-(i:Int)*15) 15).toNat=wY c.1.toNat i:=by unfold wY;omega
 rw[e,List.take_append_of_le_length (by rw[List.length_replicate];exact Nat.le_refl _),List.take_of_length_le (by rw[List.length_replicate];exact Nat.le_refl _),List.drop_replicate,List.take_replicate]
 rfl
theorem Nz (a:1<=base c) (n:Nat) {x g:Int} (d:x<=0):(List.replicate n x).countP (gp c g)=0:=by
 refine List.countP_eq_zero.2 λy e b=>?_
 rw[(List.mem_replicate.1 e).2] at b
 have:=sA (g:=g) a d
 unfold ind at this;grind
theorem XO (f:bE c) (z:c.2.2=24/\c.2.1=8) (hm:dA c 1 (cj (fresh (all c).toNat)+1)=true) (hf:Vu c=true):Gu 2 1 61 (PY c)/\bu 61 (fD c)/\fY (fD c)/\(fD c).now.length=(all c).toNat:=by
 obtain⟨ok,held,len⟩:=XM f hm
 simp only[Vu,Bool.and_eq_true,beq_iff_eq,Option.isNone_iff_eq_none,List.all_eq_true,List.mem_range] at hf
 obtain⟨⟨⟨f1,f2⟩,f3,f4⟩,f5,f6,f7⟩:=hf
 have hm:dA c 1 1=true:=by rw[f7] at hm;exact hm
 have ad:=fB f
 have af:=gI f
 have Y:=jQ.oI f
 have ac:=Ge.qT f
 have ab:=f.1;have W:=f.2.1
 have E:(nP c.1.toNat 15).toNat=(bc c).toNat:=by simp only[nP,bc];omega
 have P:=jQ.AJ f (aN:=1) (by decide)
 have U:∀a,base c<=a->a<all c->(fD c).sec a=pM:=λa G w=>by
  rw[uX ok ⟨by omega,by omega⟩]
  obtain⟨x,d⟩:∃x,(fD c).now[a.toNat]?=some x:=⟨_,List.getElem?_eq_getElem (by omega)⟩
  rw[List.getD,d]
  refine f6 x (List.mem_of_getElem? (i:=a.toNat-(base c).toNat) ?_)
  rw[List.getElem?_drop,show(base c).toNat+(a.toNat-(base c).toNat)=a.toNat by omega];exact d
 have q:∀(aG:Bool) (i:Nat) (s:Int),(List.replicate (bc c).toNat (0:Int))[i]?=some s->s=0/\oK c (fD c) aG i s (List.replicate c.1.toNat (Uu aG)):=λaG i s e=>by
  have hm:=(List.mem_replicate.1 (List.mem_of_getElem? e)).2
  have H:=(List.getElem?_eq_some_iff.1 e).1
  rw[List.length_replicate] at H
  subst hm
  have:=f5 i H
  refine⟨rfl,XN f (by omega) ?_⟩
  cases aG
  ·exact this.1
  ·exact this.2
 have F:∀(aG:Bool) (i:Nat) (s:Int),(List.replicate (bc c).toNat (0:Int))[i]?=some s->zr c (fD c) c.1.toNat aG i s:=λaG i s e=>by
  obtain⟨rfl,refs,q1,q2⟩:=q aG i s e
  have d:∀x∈refs.take (wY c.1.toNat i),x=Uu aG:=λx d=>by
   rw[q2] at d
   exact(List.mem_replicate.1 (List.mem_of_mem_drop (List.mem_of_mem_take d))).2
  refine⟨refs,q1,λx h=>?_,λx h=>?_⟩
  ·rw[d x h];cases aG<;>exact .inr (by decide)
  ·rw[d x h];cases aG<;>exact⟨by decide,by decide⟩
 have j:Cd c.1.toNat (bc c).toNat (mF c.1.toNat):=
  ⟨List.length_replicate,List.length_replicate,by show(List.replicate _ _).length=_;rw[List.length_replicate];exact E,by show(List.replicate _ _).length=_;rw[List.length_replicate];exact E⟩
 have ag:(List.replicate (bc c).toNat (0:Int)).length=(bc c).toNat:=List.length_replicate
 obtain⟨n0,I,A,S⟩:=JN (D:=fD c) false (List.replicate (bc c).toNat 0) 0 (mF c.1.toNat) j (cS.mF _) (by omega) λi s e=>by rw[Nat.zero_add];exact F false i s e
 obtain⟨n1,J,ae,T⟩:=JN (D:=fD c) true (List.replicate (bc c).toNat 0) 0 n0 A S (by omega) λi s e=>by rw[Nat.zero_add];exact F true i s e
 have t0:=zv (c:=c) (aG:=false) rfl (List.length_replicate (a:=(0:Int))) _ 0 (mF c.1.toNat) n0 I j.l0 (by show 0+(List.replicate (bc c).toNat (0:Int)).length<=(mF c.1.toNat).d0.length;rw[j.d0];omega) (λi s e=>by rw[Nat.zero_add];exact(q false i s e).2) rfl
 have t1:=zv (c:=c) (aG:=true) rfl (List.length_replicate (a:=(-1:Int))) _ 0 n0 n1 J A.l1 (by show 0+(List.replicate (bc c).toNat (0:Int)).length<=n0.d1.length;rw[A.d1];omega) (λi s e=>by rw[Nat.zero_add];exact(q true i s e).2) rfl
 have aa:c.1.toNat<=(bc c).toNat*15:=by simp only[bc];omega
 have i0:n1.l0=List.replicate c.1.toNat 0:=by
  have w:n1.l0=n0.l0:=t1.2.2
  have o:n0.l0.take ((0+(List.replicate (bc c).toNat (0:Int)).length)*15)=(List.replicate c.1.toNat (0:Int)).take ((0+(List.replicate (bc c).toNat (0:Int)).length)*15):=t0.1
  have X:n0.l0.length=c.1.toNat:=t0.2.1
  rw[List.take_of_length_le (by omega),List.take_of_length_le (by rw[List.length_replicate];omega)] at o
  exact w.trans o
 have i1:n1.l1=List.replicate c.1.toNat (-1):=by
  have o:n1.l1.take ((0+(List.replicate (bc c).toNat (0:Int)).length)*15)=(List.replicate c.1.toNat (-1:Int)).take ((0+(List.replicate (bc c).toNat (0:Int)).length)*15):=t1.1
  have X:n1.l1.length=c.1.toNat:=t1.2.1
  rw[List.take_of_length_le (by omega),List.take_of_length_le (by rw[List.length_replicate];omega)] at o
  exact o
 have L:∀g,dP (cY c 1).bk g=if g=0 then 1 else 0:=λg=>by
  unfold dP bg
  by_cases m:0<=g
  ·rw[if_pos m]
   cases Q:g.toNat with
   |zero=>rw[if_pos (by omega)];rfl
   |succ n=>
    rw[if_neg (by omega)]
    show(((1,0)::List.replicate (c.2.1.toNat- 1) ((0,0):cJ)).getD (n+1) (0,0)).1=0
    rw[List.getD,List.getElem?_cons_succ]
    cases o:(List.replicate (c.2.1.toNat- 1) ((0,0):cJ))[n]? with
    |none=>rfl
    |some y=>rw[(List.mem_replicate.1 (List.mem_of_getElem? o)).2];rfl
  ·rw[if_neg m,if_neg (by omega)]
 have K:(cY c 1).bk.length=c.2.1.toNat:=by
  show((1,0)::List.replicate (c.2.1.toNat- 1) ((0,0):cJ)).length=_
  rw[List.length_cons,List.length_replicate];omega
 have p:cG (cY c 1).bk=7:=by
  show((1,0)::List.replicate (c.2.1.toNat- 1) ((0,0):cJ)).countP (λu=>u.1==0)=7
  rw[z.2];decide
 have B:∀x∈List.replicate c.1.toNat (0:Int),x<=0:=λx d=>by rw[(List.mem_replicate.1 d).2];exact Int.le_refl 0
 have C:∀x∈List.replicate c.1.toNat (-1:Int),x<=0:=λx d=>by rw[(List.mem_replicate.1 d).2];decide
 have r:∀M:Im,M.l0=List.replicate c.1.toNat 0->M.l1=List.replicate c.1.toNat (-1)->uK c (fD c) (cY c 1).lb (cY c 1).lo M:=λM G w aG i s e _=>by
  have e:(List.replicate (bc c).toNat (0:Int))[i]?=some s:=by cases aG<;>exact e
  have:=(q aG i s e).2
  cases aG with
  |false=>show oK c _ _ i s M.l0;rw[G];exact this
  |true=>show oK c _ _ i s M.l1;rw[w];exact this
 have N:∀g,bg 0 (List.replicate c.2.1.toNat (0:Int)) g=0:=λg=>by
  unfold bg
  split
  ·rw[List.getD]
   cases Q:(List.replicate c.2.1.toNat (0:Int))[g.toNat]? with
   |none=>rfl
   |some y=>exact(List.mem_replicate.1 (List.mem_of_getElem? Q)).2
  ·rfl
 have V:bB 61 (PY c):=by
  have hi:=j
  refine⟨⟨f,ok.mono (by decide),by show all c<=((fD c).now.length:Int);omega,Ig.KX (n:=c.1.toNat) (by omega),⟨K,List.length_replicate,(λx d=>by rw[(List.mem_replicate.1 d).2];decide),λu hu=>?_⟩,⟨Int.le_refl 0,by show(0:Int)<c.2.1;omega⟩,⟨Int.le_refl 0,by show(0:Int)<=c.2.2;omega⟩,⟨by show(1:Int)<=1;decide,by show(1:Int)<=((61:Nat):Int);decide⟩,⟨by show(0:Int)<=0;decide,by show(0:Int)<=4294967295;decide⟩,⟨by show(1:Int)<=1;decide,by show(1:Int)<=2147483647;decide⟩⟩,by show(0:Int)<c.2.2;omega,(λi hi=>by cases hi),rfl,(λb Z=>by cases Z),λh=>absurd rfl h⟩
  rcases List.mem_cons.1 hu with rfl|hu
  ·exact⟨⟨by decide,by decide⟩,⟨by decide,by decide⟩⟩
  ·rw[(List.mem_replicate.1 hu).2];exact⟨⟨by decide,by decide⟩,⟨by decide,by decide⟩⟩
 have O:Lg 2 (PY c) (cY c 1) n1 [] (0,0,1,0,1) ⟨⟨(cY c 1).bk,List.replicate c.2.1.toNat 0⟩,n1,0,0,0,1⟩:=by
  refine⟨⟨⟨1,by show eJ ((fD c).sec 1)=_;rw[f1];exact IU hm,by decide,by decide⟩,λy l=>?_,.inl rfl,by show jf c ((fD c).dQ (ar c 0) (bW c).toNat)=_;rw[f3];exact No P,λy l=>?_,rfl,rfl,rfl,λaG i s e=>F aG i s (by cases aG<;>exact e),n0,I,J⟩,
   ⟨.inl ⟨rfl,rfl,rfl,?_⟩,rfl,rfl,rfl,rfl,Int.le_refl _,rfl,λg=>rfl,?_,λg m=>?_,K,?_,λa G w=>?_⟩,cS.mF _,T,⟨⟨(λx d=>.inl (B x (by rw[←i0];exact d))),λx d=>.inl (C x (by rw[←i1];exact d))⟩,r n1 i0 i1,by show((List.replicate c.2.1.toNat (0:Int)).length:Int)=c.2.1;rw[List.length_replicate];omega,λx d=>(List.mem_replicate.1 d).2,by show n1.l0.length<=64/\n1.l1.length=n1.l0.length;rw[i0,i1,List.length_replicate,List.length_replicate];omega⟩,
   ⟨λx d=>.inl (B x d),λx d=>.inl (.inl (C x d)),⟨⟨by show((List.replicate c.2.1.toNat (0:Int)).length:Int)=c.2.1;rw[List.length_replicate];omega,λg=>by rw[show bg 0 (PY c).t.v g=0 from N g];decide⟩,by show(List.replicate c.1.toNat (0:Int)).length<=64;rw[List.length_replicate];omega,by show(List.replicate c.1.toNat (-1:Int)).length<=64;rw[List.length_replicate];omega,λg=>?_⟩,r (mF c.1.toNat) rfl rfl⟩,
   (λi hi=>by cases hi),(λx d=>by cases d),rfl,⟨Int.le_refl 0,Int.le_refl 0,by show(0:Int)+((0:Nat):Int)<=2;decide⟩,⟨Int.le_refl 0,by show(0:Int)<=2;decide⟩,(λi hi=>by cases hi),(λi hi=>by cases hi),rfl,by decide⟩
  ·have l:eJ ((fD c).sec 0)=some y:=l
   rw[f2] at l;cases l
  ·have l:jf c ((fD c).dQ (ar c 1) (bW c).toNat)=some y:=l
   rw[f4] at l;cases l
  ·have hr:=eK f (s:=0) (x:=0) ⟨Int.le_refl 0,by omega⟩ ⟨Int.le_refl 0,by omega⟩
   show(fD c).sec (aZ c 0)=pM
   exact U _ (by omega) (by omega)
  ·show dP (cY c 1).bk 0=1
   rw[L];rfl
  ·have m:dP (cY c 1).bk g=1:=m
   rw[L] at m
   split at m
   ·assumption
   ·cases m
  ·show((turns []:Nat):Int)+1+(cG (cY c 1).bk:Int)<=c.2.1
   rw[p,z.2];decide
  ·intro R
   exfalso;apply R
   show dV ((fD c).sec a)=0
   rw[U a G w];exact Y8
  ·show((ju c (mF c.1.toNat) g:Nat):Int)<=bg 0 (List.replicate c.2.1.toNat (0:Int)) g
   rw[N]
   have:ju c (mF c.1.toNat) g=0:=by
    show(List.replicate c.1.toNat (0:Int)).countP (gp c g)+(List.replicate c.1.toNat (-1:Int)).countP (gp c g)=0
    rw[Nz (by omega) _ (Int.le_refl 0),Nz (by omega) _ (by decide)]
   rw[this];exact Int.le_refl 0
 refine⟨⟨V,⟨_,_,_,_,_,O⟩,z,?_,⟨by show(0:Int)<=1;decide,by show(1:Int)<=2;decide⟩,⟨by show(1:Int)<=1;decide,by show(1:Int)<=2;decide⟩⟩,ok.mono (by decide),held,len⟩
 show 21*(7-(cG (cY c 1).bk:Int))+max (0:Int) 1<=1
 rw[p];decide
theorem XP (p:Int):∃S,kU (fD (1+p% 20,8,24))=some S/\lV (fD (1+p% 20,8,24))=true/\Inv 3 1 70 S/\S.c=(1+p% 20,8,24)/\fj S.c S.w.p=true:=by
 have h:=(by omega)
 have i:=(by omega)
 have hf:=LZ 20 (p% 20).toNat PX (by omega)
 have a:=Ca 20 (p% 20).toNat CZ (by omega)
 rw[show(((p% 20).toNat:Nat):Int)+1=1+p% 20 by omega] at hf a
 have g:bE (1+p% 20,8,24):=⟨by show 1<=1+p% 20;omega,by show 1+p% 20<=64;omega,by show(8:Int)<=8;decide,by show(8:Int)<=32;decide,by show(24:Int)<=24;decide,by show(24:Int)<=64;decide⟩
 obtain⟨P,ok,held,len⟩:=XO g ⟨rfl,rfl⟩ (Ma.IL a).1 hf
 obtain⟨S,a1,b,d,e,_,_,_,f⟩:=P.SP ok (λ_=>rfl) rfl held (by decide) (by decide)
 exact⟨S,a1,b,d.mono (by decide) (by decide) (by simp) (by decide),e,f⟩
end
end Lo
end
section
namespace Ma
open Go Go.Kx KM Rw Wi Fm Li Src So Re Ds Lo
abbrev E4:=Int×Int×Int×Int
abbrev e4 (e:E4):List Value:=[i64 e.1,i64 e.2.1,i64 e.2.2.1,i64 e.2.2.2]
theorem ka {σ:Type} {F:σ->PH->Prop} {G:(σ->PH->Prop)->Prop} (P:σ->PH->Prop) (a:∀k:σ->PH->Prop,(∀s H,P s H->k s H)->G k) (b:∀s H,P s H->F s H):aO F G:=aE (a F b)
theorem Ap {H B:PH} {p:Sl} {c:List E4} {i:Nat} {b:E4} {K:Addr->Prop} (d:fM e4 4 B p c) (x:Ext B H) (hk:c[i]?=some b) (e:∀a,cI H a 4=some (e4 b)->K a):bX p 4 (i:Int) K:=
 su (d.ext x) (by omega) (by grind) (by grind)
theorem La {b n:Int} {k:Nat} {S:KM.St} (I:Inv b n k S) {j:Nat} (r:j<S.c.1.toNat):Um S j:=by
 obtain⟨rg,m1,l,e,F,h⟩:=I.lg
 have ok:=I.ok
 refine⟨?_,?_⟩
 ·rw[KM.St.has,KM.Im.has,ok.im.n0];grind
 ·by_cases g:bT S.m.l0 j=0
  ·exact .inl g
  have o:=fB ok.c
  have d:0<bT S.m.l0 j:=by
   have:sY S.c false (bT S.m.l0 j):=uA h.ref.r0 j
   rcases this with(a|a)|⟨a,_⟩
   ·omega
   ·omega
   ·cases a
  have hm:bT S.m.l0 j∈S.m.l0:=by
   rcases FU S.m.l0 j with a|a
   ·omega
   ·exact a
  have hu:Gw S (bT S.m.l0 j):=by
   rcases h.gS.u0 _ hm with a|a
   ·omega
   ·exact a
  generalize bT S.m.l0 j=y at d hu ⊢
  have s:=hu.oV ok.c
  have hlen:=ok.len
  have q:=ok.p2
  refine .inr ⟨⟨d,by omega⟩,?_⟩
  by_cases f:y<S.first
  ·exact .inl f
  refine .inr (Int.not_lt.1 λi=>?_)
  unfold KM.St.first KM.behind at f i
  have hf:=Gs ok
  unfold KM.behind at hf
  have e:y=aZ S.c S.w.p.1+(y-aZ S.c S.w.p.1):=by omega
  rw[e] at hu
  exact Us.not ok.c.2.2.2.2.1 (by grind) (by omega) hu
theorem XQ {S T:KM.St} {n:Nat} (h:∀y,T.read y=S.read y):vL T n=vL S n:=by
 unfold vL
 grind
theorem Uv {b l:Int} {k:Nat} {S:KM.St} (I:Inv b l k S) {n:Nat} (i:n<=S.c.1.toNat):∀f∈vL S n,f.length< 2 ^ 40:=λf hf=>by
 unfold vL at hf
 obtain⟨j,h,rfl⟩:=List.mem_map.1 hf
 have a:=La I (Nat.lt_of_lt_of_le (List.mem_range.1 h) i)
 have q:=qX (mode:=0) (S:=S) (may:=S.has j 1) I.ok.dk.off (.inl rfl) a.has
 have e:(S.read j).1=(S.bytes (bT S.m.l0 j)).1:=by
  unfold KM.St.read;grind
 rw[e]
 rcases a.ref with o|⟨g,p⟩
 ·unfold KM.St.bytes;grind
 ·unfold KM.St.bytes KM.St.D6
  rw[if_neg (by omega),if_neg (by omega),Fy I.ok.dk ⟨by omega,g.2⟩]
  show(S.d.sec _).length<_
  rw[nZ I.ok.dk (by grind)];decide
end Ma
end
section
namespace Ma
open Go Go.Kx KM Rw Wi Fm Li Src So Re Ds Lo
open Mo (cr)
structure FI (B:PH) (A:DA) (M:uh) (w:vh) (x:qh) (cc:ax) (b ph:Int) (k:Nat):Prop where
 eA:A.a=M.F.X.da
 hB:ui B M w x
 I:Inv b ph k x.S
 c:x.S.c=cc
 V:∃q,x.V=lf 4 q/\(x.S.n.mode=1->q=x.S.n.seq+1)
theorem SW {B H:PH} {A:DA} {M:uh} {w:vh} {x:qh} {g:ax} {b i:Int} {k:Nat} {R:List Ob} {Q:Int×Int->PH->Prop} (h:aA H (aC B::fy A M w x R)) (F:FI B A M w x g b i k) (hk:k+10< 2 ^ 28) (C:b+1<=2 ^ 29)
 (t:∀f e w' j n a H',e.ma=M.ma->Ext B a->FI a f e w' j g (b+1) i (k+3)->aA H' (aC a::fy f e w' j R)->Q (0,n) H'):iw (some M.ma) (18,0,0,0,Sl.nil) H Q:=by
 obtain⟨q,r,D⟩:=F.V
 obtain⟨T,c1,c2,c3,l,c5,z,m,o⟩:=F.I.jL hk (by omega)
 have y:=c3.seq
 have u:x.V.size=4:=by rw[r];rfl
 exact IK (b:=0) (d:=0) (kk:=k) F.I.ok (by omega) (by omega) c1 c2 (by omega) (by omega) (by omega) m o A M w B H R Q h F.eA F.hB λf e w' a H' p eA v hB s=>t f e w' _ T.n.aQ a H' p v ⟨eA,hB,c3,l.trans F.c,⟨T.n.seq+1,by show(⟨x.V.size,_,_⟩:WM)=_;rw[u];rfl,λ_=>rfl⟩⟩ s
theorem FI.cR {B f:PH} {A h:DA} {M:uh} {w:vh} {x:qh} {l:ax} {b t j g:Int} {k o:Nat} {i:Wt} {d:KM.St} {q:Int} (F:FI B A M w x l b t k) (u:Ext B f) (eA:h.a=M.F.X.da) (r:gJ f i d) (I:Inv j g o d) (m:d.c=x.S.c) (v:d.n.mode=1->q=d.n.seq+1):FI f h M {w with W:=i} {x with S:=d,V:=lf 4 q} l j g o:=by
 obtain⟨y,p,_⟩:=F.V
 have e:=F.hB.ext u
 have s:M.size=((lf 4 q).size:Int):=by
  have:=F.hB.sz
  rw[p] at this;exact this
 exact⟨eA,⟨by show pJ f M.F d.c;rw[m];exact e.fr,r,e.ops,e.up,e.dn,s⟩,I,m.trans F.c,by grind⟩
structure Kf (S:KM.St) (f:oW) (kn:E4) (v:Int):Prop where
 may:cx f=true
 uY:bP f.data
 kd:f.kind=9∨(f.kind≠8/\f.kind≠9)/\f.seq=S.n.seq+1/\(f.kind=1->S.has f.block 1=true/\∃y,f.data=iJ y)/\(f.kind=2->S.has f.block 1=true/\f.count=1)/\(f.kind=3->f.aQ=S.n.aQ+1)
 view:f.view=v
 k9:(f.kind==9)=(kn.1==0||kn.1==1)
 k1:(kn.1==1)=false
 k3:(f.kind==3)=(kn.1==2)
def KE (B H:PH) (M:uh) (w:vh) (x:qh) (j:ax) (i:Nat) (d:E4) (v e:Int):Prop:=
 ∃g h b f,g.a=M.F.X.da/\Ext B f/\gJ f h b/\Inv (3+2*i+2) (1+2*i+2) (70+63*i+63) b/\b.c=j/\Kn x.S b (d.1==0||d.1==1) (d.1==1) (d.1==2) v e/\
  ∃q,aA H (aC f::qg g M.F h b (lf 4 q) (aJ M.ma (Rp M)::(m2 M w x++(m3 M w++(m4 M w++[])))))/\(b.n.mode=1->q=b.n.seq+1)
theorem PZ {p0:Int} {p1:Sl} {ks:List E4} {B0:PH} {Q:Bool->PH->Prop} (h1:fM e4 4 B0 p1 ks) (hQ:∀H',Ext B0 H'->Q true H'):sJ p0 p1 B0 Q:=by
 have hs:aA B0 (aC B0::[]):=.start B0
 refine aM (λc=>Gl hs hQ) λc=>?_
 have hn:ks.length<=40:=by rw[h1.bL] at c;simp at c;omega
 refine Gj hs λH1 a7=>?_
 obtain⟨S,hS,ba,I0,az,bp⟩:=XP p0
 have bj:1<=1+p0% 20/\1+p0% 20<=20:=by
  have:=Int.emod_nonneg p0 (show(20:Int)≠0 by decide)
  have:=Int.emod_lt_of_pos p0 (show(0:Int)< 20 by decide)
  omega
 have aI:=Ca 20 (p0% 20).toNat CZ (by omega)
 rw[show(((p0% 20).toNat:Nat):Int)+1=1+p0% 20 by omega] at aI
 have hc:bE (1+p0% 20,8,24):=by rw[←az];exact I0.ok.c
 have bk:((1+p0% 20,8,24):ax).1=1+p0% 20:=rfl
 generalize bm:((1+p0% 20,8,24):ax)=B at*
 refine bG a7 λa6 H2 ah=>cF (vs:=Ge.zZ B) ah rfl rfl λH3 ai=>Fz ai λB3 aN H ai=>?_
 refine iK (enc:=Ge.zZ) (x:=B) (H.ext ai.base) rfl ?_
 refine IM (c:=B) (size:=4) (S:=S) ai hc (by decide) (by decide) aI hS λA M w B4 H4 u eA hB ok hl a8=>aF rfl ?_
 have H:=H.ext u
 have h1:=h1.ext (aN.trans u)
 have hQ:∀H',Ext B4 H'->Q true H':=λH' x=>hQ H' ((aN.trans u).trans x)
 refine av ks.length (λi st m=>st=(i:Int)/\∃P M' w' x t,M'.ma=M.ma/\Ext B4 t/\FI t P M' w' x B (3+2*i) (1+2*i) (70+63*i)/\aA m (aC t::fy P M' w' x []))
  ⟨rfl,A,M,w,x0 S 4,B4,rfl,.refl _,⟨eA,hB,I0,az,_,rfl,λ_=>rfl⟩,a8⟩ ?_
 rintro i st H5 again hi ⟨rfl,A1,M1,w1,x1,B1,aq,aj,F1,g1⟩ aT
 rw[h1.bL]
 refine aM (λc1=>?_) (λc1=>Gl g1 λH' x=>hQ H' (aj.trans x))
 have aH:i<ks.length:=by simpa using c1
 obtain⟨k,D⟩:∃k,ks[i]?=some k:=⟨_,List.getElem?_eq_getElem aH⟩
 have aG:=h1.ext aj
 refine Ap aG g1.base D λa o=>⟨k.2.2.2,jo o (j:=3) rfl,?_⟩
 rw[←aq]
 refine ka (λs m=>s=false/\∃P M' w' x t,M'.ma=M1.ma/\Ext B1 t/\FI t P M' w' x B (3+2*i+1) (1+2*i) (70+63*i+3)/\aA m (aC t::fy P M' w' x [])) (λkk b=>?_) ?_
 ·refine aM (λ_=>SW g1 F1 (by omega) (by omega) λP M' w' x' n t H' e1 e2 e3 e4=>b _ _ ⟨rfl,P,M',w',x',t,e1,e2,e3,e4⟩) (λ_=>b _ _ ⟨rfl,A1,M1,w1,x1,B1,rfl,.refl _,⟨F1.eA,F1.hB,F1.I.mono (by omega) (by omega) (by omega) (by omega),F1.c,F1.V⟩,g1⟩)
 rintro _ H6 ⟨rfl,A2,M2,w2,d,B2,ar,ao,J,g2⟩
 rw[←ar]
 refine ka (λs m=>s=false/\m=H6) (λkk b=>aF rfl (wW g2 (b _ _ ⟨rfl,rfl⟩))) ?_
 rintro _ H6 ⟨rfl,rfl⟩
 refine aF rfl (wW g2 (qZ (vA g2) J.hB.fr J.I.ok λB3 H7 T g3=>?_))
 have H:=H.ext (aj.trans (ao.trans T))
 have aY:=aG.ext (ao.trans T)
 obtain⟨q2,au,aJ⟩:=J.V
 have ag:d.S.c=B:=J.c
 have Z:pJ B3 M2.F d.S.c:=J.hB.fr.ext T
 have ac:=J.hB.wt.ext T
 refine bG g3 λbh H8 g4=>cF (vs:=cr d.S.status) g4 rfl rfl λH9 g4=>Fz g4 λB4 u p g4=>?_
 have aL:=T.trans u
 refine aX (x:=B.1) ((H.ext u).ext g4.base) rfl (lh (Z.ext u) g4.base (dE ((H.ext u).ext g4.base) rfl ?_))
 obtain⟨n,en⟩:∃n:Nat,B.1=n:=⟨B.1.toNat,by omega⟩
 have bo:n=d.S.c.1.toNat:=by rw[ag];omega
 rw[en]
 refine nR g4 J.eA (Z.ext u).X (ac.ext u) J.I.ok (by omega) (by omega) (λj hj=>La J.I (by omega)) λbt bl B5 aP U aZ af C=>?_
 have H:=H.ext (u.trans U)
 have p:=p.ext U
 have ad:=aY.ext (u.trans U)
 have Z:=Z.ext (u.trans U)
 have ac:=ac.ext (u.trans U)
 refine Ap ad C.base D λa o=>⟨k.2.1,jo o (j:=1) rfl,rL (by decide) (by decide) ?_⟩
 refine Ap ad C.base D λa o=>⟨k.2.2.1,jo o (j:=2) rfl,aX (x:=B.1) (H.ext C.base) rfl (rL (by omega) (by omega) ?_)⟩
 refine Ap ad C.base D λa o=>⟨k.1,jo o (j:=0) rfl,?_⟩
 have bs:0<=k.2.1% 8/\k.2.1% 8< 8:=⟨Int.emod_nonneg _ (by decide),Int.emod_lt_of_pos _ (by decide)⟩
 have aU:0<=k.2.2.1%B.1/\k.2.2.1%B.1<B.1:=⟨Int.emod_nonneg _ (by omega),Int.emod_lt_of_pos _ (by omega)⟩
 rw[cK (x:=1+k.2.1% 8) (by omega) (by omega)]
 generalize hv:1+k.2.1% 8=v
 generalize k.2.2.1%B.1=bb at aU
 have br:1<=v/\v<=8:=by omega
 have Iv:=J.I
 have bq:=Iv.seq;have bn:=Iv.aQ
 have al:d.S.has bb 1=true:=by
  rw[KM.St.has,KM.Im.has,Iv.ok.im.n0];simp only[Bool.and_eq_true,decide_eq_true_eq];omega
 have C:aA aP (aC B5::fy A2 M2 w2 d []):=C
 refine ka (λ(s:Sl×Int) m=>(k.1=1/\s.1=Sl.nil/\KE B5 m M2 w2 d B i k v s.2)∨∃f t,Ext B5 t/\Bytes t s.1 (cV f)/\Kf d.S f k v/\aA m (aC t::fy A2 M2 w2 d [])) (λkk b=>?_) ?_
 ·refine aM (λc=>?_) (λc=>aM (λc2=>?_) (λc2=>aM (λc3=>?_) (λc3=>aM (λc4=>?_) (λc4=>?_))))
  ·have e0:k.1=0:=by simpa using c
   have hm:cx ⟨9,v,0,0,0,0,0,[]⟩=true:=by simp[cx,bN];omega
   exact Rr.xY (f:=⟨9,v,0,0,0,0,0,[]⟩) (s:=Sl.nil) C .nil (λx R=>by cases R) hm (show(9:Int)≠8 by decide) λz t H' L Y g=>b _ _ (.inr ⟨_,t,L,Y,⟨hm,(λx R=>by cases R),.inl rfl,rfl,by rw[e0];rfl,by rw[e0];rfl,by rw[e0];rfl⟩,g⟩)
  ·have e1:k.1=1:=by simpa using c2
   have aw:=vA C
   rw[au] at aw
   refine MO aw aJ J.eA Z ac Iv (by omega) (by omega) (by omega) λP W' S' e t H' eA L hW I' am K an=>b _ _ (.inl ⟨e1,rfl,P,W',S',t,eA,L,hW,I'.mono (by omega) (by omega) (by omega) (by omega),am.trans ag,?_,an⟩)
   rw[e1];exact K
  ·have e2:k.1=2:=by simpa using c3
   refine aX (x:=d.S.n.seq) (p.ext C.base) rfl (aX (x:=d.S.n.aQ) (p.ext C.base) rfl ?_)
   rw[cK (x:=d.S.n.seq+1) (by omega) (by omega),cK (x:=d.S.n.aQ+1) (by omega) (by omega)]
   have hm:cx ⟨3,v,d.S.n.seq+1,0,0,d.S.n.aQ+1,0,[]⟩=true:=by simp[cx,bN];omega
   exact Rr.xY (f:=⟨3,v,d.S.n.seq+1,0,0,d.S.n.aQ+1,0,[]⟩) (s:=Sl.nil) C .nil (λx R=>by cases R) hm (show(3:Int)≠8 by decide) λz t H' L Y g=>b _ _ (.inr ⟨_,t,L,Y,⟨hm,(λx R=>by cases R),.inr ⟨⟨show(3:Int)≠8 by decide,show(3:Int)≠9 by decide⟩,rfl,(λh=>by cases h),(λh=>by cases h),λ_=>rfl⟩,rfl,by rw[e2];rfl,by rw[e2];rfl,by rw[e2];rfl⟩,g⟩)
  ·have e3:k.1=3:=by simpa using c4
   refine aX (x:=d.S.n.seq) (p.ext C.base) rfl ?_
   rw[cK (x:=d.S.n.seq+1) (by omega) (by omega)]
   have hm:cx ⟨2,v,d.S.n.seq+1,bb,1,0,0,[]⟩=true:=by simp[cx,bN];omega
   exact Rr.xY (f:=⟨2,v,d.S.n.seq+1,bb,1,0,0,[]⟩) (s:=Sl.nil) C .nil (λx R=>by cases R) hm (show(2:Int)≠8 by decide) λz t H' L Y g=>b _ _ (.inr ⟨_,t,L,Y,⟨hm,(λx R=>by cases R),.inr ⟨⟨show(2:Int)≠8 by decide,show(2:Int)≠9 by decide⟩,rfl,(λh=>by cases h),(λ_=>⟨al,rfl⟩),λh=>by cases h⟩,rfl,by rw[e3];rfl,by rw[e3];rfl,by rw[e3];rfl⟩,g⟩)
  ·have ne:k.1≠0/\k.1≠1/\k.1≠2:=⟨by simpa using c,by simpa using c2,by simpa using c3⟩
   refine aX (x:=d.S.n.seq) (p.ext C.base) rfl (Ap ad C.base D λa o=>⟨k.1,jo o (j:=0) rfl,Gh C λr B6 aR E hr g6=>dE ((p.ext E).ext g6.base) rfl ?_⟩)
   rw[cK (x:=d.S.n.seq+1) (by omega) (by omega)]
   have hm:cx ⟨1,v,d.S.n.seq+1,bb,0,0,0,iJ k.1⟩=true:=by simp[cx,bN,vV];omega
   exact Rr.xY (f:=⟨1,v,d.S.n.seq+1,bb,0,0,0,iJ k.1⟩) (s:=r) g6 hr (CW _) hm (show(1:Int)≠8 by decide) λz t H' L Y g=>b _ _ (.inr ⟨_,t,E.trans L,Y,⟨hm,CW _,.inr ⟨⟨show(1:Int)≠8 by decide,show(1:Int)≠9 by decide⟩,rfl,(λ_=>⟨al,_,rfl⟩),(λh=>by cases h),λh=>by cases h⟩,rfl,by simp[ne.1,ne.2.1],by simp[ne.2.1],by simp[ne.2.2]⟩,g⟩)
 rintro a9 aR hP
 refine ka (λe m=>KE B5 m M2 w2 d B i k v e) (λkk b=>?_) ?_
 ·rcases hP with⟨e1,es,hK⟩|⟨f,t,L,Y,hf,g⟩
  ·rw[es]
   exact aF rfl (b _ _ hK)
  ·have hl:0<(a9.1.len:Int):=by
    rw[Y.bL]
    exact Int.ofNat_lt.2 (Nat.lt_of_lt_of_le (by decide) (CX f))
   have g:=vA g
   rw[au] at g
   refine aW (decide_eq_true hl) (SU g aJ J.eA (Z.ext L) (ac.ext L) Iv (by omega) (by omega) (by omega) Y hf.may hf.uY hf.kd λP W' S' q e B7 H' eA ab hW I' am K an=>b _ _ ⟨P,W',S',B7,eA,L.trans ab,hW,I'.mono (by omega) (by omega) (by omega) (by omega),am.trans ag,?_,an⟩)
   rw[hf.view,hf.k9,hf.k3] at K
   rw[hf.k1] at K ⊢; exact K
 rintro e bd ⟨A6,W6,G,B6,ap,E,aB,I6,aD,K,q6,g6,a5⟩
 have F6:FI B6 A6 M2 {w2 with W:=W6} {d with S:=G,V:=lf 4 q6} B (3+2*i+2) (1+2*i+2) (70+63*i+63):=
  J.cR (aL.trans (U.trans E)) ap aB I6 (aD.trans ag.symm) a5
 refine qZ g6 F6.hB.fr I6.ok λB7 be ab g7=>?_
 refine bG g7 λbi bf g8=>cF (vs:=cr G.status) g8 rfl rfl λbg g8=>Fz g8 λB8 ak N g8=>?_
 have H:=(H.ext E).ext (ab.trans ak)
 have ay:=F6.hB.fr.ext (ab.trans ak)
 refine aX (x:=B.1) (H.ext g8.base) rfl (lh ay g8.base (dE (H.ext g8.base) rfl ?_))
 rw[en]
 have bc:n=G.c.1.toNat:=by rw[aD];omega
 refine nR g8 ap ay.X (aB.ext (ab.trans ak)) I6.ok (by omega) (by omega) (λj hj=>La I6 (by omega)) λbu cl B9 l aO a0 aS O=>?_
 have aa:=ab.trans (ak.trans aO)
 have N:=(N.ext aO).ext O.base
 have p:=(p.ext (E.trans aa)).ext O.base
 have ae:=ad.ext (E.trans aa)
 have fin:again (IntKind.wrap .i64 ((i:Int)+1)) l:=by
  rw[bK (by omega)]
  have F9:FI B9 A6 M2 {w2 with W:=W6} {d with S:=G,V:=lf 4 q6} B (3+2*i+2) (1+2*i+2) (70+63*i+63):=⟨F6.eA,F6.hB.ext aa,F6.I,F6.c,F6.V⟩
  refine aT aH _ _ ⟨rfl,A6,M2,{w2 with W:=W6},{d with S:=G,V:=lf 4 q6},B9,ar.trans aq,aj.trans (ao.trans (aL.trans (U.trans (E.trans aa)))),?_,O⟩
  have e1:(3:Int)+2*((i+1:Nat):Int)=3+2*i+2:=by omega
  have e2:(1:Int)+2*((i+1:Nat):Int)=1+2*i+2:=by omega
  have e3:70+63*(i+1)=70+63*i+63:=by omega
  rw[e1,e2,e3];exact F9
 have a3:=Uv I6 (n:=n) (by omega)
 obtain⟨K1,K2,K3,K4,K5,K6,K7⟩:=K
 refine Ap ae O.base D λa o=>⟨k.1,jo o (j:=0) rfl,?_⟩
 refine ka (λs m=>s=(k.1==0||k.1==1)/\m=l) (λkk b=>aM (λc=>b _ _ ⟨by rw[c];rfl,rfl⟩) (λc=>Ap ae O.base D λa o=>⟨k.1,jo o (j:=0) rfl,b _ _ ⟨by rw[c];rfl,rfl⟩⟩)) ?_
 rintro ra l ⟨era,rfl⟩
 rw[←era] at K1 K3
 refine aE (aF rfl (aE (aF rfl (aX (x:=G.n.view) N rfl (aX (x:=d.S.n.view) p rfl ?_)))))
 rw[decide_eq_false (show¬G.n.view<d.S.n.view by omega)]
 refine ka (λs m=>s=false/\m=l) (λkk b=>aF rfl (aX (x:=G.n.view) N rfl (aX (x:=d.S.n.view) p rfl (aE (aM (λc=>aE ?_) (λc=>b _ _ ⟨rfl,rfl⟩)))))) ?_
 ·obtain⟨k1,k2⟩:=K3 (by simpa using c)
  rw[k1]
  refine aF rfl (aX (x:=G.n.view) N rfl (b _ _ ⟨by simpa using k2,rfl⟩))
 rintro _ l ⟨rfl,rfl⟩
 refine ka (λs m=>s=false/\m=l) (λkk b=>aF rfl (aX (x:=d.S.n.mode) p rfl (aE (aM (λc=>aX (x:=G.n.mode) N rfl (b _ _ ⟨?_,rfl⟩)) (λc=>b _ _ ⟨rfl,rfl⟩))))) ?_
 ·have:=K4 (by simpa using c)
  simpa using this
 rintro _ l ⟨rfl,rfl⟩
 refine aF rfl (ka (λs m=>s=e/\m=l) (λkk b=>?_) ?_)
 ·rw[K1] at b
  refine aX (x:=d.S.n.mode) p rfl (aM (λc=>b _ _ ⟨by rw[if_pos (by simpa using c)],rfl⟩) (λc=>?_))
  rw[if_neg (by simpa using c)] at b
  refine ka (λs m=>(s=true↔(ra=true/\(v<d.S.n.view∨v=d.S.n.view/\(k.1==1)=true)))/\m=l) (λaK y=>?_) ?_
  ·refine aM (λc2=>aX (x:=d.S.n.view) p rfl (aE (aM (λc3=>y _ _ ⟨?_,rfl⟩) (λc3=>aX (x:=d.S.n.view) p rfl (aE (aM (λc4=>Ap ae O.base D λa o=>⟨k.1,jo o (j:=0) rfl,y _ _ ⟨?_,rfl⟩⟩) (λc4=>y _ _ ⟨?_,rfl⟩))))))) (λc2=>y _ _ ⟨?_,rfl⟩)
   ·simp[c2,show v<d.S.n.view by simpa using c3]
   ·have h3:¬v<d.S.n.view:=by simpa using c3
    have h4:v=d.S.n.view:=by simpa using c4
    simp[c2,h3,h4]
   ·have h3:¬v<d.S.n.view:=by simpa using c3
    have h4:v≠d.S.n.view:=by simpa using c4
    simp[h3,h4]
   ·simp[c2]
  rintro s l ⟨hs,rfl⟩
  refine aM (λc2=>b _ _ ⟨by rw[if_pos (hs.1 c2)],rfl⟩) (λc2=>?_)
  rw[if_neg (λh=>by rw[hs.2 h] at c2;cases c2)] at b
  refine ka (λs m=>(s=true↔(ra=false/\v≠d.S.n.view))/\m=l) (λaK y=>aM (λc3=>aX (x:=d.S.n.view) p rfl (y _ _ ⟨?_,rfl⟩)) (λc3=>y _ _ ⟨?_,rfl⟩)) ?_
  ·have:ra=false:=by simpa using c3
   simp[this]
  ·have:ra=true:=by simpa using c3
   simp[this]
  rintro s2 l ⟨ah,rfl⟩
  refine aM (λc3=>b _ _ ⟨by rw[if_pos (ah.1 c3)],rfl⟩) (λc3=>b _ _ ⟨by rw[if_neg (λh=>by rw[ah.2 h] at c3;cases c3)],rfl⟩)
 rintro _ l ⟨aV,rfl⟩
 rw[aV]
 refine aF (by simp) (ka (λs m=>s=false/\m=l) (λkk b=>aM (λc=>iK (enc:=cr) (x:=G.status) N rfl (iK (enc:=cr) (x:=d.S.status) p rfl (b _ _ ⟨?_,rfl⟩))) (λc=>b _ _ ⟨rfl,rfl⟩)) ?_)
 ·have:=K5 (by simpa using c)
  rw[this];simp[uN]
 rintro _ l ⟨rfl,rfl⟩
 refine ka (λs m=>s=false/\m=l) (λkk b=>aF rfl (ka (λs m=>(s=true->e=0/\k.1=1)/\m=l) (λaK y=>aM (λc=>Ap ae O.base D λa o=>⟨k.1,jo o (j:=0) rfl,y _ _ ⟨λh=>⟨by simpa using c,by simpa using h⟩,rfl⟩⟩) (λc=>y _ _ ⟨(λh=>by cases h),rfl⟩)) ?_)) ?_
 ·rintro s l ⟨hs,rfl⟩
  refine aE (aM (λc=>aX (x:=G.n.mode) N rfl (b _ _ ⟨?_,rfl⟩)) (λc=>b _ _ ⟨rfl,rfl⟩))
  obtain⟨a1,a2⟩:=hs c
  have:=K6 a1 (by rw[a2];rfl)
  simpa using this
 rintro _ l ⟨rfl,rfl⟩
 refine aF rfl (Ap ae O.base D λa o=>⟨k.1,jo o (j:=0) rfl,ka (λs m=>(s=true->k.1≠2∨e≠0)/\m=l) (λkk b=>aM (λc=>b _ _ ⟨λ_=>.inl (by simpa using c),rfl⟩) (λc=>b _ _ ⟨λh=>.inr (by simpa using h),rfl⟩)) ?_⟩)
 rintro s l ⟨hs,rfl⟩
 refine aE (aM (λc=>?_) (λc=>aF rfl fin))
 have hr:vL G n=vL d.S n:=XQ (K7 ((hs c).imp (λh=>by simpa using h) id))
 have af:=(af.ext (E.trans aa)).ext O.base
 rw[←hr] at af
 have a4:(vL G n).length=n:=by simp[vL]
 exact LV ((aZ.ext (E.trans aa)).ext O.base) (a0.ext O.base) af (aS.ext O.base) (by rw[a4];omega) a3 (aF rfl fin)
end Ma
end
end Go.Proofs.YtigjebgjphmkoaaGreat
