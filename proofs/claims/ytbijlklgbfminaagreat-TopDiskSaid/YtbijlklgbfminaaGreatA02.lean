import Derived.Test.YtbijlklgbfminaaGreatA01
set_option linter.unusedVariables false
set_option linter.unusedSimpArgs false
section
namespace Go.Kx
def PH.join (M T:PH):PH:=λb=>match M b with| .some o=>.some o| .none=>T b
theorem join_some {M T:PH} {b:Nat} {o:Obj} (h:M b=some o):M.join T b=some o:=by simp[PH.join,h]
theorem join_none {M T:PH} {b:Nat} (h:M b=none):M.join T b=T b:=by simp[PH.join,h]
theorem uS (M T:PH) (b:Nat) (o:Obj):(M.join T).bL b o=(M.bL b o).join T:=by
 funext c
 by_cases e:c=b
 ·subst e;simp[PH.join]
 ·rw[PH.al _ _ e];simp[PH.join,PH.al _ _ e]
theorem QN:PH.none.join PH.none=PH.none:=rfl
theorem R9 (T:PH):PH.none.join T=T:=rfl
def Sub (A B:PH):Prop:=∀b o,A b=some o->B b=some o
def vB {G:Type} (M:PH) (TT:G->PH):Prop:=∀b g,M b≠none->TT g b=none
def II {G:Type} (TT:G->PH):Prop:=∀g a b,TT g b=none->TT a b=none
theorem Fr.SA {H H' M T j:PH} {w w':World} (h:Fr H T w H' j w') (e:iG H (M.join T) w) (s:∀b,M b≠none->T b=none) (t:∀b,M b≠none->j b=none):Fr H (M.join T) w H' (M.join j) w':=by
 have m:∀b o,M b=some o->H b=none:=λb o a=>(e.uK b).resolve_right (by rw[join_some a];simp)
 have q:∀b o,M b=some o->T b=none:=λb o a=>s b (by rw[a];simp)
 refine⟨⟨h.own.sub,λb o a=>?_,λb=>?_⟩,h.size,λb a r c=>?_,h.os,h.output,h.tape⟩
 ·cases hm:M b with
  |none=>rw[join_none hm] at a;exact h.own.tok b o a
  |some x=>
   rw[join_some hm] at a;cases a
   rw[(h.oT b (e.Ce (join_some hm)) (m b _ hm) (q b _ hm)).1];exact e.tok b _ (join_some hm)
 ·cases hm:M b with
  |none=>rw[join_none hm];exact h.own.uK b
  |some x=>exact .inl (h.oT b (e.Ce (join_some hm)) (m b _ hm) (q b _ hm)).2.1
 ·cases hm:M b with
  |none=>
   rw[join_none hm] at c ⊢
   exact h.oT b a r c
  |some x=>rw[join_some hm] at c;cases c
theorem iG.less {H T a:PH} {w:World} (h:iG H T w) (s:Sub a T):iG H a w:=⟨h.sub,λb o c=>h.tok b o (s b o c),λb=>(h.uK b).imp id λe=>by
 cases c:a b with
 |none=>rfl
 |some o=>rw[s b o c] at e;cases e⟩
def yU (P:Program) (l:Nat) {γ:Type} (a:Nat->γ->PH) (Y:List Value->γ->PH->(Nat->γ->PH->Prop)->Prop):Prop:=
 ∀vs g H K,Y vs g H K->∀w,iG H (a 0 g) w->∃fn tmps assign body,(Instr.yield l vs.toArray).run P w= .ok (.round l fn tmps assign body) w/\
  FR P l fn tmps assign body w λv w'=>∃j b H',v= .bool (j==0)/\Fr H (a 0 g) w H' (a j b) w'/\K j b H'
def iH (P:Program) (v:Value) {γ:Type} (Y:List Value->γ->PH->(Nat->γ->PH->Prop)->Prop) (g:γ) (H:PH) (R:Nat->γ->PH->Prop):Prop:=
 ∃f fi ca,v= .func (.func f) fi ca/\Body P f/\∀l (a:Nat->γ->PH),II (λq:Nat×γ=>a q.1 q.2)->yU P l a Y->
  FQ P f (fi++ #[.func (.yield l) #[] #[]]++ca) (a 0 g) H λ_ c H'=>∃j b,c=a j b/\R j b H'
def ue (P:Program) (v:Value) (vs:List Value) (H:PH) (K:Value->PH->Prop):Prop:=
 ∃f fi ca,v= .func (.func f) fi ca/\Body P f/\dv P f (fi++vs.toArray++ca) H K
def Mk (rd:Option Nat) (D:List Deferred) (M:PH):Prop:=match rd with
 |none=>∃rs:List Nat,D=marks rs/\rs.Nodup/\∀r,r∈rs->M r=some (.deferred (some []))
 |some _=>True
def zB {G:Type} (rd:Option Nat) (B':PH) (TT:G->PH) (Q:Fin->Env->G->PH->Prop):mr:=λf ρ D T H=>∃M g,Mk rd D M/\Sub B' M/\vB M TT/\T=M.join (TT g)/\Q f ρ g H
def wj {G:Type} (P:Program) (rd:Option Nat) (n:Nat) (k:List Item) (ρ:Env) (B B':PH) (TT:G->PH) (g:G) (H:PH) (Q:Fin->Env->G->PH->Prop):Prop:=
 ∀D M,Mk rd D M->Sub B M->vB M TT->Go P rd n k ρ D (M.join (TT g)) H (zB rd B' TT Q)
section rules
variable {P:Program} {rd:Option Nat} {n:Nat} {k:List Item} {ρ:Env} {D:List Deferred} {M B B' H T:PH} {ops:Array Oper} {l:List Oper} {i:Nat}
variable {G:Type} {TT:G->PH} {g:G} {Q:Fin->Env->G->PH->Prop} {QP:mr}
theorem Go.fP (c:Mk rd D M) (b:Sub B' M) (a:vB M TT) (h:Q .ret ρ g H):Go P rd n (.code .ret::k) ρ D (M.join (TT g)) H (zB rd B' TT Q):=.ret ⟨M,g,c,b,a,rfl,h⟩
theorem Go.gP (c:Mk rd D M) (b:Sub B' M) (a:vB M TT) (h:Q .lU ρ g H):Go P rd n [] ρ D (M.join (TT g)) H (zB rd B' TT Q):=.lU ⟨M,g,c,b,a,rfl,h⟩
theorem nk {σ:Type} (m:Nat) (a:σ->G) (E:Env->σ->Prop) {kk:σ->PH->Prop} {body:(σ->PH->Prop)->Prop} (e:Sub B M) (h:aM kk body)
 (b:∀s H ρ,kk s H->E ρ s->wj P rd n (k.drop m) ρ B B' TT (a s) H Q)
 (c:∀j:σ->PH->Prop,(∀s H ρ,j s H->E ρ s->wj P rd n (k.drop m) ρ B B' TT (a s) H Q)->body j->Go P rd n k ρ D T H (zB rd B' TT Q)):Go P rd n k ρ D T H (zB rd B' TT Q):=c kk b h
theorem vC {σ:Type} (m:Nat) (a:σ->G) (E:Env->σ->Prop) {kk:σ->PH->Prop} {body:(σ->PH->Prop)->Prop} (h:aM kk body)
 (b:∀s H ρ,kk s H->E ρ s->bO P rd n ops (l.drop m) (i+m) k ρ D (M.join (TT (a s))) H QP)
 (c:∀j:σ->PH->Prop,(∀s H ρ,j s H->E ρ s->bO P rd n ops (l.drop m) (i+m) k ρ D (M.join (TT (a s))) H QP)->body j->bO P rd n ops l i k ρ D T H QP):bO P rd n ops l i k ρ D T H QP:=c kk b h
theorem qu {σ:Type} {c:Code} {a:σ->PH->(σ->PH->Prop)->Prop} {s0:σ} (j:σ->G) (E:Env->σ->Prop) (u:Mk rd D M) (q:Sub B M) (o:vB M TT) (h:bp a s0 H) (r:E ρ s0) (F:g=j s0)
 (round:∀ρ s H again,E ρ s->a s H again->(∀e H' ρ',again e H'->E ρ' e->wj P rd n (.inLoop c::k) ρ' B B' TT (j e) H' Q)->wj P rd n (.code c:: .inLoop c::k) ρ B B' TT (j s) H Q):
 Go P rd n (.code (.loop c)::k) ρ D (M.join (TT g)) H (zB rd B' TT Q):=by
 subst F
 obtain⟨I,⟨O,A⟩,J⟩:=h
 refine Go.step (k2:=.code c:: .inLoop c::k) (λb cs t w _=>step_lone_go (by simp[stepG,stepG.exec,mk])) ?_
 have key:∀m s H ρ,E ρ s->I m s H->wj P rd n (.code c:: .inLoop c::k) ρ B B' TT (j s) H Q:=by
  intro m
  induction m using Nat.strongRecOn with
  |_ m L=>
   intro s H ρ r C
   refine round ρ s H _ r (J m s H C) λe H' ρ' ⟨N,z,y⟩ x D M u q o=>?_
   exact .step (λb cs t w _=>step_lone_go (by simp[stepG,stepG.exec,mk])) (L N z e H' ρ' x y D M u q o)
 exact key O s0 H ρ r A D M u q o
def yV (ρ:Env):List Nat->List Value->Env
 |p::ps,v::vs=>yV (bL ρ p v) ps vs
 |_,_=>ρ
theorem Cm {n:Nat}:∀(ps:List Nat) (vs:List Value) (ρ:Env) (t:Array Value),sF n ρ t->(∀p,p∈ps->p<n)->sF n (yV ρ ps vs) ((ps.zip vs).foldl (λt q=>t.setIfInBounds q.1 q.2) t)
 |[],_,_,_,h,_=>h
 |_::_,[],_,_,h,_=>h
 |p::ps,v::vs,ρ,t,h,a=>Cm ps vs _ _ (h.put (a p (by simp)) v) λq b=>a q (by simp[b])
def Cn (a:List Code) (j:Nat):Fin->Prop
 | .lU=>j=0
 | .ret=>∃i,j=i+1/\a[i]?=some .ret
 | .exit id=>∃i,j=i+1/\a[i]?=some (.exit id)
def jump (a:List Code):Nat->Option Code
 | 0=>none
 |i+1=>a[i]?
def fH (r:Loop) (a:List Code) (j:Nat):Loop:={r with state:=if j=0 then .ready else .done,pending:=jump a j}
def oa (r:Loop):Loop:={r with state:=.busy}
theorem jQ {a:Nat} {y:PH} {r:Loop} (S:r.state= .ready) (A:Sub (y.bL a (.loop r)) M) (z:vB M TT)
 (h:∀s,Sub (y.bL a (.loop (oa r))) s->vB s TT->Go P (some a) n k ρ D (s.join (TT g)) H QP):Go P (some a) n (.beginRound::k) ρ D (M.join (TT g)) H QP:=by
 intro b cs t w C U u
 have q:M a=some (.loop r):=A _ _ (by simp)
 have hw:=u.tok a _ (join_some q)
 have X:=u.Ce (join_some q)
 have j:Fr H (M.join (TT g)) w H ((M.join (TT g)).bL a (.loop (oa r))) (w.putObj a (.loop (oa r))):=.Cf u (join_some q) rfl rfl rfl rfl
 rw[uS] at j
 obtain⟨f,V,W,ρ',F,I,H',w',a1,J,L,N,O⟩:=h (M.bL a (.loop (oa r))) (λc o m=>by
  by_cases e:c=a
  ·subst e;simpa using m
  ·rw[PH.al _ _ e] at m ⊢; exact A c o (by rw[PH.al _ _ e];exact m))
  (λc R m=>by
   by_cases e:c=a
   ·subst e;exact z _ _ (by rw[q];simp)
   ·rw[PH.al _ _ e] at m;exact z c R m) b cs t _ C U j.own
 refine⟨f,V,W,ρ',F,I,H',w',.head (step_lone_go ?_) a1,J,L,j.trans N,O⟩
 have x:=run_beginRound (P:=P) hw S
 have E:b.roundOf=some a:=C
 simp only[stepG,stepG.exec,mk,stepG.apply,E,Option.elim,Sem.runT_eq,if_true]
 simp[Sem.run_bind,x,Result.andThen,Sem.run_pure,GStep.bare_after,Frame.finish]
 rfl
def Dp (rd:Option Nat) (M:PH):Prop:=match rd with
 |none=>True
 |some l=>∃r,M l=some (.loop r)
theorem Fe {a:Nat} {s:List Code} {r:Loop} {t:PH} {fn:FuncId} {tmps:Array Value} {assign body:Code} {w:World} {K:Nat->G->PH->Prop} (hr:r=fH r s 0) (ht:sF n ρ tmps)
 (N:vB (t.bL a (.loop (fH r s 0))) TT)
 (h:wj P (some a) n [.code assign,.beginRound,.code body] ρ (t.bL a (.loop r)) (t.bL a (.loop (oa r))) TT g H λf ρ' m H'=>∃j,Cn s j f/\K j m H')
 (U:iG H ((t.bL a (.loop (fH r s 0))).join (TT g)) w):
 FR P a fn tmps assign body w λv w'=>∃j m H',v= .bool (j==0)/\Fr H ((t.bL a (.loop (fH r s 0))).join (TT g)) w H' ((t.bL a (.loop (fH r s j))).join (TT m)) w'/\K j m H':=by
 intro c cs
 rw[←hr] at U N ⊢
 let b:Frame:={fn:=fn,tmps:= #[],todo:=[],defers:=[],mode:=.run,kind:=.normal,roundOf:=some a}
 obtain⟨f,k',t',ρ',V,T',H',w',a1,F,a3,I,C,m,b1,L,W,rfl,j,J,X⟩:=h [] _ trivial (λ_ _ h=>h) N b (c::cs) tmps w rfl ht U
 have O:C a=some (.loop (oa r)):=L _ _ (by simp)
 have hw:=I.own.tok a _ (join_some O)
 have fin:∀jp:Option Code,jump s j=jp->(jp.isNone=(j==0))->
  step P (lone (mk b t' V k') (c::cs) w')= .next (lone (c.finish (.bool jp.isNone)) cs (w'.putObj a (.loop {oa r with state:=if jp.isNone then .ready else .done,pending:=jp})))->
  ∃v E,(∃j m H',v= .bool (j==0)/\Fr H ((t.bL a (.loop r)).join (TT g)) w H' ((t.bL a (.loop (fH r s j))).join (TT m)) E/\K j m H')/\Steps P (lone (Frame.round a fn tmps assign body .normal) (c::cs) w) (lone (c.finish v) cs E):=by
  intro jp z S hs
  refine⟨_,_,⟨j,m,H',by rw[S],?_,X⟩,a1.trans (.one hs)⟩
  have A:Fr H' (C.join (TT m)) w' H' ((C.join (TT m)).bL a (.loop (fH r s j))) (w'.putObj a (.loop {oa r with state:=if jp.isNone then .ready else .done,pending:=jp})):=by
   refine .Cf I.own (join_some O) ?_ rfl rfl rfl
   have:fH r s j={oa r with state:=if jp.isNone then .ready else .done,pending:=jp}:=by
    simp only[fH,oa,z,S]
    by_cases e:j=0<;>simp[e]
   rw[this];rfl
  rw[uS] at A
  refine(I.trans A).weaken (λ_ _ h=>h) λx o u=>?_
  by_cases e:x=a
  ·subst e
   rw[join_some (PH.dW _ _ _)] at u
   rw[join_some (PH.dW _ _ _)];exact u
  ·cases hm:t x with
   |some y=>
    rw[join_some (by rw[PH.al _ _ e];exact hm)] at u
    rw[join_some (by rw[PH.al _ _ e];exact L x y (by rw[PH.al _ _ e];exact hm))];exact u
   |none=>
    rw[join_none (by rw[PH.al _ _ e];exact hm)] at u
    rw[join_none]
    ·exact u
    ·rw[PH.al _ _ e]
     cases R:C x with
     |none=>rfl
     |some y=>have:=W x m (by rw[R];simp);rw[this] at u;cases u
 cases f with
 |lU=>
  cases F
  have Z:j=0:=J
  subst Z
  refine fin none rfl rfl (step_lone_go ?_)
  have q:=run_endRound (P:=P) none hw
  simp only[stepG,stepG.exec,mk,b,Sem.runT_eq,GStep.bare_after,q]
  simp[doReturn]
 |ret=>
  obtain⟨rr,rfl⟩:=F
  obtain⟨i,rfl,z⟩:=J
  refine fin (some .ret) z rfl (step_lone_go ?_)
  have q:=run_endRound (P:=P) (some .ret) hw
  simp only[stepG,stepG.exec,mk,b,Sem.runT_eq,GStep.bare_after,q]
  simp[doReturn]
 |exit id=>
  obtain⟨rr,rfl,he⟩:=F
  obtain⟨i,rfl,z⟩:=J
  refine fin (some (.exit id)) z rfl (step_lone_go ?_)
  have q:=run_endRound (P:=P) (some (.exit id)) hw
  simp only[stepG,stepG.exec,mk,b,he,Option.elim,Sem.runT_eq,GStep.bare_after,q]
  simp[doReturn]
theorem LS (ps:Array Nat) (vs:List Value) (t:Array Value):(ps.zip vs.toArray).foldl (λt (q:Nat×Value)=>t.setIfInBounds q.1 q.2) t=(ps.toList.zip vs).foldl (λt q=>t.setIfInBounds q.1 q.2) t:=by
 rw[←Array.foldl_toList];simp
theorem Ff {f:Operand} {params:Array Tmp} {assign body:Code} {v:Value} {Y:List Value->G->PH->(Nat->G->PH->Prop)->Prop} {R:Nat->G->PH->Prop} (m:List Code)
 (hf:ev ρ f=v) (it:iH P v Y g H R) (V:II TT) (hp:params.toList.all (λp=>decide (p<n))=true) (hM:Mk rd D M) (hB:Sub B M) (hA:vB M TT) (hE:Dp rd M)
 (aa:∀vs g H K,Y vs g H K->vs.length=params.size/\∀(a:Nat) (Bx:PH) (r:Loop),r.state= .ready->
  wj P (some a) n [.code assign,.beginRound,.code body] (yV ρ params.toList vs) (Bx.bL a (.loop r)) (Bx.bL a (.loop (oa r))) TT g H λf ρ' s H'=>∃j,Cn m j f/\K j s H')
 (O:∀j s H',R j s H'->wj P rd n (((jump m j).map Item.code).toList++k) ρ B B' TT s H' Q):
 Go P rd n (.code (.rangeFunc f params assign body)::k) ρ D (M.join (TT g)) H (zB rd B' TT Q):=by
 intro b cs t w hb ht ho
 obtain⟨gf,fi,ca,rfl,ae,az⟩:=it
 obtain⟨a,mark,w1,u,r,ar,aq,aH,aE,an,aC,aD,W,aj,ax,ad,L⟩:∃(a:Nat) (mark:List Deferred) (w1:World) (u:PH) (r:Loop),
  (Instr.enterLoop b.fn t params assign body b.roundOf).run P w= .ok (a,mark) w1/\r.state= .ready/\r.pending=none/\r.tmps=t/\r.params=params/\r.assign=assign/\r.body=body/\
  Fr H (M.join (TT g)) w H ((u.bL a (.loop r)).join (TT g)) w1/\(∀s,TT s a=none)/\(∀o,Mk rd (mark++D) (u.bL a o))/\(∀o,Sub B (u.bL a o))/\vB u TT:=by
  have Z:∀{T:PH} {w:World},iG H ((T).join (TT g)) w->T w.heap.size=none/\∀s,TT s w.heap.size=none:=λ{T} {w} h=>by
   have:=h.new.2
   cases hT:T w.heap.size with
   |none=>rw[join_none hT] at this;exact⟨rfl,λs=>V g s _ this⟩
   |some o=>rw[join_some hT] at this;cases this
  cases rd with
  |none=>
   have S:b.roundOf=none:=hb
   obtain⟨E,t0⟩:=Z ho
   have f1:Fr H (M.join (TT g)) w H ((M.join (TT g)).bL w.heap.size (.deferred (some []))) (w.alloc (.deferred (some []))):=.wW ho _
   rw[uS] at f1
   obtain⟨m1,t1⟩:=Z f1.own
   have ao:(w.alloc (.deferred (some []))).heap.size=w.heap.size+1:=by simp
   rw[ao] at m1 t1
   let r:Loop:={state:=.ready,pending:=none,fn:=b.fn,tmps:=t,params:=params,assign:=assign,body:=body,defers:=w.heap.size}
   have f2:Fr H ((M.bL w.heap.size (.deferred (some []))).join (TT g)) (w.alloc (.deferred (some []))) H (((M.bL w.heap.size (.deferred (some []))).join (TT g)).bL (w.alloc (.deferred (some []))).heap.size (.loop r)) ((w.alloc (.deferred (some []))).alloc (.loop r)):=.wW f1.own _
   rw[uS,ao] at f2
   obtain⟨rs,e1,e2,e3⟩:=hM
   refine⟨w.heap.size+1,_,_,M.bL w.heap.size (.deferred (some [])),r,by rw[S];exact run_enterLoop_outer _ _ _ _ _,rfl,rfl,rfl,rfl,rfl,rfl,f1.trans f2,t1,λo=>⟨w.heap.size::rs,?_,?_,?_⟩,λo=>?_,?_⟩
   ·rw[e1];rfl
   ·rw[List.nodup_cons];exact⟨λhm=>(by rw[e3 _ hm] at E;cases E),e2⟩
   ·intro x c
    rcases List.mem_cons.1 c with rfl|c
    ·rw[PH.al _ _ (by omega),PH.dW]
    ·have z:x≠w.heap.size:=λe=>by subst e;rw[e3 _ c] at E;cases E
     have ac:x≠w.heap.size+1:=λe=>by
      subst e
      rw[PH.al _ _ z,e3 _ c] at m1;cases m1
     rw[PH.al _ _ ac,PH.al _ _ z];exact e3 _ c
   ·intro x ox c
    have A:=hB x ox c
    have z:x≠w.heap.size:=λe=>by subst e;rw[A] at E;cases E
    have ac:x≠w.heap.size+1:=λe=>by
     subst e
     rw[PH.al _ _ z,A] at m1;cases m1
    rw[PH.al _ _ ac,PH.al _ _ z];exact A
   ·intro x s c
    by_cases e:x=w.heap.size
    ·subst e;exact t0 s
    ·rw[PH.al _ _ e] at c;exact hA x s c
  |some l0=>
   have S:b.roundOf=some l0:=hb
   obtain⟨E,t0⟩:=Z ho
   obtain⟨r0,aB⟩:=hE
   let r:Loop:={state:=.ready,pending:=none,fn:=b.fn,tmps:=t,params:=params,assign:=assign,body:=body,defers:=r0.defers}
   have f2:Fr H (M.join (TT g)) w H ((M.join (TT g)).bL w.heap.size (.loop r)) (w.alloc (.loop r)):=.wW ho _
   rw[uS] at f2
   refine⟨w.heap.size,[],_,M,r,?_,rfl,rfl,rfl,rfl,rfl,rfl,f2,t0,λ_=>trivial,λ_=>?_,hA⟩
   ·rw[S]
    unfold Instr.enterLoop
    simp only[Sem.run_bind,run_getLoop (ho.tok l0 _ (join_some aB)),run_newObj_alloc,Result.andThen,Sem.run_pure,r]
   ·intro x ox c
    have A:=hB x ox c
    have z:x≠w.heap.size:=λe=>by subst e;rw[A] at E;cases E
    rw[PH.al _ _ z];exact A
 have er:r=fH r m 0:=by
  simp only[fH,jump]
  cases r;simp_all
 have av:∀j,vB (u.bL a (.loop (fH r m j))) TT:=λj x s c=>by
  by_cases e:x=a
  ·subst e;exact aj s
  ·rw[PH.al _ _ e] at c;exact L x s c
 have ah:II (λq:Nat×G=>(u.bL a (.loop (fH r m q.1))).join (TT q.2)):=λq q' x c=>by
  replace c:((u.bL a (.loop (fH r m q.1))).join (TT q.2)) x=none:=c
  show((u.bL a (.loop (fH r m q'.1))).join (TT q'.2)) x=none
  by_cases e:x=a
  ·subst e;rw[join_some (PH.dW _ _ _)] at c;cases c
  ·cases hm:u x with
   |none=>
    rw[join_none (by rw[PH.al _ _ e];exact hm)] at c ⊢
    exact V _ _ _ c
   |some o=>rw[join_some (by rw[PH.al _ _ e];exact hm)] at c;cases c
 have hy:yU P a (λj g=>(u.bL a (.loop (fH r m j))).join (TT g)) Y:=by
  intro vs F N K hY J am
  obtain⟨hlen,ay⟩:=aa vs F N K hY
  have ab:=am.tok a _ (join_some (PH.dW _ _ _))
  refine⟨_,_,_,_,run_yield ab (by show vs.toArray.size=r.params.size;rw[an];simpa using hlen),?_⟩
  have aF:sF n (yV ρ params.toList vs) (((fH r m 0).params.zip vs.toArray).foldl (λtmps (q:Nat×Value)=>tmps.setIfInBounds q.1 q.2) (fH r m 0).tmps):=by
   show sF n _ ((r.params.zip vs.toArray).foldl (λtmps (q:Nat×Value)=>tmps.setIfInBounds q.1 q.2) r.tmps)
   rw[an,aE,LS]
   refine Cm _ _ _ _ ht λp aA=>?_
   simp only[List.all_eq_true] at hp
   simpa using hp p aA
  have:=Fe (fn:=r.fn) (assign:=assign) (body:=body) (K:=K) er aF (av 0) (ay a u r aq) am
  rw[←aC,←aD] at this
  exact this
 have ag:=az a _ ah hy w1 (by rw[←er];exact W.own)
 let y:Frame:=mk b t (mark++D) (.inRangeFunc a::k)
 obtain⟨e,J,au,⟨v,T2,N,rfl,C,j,F,rfl,hR⟩,U,aG,X⟩:=ag (y::cs)
 rw[←er] at C
 have ak:(((u.bL a (.loop (fH r m j))).join (TT F)):PH) a=some (.loop (fH r m j)):=join_some (PH.dW _ _ _)
 have ab:=C.own.tok a _ ak
 have ap:=run_endLoop (P:=P) ab (by show(if j=0 then LoopState.ready else .done)≠ .busy;split<;>simp)
 have I:Fr N ((u.bL a (.loop (fH r m j))).join (TT F)) J N (((u.bL a (.loop (fH r m j))).join (TT F)).bL a (.loop {fH r m j with state:=.exhausted})) (J.putObj a (.loop {fH r m j with state:=.exhausted})):=.Cf C.own ak rfl rfl rfl rfl
 have heq:((u.bL a (.loop (fH r m j))).join (TT F)).bL a (.loop {fH r m j with state:=.exhausted})=(u.bL a (.loop {fH r m j with state:=.exhausted})).join (TT F):=by
  rw[uS]
  congr 1
  funext x
  by_cases e:x=a
  ·subst e;simp
  ·simp[PH.al _ _ e]
 rw[heq] at I
 have aw:vB (u.bL a (.loop {fH r m j with state:=.exhausted})) TT:=λx s c=>by
  by_cases e:x=a
  ·subst e;exact aj s
  ·rw[PH.al _ _ e] at c;exact L x s c
 obtain⟨fe,k',t',ρ',D',T',H',w',a1,a2,a3,a4,a5⟩:=O j F N hR (mark++D) _ (ax _) (ad _) aw b cs t _ hb ht I.own
 refine⟨fe,k',t',ρ',D',T',H',w',?_,a2,a3,((W.trans C).trans I).trans a4,a5⟩
 have ai:=Dh ht b (mark++D) (.inRangeFunc a::k)
 have s1:step P (lone (mk b t D (.code (.rangeFunc f params assign body)::k)) cs w)= .next (lone (Frame.enter P gf (fi++ #[.func (.yield a) #[] #[]]++ca) .normal) (y::cs) w1):=by
  refine step_lone_go ?_
  simp only[mk] at ai
  simp only[stepG,stepG.exec,mk,Sem.runT_eq,GStep.bare_after,ar,stepG.apply]
  simp[resolve,ai,hf,(show∀x,ev ρ (.const x)=x fromλ_=>rfl),Deferred.ofValue,Sem.run_bind,Sem.run_pure,Result.andThen,invoke,ae _ _,y,mk]
 have s2:step P (lone au (y::cs) J)= .next (lone (y.finish v) cs J):=step_leave_returned X
 have e2:y.finish v=mk b t (mark++D) (.endRangeFunc a::k):=by simp[Frame.finish,y,mk]
 have s3:step P (lone (mk b t (mark++D) (.endRangeFunc a::k)) cs J)= .next (lone (mk b t (mark++D) (((jump m j).map Item.code).toList++k)) cs (J.putObj a (.loop {fH r m j with state:=.exhausted}))):=by
  refine step_lone_go ?_
  simp only[stepG,stepG.exec,mk,Sem.runT_eq,GStep.bare_after,ap]
  rfl
 rw[e2] at s2
 exact .head s1 (U.trans (.head s2 (.head s3 a1)))
end rules
section
variable {P:Program} {n:Nat} {ρ:Env} {T H:PH} {d:Option Nat} {ty:TypeId} {p:String} {af:Array Edge} {g:Option (Nat×Bool)} {K:Value->PH->PH->Prop}
theorem Ns {x:Operand} {xs:Array Operand} {A:Array TypeId} {l j:Nat} {γ:Type} {e:Nat->γ->PH} {a:γ} {Y:List Value->γ->PH->(Nat->γ->PH->Prop)->Prop} {M:PH} {vs:List Value} {t:Nat->γ->PH->Prop}
 (L:ev ρ x= .func (.yield l) #[] #[]) (R:xs.toList.map (ev ρ)=vs) (S:yU P l e Y) (u:vB M λq:Nat×γ=>e q.1 q.2) (N:j=0) (h:Y vs a H t)
 (hk:∀r s H',t r s H'->K (.bool (r==0)) (M.join (e r s)) H'):cv P ρ ⟨d,.call ⟨.value x,xs,A⟩,ty,p,af,g⟩ (M.join (e j a)) H K:=⟨rfl,λw F=>by
 subst N
 have O:Sub (e 0 a) (M.join (e 0 a)):=λb o m=>by
  cases hm:M b with
  |none=>rw[join_none hm];exact m
  |some y=>
   have:e 0 a b=none:=u b (0,a) (by rw[hm];simp)
   rw[this] at m;cases m
 obtain⟨fn,tmps,assign,body,z,I⟩:=S vs a H t h w (F.less O)
 refine .inr (.inr (.inr ⟨l,fn,tmps,assign,body,?_,λc cs=>?_⟩))
 ·simp[execOp,resolve,L,oU R,Deferred.ofValue,Sem.run_bind,Sem.run_pure,Result.andThen,invoke,z]
 ·obtain⟨v,w',⟨r,s,H',rfl,C,E⟩,J⟩:=I c cs
  exact⟨_,w',⟨_,H',C.SA F (λb m=>u b (0,a) m) (λb m=>u b (r,s) m),hk _ _ _ E⟩,J⟩⟩
theorem zC {x:Operand} {xs:Array Operand} {a:Array TypeId} {v:Value} {vs:List Value} {R:Value->PH->Prop} (c:ev ρ x=v) (u:xs.toList.map (ev ρ)=vs) (s:ue P v vs H R)
 (h:∀v H',R v H'->K v T H'):cv P ρ ⟨d,.call ⟨.value x,xs,a⟩,ty,p,af,g⟩ T H K:=⟨rfl,λw t=>by
 obtain⟨f,fi,ca,rfl,hf,b⟩:=s
 refine .inr (.inr (.inl ⟨f,(fi++vs.toArray++ca),?_,?_⟩))
 ·simp[execOp,resolve,c,oU u,Deferred.ofValue,Sem.run_bind,Sem.run_pure,Result.andThen,invoke,hf _ _]
 ·exact(b.beside w t).mono λe w' ⟨v,j,H',m,o,q,r⟩=>⟨v,j,H',m,o,q▸h v H' r⟩⟩
theorem LU {G:Type} {D:List Deferred} {M:PH} {TT:G->PH} {g:G} (m:Mk none D M) (h:vB M TT):py D (M.join (TT g)) (TT g):=by
 obtain⟨rs,rfl,j,e⟩:=m
 refine⟨rs,rfl,j,λr c=>join_some (e r c),λb o a=>⟨?_,λc=>?_⟩⟩
 ·cases hm:M b with
  |none=>rw[join_none hm];exact a
  |some y=>have:=h b g (by rw[hm];simp);rw[this] at a;cases a
 ·have:=h b g (by rw[e b c];simp);rw[this] at a;cases a
theorem fZ {f:FuncId} {fn:Func} {c:Code} {args:Array Value} {R:Value->PH->Prop} (hf:P.funcs[f]?=some fn) (q:fn.body=some c) (r:fn.ntmps=n) (t:args.size<=n)
 (h:wj P none n [.code c] (z9 args) PH.none PH.none (λ_:Unit=>PH.none) () H λfi ρ _ H'=>(fi= .ret∨fi= .lU)/\∃v,jN P fn ρ H' v/\R v H'):dv P f args H R:=by
 refine wZ hf q r t ?_
 have:=h [] PH.none ⟨[],rfl,by simp,by simp⟩ (λ_ _ h=>h) (λb g h=>absurd rfl h)
 rw[QN] at this
 refine this.mono λfi ρ D u H' s=>?_
 obtain⟨M,g,a,w,e,rfl,j,v,m,o⟩:=s
 exact⟨j,v,_,LU (TT:=λ_:Unit=>PH.none) (g:=()) a e,m,o⟩
theorem kX {f:FuncId} {fn:Func} {c:Code} {fi ca:List Value} {γ:Type} {Y:List Value->γ->PH->(Nat->γ->PH->Prop)->Prop} {j:γ} {R:Nat->γ->PH->Prop} (m:Body P f) (hf:P.funcs[f]?=some fn) (w:fn.body=some c) (y:fn.ntmps=n) (F:fi.length+1+ca.length<=n)
 (h:∀l (a:Nat->γ->PH),II (λq:Nat×γ=>a q.1 q.2)->yU P l a Y->wj P none n [.code c] (z9 (fi++ .func (.yield l) #[] #[]::ca).toArray) PH.none PH.none (λq:Nat×γ=>a q.1 q.2) (0,j) H λfi ρ q H'=>(fi= .ret∨fi= .lU)/\∃v,jN P fn ρ H' v/\R q.1 q.2 H'):
 iH P (.func (.func f) fi.toArray ca.toArray) Y j H R:=by
 refine⟨f,_,_,rfl,m,λl a x A=>?_⟩
 have e:fi.toArray++ #[.func (.yield l) #[] #[]]++ca.toArray=(fi++ .func (.yield l) #[] #[]::ca).toArray:=by simp
 rw[e]
 refine AA hf w y (by simp;omega) ?_
 have:=h l a x A [] PH.none ⟨[],rfl,by simp,by simp⟩ (λ_ _ h=>(by cases h)) (λb g h=>absurd rfl h)
 rw[R9] at this
 refine this.mono λfe ρ D C H' z=>?_
 obtain⟨M,q,o,E,r,rfl,s,v,t,u⟩:=z
 exact⟨s,v,_,LU (TT:=λq:Nat×γ=>a q.1 q.2) (g:=q) o r,t,q.1,q.2,rfl,u⟩
end
def sP {γ:Type} (Y:List Value->γ->PH->(Nat->γ->PH->Prop)->Prop) (q:Nat×γ) (vs:List Value) (H:PH) (K:Nat×γ->PH->Prop):Prop:=q.1=0/\Y vs q.2 H λj g H'=>K (j,g) H'
section
variable {P:Program} {ρ:Env} {T H:PH} {d:Option Nat} {ty:TypeId} {p:String} {af:Array Edge} {g:Option (Nat×Bool)} {K:Value->PH->PH->Prop}
theorem nD {x:Operand} {xs:Array Operand} {e:Array TypeId} {l:Nat} {γ:Type} {a:Nat->γ->PH} {q:Nat×γ} {Y:List Value->γ->PH->(Nat->γ->PH->Prop)->Prop} {M:PH} {vs:List Value} {c:Nat×γ->PH->Prop}
 (t:yU P l a Y) (o:vB M λq:Nat×γ=>a q.1 q.2) (j:ev ρ x= .func (.yield l) #[] #[]) (s:xs.toList.map (ev ρ)=vs) (h:sP Y q vs H c)
 (hk:∀b H',c b H'->K (.bool (b.1==0)) (M.join ((λq:Nat×γ=>a q.1 q.2) b)) H'):cv P ρ ⟨d,.call ⟨.value x,xs,e⟩,ty,p,af,g⟩ (M.join ((λq:Nat×γ=>a q.1 q.2) q)) H K:=
 Ns j s t o h.1 h.2 λu m H' r=>hk (u,m) H' r
end
section
variable {P:Program} {rd:Option Nat} {n:Nat} {k:List Item} {ρ:Env} {D:List Deferred} {M B B' H T:PH}
variable {G:Type} {TT:G->PH} {g:G} {Q:Fin->Env->G->PH->Prop} {f:Operand} {params:Array Tmp} {assign body:Code} {v:Value} {Y:List Value->G->PH->(Nat->G->PH->Prop)->Prop}
theorem nE {o:G->PH->Prop} (it:iH P v Y g H λ_ q H=>o q H) (hf:ev ρ f=v) (c:II TT) (y:params.toList.all (λp=>decide (p<n))=true) (x:Mk rd D M) (u:Sub B M) (t:vB M TT) (w:Dp rd M)
 (b:∀vs g H K,Y vs g H K->vs.length=params.size/\∀(e:Nat) (m:PH) (r:Loop),r.state= .ready->
  wj P (some e) n [.code assign,.beginRound,.code body] (yV ρ params.toList vs) (m.bL e (.loop r)) (m.bL e (.loop (oa r))) TT g H λf ρ' a H'=>∃j,Cn [] j f/\K j a H')
 (s:∀a H',o a H'->wj P rd n k ρ B B' TT a H' Q):
 Go P rd n (.code (.rangeFunc f params assign body)::k) ρ D (M.join (TT g)) H (zB rd B' TT Q):=
 Ff [] hf it c y x u t w b λj a H' h=>by
  cases j with
  |zero=>exact s _ _ h
  |succ j=>exact s _ _ h
theorem vD {c1:Code} {o s:G->PH->Prop} (it:iH P v Y g H λj q H=>aJ (j==1) (s q H) (o q H)) (hf:ev ρ f=v) (c:II TT) (A:params.toList.all (λp=>decide (p<n))=true) (z:Mk rd D M) (x:Sub B M) (w:vB M TT) (y:Dp rd M)
 (b:∀vs g H K,Y vs g H K->vs.length=params.size/\∀(e:Nat) (m:PH) (r:Loop),r.state= .ready->
  wj P (some e) n [.code assign,.beginRound,.code body] (yV ρ params.toList vs) (m.bL e (.loop r)) (m.bL e (.loop (oa r))) TT g H λf ρ' a H'=>∃j,Cn [c1] j f/\K j a H')
 (t:∀a H',o a H'->wj P rd n k ρ B B' TT a H' Q) (u:∀a H',s a H'->wj P rd n (.code c1::k) ρ B B' TT a H' Q):
 Go P rd n (.code (.rangeFunc f params assign body)::k) ρ D (M.join (TT g)) H (zB rd B' TT Q):=
 Ff [c1] hf it c A z x w y b λj a H' h=>by
  match j,h with
  | 0,h=>exact t _ _ (h.2 rfl)
  | 1,h=>exact u _ _ (h.1 rfl)
  |j+2,h=>exact t _ _ (h.2 (by simp))
end
end Go.Kx
end
section
namespace Go.Kx.W
section
variable {P:Program} {rd:Option Nat} {n:Nat} {k:List Item} {ρ:Env} {D:List Deferred} {T H:PH} {Q:mr} {ops:Array Oper} {l:List Oper} {i:Nat}
theorem s {x y:Code} (h:Go P rd n (.code x:: .code y::k) ρ D T H Q):Go P rd n (.code (.seq x y)::k) ρ D T H Q:=.seq h
theorem r {id:Nat} (h:bO P rd n ops ops.toList 0 k ρ D T H Q):Go P rd n (.code (.region id ops false)::k) ρ D T H Q:=.region rfl h
theorem R {id:Nat} {y:Code} (h:bO P rd n ops ops.toList 0 (.code y::k) ρ D T H Q):Go P rd n (.code (.seq (.region id ops false) y)::k) ρ D T H Q:=.seq (.region rfl h)
theorem z (h:Go P rd n k ρ D T H Q):bO P rd n ops [] i k ρ D T H Q:=.nil h
theorem b {id:Nat} {c:Code} (h:Go P rd n (.code c:: .inBlock id::k) ρ D T H Q):Go P rd n (.code (.block id c)::k) ρ D T H Q:=.block h
theorem B {l:Nat} (h:Go P rd n k ρ D T H Q):Go P rd n (.inBlock l::k) ρ D T H Q:=.inBlock h
theorem K (h:Go P rd n k ρ D T H Q):Go P rd n (.code .skip::k) ρ D T H Q:=.skip h
theorem X {id:Nat} {a:List Item} (he:exitTo id k=some a) (h:Go P rd n a ρ D T H Q):Go P rd n (.code (.exit id)::k) ρ D T H Q:=.exit he h
theorem dr {id:Nat} {a:List Deferred} (hm:P.follows .mixedOrders=true) (h:bG P rd n ops k 0 [] ρ a T H Q):Go P rd n (.code (.region id ops true)::k) ρ a T H Q:=.draw hm h
theorem q {d:Nat} {i':Op} {ty:TypeId} {p:String} {af:Array Edge} {v:Value} (m:bP P ρ ⟨some d,i',ty,p,af,none⟩ H v) (h:bO P rd n ops l (i+1) k (bL ρ d v) D T H Q) (a:Nat.blt d n=true:=by rfl):
 bO P rd n ops (⟨some d,i',ty,p,af,none⟩::l) i k ρ D T H Q:=.q rfl rfl (Nat.le_of_ble_eq_true a) m h
theorem w {d j e:Nat} {c g:Bool} {i':Op} {ty:TypeId} {p:String} {af:Array Edge} {v:Value} (a:c=g) (o:bP P ρ ⟨some d,i',ty,p,af,some (j,g)⟩ H v) (h:bO P rd n ops l (i+1) k (bL ρ d v) D T H Q)
 (he:(ops[j]?).bind (·.dst)=some e:=by rfl) (r:ρ e= .bool c:=by first|rfl|assumption) (m:Nat.blt d n=true:=by rfl):
 bO P rd n ops (⟨some d,i',ty,p,af,some (j,g)⟩::l) i k ρ D T H Q:=.q (jP rfl he r a) rfl (Nat.le_of_ble_eq_true m) o h
theorem o {d j e:Nat} {c g:Bool} {i':Op} {ty:TypeId} {p:String} {af:Array Edge} (a:c= !g) (h:bO P rd n ops l (i+1) k (bL ρ d undef) D T H Q)
 (he:(ops[j]?).bind (·.dst)=some e:=by rfl) (q:ρ e= .bool c:=by first|rfl|assumption) (m:Nat.blt d n=true:=by rfl):
 bO P rd n ops (⟨some d,i',ty,p,af,some (j,g)⟩::l) i k ρ D T H Q:=LN (Dm rfl he q a) rfl (Nat.le_of_ble_eq_true m) h
theorem u {d j e:Nat} {g:Bool} {i':Op} {ty:TypeId} {p:String} {af:Array Edge} (h:bO P rd n ops l (i+1) k (bL ρ d undef) D T H Q)
 (he:(ops[j]?).bind (·.dst)=some e:=by rfl) (m:ρ e=undef:=by rfl) (a:Nat.blt d n=true:=by rfl):
 bO P rd n ops (⟨some d,i',ty,p,af,some (j,g)⟩::l) i k ρ D T H Q:=LN (Ci rfl he m) rfl (Nat.le_of_ble_eq_true a) h
theorem y {α:Type} {G:Prop} {A K:α->Prop} (h:∃x,A x/\K x) (g:∀x,A x->K x->G):G:=let⟨x,a,k⟩:=h;g x a k
theorem t {G A K:Prop} (h:A/\K) (g:A->K->G):G:=g h.1 h.2
theorem J {b:Bool} {A B G:Prop} (h:aJ b A B) (a:b=true->A->G) (m:b=false->B->G):G:=by
 cases b with
 |false=>exact m rfl (h.2 rfl)
 |true=>exact a rfl (h.1 rfl)
theorem C {c:Operand} {x y:Code} {b:Bool} (a:b=true) (m:ev ρ c= .bool b) (h:Go P rd n (.code x::k) ρ D T H Q):Go P rd n (.code (.cond c x y)::k) ρ D T H Q:=.TY (Rt m a) h
theorem N {c:Operand} {x y:Code} {b:Bool} (a:b=false) (m:ev ρ c= .bool b) (h:Go P rd n (.code y::k) ρ D T H Q):Go P rd n (.code (.cond c x y)::k) ρ D T H Q:=.TZ (Ru m a) h
section
variable {xs:Array Operand} {ats:Array TypeId} {f:FuncId} {vs:List Value} {d:Nat} {ty:TypeId} {p:String} {af:Array Edge}
theorem c0 {K:PH->Prop} {m:Option Nat} {v0:Value} (hf:Body P f) (o:dv P f vs.toArray H λv H'=>v=v0/\K H') (a:xs.toList.map (ev ρ)=vs) (h:∀H',K H'->bO P rd n ops l (i+1) k (lA ρ m v0) D T H' Q) (r:(match m with|some d=>Nat.blt d n|none=>true)=true:=by rfl):
 bO P rd n ops (⟨m,.call ⟨.value (.func f),xs,ats⟩,ty,p,af,none⟩::l) i k ρ D T H Q:=
 .op rfl (λx a=>by simp only at a;subst a;exact Nat.le_of_ble_eq_true r) (rU hf a o λv H' ⟨e,q⟩=>by subst e;exact h H' q)
theorem c1 {α:Type} {e:α->Value} {K:α->PH->Prop} (hf:Body P f) (a:dv P f vs.toArray H λv H'=>∃x,v=e x/\K x H') (o:xs.toList.map (ev ρ)=vs) (h:∀x H',K x H'->bO P rd n ops l (i+1) k (bL ρ d (e x)) D T H' Q) (m:Nat.blt d n=true:=by rfl):
 bO P rd n ops (⟨some d,.call ⟨.value (.func f),xs,ats⟩,ty,p,af,none⟩::l) i k ρ D T H Q:=
 gL rfl (Nat.le_of_ble_eq_true m) hf a o λv H' ⟨x,e,q⟩=>by subst e;exact h x H' q
theorem c2 {α β:Type} {e:α->β->Value} {K:α->β->PH->Prop} (hf:Body P f) (a:dv P f vs.toArray H λv H'=>∃x y,v=e x y/\K x y H') (o:xs.toList.map (ev ρ)=vs) (h:∀x y H',K x y H'->bO P rd n ops l (i+1) k (bL ρ d (e x y)) D T H' Q) (m:Nat.blt d n=true:=by rfl):
 bO P rd n ops (⟨some d,.call ⟨.value (.func f),xs,ats⟩,ty,p,af,none⟩::l) i k ρ D T H Q:=
 gL rfl (Nat.le_of_ble_eq_true m) hf a o λv H' ⟨x,y,e,q⟩=>by subst e;exact h x y H' q
theorem c3 {α β γ:Type} {e:α->β->γ->Value} {K:α->β->γ->PH->Prop} (hf:Body P f) (a:dv P f vs.toArray H λv H'=>∃x y z,v=e x y z/\K x y z H') (o:xs.toList.map (ev ρ)=vs) (h:∀x y z H',K x y z H'->bO P rd n ops l (i+1) k (bL ρ d (e x y z)) D T H' Q) (m:Nat.blt d n=true:=by rfl):
 bO P rd n ops (⟨some d,.call ⟨.value (.func f),xs,ats⟩,ty,p,af,none⟩::l) i k ρ D T H Q:=
 gL rfl (Nat.le_of_ble_eq_true m) hf a o λv H' ⟨x,y,z,e,q⟩=>by subst e;exact h x y z H' q
variable {j e0:Nat} {cb g:Bool}
theorem k1 {α:Type} {e:α->Value} {K:α->PH->Prop} (a:cb=g) (hf:Body P f) (m:dv P f vs.toArray H λv H'=>∃x,v=e x/\K x H') (s:xs.toList.map (ev ρ)=vs) (h:∀x H',K x H'->bO P rd n ops l (i+1) k (bL ρ d (e x)) D T H' Q)
 (he:(ops[j]?).bind (·.dst)=some e0:=by rfl) (r:ρ e0= .bool cb:=by first|rfl|assumption) (o:Nat.blt d n=true:=by rfl):
 bO P rd n ops (⟨some d,.call ⟨.value (.func f),xs,ats⟩,ty,p,af,some (j,g)⟩::l) i k ρ D T H Q:=
 gL (jP rfl he r a) (Nat.le_of_ble_eq_true o) hf m s λv H' ⟨x,e,q⟩=>by subst e;exact h x H' q
theorem k2 {α β:Type} {e:α->β->Value} {K:α->β->PH->Prop} (a:cb=g) (hf:Body P f) (m:dv P f vs.toArray H λv H'=>∃x y,v=e x y/\K x y H') (s:xs.toList.map (ev ρ)=vs) (h:∀x y H',K x y H'->bO P rd n ops l (i+1) k (bL ρ d (e x y)) D T H' Q)
 (he:(ops[j]?).bind (·.dst)=some e0:=by rfl) (r:ρ e0= .bool cb:=by first|rfl|assumption) (o:Nat.blt d n=true:=by rfl):
 bO P rd n ops (⟨some d,.call ⟨.value (.func f),xs,ats⟩,ty,p,af,some (j,g)⟩::l) i k ρ D T H Q:=
 gL (jP rfl he r a) (Nat.le_of_ble_eq_true o) hf m s λv H' ⟨x,y,e,q⟩=>by subst e;exact h x y H' q
end
section
variable {S:Nat} {L:List Nat} {d:Nat} {i':Op} {ty:TypeId} {p':String} {af:Array Edge} {v:Value} {j e:Nat} {c g:Bool}
theorem p (i:Nat) (a:ops[i]?=some ⟨some d,i',ty,p',af,none⟩) (m:bP P ρ ⟨some d,i',ty,p',af,none⟩ PH.none v) (h:bG P rd n ops k (S|||2 ^ i) L (bL ρ d v) D T H Q) (o:vA ops S i d (S|||2 ^ i)=true:=by decide+kernel):bG P rd n ops k S L ρ D T H Q:=
 xR a o rfl m h
theorem pw (i:Nat) (m:ops[i]?=some ⟨some d,i',ty,p',af,some (j,g)⟩) (a:c=g) (o:bP P ρ ⟨some d,i',ty,p',af,some (j,g)⟩ PH.none v) (h:bG P rd n ops k (S|||2 ^ i) L (bL ρ d v) D T H Q)
 (he:(ops[j]?).bind (·.dst)=some e:=by rfl) (r:ρ e= .bool c:=by first|rfl|assumption) (q:vA ops S i d (S|||2 ^ i)=true:=by decide+kernel):bG P rd n ops k S L ρ D T H Q:=
 xR m q (jP rfl he r a) o h
theorem pl (i:Nat) (a:ops[i]?=some ⟨some d,i',ty,p',af,none⟩) (m:bP P ρ ⟨some d,i',ty,p',af,none⟩ H v) (h:bG P rd n ops k (S|||2 ^ i) (i::L) (bL ρ d v) D T H Q) (o:vA ops S i d (S|||2 ^ i)=true:=by decide+kernel):bG P rd n ops k S L ρ D T H Q:=
 xS a o rfl m h
theorem pL (i:Nat) (m:ops[i]?=some ⟨some d,i',ty,p',af,some (j,g)⟩) (a:c=g) (o:bP P ρ ⟨some d,i',ty,p',af,some (j,g)⟩ H v) (h:bG P rd n ops k (S|||2 ^ i) (i::L) (bL ρ d v) D T H Q)
 (he:(ops[j]?).bind (·.dst)=some e:=by rfl) (r:ρ e= .bool c:=by first|rfl|assumption) (q:vA ops S i d (S|||2 ^ i)=true:=by decide+kernel):bG P rd n ops k S L ρ D T H Q:=
 xS m q (jP rfl he r a) o h
theorem O (i:Nat) (m:ops[i]?=some ⟨some d,i',ty,p',af,some (j,g)⟩) (a:c= !g) (h:bG P rd n ops k (S|||2 ^ i) L (bL ρ d undef) D T H Q)
 (he:(ops[j]?).bind (·.dst)=some e:=by rfl) (q:ρ e= .bool c:=by first|rfl|assumption) (o:vA ops S i d (S|||2 ^ i)=true:=by decide+kernel):bG P rd n ops k S L ρ D T H Q:=
 AH m o (Dm rfl he q a) h
theorem Z (h:Go P rd n k ρ D T H Q) (a:(u0 ops&&xQ ops n&&(List.range ops.size).all λi=>S.testBit i)=true:=by decide+kernel):bG P rd n ops k S L ρ D T H Q:=EN a h
end
end
section
variable {P:Program} {ρ:Env} {T H:PH} {d:Option Nat} {ty:TypeId} {p:String} {af:Array Edge} {g:Option (Nat×Bool)} {x:Operand}
theorem mP {a:Option Addr} (h:ev ρ x= .pointer a):bP P ρ ⟨d,.move x,ty,p,af,g⟩ H (.pointer a):=lI h
theorem mI {k:IntKind} {a:Int} (h:ev ρ x= .int k a):bP P ρ ⟨d,.move x,ty,p,af,g⟩ H (.int k a):=lI h
theorem mB {a:Bool} (h:ev ρ x= .bool a):bP P ρ ⟨d,.move x,ty,p,af,g⟩ H (.bool a):=lI h
theorem mS {a:Sl} (h:ev ρ x=Sl.v a):bP P ρ ⟨d,.move x,ty,p,af,g⟩ H (Sl.v a):=lI h
theorem aP {a:Option Addr} (h:ev ρ x= .pointer a):bP P ρ ⟨d,.assign x,ty,p,af,g⟩ H (.pointer a):=nc h
theorem aI {k:IntKind} {a:Int} (h:ev ρ x= .int k a):bP P ρ ⟨d,.assign x,ty,p,af,g⟩ H (.int k a):=nc h
theorem aB {a:Bool} (h:ev ρ x= .bool a):bP P ρ ⟨d,.assign x,ty,p,af,g⟩ H (.bool a):=nc h
theorem aS {a:Sl} (h:ev ρ x=Sl.v a):bP P ρ ⟨d,.assign x,ty,p,af,g⟩ H (Sl.v a):=nc h
variable {c y:Operand} {b:Bool}
theorem jB {a:Bool} (m:b=true) (o:ev ρ c= .bool b) (h:ev ρ x= .bool a):bP P ρ ⟨d,.pick c x y,ty,p,af,g⟩ H (.bool a):=IB (Rt o m) h
theorem nB {a:Bool} (m:b=false) (o:ev ρ c= .bool b) (h:ev ρ y= .bool a):bP P ρ ⟨d,.pick c x y,ty,p,af,g⟩ H (.bool a):=IC (Ru o m) h
theorem n {x:Operand} {a:Addr} {q:Option Addr} (h:q=some a) (m:ev ρ x= .pointer q):bP P ρ ⟨d,.nilCheck x,ty,p,af,g⟩ H (.pointer (some a)):=yr (UN m h)
end
section
variable {P:Program} {n:Nat} {ρ:Env} {D:List Deferred} {T H:PH} {k:List Item} {rd:Option Nat} {fn:Func} {R:Value->PH->Prop} {v:Value}
theorem E (h:jN P fn ρ H v) (m:R v H):Go P rd n (.code .ret::k) ρ [] PH.none H λfi ρ D a H'=>(fi= .ret∨fi= .lU)/\∃v Tg,py D a Tg/\jN P fn ρ H' v/\R v H':=.ret ⟨.inl rfl,_,_,py.nil,h,m⟩
end
theorem f:type_of% @yF:=@yF
theorem a:type_of% @AB:=@AB
theorem e:type_of% @AE:=@AE
theorem A:type_of% @BB:=@BB
theorem V {P:Program} {ρ:Env} {H:PH} {o:Oper} (v:Value) (h:bP P ρ o H v):bP P ρ o H v:=h
section
variable {P:Program} {rd:Option Nat} {n:Nat} {k:List Item} {ρ:Env} {D:List Deferred} {T H:PH} {Q:mr} {ops:Array Oper} {l:List Oper} {i:Nat}
theorem gY {A G:Prop} (a:A) (f:A->G):G:=f a
abbrev VP (a:Option Addr):Value:=.pointer a
abbrev VA (a:Addr):Value:=.pointer (some a)
abbrev VI (a:Int):Value:=.int .i64 a
abbrev VB (a:Bool):Value:=.bool a
theorem od {d:Nat} {i':Op} {ty:TypeId} {p:String} {af:Array Edge} (h:cv P ρ ⟨some d,i',ty,p,af,none⟩ T H λv m H'=>bO P rd n ops l (i+1) k (bL ρ d v) D m H' Q) (a:Nat.blt d n=true:=by rfl):bO P rd n ops (⟨some d,i',ty,p,af,none⟩::l) i k ρ D T H Q:=wg rfl rfl (Nat.le_of_ble_eq_true a) h
theorem st {t m:Nat} {x y:Operand} {a:Addr} {v:Value} {vs:List Value} {o:PH->Prop} {ty:TypeId} {p:String} {af:Array Edge} (h:aX H a vs o) (q:(P.info? t).map (·.size)=some m) (B:ev ρ x= .pointer (some a)) (C:ev ρ y=v) (g:∀H',o H'->bO P rd n ops l (i+1) k ρ D T H' Q)
 (r:v.cells=vs.toArray:=by exact rfl) (z:vs.length=m:=by exact rfl):bO P rd n ops (⟨none,.store t x y,ty,p,af,none⟩::l) i k ρ D T H Q:=by
 obtain⟨b,off,cs,e,s,u,w,A,h⟩:=h
 exact IE rfl rfl (Br q (Rv B s) C r z A u w (g _ h))
section
variable {S:Nat} {L:List Nat} {j:Nat}
theorem po (j:Nat) {o:Oper} (q:ops[j]?=some o) (h:cv P ρ o T H λv m H'=>∃L2,Re P ops j ρ (lA ρ o.dst v) H' L L2/\bG P rd n ops k (S|||2 ^ j) L2 (lA ρ o.dst v) D m H' Q)
 (a:EM ops n S [j]=true:=by decide+kernel) (hw:want ops ρ o=true:=by rfl):bG P rd n ops k S L ρ D T H Q:=yx a q rfl hw h
theorem pO (j:Nat) {o:Oper} (q:ops[j]?=some o) (hw:want ops ρ o=true) (h:cv P ρ o T H λv m H'=>∃L2,Re P ops j ρ (lA ρ o.dst v) H' L L2/\bG P rd n ops k (S|||2 ^ j) L2 (lA ρ o.dst v) D m H' Q)
 (a:EM ops n S [j]=true:=by decide+kernel):bG P rd n ops k S L ρ D T H Q:=yx a q rfl hw h
theorem re {α:Type} {A B:α->Prop} {x:α} (a:A x) (b:B x):∃x,A x/\B x:=⟨x,a,b⟩
theorem rl {ρ2:Env} {m:PH} {x:Nat} {r L2:List Nat} (c:List Nat) (h:Re P ops j ρ ρ2 m r L2) (a:(chain ops (x::c)&&(x::c).getLast?==some j)=true:=by decide+kernel):Re P ops j ρ ρ2 m (x::r) L2:=by
 simp only[Bool.and_eq_true,beq_iff_eq] at a
 exact .inl ⟨⟨c,a.1,a.2⟩,h⟩
theorem rr {ρ2:Env} {a:PH} {x d:Nat} {o:Oper} {r m:List Nat} (s:ops[x]?=some o) (q:o.dst=some d) (t:bP P ρ2 o a (ρ d)) (h:Re P ops j ρ ρ2 a r m):Re P ops j ρ ρ2 a (x::r) (x::m):=.inr ⟨⟨o,d,s,q,t⟩,m,rfl,h⟩
end
section
variable {d:Option Nat} {ty:TypeId} {p:String} {af:Array Edge} {gu:Option (Nat×Bool)} {K:Value->PH->PH->Prop} {xs:Array Operand} {ats:Array TypeId} {f:FuncId} {vs:List Value}
theorem d1 {α:Type} {e:α->Value} {a:α->PH->Prop} (hf:Body P f) (m:dv P f vs.toArray H λv H'=>∃x,v=e x/\a x H') (o:xs.toList.map (ev ρ)=vs) (h:∀x H',a x H'->K (e x) T H'):cv P ρ ⟨d,.call ⟨.value (.func f),xs,ats⟩,ty,p,af,gu⟩ T H K:=
 rU hf o m λv H' ⟨x,ex,q⟩=>by subst ex;exact h x H' q
theorem d2 {α β:Type} {e:α->β->Value} {a:α->β->PH->Prop} (hf:Body P f) (m:dv P f vs.toArray H λv H'=>∃x y,v=e x y/\a x y H') (o:xs.toList.map (ev ρ)=vs) (h:∀x y H',a x y H'->K (e x y) T H'):cv P ρ ⟨d,.call ⟨.value (.func f),xs,ats⟩,ty,p,af,gu⟩ T H K:=
 rU hf o m λv H' ⟨x,y,ex,q⟩=>by subst ex;exact h x y H' q
theorem dS {t m:Nat} {x y:Operand} {a:Addr} {v:Value} {vs:List Value} {o:PH->Prop} (h:aX H a vs o) (q:(P.info? t).map (·.size)=some m) (B:ev ρ x= .pointer (some a)) (C:ev ρ y=v) (g:∀H',o H'->K undef T H')
 (r:v.cells=vs.toArray:=by exact rfl) (z:vs.length=m:=by exact rfl):cv P ρ ⟨d,.store t x y,ty,p,af,gu⟩ T H K:=by
 obtain⟨b,off,cs,e,s,u,w,A,h⟩:=h
 exact Br q (Rv B s) C r z A u w (g _ h)
end
end
section
variable {P:Program} {ρ:Env} {T H:PH} {d:Option Nat} {ty:TypeId} {p:String} {af:Array Edge} {g:Option (Nat×Bool)} {x:Operand}
theorem mT {a:Array Value} (h:ev ρ x= .tuple a):bP P ρ ⟨d,.move x,ty,p,af,g⟩ H (.tuple a):=lI h
end
section
variable {P:Program} {n:Nat} {ρ:Env} {D:List Deferred} {T H:PH} {k:List Item} {rd:Option Nat} {fn:Func}
theorem E1 {α:Type} {e:α->Value} {K:α->PH->Prop} {a:Tmp} {x:α} (m:fn.results= #[.tmp a]) (o:ρ a=e x) (q:K x H):Go P rd n (.code .ret::k) ρ [] PH.none H λfi ρ D h H'=>(fi= .ret∨fi= .lU)/\∃v Tg,py D h Tg/\jN P fn ρ H' v/\∃x,v=e x/\K x H':=
 .ret ⟨.inl rfl,_,_,py.nil,LL m o,x,rfl,q⟩
theorem F {f:FuncId} {c:Code} {a:Array Value} {R:Value->PH->Prop} (hf:P.funcs[f]?=some fn) (o:fn.body=some c) (q:fn.ntmps=n)
 (h:Go P Option.none n [.code c] (z9 a) [] PH.none H λfi ρ D m H'=>(fi= .ret∨fi= .lU)/\∃v Tg,py D m Tg/\jN P fn ρ H' v/\R v H') (r:Nat.ble a.size n=true:=by rfl):dv P f a H R:=
 wZ hf o q (Nat.le_of_ble_eq_true r) h
end
end Go.Kx.W
end
section
namespace Go.Kx
section
variable {α:Type} {enc:α->List Value} {sz:Nat}
def bT (enc:α->List Value) (sz:Nat) (H:PH) (s:Sl) (l:List α):Prop:=
 (s=Sl.nil/\l=[])∨∃b sp e spare,s=⟨some ⟨b,0,none⟩,l.length,l.length+sp⟩/\List.length spare=sp*sz/\H b=some (row (l.flatMap enc++spare) e)
theorem ff (a:∀x,(enc x).length=sz):∀l:List α,(l.flatMap enc).length=l.length*sz
 |[]=>by simp
 |x::l=>by
  rw[List.flatMap_cons,List.length_append,a,ff a l,List.length_cons,Nat.add_mul,Nat.one_mul,Nat.add_comm]
theorem pS {l:List α} {i:Nat} {x:α} (a:l[i]?=some x):l.flatMap enc=(l.take i).flatMap enc++enc x++(l.drop (i+1)).flatMap enc:=by
 have hi:=(List.getElem?_eq_some_iff.1 a).1
 have he:=(List.getElem?_eq_some_iff.1 a).2
 have e:l=l.take i++x::l.drop (i+1):=by
  rw[←he,List.getElem_cons_drop,List.take_append_drop]
 conv=>lhs;rw[e]
 simp[List.flatMap_append]
theorem qB (a:∀x,(enc x).length=sz) {l:List α} {i:Nat} (hi:i<=l.length):((l.take i).flatMap enc).length=i*sz:=by
 rw[ff a,List.length_take,Nat.min_eq_left hi]
theorem bT.len {H:PH} {s:Sl} {l:List α} (h:bT enc sz H s l):s.len=l.length:=by
 rcases h with⟨rfl,rfl⟩|⟨b,sp,e,spare,rfl,_⟩<;>rfl
theorem bT.bF {H:PH} {s:Sl} {l:List α} (h:bT enc sz H s l):(s.len:Int)=l.length:=by rw[h.len]
theorem bT.ext {A B:PH} {s:Sl} {l:List α} (h:bT enc sz A s l) (x:Ext A B):bT enc sz B s l:=by
 rcases h with h|⟨b,sp,e,spare,a,c,d⟩
 ·exact .inl h
 ·exact .inr ⟨b,sp,e,spare,a,c,x _ _ d⟩
theorem bT.cQ {A B:PH} {s:Sl} {l:List α} (h:bT enc sz A s l) (x:∀c o,s.has c->A c=some o->B c=some o):bT enc sz B s l:=by
 rcases h with h|⟨b,sp,e,spare,a,d,f⟩
 ·exact .inl h
 ·exact .inr ⟨b,sp,e,spare,a,d,x _ _ ⟨_,by rw[a],rfl⟩ f⟩
theorem bT.gI {H H':PH} {s:Sl} {l:List α} {e:TypeId} (h:uP H (row (l.flatMap enc) e) l.length l.length s H'):bT enc sz H' s l:=by
 obtain⟨b,a,rfl,rfl⟩:=h
 exact .inr ⟨b,0,e,[],by simp,by simp,by simp⟩
theorem bT.vE {H H':PH} {s:Sl} {l:List α} {e:TypeId} {cs:List Value} {n:Nat} (h:uP H (row cs e) n n s H') (a:cs=l.flatMap enc) (b:n=l.length):bT enc sz H' s l:=by
 subst a;subst b;exact .gI h
structure pT (enc:α->List Value) (sz:Nat) (H:PH) (s:Sl) (l:List α) (i:Nat) (x:α) (a:Addr):Prop where
 at_:∃b sp e spare,s=⟨some ⟨b,0,none⟩,l.length,l.length+sp⟩/\List.length spare=sp*sz/\H b=some (row (l.flatMap enc++spare) e)/\a=⟨b,i*sz,none⟩
 get:l[i]?=some x
theorem qv {H:PH} {s:Sl} {l:List α} {i:Int} {K:Addr->Prop} (h:bT enc sz H s l) (f:0<=i) (c:i<l.length) (k:∀a x,pT enc sz H s l i.toNat x a->K a):bX s sz i K:=by
 rcases h with⟨rfl,rfl⟩|⟨b,sp,e,spare,rfl,g,j⟩
 ·simp at c;omega
 ·have d:i.toNat<l.length:=by omega
  exact⟨_,⟨_,rfl,f,by simpa using c,rfl⟩,k _ l[i.toNat] ⟨⟨b,sp,e,spare,rfl,g,j,by rw[eW,Nat.zero_add]⟩,by simp[d]⟩⟩
theorem pT.lt {H:PH} {s:Sl} {l:List α} {i:Nat} {x:α} {a:Addr} (h:pT enc sz H s l i x a):i<l.length:=(List.getElem?_eq_some_iff.1 h.get).1
theorem pT.cells (c:∀x,(enc x).length=sz) {H:PH} {s:Sl} {l:List α} {i:Nat} {x:α} {a:Addr} (h:pT enc sz H s l i x a):bw H a sz=some (enc x):=by
 obtain⟨⟨b,sp,e,spare,rfl,k,g,rfl⟩,f⟩:=h
 have hi:=(List.getElem?_eq_some_iff.1 f).1
 have d:=pS (enc:=enc) f
 have j:=qB c (l:=l) (i:=i) (by omega)
 rw[oZ g (by
  rw[d];simp only[List.length_append,j,c];omega)]
 rw[d]
 simp only[List.append_assoc]
 rw[List.drop_append_of_le_length (by omega),List.drop_of_length_le (by omega),List.nil_append,List.take_append_of_le_length (by rw[c];omega),List.take_of_length_le (by rw[c];omega)]
theorem pT.cell (c:∀x,(enc x).length=sz) {H:PH} {s:Sl} {l:List α} {i j:Nat} {x:α} {a:Addr} {v:Value} (h:pT enc sz H s l i x a) (d:(enc x)[j]?=some v):cellAt H (a.add j)=some v:=by
 obtain⟨⟨b,sp,e,spare,rfl,o,k,rfl⟩,g⟩:=h
 have hi:=(List.getElem?_eq_some_iff.1 g).1
 have n:=pS (enc:=enc) g
 have m:=qB c (l:=l) (i:=i) (by omega)
 have f:=(List.getElem?_eq_some_iff.1 d).1
 rw[eW,vU k,n]
 simp only[List.append_assoc]
 rw[List.getElem?_append_right (by omega),m,Nat.add_sub_cancel_left,List.getElem?_append_left f,d]
theorem UP (b:∀x,(enc x).length=sz) {H:PH} {s:Sl} {l:List α} {i:Nat} {x:α} {a:Addr} {K:List Value->Prop} (h:pT enc sz H s l i x a) (c:K (enc x)):AF H a sz K:=⟨_,h.cells b,c⟩
theorem IJ (d:∀x,(enc x).length=sz) {H:PH} {s:Sl} {l:List α} {i:Nat} {x y:α} {a:Addr} {K:PH->Prop} (h:pT enc sz H s l i x a) (r:(enc y).all cI=true) (n:∀H',bT enc sz H' s (l.set i y)->vV s H H'->K H'):aX H a (enc y) K:=by
 have hi:=h.lt
 obtain⟨⟨b,sp,e,spare,rfl,k,m,rfl⟩,t⟩:=h
 have g:=pS (enc:=enc) t
 have f:=qB d (l:=l) (i:=i) (by omega)
 have hlen:i*sz+sz<=(l.flatMap enc++spare).length:=by rw[g];simp only[List.length_append,f,d];omega
 refine⟨b,i*sz,_,e,rfl,m,by rw[d];exact hlen,r,n _ (.inr ⟨b,sp,e,spare,by simp,k,?_⟩) λc o p q=>?_⟩
 ·rw[PH.dW,kF _ _ _ (by rw[d];exact hlen)]
  congr 2
  have j:(l.set i y).flatMap enc=(l.take i).flatMap enc++enc y++(l.drop (i+1)).flatMap enc:=by
   have:=pS (enc:=enc) (l:=l.set i y) (i:=i) (x:=y) (by rw[List.getElem?_set_self hi])
   rw[this,List.take_set_of_le (Nat.le_refl _),List.drop_set_of_lt (by omega)]
  rw[j,g]
  simp only[List.append_assoc]
  rw[List.take_append_of_le_length (by omega),List.take_of_length_le (by omega)]
  congr 2
  rw[d,List.drop_append,List.drop_of_length_le (by omega),List.nil_append,f,Nat.add_sub_cancel_left,List.drop_append_of_le_length (by rw[d];omega),List.drop_of_length_le (by rw[d];omega),List.nil_append]
 ·rw[PH.al _ _ (λe=>q ⟨_,rfl,e.symm⟩)];exact p
theorem Co (z:List Value):∀n:Nat,bz n z=(List.replicate n z).flatten
 | 0=>by simp[bz]
 |n+1=>by
  have c:=Co z n
  have e:bz (n+1) z=bz n z++z:=by
   by_cases b:z.length=0
   ·have:z=[]:=List.length_eq_zero_iff.1 b
    subst this;simp[bz]
   ·unfold bz
    rw[Nat.add_mul,Nat.one_mul,List.range_add,List.map_append,List.map_map]
    congr 1
    apply List.ext_getElem
    ·simp
    ·intro i d a
     have hi:i<z.length:=a
     simp[Nat.mul_add_mod,Nat.add_mod,Nat.mod_eq_of_lt hi,hi]
  rw[e,c,List.replicate_succ',List.flatten_append];simp
theorem Bw {n:Nat} {x:α}:bz n (enc x)=(List.replicate n x).flatMap enc:=by rw[Co];simp[List.flatMap_def]
theorem UQ {H:PH} {e m:Nat} {x:α} {n:Int} {K:Sl->PH->Prop} (b:0<=n) (hm:(m:Int)*n<=2 ^ 48)
 (c:∀r H',Ext H H'->jr H r->bT enc sz H' r (List.replicate n.toNat x)->K r H'):xO H e m (enc x) n n K:=by
 refine⟨⟨b,Int.le_refl _,hm⟩,λr H' a=>c r H' (.lX a) (.gI a) (bT.vE a Bw (by simp))⟩
theorem bT.cells (a:∀x,(enc x).length=sz) (g:0<sz) {H:PH} {s:Sl} {l:List α} (h:bT enc sz H s l):df H s sz=some (l.flatMap enc):=by
 unfold df
 rcases h with⟨rfl,rfl⟩|⟨b,sp,e,spare,rfl,f,d⟩
 ·simp
 ·simp only
  by_cases c:l.length=0
  ·have:l=[]:=List.length_eq_zero_iff.1 c
   subst this;simp[bw]
  ·rw[oZ d (by rw[List.length_append,ff a];omega)]
   rw[List.drop_zero,List.take_append_of_le_length (by rw[ff a];omega),List.take_of_length_le (by rw[ff a];omega)]
theorem bT.bound {H:PH} {s:Sl} {l:List α} (h:bT enc sz H s l):s.len<=s.cap:=by
 rcases h with⟨rfl,rfl⟩|⟨b,sp,e,spare,rfl,a,c⟩<;>simp
theorem Nt (d:∀x,(enc x).length=sz) (A:0<sz) {H:PH} {e m:Nat} {zs:List Value} {s x:Sl} {l ys:List α} {K:Sl->PH->Prop} (n:bT enc sz H s l) (E:df H x sz=some (ys.flatMap enc)) (f:x.len=ys.length) (i:∀y,(enc y).all cI=true) (G:zs.length=sz)
 (C:(4*(l.length+ys.length)+4096)*m<=2 ^ 48)
 (u:∀r H',bT enc sz H' r (l++ys)->vV s H H'->(∀c,r.has c->s.has c∨H c=none)->K r H'):fG H e sz m zs s x K:=by
 have q:=n.len
 refine⟨ys.flatMap enc,E,by rw[ff d,f],by simp[List.all_flatMap,i],?_⟩
 split
 ·rename_i hle
  rcases n with⟨rfl,rfl⟩|⟨b,sp,v,spare,rfl,t,w⟩
  ·have F:ys=[]:=by
    simp at hle;rw[hle] at f
    exact List.length_eq_zero_iff.1 f.symm
   subst F
   refine⟨by simp,u _ _ (.inl ⟨by simp at f;simp[f],rfl⟩) (λc o h _=>h) λc i=>?_⟩
   obtain⟨a,j,_⟩:=i;cases j
  ·simp only at hle ⊢
   have z:ys.length<=sp:=by omega
   have hmul:ys.length*sz<=sp*sz:=Nat.mul_le_mul_right _ z
   refine⟨b,0,_,v,rfl,w,?_,u _ _ (.inr ⟨b,sp-ys.length,v,spare.drop (ys.length*sz),?_,?_,?_⟩) (λc o i D=>?_) λc i=>?_⟩
   ·simp only[Nat.zero_add,List.length_append,ff d,t];omega
   ·simp[f];omega
   ·rw[List.length_drop,t,Nat.sub_mul]
   ·simp only[PH.dW,Nat.zero_add]
    rw[kF _ _ _ (by simp only[List.length_append,ff d,t];omega)]
    have e1:List.take (l.length*sz) (l.flatMap enc++spare)=l.flatMap enc:=by rw[List.take_append_of_le_length (by rw[ff d];omega),List.take_of_length_le (by rw[ff d];omega)]
    have e2:List.drop (l.length*sz+(ys.flatMap enc).length) (l.flatMap enc++spare)=spare.drop (ys.length*sz):=by
     rw[List.drop_append,List.drop_of_length_le (by rw[ff d,ff d];omega),List.nil_append,ff d,ff d,Nat.add_sub_cancel_left]
    rw[e1,e2,List.flatMap_append]
   ·rw[PH.al _ _ (λe=>D ⟨_,rfl,e.symm⟩)];exact i
   ·obtain⟨a,j,k⟩:=i;cases j;exact .inl ⟨_,rfl,k⟩
 ·refine⟨l.flatMap enc,n.cells d A,by rw[q,f];exact C,n.bound,λb c p I=>?_⟩
  refine u _ _ (.inr ⟨b,c-(s.len+x.len),e,bz (c-(s.len+x.len)) zs,?_,?_,?_⟩) (λB o g _=>?_) λB g=>?_
  ·rw[List.length_append,←q,←f];simp;omega
  ·rw[oV,G]
  ·simp
  ·rw[PH.al _ _ (λe=>by subst e;rw[p] at g;cases g)];exact g
  ·obtain⟨a,j,k⟩:=g;cases j;subst k;exact .inr p
end
end Go.Kx
end
section
namespace Go.Kx
theorem bT.dA {α:Type} {enc:α->List Value} {sz:Nat} {H:PH} {s:Sl} {l:List α} (h:bT enc sz H s l) {c:Nat} (f:s.has c):∃o,H c=some o:=by
 rcases h with⟨rfl,_⟩|⟨b,sp,e,spare,rfl,_,g⟩
 ·obtain⟨a,d,_⟩:=f;cases d
 ·obtain⟨a,d,rfl⟩:=f;cases d;exact⟨_,g⟩
theorem dE.dA {α:Type} {enc:α->Value} {H:PH} {s:Sl} {l:List α} (h:dE enc H s l) {c:Nat} (f:s.has c):∃o,H c=some o:=by
 rcases h with⟨rfl,_⟩|⟨b,sp,e,rfl,g⟩
 ·obtain⟨a,d,_⟩:=f;cases d
 ·obtain⟨a,d,rfl⟩:=f;cases d;exact⟨_,g⟩
theorem dE.cQ {α:Type} {enc:α->Value} {A B:PH} {s:Sl} {l:List α} (h:dE enc A s l) (x:∀c o,s.has c->A c=some o->B c=some o):dE enc B s l:=by
 rcases h with h|⟨b,sp,e,a,d⟩
 ·exact .inl h
 ·exact .inr ⟨b,sp,e,a,x _ _ ⟨_,by rw[a],rfl⟩ d⟩
theorem aZ.cQ {A B:PH} {a:Addr} {cs:List Value} (h:aZ A a cs) (x:∀c o,c=a.block->A c=some o->B c=some o):aZ B a cs:=
 ⟨h.1,h.2.1,let⟨e,he⟩:=h.2.2;⟨e,x _ _ rfl he⟩⟩
theorem BD {H:PH} {c:Nat} (h:∃o,H c=some o):H c≠none:=by obtain⟨o,a⟩:=h;rw[a];simp
theorem IK {H:PH} {c:Nat} (h:H c≠none):∃o,H c=some o:=by cases a:H c with
 |none=>exact absurd a h
 |some o=>exact⟨o,rfl⟩
theorem LV {c:Nat}:¬Sl.nil.has c:=λ⟨a,b,_⟩=>by cases b
structure Ob where
 pred:PH->Prop
 gW:Nat->Prop
 cQ:∀{H H':PH},pred H->(∀c o,gW c->H c=some o->H' c=some o)->pred H'
 alloc:∀{H:PH} {c:Nat},pred H->gW c->H c≠none
def Dj (A B:Ob):Prop:=∀c,A.gW c->¬B.gW c
theorem Dj.symm {A B:Ob} (h:Dj A B):Dj B A:=λc b a=>h c a b
structure aA (H:PH) (L:List Ob):Prop where
 all:∀(i:Nat) (O:Ob),L[i]?=some O->O.pred H
 dj:∀(i j:Nat) (A B:Ob),L[i]?=some A->L[j]?=some B->i≠j->Dj A B
def aC (B:PH):Ob:=⟨λH=>Ext B H,λc=>B c≠none,λh x c o a=>x c o (by rw[a];simp) (h c o a),λh a=>by
 obtain⟨o,b⟩:=IK a
 rw[h _ _ b];simp⟩
def aG (a:Addr) (cs:List Value):Ob:=⟨λH=>aZ H a cs,λc=>c=a.block,λh x=>h.cQ x,λh b=>by
 obtain⟨e,he⟩:=h.2.2
 rw[b,he];simp⟩
def aW {α:Type} (enc:α->Value) (s:Sl) (l:List α):Ob:=⟨λH=>dE enc H s l,s.has,λh x=>h.cQ x,λh a=>BD (h.dA a)⟩
def aq {α:Type} (enc:α->List Value) (sz:Nat) (s:Sl) (l:List α):Ob:=⟨λH=>bT enc sz H s l,s.has,λh x=>h.cQ x,λh a=>BD (h.dA a)⟩
section
variable {H H':PH} {L:List Ob} {O O':Ob}
theorem aA.get (h:aA H L) (i:Nat) (hi:L[i]?=some O):O.pred H:=h.all i O hi
theorem aA.base {B:PH} (h:aA H (aC B::L)):Ext B H:=h.all 0 _ rfl
theorem aA.start (H:PH):aA H [aC H]:=⟨λi O hi=>by
 cases i with
 |zero=>simp at hi;subst hi;exact Ext.refl H
 |succ i=>simp at hi,λi j A B hi c d=>by
 have a:=(List.getElem?_eq_some_iff.1 hi).1
 have b:=(List.getElem?_eq_some_iff.1 c).1
 simp at a b;omega⟩
theorem aA.dX (h:aA H L) (i:Nat) (hi:L[i]?=some O) (p:O'.pred H') (f:∀c,O'.gW c->O.gW c∨H c=none) (b:∀c o,H c=some o->¬O.gW c->H' c=some o):aA H' (L.set i O'):=by
 have t:=(List.getElem?_eq_some_iff.1 hi).1
 have key:∀(j:Nat) (A:Ob),L[j]?=some A->j≠i->A.pred H'/\Dj A O':=λj A a g=>by
  have r:=h.all j A a
  have s:=h.dj j i A O a hi g
  refine⟨A.cQ r λc o l w=>b c o w (s c l),λc l hf=>?_⟩
  rcases f c hf with q|q
  ·exact s c l q
  ·exact A.alloc r l q
 have d:∀(j:Nat) (A:Ob),(L.set i O')[j]?=some A->(j=i/\A=O')∨(j≠i/\L[j]?=some A):=λj A a=>by
  by_cases e:j=i
  ·subst e;rw[List.getElem?_set_self t] at a;exact .inl ⟨rfl,(Option.some.inj a).symm⟩
  ·rw[List.getElem?_set_ne (λh=>e h.symm)] at a;exact .inr ⟨e,a⟩
 refine⟨λj A a=>?_,λj k A B a hk g=>?_⟩
 ·rcases d j A a with⟨rfl,rfl⟩|⟨e,a⟩
  ·exact p
  ·exact(key j A a e).1
 ·rcases d j A a with⟨e,u⟩|⟨e,m⟩<;>rcases d k B hk with⟨e2,v⟩|⟨e2,n⟩
  ·exact absurd (e.trans e2.symm) g
  ·rw[u];exact(key k B n e2).2.symm
  ·rw[v];exact(key j A m e).2
  ·exact h.dj j k A B m n g
theorem aA.ext (h:aA H L) (x:Ext H H'):aA H' L:=⟨λi O hi=>O.cQ (h.all i O hi) λc o _ a=>x c o a,h.dj⟩
theorem aA.new (h:aA H L) (x:Ext H H') (p:O'.pred H') (f:∀c,O'.gW c->H c=none):aA H' (L++[O']):=by
 have b:∀(j:Nat) (A:Ob),(L++[O'])[j]?=some A->(j=L.length/\A=O')∨(j≠L.length/\L[j]?=some A):=λj A a=>by
  by_cases e:j<L.length
  ·rw[List.getElem?_append_left e] at a;exact .inr ⟨by omega,a⟩
  ·rw[List.getElem?_append_right (by omega)] at a
   have:=(List.getElem?_eq_some_iff.1 a).1
   simp at this
   have m:j-L.length=0:=by omega
   rw[m] at a;simp at a
   exact .inl ⟨by omega,a.symm⟩
 have key:∀(j:Nat) (A:Ob),L[j]?=some A->Dj A O':=λj A a c l hf=>A.alloc (h.all j A a) l (f c hf)
 refine⟨λj A a=>?_,λj k A B a hk i=>?_⟩
 ·rcases b j A a with⟨rfl,rfl⟩|⟨e,a⟩
  ·exact p
  ·exact A.cQ (h.all j A a) λc o _ l=>x c o l
 ·rcases b j A a with⟨e,n⟩|⟨e,d⟩<;>rcases b k B hk with⟨e2,q⟩|⟨e2,g⟩
  ·exact absurd (e.trans e2.symm) i
  ·rw[n];exact(key k B g).symm
  ·rw[q];exact key j A d
  ·exact h.dj j k A B d g i
theorem aA.pick (h:aA H L) (is:List Nat) (g:is.Nodup) {L':List Ob} (m:L'=is.filterMap λi=>L[i]?) (b:is.all (λi=>decide (i<L.length))=true):aA H L':=by
 have hlen:L'.length=is.length:=by
  subst m
  clear g
  induction is with
  |nil=>rfl
  |cons i is l=>
   simp only[List.all_cons,Bool.and_eq_true,decide_eq_true_eq] at b
   rw[List.filterMap_cons,List.getElem?_eq_getElem b.1]
   simp[l b.2]
 have c:∀(k:Nat) (A:Ob),L'[k]?=some A->∃i,is[k]?=some i/\L[i]?=some A:=by
  subst m
  clear g hlen
  induction is with
  |nil=>intro k A hk;simp at hk
  |cons i is l=>
   simp only[List.all_cons,Bool.and_eq_true,decide_eq_true_eq] at b
   intro k A hk
   rw[List.filterMap_cons,List.getElem?_eq_getElem b.1] at hk
   cases k with
   |zero=>simp at hk;exact⟨i,rfl,by rw[List.getElem?_eq_getElem b.1,hk]⟩
   |succ k=>simp at hk;obtain⟨t,d,f⟩:=l b.2 k A (by simpa using hk);exact⟨t,by simpa using d,f⟩
 refine⟨λk A hk=>let⟨i,_,hi⟩:=c k A hk;h.all i A hi,λj k A B s hk n=>?_⟩
 obtain⟨i1,a1,p⟩:=c j A s
 obtain⟨i2,q,r⟩:=c k B hk
 refine h.dj i1 i2 A B p r λe=>n ?_
 subst e
 obtain⟨l1,d⟩:=(List.getElem?_eq_some_iff.1 a1)
 obtain⟨l2,f⟩:=(List.getElem?_eq_some_iff.1 q)
 have o:=List.pairwise_iff_getElem.1 g
 rcases Nat.lt_trichotomy j k with a|a|a
 ·exact absurd (d.trans f.symm) (o j k l1 l2 a)
 ·exact a
 ·exact absurd (f.trans d.symm) (o k j l2 l1 a)
theorem aA.init (h:aA H (L++[O])):aA H L:=⟨λi A hi=>h.all i A (by rw[List.getElem?_append_left (List.getElem?_eq_some_iff.1 hi).1];exact hi),λi j A B hi a b=>
 h.dj i j A B (by rw[List.getElem?_append_left (List.getElem?_eq_some_iff.1 hi).1];exact hi) (by rw[List.getElem?_append_left (List.getElem?_eq_some_iff.1 a).1];exact a) b⟩
theorem aA.tJ {B a:PH} (h:aA H (aC a::L)) (x:Ext B a):aA H (aC B::L):=by
 have key:∀c,(aC B).gW c->(aC a).gW c:=λc b=>by
  obtain⟨o,f⟩:=IK b
  show a c≠none
  rw[x c o f];simp
 refine⟨λi A hi=>?_,λi j A C hi d e=>?_⟩
 ·cases i with
  |zero=>simp at hi;subst hi;exact x.trans h.base
  |succ i=>exact h.all (i+1) A (by simpa using hi)
 ·cases i with
  |zero=>
   simp at hi;subst hi
   cases j with
   |zero=>exact absurd rfl e
   |succ j=>exactλc b=>h.dj 0 (j+1) (aC a) C rfl (by simpa using d) (by omega) c (key c b)
  |succ i=>
   cases j with
   |zero=>simp at d;subst d;exactλc b hf=>h.dj (i+1) 0 A (aC a) (by simpa using hi) rfl (by omega) c b (key c hf)
   |succ j=>exact h.dj (i+1) (j+1) A C (by simpa using hi) (by simpa using d) e
open Classical in
theorem aA.freeze {B:PH} (h:aA H (aC B::L++[O])):∃k,Ext B k/\O.pred k/\aA H (aC k::L):=by
 have p:Ext B H:=h.all 0 _ rfl
 have n:O.pred H:=h.all (L.length+1) O (by simp)
 refine⟨λc=>if B c≠none∨O.gW c then H c else none,λc o a=>?_,O.cQ n λc o a q=>?_,?_⟩
 ·show(if B c≠none∨O.gW c then H c else none)=some o
  rw[if_pos (.inl (by rw[a];simp))];exact p c o a
 ·show(if B c≠none∨O.gW c then H c else none)=some o
  rw[if_pos (.inr a)];exact q
 ·have hi:=h.init
  have m:∀c,(aC λc=>if B c≠none∨O.gW c then H c else none).gW c->(aC B).gW c∨O.gW c:=λc a=>by
   by_cases e:B c≠none∨O.gW c
   ·exact e
   ·exact absurd (if_neg e) a
  have key:∀(j:Nat) (A:Ob),L[j]?=some A->Dj (aC λc=>if B c≠none∨O.gW c then H c else none) A:=λj A d c a hf=>by
   have f:(aC B::L++[O])[j+1]?=some A:=by
    have:=(List.getElem?_eq_some_iff.1 d).1
    simp[List.getElem?_append_left this,d]
   rcases m c a with l|l
   ·exact h.dj 0 (j+1) _ _ rfl f (by omega) c l hf
   ·have:=(List.getElem?_eq_some_iff.1 d).1
    exact h.dj (L.length+1) (j+1) O A (by simp) f (by omega) c l hf
  refine⟨λi A b=>?_,λi j A C b d g=>?_⟩
  ·cases i with
   |zero=>
    simp at b;subst b
    intro c o a
    replace a:(if B c≠none∨O.gW c then H c else none)=some o:=a
    by_cases e:B c≠none∨O.gW c
    ·rw[if_pos e] at a;exact a
    ·rw[if_neg e] at a;cases a
   |succ i=>exact hi.all (i+1) A (by simpa using b)
  ·cases i with
   |zero=>
    simp at b;subst b
    cases j with
    |zero=>exact absurd rfl g
    |succ j=>exact key j C (by simpa using d)
   |succ i=>
    cases j with
    |zero=>simp at d;subst d;exact(key i A (by simpa using b)).symm
    |succ j=>exact hi.dj (i+1) (j+1) A C (by simpa using b) (by simpa using d) g
theorem kV {cs:List Value} {e:TypeId} {K:Addr->PH->Prop} (h:aA H L) (b:∀a H',aA H' (L++[aG a cs])->Ext H H'->K a H'):ag H (row cs e) K:=
 jf λa H' x r f=>b a H' (h.new (O':=aG a cs) x r λc d=>by rw[show c=a.block from d];exact f) x
theorem cB {a:Addr} {cs:List Value} {j:Nat} {v:Value} {K:PH->Prop} (h:aA H L) (i:Nat) (hi:L[i]?=some (aG a cs)) (e:j<cs.length) (g:cI v=true) (d:∀H',aA H' (L.set i (aG a (cs.set j v)))->K H'):aX H (a.add j) [v] K:=
 tI (h.get i hi) e g λH' r k=>d H' (h.dX (O':=aG a (cs.set j v)) i hi r (λc b=>.inl b) λc o b f=>k c o b f)
theorem hC {a:Addr} {v0 v:Value} {K:PH->Prop} (h:aA H L) (i:Nat) (hi:L[i]?=some (aG a [v0])) (f:cI v=true) (d:∀H',aA H' (L.set i (aG a [v]))->K H'):aX H a [v] K:=
 sO (h.get i hi) rfl (by simp[f]) λH' r k=>d H' (h.dX (O':=aG a [v]) i hi r (λc b=>.inl b) λc o b e=>k c o b e)
theorem dO {α:Type} {enc:α->Value} {a:Addr} {x:α} {K:α->Prop} (h:aA H L) (i:Nat) (hi:L[i]?=some (aG a [enc x])) (c:K x):aH enc H a K:=by
 have:=(h.get i hi)
 have b:cellAt H (a.add 0)=some (enc x):=this.cell rfl
 rw[add_zero'] at b
 exact⟨x,b,c⟩
theorem aY {α:Type} {enc:α->Value} {a:Addr} {cs:List Value} {j:Nat} {x:α} {K:α->Prop} (h:aA H L) (i:Nat) (hi:L[i]?=some (aG a cs)) (c:cs[j]?=some (enc x)) (b:K x):aH enc H (a.add j) K:=aa (h.get i hi) c b
variable {α:Type} {enc:α->Value}
theorem SB {e m:Nat} {x:α} {n:Int} {K:Sl->PH->Prop} (h:aA H L) (b:0<=n) (hm:(m:Int)*n<=2 ^ 48)
 (c:∀r H',aA H' (L++[aW enc r (List.replicate n.toNat x)])->Ext H H'->K r H'):xO H e m [enc x] n n K:=
 Ry b hm λr H' a o v=>c r H' (h.new (O':=aW enc r (List.replicate n.toNat x)) a v o) a
theorem tf {s:Sl} {l:List α} {j:Int} {x:α} {K:PH->Prop} (h:aA H L) (i:Nat) (hi:L[i]?=some (aW enc s l)) (d:0<=j) (e:j<l.length) (b:cI (enc x)=true)
 (f:∀H',aA H' (L.set i (aW enc s (l.set j.toNat x)))->K H'):bX s 1 j λa=>aX H a [enc x] K:=
 QL (h.get i hi) d e b λH' v k=>f H' (h.dX (O':=aW enc s (l.set j.toNat x)) i hi v (λc b=>.inl b) λc o b g=>k c o b g)
theorem qY {e m:Nat} {zs:List Value} {s x:Sl} {l ys:List α} {K:Sl->PH->Prop} (h:aA H L) (i:Nat) (hi:L[i]?=some (aW enc s l)) (g:b9 enc H x ys) (a:∀y,cI (enc y)=true) (j:zs.length=1)
 (d:(4*(l.length+ys.length)+4096)*m<=2 ^ 48) (b:∀r H',aA H' (L.set i (aW enc r (l++ys)))->K r H'):fG H e 1 m zs s x K:=
 Dn (h.get i hi) g a j d λr H' v k n=>b r H' (h.dX (O':=aW enc r (l++ys)) i hi v n λc o a f=>k c o a f)
theorem aA.AJ (h:aA H L):aA H (L++[aW enc Sl.nil ([]:List α)]):=h.new (O':=aW enc Sl.nil ([]:List α)) (.refl H) (.inl ⟨rfl,rfl⟩) λc a=>absurd a LV
theorem aA.list {s:Sl} {l:List α} (h:aA H L) (i:Nat) (hi:L[i]?=some (aW enc s l)):b9 enc H s l:=dE.list (h.get i hi)
theorem aA.aQ {N:List Ob} (h:aA H L) (k:aA H' (aC H::N)):aA H' (L++N):=by
 have x:Ext H H':=k.base
 have key:∀(i j:Nat) (A B:Ob),L[i]?=some A->N[j]?=some B->Dj A B:=λi j A B hi a c d hf=>
  k.dj 0 (j+1) (aC H) B rfl (by simpa using a) (by omega) c (A.alloc (h.all i A hi) d) hf
 have b:∀(j:Nat) (A:Ob),(L++N)[j]?=some A->(j<L.length/\L[j]?=some A)∨(L.length<=j/\N[j-L.length]?=some A):=λj A a=>by
  by_cases e:j<L.length
  ·rw[List.getElem?_append_left e] at a;exact .inl ⟨e,a⟩
  ·rw[List.getElem?_append_right (by omega)] at a;exact .inr ⟨by omega,a⟩
 refine⟨λj A a=>?_,λi j A B hi a f=>?_⟩
 ·rcases b j A a with⟨_,a⟩|⟨_,a⟩
  ·exact A.cQ (h.all j A a) λc o _ d=>x c o d
  ·exact k.all (j-L.length+1) A (by simpa using a)
 ·rcases b i A hi with⟨e1,hi⟩|⟨e1,hi⟩<;>rcases b j B a with⟨e2,a⟩|⟨e2,a⟩
  ·exact h.dj i j A B hi a f
  ·exact key i _ A B hi a
  ·exact(key j _ B A a hi).symm
  ·exact k.dj (i-L.length+1) (j-L.length+1) A B (by simpa using hi) (by simpa using a) (by omega)
theorem aA.zE {a:Addr} {v:Value} (h:aA H L) (i:Nat) (hi:L[i]?=some (aG a [v])):cellAt H a=some v:=by
 have b:cellAt H (a.add 0)=some v:=(h.get i hi:aZ H a [v]).cell rfl
 rwa[add_zero'] at b
theorem Cp {x:α} {e:TypeId} {K:Sl->PH->Prop} (h:aA H L) (b:∀r H',aA H' (L++[aW enc r [x]])->Ext H H'->K r H'):bV H (row [enc x] e) 1 K:=by
 intro r H' a
 exact b r H' (h.new (O':=aW enc r [x]) (.lX a) (dE.gI (l:=[x]) (e:=e) a) (jr.gI a)) (.lX a)
def tg (N:List Ob):Ob:=⟨λH=>aA H N,λc=>∃(i:Nat) (O:Ob),N[i]?=some O/\O.gW c,
 λh x=>⟨λi O hi=>O.cQ (h.all i O hi) λc o a=>x c o ⟨i,O,hi,a⟩,h.dj⟩,λh ⟨i,O,hi,a⟩=>O.alloc (h.all i O hi) a⟩
theorem aA.LW {N:List Ob} (h:aA H (L++N)):aA H (L++[tg N]):=by
 have g:∀(i:Nat) (O:Ob),N[i]?=some O->(L++N)[L.length+i]?=some O:=λi O hi=>by rw[List.getElem?_append_right (by omega),Nat.add_sub_cancel_left];exact hi
 have f:∀(i:Nat) (O:Ob),L[i]?=some O->(L++N)[i]?=some O:=λi O hi=>by rw[List.getElem?_append_left (List.getElem?_eq_some_iff.1 hi).1];exact hi
 have s:aA H N:=⟨λi O hi=>h.all _ O (g i O hi),λi j A B hi a d=>h.dj _ _ A B (g i A hi) (g j B a) (by omega)⟩
 have b:∀(j:Nat) (A:Ob),(L++[tg N])[j]?=some A->(j=L.length/\A=tg N)∨(j<L.length/\L[j]?=some A):=λj A a=>by
  by_cases e:j<L.length
  ·rw[List.getElem?_append_left e] at a;exact .inr ⟨e,a⟩
  ·rw[List.getElem?_append_right (by omega)] at a
   have:=(List.getElem?_eq_some_iff.1 a).1
   simp at this
   have n:j-L.length=0:=by omega
   rw[n] at a;simp at a
   exact .inl ⟨by omega,a.symm⟩
 have key:∀(j:Nat) (A:Ob),j<L.length->L[j]?=some A->Dj A (tg N):=λj A t a c q ⟨i,O,hi,r⟩=>h.dj j (L.length+i) A O (f j A a) (g i O hi) (by omega) c q r
 refine⟨λj A a=>?_,λj k A B a hk d=>?_⟩
 ·rcases b j A a with⟨rfl,rfl⟩|⟨e,a⟩
  ·exact s
  ·exact h.all j A (f j A a)
 ·rcases b j A a with⟨e,o⟩|⟨e,l⟩<;>rcases b k B hk with⟨e2,p⟩|⟨e2,m⟩
  ·exact absurd (e.trans e2.symm) d
  ·rw[o];exact(key k B e2 m).symm
  ·rw[p];exact key j A e l
  ·exact h.dj j k A B (f j A l) (f k B m) d
end
end Go.Kx
end
section
namespace Go.Kx
theorem pF {σ:Type} {k:σ->PH->Prop} {body:(σ->PH->Prop)->Prop} (C:σ->PH->Prop) (b:∀s H,C s H->k s H) (c:∀a:σ->PH->Prop,(∀s H,C s H->a s H)->body a):aM k body:=c k b
section
variable {α:Type} {enc:α->Value} {H:PH} {L:List Ob}
theorem IL {s:Sl} {l:List α} {lo hi:Int} {K:Sl->Prop} (h:dE enc H s l) (b:0<=lo) (c:lo<=hi) (d:hi<=l.length)
 (e:b9 enc H (s.cut 1 lo.toNat hi.toNat) ((l.drop lo.toNat).take (hi.toNat-lo.toNat))->K (s.cut 1 lo.toNat hi.toNat)):kG s 1 lo hi K:=by
 have g:=h.list.1
 have f:=h.list.2.1
 refine⟨_,⟨b,c,by omega,f,rfl⟩,e ?_⟩
 obtain⟨r,⟨_,_,_,_,rfl⟩,a⟩:=ni (K:=λr=>b9 enc H r ((l.drop lo.toNat).take (hi.toNat-lo.toNat))) h.list b c d λr a _=>a
 exact a
theorem Nu {s x:Sl} {l ys:List α} {lo hi:Nat} {K:Int->PH->Prop} (q:dE enc H s l) (v:lo<=hi) (k:hi<=l.length) (f:b9 enc H x ys) (r:∀y,cI (enc y)=true)
 (m:∀H',dE enc H' s (l.take lo++ys.take (hi-lo)++l.drop (lo+min ys.length (hi-lo)))->vV s H H'->K (min ys.length (hi-lo):Nat) H'):mZ H 1 (s.cut 1 lo hi) x K:=by
 have w:=q.list.1
 have u:=f.1
 have d:b9 enc H ⟨x.a,min x.len (s.cut 1 lo hi).len,x.cap⟩ (ys.take (hi-lo)):=by
  refine⟨by simp only[Sl.cut,List.length_take];omega,by have:=f.2.1;simp only[Sl.cut];omega,λi y hi=>?_⟩
  rw[List.getElem?_take] at hi
  split at hi
  ·exact f.2.2 i y hi
  ·cases hi
 refine⟨(ys.take (hi-lo)).map enc,d.cells,EO r _,?_⟩
 have el:min x.len (s.cut 1 lo hi).len=min ys.length (hi-lo):=by simp only[Sl.cut];omega
 rw[el]
 rcases q with⟨rfl,rfl⟩|⟨b,sp,e,rfl,n⟩
 ·simp at k
  subst k
  have:lo=0:=by omega
  subst this
  exact m H (.inl ⟨rfl,by simp⟩) λc o h _=>h
 ·have key:∀cs',cs'=(l.take lo++ys.take (hi-lo)++l.drop (lo+min ys.length (hi-lo))).map enc++sp->K (min ys.length (hi-lo):Nat) (H.bL b (row cs' e)):=by
   rintro cs' rfl
   refine m _ (.inr ⟨b,sp,e,?_,by simp only[PH.dW]⟩) λc o p t=>?_
   ·simp;omega
   ·rw[PH.al _ _ (λe=>t ⟨_,rfl,e.symm⟩)];exact p
  simp only[Sl.cut]
  by_cases j:l.length+sp.length=lo
  ·have g:hi-lo=0:=by omega
   rw[if_pos j]
   refine⟨b,0,_,e,rfl,n,by simp[g],key _ ?_⟩
   have:sp=[]:=List.length_eq_zero_iff.1 (by omega)
   subst this
   simp[g,putAt]
  ·rw[if_neg j]
   refine⟨b,lo,_,e,by simp[eW],n,by simp;omega,key _ ?_⟩
   rw[kF _ _ _ (by simp;omega),List.length_map,List.length_take,List.take_append_of_le_length (by simp;omega),List.drop_append_of_le_length (by simp;omega)]
   simp only[List.map_append,List.map_take,List.map_drop,List.append_assoc]
   rw[Nat.min_comm (hi-lo)]
theorem LX {s:Sl} {l:List α} {x:α} {K:PH->Prop} (j:dE enc H s l) (a:∀H',dE enc H' s (List.replicate l.length x)->vV s H H'->K H'):yP H 1 [enc x] s K:=by
 rcases j with⟨rfl,rfl⟩|⟨b,sp,e,rfl,f⟩
 ·exact .inl ⟨rfl,a H (.inl ⟨rfl,rfl⟩) λc o h _=>h⟩
 ·by_cases d:l.length=0
  ·have:l=[]:=List.length_eq_zero_iff.1 d
   subst this
   exact .inl ⟨rfl,a H (.inr ⟨b,sp,e,rfl,f⟩) λc o h _=>h⟩
  ·refine .inr (.inr ⟨d,b,0,_,e,rfl,f,by simp,a _ (.inr ⟨b,sp,e,by simp,?_⟩) λc o g i=>?_⟩)
   ·simp only[PH.dW]
    rw[kF _ _ _ (by rw[uz];simp),uz]
    simp
   ·rw[PH.al _ _ (λe=>i ⟨_,rfl,e.symm⟩)];exact g
theorem Ja {s:Sl} {l:List α} {lo hi:Int} {K:Sl->Prop} (h:aA H L) (i:Nat) (a:L[i]?=some (aW enc s l)) (b:0<=lo) (c:lo<=hi) (d:hi<=l.length)
 (e:b9 enc H (s.cut 1 lo.toNat hi.toNat) ((l.drop lo.toNat).take (hi.toNat-lo.toNat))->K (s.cut 1 lo.toNat hi.toNat)):kG s 1 lo hi K:=IL (h.get i a) b c d e
theorem AK {s x:Sl} {l ys:List α} {lo hi:Nat} {K:Int->PH->Prop} (h:aA H L) (i:Nat) (b:L[i]?=some (aW enc s l)) (d:lo<=hi) (e:hi<=l.length) (j:b9 enc H x ys) (a:∀y,cI (enc y)=true)
 (f:∀H',aA H' (L.set i (aW enc s (l.take lo++ys.take (hi-lo)++l.drop (lo+min ys.length (hi-lo)))))->K (min ys.length (hi-lo):Nat) H'):mZ H 1 (s.cut 1 lo hi) x K:=
 Nu (h.get i b) d e j a λH' v k=>f H' (h.dX (O':=aW enc s _) i b v (λc a=>.inl a) λc o a g=>k c o a g)
theorem IM {s:Sl} {l:List α} {x:α} {K:PH->Prop} (h:aA H L) (i:Nat) (hi:L[i]?=some (aW enc s l)) (b:∀H',aA H' (L.set i (aW enc s (List.replicate l.length x)))->K H'):yP H 1 [enc x] s K:=
 LX (h.get i hi) λH' v k=>b H' (h.dX (O':=aW enc s (List.replicate l.length x)) i hi v (λc a=>.inl a) λc o a d=>k c o a d)
theorem Nv {l:List α} {n k:Nat} {x:α} {z:List α} (hk:k<n) (a:l=List.replicate k x++z) (b:z.length=n-k):
 l.take k++(l.take k).take (n-k)++l.drop (k+min (l.take k).length (n-k))=List.replicate (k+min k (n-k)) x++z.drop (min k (n-k)):=by
 subst a
 have e1:(List.replicate k x++z).take k=List.replicate k x:=by rw[List.take_append_of_le_length (by simp),List.take_of_length_le (by simp)]
 rw[e1,List.length_replicate,List.take_replicate,List.replicate_append_replicate,List.drop_append,List.drop_of_length_le (by simp),List.nil_append,List.length_replicate,Nat.add_sub_cancel_left,Nat.min_comm (n-k)]
theorem QO {s x:Sl} {l ys:List α} {K:Int->PH->Prop} (h:aA H L) (i:Nat) (hi:L[i]?=some (aW enc s l)) (e:b9 enc H x ys) (a:∀y,cI (enc y)=true)
 (b:∀H',aA H' (L.set i (aW enc s (ys.take l.length++l.drop ys.length)))->K (min ys.length l.length:Nat) H'):mZ H 1 s x K:=
 Nn (h.get i hi) e a λH' v k=>b H' (h.dX (O':=aW enc s (ys.take l.length++l.drop ys.length)) i hi v (λc a=>.inl a) λc o a d=>k c o a d)
theorem Cq {e:TypeId} {x:α} {n:Int} {K:Sl->PH->Prop} (h:aA H L) (b:∀r H',aA H' (L++[aW enc r (List.replicate n.toNat x)])->Ext H H'->K r H'):mC H (row (bz n.toNat [enc x]) e) n n K:=by
 intro r H' a
 have e1:bz n.toNat [enc x]=(List.replicate n.toNat x).map enc:=by rw[uz,List.map_replicate]
 rw[e1] at a
 exact b r H' (h.new (O':=aW enc r (List.replicate n.toNat x)) (.lX a) (dE.gI (l:=List.replicate n.toNat x) (e:=e) (by simpa using a)) (jr.gI a)) (.lX a)
theorem zF {s:Sl} {l:List α} {e m g:Nat} {zs:List Value} {K:Sl->PH->Prop} (i:b9 enc H s l) (t:∀y,cI (enc y)=true) (u:zs.length=1) (q:(4*l.length+4096)*m<=2 ^ 48)
 (h:∀r H',aA H' [aC H,aW enc r l]->K r H'):aJ (Option.isNone s.a) (K Sl.nil H) (bV H (row [] g) 0 λd f=>fG f e 1 m zs d s K):=by
 refine aL (λc=>?_) (λ_ d f b=>?_)
 ·have:l=[]:=by
   cases l with
   |nil=>rfl
   |cons x l=>
    obtain⟨a,p,_⟩:=i.2.2 0 x rfl
    rw[p] at c;cases c
  subst this
  exact h Sl.nil H (aA.start H).AJ
 ·have j:=Ext.lX b
  have n:=(aA.start H).new (O':=aW enc d ([]:List α)) j (dE.gI (l:=([]:List α)) (e:=g) b) (jr.gI b)
  exact qY (l:=[]) (ys:=l) n 1 rfl (i.ext j) t u (by simpa using q) λr k o=>h r k o
end
end Go.Kx
end
section
namespace Go.Kx
open Go.ChangeShapes Go.WideShapes Go.ChangeAt Go.RowKit
def th (W:World):PH:=λb=>W.heap[b]?
theorem Jb (W:World):iG (th W) PH.none W:=⟨λ_ _ h=>h,λ_ _ h=>(by cases h),λ_=>.inr rfl⟩
theorem E4 (W:World) (a:Addr):cellAt (th W) a=W.cell? a:=rfl
def Ur (H:PH) (r:Bool) (H':PH):Prop:=r=true/\Ext H H'
theorem Nw {W b:World} {H' c:PH} (a:Fr (th W) PH.none W H' c b) (d:Ext (th W) H'):Below W.heap.size W b:=
 ⟨a.os,a.tape,a.output,a.size,λk hk=>by
  have:W.heap[k]?=some W.heap[k]:=Array.getElem?_eq_getElem hk
  rw[this];exact a.own.sub k _ (d k _ this)⟩
theorem Jc {P:Program} {f:FuncId} {args:Array Value} {W:World} (h:dv P f args (th W) λv H'=>∃r,v= .bool r/\Ur (th W) r H'):
 Calls P f args W λe a=>e= .returned (.bool true)/\Below W.heap.size W a:=
 (h W (Jb W)).mono λe a ⟨v,H',b,c,r,d,g,i⟩=>⟨by rw[b,d,g],Nw c i⟩
section
variable {H:Type} {enc:TypeId×Value->H} {P:Program}
theorem zv (i:laidOutB P=true) {W f:World} (g:Below W.heap.size W f):∀(ts:List TypeId) (vs:List Value) (ds:List (DataW H)) (ps:List MemPlace),ts.all (λt=>P.readableRec t&&decide (t<P.types.size))=true->
 DataW.TrodAll enc P W 0 (λ_=>true) true ts vs ds ps->(∀x∈ps,x.block<W.heap.size)->∀sp:Nat->Bool,(∀x∈ps,sp x.block=true)->DataW.TrodAll enc P f 0 sp true ts vs ds ps
 |[],[],[],ps,_,h,_,sp,_=>h
 |t::ts,v::vs,d::ds,ps,b,h,c,sp,e=>by
  obtain⟨p,q,j,k,rfl⟩:=h
  simp only[List.all_cons,Bool.and_eq_true,decide_eq_true_eq] at b
  refine⟨p,q,WideElems.Trod_stays i b.1.1 b.1.2 j (λx a=>g.same (c x (by simp[a]))) (λx a=>e x (by simp[a])),zv i g ts vs ds q b.2 k (λx a=>c x (by simp[a])) sp (λx a=>e x (by simp[a])),rfl⟩
 |[],[],_::_,_,_,h,_,_,_=>h.elim
 |[],_::_,_,_,_,h,_,_,_=>h.elim
 |_::_,[],_,_,_,h,_,_,_=>h.elim
 |_::_,_::_,[],_,_,h,_,_,_=>h.elim
theorem Nx {f:Func} {s:ChangeSpec} {apart fresh handsOn again:Bool} {W e:World} {args:Array Value} {ds gs:List (DataW H)} {before:List MemPlace} {tb:TypeId}
 (E:laidOutB P=true) (z:f.params.toList.all (λt=>P.readableRec t&&decide (t<P.types.size))=true) (m:f.resultTypes= #[tb]) (n:P.underlying tb=some .bool)
 (d:s.vars=[]) (g:(s.fn H (ds++gs)).results=[.lit (.bool true)]/\(s.fn H (ds++gs)).args=ds/\(s.fn H (ds++gs)).vars=[])
 (r:DataW.Whole enc P f.params.toList s.vars apart W args.toList ds gs before) (u:Below W.heap.size W e):
 s.post enc P f apart fresh handsOn again W args (.bool true) e:=by
 have k:=r
 have c:∀p∈before,p.block<W.heap.size:=λp h=>r.lt p h
 have hold:∀p∈before,(λb=>decide (b<W.heap.size)) p.block=true:=λp h=>by simpa using c p h
 obtain⟨p,q,C,v,rfl,B,y⟩:=r
 have F:q=[]:=by rw[d] at v;exact(trodVars_none v).2
 subst F
 rw[List.append_nil] at c hold B y k
 have a:∀sp:Nat->Bool,(∀x∈p,sp x.block=true)->DataW.TrodAll enc P e 0 sp true f.params.toList args.toList (s.fn H (ds++gs)).args p:=λsp A=>by
  rw[g.2.1];exact zv E u _ _ _ _ z C c sp A
 have i:∀(b:Nat) (sp:Nat->Bool) (w:Bool),DataW.TrodAll enc P e b sp w f.resultTypes.toList ((Value.bool true).resultList f.resultTypes.size) (s.fn H (ds++gs)).results []:=λb sp w=>by
  rw[g.1,m];exact trodAll_cons_mk (shut_bool n true) trodAll_mk0
 have o:∀sp:Nat->Bool,DataW.TrodVars enc P e sp s.vars (s.fn H (ds++gs)).vars []:=λsp=>by rw[d,g.2.2];rfl
 refine⟨ds,gs,p,[],p,[],by simpa using k,i _ _ _,a _ hold,o _,World.keptBut_mono (λx j=>⟨j,?_⟩) (u.frame (· ∈p)),λ_=>?_⟩
 ·simpa using j
 ·refine⟨ok_one m rfl (okWide_bool_mk n true),_,_,([]++p)++[],⟨[]++p,[],trodAll_append (a _ (λ_ _=>rfl)) (i _ _ _),o _,rfl,?_,?_⟩,?_⟩
  ·intro b off h
   have l:MemPlace.cell b off∈p:=by simpa using h
   rw[u.frozen (c _ l)]
   exact B b off l
  ·intro D;have:=y D;simpa using this
  ·intro x j _;simpa using j
theorem ER {W:World} {a:Addr} {v:Value} (h:W.cell? a=some v):a.spot=none:=by
 unfold World.cell? at h
 split at h
 ·cases b:a.spot with
  |none=>rfl
  |some x=>rw[b] at h;simp at h
 ·cases h
theorem Dq {α:Type} {p:Nat->α->Prop}:∀n:Nat,(∀i,i<n->∃a,p i a)->∃l:List α,l.length=n/\∀i a,l[i]?=some a->p i a
 | 0,_=>⟨[],rfl,λi a h=>by simp at h⟩
 |n+1,h=>by
  obtain⟨l,f,g⟩:=Dq n λi hi=>h i (by omega)
  obtain⟨a,e⟩:=h n (by omega)
  refine⟨l++[a],by simp[f],λi b c=>?_⟩
  by_cases hi:i<l.length
  ·rw[List.getElem?_append_left hi] at c;exact g i b c
  ·rw[List.getElem?_append_right (by omega)] at c
   have d:i-l.length=0:=by
    have:=(List.getElem?_eq_some_iff.1 c).1
    simp at this;omega
   rw[d] at c;simp at c;subst c
   have:i=n:=by omega
   rw[this];exact e
def IN {α:Type} (H:Type) (b:α->Value) (R:α->DataW H->Prop) (W:World) (s:Sl) (l:List α) (d:DataW H):Prop:=
 b9 b (th W) s l/\s.cap<=maxLen/\((d= .nil/\l=[])∨∃ds sp,d= .slice ds sp/\ds.length=l.length/\∀(i:Nat) (a:α) (x:DataW H),l[i]?=some a->ds[i]?=some x->R a x)
theorem Ny {α:Type} {b:α->Value} {R:α->DataW H->Prop} {t e fuel:Nat} {W:World} {cs:List Value} {d:DataW H} {ps:List MemPlace} (hu:P.underlying t=some (.slice e)) (z:P.cellsOf e=1)
 (r:∀n v x p,DataW.trod enc P W 0 (λ_=>true) true n e [v]=some (x,p)->∃a,v=b a/\R a x)
 (h:DataW.trod enc P W 0 (λ_=>true) true fuel t cs=some (d,ps)):∃s l,cs=[Sl.v s]/\IN H b R W s l d:=by
 rcases Go.Deep.open_slice1 hu z h with⟨k,y⟩|⟨a,len,cap,m,n,V,D,Pl,k,_,hle,q,hm,A,c⟩
 ·refine⟨Sl.nil,[],k,.nil,by simp,.inl ⟨by simpa using congrArg Prod.fst y,rfl⟩⟩
 ·simp only[if_true] at hm;subst hm
  obtain⟨l,u,w⟩:=Dq (p:=λi (g:α)=>V i=b g/\R g (D i)) len λi hi=>r n (V i) (D i) (Pl i) (c i (by omega)).2
  refine⟨⟨some a,len,m⟩,l,k,⟨u.symm,hle,λi x hi=>⟨a,rfl,?_,?_⟩⟩,q,.inr ⟨_,_,by simpa using congrArg Prod.fst A,by simp[u],λi g x hi f=>?_⟩⟩
  ·have j:=(List.getElem?_eq_some_iff.1 hi).1
   have o:=(c 0 (by omega)).1
   rw[add_zero'] at o
   exact ER o
  ·have j:=(List.getElem?_eq_some_iff.1 hi).1
   rw[E4,(c i (by omega)).1,(w i x hi).1]
  ·have j:=(List.getElem?_eq_some_iff.1 hi).1
   rw[List.getElem?_map,List.getElem?_range (by omega)] at f
   simp at f;subst f
   exact(w i g hi).2
def PG (H:Type) (k:IntKind) (a:Int) (d:DataW H):Prop:=d= .lit (.int k a)/\(Lit.int k a).wf=true
theorem SC {e n:Nat} {k:IntKind} {W:World} {v:Value} {x:DataW H} {p:List MemPlace} (he:P.underlying e=some (.int k)) (h:DataW.trod enc P W 0 (λ_=>true) true n e [v]=some (x,p)):∃a,v= .int k a/\PG H k a x:=by
 obtain⟨a,b,c,d⟩:=DataW.trod_int he h
 simp at b c
 exact⟨a,b,c.1,d⟩
abbrev SD (H:Type) (k:IntKind) (W:World) (s:Sl) (l:List Int) (d:DataW H):Prop:=IN H (Value.int k) (PG H k) W s l d
theorem QQ {t e fuel:Nat} {k:IntKind} {W:World} {cs:List Value} {d:DataW H} {ps:List MemPlace} (hu:P.underlying t=some (.slice e)) (a:P.cellsOf e=1) (he:P.underlying e=some (.int k))
 (h:DataW.trod enc P W 0 (λ_=>true) true fuel t cs=some (d,ps)):∃s l,cs=[Sl.v s]/\SD H k W s l d:=Ny hu a (λ_ _ _ _ h=>SC he h) h
theorem zw {t e:Nat} {W:World} {base:Nat} {v:Value} {d:DataW H} {ps:List MemPlace} (hu:P.underlying t=some (.slice e)) (b:Value.okWide P W .any base t v)
 (h:DataW.Trod enc P W 0 (λ_=>true) true t v d ps):∃fuel,DataW.trod enc P W 0 (λ_=>true) true fuel t [v]=some (d,ps):=by
 obtain⟨a,len,cap,rfl⟩:=okWide_slice hu b
 exact h
end
theorem Tj {α:Type} {cs:List α} {a b c:α} (g:cs.length=3) (d:cs[0]?=some a) (e:cs[1]?=some b) (f:cs[2]?=some c):cs=[a,b,c]:=by
 match cs,g with|[x0,h,i],_=>simp at d e f;simp[d,e,f]
end Go.Kx
end
section
namespace Go.Kx
open Go.ChangeShapes Go.WideShapes Go.ChangeAt Go.RowKit
section
variable {α:Type} {enc:α->List Value} {sz:Nat}
def dT (enc:α->List Value) (sz:Nat) (H:PH) (s:Sl) (l:List α):Prop:=
 s.len=l.length/\s.len<=s.cap/\∀(i:Nat) (x:α),l[i]?=some x->∃a,s.a=some a/\a.spot=none/\bw H (a.add (i*sz)) sz=some (enc x)
theorem Ext.cells {A B:PH} (h:Ext A B) {a:Addr} {n:Nat} {cs:List Value} (b:bw A a n=some cs):bw B a n=some cs:=by
 unfold bw at b ⊢
 split at b
 ·rename_i d;rw[if_pos d];exact b
 ·rename_i d
  rw[if_neg d]
  split at b
  ·rename_i c e f g;rw[h _ _ g];exact b
  ·cases b
theorem dT.ext {A B:PH} {s:Sl} {l:List α} (h:dT enc sz A s l) (x:Ext A B):dT enc sz B s l:=
 ⟨h.1,h.2.1,λi y hi=>let⟨a,b,d,c⟩:=h.2.2 i y hi;⟨a,b,d,x.cells c⟩⟩
theorem dT.bF {H:PH} {s:Sl} {l:List α} (h:dT enc sz H s l):(s.len:Int)=l.length:=by rw[h.1]
theorem ob {H:PH} {s:Sl} {l:List α} {i:Int} {K:Addr->Prop} (h:dT enc sz H s l) (c:0<=i) (g:i<l.length) (d:∀a x,l[i.toNat]?=some x->bw H a sz=some (enc x)->K a):bX s sz i K:=by
 have b:i.toNat<l.length:=by omega
 obtain⟨a,e,j,f⟩:=h.2.2 i.toNat l[i.toNat] (by simp[b])
 exact⟨_,⟨a,e,c,by rw[h.1];omega,rfl⟩,d _ _ (by simp[b]) f⟩
theorem nm {H:PH} {a:Addr} {n:Nat} {cs:List Value} (h:bw H a n=some cs) {j:Nat} {v:Value} (b:cs[j]?=some v):cellAt H (a.add j)=some v:=by
 obtain⟨e,c⟩:=AD h
 have d:=(List.getElem?_eq_some_iff.1 b).1
 obtain⟨f,e1,e2⟩:=c j (by omega)
 rw[b] at e1;cases e1;exact e2
end
theorem Fg {W:World} {a:Addr} {n:Nat} {cs:List Value} (h:W.cells? 0 a n=some cs) (m:a.spot=none):bw (th W) a n=some cs:=by
 obtain⟨_,q,l⟩:=World.cells?_some h
 unfold bw
 by_cases j:n=0
 ·rw[if_pos j]
  have:cs=[]:=List.length_eq_zero_iff.1 (by omega)
  rw[this]
 ·rw[if_neg j]
  have p:∀i,i<n->W.cell? (a.add i)=some (cs[i]?.getD undef):=λi hi=>by
   rw[l i hi];simp[show i<cs.length by omega]
  have d:=p 0 (by omega)
  rw[add_zero'] at d
  have b:=d
  unfold World.cell? at b
  cases hw:W.heap[a.block]? with
  |none=>rw[hw] at b;cases b
  |some o=>
   cases o with
   |cells c e f=>
    have g:∀i,i<n->c[a.off+i]?=cs[i]?:=λi hi=>by
     have:=l i hi
     unfold World.cell? at this
     rw[qm,hw] at this
     simp only[qn _ _ m,BA] at this
     simpa using this
    have hle:a.off+n<=c.size:=by
     have k:=g (n- 1) (by omega)
     rw[List.getElem?_eq_getElem (by omega:n- 1<cs.length)] at k
     have:=(Array.getElem?_eq_some_iff.1 k).1
     omega
    show(match W.heap[a.block]? with|some (.cells c _ _)=>_|_=>none)=_
    rw[hw]
    simp only[m,Option.isSome_none,Bool.false_eq_true,if_false,hle,if_true,Option.some.injEq]
    apply List.ext_getElem?
    intro i
    rw[List.getElem?_take]
    by_cases hi:i<n
    ·rw[if_pos hi,List.getElem?_drop,Array.getElem?_toList,g i hi]
    ·rw[if_neg hi,List.getElem?_eq_none (by omega)]
   |_=>rw[hw] at b;cases b
section
variable {H:Type} {enc:TypeId×Value->H} {P:Program}
theorem LY {α:Type} {b:α->List Value} {sz:Nat} {R:α->Prop} {t e fuel:Nat} {W:World} {cs:List Value} {d:DataW H} {ps:List MemPlace} (hu:P.underlying t=some (.slice e)) (y:P.cellsOf e=sz) (u:0<sz)
 (o:∀n cs x,DataW.trod enc P W 0 (λ_=>true) true n e cs=some x->∃a,cs=b a/\R a)
 (h:DataW.trod enc P W 0 (λ_=>true) true fuel t cs=some (d,ps)):∃s l,cs=[Sl.v s]/\dT b sz (th W) s l/\∀a,a∈l->R a:=by
 rcases Go.Deep.open_slice hu h with⟨j,F⟩|⟨a,len,cap,m,n,D,Pl,j,_,hle,A,hm,G,c⟩
 ·exact⟨Sl.nil,[],j,⟨rfl,Nat.le_refl _,λi x hi=>by simp at hi⟩,by simp⟩
 ·simp only[if_true] at hm;subst hm
  rw[y] at c
  obtain⟨l,z,q⟩:=Dq (p:=λi (f:α)=>W.cells? 0 (a.add (i*sz)) sz=some (b f)/\R f) len λi hi=>by
   obtain⟨cs',c1,c2⟩:=c i (by omega)
   obtain⟨f,rfl,r⟩:=o n cs' _ c2
   exact⟨f,c1,r⟩
  have g:0<len->a.spot=none:=λE=>by
   obtain⟨cs',c1,_⟩:=c 0 (by omega)
   obtain⟨_,B,k⟩:=World.cells?_some c1
   have:=k 0 u
   rw[Nat.zero_mul,add_zero',add_zero',List.getElem?_eq_getElem (by omega:0<cs'.length)] at this
   exact ER this
  refine⟨⟨some a,len,m⟩,l,j,⟨z.symm,hle,λi x hi=>?_⟩,λx w=>?_⟩
  ·have C:=(List.getElem?_eq_some_iff.1 hi).1
   exact⟨a,rfl,g (by omega),Fg (q i x hi).1 (qn _ _ (g (by omega)))⟩
  ·obtain⟨i,hi,rfl⟩:=List.getElem_of_mem w
   exact(q i _ (by simp[hi])).2
theorem HT {cs:List Value} {i:Nat} {v:Value} (h:(cs.drop i).take 1=[v]):cs[i]?=some v:=by
 have:=congrArg (·[0]?) h
 simpa[List.getElem?_take,List.getElem?_drop] using this
theorem LZ {W:World} {t fuel len e:Nat} {cs:List Value} {x:DataW H×List MemPlace} (f:P.underlying t=some (.array len e)) (h:DataW.trod enc P W 0 (λ_=>true) true fuel t cs=some x):
 cs.length=P.cellsOf t/\∀i,i<len->∃n y,DataW.trod enc P W 0 (λ_=>true) true n e ((cs.drop (i*P.cellsOf e)).take (P.cellsOf e))=some y:=by
 cases fuel with
 |zero=>simp[DataW.trod] at h
 |succ n=>
  unfold DataW.trod at h
  rw[f] at h
  split at h<;>simp_all
  obtain⟨j,xs,b,g⟩:=h
  intro i hi
  have c:=mapM_some_length b
  have d:=mapM_some_get b i i (by simp[hi])
  simp at c
  have a:i<xs.length:=by omega
  refine⟨n,xs[i].1,xs[i].2,?_⟩
  rw[d];simp[a]
theorem Jd {W:World} {t n i:Nat} {k:IntKind} {cs:List Value} {y:DataW H×List MemPlace} (hu:P.underlying t=some (.int k)) (d:P.cellsOf t=1) (h:DataW.trod enc P W 0 (λ_=>true) true n t ((cs.drop i).take (P.cellsOf t))=some y):∃a,cs[i]?=some (.int k a)/\(Lit.int k a).wf=true:=by
 rw[d] at h
 obtain⟨a,b,_,c⟩:=DataW.trod_int hu h
 exact⟨a,HT b,c⟩
end
end Go.Kx
end
section
namespace Go.Kx
section
variable {α:Type} {enc:α->List Value} {sz:Nat} {H:PH} {L:List Ob}
theorem vF (d:∀x,(enc x).length=sz) {s:Sl} {l:List α} {i j:Nat} {x y:α} {a:Addr} {v:Value} {K:PH->Prop} (h:pT enc sz H s l i x a) (r:j<sz) (z:enc y=(enc x).set j v) (u:cI v=true)
 (p:∀H',bT enc sz H' s (l.set i y)->vV s H H'->K H'):aX H (a.add j) [v] K:=by
 have hi:=h.lt
 obtain⟨⟨b,sp,e,spare,rfl,m,n,rfl⟩,w⟩:=h
 have g:=pS (enc:=enc) w
 have f:=qB d (l:=l) (i:=i) (by omega)
 have hlen:i*sz+sz<=(l.flatMap enc++spare).length:=by rw[g];simp only[List.length_append,f,d];omega
 refine⟨b,i*sz+j,_,e,by rw[eW],n,by simp only[List.length_singleton];omega,by simp[u],p _ (.inr ⟨b,sp,e,spare,by simp,m,?_⟩) λc o q t=>?_⟩
 ·rw[PH.dW]
  congr 2
  have k:(l.set i y).flatMap enc=(l.take i).flatMap enc++enc y++(l.drop (i+1)).flatMap enc:=by
   have:=pS (enc:=enc) (l:=l.set i y) (i:=i) (x:=y) (by rw[List.getElem?_set_self hi])
   rw[this,List.take_set_of_le (Nat.le_refl _),List.drop_set_of_lt (by omega)]
  rw[k,g]
  simp only[List.append_assoc,putAt]
  rw[List.set_append_right _ _ (by omega),f,Nat.add_sub_cancel_left,List.set_append_left _ _ (by rw[d];exact r),z]
 ·rw[PH.al _ _ (λe=>t ⟨_,rfl,e.symm⟩)];exact q
theorem BE (d:∀x,(enc x).length=sz) {s:Sl} {l:List α} {i j:Nat} {x:α} (y:α) {a:Addr} {v:Value} {K:PH->Prop} (h:aA H L) (k:Nat) (hk:L[k]?=some (aq enc sz s l)) (he:pT enc sz H s l i x a) (f:j<sz) (n:enc y=(enc x).set j v) (m:cI v=true)
 (e:∀H',aA H' (L.set k (aq enc sz s (l.set i y)))->K H'):aX H (a.add j) [v] K:=
 vF d he f n m λH' w kp=>e H' (h.dX (O':=aq enc sz s (l.set i y)) k hk w (λc b=>.inl b) λc o b g=>kp c o b g)
theorem sQ (b:∀x,(enc x).length=sz) (f:0<sz) {e m:Nat} {zs:List Value} {s x:Sl} {l ys:List α} {K:Sl->PH->Prop} (h:aA H L) (k:Nat) (hk:L[k]?=some (aq enc sz s l)) (p:df H x sz=some (ys.flatMap enc)) (d:x.len=ys.length) (a:∀y,(enc y).all cI=true) (q:zs.length=sz)
 (i:(4*(l.length+ys.length)+4096)*m<=2 ^ 48) (g:∀r H',aA H' (L.set k (aq enc sz r (l++ys)))->K r H'):fG H e sz m zs s x K:=
 Nt b f (h.get k hk) p d a q i λr H' v kp n=>g r H' (h.dX (O':=aq enc sz r (l++ys)) k hk v n λc o a j=>kp c o a j)
theorem IP {x:α} {cs:List Value} {e:TypeId} {K:Sl->PH->Prop} (h:aA H L) (b:cs=enc x) (c:∀r H',aA H' (L++[aq enc sz r [x]])->Ext H H'->K r H'):bV H (row cs e) 1 K:=by
 subst b
 intro r H' a
 exact c r H' (h.new (O':=aq enc sz r [x]) (.lX a) (bT.vE (l:=[x]) a (by simp) rfl) (jr.gI a)) (.lX a)
theorem QR {e:TypeId} {x:α} {cs:List Value} {n:Int} {K:Sl->PH->Prop} (h:aA H L) (b:cs=enc x) (c:∀r H',aA H' (L++[aq enc sz r (List.replicate n.toNat x)])->Ext H H'->K r H'):mC H (row (bz n.toNat cs) e) n n K:=by
 subst b
 intro r H' a
 exact c r H' (h.new (O':=aq enc sz r (List.replicate n.toNat x)) (.lX a) (bT.vE a Bw (by simp)) (jr.gI a)) (.lX a)
theorem aA.zG (h:aA H L):aA H (L++[aq enc sz Sl.nil []]):=h.new (O':=aq enc sz Sl.nil ([]:List α)) (.refl H) (.inl ⟨rfl,rfl⟩) λc a=>absurd a LV
theorem bT.jv (f:∀x,(enc x).length=sz) {s:Sl} {l:List α} (h:bT enc sz H s l):dT enc sz H s l:=by
 refine⟨h.len,h.bound,λi x c=>?_⟩
 have hi:=(List.getElem?_eq_some_iff.1 c).1
 obtain⟨a,⟨a0,m,n,o,p⟩,k⟩:=qv (i:=i) (K:=λa=>∃y,pT enc sz H s l i y a) h (by omega) (by omega) λa y el=>⟨y,by simpa using el⟩
 obtain⟨y,el⟩:=k
 have j:x=y:=by have:=el.get;rw[c] at this;cases this;rfl
 subst j
 obtain⟨⟨b,sp,e,spare,g,_,_,d⟩,_⟩:=el
 refine⟨⟨b,0,none⟩,by rw[g],rfl,?_⟩
 rw[eW,Nat.zero_add,←d]
 exact pT.cells f ⟨⟨b,sp,e,spare,g,by assumption,by assumption,d⟩,c⟩
theorem dT.cells (B:∀x,(enc x).length=sz) (z:0<sz) {s:Sl} {l:List α} (h:dT enc sz H s l):df H s sz=some (l.flatMap enc):=by
 obtain⟨w,D,r⟩:=h
 unfold df
 cases t:s.a with
 |none=>
  cases l with
  |nil=>rfl
  |cons x l=>obtain⟨a,b,_⟩:=r 0 x rfl;rw[t] at b;cases b
 |some a=>
  simp only
  rw[w]
  cases l with
  |nil=>simp[bw]
  |cons x0 l0=>
   have u:∀(i:Nat) (x:α),(x0::l0)[i]?=some x->a.spot=none/\bw H (a.add (i*sz)) sz=some (enc x):=λi x hi=>by
    obtain⟨C,b,m,y⟩:=r i x hi
    rw[t] at b;cases b
    exact⟨m,y⟩
   obtain⟨m,d⟩:=u 0 x0 rfl
   rw[Nat.zero_mul,add_zero'] at d
   unfold bw at d
   rw[if_neg (by omega)] at d
   cases k:H a.block with
   |none=>rw[k] at d;cases d
   |some o=>
    cases o with
    |cells c e f=>
     have q:∀(i:Nat) (x:α),(x0::l0)[i]?=some x->a.off+i*sz+sz<=c.size/\(c.toList.drop (a.off+i*sz)).take sz=enc x:=λi x hi=>by
      have g:=(u i x hi).2
      unfold bw at g
      rw[if_neg (by omega),qm,k] at g
      simp only[qn _ _ m,BA,Option.isSome_none,Bool.false_eq_true,if_false] at g
      split at g
      ·rename_i hle
       exact⟨hle,by simpa using g⟩
      ·cases g
     generalize x0::l0=l at q
     have key:∀n,n<=l.length->a.off+n*sz<=c.size∨n=0:=λn j=>by
      cases n with
      |zero=>exact .inr rfl
      |succ n=>
       have:=(q n (l[n]'(by omega)) (by simp)).1
       left
       rw[Nat.add_mul,Nat.one_mul];omega
     have sum:∀n,n<=l.length->(c.toList.drop a.off).take (n*sz)=(l.take n).flatMap enc:=λn=>by
      induction n with
      |zero=>intro _;simp
      |succ n A=>
       intro j
       have v:l[n]?=some (l[n]'(by omega)):=by simp
       rw[Nat.add_mul,Nat.one_mul,List.take_add,A (by omega),List.drop_drop,(q n _ v).2,List.take_add_one,v,List.flatMap_append]
       simp
     have p:=sum l.length (Nat.le_refl _)
     rw[List.take_length] at p
     unfold bw
     by_cases j:l.length=0
     ·have:l=[]:=List.length_eq_zero_iff.1 j
      subst this;simp
     ·rw[if_neg (by have:=Nat.mul_pos (Nat.pos_of_ne_zero j) z;omega),k]
      simp only[m,Option.isSome_none,Bool.false_eq_true,if_false]
      rcases key l.length (Nat.le_refl _) with h|h
      ·rw[if_pos h,p]
      ·exact absurd h j
    |_=>rw[k] at d;cases d
theorem zH {s:Sl} {l:List α} {i:Int} {K:Addr->Prop} (h:dT enc sz H s l) (b:0<=i) (c:i<l.length) (d:∀a x,l[i.toNat]?=some x->bw H a sz=some (enc x)->K a):bX s sz i K:=ob h b c d
theorem Tl (a:∀x,(enc x).length=sz) (r:0<sz) {s x:Sl} {l ys:List α} {K:Int->PH->Prop} (i:bT enc sz H s l) (j:dT enc sz H x ys) (hle:ys.length<=l.length) (p:∀y,(enc y).all cI=true)
 (f:∀H',bT enc sz H' s (ys++l.drop ys.length)->vV s H H'->K (ys.length:Nat) H'):mZ H sz s x K:=by
 have t:=i.len
 have k:=j.1
 have e1:min x.len s.len=x.len:=by omega
 have d:=j.cells a r
 refine⟨ys.flatMap enc,by rw[e1];exact d,by simp[List.all_flatMap,p],?_⟩
 rw[e1,k]
 rcases i with⟨rfl,rfl⟩|⟨b,sp,e,spare,rfl,m,n⟩
 ·have:ys=[]:=List.length_eq_zero_iff.1 (by simpa using hle)
  subst this
  exact f H (.inl ⟨rfl,rfl⟩) λc o h _=>h
 ·refine⟨b,0,_,e,rfl,n,by rw[List.length_append,ff a,ff a];have:=Nat.mul_le_mul_right sz hle;omega,f _ (.inr ⟨b,sp,e,spare,by simp;omega,m,?_⟩) λc o g q=>?_⟩
  ·rw[PH.dW,kF _ _ _ (by rw[List.length_append,ff a,ff a];have:=Nat.mul_le_mul_right sz hle;omega)]
   congr 2
   rw[List.take_zero,List.nil_append,Nat.zero_add,List.flatMap_append,List.append_assoc]
   congr 1
   have e2:l=l.take ys.length++l.drop ys.length:=by rw[List.take_append_drop]
   have l2:((l.take ys.length).flatMap enc).length=(ys.flatMap enc).length:=by rw[ff a,ff a,List.length_take,Nat.min_eq_left hle]
   conv=>lhs;rw[e2]
   rw[List.flatMap_append,List.append_assoc,←l2,List.drop_append_of_le_length (Nat.le_refl _),List.drop_length,List.nil_append]
  ·rw[PH.al _ _ (λe=>q ⟨_,rfl,e.symm⟩)];exact g
theorem Nz (b:∀x,(enc x).length=sz) (g:0<sz) {s x:Sl} {l ys:List α} {K:Int->PH->Prop} (h:aA H L) (k:Nat) (hk:L[k]?=some (aq enc sz s l)) (f:dT enc sz H x ys) (hle:ys.length<=l.length) (a:∀y,(enc y).all cI=true)
 (d:∀H',aA H' (L.set k (aq enc sz s (ys++l.drop ys.length)))->K (ys.length:Nat) H'):mZ H sz s x K:=
 Tl b g (h.get k hk) f hle a λH' v kp=>d H' (h.dX (O':=aq enc sz s (ys++l.drop ys.length)) k hk v (λc a=>.inl a) λc o a e=>kp c o a e)
theorem Fh (b:∀x,(enc x).length=sz) (f:0<sz) {s:Sl} {l:List α} {e m p:Nat} {zs:List Value} {K:Sl->PH->Prop} (k:dT enc sz H s l) (w:∀y,(enc y).all cI=true) (z:zs.length=sz) (v:(4*l.length+4096)*m<=2 ^ 48)
 (j:∀r H',aA H' [aC H,aq enc sz r l]->K r H'):aJ (Option.isNone s.a) (K Sl.nil H) (bV H (row [] p) 0 λh i=>fG i e sz m zs h s K):=by
 refine aL (λc=>?_) (λ_ h i g=>?_)
 ·have:l=[]:=by
   cases l with
   |nil=>rfl
   |cons x l=>
    obtain⟨a,u,_⟩:=k.2.2 0 x rfl
    rw[u] at c;cases c
  subst this
  exact j Sl.nil H (aA.start H).zG
 ·have n:=Ext.lX g
  have q:=(aA.start H).new (O':=aq enc sz h ([]:List α)) n (bT.vE (l:=([]:List α)) g (by simp) rfl) (jr.gI g)
  have d:=k.ext n
  exact sQ b f (l:=[]) (ys:=l) q 1 rfl (d.cells b f) d.1 w z (by simpa using v) λr o t=>j r o t
end
end Go.Kx
end
section
namespace Go.Kx
def strOf (l:List Int):ByteArray:=l.foldl (λs n=>s.push (UInt8.ofNat n.toNat)) ByteArray.empty
def N0 (H:PH) (s:Sl) (K:ByteArray->Prop):Prop:=∃x,(∃l:List Int,df H s 1=some (l.map (Value.int .u8))/\x=strOf l)/\K x
section
variable {P:Program} {ρ:Env} {T H:PH} {d:Option Nat} {ty:TypeId} {p:String} {af:Array Edge} {g:Option (Nat×Bool)} {K:Value->PH->PH->Prop}
theorem Fi {w:World} (f:Value->ByteArray->Sem (ForInStep ByteArray)) (hf:∀n s,f (.int .u8 n) s=pure (.yield (s.push (UInt8.ofNat n.toNat)))):∀(l:List Int) (s:ByteArray),Sem.run P (forIn (m:=Sem) (l.map (Value.int .u8)) s f) w= .ok (l.foldl (λs n=>s.push (UInt8.ofNat n.toNat)) s) w
 |[],s=>by simp[Sem.run_pure]
 |x::l,s=>by
  rw[List.map_cons,List.forIn_cons,hf]
  simp only[Sem.run_bind,Sem.run_pure,Result.andThen,List.foldl_cons]
  exact Fi f hf l _
theorem Tm {src dst e:TypeId} {x:Operand} {s:Sl} {v:ByteArray} (j:P.underlying src=some (.slice e)) (k:P.underlying dst=some .string) (c:P.underlying e=some (.int .u8)) (o:ev ρ x=Sl.v s) (h:∃l:List Int,df H s 1=some (l.map (Value.int .u8))/\v=strOf l):
 bP P ρ ⟨d,.convert src dst x,ty,p,af,g⟩ H (.string v):=⟨rfl,λT w m=>by
 obtain⟨l,b,rfl⟩:=h
 simp only[execOp,o,convert,Sem.run_bind,bS j,bS k,Result.andThen,Sl.v]
 unfold df at b
 cases i:s.a with
 |none=>
  rw[i] at b
  simp only[Option.some.injEq] at b
  have:l=[]:=by simpa using b.symm
  subst this
  simp[Sem.run_bind,bS c,Result.andThen,Conv.bytesToString,Sem.run_pure,strOf]
 |some a=>
  rw[i] at b
  simp only at b
  have f:=rS (P:=P) m b
  rw[Nat.mul_one] at f
  simp only[Sem.run_bind,bS c,Result.andThen,Conv.bytesToString,f,Sem.run_pure]
  rw[List.forIn_toArray,Fi _ (λn s=>rfl)]
  rfl⟩
def Sl.Dt (s:Sl) (size lo hi b:Nat):Sl:=⟨if b=lo then s.a else s.a.map (·.add (lo*size)),hi-lo,b-lo⟩
def N1 (s:Sl) (size:Nat) (lo hi a:Int) (r:Sl):Prop:=0<=lo/\lo<=hi/\hi<=a/\a<=s.cap/\s.len<=s.cap/\r=s.Dt size lo.toNat hi.toNat a.toNat
def PI (s:Sl) (size:Nat) (lo hi a:Int) (K:Sl->Prop):Prop:=∃r,N1 s size lo hi a r/\K r
theorem La {t e size:Nat} {x lo hi a:Operand} {s r:Sl} {l h m:Int} (i:iK P t e size) (n:N1 s size l h m r) (o:ev ρ x=Sl.v s)
 (c:∃k,ev ρ lo= .int k l) (b:∃k,ev ρ hi= .int k h) (f:∃k,ev ρ a= .int k m):
 bP P ρ ⟨d,.slice t x (some lo) (some hi) (some a),ty,p,af,g⟩ H (Sl.v r):=⟨rfl,λT w B=>by
 obtain⟨j,u,y,z,A,rfl⟩:=n
 obtain⟨k1,e1⟩:=c;obtain⟨k2,e2⟩:=b;obtain⟨k3,e3⟩:=f
 have i1:=yt e1 j
 have i2:=yt e2 (by omega)
 have i3:=yt e3 (by omega)
 have c3:(0<=((m.toNat:Nat):Int)/\((m.toNat:Nat):Int)<=(s.cap:Int)):=⟨by omega,by omega⟩
 have c2:(0<=((h.toNat:Nat):Int)/\((h.toNat:Nat):Int)<=(m.toNat:Int)):=⟨by omega,by omega⟩
 have c1:(0<=((l.toNat:Nat):Int)/\((l.toNat:Nat):Int)<=(h.toNat:Int)):=⟨by omega,by omega⟩
 have q:(Instr.sliceBounds true s.len s.cap (some (ev ρ lo)) (some (ev ρ hi)) (some (ev ρ a))).run P w= .ok (l.toNat,h.toNat,m.toNat) w:=by
  simp only[Instr.sliceBounds,Sem.run_bind,Sem.run_pure,Result.andThen,i1,i2,i3,Instr.sliceBound,asIntOf,c1,c2,c3,and_self,if_true,Int.toNat_natCast]
 simp only[execOp,o,Option.map_some,Instr.sliceAt,Sem.run_bind,bS i.1,Result.andThen,Instr.slice,Sl.v,q,fc i.2,Sem.run_pure,Sl.Dt]⟩
def FH (H:PH) (e size m:Nat) (zs:List Value) (s:Sl) (n:Int) (K:Sl->PH->Prop):Prop:=
 0<n/\s.cap<s.len+n.toNat/\s.len<=s.cap/\(4*(s.len+n.toNat)+4096)*m<=2 ^ 48/\∃xs,df H s size=some xs/\
  ∀b c,H b=none->s.len+n.toNat<=c->K ⟨some ⟨b,0,none⟩,s.len+n.toNat,c⟩ (H.bL b (row (xs++bz n.toNat zs++bz (c-(s.len+n.toNat)) zs) e))
theorem Je {xs:Array Operand} {a:Array TypeId} {t e size m:Nat} {z:Value} {zs:List Value} {s:Sl} {n:Int} {xt:TypeId} {kk:IntKind} (R:iK P t e size) (hm:fT P e m) (O:1<=m) (hz:bR P e z) (Z:z.cells=zs.toArray) (ah:zs.length=size) (ae:1<=size)
 (ht:a[0]?=some t) (S:a[1]?=some xt) (W:P.underlying xt=some (.int kk))
 (hx:xs.toList.map (ev ρ)=[Sl.v s,.int .i64 n]) {E:Sl->PH->Prop} (h:FH H e size m zs s n E) (hk:∀r H',E r H'->K (Sl.v r) T H'):
 cv P ρ ⟨d,.call ⟨.builtin .append,xs,a⟩,ty,p,af,g⟩ T H K:=⟨rfl,λw ho=>by
 obtain⟨h0,hle,ac,f,aa,V,h⟩:=h
 obtain⟨k,rfl⟩:=Int.eq_ofNat_of_zero_le (show 0<=n by omega)
 rw[Int.toNat_natCast] at hle f h
 have o:=oU hx
 obtain⟨ie,j,I⟩:=pz (w:=w) hm
 have e1:∀v w',(Builtin.append_ a ty #[Sl.v s,.int .i64 k]).run P w= .ok v w'->(execOp (ev ρ) ⟨d,.call ⟨.builtin .append,xs,a⟩,ty,p,af,g⟩).run P w= .ok (.value v) w':=by
  intro v w' hv
  simp only[execOp,resolve,o,Sem.run_bind,Sem.run_pure,Result.andThen,invoke,builtin]
  rw[hv]
 have C:¬(s.len+k<=s.cap):=by omega
 have Q:=zu (s.len+k) s.cap (by omega)
 have ad:Builtin.nextslicecap (s.len+k) s.cap*m<=2 ^ 48:=Nat.le_trans (Nat.mul_le_mul_right m Q) f
 have ab:s.len+k<=2 ^ 48:=by
  have:4*(s.len+k)*1<=(4*(s.len+k)+4096)*m:=Nat.mul_le_mul (by omega) O
  omega
 have ag:k*m<=2 ^ 48:=Nat.le_trans (Nat.mul_le_mul_right m (by omega)) f
 have y:¬((s.len+k:Int)>IntKind.i64.max):=by simp[IntKind.max,IntKind.signed,IntKind.bits];omega
 have U:IntKind.i64.wrap (k:Int)=k:=bA (by omega) (by omega)
 obtain⟨b,u⟩:∃b,b=w.drew:=⟨_,rfl⟩
 have i:Fr H T w H T b:=u▸ .drew ho
 obtain⟨c,q⟩:∃c,c=(Question.appendCap (s.len+k) s.cap e).cut (w.tape w.drawn (Question.appendCap (s.len+k) s.cap e)):=⟨_,rfl⟩
 have F:s.len+k<=c:=by rw[q];simp[Question.cut]
 have G:(Question.appendCap (s.len+k) s.cap e).forced=false:=rfl
 have l:=i.own
 have x:=lu (P:=P) l V
 have X:Builtin.zeroCells zs.toArray (c-(s.len+k))=(bz (c-(s.len+k)) zs).toArray:=by
  simpa[Builtin.zeroCells] using qJ (c-(s.len+k)) zs
 have Y:Builtin.zeroCells zs.toArray k=(bz k zs).toArray:=by
  simpa[Builtin.zeroCells] using qJ k zs
 have A:(typeInfo e).run P b= .ok ie b:=by
  obtain⟨i2,h2,_⟩:=pz (w:=b) hm
  unfold fT at hm
  cases hi:P.info? e with
  |none=>rw[hi] at hm;cases hm
  |some i3=>rw[yq hi] at j ⊢; cases j;rfl
 refine .inl ⟨_,T,_,_,e1 (Sl.v ⟨some ⟨b.heap.size,0,none⟩,s.len+k,c⟩) (b.alloc (row (aa++bz k zs++bz (c-(s.len+k)) zs) e)) ?_,i.trans (.alloc l _),hk _ _ (h _ _ l.new.1 F)⟩
 have D:¬(281474976710656<Builtin.nextslicecap (s.len+k) s.cap*m):=by omega
 have N:¬m=0:=by omega
 have J:¬(k*size=0):=by
  have:=Nat.mul_pos (show 0<k by omega) (show 0<size by omega)
  omega
 have M:¬((k:Int)< 0):=by omega
 have B:¬((281474976710656:Int)<(k:Int)*(m:Int)):=by
  have:((k*m:Nat):Int)=(k:Int)*m:=by push_cast;rfl
  omega
 simp only[Sl.v] at x
 have L:¬(k=0∨size=0):=by omega
 simp[Builtin.append_,ht,S,Sem.run_bind,bS R.1,Result.andThen,fc R.2,bS W,Sem.run_pure,Sl.v,asInt,asIntOf,U,M,B,C,j,I,N,D,G,←q,←u,A,run_askRoom,x,ng hz,Z,X,Y,J,L,lV,y]
 intro hh;omega⟩
end
end Go.Kx
end
section
namespace Go.Kx.Au
open Go Go.Kx
class jk (P:Program) (t:TypeId):Prop where
 u:we P t
class qZ (P:Program) (t:TypeId) (n:outParam Nat):Prop where
 u:FU P t n
class oe (P:Program) (t:TypeId) (e size:outParam Nat):Prop where
 u:iK P t e size
class ES (P:Program) (t:TypeId) (len e size:outParam Nat):Prop where
 u:uN P t len e size
class bK (P:Program) (s i:Nat) (off:outParam Nat):Prop where
 u:Bq P s i off
class BZ (P:Program) (s i:Nat) (off t:outParam Nat):Prop where
 u:Dl P s i off t
class iX (P:Program) (t:TypeId) (n:outParam Nat):Prop where
 u:(P.info? t).map (·.size)=some n
class IZ (P:Program) (t:TypeId) (v:outParam Value):Prop where
 u:bR P t v
class kU (P:Program) (t:TypeId) (l:outParam (List (Nat×Nat))):Prop where
 u:yu P t l
class vG (P:Program) (t:TypeId) (n:outParam Nat):Prop where
 u:fT P t n
class dP (P:Program) (t:TypeId) (x:outParam TypeDesc):Prop where
 u:P.underlying t=some x
class SE (P:Program):Prop where
 u:P.follows .mixedOrders=true
class aj (P:Program) (f:FuncId) (A:Prop) (vs:outParam (List Value)) (H:outParam PH) (R:outParam (Value->PH->Prop)):Prop where
 u:A->dv P f vs.toArray H R
 b:Body P f
def N2:Op->Bool
 | .call c=>(match c.callee with| .builtin b=>(match b with| .len=>false| .cap=>false| .min=>false| .max=>false|_=>true)|_=>true)
 | .alloc _=>true
 | .box _ _=>true
 | .store _ _ _=>true
 | .makeSlice _ _ _=>true
 | .buildSlice _ _ _=>true
 |_=>false
def Fj:Op->Bool
 | .convert _ _ _=>true
 |_=>false
section
variable {P:Program} {rd:Option Nat} {n:Nat} {k:List Item} {ρ:Env} {D:List Deferred} {T H:PH} {Q:mr} {ops:Array Oper} {l:List Oper} {i:Nat} {A B:Prop}
def Pt (ρ:Env) (l:List Operand) (vs:List Value):Prop:=l.map (ev ρ)=vs
theorem SF:Pt ρ [] []:=rfl
theorem SG {x:Operand} {l:List Operand} {v:Value} {vs:List Value} (h:ev ρ x=v) (g:Pt ρ l vs):Pt ρ (x::l) (v::vs):=by unfold Pt at *; rw[List.map_cons,h,g]
def Pm (ρ:Env) (l:List (Nat×Operand)) (vs:List (Nat×Value)):Prop:=l.map (λq=>(q.1,ev ρ q.2))=vs
theorem Ut:Pm ρ [] []:=rfl
theorem Uu {j:Nat} {x:Operand} {l:List (Nat×Operand)} {v:Value} {vs:List (Nat×Value)} (h:ev ρ x=v) (g:Pm ρ l vs):Pm ρ ((j,x)::l) ((j,v)::vs):=by unfold Pm at *; rw[List.map_cons,g];simp[h]
theorem Lb {d:Nat} {c:Op} {ty:TypeId} {p:String} {af:Array Edge} {v:Value} (m:bP P ρ ⟨some d,c,ty,p,af,none⟩ H v) (h:A->bO P rd n ops l (i+1) k (bL ρ d v) D T H Q) (e:Nat.blt d n=true):
 A->bO P rd n ops (⟨some d,c,ty,p,af,none⟩::l) i k ρ D T H Q:=λa=>W.q m (h a) e
theorem UR {d j e:Nat} {c g:Bool} {m:Op} {ty:TypeId} {p:String} {af:Array Edge} {v:Value} (he:(ops[j]?).bind (·.dst)=some e) (t:ρ e= .bool c) (q:c=g) (s:bP P ρ ⟨some d,m,ty,p,af,some (j,g)⟩ H v)
 (h:A->bO P rd n ops l (i+1) k (bL ρ d v) D T H Q) (r:Nat.blt d n=true):
 A->bO P rd n ops (⟨some d,m,ty,p,af,some (j,g)⟩::l) i k ρ D T H Q:=λa=>W.w q s (h a) he t r
theorem Vu {d j e:Nat} {c g:Bool} {s:Op} {ty:TypeId} {p:String} {af:Array Edge} (he:(ops[j]?).bind (·.dst)=some e) (r:ρ e= .bool c) (m:c= !g)
 (h:A->bO P rd n ops l (i+1) k (bL ρ d undef) D T H Q) (q:Nat.blt d n=true):
 A->bO P rd n ops (⟨some d,s,ty,p,af,some (j,g)⟩::l) i k ρ D T H Q:=λa=>W.o m (h a) he r q
theorem Vv {d j e:Nat} {g:Bool} {q:Op} {ty:TypeId} {p:String} {af:Array Edge} (he:(ops[j]?).bind (·.dst)=some e) (m:ρ e=undef)
 (h:A->bO P rd n ops l (i+1) k (bL ρ d undef) D T H Q) (c:Nat.blt d n=true):
 A->bO P rd n ops (⟨some d,q,ty,p,af,some (j,g)⟩::l) i k ρ D T H Q:=λa=>W.u (h a) he m c
theorem SH {α:Type} {G:Prop} {F K:α->Prop} (g:∀x,F x->(K x->G)):(∃x,F x/\K x)->G:=λ⟨x,a,k⟩=>g x a k
theorem US {b:Bool} {G:Prop} (c:b=true->(A->G)) (e:b=false->(B->G)):aJ b A B->G:=λh=>W.J h c e
theorem Vw {d:Nat} {c:Op} {ty:TypeId} {p:String} {af:Array Edge} (he:N2 c=true) (h:A->cv P ρ ⟨some d,c,ty,p,af,none⟩ T H λv m H'=>bO P rd n ops l (i+1) k (bL ρ d v) D m H' Q) (e:Nat.blt d n=true):A->bO P rd n ops (⟨some d,c,ty,p,af,none⟩::l) i k ρ D T H Q:=λa=>W.od (h a) e
theorem Uv {d:Nat} {c:Op} {ty:TypeId} {p:String} {af:Array Edge} (he:Fj c=true) (h:A->cv P ρ ⟨some d,c,ty,p,af,none⟩ T H λv m H'=>bO P rd n ops l (i+1) k (bL ρ d v) D m H' Q) (e:Nat.blt d n=true):A->bO P rd n ops (⟨some d,c,ty,p,af,none⟩::l) i k ρ D T H Q:=λa=>W.od (h a) e
theorem Vx {c:Op} {ty:TypeId} {p:String} {af:Array Edge} (h:A->cv P ρ ⟨none,c,ty,p,af,none⟩ T H λv e H'=>bO P rd n ops l (i+1) k ρ D e H' Q):A->bO P rd n ops (⟨none,c,ty,p,af,none⟩::l) i k ρ D T H Q:=λa=>IE rfl rfl (h a)
theorem Uw {d j e:Nat} {c g:Bool} {m:Op} {ty:TypeId} {p:String} {af:Array Edge} (he:(ops[j]?).bind (·.dst)=some e) (t:ρ e= .bool c) (s:c=g) (u:N2 m=true) (h:A->cv P ρ ⟨some d,m,ty,p,af,some (j,g)⟩ T H λv r H'=>bO P rd n ops l (i+1) k (bL ρ d v) D r H' Q) (q:Nat.blt d n=true):
 A->bO P rd n ops (⟨some d,m,ty,p,af,some (j,g)⟩::l) i k ρ D T H Q:=λa=>wg (jP rfl he t s) rfl (Nat.le_of_ble_eq_true q) (h a)
end
section
variable {P:Program} {ρ:Env} {T H:PH} {d:Option Nat} {ty:TypeId} {p:String} {af:Array Edge} {g:Option (Nat×Bool)}
theorem UT {f:Fn} {fi ca:Array Operand} {vs us:List Value} (c:Pt ρ fi.toList vs) (e:Pt ρ ca.toList us):bP P ρ ⟨d,.makeFunc f fi ca,ty,p,af,g⟩ H (.func f vs.toArray us.toArray):=JU c e
theorem Vy {x:Operand} {v:Value} (h:ev ρ x=v):bP P ρ ⟨d,.move x,ty,p,af,g⟩ H v:=lI h
theorem Vz {x:Operand} {v:Value} (h:ev ρ x=v):bP P ρ ⟨d,.assign x,ty,p,af,g⟩ H v:=nc h
theorem Ux {c x y:Operand} {b:Bool} {v:Value} (m:ev ρ c= .bool b) (e:b=true) (h:ev ρ x=v):bP P ρ ⟨d,.pick c x y,ty,p,af,g⟩ H v:=IB (Rt m e) h
theorem Uy {c x y:Operand} {b:Bool} {v:Value} (m:ev ρ c= .bool b) (e:b=false) (h:ev ρ y=v):bP P ρ ⟨d,.pick c x y,ty,p,af,g⟩ H v:=IC (Ru m e) h
theorem V0 {s i off:Nat} {x:Operand} {a:Addr} [h:bK P s i off] (c:ev ρ x= .pointer (some a)):bP P ρ ⟨d,.fieldAddr s x i,ty,p,af,g⟩ H (.pointer (some (a.add off))):=yF h.u c
theorem V1 {src dst:TypeId} {x:Operand} {r e:IntKind} {c:TypeDesc} {a:Int} [h:dP P src c] [m:dP P dst (.int e)] (q:ev ρ x= .int r a):bP P ρ ⟨d,.convert src dst x,ty,p,af,g⟩ H (.int e (e.wrap a)):=Rq h.u m.u q
theorem Uz {tx tyy e:TypeId} {x y:Operand} {c:Option Addr} [h:dP P tx (.pointer e)] (m:ev ρ x= .pointer c) (q:ev ρ y= .pointer none):bP P ρ ⟨d,.binOp .eql tx x y tyy,ty,p,af,g⟩ H (.bool (Option.isNone c)):=je h.u m q
theorem U0 {tx tyy e:TypeId} {x y:Operand} {c:Option Addr} [h:dP P tx (.pointer e)] (m:ev ρ x= .pointer c) (q:ev ρ y= .pointer none):bP P ρ ⟨d,.binOp .neq tx x y tyy,ty,p,af,g⟩ H (.bool (!Option.isNone c)):=QI h.u m q
theorem U1 {tx tyy e:TypeId} {x y:Operand} {s:Sl} [h:dP P tx (.slice e)] (c:ev ρ x=Sl.v s) (m:ev ρ y= .slice none 0 0):bP P ρ ⟨d,.binOp .eql tx x y tyy,ty,p,af,g⟩ H (.bool (Option.isNone s.a)):=QJ h.u c m
theorem U2 {tx tyy e:TypeId} {x y:Operand} {s:Sl} [h:dP P tx (.slice e)] (c:ev ρ x=Sl.v s) (m:ev ρ y= .slice none 0 0):bP P ρ ⟨d,.binOp .neq tx x y tyy,ty,p,af,g⟩ H (.bool (!Option.isNone s.a)):=QK h.u c m
theorem V2 {tx tyy:TypeId} {x y:Operand} {a b:Bool} [h:dP P tx .bool] (c:ev ρ x= .bool a) (e:ev ρ y= .bool b):bP P ρ ⟨d,.binOp .neq tx x y tyy,ty,p,af,g⟩ H (.bool (a != b)):=Rx h.u c e
theorem V3 {tx tyy:TypeId} {x y:Operand} {a b:ByteArray} [h:dP P tx .string] (c:ev ρ x= .string a) (e:ev ρ y= .string b):bP P ρ ⟨d,.binOp .eql tx x y tyy,ty,p,af,g⟩ H (.bool (a.toList==b.toList)):=R6 h.u c e
theorem V4 {xs:Array Operand} {t e:Nat} {s:Sl} [h:dP P t (.slice e)] (c:xs.toList.map (ev ρ)=[Sl.v s]):bP P ρ ⟨d,.call ⟨.builtin .len,xs,#[t]⟩,ty,p,af,g⟩ H (.int .i64 s.len):=ju h.u rfl c
theorem V5 {xs:Array Operand} {t e:Nat} {s:Sl} [h:dP P t (.slice e)] (c:xs.toList.map (ev ρ)=[Sl.v s]):bP P ρ ⟨d,.call ⟨.builtin .cap,xs,#[t]⟩,ty,p,af,g⟩ H (.int .i64 s.cap):=Ti h.u rfl c
variable {tx tyy:TypeId} {kk:IntKind} {a b:Int} {x y:Operand}
theorem V6 (e:ev ρ x= .int kk a) (h:ev ρ y= .int kk b) (c:b≠0):bP P ρ ⟨d,.binOp .quo tx x y tyy,ty,p,af,g⟩ H (.int kk (kk.wrap (a.tdiv b))):=JS c e h
theorem V7 (e:ev ρ x= .int kk a) (h:ev ρ y= .int kk b) (c:b≠0):bP P ρ ⟨d,.binOp .rem tx x y tyy,ty,p,af,g⟩ H (.int kk (a.tmod b)):=FF c e h
theorem V8 {k2:IntKind} (e:ev ρ x= .int kk a) (h:ev ρ y= .int k2 b) (c:0<=b):bP P ρ ⟨d,.binOp .shl tx x y tyy,ty,p,af,g⟩ H (.int kk (wc kk a b)):=Td c e h
theorem V9 {k2:IntKind} (e:ev ρ x= .int kk a) (h:ev ρ y= .int k2 b) (c:0<=b):bP P ρ ⟨d,.binOp .shr tx x y tyy,ty,p,af,g⟩ H (.int kk (g8 kk a b)):=Te c e h
theorem WA {t:TypeId} {x:Operand} {a:Addr} {v:Value} (e:cellAt H a=some v) [c:jk P t] (h:ev ρ x= .pointer (some a)):bP P ρ ⟨d,.load t x,ty,p,af,g⟩ H v:=AB c.u h e
theorem U3 {t n:Nat} {x:Operand} {a:Addr} {cs:List Value} (e:bw H a n=some cs) [c:qZ P t n] (h:ev ρ x= .pointer (some a)):bP P ρ ⟨d,.load t x,ty,p,af,g⟩ H (.agg cs.toArray):=BB c.u h e
theorem WB {x:Operand} {a:Addr} {q:Option Addr} (c:q=some a) (e:ev ρ x= .pointer q):bP P ρ ⟨d,.nilCheck x,ty,p,af,g⟩ H (.pointer (some a)):=yr (UN e c)
theorem WC {t e size:Nat} {x h:Operand} {s:Sl} {r:IntKind} {i:Int} {a:Addr} (hi:Nf s size i a) [m:oe P t e size] (q:ev ρ x=Sl.v s) (c:ev ρ h= .int r i):bP P ρ ⟨d,.indexAddr t x h,ty,p,af,g⟩ H (.pointer (some a)):=kj m.u hi q c
theorem U4 {t n e size:Nat} {x h:Operand} {a0 a:Addr} {r:IntKind} {i:Int} (hi:Ng n a0 size i a) [m:ES P t n e size] (q:ev ρ x= .pointer (some a0)) (c:ev ρ h= .int r i):bP P ρ ⟨d,.indexAddr t x h,ty,p,af,g⟩ H (.pointer (some a)):=m9 m.u hi q c
theorem Jf {x:Operand} {k:IntKind} {l:Int} (h:ev ρ x= .int k l):∃k,ev ρ x= .int k l:=⟨k,h⟩
theorem WD {t e size:Nat} {x:Operand} {s r:Sl} {lo hi:Option Operand} {l h:Int} (q:Nh s size l h r) [w:oe P t e size] (z:ev ρ x=Sl.v s)
 (m:(match lo with|none=>l=0|some o=>∃k,ev ρ o= .int k l)) (c:(match hi with|none=>h=(s.len:Int)|some o=>∃k,ev ρ o= .int k h)):bP P ρ ⟨d,.slice t x lo hi none,ty,p,af,g⟩ H (Sl.v r):=JV w.u q z m c
theorem U5 {t n e size:Nat} {x:Operand} {a:Addr} {r:Sl} {lo hi:Option Operand} {l h:Int} (q:Nr n a size l h r) [s:ES P t n e size] (w:ev ρ x= .pointer (some a))
 (m:(match lo with|none=>l=0|some o=>∃k,ev ρ o= .int k l)) (c:(match hi with|none=>h=(n:Int)|some o=>∃k,ev ρ o= .int k h)):bP P ρ ⟨d,.slice t x lo hi none,ty,p,af,g⟩ H (Sl.v r):=R8 s.u q w m c
theorem U6 {t e size:Nat} {x lo hi z:Operand} {s r:Sl} {l h m:Int} (C:N1 s size l h m r) [E:oe P t e size] (F:ev ρ x=Sl.v s)
 (q:∃k,ev ρ lo= .int k l) (c:∃k,ev ρ hi= .int k h) (w:∃k,ev ρ z= .int k m):bP P ρ ⟨d,.slice t x (some lo) (some hi) (some z),ty,p,af,g⟩ H (Sl.v r):=La E.u C F q c w
theorem WE {src dst e:TypeId} {x:Operand} {s:Sl} {v:ByteArray} (h:∃l:List Int,df H s 1=some (l.map (Value.int .u8))/\v=strOf l) [c:dP P src (.slice e)] [m:dP P dst .string] [q:dP P e (.int .u8)] (r:ev ρ x=Sl.v s):
 bP P ρ ⟨d,.convert src dst x,ty,p,af,g⟩ H (.string v):=Tm c.u m.u q.u r h
theorem WG {s i off t:Nat} {x:Operand} {cs:List Value} {v:Value} [hf:BZ P s i off t] [c:jk P t] (h:ev ρ x= .agg cs.toArray) (e:cs[off]?=some v):bP P ρ ⟨d,.field s x i,ty,p,af,g⟩ H v:=uO hf.u c.u h e
end
section
variable {P:Program} {ρ:Env} {T H:PH} {d:Option Nat} {ty:TypeId} {p:String} {af:Array Edge} {gu:Option (Nat×Bool)} {K:Value->PH->PH->Prop} {A:Prop}
variable {xs:Array Operand} {ats:Array TypeId} {f:FuncId} {vs:List Value}
theorem U7 {m:PH->Prop} {v0:Value} [c:aj P f A vs H λv H'=>v=v0/\m H'] (r:Pt ρ xs.toList vs) (h:∀H',m H'->K v0 T H'):A->cv P ρ ⟨d,.call ⟨.value (.func f),xs,ats⟩,ty,p,af,gu⟩ T H K:=
 λa=>rU c.b r (c.u a) λv H' ⟨e,q⟩=>by subst e;exact h H' q
theorem U8 {α:Type} {e:α->Value} {m:α->PH->Prop} [c:aj P f A vs H λv H'=>∃x,v=e x/\m x H'] (r:Pt ρ xs.toList vs) (h:∀x H',m x H'->K (e x) T H'):A->cv P ρ ⟨d,.call ⟨.value (.func f),xs,ats⟩,ty,p,af,gu⟩ T H K:=
 λa=>rU c.b r (c.u a) λv H' ⟨x,e,q⟩=>by subst e;exact h x H' q
theorem U9 {α β:Type} {e:α->β->Value} {m:α->β->PH->Prop} [c:aj P f A vs H λv H'=>∃x y,v=e x y/\m x y H'] (r:Pt ρ xs.toList vs) (h:∀x y H',m x y H'->K (e x y) T H'):A->cv P ρ ⟨d,.call ⟨.value (.func f),xs,ats⟩,ty,p,af,gu⟩ T H K:=
 λa=>rU c.b r (c.u a) λv H' ⟨x,y,e,q⟩=>by subst e;exact h x y H' q
theorem VC {α β γ:Type} {e:α->β->γ->Value} {m:α->β->γ->PH->Prop} [c:aj P f A vs H λv H'=>∃x y z,v=e x y z/\m x y z H'] (r:Pt ρ xs.toList vs) (h:∀x y z H',m x y z H'->K (e x y z) T H'):A->cv P ρ ⟨d,.call ⟨.value (.func f),xs,ats⟩,ty,p,af,gu⟩ T H K:=
 λa=>rU c.b r (c.u a) λv H' ⟨x,y,z,e,q⟩=>by subst e;exact h x y z H' q
theorem WH {e:TypeId} {z:Value} {cs:List Value} {c:Addr->PH->Prop} [r:IZ P e z] (m:z.cells=cs.toArray) (h:∀a H',c a H'->K (.pointer (some a)) T H'):ag H (row cs e) c->cv P ρ ⟨d,.alloc e,ty,p,af,gu⟩ T H K:=
 λa=>cT r.u m λx H' q=>h x H' (a x H' q)
theorem WI {e:TypeId} {x:Operand} {v:Value} {cs:List Value} {c:Addr->PH->Prop} (r:ev ρ x=v) (m:v.cells=cs.toArray) (h:∀a H',c a H'->K (.pointer (some a)) T H'):ag H (row cs e) c->cv P ρ ⟨d,.box e x,ty,p,af,gu⟩ T H K:=
 λa=>cE r m λx H' q=>h x H' (a x H' q)
theorem VD {t m:Nat} {x y:Operand} {a:Addr} {v:Value} {vs:List Value} {c:PH->Prop} [e:iX P t m] (s:ev ρ x= .pointer (some a)) (w:ev ρ y=v) (q:v.cells=vs.toArray) (r:vs.length=m) (g:∀H',c H'->K undef T H'):
 aX H a vs c->cv P ρ ⟨d,.store t x y,ty,p,af,gu⟩ T H K:=λh=>W.dS h e.u s w g q r
theorem VE {t m:Nat} {x y:Operand} {a:Addr} {v:Value} {vs:List Value} {c:PH->Prop} [e:iX P t m] (r:ev ρ x= .pointer (some a)) (s:ev ρ y=v) (q:v.cells=vs.toArray) (g:∀H',c H'->K undef T H'):
 Bu H a m vs c->cv P ρ ⟨d,.store t x y,ty,p,af,gu⟩ T H K:=λh=>W.dS h.2 e.u r s g q h.1
theorem VF {t e size m:Nat} {x y:Operand} {z:Value} {zs:List Value} {F c:Int} {k1 k2:IntKind} {s:Sl->PH->Prop} [I:oe P t e size] [hm:vG P e m] [M:IZ P e z] (J:ev ρ x= .int k1 F) (L:ev ρ y= .int k2 c) (E:z.cells=zs.toArray) (w:Nat.ble 1 m=true) (C:zs.length=size) (q:Nat.ble 1 size=true)
 (h:∀r H',s r H'->K (Sl.v r) T H'):xO H e m zs F c s->cv P ρ ⟨d,.makeSlice t x y,ty,p,af,gu⟩ T H K:=
 λa=>lW I.u hm.u (Nat.le_of_ble_eq_true w) M.u E C (Nat.le_of_ble_eq_true q) J L a.1 λr H' G=>h r H' (a.2 r H' G)
theorem VG {t e size:Nat} {c:Sl->PH->Prop} [q:oe P t e size] (h:∀r H',c r H'->K (Sl.v r) T H'):bV H (row [] e) 0 c->cv P ρ ⟨d,.buildSlice t 0 #[],ty,p,af,gu⟩ T H K:=λa=>R7 q.u λr H' m=>h r H' (a r H' m)
theorem VH {t e size len:Nat} {parts:Array (Nat×Operand)} {ps:List (Nat×Value)} {z:Value} {zs cs:List Value} {c:Sl->PH->Prop} [F:oe P t e size] [G:IZ P e z] (s:Pm ρ parts.toList ps) (C:z.cells=zs.toArray) (w:zs.length=size) (m:Nat.beq (len*size) 0=false) (q:Nat.ble (len*size) (2 ^ 24)=true)
 (hf:Instr.fill (λi=>some (i*size,size)) (bz len zs).toArray ps=some cs.toArray) (h:∀r H',c r H'->K (Sl.v r) T H'):bV H (row cs e) len c->cv P ρ ⟨d,.buildSlice t len parts,ty,p,af,gu⟩ T H K:=
 λa=>nA F.u G.u C w (λe=>by rw[e] at m;cases m) (Nat.le_of_ble_eq_true q) s hf λr H' E=>h r H' (a r H' E)
theorem VJ {t e size m:Nat} {z:Value} {zs:List Value} {s x:Sl} {G M:TypeId} {q:Sl->PH->Prop} [I:oe P t e size] [hm:vG P e m] [L:IZ P e z] [E:dP P G (.slice M)] (J:Pt ρ xs.toList [Sl.v s,Sl.v x]) (F:z.cells=zs.toArray) (w:Nat.ble 1 m=true) (C:zs.length=size) (c:Nat.ble 1 size=true)
 (hk:∀r H',q r H'->K (Sl.v r) T H'):fG H e size m zs s x q->cv P ρ ⟨d,.call ⟨.builtin .append,xs,#[t,G]⟩,ty,p,af,gu⟩ T H K:=
 λh=>iu I.u hm.u (Nat.le_of_ble_eq_true w) L.u F C (Nat.le_of_ble_eq_true c) rfl rfl E.u J h hk
theorem VK {t e size m:Nat} {z:Value} {zs:List Value} {s:Sl} {n:Int} {G:TypeId} {kk:IntKind} {q:Sl->PH->Prop} [I:oe P t e size] [hm:vG P e m] [L:IZ P e z] [E:dP P G (.int kk)] (J:Pt ρ xs.toList [Sl.v s,.int .i64 n]) (F:z.cells=zs.toArray) (w:Nat.ble 1 m=true) (C:zs.length=size) (c:Nat.ble 1 size=true)
 (hk:∀r H',q r H'->K (Sl.v r) T H'):FH H e size m zs s n q->cv P ρ ⟨d,.call ⟨.builtin .append,xs,#[t,G]⟩,ty,p,af,gu⟩ T H K:=
 λh=>Je I.u hm.u (Nat.le_of_ble_eq_true w) L.u F C (Nat.le_of_ble_eq_true c) rfl rfl E.u J h hk
theorem VL {t w e size:Nat} {s x:Sl} {c:Int->PH->Prop} [m:oe P t e size] (q:Pt ρ xs.toList [Sl.v s,Sl.v x]) (hk:∀r H',c r H'->K (.int .i64 r) T H'):mZ H size s x c->cv P ρ ⟨d,.call ⟨.builtin .copy,xs,#[t,w]⟩,ty,p,af,gu⟩ T H K:=λh=>IG m.u rfl q h hk
theorem VM {t e size:Nat} {z:Value} {zs:List Value} {s:Sl} {c:PH->Prop} [w:oe P t e size] [E:IZ P e z] (C:Pt ρ xs.toList [Sl.v s]) (q:z.cells=zs.toArray) (m:zs.length=size) (r:zs.all cI=true)
 (hk:∀H',c H'->K (.tuple #[]) T H'):yP H size zs s c->cv P ρ ⟨d,.call ⟨.builtin .clear,xs,#[t]⟩,ty,p,af,gu⟩ T H K:=λh=>Nk w.u E.u q m rfl r C h hk
theorem VN {t e:TypeId} {x:Operand} {s:Sl} {c:PH->Prop} [m:dP P t (.slice e)] [q:dP P e (.int .u8)] (r:ev ρ x=Sl.v s) (hk:∀H',c H'->K (Sl.v s) T H'):PD H s c->cv P ρ ⟨d,.convert t t x,ty,p,af,gu⟩ T H K:=λh=>QG m.u q.u r h hk
end
class Dr {α:Type} (m:Nat) (k:List α) (k2:outParam (List α)):Prop where
 u:k.drop m=k2
instance {α:Type} {k:List α}:Dr 0 k k:=⟨rfl⟩
instance {α:Type} {m:Nat} {x:α} {k k2:List α} [h:Dr m k k2]:Dr (m+1) (x::k) k2:=⟨h.u⟩
class Ba (v:Value) (l:outParam (List Value)):Prop
instance {k:IntKind} {a:Int}:Ba (.int k a) [.int k a]:=⟨⟩
instance {a:Bool}:Ba (.bool a) [.bool a]:=⟨⟩
instance {a:Option Addr}:Ba (.pointer a) [.pointer a]:=⟨⟩
instance {a:Option Addr} {n m:Nat}:Ba (.slice a n m) [.slice a n m]:=⟨⟩
instance {s:Sl}:Ba (Sl.v s) [Sl.v s]:=⟨⟩
instance {s:ByteArray}:Ba (.string s) [.string s]:=⟨⟩
instance {f:Fn} {a b:Array Value}:Ba (.func f a b) [.func f a b]:=⟨⟩
instance {l:List Value}:Ba (.agg l.toArray) l:=⟨⟩
class Fk (l:List Value) (n:Nat) (v:List Value) (r:outParam (List Value)):Prop
instance {l:List Value}:Fk l 0 [] l:=⟨⟩
instance {l v r:List Value} {x y:Value} [Fk l 0 v r]:Fk (x::l) 0 (y::v) (y::r):=⟨⟩
instance {l v r:List Value} {x:Value} {n:Nat} [Fk l n v r]:Fk (x::l) (n+1) v (x::r):=⟨⟩
class PJ (pl:List (Nat×Nat)) (i:Nat) (o:outParam Nat):Prop
instance {a b:Nat} {r:List (Nat×Nat)}:PJ ((a,b)::r) 0 a:=⟨⟩
instance {x:Nat×Nat} {r:List (Nat×Nat)} {i o:Nat} [PJ r i o]:PJ (x::r) (i+1) o:=⟨⟩
class PK (pl:List (Nat×Nat)) (zs:List Value) (ps:List (Nat×Value)) (cs:outParam (List Value)):Prop
instance {pl:List (Nat×Nat)} {zs:List Value}:PK pl zs [] zs:=⟨⟩
instance {pl:List (Nat×Nat)} {zs l c cs:List Value} {ps:List (Nat×Value)} {i o:Nat} {v:Value} [PJ pl i o] [Ba v l] [Fk zs o l c] [PK pl c ps cs]:PK pl zs ((i,v)::ps) cs:=⟨⟩
class PL (zs:List Value) (ps:List (Nat×Value)) (cs:outParam (List Value)):Prop
instance {zs:List Value}:PL zs [] zs:=⟨⟩
instance {zs l c cs:List Value} {ps:List (Nat×Value)} {i:Nat} {v:Value} [Ba v l] [Fk zs i l c] [PL c ps cs]:PL zs ((i,v)::ps) cs:=⟨⟩
section
variable {P:Program} {ρ:Env} {T H:PH} {d:Option Nat} {ty:TypeId} {p:String} {af:Array Edge} {g:Option (Nat×Bool)}
theorem UU {t:Nat} {parts:Array (Nat×Operand)} {pl:List (Nat×Nat)} {ps:List (Nat×Value)} {z:Value} {zs cs:List Value} [m:kU P t pl] [q:IZ P t z] (h:z.cells=zs.toArray) (e:Pm ρ parts.toList ps)
 (c:PK pl zs ps cs) (hf:Instr.fill (λi=>pl.toArray[i]?) zs.toArray ps=some cs.toArray):bP P ρ ⟨d,.build t parts,ty,p,af,g⟩ H (.agg cs.toArray):=cH m.u q.u h e hf
theorem SI {t len e size:Nat} {parts:Array (Nat×Operand)} {ps:List (Nat×Value)} {z:Value} {zs cs:List Value} [q:ES P t len e size] [r:IZ P t z] (m:z.cells=zs.toArray) (h:Pm ρ parts.toList ps)
 (c:PL zs ps cs) (hf:Instr.fill (λi=>some (i*size,size)) zs.toArray ps=some cs.toArray):bP P ρ ⟨d,.build t parts,ty,p,af,g⟩ H (.agg cs.toArray):=uQ q.u r.u m h hf
end
section
variable {P:Program} {rd:Option Nat} {n:Nat} {k:List Item} {ρ:Env} {D:List Deferred} {T H:PH} {Q:mr} {ops:Array Oper} {l:List Oper} {i:Nat} {A B:Prop}
theorem WJ {x y:Code} (h:A->Go P rd n (.code x:: .code y::k) ρ D T H Q):A->Go P rd n (.code (.seq x y)::k) ρ D T H Q:=λa=>.seq (h a)
theorem WK {id:Nat} (h:A->bO P rd n l.toArray l 0 k ρ D T H Q):A->Go P rd n (.code (.region id l.toArray false)::k) ρ D T H Q:=λa=>.region rfl (by simpa using h a)
theorem WL (h:A->Go P rd n k ρ D T H Q):A->bO P rd n ops [] i k ρ D T H Q:=λa=>.nil (h a)
theorem WN {id:Nat} {c:Code} (h:A->Go P rd n (.code c:: .inBlock id::k) ρ D T H Q):A->Go P rd n (.code (.block id c)::k) ρ D T H Q:=λa=>.block (h a)
theorem WO {l:Nat} (h:A->Go P rd n k ρ D T H Q):A->Go P rd n (.inBlock l::k) ρ D T H Q:=λa=>.inBlock (h a)
theorem WQ (h:A->Go P rd n k ρ D T H Q):A->Go P rd n (.code .skip::k) ρ D T H Q:=λa=>.skip (h a)
theorem WR {id:Nat} {c:List Item} (he:exitTo id k=some c) (h:A->Go P rd n c ρ D T H Q):A->Go P rd n (.code (.exit id)::k) ρ D T H Q:=λa=>.exit he (h a)
theorem WS {c:Operand} {x y:Code} {b:Bool} (m:ev ρ c= .bool b) (e:b=false) (h:A->Go P rd n (.code y::k) ρ D T H Q):A->Go P rd n (.code (.cond c x y)::k) ρ D T H Q:=λa=>W.N e m (h a)
theorem WT {c:Operand} {x y:Code} {b:Bool} (m:ev ρ c= .bool b) (q:b=true->(A->Go P rd n (.code x::k) ρ D T H Q)) (r:b=false->(B->Go P rd n (.code y::k) ρ D T H Q)):aJ b A B->Go P rd n (.code (.cond c x y)::k) ρ D T H Q:=
 λh=>W.J h (λe a=>W.C e m (q e a)) (λe a=>W.N e m (r e a))
structure IQ (A B:Prop):Prop where
 f:A->B
theorem Tn (h:A->B):IQ A B:=⟨h⟩
end
end Go.Kx.Au
namespace Go.Kx
abbrev mK {σ:Type} (m:Nat) (E:Env->σ->Prop) (k:σ->PH->Prop) (s:σ) (H:PH):Prop:=k s H
abbrev mB {σ:Type} (E:Env->σ->Prop) (k:σ->PH->Prop) (s:σ) (H:PH):Prop:=k s H
abbrev mL {σ:Type} (E:Env->σ->Prop) (body:σ->PH->(σ->PH->Prop)->Prop) (s:σ) (H:PH) (j:σ->PH->Prop):Prop:=body s H j
end Go.Kx
namespace Go.Kx.Au
open Go Go.Kx
section
variable {P:Program} {rd:Option Nat} {n:Nat} {k:List Item} {ρ:Env} {D:List Deferred} {T H:PH} {Q:mr} {ops:Array Oper} {l:List Oper} {i:Nat} {A B:Prop}
theorem UW {σ:Type} {m:Nat} {E:Env->σ->Prop} {kk:σ->PH->Prop} {body:(σ->PH->Prop)->Prop} {k2:List Item} [d:Dr m k k2] (c:∀s H ρ,IQ (E ρ s) (kk s H->Go P rd n k2 ρ D T H Q))
 (e:∀j:σ->PH->Prop,(∀s H ρ,j s H->E ρ s->Go P rd n k2 ρ D T H Q)->(body j->Go P rd n k ρ D T H Q)):aM (mK m E kk) body->Go P rd n k ρ D T H Q:=λ(h:aM kk body)=>rW m E h (λs H ρ a b=>d.u▸(c s H ρ).f b a) λj q=>e j (d.u▸q)
theorem WU {σ:Type} {E:Env->σ->Prop} {kk:σ->PH->Prop} {body:(σ->PH->Prop)->Prop} {c:Item} {k2:List Item} (e:∀s H ρ,IQ (E ρ s) (kk s H->Go P rd n k2 ρ D T H Q))
 (m:∀j:σ->PH->Prop,(∀s H ρ,j s H->E ρ s->Go P rd n k2 ρ D T H Q)->(body j->Go P rd n (c::k2) ρ D T H Q)):aM (mB E kk) body->Go P rd n (c::k2) ρ D T H Q:=λ(h:aM kk body)=>rW 1 E h (λs H ρ a b=>(e s H ρ).f b a) m
theorem WV {σ:Type} {m:Nat} {E:Env->σ->Prop} {kk:σ->PH->Prop} {body:(σ->PH->Prop)->Prop} {l2:List Oper} [d:Dr m l l2] (c:∀s H ρ,IQ (E ρ s) (kk s H->bO P rd n ops l2 (i+m) k ρ D T H Q))
 (e:∀j:σ->PH->Prop,(∀s H ρ,j s H->E ρ s->bO P rd n ops l2 (i+m) k ρ D T H Q)->(body j->bO P rd n ops l i k ρ D T H Q)):aM (mK m E kk) body->bO P rd n ops l i k ρ D T H Q:=λ(h:aM kk body)=>cS m E h (λs H ρ a b=>d.u▸(c s H ρ).f b a) λj q=>e j (d.u▸q)
theorem WW {σ:Type} {c:Code} {E:Env->σ->Prop} {m:σ->PH->(σ->PH->Prop)->Prop} {s0:σ} (r:E ρ s0)
 (h:∀ρ s H again,(∀q H' ρ',again q H'->E ρ' q->Go P rd n (.inLoop c::k) ρ' D T H' Q)->IQ (E ρ s) (m s H again->Go P rd n (.code c:: .inLoop c::k) ρ D T H Q)):bp (mL E m) s0 H->Go P rd n (.code (.loop c)::k) ρ D T H Q:=
 λa=>qK E a r λρ s H again e b g=>(h ρ s H again g).f e b
theorem WX {σ:Type} {J:σ->PH->Prop} {E:Env->σ->Prop} {s:σ} (c:∀s H ρ,J s H->E ρ s->Go P rd n k ρ D T H Q) (e:E ρ s):J s H->Go P rd n k ρ D T H Q:=λh=>c _ _ _ h e
theorem WY {σ:Type} {J:σ->PH->Prop} {E:Env->σ->Prop} {s:σ} (c:∀s H ρ,J s H->E ρ s->bO P rd n ops l i k ρ D T H Q) (e:E ρ s):J s H->bO P rd n ops l i k ρ D T H Q:=λh=>c _ _ _ h e
end
section
variable {P:Program} {n:Nat} {ρ:Env} {T H:PH} {k:List Item} {rd:Option Nat} {fn:Func}
theorem WZ {K:PH->Prop} {v0:Value} (e:fn.results= #[]) (m:v0= .tuple #[]):K H->Go P rd n [] ρ [] PH.none H λfi ρ D c H'=>(fi= .ret∨fi= .lU)/\∃v Tg,py D c Tg/\jN P fn ρ H' v/\v=v0/\K H':=
 λh=>by subst m;exact .lU ⟨.inr rfl,_,_,py.nil,iC e,rfl,h⟩
theorem Wa {α:Type} {e:α->Value} {K:α->PH->Prop} {a:Tmp} {x:α} (m:fn.results= #[.tmp a]) (q:ρ a=e x):K x H->Go P rd n (.code .ret::k) ρ [] PH.none H λfi ρ D c H'=>(fi= .ret∨fi= .lU)/\∃v Tg,py D c Tg/\jN P fn ρ H' v/\∃x,v=e x/\K x H':=
 λh=>W.E1 m q h
theorem Wb {α β:Type} {e:α->β->Value} {K:α->β->PH->Prop} {a b:Tmp} {x:α} {y:β} {u v:Value} (s:e x y= .tuple #[u,v]) (m:fn.results= #[.tmp a,.tmp b]) (q:ρ a=u) (r:ρ b=v):
 K x y H->Go P rd n (.code .ret::k) ρ [] PH.none H λfi ρ D c H'=>(fi= .ret∨fi= .lU)/\∃v Tg,py D c Tg/\jN P fn ρ H' v/\∃x y,v=e x y/\K x y H':=
 λh=>W.E (ir m q r) ⟨x,y,s.symm,h⟩
theorem Wc {α β γ:Type} {e:α->β->γ->Value} {K:α->β->γ->PH->Prop} {a b c:Tmp} {x:α} {y:β} {z:γ} {u v w:Value} (t:e x y z= .tuple #[u,v,w]) (q:fn.results= #[.tmp a,.tmp b,.tmp c]) (r:ρ a=u) (s:ρ b=v) (C:ρ c=w):
 K x y z H->Go P rd n (.code .ret::k) ρ [] PH.none H λfi ρ D m H'=>(fi= .ret∨fi= .lU)/\∃v Tg,py D m Tg/\jN P fn ρ H' v/\∃x y z,v=e x y z/\K x y z H':=
 λh=>W.E (Rp q r s C) ⟨x,y,z,t.symm,h⟩
end
section
variable {P:Program} {rd:Option Nat} {n:Nat} {k:List Item} {ρ:Env} {D:List Deferred} {T H:PH} {Q:mr} {ops:Array Oper} {l:List Oper} {i:Nat} {A B:Prop} {o:Op} {ty:TypeId} {p:String} {af:Array Edge} {d:Nat} {d':Option Nat} {j:Nat×Bool}
theorem VO {id:Nat} {c:Code} (h:A->Go P rd n (.code (.block id c)::k) ρ D T H Q):A->Go P rd n (.code (.block id c)::k) ρ D T H Q:=h
theorem VQ {id:Nat} (h:A->Go P rd n (.code (.region id ops true)::k) ρ D T H Q):A->Go P rd n (.code (.region id ops true)::k) ρ D T H Q:=h
theorem VR (h:A->Go P rd n [] ρ D T H Q):A->Go P rd n [] ρ D T H Q:=h
theorem VS {id:Nat} (h:A->Go P rd n (.code (.exit id)::k) ρ D T H Q):A->Go P rd n (.code (.exit id)::k) ρ D T H Q:=h
theorem VT {K:Value->PH->PH->Prop} {gu:Option (Nat×Bool)} (h:A->cv P ρ ⟨d',o,ty,p,af,gu⟩ T H K):A->cv P ρ ⟨d',o,ty,p,af,gu⟩ T H K:=h
theorem VU (h:A->bO P rd n ops (⟨some d,o,ty,p,af,none⟩::l) i k ρ D T H Q):A->bO P rd n ops (⟨some d,o,ty,p,af,none⟩::l) i k ρ D T H Q:=h
theorem VV (h:A->bO P rd n ops (⟨d',o,ty,p,af,some j⟩::l) i k ρ D T H Q):A->bO P rd n ops (⟨d',o,ty,p,af,some j⟩::l) i k ρ D T H Q:=h
theorem VW (h:A->bO P rd n ops (⟨none,o,ty,p,af,none⟩::l) i k ρ D T H Q):A->bO P rd n ops (⟨none,o,ty,p,af,none⟩::l) i k ρ D T H Q:=h
theorem VX {c:Operand} {x y:Code} (h:A->Go P rd n (.code (.cond c x y)::k) ρ D T H Q):A->Go P rd n (.code (.cond c x y)::k) ρ D T H Q:=h
theorem VY {c:Operand} {x y:Code} {b:Bool} (h:aJ b A B->Go P rd n (.code (.cond c x y)::k) ρ D T H Q):aJ b A B->Go P rd n (.code (.cond c x y)::k) ρ D T H Q:=h
theorem VZ (h:A->Go P rd n (.code .ret::k) ρ D T H Q):A->Go P rd n (.code .ret::k) ρ D T H Q:=h
theorem Va {G K:Prop} {b:Int} (g:b≠0->(K->G)):xP b K->G:=λh=>g h.1 h.2
theorem Vb {G K:Prop} {b:Int} (g:0<=b->(K->G)):Cg b K->G:=λh=>g h.1 h.2
theorem Vc {G K:Prop} {cs:List Value} {n:Nat} (g:cs.length=n->(K->G)):Nj cs n K->G:=λh=>g h.1 h.2
theorem Vd {α:Type} {e:α->Value} {v:Value} {F:α->Prop} {G:Value->Prop} (h:∀x,F x->G (e x)):(∃x,v=e x/\F x)->G v:=λ⟨x,c,m⟩=>by subst c;exact h x m
theorem Ve {w v:Value} {F:Prop} {G:Value->Prop} (h:F->G w):(v=w/\F)->G v:=λ⟨c,e⟩=>by subst c;exact h e
variable {fn:Func}
theorem Wd {a:Tmp} {v:Value} (h:ρ a=v):RV P ρ H (.tmp a) v:=qt h
theorem We {a:Tmp} {t m:TypeId} {c:Addr} {cs:List Value} (e:ρ a= .pointer (some c)) [h:qZ P t m] (q:bw H c m=some cs):RV P ρ H (.cell a t) (.agg cs.toArray):=pQ h.u e q
theorem Wf {α:Type} {e:α->Value} {K:α->PH->Prop} {r:ResultVar} {x:α} {u:Value} (m:fn.results= #[r]) (q:RV P ρ H r u) (he:e x=u):K x H->Go P rd n (.code .ret::k) ρ [] PH.none H λfi ρ D c H'=>(fi= .ret∨fi= .lU)/\∃v Tg,py D c Tg/\jN P fn ρ H' v/\∃x,v=e x/\K x H':=
 λh=>W.E (mw m q) ⟨x,he.symm,h⟩
theorem Wg {α β:Type} {e:α->β->Value} {K:α->β->PH->Prop} {r s:ResultVar} {x:α} {y:β} {u v:Value} (m:fn.results= #[r,s]) (q:RV P ρ H r u) (t:RV P ρ H s v) (he:e x y= .tuple #[u,v]):
 K x y H->Go P rd n (.code .ret::k) ρ [] PH.none H λfi ρ D c H'=>(fi= .ret∨fi= .lU)/\∃v Tg,py D c Tg/\jN P fn ρ H' v/\∃x y,v=e x y/\K x y H':=λh=>W.E (yR m q t) ⟨x,y,he.symm,h⟩
theorem Wh {α β γ:Type} {e:α->β->γ->Value} {K:α->β->γ->PH->Prop} {r s q:ResultVar} {x:α} {y:β} {z:γ} {u v w:Value} (m:fn.results= #[r,s,q]) (t:RV P ρ H r u) (C:RV P ρ H s v) (F:RV P ρ H q w) (he:e x y z= .tuple #[u,v,w]):
 K x y z H->Go P rd n (.code .ret::k) ρ [] PH.none H λfi ρ D c H'=>(fi= .ret∨fi= .lU)/\∃v Tg,py D c Tg/\jN P fn ρ H' v/\∃x y z,v=e x y z/\K x y z H':=λh=>W.E (yS m t C F) ⟨x,y,z,he.symm,h⟩
end
section
variable {P:Program}
theorem aR {t:TypeId} [h:jk P t]:we P t:=h.u
theorem eY {t n:Nat} [h:qZ P t n]:FU P t n:=h.u
theorem dB {t e size:Nat} [h:oe P t e size]:iK P t e size:=h.u
theorem tK {t len e size:Nat} [h:ES P t len e size]:uN P t len e size:=h.u
theorem bB {s i off:Nat} [h:bK P s i off]:Bq P s i off:=h.u
theorem IS {s i off t:Nat} [h:BZ P s i off t]:Dl P s i off t:=h.u
theorem bq {t n:Nat} [h:iX P t n]:(P.info? t).map (·.size)=some n:=h.u
theorem xZ {t:Nat} {v:Value} [h:IZ P t v]:bR P t v:=h.u
theorem iv {t:Nat} {l:List (Nat×Nat)} [h:kU P t l]:yu P t l:=h.u
theorem jL {t n:Nat} [h:vG P t n]:fT P t n:=h.u
theorem gz [h:SE P]:P.follows .mixedOrders=true:=h.u
theorem cu {f:FuncId} {A:Prop} {vs:List Value} {H:PH} {R:Value->PH->Prop} [c:aj P f A vs H R] (h:A):dv P f vs.toArray H R:=c.u h
theorem cb {f:FuncId} {A:Prop} {vs:List Value} {H:PH} {R:Value->PH->Prop} [c:aj P f A vs H R] (h:A):Body P f:=c.b
end
end Go.Kx.Au
end
section
namespace Go.Kx
def mP (l:List Nat) (A:Prop):Prop:=A
theorem mP.i {l:List Nat} {A:Prop} (h:A):mP l A:=h
abbrev mQ {σ:Type} (S2:Nat) (L2:List Nat) (E:Env->σ->Prop) (k:σ->PH->Prop) (s:σ) (H:PH):Prop:=k s H
def SJ (ops:Array Oper) (x:Nat):Nat->List (Nat×List Nat)->List (Nat×List Nat)
 | 0,l=>l
 |f+1,l=>SJ ops x f (match l.find? (λq=>oW ops (x+f) q.1) with|some q=>(x+f,q.1::q.2)::l|none=>l)
def UX (ops:Array Oper) (x j:Nat):List Nat:=match SJ ops x (j-x) [(j,[])] with
 |(y,c)::_=>if y==x then c else[]
 |[]=>[]
end Go.Kx
namespace Go.Kx.Au
open Go Go.Kx
section
variable {P:Program} {rd:Option Nat} {n:Nat} {k:List Item} {ρ ρ2:Env} {D:List Deferred} {T H H2:PH} {Q:mr} {ops:Array Oper} {l r:List Nat} {i j S:Nat} {L:List Nat} {A:Prop} {af:Array Edge} {ty:TypeId} {p:String} {o:Op} {d:Nat} {G:List Nat->Prop} {dd:Option Nat}
theorem Wj {id:Nat} [m:SE P] (h:A->bG P rd n ops k 0 [] ρ D T H Q):A->Go P rd n (.code (.region id ops true)::k) ρ D T H Q:=λa=>W.dr m.u (h a)
theorem Wk {G:Prop} (h:A->G):mP [] A->G:=h
theorem Lc {α:Type} {G:Prop} {F K:α->Prop} (g:∀x,F x->(mP l (K x)->G)):mP l (∃x,F x/\K x)->G:=λ⟨x,a,k⟩=>g x a k
theorem Wl {G K:Prop} {b:Int} (g:b≠0->(mP l K->G)):mP l (xP b K)->G:=λh=>g h.1 h.2
theorem Wm {G K:Prop} {b:Int} (g:0<=b->(mP l K->G)):mP l (Cg b K)->G:=λh=>g h.1 h.2
theorem Ld {v:Value} (b:ops[i]?=some ⟨some d,o,ty,p,af,none⟩) (f:bP P ρ ⟨some d,o,ty,p,af,none⟩ PH.none v) (q:vA ops S i d (S|||2 ^ i)=true) (h:mP l A->bG P rd n ops k (S|||2 ^ i) L (bL ρ d v) D T H Q):mP (i::l) A->bG P rd n ops k S L ρ D T H Q:=λa=>xR b q rfl f (h a)
theorem Wn {v:Value} {t:TypeId} {x:Operand} (b:ops[i]?=some ⟨some d,.load t x,ty,p,af,none⟩) (f:bP P ρ ⟨some d,.load t x,ty,p,af,none⟩ H v) (q:vA ops S i d (S|||2 ^ i)=true) (h:mP l A->bG P rd n ops k (S|||2 ^ i) (i::L) (bL ρ d v) D T H Q):mP (i::l) A->bG P rd n ops k S L ρ D T H Q:=λa=>xS b q rfl f (h a)
section
variable {m e:Nat} {c g:Bool}
theorem UY {v:Value} (f:ops[i]?=some ⟨some d,o,ty,p,af,some (m,g)⟩) (he:(ops[m]?).bind (·.dst)=some e) (t:ρ e= .bool c) (b:c=g) (q:bP P ρ ⟨some d,o,ty,p,af,some (m,g)⟩ PH.none v) (s:vA ops S i d (S|||2 ^ i)=true) (h:mP l A->bG P rd n ops k (S|||2 ^ i) L (bL ρ d v) D T H Q):mP (i::l) A->bG P rd n ops k S L ρ D T H Q:=λa=>xR f s (jP rfl he t b) q (h a)
theorem Wo {v:Value} {t:TypeId} {x:Operand} (f:ops[i]?=some ⟨some d,.load t x,ty,p,af,some (m,g)⟩) (he:(ops[m]?).bind (·.dst)=some e) (u:ρ e= .bool c) (b:c=g) (q:bP P ρ ⟨some d,.load t x,ty,p,af,some (m,g)⟩ H v) (s:vA ops S i d (S|||2 ^ i)=true) (h:mP l A->bG P rd n ops k (S|||2 ^ i) (i::L) (bL ρ d v) D T H Q):mP (i::l) A->bG P rd n ops k S L ρ D T H Q:=λa=>xS f s (jP rfl he u b) q (h a)
theorem Wp (f:ops[i]?=some ⟨some d,o,ty,p,af,some (m,g)⟩) (he:(ops[m]?).bind (·.dst)=some e) (s:ρ e= .bool c) (b:c= !g) (q:vA ops S i d (S|||2 ^ i)=true) (h:mP l A->bG P rd n ops k (S|||2 ^ i) L (bL ρ d undef) D T H Q):mP (i::l) A->bG P rd n ops k S L ρ D T H Q:=λa=>AH f q (Dm rfl he s b) (h a)
theorem Wq (b:ops[i]?=some ⟨some d,o,ty,p,af,some (m,g)⟩) (he:(ops[m]?).bind (·.dst)=some e) (q:ρ e=undef) (f:vA ops S i d (S|||2 ^ i)=true) (h:mP l A->bG P rd n ops k (S|||2 ^ i) L (bL ρ d undef) D T H Q):mP (i::l) A->bG P rd n ops k S L ρ D T H Q:=λa=>AH b f (Ci rfl he q) (h a)
theorem Ws (he:(ops[m]?).bind (·.dst)=some e) (b:ρ e= .bool c) (a:c=g):want ops ρ ⟨dd,o,ty,p,af,some (m,g)⟩=true:=jP rfl he b a
end
theorem UZ {b:Oper} (s:ops[i]?=some b) (he:N2 b.op=true) (hw:want ops ρ b=true) (f:EM ops n S [i]=true) (h:A->cv P ρ b T H λv q H'=>∃L2,Re P ops i ρ (lA ρ b.dst v) H' L L2/\bG P rd n ops k (S|||2 ^ i) L2 (lA ρ b.dst v) D q H' Q):mP [i] A->bG P rd n ops k S L ρ D T H Q:=λa=>yx f s rfl hw (h a)
theorem Ua {b:Oper} {v:Value} (q:ops[i]?=some b) (hw:want ops ρ b=true) (f:EM ops n S [i]=true) (s:bP P ρ b H v) (h:mP l A->∃L2,Re P ops i ρ (lA ρ b.dst v) H L L2/\bG P rd n ops k (S|||2 ^ i) L2 (lA ρ b.dst v) D T H Q):mP (i::l) A->bG P rd n ops k S L ρ D T H Q:=λa=>yx f q rfl hw (s.do (h a))
theorem Wu (h:A->G []):A->∃L2,Re P ops j ρ ρ2 H2 [] L2/\G L2:=λa=>⟨[],rfl,h a⟩
theorem Wv {x:Nat} (q:(chain ops (x::UX ops x j)&&(x::UX ops x j).getLast?==some j)=true) (h:A->∃L2,Re P ops j ρ ρ2 H2 r L2/\G L2):A->∃L2,Re P ops j ρ ρ2 H2 (x::r) L2/\G L2:=λa=>let⟨L2,b,f⟩:=h a;⟨L2,W.rl _ b q,f⟩
theorem Ww {x t:Nat} {y:Operand} {a:Addr} {v:Value} {gu:Option (Nat×Bool)} (z:ops[x]?=some ⟨some d,.load t y,ty,p,af,gu⟩) [B:jk P t] (w:ev ρ2 y= .pointer (some a)) (C:ρ d=v) (h:A->∃b,Re P ops j ρ ρ2 H2 r b/\G (x::b)):ar H2 a v A->∃L2,Re P ops j ρ ρ2 H2 (x::r) L2/\G L2:=
 λf=>let⟨b,q,s⟩:=h f.2;⟨_,W.rr z rfl (by rw[C];exact AB B.u w f.1) q,s⟩
theorem Wx {x t m:Nat} {y:Operand} {a:Addr} {cs:List Value} {gu:Option (Nat×Bool)} (w:ops[x]?=some ⟨some d,.load t y,ty,p,af,gu⟩) [z:qZ P t m] (v:ev ρ2 y= .pointer (some a)) (B:ρ d= .agg cs.toArray) (h:A->∃b,Re P ops j ρ ρ2 H2 r b/\G (x::b)):fU H2 a m cs A->∃L2,Re P ops j ρ ρ2 H2 (x::r) L2/\G L2:=
 λf=>let⟨b,q,s⟩:=h f.2;⟨_,W.rr w rfl (by rw[B];exact BB z.u v f.1) q,s⟩
theorem Wy {x t:Nat} {y:Operand} {a:Addr} {v:Value} {gu:Option (Nat×Bool)} (z:ops[x]?=some ⟨some d,.load t y,ty,p,af,gu⟩) [B:jk P t] (w:ev ρ2 y= .pointer (some a)) (C:ρ d=v) (E:cellAt H2 a=some v) (h:A->∃b,Re P ops j ρ ρ2 H2 r b/\G (x::b)):A->∃L2,Re P ops j ρ ρ2 H2 (x::r) L2/\G L2:=
 λf=>let⟨b,q,s⟩:=h f;⟨_,W.rr z rfl (by rw[C];exact AB B.u w E) q,s⟩
theorem Vf (h:mP (i::l) A->bG P rd n ops k S L ρ D T H Q):mP (i::l) A->bG P rd n ops k S L ρ D T H Q:=h
theorem Vg (h:A->bG P rd n ops k S L ρ D T H Q):A->bG P rd n ops k S L ρ D T H Q:=h
theorem Vh {x:Nat} (h:A->∃L2,Re P ops j ρ ρ2 H2 (x::r) L2/\G L2):A->∃L2,Re P ops j ρ ρ2 H2 (x::r) L2/\G L2:=h
theorem Wz {σ:Type} {S2:Nat} {L2:List Nat} {E:Env->σ->Prop} {kk:σ->PH->Prop} {body:(σ->PH->Prop)->Prop} (q:∀s H ρ,IQ (E ρ s) (kk s H->bG P rd n ops k S2 L2 ρ D T H Q))
 (t:∀j:σ->PH->Prop,(∀s H ρ,j s H->E ρ s->bG P rd n ops k S2 L2 ρ D T H Q)->(body j->bG P rd n ops k S L ρ D T H Q)):aM (mQ S2 L2 E kk) body->bG P rd n ops k S L ρ D T H Q:=λ(h:aM kk body)=>xT S2 L2 E h (λs H ρ a b=>(q s H ρ).f b a) t
theorem W0 {σ:Type} {J:σ->PH->Prop} {E:Env->σ->Prop} {s:σ} {S2:Nat} {L2:List Nat} (c:∀s H ρ,J s H->E ρ s->bG P rd n ops k S2 L2 ρ D T H Q) (a:(S==S2&&L.all (λx=>L2.contains x))=true) (b:E ρ s):J s H->bG P rd n ops k S L ρ D T H Q:=λh=>by
 simp only[Bool.and_eq_true,beq_iff_eq] at a
 obtain⟨a,f⟩:=a
 subst a
 exact ud f (c _ _ _ h b)
theorem W3 (b:(u0 ops&&xQ ops n&&(List.range ops.size).all λi=>S.testBit i)=true) (h:A->Go P rd n k ρ D T H Q):A->bG P rd n ops k S L ρ D T H Q:=λa=>EN b (h a)
end
section
variable {P:Program} {ρ:Env} {T H:PH} {d:Option Nat} {ty:TypeId} {p:String} {af:Array Edge} {gu:Option (Nat×Bool)} {K:Value->PH->PH->Prop}
theorem Vj {t e size m:Nat} {x y:Operand} {z:Value} {zs:List Value} {f c:Int} {k1 k2:IntKind} {q:Sl->PH->Prop} [F:oe P t e size] [hm:vG P e m] [M:IZ P e z] (I:ev ρ x= .int k1 f) (J:ev ρ y= .int k2 c) (w:sH m f c) (C:z.cells=zs.toArray) (s:Nat.ble 1 m=true) (B:zs.length=size) (b:Nat.ble 1 size=true)
 (h:∀r H',q r H'->K (Sl.v r) T H'):mC H (row (bz c.toNat zs) e) f c q->cv P ρ ⟨d,.makeSlice t x y,ty,p,af,gu⟩ T H K:=
 λa=>lW F.u hm.u (Nat.le_of_ble_eq_true s) M.u C B (Nat.le_of_ble_eq_true b) I J w λr H' E=>h r H' (a r H' E)
end
end Go.Kx.Au
end
section
namespace Go.Kx.Au
open Go Go.Kx
section
variable {P:Program} {ρ:Env} {x:Operand}
theorem W8 {a:Option Addr} (h:ev ρ x= .pointer a):ev ρ x= .pointer a:=h
theorem W9 {k:IntKind} {a:Int} (h:ev ρ x= .int k a):ev ρ x= .int k a:=h
theorem XA {a:Bool} (h:ev ρ x= .bool a):ev ρ x= .bool a:=h
theorem XB (h:ev ρ x=Sl.v Sl.nil):ev ρ x=Sl.v Sl.nil:=h
theorem XC {a:Sl} (h:ev ρ x=Sl.v a):ev ρ x=Sl.v a:=h
theorem XD {a:Array Value} (h:ev ρ x= .tuple a):ev ρ x= .tuple a:=h
theorem XE {a:Array Value} (h:ev ρ x= .agg a):ev ρ x= .agg a:=h
theorem XF (h:ev ρ x= .nilFunc):ev ρ x= .nilFunc:=h
theorem XG {a:Fn} {u w:Array Value} (h:ev ρ x= .func a u w):ev ρ x= .func a u w:=h
end
theorem zS {X:Prop} (h:X:=by first|exact rfl|assumption):X:=h
theorem zV {X:Prop} (h:X:=by first|exact W9 rfl|exact W8 rfl|exact XA rfl|exact XB rfl|exact XC rfl|exact XD rfl|exact XE rfl|exact zvY rfl|exact zvM rfl|exact XG rfl|exact XF rfl|assumption|((conv=>lhs;whnf);try rfl)):X:=h
theorem zT {X:Prop} (h:X:=by exact rfl):X:=h
theorem Cs {X:Prop} (h:X:=by repeat (first|exact SF|refine SG zS ?_)):X:=h
theorem Le {X:Prop} (h:X:=by repeat (first|exact Ut|apply Uu|exact zV)):X:=h
theorem PM {X:Prop} (h:X:=by repeat (first|exact SF|apply SG|exact zV)):X:=h
theorem IT {X:Prop} (h:X:=by first|exact Wd zS|exact zrc zS (by assumption)|exact We zS (by assumption)):X:=h
theorem zK {X:Prop} (h:X:=by decide+kernel):X:=h
theorem zD {X:Prop} (h:X:=by first|decide|assumption):X:=h
theorem zX {X:Prop} (h:X:=by first|exact rfl|exact Jf zS):X:=h
theorem Lf {X:Prop} (h:X:=by first|exact Vy zV|exact Vz zV|exact V0 zS|exact AE zS zS|exact yr zS|exact de zS zS|exact xN zS zS|exact eP zS zS|exact jO zS zS|exact uc zS zS|exact Uz zS zS|exact U0 zS zS|exact V4 (qo zS)|exact PC zS zS|exact PB zS zS|exact pM zS zS|exact FE zS zS|exact V6 zS zS zD|exact V7 zS zS zD|exact jH zS|exact V1 zS|exact Ux zS zS zV|exact Uy zS zS zV|exact U1 zS zS|exact U2 zS zS|exact zeB zS zS|exact V2 zS zS|exact V3 zS zS|exact znS zS zS|exact V5 (qo zS)|exact Ta zS zS|exact Up zS zS|exact Tc zS zS|exact V8 zS zS zD|exact V9 zS zS zD|exact Tf zS|exact Th zS|exact WG zS zS|exact LM (UM zS zS)|exact Rr (UM zS zS)):X:=h
theorem Fl {X:Prop} (h:X:=by first|exact WA hy zS|exact WB hy zS|exact U3 hy zS|exact WC hy zS zS|exact U4 hy zS zS|exact WD hy zS zX zX|exact U5 hy zS zX zX|exact U6 hy zS (Jf zS) (Jf zS) (Jf zS)|exact WE hy zS|exact zFg hy zS):X:=h
theorem PN {X:Prop} (h:X:=by and_intros<;>first|exact rfl|assumption|trivial):X:=h
theorem aT {P:Program} {f:FuncId} {fn:Func} {c:Code} {n:Nat} {A:Prop} {vs:List Value} {H:PH} {R:Value->PH->Prop} {A0:Prop} (hA:A0=A) (hf:P.funcs[f]?=some fn) (hn:fn.ntmps=n) (hb:fn.body=some c:=by exact zT) (hnm:(fn.name== "runtime.NumGoroutine")=false:=by exact zT) (hs:Nat.ble vs.toArray.size n=true:=by exact zT)
 (go:A->Go P Option.none n [.code c] (z9 vs.toArray) [] PH.none H λfi ρ D T' H'=>(fi= .ret∨fi= .lU)/\∃v Tg,py D T' Tg/\jN P fn ρ H' v/\R v H':=by
  repeat (first
   |((with_reducible apply WX);(with_reducible assumption);exact PN)
   |((with_reducible apply WY);(with_reducible assumption);exact PN)
   |with_reducible refine WL ?_
   |(with_reducible refine Wz (λs H ρ=>?_) (λj hj=>?_))
   |((with_reducible refine VU ?_);first|refine Vw zT ?_ zS|refine Lb Lf ?_ zS|refine SH (λy hy=>Lb Fl ?_ zS)|(apply Lb;(apply UU);exact zS;exact Le;infer_instance;kernel_rfl)|(apply Lb;(apply SI);exact zS;exact Le;infer_instance;kernel_rfl)|(apply Lb;(apply UT);exact PM;exact PM)|refine Uv zT ?_ zS)
   |((with_reducible refine VT ?_);first|refine U8 Cs (λy H'=>?_)|refine U9 Cs (λy z H'=>?_)|refine VC Cs (λy z u H'=>?_)|refine U7 Cs (λH'=>?_)|refine WH zS (λa H'=>?_)|refine WI zV zS (λa H'=>?_)|refine VD zS zV zS zS (λH'=>?_)|refine VE zS zV zS (λH'=>?_)|refine VJ Cs zS zS zS zS (λr H'=>?_)|refine VK Cs zS zS zS zS (λr H'=>?_)|refine VF zS zS zS zS zS zS (λr H'=>?_)|refine Vj zS zS (by assumption) zS zS zS zS (λr H'=>?_)|refine VG (λr H'=>?_)|refine VH Le zS zS zS zS (by kernel_rfl) (λr H'=>?_)|refine VL Cs (λr H'=>?_)|refine VM Cs zS zS zS (λH'=>?_)|refine VN zS (λH'=>?_)|(refine zcv ?_ ?_ (λv H'=>?_);exact zS;exact Cs;first|refine Vd (λy=>?_)|refine Ve ?_))
   |with_reducible refine WK ?_
   |with_reducible refine WJ ?_
   |((with_reducible refine VX ?_);first|refine zcT zS zS ?_|refine WS zS zS ?_|with_reducible refine UW (λs H ρ=>?_) (λj hj=>?_)|((with_reducible refine VY ?_);refine WT zS (λhc=>?_) (λhc=>?_)))
   |((with_reducible refine VZ ?_);first|refine Wa zT zS|refine Wb zT zT zS zS|refine Wc zT zT zS zS zS|refine zE0 zT zT|refine Wf zT IT zT|refine Wg zT IT IT zT|refine Wh zT IT IT IT zT|refine SH (λy hy=>?_))
   |((with_reducible refine VR ?_);refine WZ zT zT)
   |((with_reducible refine VV ?_);first|refine UR zT zS zS Lf ?_ zS|refine Vu zT zS zS ?_ zS|refine Vv zT zS ?_ zS|refine SH (λy hy=>UR zT zS zS Fl ?_ zS)|refine Uw zT zS zS zT ?_ zS|with_reducible refine WV (λs H ρ=>?_) (λj hj=>?_)|with_reducible refine US (λhc=>?_) (λhc=>?_))
   |((with_reducible refine VW ?_);refine Vx ?_)
   |with_reducible refine WQ ?_
   |((with_reducible refine VO ?_);first|with_reducible refine WU (λs H ρ=>?_) (λj hj=>?_)|refine WN ?_)
   |with_reducible refine WO ?_
   |((with_reducible refine VS ?_);refine WR zT ?_)
   |((with_reducible refine VQ ?_);first|with_reducible refine UW (λs H ρ=>?_) (λj hj=>?_)|refine Wj ?_)
   |with_reducible refine Wk ?_
   |with_reducible refine zPB (λhb=>?_)
   |with_reducible refine zBo (λhb=>?_)
   |with_reducible refine Wl (λhb=>?_)
   |with_reducible refine Wm (λhb=>?_)
   |((with_reducible refine Vf ?_);first|refine Ld zT Lf zK ?_|refine UZ zT zT zT zK ?_|refine Lc (λy hy=>Wn zT Fl zK ?_)|refine Lc (λy hy=>Ld zT Fl zK ?_)|refine UY zT zT zS zS Lf zK ?_|refine Wp zT zT zS zS zK ?_|refine Wq zT zT zS zK ?_|refine UZ zT zT (Ws zT zS zS) zK ?_|refine Lc (λy hy=>Wo zT zT zS zS Fl zK ?_)|refine Lc (λy hy=>UY zT zT zS zS Fl zK ?_)|(apply Ld;exact zT;(apply UU);exact zS;exact Le;infer_instance;kernel_rfl;exact zK)|(apply Ld;exact zT;(apply SI);exact zS;exact Le;infer_instance;kernel_rfl;exact zK)|(apply Ld;exact zT;(apply UT);exact PM;exact PM;exact zK)|refine zPc zT zT zT zK ?_|refine Ua zT zT zK Lf ?_|refine Lc (λy hy=>Ua zT zT zK Fl ?_))
   |with_reducible refine Wu ?_
   |((with_reducible refine Vh ?_);first|refine Wv zK ?_|refine Ww zT zS zS ?_|refine Wx zT zS zS ?_|refine Wy zT zS zS (by assumption) ?_|refine zRt zT zS zS (by assumption) ?_)
   |((with_reducible refine Vg ?_);first|((with_reducible apply W0);(with_reducible assumption);exact zK;exact PN)|refine W3 zK ?_)
   |(refine WW PN (λρ s H again hag=>?_))
   |((with_reducible refine Tn (λhE=>?_));repeat (obtain⟨_,hE⟩:=hE))
   |with_reducible refine Va (λhb=>?_)
   |with_reducible refine Vb (λhb=>?_)
   |with_reducible refine Vc (λhb=>?_)
   |with_reducible refine zlR ?_
   |exact False.elim
   |with_reducible refine US (λhc=>?_) (λhc=>?_)
   |kernel_rfl
   |exact zS)):aj P f A0 vs H R:=
 ⟨λa=>wZ hf hb hn (Nat.le_of_ble_eq_true hs) (go (hA▸a)),cP hf hb hnm⟩
end Go.Kx.Au
end
