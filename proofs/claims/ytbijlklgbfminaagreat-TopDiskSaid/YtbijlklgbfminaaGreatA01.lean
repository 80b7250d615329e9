import Derived.Below
import Derived.Calls
import Derived.ChangeArms
import Derived.ChangeSame
import Derived.Deep.Slices
import Derived.JoinedCond
import Derived.KernelRfl
import Derived.OpenShut
import Derived.Orders
import Derived.ProofKit
import Derived.RangeFuncRecord
import Derived.Test.YtbijlklgbfminaaGreatProg
import Derived.WalkKit
set_option linter.unusedVariables false
set_option linter.unusedSimpArgs false
section
namespace Go.Kx
abbrev PH:=Nat->Option Obj
abbrev Env:=Nat->Value
def PH.bL (H:PH) (b:Nat) (o:Obj):PH:=λx=>if x=b then some o else H x
def PH.none:PH:=λ_=>Option.none
def bL (ρ:Env) (i:Nat) (v:Value):Env:=λj=>bif Nat.beq j i then v else ρ j
@[simp] theorem PH.dW (H:PH) (b:Nat) (o:Obj):H.bL b o b=some o:=by simp[PH.bL]
theorem PH.al (H:PH) {b c:Nat} (o:Obj) (h:c≠b):H.bL b o c=H c:=by simp[PH.bL,h]
theorem dW (ρ:Env) (i:Nat) (v:Value):bL ρ i v i=v:=by simp[bL]
theorem al (ρ:Env) {i j:Nat} (v:Value) (h:j≠i):bL ρ i v j=ρ j:=by
 have:Nat.beq j i=false:=Bool.eq_false_iff.2 λe=>h (Nat.eq_of_beq_eq_true e)
 simp only[bL,this,cond_false]
structure iG (H T:PH) (w:World):Prop where
 sub:∀b o,H b=some o->w.heap[b]?=some o
 tok:∀b o,T b=some o->w.heap[b]?=some o
 uK:∀b,H b=Option.none∨T b=Option.none
structure Fr (H T:PH) (w:World) (H' T':PH) (w':World):Prop where
 own:iG H' T' w'
 size:w.heap.size<=w'.heap.size
 oT:∀b,b<w.heap.size->H b=Option.none->T b=Option.none->w'.heap[b]?=w.heap[b]?/\H' b=Option.none/\T' b=Option.none
 os:w'.os=w.os
 output:w'.output=w.output
 tape:w'.tape=w.tape
theorem iG.lt {H T:PH} {w:World} (h:iG H T w) {b:Nat} {o:Obj} (a:H b=some o):b<w.heap.size:=
 (Array.getElem?_eq_some_iff.1 (h.sub b o a)).1
theorem iG.Ce {H T:PH} {w:World} (h:iG H T w) {b:Nat} {o:Obj} (a:T b=some o):b<w.heap.size:=
 (Array.getElem?_eq_some_iff.1 (h.tok b o a)).1
theorem iG.new {H T:PH} {w:World} (h:iG H T w):H w.heap.size=Option.none/\T w.heap.size=Option.none:=by
 constructor
 ·cases a:H w.heap.size with
  |none=>rfl
  |some o=>have:=h.lt a;omega
 ·cases a:T w.heap.size with
  |none=>rfl
  |some o=>have:=h.Ce a;omega
theorem Fr.refl {H T:PH} {w:World} (h:iG H T w):Fr H T w H T w:=
 ⟨h,Nat.le_refl _,λ_ _ a b=>⟨rfl,a,b⟩,rfl,rfl,rfl⟩
theorem Fr.trans {H T H1 c a d:PH} {w f g:World} (h:Fr H T w H1 c f) (k:Fr H1 c f a d g):Fr H T w a d g:=
 ⟨k.own,Nat.le_trans h.size k.size,λb e m o=>by
  obtain⟨e1,a1,i⟩:=h.oT b e m o
  obtain⟨e2,j,l⟩:=k.oT b (Nat.lt_of_lt_of_le e h.size) a1 i
  exact⟨e2.trans e1,j,l⟩,k.os.trans h.os,k.output.trans h.output,k.tape.trans h.tape⟩
theorem Fr.weaken {H T H1 g d f:PH} {w l:World} (h:Fr H T w H1 g l) (i:∀b o,d b=some o->H1 b=some o) (j:∀b o,f b=some o->g b=some o):Fr H T w d f l:=by
 have n1:∀b,H1 b=Option.none->d b=Option.none:=λb a=>by
  cases c:d b with
  |none=>rfl
  |some o=>rw[i b o c] at a;cases a
 have n2:∀b,g b=Option.none->f b=Option.none:=λb a=>by
  cases c:f b with
  |none=>rfl
  |some o=>rw[j b o c] at a;cases a
 exact⟨⟨λb o a=>h.own.sub b o (i b o a),λb o a=>h.own.tok b o (j b o a),λb=>(h.own.uK b).imp (n1 b) (n2 b)⟩,h.size,
  λb a p c=>by obtain⟨e,a1,m⟩:=h.oT b a p c;exact⟨e,n1 b a1,n2 b m⟩,h.os,h.output,h.tape⟩
theorem Fr.beside {H H':PH} {T:PH} {w w':World} (h:Fr H PH.none w H' PH.none w') (c:iG H T w):Fr H T w H' T w':=by
 refine⟨⟨h.own.sub,λb o a=>?_,λb=>?_⟩,h.size,λb a g i=>?_,h.os,h.output,h.tape⟩
 ·have d:H b=Option.none:=(c.uK b).resolve_right (by rw[a];simp)
  rw[(h.oT b (c.Ce a) d rfl).1];exact c.tok b o a
 ·cases f:T b with
  |none=>exact .inr rfl
  |some o=>
   have d:H b=Option.none:=(c.uK b).resolve_right (by rw[f];simp)
   exact .inl (h.oT b (c.Ce f) d rfl).2.1
 ·obtain⟨e,a1,_⟩:=h.oT b a g rfl;exact⟨e,a1,i⟩
theorem iG.TW {H T:PH} {w:World} (h:iG H T w):iG H PH.none w:={sub:=h.sub,tok:=λ_ _ h=>(by cases h),uK:=λ_=>.inr rfl}
theorem Fr.alloc {H T:PH} {w:World} (h:iG H T w) (o:Obj):Fr H T w (H.bL w.heap.size o) T (w.alloc o):=by
 have f:=h.new
 refine⟨⟨λb x a=>?_,λb x a=>?_,λb=>?_⟩,by simp,λb a c d=>⟨Go.RowKit.Below.heap_alloc _ _ _ a,?_,d⟩,rfl,rfl,rfl⟩
 ·by_cases e:b=w.heap.size
  ·subst e;simp at a;subst a;show(w.heap.push o)[w.heap.size]?=_;simp
  ·rw[PH.al _ _ e] at a;rw[Go.RowKit.Below.heap_alloc _ _ _ (h.lt a)];exact h.sub b x a
 ·rw[Go.RowKit.Below.heap_alloc _ _ _ (h.Ce a)];exact h.tok b x a
 ·by_cases e:b=w.heap.size
  ·subst e;exact .inr f.2
  ·rw[PH.al _ _ e];exact h.uK b
 ·rw[PH.al _ _ (by omega)];exact c
theorem Fr.wW {H T:PH} {w:World} (h:iG H T w) (o:Obj):Fr H T w H (T.bL w.heap.size o) (w.alloc o):=by
 have f:=h.new
 refine⟨⟨λb x a=>?_,λb x a=>?_,λb=>?_⟩,by simp,λb a c d=>⟨Go.RowKit.Below.heap_alloc _ _ _ a,c,?_⟩,rfl,rfl,rfl⟩
 ·rw[Go.RowKit.Below.heap_alloc _ _ _ (h.lt a)];exact h.sub b x a
 ·by_cases e:b=w.heap.size
  ·subst e;simp at a;subst a;show(w.heap.push o)[w.heap.size]?=_;simp
  ·rw[PH.al _ _ e] at a;rw[Go.RowKit.Below.heap_alloc _ _ _ (h.Ce a)];exact h.tok b x a
 ·by_cases e:b=w.heap.size
  ·subst e;exact .inl f.1
  ·rw[PH.al _ _ e];exact h.uK b
 ·rw[PH.al _ _ (by omega)];exact d
theorem Fr.put {H T:PH} {w w':World} (h:iG H T w) {b:Nat} {o o':Obj} (g:H b=some o) (hw:w'.heap=w.heap.setIfInBounds b o') (j:w'.os=w.os) (f:w'.output=w.output) (m:w'.tape=w.tape):Fr H T w (H.bL b o') T w':=by
 have i:=h.lt g
 refine⟨⟨λc x a=>?_,λc x a=>?_,λc=>?_⟩,by rw[hw];simp,λc a d l=>⟨?_,?_,l⟩,j,f,m⟩
 ·rw[hw]
  by_cases e:c=b
  ·subst e;simp at a;subst a;simp[i]
  ·rw[PH.al _ _ e] at a;rw[Array.getElem?_setIfInBounds_ne (by omega)];exact h.sub c x a
 ·rw[hw]
  have:c≠b:=λe=>by subst e;rcases h.uK c with d|d<;>simp_all
  rw[Array.getElem?_setIfInBounds_ne (by omega)];exact h.tok c x a
 ·by_cases e:c=b
  ·subst e;exact .inr ((h.uK c).resolve_left (by rw[g];simp))
  ·rw[PH.al _ _ e];exact h.uK c
 ·have:c≠b:=λe=>by subst e;simp_all
  rw[hw,Array.getElem?_setIfInBounds_ne (by omega)]
 ·have:c≠b:=λe=>by subst e;simp_all
  rw[PH.al _ _ this];exact d
theorem Fr.Cf {H T:PH} {w w':World} (h:iG H T w) {b:Nat} {o o':Obj} (g:T b=some o) (hw:w'.heap=w.heap.setIfInBounds b o') (j:w'.os=w.os) (f:w'.output=w.output) (m:w'.tape=w.tape):Fr H T w H (T.bL b o') w':=by
 have i:=h.Ce g
 refine⟨⟨λc x a=>?_,λc x a=>?_,λc=>?_⟩,by rw[hw];simp,λc a d l=>⟨?_,d,?_⟩,j,f,m⟩
 ·rw[hw]
  have:c≠b:=λe=>by subst e;rcases h.uK c with d|d<;>simp_all
  rw[Array.getElem?_setIfInBounds_ne (by omega)];exact h.sub c x a
 ·rw[hw]
  by_cases e:c=b
  ·subst e;simp at a;subst a;simp[i]
  ·rw[PH.al _ _ e] at a;rw[Array.getElem?_setIfInBounds_ne (by omega)];exact h.tok c x a
 ·by_cases e:c=b
  ·subst e;exact .inl ((h.uK c).resolve_right (by rw[g];simp))
  ·rw[PH.al _ _ e];exact h.uK c
 ·have:c≠b:=λe=>by subst e;simp_all
  rw[hw,Array.getElem?_setIfInBounds_ne (by omega)]
 ·have:c≠b:=λe=>by subst e;simp_all
  rw[PH.al _ _ this];exact l
theorem Fr.drew {H T:PH} {w:World} (h:iG H T w):Fr H T w H T w.drew:=⟨⟨h.sub,h.tok,h.uK⟩,Nat.le_refl _,λ_ _ a b=>⟨rfl,a,b⟩,rfl,rfl,rfl⟩
def mk (b:Frame) (t:Array Value) (D:List Deferred) (k:List Item):Frame:={b with tmps:=t,defers:=D,todo:=k,mode:=.run}
def sF (n:Nat) (ρ:Env) (t:Array Value):Prop:=t.size=n/\∀i,t.getD i undef=ρ i
def ev (ρ:Env):Operand->Value
 | .tmp t=>ρ t
 | .const v=>v
 | .global g=>.pointer (some ⟨g,0,Option.none⟩)
 | .func f=>.func (.func f) #[] #[]
theorem Dh {n:Nat} {ρ:Env} {t:Array Value} (h:sF n ρ t) (b:Frame) (D:List Deferred) (k:List Item):(mk b t D k).eval=ev ρ:=by
 funext x
 cases x with
 |tmp i=>exact h.2 i
 |_=>rfl
theorem sF.put {n:Nat} {ρ:Env} {t:Array Value} (h:sF n ρ t) {d:Nat} (a:d<n) (v:Value):sF n (bL ρ d v) (t.setIfInBounds d v):=by
 refine⟨by simp[h.1],λi=>?_⟩
 by_cases e:i=d
 ·subst e;simp[bL,Array.getD_eq_getD_getElem?,h.1,a]
 ·rw[al _ _ e,←h.2 i];simp[Array.getD_eq_getD_getElem?,Array.getElem?_setIfInBounds_ne (Ne.symm e)]
inductive Fin where
 |ret
 |lU
 |exit (id:Nat)
def TX:Fin->List Item->Prop
 | .lU,k=>k=[]
 | .ret,k=>∃r,k= .code .ret::r
 | .exit id,k=>∃r,k= .code (.exit id)::r/\exitTo id r=Option.none
abbrev mr:=Fin->Env->List Deferred->PH->PH->Prop
def Go (P:Program) (rd:Option Nat) (n:Nat) (k:List Item) (ρ:Env) (D:List Deferred) (T H:PH) (Q:mr):Prop:=
 ∀(b:Frame) (cs:List Frame) (t:Array Value) (w:World),b.roundOf=rd->sF n ρ t->iG H T w->
  ∃f d e ρ' a c H' w',Steps P (lone (mk b t D k) cs w) (lone (mk b e a d) cs w')/\TX f d/\sF n ρ' e/\Fr H T w H' c w'/\Q f ρ' a c H'
section rules
variable {P:Program} {rd:Option Nat} {n:Nat} {k:List Item} {ρ:Env} {D:List Deferred} {T H:PH} {Q:mr}
theorem Go.mono {a:mr} (h:Go P rd n k ρ D T H Q) (o:∀f ρ D T H,Q f ρ D T H->a f ρ D T H):Go P rd n k ρ D T H a:=
 λb cs t w l p m=>let⟨f,q,r,ρ',c,d,H',w',a1,e,g,i,j⟩:=h b cs t w l p m;⟨f,q,r,ρ',c,d,H',w',a1,e,g,i,o _ _ _ _ _ j⟩
theorem Go.lU (h:Q .lU ρ D T H):Go P rd n [] ρ D T H Q:=λ_ _ t w _ b a=>⟨.lU,[],t,ρ,D,T,H,w,.refl _ _,rfl,b,.refl a,h⟩
theorem Go.ret (h:Q .ret ρ D T H):Go P rd n (.code .ret::k) ρ D T H Q:=λ_ _ t w _ b a=>⟨.ret,_,t,ρ,D,T,H,w,.refl _ _,⟨_,rfl⟩,b,.refl a,h⟩
theorem Go.step {k2:List Item} (j:∀b cs t w,sF n ρ t->step P (lone (mk b t D k) cs w)= .next (lone (mk b t D k2) cs w)) (h:Go P rd n k2 ρ D T H Q):Go P rd n k ρ D T H Q:=by
 intro b cs t w g a i
 obtain⟨f,l,m,ρ',c,d,H',w',a1,e⟩:=h b cs t w g a i
 exact⟨f,l,m,ρ',c,d,H',w',.head (j b cs t w a) a1,e⟩
theorem Go.skip (h:Go P rd n k ρ D T H Q):Go P rd n (.code .skip::k) ρ D T H Q:=.step (λb cs t w _=>step_lone_go (by simp[stepG,stepG.exec,mk])) h
theorem Go.inBlock {l:Nat} (h:Go P rd n k ρ D T H Q):Go P rd n (.inBlock l::k) ρ D T H Q:=.step (λb cs t w _=>step_lone_go (by simp[stepG,stepG.exec,mk])) h
theorem Go.seq {x y:Code} (h:Go P rd n (.code x:: .code y::k) ρ D T H Q):Go P rd n (.code (.seq x y)::k) ρ D T H Q:=.step (λb cs t w _=>step_lone_go (by simp[stepG,stepG.exec,mk])) h
theorem Go.block {id:Nat} {c:Code} (h:Go P rd n (.code c:: .inBlock id::k) ρ D T H Q):Go P rd n (.code (.block id c)::k) ρ D T H Q:=.step (λb cs t w _=>step_lone_go (by simp[stepG,stepG.exec,mk])) h
theorem Go.cond {c:Operand} {x y:Code} {t:Bool} (a:ev ρ c= .bool t) (h:Go P rd n (.code (if t then x else y)::k) ρ D T H Q):Go P rd n (.code (.cond c x y)::k) ρ D T H Q:=
 .step (λb cs tm w d=>step_lone_go (by
  have:=congrFun (Dh d b D (.code (.cond c x y)::k)) c
  simp only[mk] at this
  simp[stepG,stepG.exec,mk,this,a])) h
theorem Go.TY {c:Operand} {x y:Code} (a:ev ρ c= .bool true) (h:Go P rd n (.code x::k) ρ D T H Q):Go P rd n (.code (.cond c x y)::k) ρ D T H Q:=Go.cond a h
theorem Go.TZ {c:Operand} {x y:Code} (a:ev ρ c= .bool false) (h:Go P rd n (.code y::k) ρ D T H Q):Go P rd n (.code (.cond c x y)::k) ρ D T H Q:=Go.cond a h
theorem Go.exit {id:Nat} {a:List Item} (he:exitTo id k=some a) (h:Go P rd n a ρ D T H Q):Go P rd n (.code (.exit id)::k) ρ D T H Q:=
 .step (λb cs t w _=>step_lone_go (by simp[stepG,stepG.exec,mk,he])) h
end rules
end Go.Kx
end
section
namespace Go.Kx
section
variable {P:Program} {rd:Option Nat} {n:Nat} {k:List Item} {ρ:Env} {D:List Deferred} {T H:PH} {Q:mr} {ops:Array Oper} {l:List Oper} {i:Nat}
def bO (P:Program) (rd:Option Nat) (n:Nat) (ops:Array Oper) (l:List Oper) (i:Nat) (k:List Item) (ρ:Env) (D:List Deferred) (T H:PH) (Q:mr):Prop:=
 ops.toList.drop i=l->Go P rd n (.inRegion ops (List.range' i l.length)::k) ρ D T H Q
theorem Go.region {id:Nat} (a:ops.toList=l) (h:bO P rd n ops l 0 k ρ D T H Q):Go P rd n (.code (.region id ops false)::k) ρ D T H Q:=by
 refine .step (k2:=.inRegion ops (List.range ops.size)::k) (λb cs t w _=>step_lone_go (by simp[stepG,stepG.exec,mk])) ?_
 have:=h (by simp[a])
 rw[List.range_eq_range']
 rwa[show l.length=ops.size by rw[←a];simp] at this
theorem bO.nil (h:Go P rd n k ρ D T H Q):bO P rd n ops [] i k ρ D T H Q:=λ_=>
 .step (λb cs t w _=>step_lone_go (by simp[stepG,stepG.exec,mk])) h
def yp (ops:Array Oper) (ρ:Env) (j:Nat):Option Bool:=
 match(ops[j]?).bind (·.dst) with
 |some d=>match ρ d with| .bool b=>some b|_=>none
 |none=>none
def want (ops:Array Oper) (ρ:Env) (o:Oper):Bool:=
 match o.guard with
 |none=>true
 |some (j,w)=>yp ops ρ j==some w
theorem JR {t:Array Value} (f:sF n ρ t) (j:Nat):yielded ops t j=yp ops ρ j:=by
 unfold yielded yp
 cases e:(ops[j]?).bind (·.dst) with
 |none=>simp[e]
 |some d=>
  simp only[e,Option.bind_some]
  have a:=f.2 d
  rw[Array.getD_eq_getD_getElem?] at a
  cases c:t[d]? with
  |none=>rw[c] at a;simp only[Option.getD_none] at a;rw[←a];rfl
  |some v=>rw[c] at a;simp only[Option.getD_some] at a;rw[←a];cases v<;>rfl
theorem tG {t:Array Value} (a:sF n ρ t) (o:Oper):Region.wanted o (yielded ops t)=want ops ρ o:=by
 unfold Region.wanted want
 cases o.guard with
 |none=>rfl
 |some g=>simp[JR a]
def Az:Op->Bool
 | .defer _=>true
 |_=>false
def lA (ρ:Env) (d:Option Nat) (v:Value):Env:=match d with|some d=>bL ρ d v|none=>ρ
def wX (t:Array Value) (d:Option Nat) (v:Value):Array Value:=match d with|some d=>t.setIfInBounds d v|none=>t
theorem sF.wX {t:Array Value} (h:sF n ρ t) {d:Option Nat} (a:∀x,d=some x->x<n) (v:Value):sF n (lA ρ d v) (wX t d v):=by
 cases d with
 |none=>exact h
 |some x=>exact h.put (a x rfl) v
section steps
variable {o:Oper} {is:List Nat} {t:Array Value} {b:Frame} {cs:List Frame} {w:World}
theorem EL (a:ops[i]?=some o) (v:Value):(mk b t D (.inRegion ops (i::is)::k)).finish v=mk b (wX t o.dst v) D (.inRegion ops is::k):=by
 simp only[Frame.finish,mk,a,Option.bind_some]
 cases o.dst<;>rfl
theorem Nc (f:ops[i]?=some o) (hw:Region.wanted o (yielded ops t)=true) (a:Az o.op=false) (g:sF n ρ t):
 stepG P true {frame:=mk b t D (.inRegion ops (i::is)::k),callers:=cs,status:=.running,dying:=none} w=
  stepG.apply P true (mk b t D (.inRegion ops (i::is)::k)) cs none (execOp (ev ρ) o) w:=by
 have he:=Dh g b D (.inRegion ops (i::is)::k)
 simp only[mk] at he
 have:∀c,o.op≠ .defer c:=λc d=>by rw[d] at a;cases a
 simp only[stepG,stepG.exec,mk,f,Option.map_some,hw,Option.getD_some,if_true,stepG.oper,Frame.oper?,he]
 split
 ·rename_i e;exact absurd e (this _)
 ·rfl
theorem wY (a:ops[i]?=some o) (hw:Region.wanted o (yielded ops t)=false):
 step P (lone (mk b t D (.inRegion ops (i::is)::k)) cs w)= .next (lone (mk b (wX t o.dst undef) D (.inRegion ops is::k)) cs w):=by
 rw[←EL a]
 exact step_lone_go (by simp[stepG,stepG.exec,mk,a,hw])
end steps
theorem drop_cons {α:Type} {xs l:List α} {i:Nat} {o:α} (h:xs.drop i=o::l):xs[i]?=some o/\xs.drop (i+1)=l:=by
 constructor
 ·have:=congrArg (·[0]?) h;simpa using this
 ·rw[←List.drop_drop,h];rfl
theorem bO.no {o:Oper} (hw:want ops ρ o=false) (q:∀x,o.dst=some x->x<n) (h:bO P rd n ops l (i+1) k (lA ρ o.dst undef) D T H Q):
 bO P rd n ops (o::l) i k ρ D T H Q:=by
 intro r b cs t w p d s
 obtain⟨hi,c⟩:=drop_cons r
 have a:ops[i]?=some o:=by simpa using hi
 obtain⟨f,u,v,ρ',e,j,g,y,a1,m⟩:=h c b cs (wX t o.dst undef) w p (d.wX q undef) s
 refine⟨f,u,v,ρ',e,j,g,y,.head ?_ a1,m⟩
 rw[List.length_cons,List.range'_succ]
 exact wY a (by rw[tG d];exact hw)
def FQ (P:Program) (f:FuncId) (args:Array Value) (T H:PH) (R:Value->PH->PH->Prop):Prop:=
 ∀w,iG H T w->Calls P f args w λe w'=>∃v a H',e= .returned v/\Fr H T w H' a w'/\R v a H'
def dv (P:Program) (f:FuncId) (args:Array Value) (H:PH) (R:Value->PH->Prop):Prop:=
 ∀w,iG H PH.none w->Calls P f args w λe w'=>∃v H',e= .returned v/\Fr H PH.none w H' PH.none w'/\R v H'
theorem dv.beside {f:FuncId} {args:Array Value} {R:Value->PH->Prop} (h:dv P f args H R):FQ P f args T H λv c H'=>c=T/\R v H':=
 λw a=>(h w a.TW).mono λe w' ⟨v,H',d,g,j⟩=>⟨v,T,H',d,g.beside a,rfl,j⟩
theorem dv.mono {f:FuncId} {args:Array Value} {R a:Value->PH->Prop} (h:dv P f args H R) (m:∀v H',R v H'->a v H'):dv P f args H a:=
 λw j=>(h w j).mono λe w' ⟨v,H',c,d,g⟩=>⟨v,H',c,d,m _ _ g⟩
def Body (P:Program) (f:FuncId):Prop:=∀args w,(callFunc f args).run P w= .ok (.enter f args) w
theorem cP {f:FuncId} {fn:Func} {c:Code} (hf:P.funcs[f]?=some fn) (d:fn.body=some c) (e:(fn.name== "runtime.NumGoroutine")=false):Body P f:=by
 intro args w
 have a:¬fn.name= "runtime.NumGoroutine":=by simpa using e
 simp[callFunc,program,Sem.run_bind,Sem.run,hf,a,d,Result.andThen]
def FR (P:Program) (l:Nat) (fn:FuncId) (tmps:Array Value) (assign body:Code) (w:World) (R:Value->World->Prop):Prop:=
 ∀(c:Frame) (cs:List Frame),∃v w',R v w'/\Steps P (lone (Frame.round l fn tmps assign body .normal) (c::cs) w) (lone (c.finish v) cs w')
structure cv (P:Program) (ρ:Env) (o:Oper) (T H:PH) (K:Value->PH->PH->Prop):Prop where
 nd:Az o.op=false
 run:∀w,iG H T w->
  (∃v T' H' w',(execOp (ev ρ) o).run P w= .ok (.value v) w'/\Fr H T w H' T' w'/\K v T' H')∨
  (∃T' H' w',(execOp (ev ρ) o).run P w= .ok .skip w'/\Fr H T w H' T' w'/\K undef T' H')∨
  (∃f args,(execOp (ev ρ) o).run P w= .ok (.enter f args) w/\Calls P f args w λe w'=>∃v T' H',e= .returned v/\Fr H T w H' T' w'/\K v T' H')∨
  (∃y fn tmps assign body,(execOp (ev ρ) o).run P w= .ok (.round y fn tmps assign body) w/\FR P y fn tmps assign body w λv w'=>∃T' H',Fr H T w H' T' w'/\K v T' H')
structure bP (P:Program) (ρ:Env) (o:Oper) (H:PH) (v:Value):Prop where
 nd:Az o.op=false
 run:∀T w,iG H T w->(execOp (ev ρ) o).run P w= .ok (.value v) w
theorem bP.do {o:Oper} {v:Value} {K:Value->PH->PH->Prop} (h:bP P ρ o H v) (hk:K v T H):cv P ρ o T H K:=
 ⟨h.1,λw a=>.inl ⟨v,T,H,w,h.2 T w a,.refl a,hk⟩⟩
theorem Di {o:Oper} {is:List Nat} {b:Frame} {cs:List Frame} {t:Array Value} {w:World} {K:Value->PH->PH->Prop}
 (hi:ops[i]?=some o) (hw:Region.wanted o (yielded ops t)=true) (A:sF n ρ t) (z:iG H T w) (h:cv P ρ o T H K):
 ∃v c H' w',Steps P (lone (mk b t D (.inRegion ops (i::is)::k)) cs w) (lone (mk b (wX t o.dst v) D (.inRegion ops is::k)) cs w')/\Fr H T w H' c w'/\K v c H':=by
 have p:=Nc (P:=P) (b:=b) (cs:=cs) (w:=w) (is:=is) (k:=k) (D:=D) hi hw h.1 A
 have d:=EL (b:=b) (is:=is) (k:=k) (D:=D) (t:=t) hi
 rcases h.2 w z with⟨v,c,H',w',g,a,hk⟩|⟨c,H',w',g,a,hk⟩|⟨f,args,g,q⟩|⟨y,fn,tmps,s,u,g,q⟩
 ·refine⟨v,c,H',w',.one (step_lone_go ?_),a,hk⟩
  rw[p,←d];simp[stepG.apply,g]
 ·refine⟨undef,c,H',w',.one (step_lone_go ?_),a,hk⟩
  rw[p,←d];simp[stepG.apply,g]
 ·obtain⟨e,w',fr,x,j,B,m⟩:=q (mk b t D (.inRegion ops (i::is)::k)::cs)
  obtain⟨v,c,H',rfl,a,hk⟩:=x
  refine⟨v,c,H',w',.head (step_lone_go (w':=w) (fr':=Frame.enter P f args .normal) (cs':=mk b t D (.inRegion ops (i::is)::k)::cs) ?_) (Steps.trans j (.one ?_)),a,hk⟩
  ·rw[p];simp[stepG.apply,g,mk]
  ·rw[←d];exact step_leave_returned m
 ·obtain⟨v,w',⟨c,H',a,hk⟩,r⟩:=q (mk b t D (.inRegion ops (i::is)::k)) cs
  rw[d] at r
  refine⟨v,c,H',w',.head (step_lone_go (w':=w) (fr':=Frame.round y fn tmps s u .normal) (cs':=mk b t D (.inRegion ops (i::is)::k)::cs) ?_) r,a,hk⟩
  rw[p];simp[stepG.apply,g,mk]
theorem bO.op {o:Oper} (hw:want ops ρ o=true) (z:∀x,o.dst=some x->x<n)
 (h:cv P ρ o T H λv d H'=>bO P rd n ops l (i+1) k (lA ρ o.dst v) D d H' Q):bO P rd n ops (o::l) i k ρ D T H Q:=by
 intro A b cs t w y c B
 obtain⟨hi,g⟩:=drop_cons A
 have e:ops[i]?=some o:=by simpa using hi
 obtain⟨v,d,H',w',C,a,hk⟩:=Di (is:=List.range' (i+1) l.length) (b:=b) (cs:=cs) (k:=k) (D:=D) e (by rw[tG c];exact hw) c B h
 obtain⟨f,E,F,ρ',j,p,m,G,a1,q,r,s,u⟩:=hk g b cs (wX t o.dst v) w' y (c.wX z v) a.own
 refine⟨f,E,F,ρ',j,p,m,G,?_,q,r,a.trans s,u⟩
 rw[List.length_cons,List.range'_succ]
 exact C.trans a1
theorem bO.q {o:Oper} {d:Nat} {v:Value} (hw:want ops ρ o=true) (a:o.dst=some d) (c:d<n) (f:bP P ρ o H v)
 (h:bO P rd n ops l (i+1) k (bL ρ d v) D T H Q):bO P rd n ops (o::l) i k ρ D T H Q:=
 .op hw (λx e=>by rw[a] at e;cases e;exact c) (f.do (by rw[a];exact h))
end
end Go.Kx
end
section
namespace Go.Kx
section
variable {P:Program} {n:Nat} {k:List Item} {ρ:Env} {D:List Deferred} {T H:PH} {Q:mr}
def marks (rs:List Nat):List Deferred:=rs.map λr=>{target:=.collected r,args:= #[]}
def py (D:List Deferred) (T Tg:PH):Prop:=∃rs:List Nat,D=marks rs/\rs.Nodup/\(∀r,r∈rs->T r=some (.deferred (some [])))/\∀b o,Tg b=some o->T b=some o/\b∉rs
theorem py.nil:py [] T T:=⟨[],rfl,by simp,by simp,λb o h=>⟨h,by simp⟩⟩
theorem py.weaken {e f:PH} (h:py D T e) (g:∀b o,f b=some o->e b=some o):py D T f:=by
 obtain⟨rs,a,b,c,d⟩:=h;exact⟨rs,a,b,c,λx o i=>d x o (g x o i)⟩
theorem py.none {Tg:PH} (h:py D T Tg):py D T PH.none:=h.weaken λ_ _ h=>by cases h
def back (b:Frame) (t:Array Value) (D:List Deferred) (k:List Item):Frame:={mk b t D k with mode:=.returning}
theorem z8 {b:Frame} {cs:List Frame} {t:Array Value} {Tg:PH}:∀(rs:List Nat) (T:PH) (w:World),iG H T w->rs.Nodup->(∀r,r∈rs->T r=some (.deferred (some [])))->
 (∀b o,Tg b=some o->T b=some o/\b∉rs)->∃w',Steps P (lone (back b t (marks rs) k) cs w) (lone (back b t [] k) cs w')/\Fr H T w H Tg w'
 |[],T,w,d,_,_,g=>⟨w,.refl _ _,(Fr.refl d).weaken (λ_ _ h=>h) λb o h=>(g b o h).1⟩
 |r::rs,T,w,d,a,i,g=>by
  have l:=i r (by simp)
  have hw:=d.tok r _ l
  have c:Fr H T w H (T.bL r (.deferred Option.none)) {w with heap:=w.heap.setIfInBounds r (.deferred Option.none)}:=.Cf d l rfl rfl rfl rfl
  rw[List.nodup_cons] at a
  obtain⟨w',m,p⟩:=z8 (b:=b) (cs:=cs) (t:=t) (Tg:=Tg) rs _ _ c.own a.2
   (λq j=>by rw[PH.al _ _ (λe=>a.1 (by rw[←e];exact j))];exact i q (by simp[j]))
   (λx o s=>by
    obtain⟨a1,f⟩:=g x o s
    simp at f
    exact⟨by rw[PH.al _ _ f.1];exact a1,f.2⟩)
  refine⟨w',.head (step_lone_go ?_) m,c.trans p⟩
  simp[stepG,unwind,back,mk,marks,Instr.takeDeferred,Sem.runT_eq,Sem.run_bind,getObj,setObj,Sem.run,hw,Result.andThen,GStep.bare_after]
def jN (P:Program) (fn:Func) (ρ:Env) (H:PH) (v:Value):Prop:=∀n t T w,sF n ρ t->iG H T w->(results fn t).run P w= .ok v w
theorem iC {fn:Func} (h:fn.results= #[]):jN P fn ρ H (.tuple #[]):=λn t T w b a=>by
 simp[results,h,Sem.run_pure,Sem.run_bind,Result.andThen]
theorem LL {fn:Func} {a:Tmp} {v:Value} (h:fn.results= #[.tmp a]) (c:ρ a=v):jN P fn ρ H v:=λn t T w b d=>by
 have:=b.2 a
 rw[c] at this
 simp[results,h,Sem.run_pure,Sem.run_bind,Result.andThen]
 simpa[Array.getD_eq_getD_getElem?] using this
theorem ir {fn:Func} {a b:Tmp} {u v:Value} (h:fn.results= #[.tmp a,.tmp b]) (hu:ρ a=u) (f:ρ b=v):jN P fn ρ H (.tuple #[u,v]):=λn t T w e g=>by
 have c:=e.2 a
 have d:=e.2 b
 rw[hu] at c;rw[f] at d
 simp[results,h,Sem.run_pure,Sem.run_bind,Result.andThen]
 simp[Array.getD_eq_getD_getElem?] at c d
 exact⟨c,d⟩
theorem Rp {fn:Func} {a b c:Tmp} {u v x:Value} (h:fn.results= #[.tmp a,.tmp b,.tmp c]) (hu:ρ a=u) (i:ρ b=v) (j:ρ c=x):jN P fn ρ H (.tuple #[u,v,x]):=λn t T w g l=>by
 have d:=g.2 a
 have e:=g.2 b
 have f:=g.2 c
 rw[hu] at d;rw[i] at e;rw[j] at f
 simp[results,h,Sem.run_pure,Sem.run_bind,Result.andThen]
 simp[Array.getD_eq_getD_getElem?] at d e f
 exact⟨d,e,f⟩
def z9 (args:Array Value):Env:=λi=>args.getD i undef
theorem Uo {args:Array Value} {m:Nat} (h:args.size<=m):sF m (z9 args) (args++Array.replicate (m-args.size) undef):=by
 refine⟨by simp;omega,λi=>?_⟩
 simp only[z9,Array.getD_eq_getD_getElem?]
 by_cases hi:i<args.size
 ·rw[Array.getElem?_append_left hi]
 ·rw[Array.getElem?_append_right (by omega),Array.getElem?_eq_none (by omega:args.size<=i)]
  rw[Array.getElem?_replicate]
  split<;>rfl
theorem AA {f:FuncId} {fn:Func} {c:Code} {args:Array Value} {R:Value->PH->PH->Prop} (hf:P.funcs[f]?=some fn) (z:fn.body=some c) (B:fn.ntmps=n) (E:args.size<=n)
 (h:Go P Option.none n [.code c] (z9 args) [] T H λfi ρ D l H'=>(fi= .ret∨fi= .lU)/\∃v Tg,py D l Tg/\jN P fn ρ H' v/\R v Tg H'):FQ P f args T H R:=by
 intro w C cs
 let b:Frame:={fn:=f,tmps:= #[],todo:=[],defers:=[],mode:=.run,kind:=.normal,roundOf:=Option.none}
 have a:Frame.enter P f args .normal=mk b (args++Array.replicate (n-args.size) undef) [] [.code c]:=by
  simp[Frame.enter,mk,hf,z,B,b]
 obtain⟨fi,i,g,ρ',G,l,H',w',s,d,F,j,p,v,Tg,⟨rs,rfl,q,y,A⟩,m,x⟩:=h b cs _ w rfl (Uo E) C
 obtain⟨u,hu,e⟩:=z8 (P:=P) (b:=b) (cs:=cs) (t:=g) (k:=i) rs l w' j.own q y A
 have o:Steps P (lone (mk b g (marks rs) i) cs w') (lone (back b g (marks rs) i) cs w'):=by
  rcases p with rfl|rfl
  ·obtain⟨r,rfl⟩:=d
   exact .one (step_lone_go (by simp[stepG,stepG.exec,mk,back,b]))
  ·cases d
   exact .one (step_lone_go (by simp[stepG,stepG.exec,mk,back,b]))
 refine⟨.returned v,u,back b g [] i,⟨v,Tg,H',rfl,j.trans e,x⟩,?_,rfl,rfl,rfl,rfl,fn,hf,m n g Tg u F e.own⟩
 rw[a]
 exact(s.trans o).trans hu
theorem wZ {f:FuncId} {fn:Func} {c:Code} {args:Array Value} {R:Value->PH->Prop} (hf:P.funcs[f]?=some fn) (o:fn.body=some c) (p:fn.ntmps=n) (r:args.size<=n)
 (h:Go P Option.none n [.code c] (z9 args) [] PH.none H λfi ρ D g H'=>(fi= .ret∨fi= .lU)/\∃v Tg,py D g Tg/\jN P fn ρ H' v/\R v H'):dv P f args H R:=by
 have:=AA (R:=λv Tg H'=>Tg=PH.none/\R v H') hf o p r (h.mono λfi ρ D g H' ⟨a,v,Tg,b,c,d⟩=>⟨a,v,PH.none,b.none,c,rfl,d⟩)
 exactλw q=>(this w q).mono λe w' ⟨v,g,H',i,j,l,m⟩=>⟨v,H',i,l▸j,m⟩
end
end Go.Kx
end
section
namespace Go.Kx
section
variable {P:Program} {ρ:Env} {T H:PH} {d:Option Nat} {ty:TypeId} {p:String} {af:Array Edge} {g:Option (Nat×Bool)}
theorem lI {x:Operand} {v:Value} (h:ev ρ x=v):bP P ρ ⟨d,.move x,ty,p,af,g⟩ H v:=⟨rfl,λT w c=>by simp[execOp,h,Sem.run_pure]⟩
theorem nc {x:Operand} {v:Value} (h:ev ρ x=v):bP P ρ ⟨d,.assign x,ty,p,af,g⟩ H v:=⟨rfl,λT w c=>by simp[execOp,h,Sem.run_pure]⟩
theorem IB {c x y:Operand} {v:Value} (e:ev ρ c= .bool true) (h:ev ρ x=v):bP P ρ ⟨d,.pick c x y,ty,p,af,g⟩ H v:=⟨rfl,λT w f=>by simp[execOp,h,e,asBool,Sem.run_pure,Sem.run_bind,Result.andThen]⟩
theorem IC {c x y:Operand} {v:Value} (e:ev ρ c= .bool false) (h:ev ρ y=v):bP P ρ ⟨d,.pick c x y,ty,p,af,g⟩ H v:=⟨rfl,λT w f=>by simp[execOp,h,e,asBool,Sem.run_pure,Sem.run_bind,Result.andThen]⟩
section arith
variable {x y:Operand} {tx tyy:TypeId} {kk:IntKind} {a b:Int}
theorem de (c:ev ρ x= .int kk a) (e:ev ρ y= .int kk b):bP P ρ ⟨d,.binOp .add tx x y tyy,ty,p,af,g⟩ H (.int kk (kk.wrap (a+b))):=⟨rfl,λT w f=>by simp[execOp,c,e,eqGuard,binOp,Op.intArith,Sem.run_pure,Sem.run_bind,Result.andThen]⟩
theorem uc (c:ev ρ x= .int kk a) (e:ev ρ y= .int kk b):bP P ρ ⟨d,.binOp .sub tx x y tyy,ty,p,af,g⟩ H (.int kk (kk.wrap (a-b))):=⟨rfl,λT w f=>by simp[execOp,c,e,eqGuard,binOp,Op.intArith,Sem.run_pure,Sem.run_bind,Result.andThen]⟩
theorem FE (c:ev ρ x= .int kk a) (e:ev ρ y= .int kk b):bP P ρ ⟨d,.binOp .mul tx x y tyy,ty,p,af,g⟩ H (.int kk (kk.wrap (a*b))):=⟨rfl,λT w f=>by simp[execOp,c,e,eqGuard,binOp,Op.intArith,Sem.run_pure,Sem.run_bind,Result.andThen]⟩
theorem JS (c:b≠0) (e:ev ρ x= .int kk a) (f:ev ρ y= .int kk b):bP P ρ ⟨d,.binOp .quo tx x y tyy,ty,p,af,g⟩ H (.int kk (kk.wrap (a.tdiv b))):=⟨rfl,λT w h=>by simp[execOp,e,f,c,eqGuard,binOp,Op.intDiv,Sem.run_pure,Sem.run_bind,Result.andThen]⟩
theorem FF (c:b≠0) (e:ev ρ x= .int kk a) (f:ev ρ y= .int kk b):bP P ρ ⟨d,.binOp .rem tx x y tyy,ty,p,af,g⟩ H (.int kk (a.tmod b)):=⟨rfl,λT w h=>by simp[execOp,e,f,c,eqGuard,binOp,Op.intDiv,Sem.run_pure,Sem.run_bind,Result.andThen]⟩
def kE (k:IntKind) (a b:Int):Int:=k.wrap (BitVec.ofInt k.bits a&&&BitVec.ofInt k.bits b).toNat
def ID (k:IntKind) (a b:Int):Int:=k.wrap (BitVec.ofInt k.bits a|||BitVec.ofInt k.bits b).toNat
def wb (k:IntKind) (a b:Int):Int:=k.wrap (BitVec.ofInt k.bits a^^^BitVec.ofInt k.bits b).toNat
def wc (k:IntKind) (a b:Int):Int:=k.wrap (a*2 ^ (min b.toNat k.bits))
def g8 (k:IntKind) (a b:Int):Int:=a.fdiv (2 ^ (min b.toNat k.bits))
theorem Ta (c:ev ρ x= .int kk a) (e:ev ρ y= .int kk b):bP P ρ ⟨d,.binOp .and tx x y tyy,ty,p,af,g⟩ H (.int kk (kE kk a b)):=⟨rfl,λT w f=>by simp[execOp,c,e,eqGuard,binOp,Op.intBits,Sem.run_pure,Sem.run_bind,Result.andThen,kE]⟩
theorem Up (c:ev ρ x= .int kk a) (e:ev ρ y= .int kk b):bP P ρ ⟨d,.binOp .or tx x y tyy,ty,p,af,g⟩ H (.int kk (ID kk a b)):=⟨rfl,λT w f=>by simp[execOp,c,e,eqGuard,binOp,Op.intBits,Sem.run_pure,Sem.run_bind,Result.andThen,ID]⟩
theorem Tc (c:ev ρ x= .int kk a) (e:ev ρ y= .int kk b):bP P ρ ⟨d,.binOp .xor tx x y tyy,ty,p,af,g⟩ H (.int kk (wb kk a b)):=⟨rfl,λT w f=>by simp[execOp,c,e,eqGuard,binOp,Op.intBits,Sem.run_pure,Sem.run_bind,Result.andThen,wb]⟩
theorem Td {k2:IntKind} (f:0<=b) (c:ev ρ x= .int kk a) (e:ev ρ y= .int k2 b):bP P ρ ⟨d,.binOp .shl tx x y tyy,ty,p,af,g⟩ H (.int kk (wc kk a b)):=⟨rfl,λT w h=>by
 have:¬b< 0:=by omega
 simp[execOp,c,e,eqGuard,binOp,Op.shift,this,Sem.run_pure,Sem.run_bind,Result.andThen,wc]⟩
theorem Te {k2:IntKind} (f:0<=b) (c:ev ρ x= .int kk a) (e:ev ρ y= .int k2 b):bP P ρ ⟨d,.binOp .shr tx x y tyy,ty,p,af,g⟩ H (.int kk (g8 kk a b)):=⟨rfl,λT w h=>by
 have:¬b< 0:=by omega
 simp[execOp,c,e,eqGuard,binOp,Op.shift,this,Sem.run_pure,Sem.run_bind,Result.andThen,g8]⟩
theorem xN (c:ev ρ x= .int kk a) (e:ev ρ y= .int kk b):bP P ρ ⟨d,.binOp .eql tx x y tyy,ty,p,af,g⟩ H (.bool (a==b)):=⟨rfl,λT w f=>by simp[execOp,c,e,eqGuard,binOp,Op.intCmp,Sem.run_pure,Sem.run_bind,Result.andThen]⟩
theorem eP (c:ev ρ x= .int kk a) (e:ev ρ y= .int kk b):bP P ρ ⟨d,.binOp .neq tx x y tyy,ty,p,af,g⟩ H (.bool (a != b)):=⟨rfl,λT w f=>by simp[execOp,c,e,eqGuard,binOp,Op.intCmp,Sem.run_pure,Sem.run_bind,Result.andThen]⟩
theorem jO (c:ev ρ x= .int kk a) (e:ev ρ y= .int kk b):bP P ρ ⟨d,.binOp .lss tx x y tyy,ty,p,af,g⟩ H (.bool (decide (a<b))):=⟨rfl,λT w f=>by simp[execOp,c,e,eqGuard,binOp,Op.intCmp,Sem.run_pure,Sem.run_bind,Result.andThen]⟩
theorem PB (c:ev ρ x= .int kk a) (e:ev ρ y= .int kk b):bP P ρ ⟨d,.binOp .leq tx x y tyy,ty,p,af,g⟩ H (.bool (decide (a<=b))):=⟨rfl,λT w f=>by simp[execOp,c,e,eqGuard,binOp,Op.intCmp,Sem.run_pure,Sem.run_bind,Result.andThen]⟩
theorem pM (c:ev ρ x= .int kk a) (e:ev ρ y= .int kk b):bP P ρ ⟨d,.binOp .gtr tx x y tyy,ty,p,af,g⟩ H (.bool (decide (b<a))):=⟨rfl,λT w f=>by simp[execOp,c,e,eqGuard,binOp,Op.intCmp,Sem.run_pure,Sem.run_bind,Result.andThen]⟩
theorem PC (c:ev ρ x= .int kk a) (e:ev ρ y= .int kk b):bP P ρ ⟨d,.binOp .geq tx x y tyy,ty,p,af,g⟩ H (.bool (decide (b<=a))):=⟨rfl,λT w f=>by simp[execOp,c,e,eqGuard,binOp,Op.intCmp,Sem.run_pure,Sem.run_bind,Result.andThen]⟩
theorem Tf (c:ev ρ x= .int kk a):bP P ρ ⟨d,.unOp .neg tx x,ty,p,af,g⟩ H (.int kk (kk.wrap (0-a))):=⟨rfl,λT w e=>by simp[execOp,c,Op.unary,Op.intArith,Sem.run_pure,Sem.run_bind,Result.andThen]⟩
theorem Th (c:ev ρ x= .int kk a):bP P ρ ⟨d,.unOp .xor tx x,ty,p,af,g⟩ H (.int kk (wb kk (if kk.signed then -1 else kk.max) a)):=⟨rfl,λT w e=>by simp[execOp,c,Op.unary,Op.intBits,Sem.run_pure,Sem.run_bind,Result.andThen,wb]⟩
theorem jH {c:Bool} (e:ev ρ x= .bool c):bP P ρ ⟨d,.unOp .not tx x,ty,p,af,g⟩ H (.bool (!c)):=⟨rfl,λT w f=>by simp[execOp,e,Op.unary,Sem.run_pure,Sem.run_bind,Result.andThen]⟩
end arith
theorem bS {t:TypeId} {x:TypeDesc} {w:World} (h:P.underlying t=some x):(underlying t).run P w= .ok x w:=by
 simp[underlying,program,Sem.run_bind,Sem.run,Result.andThen,h,Sem.run_pure]
theorem fc {t:TypeId} {s:Nat} {w:World} (h:(P.info? t).map (·.size)=some s):(sizeOf t).run P w= .ok s w:=by
 cases hi:P.info? t with
 |none=>rw[hi] at h;cases h
 |some i=>rw[hi] at h;cases h;simp[sizeOf,typeInfo,program,Sem.run_bind,Sem.run,Result.andThen,hi,Sem.run_pure]
theorem yq {t:TypeId} {i:TypeInfo} {w:World} (h:P.info? t=some i):(typeInfo t).run P w= .ok i w:=by
 simp[typeInfo,program,Sem.run_bind,Sem.run,Result.andThen,h,Sem.run_pure]
theorem Rq {src dst:TypeId} {x:Operand} {j e:IntKind} {c:TypeDesc} {a:Int} (f:P.underlying src=some c) (h:P.underlying dst=some (.int e)) (i:ev ρ x= .int j a):
 bP P ρ ⟨d,.convert src dst x,ty,p,af,g⟩ H (.int e (e.wrap a)):=⟨rfl,λT w k=>by
 simp[execOp,i,convert,Sem.run_bind,bS f,bS h,Result.andThen,Conv.intToInt,Sem.run_pure]⟩
theorem yr {x:Operand} {a:Addr} (c:ev ρ x= .pointer (some a)):bP P ρ ⟨d,.nilCheck x,ty,p,af,g⟩ H (.pointer (some a)):=⟨rfl,λT w e=>by
 simp[execOp,c,Sem.run_pure]⟩
def Bq (P:Program) (s i off:Nat):Prop:=∃fs f sz,P.underlying s=some (.struct fs)/\fs[i]?=some f/\f.offset=off/\(P.info? f.type).map (·.size)=some sz/\sz≠0
theorem yF {s i off:Nat} {x:Operand} {a:Addr} (hf:Bq P s i off) (l:ev ρ x= .pointer (some a)):bP P ρ ⟨d,.fieldAddr s x i,ty,p,af,g⟩ H (.pointer (some (a.add off))):=⟨rfl,λT w m=>by
 obtain⟨fs,f,sz,c,e,h,j,k⟩:=hf
 simp[execOp,l,Instr.fieldAt,Sem.run_bind,bS c,e,Result.andThen,Instr.sureAddr,Sem.run_pure,fieldPlace,fc j,k,h]⟩
def iK (P:Program) (t e size:Nat):Prop:=P.underlying t=some (.slice e)/\(P.info? e).map (·.size)=some size
def uN (P:Program) (t len e size:Nat):Prop:=P.underlying t=some (.array len e)/\(P.info? e).map (·.size)=some size
theorem HR {t e size:Nat} {x f:Operand} {a:Addr} {len cap:Nat} {l:IntKind} {i:Int} (c:iK P t e size) (h:0<=i) (j:i<len)
 (k:ev ρ x= .slice (some a) len cap) (hi:ev ρ f= .int l i):bP P ρ ⟨d,.indexAddr t x f,ty,p,af,g⟩ H (.pointer (some (a.add (i.toNat*size)))):=⟨rfl,λT w m=>by
 simp[execOp,k,hi,Instr.indexAt,asIntOf,Sem.run_bind,bS c.1,Result.andThen,Sem.run_pure,fc c.2,h,j]⟩
theorem FT {t n e size:Nat} {x f:Operand} {a:Addr} {l:IntKind} {i:Int} (c:uN P t n e size) (h:0<=i) (j:i<n)
 (k:ev ρ x= .pointer (some a)) (hi:ev ρ f= .int l i):bP P ρ ⟨d,.indexAddr t x f,ty,p,af,g⟩ H (.pointer (some (a.add (i.toNat*size)))):=⟨rfl,λT w m=>by
 simp[execOp,k,hi,Instr.indexAt,asIntOf,Sem.run_bind,bS c.1,Result.andThen,Sem.run_pure,fc c.2,h,j,Instr.sureAddr]⟩
def cellAt (H:PH) (a:Addr):Option Value:=match H a.block with
 |some (.cells c _ _)=>if a.spot.isSome then none else c[a.off]?
 |_=>none
def bw (H:PH) (a:Addr) (n:Nat):Option (List Value):=if n=0 then some [] else match H a.block with
 |some (.cells c _ _)=>if a.spot.isSome then none else if a.off+n<=c.size then some ((c.toList.drop a.off).take n) else none
 |_=>none
theorem cell_of {w:World} (j:iG H T w) {a:Addr} {v:Value} (h:cellAt H a=some v):w.cell? a=some v:=by
 unfold cellAt at h
 split at h
 ·rename_i c e f i
  simp only[World.cell?,j.sub _ _ i];exact h
 ·cases h
theorem run_load {w:World} (c:iG H T w) {a:Addr} {v:Value} (h:cellAt H a=some v):(load a).run P w= .ok v w:=by
 simp[load,Sem.run,cell_of c h]
def we (P:Program) (t:TypeId):Prop:=∃x,P.underlying t=some x/\(match x with| .struct _=>False| .array _ _=>False|_=>True)
def FU (P:Program) (t n:Nat):Prop:=(∃x,P.underlying t=some x/\(match x with| .struct _=>True| .array _ _=>True|_=>False))/\(P.info? t).map (·.size)=some n
theorem td {t:TypeId} {w:World} (h:we P t):(isAgg t).run P w= .ok false w:=by
 obtain⟨x,c,e⟩:=h
 simp only[isAgg,Sem.run_bind,bS c,Result.andThen]
 cases x<;>simp_all[Sem.run_pure]
theorem zt {t n:Nat} {w:World} (h:FU P t n):(isAgg t).run P w= .ok true w:=by
 obtain⟨⟨x,c,e⟩,_⟩:=h
 simp only[isAgg,Sem.run_bind,bS c,Result.andThen]
 cases x<;>simp_all[Sem.run_pure]
theorem AB {t:TypeId} {x:Operand} {a:Addr} {v:Value} (e:we P t) (h:ev ρ x= .pointer (some a)) (f:cellAt H a=some v):bP P ρ ⟨d,.load t x,ty,p,af,g⟩ H v:=⟨rfl,λT w c=>by
 simp[execOp,h,Instr.loadAt,Instr.sureAddr,loadVar,Sem.run_bind,td e,Result.andThen,Sem.run_pure,run_load c f]⟩
theorem add_zero' (a:Addr):a.add 0=a:=by simp[Addr.add]
theorem qm (a:Addr) (n:Nat):(a.add n).block=a.block:=by unfold Addr.add;split<;>rfl
theorem BA (a:Addr) (n:Nat):(a.add n).off=a.off+n:=by unfold Addr.add;split<;>simp_all
theorem qn (a:Addr) (n:Nat) (h:a.spot=none):(a.add n).spot=none:=by unfold Addr.add;split<;>simp_all
theorem eW (b o n:Nat):(⟨b,o,none⟩:Addr).add n=⟨b,o+n,none⟩:=by unfold Addr.add;split<;>simp_all
theorem AD {a:Addr} {n:Nat} {cs:List Value} (h:bw H a n=some cs):cs.length=n/\∀j,j<n->∃v,cs[j]?=some v/\cellAt H (a.add j)=some v:=by
 unfold bw at h
 split at h
 ·rename_i m
  subst m;cases h
  exact⟨rfl,λj k=>by omega⟩
 split at h
 ·rename_i c e f o
  split at h
  ·cases h
  ·rename_i q
   split at h
   ·rename_i hle
    cases h
    refine⟨by simp;omega,λj k=>?_⟩
    have i:a.off+j<c.size:=by omega
    refine⟨c[a.off+j],by simp[k,i],?_⟩
    have l:(a.add j).spot=none:=qn a j (by simpa using q)
    simp[cellAt,qm,o,l,BA,i]
   ·cases h
 ·cases h
theorem run_loadCells {w:World} (l:iG H T w) {a:Addr}:∀(n i:Nat) (acc:Array Value) (cs:List Value),cs.length=n->(∀j,j<n->∃v,cs[j]?=some v/\cellAt H (a.add (i+j))=some v)->
 (loadCellsFrom a i n acc).run P w= .ok (acc++cs.toArray) w
 | 0,i,acc,cs,c,h=>by
   cases cs with
   |nil=>simp[loadCellsFrom,Sem.run_pure]
   |cons=>cases c
 |n+1,i,acc,cs,c,h=>by
  cases cs with
  |nil=>cases c
  |cons v cs=>
   obtain⟨q,e,f⟩:=h 0 (by omega)
   simp at e;subst e
   simp only[Nat.add_zero] at f
   have m:=run_loadCells l (a:=a) n (i+1) (acc.push v) cs (by simpa using c) (λj o=>by
    obtain⟨u,hu,k⟩:=h (j+1) (by omega)
    exact⟨u,by simpa using hu,by rw[show i+1+j=i+(j+1) by omega];exact k⟩)
   simp only[loadCellsFrom,Sem.run_bind,run_load l f,Result.andThen,m]
   simp
theorem rS {w:World} (f:iG H T w) {a:Addr} {n:Nat} {cs:List Value} (h:bw H a n=some cs):(loadCells a n).run P w= .ok cs.toArray w:=by
 obtain⟨c,e⟩:=AD h
 have:=run_loadCells (P:=P) f n 0 #[] cs c (by simpa using e)
 simpa[loadCells] using this
theorem BB {t n:Nat} {x:Operand} {a:Addr} {cs:List Value} (c:FU P t n) (h:ev ρ x= .pointer (some a)) (f:bw H a n=some cs):bP P ρ ⟨d,.load t x,ty,p,af,g⟩ H (.agg cs.toArray):=⟨rfl,λT w e=>by
 simp[execOp,h,Instr.loadAt,Instr.sureAddr,loadVar,Sem.run_bind,zt c,Result.andThen,Sem.run_pure,fc c.2,rS e f]⟩
def Dl (P:Program) (s i off t:Nat):Prop:=∃fs f,P.underlying s=some (.struct fs)/\fs[i]?=some f/\f.offset=off/\f.type=t
theorem uO {s i off t:Nat} {x:Operand} {cs:List Value} {v:Value} (hf:Dl P s i off t) (k:we P t) (m:ev ρ x= .agg cs.toArray) (l:cs[off]?=some v):bP P ρ ⟨d,.field s x i,ty,p,af,g⟩ H v:=⟨rfl,λT w n=>by
 obtain⟨fs,f,c,e,h,j⟩:=hf
 simp[execOp,m,Instr.field,Sem.run_bind,bS c,e,Result.andThen,asAgg,Sem.run_pure,part,h,j,td k,l]⟩
theorem AE {x:Operand} {vs:Array Value} {i:Nat} {v:Value} (e:ev ρ x= .tuple vs) (c:vs[i]?=some v):bP P ρ ⟨d,.extract x i,ty,p,af,g⟩ H v:=⟨rfl,λT w f=>by
 simp[execOp,e,Instr.extract,c,Sem.run_pure,Sem.run_bind,Result.andThen]⟩
theorem oU {xs:Array Operand} {vs:List Value} (h:xs.toList.map (ev ρ)=vs):xs.map (ev ρ)=vs.toArray:=by
 apply Array.ext';simp[h]
theorem ju {xs:Array Operand} {c:Array TypeId} {t e:Nat} {a:Option Addr} {len cap:Nat} (hu:P.underlying t=some (.slice e)) (f:c[0]?=some t) (h:xs.toList.map (ev ρ)=[.slice a len cap]):
 bP P ρ ⟨d,.call ⟨.builtin .len,xs,c⟩,ty,p,af,g⟩ H (.int .i64 len):=⟨rfl,λT w i=>by
 simp[execOp,resolve,oU h,Sem.run_bind,Sem.run_pure,Result.andThen,invoke,builtin,Builtin.len_,f,bS hu,goInt]⟩
theorem Ti {xs:Array Operand} {c:Array TypeId} {t e:Nat} {a:Option Addr} {len cap:Nat} (hu:P.underlying t=some (.slice e)) (f:c[0]?=some t) (h:xs.toList.map (ev ρ)=[.slice a len cap]):
 bP P ρ ⟨d,.call ⟨.builtin .cap,xs,c⟩,ty,p,af,g⟩ H (.int .i64 cap):=⟨rfl,λT w i=>by
 simp[execOp,resolve,oU h,Sem.run_bind,Sem.run_pure,Result.andThen,invoke,builtin,Builtin.cap_,f,bS hu,goInt]⟩
theorem LM {xs:Array Operand} {c:Array TypeId} {k:IntKind} {a b:Int} (e:xs.toList.map (ev ρ)=[.int k a,.int k b]):
 bP P ρ ⟨d,.call ⟨.builtin .min,xs,c⟩,ty,p,af,g⟩ H (.int k (if b<a then b else a)):=⟨rfl,λT w f=>by
 simp[execOp,resolve,oU e,Sem.run_bind,Sem.run_pure,Result.andThen,invoke,builtin,Builtin.min_,Builtin.min2]⟩
theorem Rr {xs:Array Operand} {c:Array TypeId} {k:IntKind} {a b:Int} (e:xs.toList.map (ev ρ)=[.int k a,.int k b]):
 bP P ρ ⟨d,.call ⟨.builtin .max,xs,c⟩,ty,p,af,g⟩ H (.int k (if a<b then b else a)):=⟨rfl,λT w f=>by
 simp[execOp,resolve,oU e,Sem.run_bind,Sem.run_pure,Result.andThen,invoke,builtin,Builtin.max_,Builtin.max2]⟩
end
end Go.Kx
end
section
namespace Go.Kx
section
variable {P:Program} {ρ:Env} {T H:PH} {d:Option Nat} {ty:TypeId} {p:String} {af:Array Edge} {g:Option (Nat×Bool)} {K:Value->PH->PH->Prop}
def cI:Value->Bool
 | .agg _=>false
 | .tuple _=>false
 |_=>true
theorem lV {w:World} (e:TypeId) (c:Array Value):(newRow e c).run P w= .ok ⟨w.heap.size,0,none⟩ (w.alloc (.cells c e)):=by
 simp[newRow,newObj,Sem.run_bind,Sem.run,Result.andThen,Sem.run_pure]
abbrev row (cs:List Value) (e:TypeId):Obj:=.cells cs.toArray e
def bR (P:Program) (t:TypeId) (z:Value):Prop:=(P.info? t).bind (·.zero)=some z
theorem ng {t:TypeId} {z:Value} {w:World} (h:bR P t z):(zeroValue t).run P w= .ok z w:=by
 unfold bR at h
 cases hi:P.info? t with
 |none=>rw[hi] at h;cases h
 |some i=>rw[hi] at h;simp at h;simp[zeroValue,Sem.run_bind,yq hi,Result.andThen,h,Sem.run_pure]
theorem Nd {e:TypeId} {z:Value} {cs:List Value} (f:bR P e z) (c:z.cells=cs.toArray)
 (h:∀b,H b=none->T b=none->K (.pointer (some ⟨b,0,none⟩)) T (H.bL b (row cs e))):cv P ρ ⟨d,.alloc e,ty,p,af,g⟩ T H K:=⟨rfl,λw a=>.inl
 ⟨_,T,_,_,by simp[execOp,Instr.alloc,Sem.run_bind,ng f,Result.andThen,newVar,lV,Sem.run_pure,c],.alloc a _,h _ a.new.1 a.new.2⟩⟩
theorem Rs {e:TypeId} {x:Operand} {v:Value} {cs:List Value} (f:ev ρ x=v) (c:v.cells=cs.toArray)
 (h:∀b,H b=none->T b=none->K (.pointer (some ⟨b,0,none⟩)) T (H.bL b (row cs e))):cv P ρ ⟨d,.box e x,ty,p,af,g⟩ T H K:=⟨rfl,λw a=>.inl
 ⟨_,T,_,_,by simp[execOp,f,Instr.box,Sem.run_bind,Result.andThen,newVar,lV,Sem.run_pure,c],.alloc a _,h _ a.new.1 a.new.2⟩⟩
theorem run_store {w:World} (j:iG H T w) {b off:Nat} {c:Array Value} {e:TypeId} {v:Value} (i:H b=some (.cells c e)) (h:off<c.size) (k:cI v=true):
 (store ⟨b,off,none⟩ v).run P w= .ok () (w.setCell ⟨b,off,none⟩ v):=by
 have hw:=j.sub b _ i
 have a:w.cell? ⟨b,off,none⟩=some c[off]:=by simp[World.cell?,hw,h]
 have f:w.frozen? ⟨b,off,none⟩=false:=by simp[World.frozen?,hw]
 unfold store
 cases v<;>first|(cases k;done)|simp[Sem.run,a,f]
theorem JT {w:World} (h:iG H T w) {b off:Nat} {c:Array Value} {e:TypeId} {v:Value} (f:H b=some (.cells c e)):
 Fr H T w (H.bL b (.cells (c.setIfInBounds off v) e)) T (w.setCell ⟨b,off,none⟩ v):=by
 refine .put h f ?_ rfl rfl rfl
 have hw:=h.sub b _ f
 have a:=h.lt f
 simp only[World.setCell]
 have j:w.heap[b]= .cells c e:=by have:=Array.getElem?_eq_getElem a;rw[hw] at this;exact(Option.some.inj this).symm
 apply Array.ext'
 apply List.ext_getElem?
 intro i
 simp only[Array.getElem?_toList]
 rw[Array.getElem?_modify,Array.getElem?_setIfInBounds]
 by_cases hi:b=i
 ·subst hi;simp[a,j]
 ·simp[hi]
def putAt (cs:List Value) (off:Nat):List Value->List Value
 |[]=>cs
 |v::vs=>putAt (cs.set off v) (off+1) vs
theorem kF (vs:List Value):∀(cs:List Value) (off:Nat),off+vs.length<=cs.length->putAt cs off vs=cs.take off++vs++cs.drop (off+vs.length):=by
 induction vs with
 |nil=>intro cs off h;simp[putAt]
 |cons v vs e=>
  intro cs off h
  simp only[List.length_cons] at h
  rw[putAt,e _ _ (by simp;omega)]
  have b:(cs.set off v).take (off+1)=cs.take off++[v]:=by
   apply List.ext_getElem?
   intro i
   rw[List.getElem?_take]
   by_cases hi:i<off+1
   ·rw[if_pos hi,List.getElem?_set]
    by_cases a:off=i
    ·subst a;rw[if_pos rfl,if_pos (by omega),List.getElem?_append_right (by simp;omega)];simp[Nat.min_eq_left (by omega:off<=cs.length)]
    ·rw[if_neg a,List.getElem?_append_left (by simp;omega),List.getElem?_take,if_pos (by omega)]
   ·rw[if_neg hi,List.getElem?_eq_none (by simp;omega)]
  have c:(cs.set off v).drop (off+1+vs.length)=cs.drop (off+1+vs.length):=by
   rw[List.drop_set,if_pos (by omega)]
  rw[b,c,show off+1+vs.length=off+(vs.length+1) by omega]
  simp
theorem rT (vs:List Value):∀{H:PH} {w:World} (j:iG H T w) {b off i:Nat} {cs:List Value} {e:TypeId} (f:H b=some (row cs e)) (hle:off+i+vs.length<=cs.length) (k:vs.all cI=true),
 ∃w',(storeCells ⟨b,off,none⟩ vs i).run P w= .ok () w'/\Fr H T w (H.bL b (row (putAt cs (off+i) vs) e)) T w':=by
 induction vs with
 |nil=>
  intro H w j b off i cs e f hle k
  refine⟨w,by simp[storeCells,Sem.run_pure],(Fr.refl j).weaken (λx o c=>?_) (λ_ _ h=>h)⟩
  by_cases a:x=b
  ·subst a;simp[putAt] at c;subst c;exact f
  ·rwa[PH.al _ _ a] at c
 |cons v vs r=>
  intro H w j b off i cs e f hle k
  simp only[List.all_cons,Bool.and_eq_true,List.length_cons] at k hle
  have m:=run_store (P:=P) j (off:=off+i) (v:=v) f (by simp;omega) k.1
  have l:=JT j (off:=off+i) (v:=v) f
  have e1:(cs.toArray.setIfInBounds (off+i) v)=(cs.set (off+i) v).toArray:=by simp
  rw[e1] at l
  obtain⟨w',n,q⟩:=r l.own (b:=b) (off:=off) (i:=i+1) (cs:=cs.set (off+i) v) (e:=e) (by simp) (by simp;omega) k.2
  refine⟨w',?_,(l.trans q).weaken (λx o c=>?_) (λ_ _ h=>h)⟩
  ·simp only[storeCells,Sem.run_bind,eW,m,Result.andThen,n]
  ·by_cases a:x=b
   ·subst a;simp at c ⊢; rw[←c,putAt,Nat.add_assoc]
   ·rw[PH.al _ _ a] at c;rw[PH.al _ _ a,PH.al _ _ a];exact c
theorem Br {t n:Nat} {x y:Operand} {b off:Nat} {v:Value} {cs vs:List Value} {e:TypeId} (c:(P.info? t).map (·.size)=some n) (q:ev ρ x= .pointer (some ⟨b,off,none⟩)) (r:ev ρ y=v)
 (f:v.cells=vs.toArray) (m:vs.length=n) (a:vs.all cI=true) (l:H b=some (row cs e)) (hle:off+vs.length<=cs.length)
 (h:K undef T (H.bL b (row (putAt cs off vs) e))):cv P ρ ⟨d,.store t x y,ty,p,af,g⟩ T H K:=⟨rfl,λw o=>by
 obtain⟨w',j,k⟩:=rT (P:=P) vs o (off:=off) (i:=0) l (by omega) a
 refine .inr (.inl ⟨T,_,w',?_,k,by simpa using h⟩)
 simp[execOp,q,r,Instr.storeAt,Instr.sureAddr,storeVar,Sem.run_bind,Sem.run_pure,Result.andThen,fc c,f,m,j]⟩
theorem QF {t e size:Nat} {x:Operand} {a:Option Addr} {len cap:Nat} {lo hi:Option Operand} {l h:Nat} (m:iK P t e size) (n:ev ρ x= .slice a len cap)
 (c:(match lo with|none=>l=0|some o=>∃k,ev ρ o= .int k (l:Int))) (b:(match hi with|none=>h=len|some o=>∃k,ev ρ o= .int k (h:Int))) (f:l<=h) (i:h<=cap) (s:len<=cap):
 bP P ρ ⟨d,.slice t x lo hi none,ty,p,af,g⟩ H (.slice (if cap=l then a else a.map (·.add (l*size))) (h-l) (cap-l)):=⟨rfl,λT w u=>by
 have r:(Instr.sliceBounds true len cap (lo.map (ev ρ)) (hi.map (ev ρ)) none).run P w= .ok (l,h,cap) w:=by
  cases lo with
  |none=>
   simp only at c;subst c
   cases hi with
   |none=>simp only at b;subst b;simp[Instr.sliceBounds,Sem.run_bind,Sem.run_pure,Result.andThen]
   |some o=>obtain⟨k,hk⟩:=b;simp[Instr.sliceBounds,Sem.run_bind,Sem.run_pure,Result.andThen,hk,Instr.sliceBound,asIntOf,i]
  |some q=>
   obtain⟨k,hk⟩:=c
   cases hi with
   |none=>simp only at b;subst b;simp[Instr.sliceBounds,Sem.run_bind,Sem.run_pure,Result.andThen,hk,Instr.sliceBound,asIntOf,f]
   |some o=>obtain⟨k2,j⟩:=b;simp[Instr.sliceBounds,Sem.run_bind,Sem.run_pure,Result.andThen,hk,j,Instr.sliceBound,asIntOf,f,i]
 simp[execOp,n,Instr.sliceAt,Sem.run_bind,bS m.1,Result.andThen,Instr.slice,r,fc m.2,Sem.run_pure]⟩
theorem JU {f:Fn} {fi ca:Array Operand} {vs us:List Value} (a:fi.toList.map (ev ρ)=vs) (b:ca.toList.map (ev ρ)=us):bP P ρ ⟨d,.makeFunc f fi ca,ty,p,af,g⟩ H (.func f vs.toArray us.toArray):=⟨rfl,λT w c=>by
 simp[execOp,oU a,oU b,Instr.makeFunc,Sem.run_pure,Sem.run_bind,Result.andThen]⟩
def bz (n:Nat) (z:List Value):List Value:=(List.range (n*z.length)).map λi=>z[i%z.length]!
theorem qJ (n:Nat) (z:List Value):(Array.range (n*z.length)).map (λi=>z.toArray[i%z.length]!)=(bz n z).toArray:=by
 apply Array.ext';simp[bz]
theorem uz (n:Nat) (z:Value):bz n [z]=List.replicate n z:=by
 apply List.ext_getElem
 ·simp[bz]
 ·intro i a b;simp[bz,Nat.mod_one]
theorem oV (n:Nat) (z:List Value):(bz n z).length=n*z.length:=by simp[bz]
theorem run_askRoom {w:World} (m:Nat):(askRoom m).run P w= .ok () w:=by
 unfold askRoom;split<;>simp[mark,Sem.run,Sem.run_pure]
def fT (P:Program) (t m:Nat):Prop:=(P.info? t).map (·.bytes)=some m
theorem pz {t m:Nat} {w:World} (h:fT P t m):∃i,(typeInfo t).run P w= .ok i w/\i.bytes=m:=by
 unfold fT at h
 cases hi:P.info? t with
 |none=>rw[hi] at h;cases h
 |some i=>rw[hi] at h;cases h;exact⟨i,yq hi,rfl⟩
theorem bA {x:Int} (c: -9223372036854775808<=x) (e:x< 9223372036854775808):IntKind.i64.wrap x=x:=by
 have a:(2:Int) ^ IntKind.i64.bits=18446744073709551616:=rfl
 have b:(2:Int) ^ (IntKind.i64.bits- 1)=9223372036854775808:=rfl
 simp only[IntKind.wrap,a,b,IntKind.signed,Bool.true_and,decide_eq_true_eq]
 split<;>omega
theorem wrap_small {n:Nat} (h:n<=2 ^ 48):IntKind.i64.wrap (n:Int)=n:=bA (by omega) (by omega)
theorem run_makeSlice {t e size m:Nat} {z:Value} {zs:List Value} {n c:Nat} {w:World} {k1 k2:IntKind} (l:iK P t e size) (hm:fT P e m) (k:1<=m) (q:bR P e z) (b:z.cells=zs.toArray) (o:zs.length=size) (y:1<=size)
 (A:n<=c) (s:m*c<=2 ^ 48):(Instr.makeSlice t (.int k1 n) (.int k2 c)).run P w= .ok (.slice (some ⟨w.heap.size,0,none⟩) n c) (w.alloc (row (bz c zs) e)):=by
 obtain⟨i,hi,j⟩:=pz (w:=w) hm
 have u:c<=2 ^ 48:=by
  have:1*c<=m*c:=Nat.mul_le_mul_right c k
  omega
 have v:n<=2 ^ 48:=by omega
 have e1:=wrap_small u
 have e2:=wrap_small v
 have t1:(decide ((c:Int)< 0)||decide ((m:Int)*(c:Int)> 2 ^ 48))=false:=by
  have:(m:Int)*(c:Int)<=2 ^ 48:=by exact_mod_cast s
  simp;omega
 have a:¬(((decide ((c:Int)< 0)||decide ((m:Int)*(c:Int)> 2 ^ 48))=true∨(n:Int)< 0)∨(n:Int)>(c:Int)):=by
  rw[t1];simp;omega
 subst o
 have r:(if c*zs.length=0 then(pure #[]:Sem (Array Value)) else do pure (←zeroValue e).cells).run P w= .ok (if c*zs.length=0 then #[] else zs.toArray) w:=by
  split
  ·simp[Sem.run_pure]
  ·simp[Sem.run_bind,ng q,Result.andThen,Sem.run_pure,b]
 simp only[Instr.makeSlice,Sem.run_bind,bS l.1,Result.andThen,asInt,asIntOf,Sem.run_pure,hi,j,e1,e2]
 simp only[Bool.or_eq_true,decide_eq_true_eq] at a
 simp only[Bool.or_eq_true,decide_eq_true_eq,a,if_false,Int.toNat_natCast,Sem.run_bind,run_askRoom,Result.andThen,fc l.2,r]
 by_cases f:c*zs.length=0
 ·have:c=0:=by rcases Nat.mul_eq_zero.1 f with h|h<;>omega
  subst this
  simp[lV,Sem.run_pure,Result.andThen,bz]
  have:(Array.range 0).map (λ_=>(default:Value))= #[]:=by apply Array.ext';simp
  rw[this]
 ·simp only[f,if_false,Sem.run_bind,ng q,lV,Sem.run_pure,Result.andThen,b]
  rw[show(Array.range (c*zs.length)).map (λx=>zs.toArray[x%zs.toArray.size]!)=(bz c zs).toArray by simpa using qJ c zs]
theorem FV {t e size m:Nat} {x y:Operand} {z:Value} {zs:List Value} {n c:Nat} {k1 k2:IntKind} (q:iK P t e size) (hm:fT P e m) (i:1<=m) (u:bR P e z) (k:z.cells=zs.toArray) (j:zs.length=size) (f:1<=size)
 (r:ev ρ x= .int k1 n) (s:ev ρ y= .int k2 c) (l:n<=c) (o:m*c<=2 ^ 48)
 (h:∀b,H b=none->T b=none->K (.slice (some ⟨b,0,none⟩) n c) T (H.bL b (row (bz c zs) e))):cv P ρ ⟨d,.makeSlice t x y,ty,p,af,g⟩ T H K:=⟨rfl,λw a=>.inl
 ⟨_,T,_,_,by simp[execOp,r,s,Sem.run_bind,run_makeSlice q hm i u k j f l o,Result.andThen,Sem.run_pure],.alloc a _,h _ a.new.1 a.new.2⟩⟩
theorem E3 {t e size len:Nat} {parts:Array (Nat×Operand)} {ps:List (Nat×Value)} {z:Value} {zs cs:List Value} (k:iK P t e size) (r:bR P e z) (m:z.cells=zs.toArray) (l:zs.length=size) (n:len*size≠0) (s:len*size<=2 ^ 24)
 (j:parts.toList.map (λq=>(q.1,ev ρ q.2))=ps) (hf:Instr.fill (λi=>some (i*size,size)) (bz len zs).toArray ps=some cs.toArray)
 (h:∀b,H b=none->T b=none->K (.slice (some ⟨b,0,none⟩) len len) T (H.bL b (row cs e))):cv P ρ ⟨d,.buildSlice t len parts,ty,p,af,g⟩ T H K:=⟨rfl,λw c=>by
 refine .inl ⟨_,T,_,_,?_,.alloc c _,h _ c.new.1 c.new.2⟩
 subst l
 have a:¬len*zs.length> 2 ^ 24:=by omega
 have f:(parts.map λq=>(q.1,ev ρ q.2)).toList=ps:=by rw[←j];simp
 have o:=qJ len zs
 simp only[execOp,Instr.buildSlice,Sem.run_bind,bS k.1,Result.andThen,fc k.2,a,if_false,n,ng r,Sem.run_pure,m]
 simp only[f,List.size_toArray,o,hf,Sem.run_bind,lV,Result.andThen,Sem.run_pure]⟩
theorem rU {xs:Array Operand} {a:Array TypeId} {f:FuncId} {vs:List Value} {R:Value->PH->Prop} (hf:Body P f) (n:xs.toList.map (ev ρ)=vs) (l:dv P f vs.toArray H R)
 (h:∀v H',R v H'->K v T H'):cv P ρ ⟨d,.call ⟨.value (.func f),xs,a⟩,ty,p,af,g⟩ T H K:=⟨rfl,λw m=>by
 refine .inr (.inr (.inl ⟨f,vs.toArray,?_,?_⟩))
 ·simp[execOp,resolve,ev,oU n,Deferred.ofValue,Sem.run_bind,Sem.run_pure,Result.andThen,invoke,hf _ _]
 ·exact(l.beside w m).mono λe w' ⟨v,b,H',c,i,j,k⟩=>⟨v,b,H',c,i,j▸h v H' k⟩⟩
end
end Go.Kx
end
section
namespace Go.Kx
structure Sl where
 a:Option Addr
 len:Nat
 cap:Nat
abbrev Sl.v (s:Sl):Value:=.slice s.a s.len s.cap
abbrev Sl.nil:Sl:=⟨none,0,0⟩
def aJ (c:Bool) (a b:Prop):Prop:=(c=true->a)/\(c=false->b)
def aM {σ:Type} (k:σ->PH->Prop) (body:(σ->PH->Prop)->Prop):Prop:=body k
def bp {σ:Type} (body:σ->PH->(σ->PH->Prop)->Prop) (s0:σ) (b:PH):Prop:=
 ∃I:Nat->σ->PH->Prop,(∃m,I m s0 b)/\∀m s H,I m s H->body s H λc H'=>∃a,a<m/\I a c H'
def aN (p:Option Addr) (K:Addr->Prop):Prop:=∃a,p=some a/\K a
def aH {α:Type} (enc:α->Value) (H:PH) (a:Addr) (K:α->Prop):Prop:=∃x,cellAt H a=some (enc x)/\K x
def AF (H:PH) (a:Addr) (n:Nat) (K:List Value->Prop):Prop:=∃cs,bw H a n=some cs/\K cs
def aX (H:PH) (a:Addr) (vs:List Value) (K:PH->Prop):Prop:=
 ∃b off cs e,a=⟨b,off,none⟩/\H b=some (row cs e)/\off+vs.length<=cs.length/\vs.all cI=true/\K (H.bL b (row (putAt cs off vs) e))
def Nf (s:Sl) (size:Nat) (i:Int) (a:Addr):Prop:=∃a0,s.a=some a0/\0<=i/\i<s.len/\a=a0.add (i.toNat*size)
def bX (s:Sl) (size:Nat) (i:Int) (K:Addr->Prop):Prop:=∃a,Nf s size i a/\K a
def Ng (n:Nat) (a0:Addr) (size:Nat) (i:Int) (a:Addr):Prop:=0<=i/\i<n/\a=a0.add (i.toNat*size)
def fW (n:Nat) (a0:Addr) (size:Nat) (i:Int) (K:Addr->Prop):Prop:=∃a,Ng n a0 size i a/\K a
def Bt (H:PH) (o:Obj) (a:Addr) (H':PH):Prop:=∃b,H b=none/\a=⟨b,0,none⟩/\H'=H.bL b o
def uP (H:PH) (o:Obj) (n c:Nat) (r:Sl) (H':PH):Prop:=∃b,H b=none/\r=⟨some ⟨b,0,none⟩,n,c⟩/\H'=H.bL b o
def ag (H:PH) (o:Obj) (K:Addr->PH->Prop):Prop:=∀a H',Bt H o a H'->K a H'
def bV (H:PH) (o:Obj) (n:Nat) (K:Sl->PH->Prop):Prop:=∀r H',uP H o n n r H'->K r H'
def sH (m:Nat) (n c:Int):Prop:=0<=n/\n<=c/\(m:Int)*c<=2 ^ 48
def xO (H:PH) (e m:Nat) (zs:List Value) (n c:Int) (K:Sl->PH->Prop):Prop:=
 sH m n c/\∀r H',uP H (row (bz c.toNat zs) e) n.toNat c.toNat r H'->K r H'
def Sl.cut (s:Sl) (size lo hi:Nat):Sl:=⟨if s.cap=lo then s.a else s.a.map (·.add (lo*size)),hi-lo,s.cap-lo⟩
def Nh (s:Sl) (size:Nat) (lo hi:Int) (r:Sl):Prop:=0<=lo/\lo<=hi/\hi<=s.cap/\s.len<=s.cap/\r=s.cut size lo.toNat hi.toNat
def kG (s:Sl) (size:Nat) (lo hi:Int) (K:Sl->Prop):Prop:=∃r,Nh s size lo hi r/\K r
def rV (A K:Prop):Prop:=A/\K
def mC (H:PH) (o:Obj) (n c:Int) (K:Sl->PH->Prop):Prop:=∀r H',uP H o n.toNat c.toNat r H'->K r H'
def ar (H:PH) (a:Addr) (v:Value) (K:Prop):Prop:=cellAt H a=some v/\K
def fU (H:PH) (a:Addr) (n:Nat) (cs:List Value) (K:Prop):Prop:=bw H a n=some cs/\K
def xP (b:Int) (K:Prop):Prop:=b≠0/\K
def Cg (b:Int) (K:Prop):Prop:=0<=b/\K
section
variable {P:Program} {rd:Option Nat} {n:Nat} {k:List Item} {ρ:Env} {D:List Deferred} {T H:PH} {Q:mr} {ops:Array Oper} {l:List Oper} {i:Nat}
theorem rW {σ:Type} (m:Nat) (E:Env->σ->Prop) {kk:σ->PH->Prop} {body:(σ->PH->Prop)->Prop} (h:aM kk body)
 (a:∀s H ρ,kk s H->E ρ s->Go P rd n (k.drop m) ρ D T H Q)
 (b:∀j:σ->PH->Prop,(∀s H ρ,j s H->E ρ s->Go P rd n (k.drop m) ρ D T H Q)->body j->Go P rd n k ρ D T H Q):Go P rd n k ρ D T H Q:=b kk a h
theorem cS {σ:Type} (m:Nat) (E:Env->σ->Prop) {kk:σ->PH->Prop} {body:(σ->PH->Prop)->Prop} (h:aM kk body)
 (a:∀s H ρ,kk s H->E ρ s->bO P rd n ops (l.drop m) (i+m) k ρ D T H Q)
 (b:∀j:σ->PH->Prop,(∀s H ρ,j s H->E ρ s->bO P rd n ops (l.drop m) (i+m) k ρ D T H Q)->body j->bO P rd n ops l i k ρ D T H Q):bO P rd n ops l i k ρ D T H Q:=b kk a h
theorem qK {σ:Type} {c:Code} {a:σ->PH->(σ->PH->Prop)->Prop} {s0:σ} (E:Env->σ->Prop) (h:bp a s0 H) (e:E ρ s0)
 (round:∀ρ s H again,E ρ s->a s H again->(∀d H' ρ',again d H'->E ρ' d->Go P rd n (.inLoop c::k) ρ' D T H' Q)->Go P rd n (.code c:: .inLoop c::k) ρ D T H Q):
 Go P rd n (.code (.loop c)::k) ρ D T H Q:=by
 obtain⟨I,⟨v,o⟩,q⟩:=h
 refine Go.step (k2:=.code c:: .inLoop c::k) (λb cs t w _=>step_lone_go (by simp[stepG,stepG.exec,mk])) ?_
 have key:∀m s H ρ,E ρ s->I m s H->Go P rd n (.code c:: .inLoop c::k) ρ D T H Q:=by
  intro m
  induction m using Nat.strongRecOn with
  |_ m r=>
   intro s H ρ e p
   refine round ρ s H _ e (q m s H p) λd H' ρ' ⟨u,j,g⟩ f=>?_
   exact .step (λb cs t w _=>step_lone_go (by simp[stepG,stepG.exec,mk])) (r u j d H' ρ' f g)
 exact key v s0 H ρ e o
theorem jP {o:Oper} {j d:Nat} {w c:Bool} (e:o.guard=some (j,w)) (b:(ops[j]?).bind (·.dst)=some d) (f:ρ d= .bool c) (a:c=w):want ops ρ o=true:=by
 simp[want,e,yp,b,f,a]
theorem Dm {o:Oper} {j d:Nat} {w c:Bool} (e:o.guard=some (j,w)) (b:(ops[j]?).bind (·.dst)=some d) (f:ρ d= .bool c) (a:c= !w):want ops ρ o=false:=by
 simp[want,e,yp,b,f,a]
theorem Ci {o:Oper} {j d:Nat} {w:Bool} (b:o.guard=some (j,w)) (a:(ops[j]?).bind (·.dst)=some d) (c:ρ d=undef):want ops ρ o=false:=by
 simp[want,b,yp,a,c,undef]
theorem LN {o:Oper} {d:Nat} (hw:want ops ρ o=false) (a:o.dst=some d) (b:d<n) (h:bO P rd n ops l (i+1) k (bL ρ d undef) D T H Q):bO P rd n ops (o::l) i k ρ D T H Q:=
 .no hw (λx c=>by rw[a] at c;cases c;exact b) (by rw[a];exact h)
theorem wg {o:Oper} {d:Nat} (hw:want ops ρ o=true) (a:o.dst=some d) (b:d<n) (h:cv P ρ o T H λv e H'=>bO P rd n ops l (i+1) k (bL ρ d v) D e H' Q):bO P rd n ops (o::l) i k ρ D T H Q:=
 .op hw (λx c=>by rw[a] at c;cases c;exact b) (by rw[a];exact h)
theorem IE {o:Oper} (hw:want ops ρ o=true) (a:o.dst=none) (h:cv P ρ o T H λv c H'=>bO P rd n ops l (i+1) k ρ D c H' Q):bO P rd n ops (o::l) i k ρ D T H Q:=
 .op hw (λx b=>by rw[a] at b;cases b) (by rw[a];exact h)
theorem gL {xs:Array Operand} {a:Array TypeId} {f:FuncId} {vs:List Value} {R:Value->PH->Prop} {d:Nat} {ty:TypeId} {p:String} {af:Array Edge} {g:Option (Nat×Bool)}
 (hw:want ops ρ ⟨some d,.call ⟨.value (.func f),xs,a⟩,ty,p,af,g⟩=true) (b:d<n) (hf:Body P f) (c:dv P f vs.toArray H R) (e:xs.toList.map (ev ρ)=vs)
 (h:∀v H',R v H'->bO P rd n ops l (i+1) k (bL ρ d v) D T H' Q):bO P rd n ops (⟨some d,.call ⟨.value (.func f),xs,a⟩,ty,p,af,g⟩::l) i k ρ D T H Q:=
 wg hw rfl b (rU hf e c h)
theorem qo {α:Type} {a b:α} (h:a=b):[a]=[b]:=by rw[h]
theorem UM {α:Type} {a c b d:α} (h:a=c) (e:b=d):[a,b]=[c,d]:=by rw[h,e]
end
end Go.Kx
end
section
namespace Go.Kx
theorem Rt {v:Value} {b:Bool} (h:v= .bool b) (a:b=true):v= .bool true:=by rw[h,a]
theorem Ru {v:Value} {b:Bool} (h:v= .bool b) (a:b=false):v= .bool false:=by rw[h,a]
theorem Vt {v:Value} {s:Sl} {a:Addr} (h:v=Sl.v s) (b:s.a=some a):v= .slice (some a) s.len s.cap:=by rw[h];simp[Sl.v,b]
theorem Rv {v:Value} {a b:Addr} (h:v= .pointer (some a)) (c:a=b):v= .pointer (some b):=by rw[h,c]
theorem UN {v:Value} {p:Option Addr} {a:Addr} (h:v= .pointer p) (b:p=some a):v= .pointer (some a):=by rw[h,b]
theorem yt {v:Value} {k:IntKind} {x:Int} (h:v= .int k x) (a:0<=x):v= .int k ((x.toNat:Nat):Int):=by rw[h,Int.toNat_of_nonneg a]
theorem UO {m:Nat} {n c:Int} (e:0<=n) (f:n<=c) (a:(m:Int)*c<=2 ^ 48):m*c.toNat<=2 ^ 48:=by
 have b:((c.toNat:Nat):Int)=c:=Int.toNat_of_nonneg (by omega)
 have:((m*c.toNat:Nat):Int)<=2 ^ 48:=by rw[Int.natCast_mul,b];exact a
 exact_mod_cast this
def Ni (k:IntKind) (a:Int):Int:=wb k (if k.signed then -1 else k.max) a
def Nj (cs:List Value) (n:Nat) (K:Prop):Prop:=cs.length=n/\K
def Bu (H:PH) (a:Addr) (n:Nat) (vs:List Value) (K:PH->Prop):Prop:=vs.length=n/\aX H a vs K
section
variable {P:Program} {ρ:Env} {T H:PH} {d:Option Nat} {ty:TypeId} {p:String} {af:Array Edge} {g:Option (Nat×Bool)} {K:Value->PH->PH->Prop}
theorem kj {t e size:Nat} {x c:Operand} {s:Sl} {m:IntKind} {i:Int} {a:Addr} (k:iK P t e size) (hi:Nf s size i a) (l:ev ρ x=Sl.v s) (b:ev ρ c= .int m i):bP P ρ ⟨d,.indexAddr t x c,ty,p,af,g⟩ H (.pointer (some a)):=by
 obtain⟨a0,f,h,j,rfl⟩:=hi
 exact HR k h j (Vt l f) b
theorem m9 {t n e size:Nat} {x c:Operand} {a0 a:Addr} {l:IntKind} {i:Int} (j:uN P t n e size) (hi:Ng n a0 size i a) (k:ev ρ x= .pointer (some a0)) (b:ev ρ c= .int l i):bP P ρ ⟨d,.indexAddr t x c,ty,p,af,g⟩ H (.pointer (some a)):=by
 obtain⟨f,h,rfl⟩:=hi
 exact FT j f h k b
theorem JV {t e size:Nat} {x:Operand} {s r:Sl} {lo hi:Option Operand} {l h:Int} (j:iK P t e size) (i:Nh s size l h r) (m:ev ρ x=Sl.v s)
 (b:(match lo with|none=>l=0|some o=>∃k,ev ρ o= .int k l)) (a:(match hi with|none=>h=(s.len:Int)|some o=>∃k,ev ρ o= .int k h)):
 bP P ρ ⟨d,.slice t x lo hi none,ty,p,af,g⟩ H (Sl.v r):=by
 obtain⟨c,n,q,f,rfl⟩:=i
 refine QF (l:=l.toNat) (h:=h.toNat) j m ?_ ?_ (by omega) (by omega) f
 ·cases lo with
  |none=>simp only at b ⊢; omega
  |some o=>obtain⟨k,hk⟩:=b;exact⟨k,yt hk c⟩
 ·cases hi with
  |none=>simp only at a ⊢; omega
  |some o=>obtain⟨k,hk⟩:=a;exact⟨k,yt hk (by omega)⟩
theorem cT {e:TypeId} {z:Value} {cs:List Value} (i:bR P e z) (f:z.cells=cs.toArray)
 (h:∀a H',Bt H (row cs e) a H'->K (.pointer (some a)) T H'):cv P ρ ⟨d,.alloc e,ty,p,af,g⟩ T H K:=Nd i f λb c _=>h _ _ ⟨b,c,rfl,rfl⟩
theorem cE {e:TypeId} {x:Operand} {v:Value} {cs:List Value} (i:ev ρ x=v) (f:v.cells=cs.toArray)
 (h:∀a H',Bt H (row cs e) a H'->K (.pointer (some a)) T H'):cv P ρ ⟨d,.box e x,ty,p,af,g⟩ T H K:=Rs i f λb c _=>h _ _ ⟨b,c,rfl,rfl⟩
theorem lW {t e size m:Nat} {x y:Operand} {z:Value} {zs:List Value} {n c:Int} {k1 k2:IntKind} (o:iK P t e size) (hm:fT P e m) (i:1<=m) (u:bR P e z) (k:z.cells=zs.toArray) (j:zs.length=size) (f:1<=size)
 (q:ev ρ x= .int k1 n) (s:ev ρ y= .int k2 c) (a:sH m n c)
 (h:∀r H',uP H (row (bz c.toNat zs) e) n.toNat c.toNat r H'->K (Sl.v r) T H'):cv P ρ ⟨d,.makeSlice t x y,ty,p,af,g⟩ T H K:=
 FV o hm i u k j f (yt q a.1) (yt s (Int.le_trans a.1 a.2.1)) (by have:=a.1;have:=a.2.1;omega) (UO a.1 a.2.1 a.2.2) λb l _=>h _ _ ⟨b,l,rfl,rfl⟩
theorem nA {t e size len:Nat} {parts:Array (Nat×Operand)} {ps:List (Nat×Value)} {z:Value} {zs cs:List Value} (m:iK P t e size) (n:bR P e z) (j:z.cells=zs.toArray) (f:zs.length=size) (k:len*size≠0) (a:len*size<=2 ^ 24)
 (c:parts.toList.map (λq=>(q.1,ev ρ q.2))=ps) (hf:Instr.fill (λi=>some (i*size,size)) (bz len zs).toArray ps=some cs.toArray)
 (h:∀r H',uP H (row cs e) len len r H'->K (Sl.v r) T H'):cv P ρ ⟨d,.buildSlice t len parts,ty,p,af,g⟩ T H K:=
 E3 m n j f k a c hf λb l _=>h _ _ ⟨b,l,rfl,rfl⟩
def PD (H:PH) (s:Sl) (K:PH->Prop):Prop:=∃b off cs e,s.a=some ⟨b,off,none⟩/\H b=some (row cs e)/\K (H.bL b (.cells cs.toArray e (cs.length,cs.length+1)))
theorem QG {t e:TypeId} {x:Operand} {s:Sl} {j:PH->Prop} (m:P.underlying t=some (.slice e)) (n:P.underlying e=some (.int .u8)) (q:ev ρ x=Sl.v s) (h:PD H s j) (hk:∀H',j H'->K (Sl.v s) T H'):
 cv P ρ ⟨d,.convert t t x,ty,p,af,g⟩ T H K:=⟨rfl,λw f=>by
 obtain⟨b,off,cs,k,o,c,h⟩:=h
 have hw:=f.sub b _ c
 have a:=f.lt c
 have l:w.heap[b]= .cells cs.toArray k:=by have:=Array.getElem?_eq_getElem a;rw[hw] at this;exact(Option.some.inj this).symm
 refine .inl ⟨_,T,_,w.freeze ⟨b,cs.length,none⟩ 1,?_,.put f c (o':=.cells cs.toArray k (cs.length,cs.length+1)) ?_ rfl rfl rfl,hk _ h⟩
 ·simp[execOp,q,Sl.v,o,convert,Sem.run_bind,bS m,bS n,Result.andThen,markStringish,shape,freeze,Sem.run,World.shape?,hw,Sem.run_pure]
 ·simp only[World.freeze]
  apply Array.ext'
  apply List.ext_getElem?
  intro i
  simp only[Array.getElem?_toList,Nat.one_ne_zero,if_false]
  rw[Array.getElem?_modify,Array.getElem?_setIfInBounds]
  by_cases hi:b=i
  ·subst hi;simp[a,l]
  ·simp[hi]⟩
def yu (P:Program) (t:Nat) (pl:List (Nat×Nat)):Prop:=
 ∃fs,P.underlying t=some (.struct fs)/\fs.toList.length=pl.length/\(fs.toList.zip pl).all (λq=>q.1.offset==q.2.1&&(P.info? q.1.type).map (·.size)==some q.2.2)=true
theorem run_places {w:World}:∀(fs:List Field) (pl:List (Nat×Nat)),fs.length=pl.length->(fs.zip pl).all (λq=>q.1.offset==q.2.1&&(P.info? q.1.type).map (·.size)==some q.2.2)=true->
 (fs.mapM (m:=Sem) λf=>do pure (f.offset,←sizeOf f.type)).run P w= .ok pl w
 |[],[],_,_=>by simp[Sem.run_pure]
 |f::fs,q::pl,a,h=>by
  simp only[List.zip_cons_cons,List.all_cons,Bool.and_eq_true,beq_iff_eq] at h
  have b:=run_places (w:=w) fs pl (by simpa using a) h.2
  rw[List.mapM_cons]
  simp only[Sem.run_bind,fc h.1.2,Result.andThen,Sem.run_pure,b,h.1.1]
theorem cH {t:Nat} {parts:Array (Nat×Operand)} {pl:List (Nat×Nat)} {ps:List (Nat×Value)} {z:Value} {zs cs:List Value} (l:yu P t pl) (n:bR P t z) (e:z.cells=zs.toArray)
 (c:parts.toList.map (λq=>(q.1,ev ρ q.2))=ps) (hf:Instr.fill (λi=>pl.toArray[i]?) zs.toArray ps=some cs.toArray):bP P ρ ⟨d,.build t parts,ty,p,af,g⟩ H (.agg cs.toArray):=⟨rfl,λT w o=>by
 obtain⟨fs,h,j,k⟩:=l
 have b:(parts.map λq=>(q.1,ev ρ q.2)).toList=ps:=by rw[←c];simp
 have hm:(fs.mapM (m:=Sem) λf=>do pure (f.offset,←sizeOf f.type)).run P w= .ok pl.toArray w:=by
  have:=run_places (P:=P) (w:=w) fs.toList pl j k
  rw[Array.mapM_eq_mapM_toList]
  show Sem.run P ((List.mapM _ fs.toList)>>=λa=>pure a.toArray) w=_
  simp only[Sem.run_bind,this,Result.andThen,Sem.run_pure]
 simp only[execOp,Instr.build,Sem.run_bind,ng n,Result.andThen,bS h,hm,b,e,hf,Sem.run_pure]⟩
theorem uQ {t len e size:Nat} {parts:Array (Nat×Operand)} {ps:List (Nat×Value)} {z:Value} {zs cs:List Value} (c:uN P t len e size) (h:bR P t z) (f:z.cells=zs.toArray)
 (b:parts.toList.map (λq=>(q.1,ev ρ q.2))=ps) (hf:Instr.fill (λi=>some (i*size,size)) zs.toArray ps=some cs.toArray):bP P ρ ⟨d,.build t parts,ty,p,af,g⟩ H (.agg cs.toArray):=⟨rfl,λT w j=>by
 have a:(parts.map λq=>(q.1,ev ρ q.2)).toList=ps:=by rw[←b];simp
 simp only[execOp,Instr.build,Sem.run_bind,ng h,Result.andThen,bS c.1,fc c.2,a,f,hf,Sem.run_pure]⟩
end
end Go.Kx
end
section
namespace Go.Kx
section
variable {P:Program} {ρ:Env} {T H:PH} {d:Option Nat} {ty:TypeId} {p:String} {af:Array Edge} {g:Option (Nat×Bool)} {K:Value->PH->PH->Prop}
theorem rX (t:TypeId) (x y:Value):Op.equal t x y=Op.equalIn (9999+1) t x y:=rfl
theorem QH {t:TypeId} {a b:Bool} {w:World} (n:Nat) (hu:P.underlying t=some .bool):(Op.equalIn (n+1) t (.bool a) (.bool b)).run P w= .ok (a==b) w:=by
 simp only[Op.equalIn,Sem.run_bind,bS hu,Result.andThen,Sem.run_pure]
theorem IF {t e:TypeId} {a:Option Addr} {w:World} (n:Nat) (hu:P.underlying t=some (.pointer e)):(Op.equalIn (n+1) t (.pointer a) (.pointer none)).run P w= .ok (Option.isNone a) w:=by
 cases a<;>simp only[Op.equalIn,Sem.run_bind,bS hu,Result.andThen,Sem.run_pure,Option.isNone]
theorem LO {t e:TypeId} {a:Option Addr} {l c:Nat} {w:World} (n:Nat) (hu:P.underlying t=some (.slice e)):(Op.equalIn (n+1) t (.slice a l c) (.slice none 0 0)).run P w= .ok (Option.isNone a) w:=by
 cases a<;>simp only[Op.equalIn,Sem.run_bind,bS hu,Result.andThen,Sem.run_pure,Option.isNone]
section
variable {x y:Operand} {tx ty2 e:TypeId} {a b:Bool} {pa:Option Addr} {l c:Nat}
theorem Rx (hu:P.underlying tx=some .bool) (f:ev ρ x= .bool a) (h:ev ρ y= .bool b):bP P ρ ⟨d,.binOp .neq tx x y ty2,ty,p,af,g⟩ H (.bool (a != b)):=⟨rfl,λT w i=>by
 simp only[execOp,f,h,eqGuard,binOp,rX,QH 9999 hu,Sem.run_pure,Sem.run_bind,Result.andThen,reduceIte,Bool.not_true,Bool.false_eq_true,bne]⟩
theorem je (hu:P.underlying tx=some (.pointer e)) (f:ev ρ x= .pointer pa) (h:ev ρ y= .pointer none):bP P ρ ⟨d,.binOp .eql tx x y ty2,ty,p,af,g⟩ H (.bool (Option.isNone pa)):=⟨rfl,λT w i=>by
 simp only[execOp,f,h,eqGuard,binOp,rX,IF 9999 hu,Sem.run_pure,Sem.run_bind,Result.andThen,reduceIte,Bool.not_true,Bool.false_eq_true]⟩
theorem QI (hu:P.underlying tx=some (.pointer e)) (f:ev ρ x= .pointer pa) (h:ev ρ y= .pointer none):bP P ρ ⟨d,.binOp .neq tx x y ty2,ty,p,af,g⟩ H (.bool (!Option.isNone pa)):=⟨rfl,λT w i=>by
 simp only[execOp,f,h,eqGuard,binOp,rX,IF 9999 hu,Sem.run_pure,Sem.run_bind,Result.andThen,reduceIte,Bool.not_true,Bool.false_eq_true]⟩
theorem QJ (hu:P.underlying tx=some (.slice e)) (f:ev ρ x= .slice pa l c) (h:ev ρ y= .slice none 0 0):bP P ρ ⟨d,.binOp .eql tx x y ty2,ty,p,af,g⟩ H (.bool (Option.isNone pa)):=⟨rfl,λT w i=>by
 simp only[execOp,f,h,eqGuard,binOp,rX,LO 9999 hu,Sem.run_pure,Sem.run_bind,Result.andThen,reduceIte,Bool.not_true,Bool.false_eq_true]⟩
theorem QK (hu:P.underlying tx=some (.slice e)) (f:ev ρ x= .slice pa l c) (h:ev ρ y= .slice none 0 0):bP P ρ ⟨d,.binOp .neq tx x y ty2,ty,p,af,g⟩ H (.bool (!Option.isNone pa)):=⟨rfl,λT w i=>by
 simp only[execOp,f,h,eqGuard,binOp,rX,LO 9999 hu,Sem.run_pure,Sem.run_bind,Result.andThen,reduceIte,Bool.not_true,Bool.false_eq_true]⟩
end
end
end Go.Kx
end
section
namespace Go.Kx
section
variable {P:Program} {ρ:Env} {T H:PH} {d:Option Nat} {ty:TypeId} {p:String} {af:Array Edge} {g:Option (Nat×Bool)} {K:Value->PH->PH->Prop}
def df (H:PH) (s:Sl) (size:Nat):Option (List Value):=match s.a with
 |some a=>bw H a (s.len*size)
 |none=>some []
theorem lu {w:World} (c:iG H T w) {s:Sl} {size:Nat} {cs:List Value} (h:df H s size=some cs):(Builtin.firstCells size s.len (Sl.v s)).run P w= .ok cs.toArray w:=by
 unfold df at h
 cases b:s.a with
 |none=>rw[b] at h;simp at h;subst h;simp[Builtin.firstCells,Sl.v,b,Sem.run_pure]
 |some a=>rw[b] at h;simp only at h;simp only[Sl.v,b,Builtin.firstCells,rS c h]
def fG (H:PH) (e size m:Nat) (zs:List Value) (s x:Sl) (K:Sl->PH->Prop):Prop:=
 ∃ys,df H x size=some ys/\ys.length=x.len*size/\ys.all cI=true/\
  if s.len+x.len<=s.cap then
   (match s.a with
    |some a=>∃b off cs f,a=⟨b,off,none⟩/\H b=some (row cs f)/\off+s.len*size+ys.length<=cs.length/\K ⟨s.a,s.len+x.len,s.cap⟩ (H.bL b (row (putAt cs (off+s.len*size) ys) f))
    |none=>ys=[]/\K ⟨s.a,s.len+x.len,s.cap⟩ H)
  else∃xs,df H s size=some xs/\(4*(s.len+x.len)+4096)*m<=2 ^ 48/\s.len<=s.cap/\
   ∀b c,H b=none->s.len+x.len<=c->K ⟨some ⟨b,0,none⟩,s.len+x.len,c⟩ (H.bL b (row (xs++ys++bz (c-(s.len+x.len)) zs) e))
theorem FW (n:Nat):∀(r c:Nat),Builtin.growBy n r c<=max c (n+(n+768)/ 4):=by
 intro r
 induction r with
 |zero=>intro c;simp[Builtin.growBy];omega
 |succ r a=>
  intro c
  simp only[Builtin.growBy]
  split
  ·omega
  ·have:=a (c+(c+768)/ 4);omega
theorem zu (a b:Nat) (h:b<a):Builtin.nextslicecap a b<=4*a+4096:=by
 unfold Builtin.nextslicecap
 split
 ·omega
 ·split
  ·omega
  ·have:=FW a 4 b;omega
theorem iu {xs:Array Operand} {f:Array TypeId} {t e size m:Nat} {z:Value} {zs:List Value} {s x:Sl} {xt xe:TypeId} (l:iK P t e size) (hm:fT P e m) (Y:1<=m) (hz:bR P e z) (ac:z.cells=zs.toArray) (ak:zs.length=size) (aj:1<=size)
 (O:f[0]?=some t) (u:f[1]?=some xt) (y:P.underlying xt=some (.slice xe))
 (hx:xs.toList.map (ev ρ)=[Sl.v s,Sl.v x]) {Q:Sl->PH->Prop} (h:fG H e size m zs s x Q) (hk:∀r H',Q r H'->K (Sl.v r) T H'):
 cv P ρ ⟨d,.call ⟨.builtin .append,xs,f⟩,ty,p,af,g⟩ T H K:=⟨rfl,λw q=>by
 obtain⟨ys,J,am,aa,h⟩:=h
 have B:=oU hx
 have C:=lu (P:=P) q J
 obtain⟨ie,o,W⟩:=pz (w:=w) hm
 have e1:∀v w',(Builtin.append_ f ty #[Sl.v s,Sl.v x]).run P w= .ok v w'->(execOp (ev ρ) ⟨d,.call ⟨.builtin .append,xs,f⟩,ty,p,af,g⟩).run P w= .ok (.value v) w':=by
  intro v w' hv
  simp only[execOp,resolve,B,Sem.run_bind,Sem.run_pure,Result.andThen,invoke,builtin]
  rw[hv]
 by_cases hle:s.len+x.len<=s.cap
 ·rw[if_pos hle] at h
  cases A:s.a with
  |none=>
   rw[A] at h
   obtain⟨rfl,L⟩:=h
   refine .inl ⟨_,T,H,w,e1 _ _ ?_,.refl q,hk _ _ L⟩
   simp[Builtin.append_,O,u,Sem.run_bind,bS l.1,Result.andThen,fc l.2,bS y,Sem.run_pure,Sl.v,Builtin.lenOf,hle,A]
   simp only[Sl.v] at C
   rw[C]
  |some a=>
   rw[A] at h
   obtain⟨b,off,cs,e',rfl,hb,hlen,L⟩:=h
   obtain⟨w',h1,R⟩:=rT (P:=P) ys q (b:=b) (off:=off+s.len*size) (i:=0) hb (by omega) aa
   refine .inl ⟨_,T,_,w',e1 _ _ ?_,R,by simpa using hk _ _ L⟩
   simp[Builtin.append_,O,u,Sem.run_bind,bS l.1,Result.andThen,fc l.2,bS y,Sem.run_pure,Sl.v,Builtin.lenOf,hle,A]
   simp only[Sl.v] at C
   rw[C]
   simp[eW,h1]
 ·rw[if_neg hle] at h
  obtain⟨ad,G,S,ah,h⟩:=h
  have al:=lu (P:=P) q G
  have Z:=zu (s.len+x.len) s.cap (by omega)
  have ai:Builtin.nextslicecap (s.len+x.len) s.cap*m<=2 ^ 48:=Nat.le_trans (Nat.mul_le_mul_right m Z) S
  have ae:s.len+x.len<=2 ^ 48:=by
   have:4*(s.len+x.len)*1<=(4*(s.len+x.len)+4096)*m:=Nat.mul_le_mul (by omega) Y
   omega
  have ag:¬((s.len+x.len:Int)>IntKind.i64.max):=by simp[IntKind.max,IntKind.signed,IntKind.bits];omega
  obtain⟨j,E⟩:∃j,j=w.drew:=⟨_,rfl⟩
  have n:Fr H T w H T j:=E▸ .drew q
  obtain⟨c,D⟩:∃c,c=(Question.appendCap (s.len+x.len) s.cap e).cut (w.tape w.drawn (Question.appendCap (s.len+x.len) s.cap e)):=⟨_,rfl⟩
  have U:s.len+x.len<=c:=by rw[D];simp[Question.cut]
  have V:(Question.appendCap (s.len+x.len) s.cap e).forced=false:=rfl
  have k:=n.own
  have I:=lu (P:=P) k J
  have F:=lu (P:=P) k G
  have ab:Builtin.zeroCells zs.toArray (c-(s.len+x.len))=(bz (c-(s.len+x.len)) zs).toArray:=by
   simpa[Builtin.zeroCells] using qJ (c-(s.len+x.len)) zs
  have M:(typeInfo e).run P j= .ok ie j:=by
   obtain⟨i2,R,_⟩:=pz (w:=j) hm
   unfold fT at hm
   cases hi:P.info? e with
   |none=>rw[hi] at hm;cases hm
   |some i3=>rw[yq hi] at o ⊢; cases o;rfl
  refine .inl ⟨_,T,_,_,e1 (Sl.v ⟨some ⟨j.heap.size,0,none⟩,s.len+x.len,c⟩) (j.alloc (row (ad++ys++bz (c-(s.len+x.len)) zs) e)) ?_,n.trans (.alloc k _),hk _ _ (h _ _ k.new.1 U)⟩
  have N:¬(281474976710656<Builtin.nextslicecap (s.len+x.len) s.cap*m):=by omega
  have X:¬m=0:=by omega
  simp only[Sl.v] at F I
  simp[Builtin.append_,O,u,Sem.run_bind,bS l.1,Result.andThen,fc l.2,bS y,Sem.run_pure,Sl.v,Builtin.lenOf,hle,o,W,X,N,V,←D,←E,M,run_askRoom,F,I,ng hz,ac,ab,lV]⟩
def mZ (H:PH) (size:Nat) (dst src:Sl) (K:Int->PH->Prop):Prop:=
 ∃ys,df H ⟨src.a,min src.len dst.len,src.cap⟩ size=some ys/\ys.all cI=true/\
  match dst.a with
  |some a=>∃b off cs c,a=⟨b,off,none⟩/\H b=some (row cs c)/\off+ys.length<=cs.length/\K (min src.len dst.len:Nat) (H.bL b (row (putAt cs off ys) c))
  |none=>K (min src.len dst.len:Nat) H
theorem IG {xs:Array Operand} {c:Array TypeId} {t e size:Nat} {s x:Sl} (l:iK P t e size) (o:c[0]?=some t)
 (D:xs.toList.map (ev ρ)=[Sl.v s,Sl.v x]) {n:Int->PH->Prop} (h:mZ H size s x n) (hk:∀r H',n r H'->K (.int .i64 r) T H'):
 cv P ρ ⟨d,.call ⟨.builtin .copy,xs,c⟩,ty,p,af,g⟩ T H K:=⟨rfl,λw m=>by
 obtain⟨ys,q,u,h⟩:=h
 have k:=oU D
 have E:=lu (P:=P) m q
 have e1:∀v w',(Builtin.copy_ c ty #[Sl.v s,Sl.v x]).run P w= .ok v w'->(execOp (ev ρ) ⟨d,.call ⟨.builtin .copy,xs,c⟩,ty,p,af,g⟩).run P w= .ok (.value v) w':=by
  intro v w' C
  simp only[execOp,resolve,k,Sem.run_bind,Sem.run_pure,Result.andThen,invoke,builtin]
  rw[C]
 have f:(Builtin.firstCells size (min x.len s.len) (Sl.v x)).run P w= .ok ys.toArray w:=by
  have:=E
  simp only[Sl.v] at this ⊢
  cases F:x.a<;>simp_all[Builtin.firstCells]
 simp only[Sl.v] at f
 cases j:s.a with
 |none=>
  rw[j] at h
  refine .inl ⟨_,T,H,w,e1 _ _ ?_,.refl m,hk _ _ h⟩
  simp[Builtin.copy_,o,Sem.run_bind,bS l.1,Result.andThen,fc l.2,Sem.run_pure,Sl.v,Builtin.lenOf,j,f,goInt]
 |some a=>
  rw[j] at h
  obtain⟨b,off,cs,G,rfl,B,hlen,A⟩:=h
  obtain⟨w',y,z⟩:=rT (P:=P) ys m (b:=b) (off:=off) (i:=0) B (by omega) u
  refine .inl ⟨_,T,_,w',e1 _ _ ?_,z,by simpa using hk _ _ A⟩
  simp[Builtin.copy_,o,Sem.run_bind,bS l.1,Result.andThen,fc l.2,Sem.run_pure,Sl.v,Builtin.lenOf,j,f,goInt,y]⟩
def yP (H:PH) (size:Nat) (zs:List Value) (s:Sl) (K:PH->Prop):Prop:=
 (s.len=0/\K H)∨(s.a=none/\K H)∨(s.len≠0/\∃b off cs c,s.a=some ⟨b,off,none⟩/\H b=some (row cs c)/\off+s.len*size<=cs.length/\K (H.bL b (row (putAt cs off (bz s.len zs)) c)))
theorem Nk {xs:Array Operand} {c:Array TypeId} {t e size:Nat} {z:Value} {zs:List Value} {s:Sl} (u:iK P t e size) (N:bR P e z) (F:z.cells=zs.toArray) (C:zs.length=size) (x:c[0]?=some t) (G:zs.all cI=true)
 (M:xs.toList.map (ev ρ)=[Sl.v s]) {y:PH->Prop} (h:yP H size zs s y) (hk:∀H',y H'->K (.tuple #[]) T H'):
 cv P ρ ⟨d,.call ⟨.builtin .clear,xs,c⟩,ty,p,af,g⟩ T H K:=⟨rfl,λw r=>by
 have j:=oU M
 have e1:∀v w',(Builtin.clear_ c ty #[Sl.v s]).run P w= .ok v w'->(execOp (ev ρ) ⟨d,.call ⟨.builtin .clear,xs,c⟩,ty,p,af,g⟩).run P w= .ok (.value v) w':=by
  intro v w' L
  simp only[execOp,resolve,j,Sem.run_bind,Sem.run_pure,Result.andThen,invoke,builtin]
  rw[L]
 rcases h with⟨m,f⟩|⟨m,f⟩|⟨B,b,off,cs,O,n,J,hlen,f⟩
 ·refine .inl ⟨_,T,H,w,e1 _ _ ?_,.refl r,hk _ f⟩
  cases n:s.a<;>simp[Builtin.clear_,x,Sem.run_bind,bS u.1,Result.andThen,Sem.run_pure,Sl.v,m,n]
 ·refine .inl ⟨_,T,H,w,e1 _ _ ?_,.refl r,hk _ f⟩
  simp[Builtin.clear_,x,Sem.run_bind,bS u.1,Result.andThen,Sem.run_pure,Sl.v,m]
 ·have E:(bz s.len zs).all cI=true:=by
   simp only[bz,List.all_map,List.all_eq_true,List.mem_range,Function.comp]
   intro i hi
   have D:0<zs.length:=by rcases Nat.eq_zero_or_pos zs.length with h|h;·rw[h] at hi;omega
                          ·exact h
   have k:=Nat.mod_lt i D
   rw[List.getElem!_eq_getElem?_getD,List.getElem?_eq_getElem k]
   exact List.all_eq_true.1 G _ (List.getElem_mem k)
  obtain⟨w',A,I⟩:=rT (P:=P) (bz s.len zs) r (b:=b) (off:=off) (i:=0) J (by rw[oV,C];omega) E
  refine .inl ⟨_,T,_,w',e1 _ _ ?_,I,by simpa using hk _ f⟩
  have l:Builtin.zeroCells zs.toArray s.len=(bz s.len zs).toArray:=by
   simpa[Builtin.zeroCells] using qJ s.len zs
  cases o:s.len with
  |zero=>exact absurd o B
  |succ q=>
   rw[o] at l A
   simp[Builtin.clear_,x,Sem.run_bind,bS u.1,Result.andThen,Sem.run_pure,Sl.v,o,n,ng N,F,l,A]⟩
end
end Go.Kx
end
section
namespace Go.Kx
def oW (ops:Array Oper) (a b:Nat):Bool:=match ops[b]? with|some o=>o.after.toList.any (λe=>e.on==a&&Region.binds .any e)|none=>false
def tH (ops:Array Oper) (S j:Nat):Bool:=match ops[j]? with|some o=>o.after.toList.all (λe=> !Region.binds .any e||S.testBit e.on)|none=>false
def Cj (ops:Array Oper) (S:Nat):List Nat:=(List.range ops.size).filter λj=> !S.testBit j&&tH ops S j
def looks (ops:Array Oper) (o:Oper) (d:Nat):Bool:=(o.looksAt ops).contains d
def oX (ops:Array Oper) (i:Nat):Bool:=match ops[i]? with
 |some o=>(match o.dst with
  |some d=> !(looks ops o d)&&(List.range ops.size).all λj=>j==i||(match ops[j]? with|some a=>(!(looks ops a d)&&a.dst != some d)||oW ops i j|none=>true)
  |none=>false)
 |none=>false
def mD:Op->Bool
 | .select _ _=>true
 |_=>false
def yw (ops:Array Oper) (j:Nat):Bool:=match ops[j]? with
 |some o=> !mD o.op&&(List.range ops.size).all λi=>i==j||(match o.dst with
  |some d=>(match ops[i]? with|some a=>(!(looks ops a d)&&a.dst != some d)||oW ops i j||oW ops j i|none=>true)
  |none=>true)
 |none=>false
def u0 (ops:Array Oper):Bool:=(List.range ops.size).all λi=>match ops[i]? with|some o=>o.after.toList.all (λe=> !Region.binds .any e||decide (e.on<i))|none=>true
def chain (ops:Array Oper):List Nat->Bool
 |a::b::r=>oW ops a b&&chain ops (b::r)
 |_=>true
def wh (P:Program) (a:Env) (o:Oper) (v:Value):Prop:=Az o.op=false/\mD o.op=false/\∀w,(execOp (ev a) o).run P w= .ok (.value v) w
theorem wh.q {P:Program} {a:Env} {o:Oper} {v:Value} (h:wh P a o v) (H:PH):bP P a o H v:=⟨h.1,λ_ w _=>h.2.2 w⟩
theorem Nl {ops:Array Oper} {o:Oper} {b ρ':Env} (h:∀x,looks ops o x=true->ρ' x=b x):∀x∈o.op.operands,ev ρ' x=ev b x:=by
 intro x a
 cases x with
 |tmp t=>exact h t (by simp only[looks,List.contains_iff_mem];exact List.mem_append_left _ (List.mem_filterMap.2 ⟨.tmp t,by simpa using a,rfl⟩))
 |_=>rfl
theorem pP {ops:Array Oper} {o:Oper} {c ρ':Env} (a:mD o.op=false) (h:∀x,looks ops o x=true->ρ' x=c x):execOp (ev ρ') o=execOp (ev c) o:=
 execOp_congr o (λcs b e=>by rw[e] at a;cases a) (Nl h)
theorem rY {ops:Array Oper} {o:Oper} {c ρ':Env} (h:∀x,looks ops o x=true->ρ' x=c x):want ops ρ' o=want ops c o:=by
 unfold want
 cases b:o.guard with
 |none=>rfl
 |some g=>
  obtain⟨j,w⟩:=g
  have:yp ops ρ' j=yp ops c j:=by
   unfold yp
   cases a:(ops[j]?).bind (·.dst) with
   |none=>rfl
   |some d=>
    have:=h d (by simp only[looks,List.contains_iff_mem,Oper.looksAt,b,a];simp)
    simp only[this]
  simp only[this]
section
variable {P:Program} {rd:Option Nat} {n:Nat} {k:List Item} {D:List Deferred} {T H:PH} {Q:mr} {ops:Array Oper}
def FG (P:Program) (ops:Array Oper) (a:Env) (H:PH) (L:List Nat) (i:Nat) (o:Oper):Prop:=
 ∃d,o.dst=some d/\oX ops i=true/\mD o.op=false/\((want ops a o=true/\(wh P a o (a d)∨(i∈L/\bP P a o H (a d))))∨(want ops a o=false/\a d=undef))
structure FX (P:Program) (ops:Array Oper) (S:Nat) (L:List Nat) (listed:Array Bool) (ρ ρ':Env) (H:PH):Prop where
 size:listed.size=ops.size
 sub:∀i,listed.getD i false=true->S.testBit i=true
 down:∀a b,oW ops a b=true->listed.getD b false=true->listed.getD a false=true
 cQ:∀x,(∀i o,ops[i]?=some o->S.testBit i=true->listed.getD i false=false->o.dst≠some x)->ρ' x=ρ x
 BV:∀i o,ops[i]?=some o->S.testBit i=true->listed.getD i false=false->FG P ops ρ H L i o
def Down (ops:Array Oper) (S:Nat):Prop:=∀a b,oW ops a b=true->S.testBit b=true->S.testBit a=true
def bG (P:Program) (rd:Option Nat) (n:Nat) (ops:Array Oper) (k:List Item) (S:Nat) (L:List Nat) (a:Env) (D:List Deferred) (T H:PH) (Q:mr):Prop:=
 Down ops S->∀listed ρ',FX P ops S L listed a ρ' H->∀fuel t,listed.toList.count false<=fuel->Go P rd n (.inRegion ops (Region.linearise.go .any ops fuel t listed [])::k) ρ' D T H Q
theorem IH {listed:Array Bool} {i:Nat} (hi:i<listed.size) (d e:Bool):listed.getD i d=listed.getD i e:=by simp[Array.getD_eq_getD_getElem?,hi]
theorem g9 (S i j:Nat):(S|||2 ^ i).testBit j=(S.testBit j||decide (i=j)):=by
 rw[Nat.testBit_or,Nat.testBit_two_pow]
theorem qp (listed:Array Bool) (i j:Nat) (hi:i<listed.size):(listed.setIfInBounds i true).getD j false=(decide (i=j)||listed.getD j false):=by
 by_cases h:i=j
 ·subst h;simp[Array.getD_eq_getD_getElem?,hi]
 ·simp[Array.getD_eq_getD_getElem?,h,Array.getElem?_setIfInBounds_ne h]
theorem Ck {j:Nat} {listed:Array Bool} (l:listed.size=ops.size):j∈Region.ready .any ops listed↔j<ops.size/\listed.getD j false=false/\∀a,oW ops a j=true->listed.getD a false=true:=by
 rw[mem_ready]
 constructor
 ·rintro⟨c,o,b,h⟩
  have f:=(Array.getElem?_eq_some_iff.1 b).1
  refine⟨f,by rw[IH (by omega) false true];exact c,λa g=>?_⟩
  simp only[oW,b,List.any_eq_true] at g
  obtain⟨e,he,d⟩:=g
  simp at d
  rw[←d.1];exact h e (by simpa using he) d.2
 ·rintro⟨f,c,h⟩
  obtain⟨o,b⟩:∃o,ops[j]?=some o:=⟨ops[j],by simp[f]⟩
  refine⟨by rw[IH (by omega) true false];exact c,o,b,λe he i=>h e.on ?_⟩
  simp only[oW,b,List.any_eq_true]
  exact⟨e,by simpa using he,by simp[i]⟩
theorem BW {S j:Nat} (d:j<ops.size):tH ops S j=true↔∀a,oW ops a j=true->S.testBit a=true:=by
 obtain⟨o,f⟩:∃o,ops[j]?=some o:=⟨ops[j],by simp[d]⟩
 simp only[tH,oW,f,List.all_eq_true,List.any_eq_true]
 constructor
 ·rintro h a ⟨e,he,b⟩
  simp at b
  have:=h e he
  simp[b.2,b.1] at this
  exact this
 ·intro h e he
  cases c:Region.binds .any e
  ·simp
  ·simp;exact h e.on ⟨e,he,by simp[c]⟩
theorem FY {S:Nat} {L:List Nat} {F:Env} (hD:Down ops S) (B:u0 ops=true)
 (aa:(∀i,i<ops.size->S.testBit i=true)->Go P rd n k F D T H Q)
 (hn:∀i o d,ops[i]?=some o->S.testBit i=true->o.dst=some d->d<n)
 (ab:∀j listed ρ' fuel t,j<ops.size->S.testBit j=false->(∀a,oW ops a j=true->listed.getD a false=true)->(∀a,oW ops a j=true->S.testBit a=true)->FX P ops S L listed F ρ' H->listed.toList.count false<=fuel+1->
  Go P rd n (.inRegion ops (j::Region.linearise.go .any ops fuel t (listed.setIfInBounds j true) [])::k) ρ' D T H Q):
 ∀(fuel:Nat) (t:Nat) (listed:Array Bool) (ρ':Env),FX P ops S L listed F ρ' H->listed.toList.count false<=fuel->Go P rd n (.inRegion ops (Region.linearise.go .any ops fuel t listed [])::k) ρ' D T H Q:=by
 have fin:∀(listed:Array Bool) (ρ':Env),FX P ops S L listed F ρ' H->(∀i,i<ops.size->listed.getD i false=true)->Go P rd n (.inRegion ops []::k) ρ' D T H Q:=by
  intro listed ρ' c u
  have hρ:ρ'=F:=funext λx=>c.cQ x λi o m hS hn=>by
   have:=u i (Array.getElem?_eq_some_iff.1 m).1
   rw[hn] at this;cases this
  rw[hρ]
  exact .step (λb cs t w _=>step_lone_go (by simp[stepG,stepG.exec,mk])) (aa λi hi=>c.sub i (u i hi))
 intro fuel
 induction fuel with
 |zero=>
  intro t listed ρ' c hc
  have u:∀i,i<ops.size->listed.getD i false=true:=by
   intro i hi
   have h0:listed.toList.count false=0:=by omega
   rw[List.count_eq_zero] at h0
   cases r:listed.getD i false with
   |true=>rfl
   |false=>
    refine absurd ?_ h0
    have am:i<listed.size:=by rw[c.size];exact hi
    have:listed[i]=false:=by simpa[Array.getD_eq_getD_getElem?,am] using r
    rw[←this];simp
  simpa[Region.linearise.go] using fin listed ρ' c u
 |succ fuel ih=>
  intro t listed ρ' c hc
  simp only[Region.linearise.go]
  change Go P rd n (.inRegion ops (match(Region.ready .any ops listed)[t%(Region.ready .any ops listed).length]? with
   |some i=>Region.linearise.go .any ops fuel (t/(Region.ready .any ops listed).length) (listed.setIfInBounds i true) [i]
   |none=>[].reverse)::k) ρ' D T H Q
  cases hi:(Region.ready .any ops listed)[t%(Region.ready .any ops listed).length]? with
  |none=>
   have ai:Region.ready .any ops listed=[]:=by
    cases hr:Region.ready .any ops listed with
    |nil=>rfl
    |cons x xs=>
     rw[hr] at hi
     have K:t%(x::xs).length<(x::xs).length:=Nat.mod_lt _ (by simp)
     simp at hi K
     omega
   refine fin listed ρ' c ?_
   intro i
   induction i using Nat.strongRecOn with
   |_ i ap=>
    intro A
    cases r:listed.getD i false with
    |true=>rfl
    |false=>
     have:i∈Region.ready .any ops listed:=by
      rw[Ck c.size]
      refine⟨A,r,λa Y=>?_⟩
      have K:a<i:=by
       simp only[u0,List.all_eq_true,List.mem_range] at B
       have:=B i A
       obtain⟨o,m⟩:∃o,ops[i]?=some o:=⟨ops[i],by simp[A]⟩
       simp only[oW,m,List.any_eq_true] at Y
       rw[m] at this
       simp only[List.all_eq_true] at this
       obtain⟨e,he,h1⟩:=Y
       simp at h1
       have:=this e he
       simp[h1.2,h1.1] at this
       exact this
      exact ap a K (by omega)
     rw[ai] at this;cases this
  |some j=>
   simp only[]
   rw[linearise_go_acc,List.reverse_singleton,List.singleton_append]
   obtain⟨y,ah,E⟩:=(Ck c.size).1 (List.mem_of_getElem? hi)
   cases C:S.testBit j with
   |false=>exact ab j listed ρ' _ _ y C E (λa Y=>c.sub a (E a Y)) c hc
   |true=>
    obtain⟨o,m⟩:∃o,ops[j]?=some o:=⟨ops[j],by simp[y]⟩
    obtain⟨d,Z,hq,aj,ao⟩:=c.BV j o m C ah
    have p:j<listed.size:=by rw[c.size];exact y
    have I:∀x,looks ops o x=true->ρ' x=F x:=λx hx=>c.cQ x λi X g z l s=>by
     obtain⟨d2,ad,N,_⟩:=c.BV i X g z l
     rw[s] at ad;cases ad
     simp only[oX,g,s,Bool.and_eq_true,List.all_eq_true,List.mem_range] at N
     by_cases ag:j=i
     ·subst ag;rw[m] at g;cases g;simp[hx] at N
     ·have:=N.2 j y
      simp[ag,m,hx] at this
      have:=E i this
      rw[l] at this;cases this
    have key:∀v,v=F d->FX P ops S L (listed.setIfInBounds j true) F (bL ρ' d v) H:=λv U=>by
     refine⟨by simp[c.size],λi hi=>?_,λa b ac r=>?_,λx hx=>?_,λi X g z l=>?_⟩
     ·rw[qp _ _ _ p] at hi
      by_cases h:j=i
      ·subst h;exact C
      ·simp[h] at hi;exact c.sub i (by simpa using hi)
     ·rw[qp _ _ _ p] at r ⊢
      by_cases h:j=b
      ·subst h;simp[E a ac]
      ·simp[h] at r;simp[c.down a b ac (by simpa using r)]
     ·by_cases W:x=d
      ·subst W;rw[dW];exact U
      ·rw[al _ _ W]
       refine c.cQ x λi X g z l s=>?_
       by_cases h:j=i
       ·subst h;rw[m] at g;cases g;rw[Z] at s;cases s;exact W rfl
       ·exact hx i X g z (by rw[qp _ _ _ p];simp[h];simpa using l) s
     ·rw[qp _ _ _ p] at l
      by_cases h:j=i
      ·simp[h] at l
      ·simp[h] at l;exact c.BV i X g z (by simpa using l)
    have J:(listed.setIfInBounds j true).toList.count false<=fuel:=by
     have an:listed.toList[j]'(by simpa using p)=false:=by simpa[Array.getD_eq_getD_getElem?,p] using ah
     simp only[Array.toList_setIfInBounds]
     rw[List.count_set (by simpa using p),an]
     show listed.toList.count false- 1+0<=fuel
     omega
    intro b cs tm w r R M
    have ae:=hn j o d m C Z
    rcases ao with⟨hw,U⟩|⟨hw,U⟩
    ·have V:Region.wanted o (yielded ops tm)=true:=by rw[tG R,rY I];exact hw
     have G:bP P F o H (F d):=by rcases U with h|⟨_,h⟩;exact h.q H;exact h
     have ak:cv P ρ' o T H λv T' H'=>v=F d/\T'=T/\H'=H:=
      bP.do (v:=F d) ⟨G.1,λT w m=>by rw[pP aj I];exact G.2 T w m⟩ ⟨rfl,rfl,rfl⟩
     obtain⟨v,T',H',w',O,af,rfl,rfl,rfl⟩:=Di (is:=Region.linearise.go .any ops fuel (t/(Region.ready .any ops listed).length) (listed.setIfInBounds j true) []) (b:=b) (cs:=cs) (k:=k) (D:=D) m V R M ak
     rw[Z] at O
     obtain⟨f,k',t',ρ2,D',T2,H2,w2,a1,a2,a3,a4,a5⟩:=ih _ _ _ (key _ rfl) J b cs _ w' r (R.put ae _) af.own
     exact⟨f,k',t',ρ2,D',T2,H2,w2,O.trans a1,a2,a3,af.trans a4,a5⟩
    ·have V:Region.wanted o (yielded ops tm)=false:=by rw[tG R,rY I];exact hw
     have O:=wY (P:=P) (b:=b) (cs:=cs) (w:=w) (k:=k) (D:=D) (is:=Region.linearise.go .any ops fuel (t/(Region.ready .any ops listed).length) (listed.setIfInBounds j true) []) m V
     rw[Z] at O
     obtain⟨f,k',t',ρ2,D',T2,H2,w2,a1,a2⟩:=ih _ _ _ (key _ U.symm) J b cs _ w r (R.put ae _) M
     exact⟨f,k',t',ρ2,D',T2,H2,w2,.head O a1,a2⟩
end
end Go.Kx
end
section
namespace Go.Kx
section
variable {P:Program} {rd:Option Nat} {n:Nat} {k:List Item} {D:List Deferred} {T H:PH} {Q:mr} {ops:Array Oper} {S:Nat} {L:List Nat} {ρ:Env}
def xQ (ops:Array Oper) (n:Nat):Bool:=ops.toList.all λo=>match o.dst with|some d=>decide (d<n)|none=>true
theorem vn (h:xQ ops n=true) {i:Nat} {o:Oper} {d:Nat} (b:ops[i]?=some o) (a:o.dst=some d):d<n:=by
 simp only[xQ,List.all_eq_true] at h
 have:=h o (by have:=List.mem_of_getElem? (l:=ops.toList) (i:=i) (by simpa using b);exact this)
 rw[a] at this;simpa using this
theorem Go.draw {id:Nat} (hm:P.follows .mixedOrders=true) (h:bG P rd n ops k 0 [] ρ D T H Q):Go P rd n (.code (.region id ops true)::k) ρ D T H Q:=by
 intro b cs t w c y e
 have u:Down ops 0:=λa b _ h=>by simp at h
 have v:FX P ops 0 [] (Array.replicate ops.size false) ρ ρ H:=by
  refine⟨by simp,λi hi=>?_,λa b _ c=>?_,λx _=>rfl,λi o _ hi=>by simp at hi⟩
  ·simp only[Array.getD_eq_getD_getElem?,Array.getElem?_replicate] at hi;split at hi<;>simp at hi
  ·simp only[Array.getD_eq_getD_getElem?,Array.getElem?_replicate] at c;split at c<;>simp at c
 obtain⟨f,z,A,ρ',j,l,H',w',a1,m,q,r,s⟩:=h u _ ρ v ops.size (w.tape w.drawn (.order b.fn id)) (by simp[List.count_replicate]) b cs t w.drew c y (Fr.drew e).own
 refine⟨f,z,A,ρ',j,l,H',w',.head (step_lone_go ?_) a1,m,q,(Fr.drew e).trans r,s⟩
 simp[stepG,stepG.exec,mk,choose,Sem.run,Question.forced,Question.cut,Region.schedule,hm,Region.linearise]
theorem bG.done (b:u0 ops=true) (r:xQ ops n=true) (a:(List.range ops.size).all (λi=>S.testBit i)=true) (h:Go P rd n k ρ D T H Q):bG P rd n ops k S L ρ D T H Q:=by
 intro e listed ρ' q fuel t f
 refine FY e b (λ_=>h) (λi o d s _ l=>vn r s l) (λj _ _ _ _ m c _ _ _ _=>?_) fuel t listed ρ' q f
 simp only[List.all_eq_true,List.mem_range] at a
 rw[a j m] at c;cases c
theorem FG.move {ρ2:Env} {j:PH} {L2:List Nat} {i:Nat} {o:Oper} (h:FG P ops ρ H L i o) (e:∀x,looks ops o x=true->ρ2 x=ρ x) (q:∀d,o.dst=some d->ρ2 d=ρ d)
 (m:i∈L->i∈L2) (l:i∈L->∀d,o.dst=some d->bP P ρ o H (ρ d)->bP P ρ2 o j (ρ d)):FG P ops ρ2 j L2 i o:=by
 obtain⟨d,b,r,c,f⟩:=h
 refine⟨d,b,r,c,?_⟩
 rw[rY e,q d b]
 rcases f with⟨hw,a⟩|f
 ·refine .inl ⟨hw,?_⟩
  rcases a with a|⟨hi,a⟩
  ·exact .inl ⟨a.1,a.2.1,λw=>by rw[pP c e];exact a.2.2 w⟩
  ·exact .inr ⟨m hi,l hi d b a⟩
 ·exact .inr f
theorem AG {i j:Nat} {o b:Oper} {d:Nat} (h:oX ops i=true) (l:ops[i]?=some o) (f:o.dst=some d) (e:ops[j]?=some b) (c:j≠i) (a:looks ops b d=true∨b.dst=some d):oW ops i j=true:=by
 simp only[oX,l,f,Bool.and_eq_true,List.all_eq_true,List.mem_range] at h
 have:=h.2 j (Array.getElem?_eq_some_iff.1 e).1
 rcases a with a|a<;>simp[c,e,a] at this<;>exact this
theorem FZ {i:Nat} {o:Oper} {d:Nat} (h:oX ops i=true) (b:ops[i]?=some o) (a:o.dst=some d):looks ops o d=false:=by
 simp only[oX,b,a,Bool.and_eq_true] at h
 simpa using h.1
theorem wh.of {o:Oper} {v:Value} (a:mD o.op=false) (h:bP P ρ o PH.none v):wh P ρ o v:=
 ⟨h.1,a,λw=>h.2 PH.none w ⟨λ_ _ h=>(by cases h),λ_ _ h=>(by cases h),λ_=>.inl rfl⟩⟩
theorem bG.quiet {i d:Nat} {o:Oper} {v:Value} {L2:List Nat} (B:ops[i]?=some o) (E:o.dst=some d) (C:S.testBit i=false) (hp:tH ops S i=true) (R:oX ops i=true) (q:mD o.op=false)
 (Z:∀x,x∈L->x∈L2) (c:(want ops ρ o=true/\(wh P ρ o v∨(i∈L2/\bP P ρ o H v)))∨(want ops ρ o=false/\v=undef))
 (h:bG P rd n ops k (S|||2 ^ i) L2 (bL ρ d v) D T H Q):bG P rd n ops k S L ρ D T H Q:=by
 intro U listed ρ' m fuel t hc
 have hi:=(Array.getElem?_eq_some_iff.1 B).1
 have W:=(BW (S:=S) hi).1 hp
 have F:=FZ R B E
 have y:∀x,looks ops o x=true->bL ρ d v x=ρ x:=λx r=>al _ _ (λe=>by subst e;rw[F] at r;cases r)
 refine h (λa b I O=>?_) listed ρ' ⟨m.size,λj hj=>?_,m.down,λx r=>?_,λj s l f u=>?_⟩ fuel t hc
 ·rw[g9] at O ⊢
  by_cases M:i=b
  ·subst M;simp[W a I]
  ·simp[M] at O;simp[U a b I O]
 ·rw[g9];simp[m.sub j hj]
 ·have Y:x≠d:=λe=>by
   subst e
   refine r i o B (by rw[g9];simp) ?_ E
   cases V:listed.getD i false with
   |false=>rfl
   |true=>rw[m.sub i V] at C;cases C
  rw[al _ _ Y]
  exact m.cQ x λj s l f u=>r j s l (by rw[g9];simp[f]) u
 ·by_cases A:j=i
  ·subst A
   rw[B] at l;cases l
   refine⟨d,E,R,q,?_⟩
   rw[rY y,dW]
   rcases c with⟨hw,c⟩|c
   ·refine .inl ⟨hw,?_⟩
    rcases c with c|⟨hm,c⟩
    ·exact .inl ⟨c.1,c.2.1,λw=>by rw[pP q y];exact c.2.2 w⟩
    ·exact .inr ⟨hm,c.1,λT w hw=>by rw[pP q y];exact c.2 T w hw⟩
   ·exact .inr c
  ·rw[g9] at f
   simp[Ne.symm A] at f
   have N:¬(looks ops s d=true∨s.dst=some d):=λhh=>by
    have:=U i j (AG R B E l A hh) f
    rw[this] at C;cases C
   have z:∀x,looks ops s x=true->bL ρ d v x=ρ x:=λx r=>al _ _ (λe=>by subst e;exact N (.inl r))
   refine(m.BV j s l f u).move z (λd2 J=>al _ _ (λe=>by subst e;exact N (.inr J))) (Z j) λ_ d2 J G=>?_
   obtain⟨_,_,_,X,_⟩:=m.BV j s l f u
   exact⟨G.1,λT w hw=>by rw[pP X z];exact G.2 T w hw⟩
theorem bG.pure {i d:Nat} {o:Oper} {v:Value} (e:ops[i]?=some o) (c:o.dst=some d) (b:S.testBit i=false) (f:tH ops S i=true) (j:oX ops i=true)
 (hw:want ops ρ o=true) (a:wh P ρ o v) (h:bG P rd n ops k (S|||2 ^ i) L (bL ρ d v) D T H Q):bG P rd n ops k S L ρ D T H Q:=
 .quiet e c b f j a.2.1 (λ_ h=>h) (.inl ⟨hw,.inl a⟩) h
theorem bG.load {i d:Nat} {o:Oper} {v:Value} (e:ops[i]?=some o) (c:o.dst=some d) (b:S.testBit i=false) (f:tH ops S i=true) (j:oX ops i=true) (a:mD o.op=false)
 (hw:want ops ρ o=true) (l:bP P ρ o H v) (h:bG P rd n ops k (S|||2 ^ i) (i::L) (bL ρ d v) D T H Q):bG P rd n ops k S L ρ D T H Q:=
 .quiet e c b f j a (λ_ h=>List.mem_cons_of_mem _ h) (.inl ⟨hw,.inr ⟨by simp,l⟩⟩) h
theorem bG.skip {i d:Nat} {o:Oper} (e:ops[i]?=some o) (c:o.dst=some d) (b:S.testBit i=false) (f:tH ops S i=true) (j:oX ops i=true) (a:mD o.op=false)
 (hw:want ops ρ o=false) (h:bG P rd n ops k (S|||2 ^ i) L (bL ρ d undef) D T H Q):bG P rd n ops k S L ρ D T H Q:=
 .quiet e c b f j a (λ_ h=>h) (.inr ⟨hw,rfl⟩) h
def Re (P:Program) (ops:Array Oper) (j:Nat) (ρ ρ2:Env) (a:PH):List Nat->List Nat->Prop
 |[],L2=>L2=[]
 |i::r,L2=>((∃c,chain ops (i::c)=true/\(i::c).getLast?=some j)/\Re P ops j ρ ρ2 a r L2)∨((∃o d,ops[i]?=some o/\o.dst=some d/\bP P ρ2 o a (ρ d))/\∃b,L2=i::b/\Re P ops j ρ ρ2 a r b)
theorem Re.spec {j:Nat} {ρ ρ2:Env} {m:PH}:∀{L L2:List Nat},Re P ops j ρ ρ2 m L L2->∀i,i∈L->((∃c,chain ops (i::c)=true/\(i::c).getLast?=some j)∨(i∈L2/\∃o d,ops[i]?=some o/\o.dst=some d/\bP P ρ2 o m (ρ d)))
 |[],_,_,_,hi=>by cases hi
 |a::r,L2,h,i,hi=>by
  rcases h with⟨e,f⟩|⟨e,q,rfl,f⟩
  ·cases hi with
   |head=>exact .inl e
   |tail _ l=>exact Re.spec f i l
  ·cases hi with
   |head=>exact .inr ⟨by simp,e⟩
   |tail _ l=>exact(Re.spec f i l).imp id λ⟨a,b⟩=>⟨List.mem_cons_of_mem _ a,b⟩
theorem wi {listed:Array Bool} {j:Nat} (e:∀a b,oW ops a b=true->listed.getD b false=true->listed.getD a false=true) (o:∀a,oW ops a j=true->listed.getD a false=true):
 ∀(c:List Nat) (i:Nat),chain ops (i::c)=true->(i::c).getLast?=some j->i≠j->listed.getD i false=true
 |[],i,_,h,l=>by simp at h;exact absurd h l
 |b::c,i,f,h,l=>by
  simp only[chain,Bool.and_eq_true] at f
  by_cases m:b=j
  ·subst m;exact o i f.1
  ·exact e i b f.1 (wi e o c b f.2 (by simpa using h) m)
def JW (P:Program) (rd:Option Nat) (n:Nat) (ops:Array Oper) (k:List Item) (S:Nat) (L:List Nat) (ρ:Env) (D:List Deferred) (T H:PH) (Q:mr) (j:Nat):Prop:=
 ∃o,ops[j]?=some o/\yw ops j=true/\
  ((want ops ρ o=true/\cv P ρ o T H λv a H'=>∃L2,Re P ops j ρ (lA ρ o.dst v) H' L L2/\bG P rd n ops k (S|||2 ^ j) L2 (lA ρ o.dst v) D a H' Q)∨
   (want ops ρ o=false/\bG P rd n ops k (S|||2 ^ j) L (lA ρ o.dst undef) D T H Q))
def yQ (P:Program) (rd:Option Nat) (n:Nat) (ops:Array Oper) (k:List Item) (S:Nat) (L:List Nat) (ρ:Env) (D:List Deferred) (T H:PH) (Q:mr):List Nat->Prop
 |[]=>True
 |j::r=>JW P rd n ops k S L ρ D T H Q j/\yQ P rd n ops k S L ρ D T H Q r
theorem yQ.spec:∀{R:List Nat},yQ P rd n ops k S L ρ D T H Q R->∀j,j∈R->JW P rd n ops k S L ρ D T H Q j
 |[],_,_,hi=>by cases hi
 |a::r,h,i,hi=>by
  cases hi with
  |head=>exact h.1
  |tail _ b=>exact yQ.spec h.2 i b
theorem JX {i j:Nat} {o b:Oper} {d:Nat} (h:yw ops j=true) (f:ops[j]?=some o) (e:o.dst=some d) (hi:ops[i]?=some b) (c:i≠j) (a:looks ops b d=true∨b.dst=some d):oW ops i j=true∨oW ops j i=true:=by
 simp only[yw,f,e,Bool.and_eq_true,List.all_eq_true,List.mem_range] at h
 have:=h.2 i (Array.getElem?_eq_some_iff.1 hi).1
 rcases a with a|a<;>simp[c,hi,a] at this<;>exact this
theorem bG.step {R:List Nat} (aq:u0 ops=true) (hn:xQ ops n=true) (hR:Cj ops S=R) (ak:R≠[]) (h:yQ P rd n ops k S L ρ D T H Q R):bG P rd n ops k S L ρ D T H Q:=by
 intro hD listed ρ' y fuel t hc
 refine FY hD aq (λaA=>?_) (λi o d A _ z=>vn hn A z) (λj listed ρ' fuel t J C U aj y hc=>?_) fuel t listed ρ' y hc
 ·obtain⟨j,J⟩:=List.exists_mem_of_ne_nil R ak
  rw[←hR] at J
  simp only[Cj,List.mem_filter,List.mem_range,Bool.and_eq_true] at J
  rw[aA j J.1] at J
  simp at J
 ·have aE:j∈R:=by
   rw[←hR];simp only[Cj,List.mem_filter,List.mem_range,Bool.and_eq_true]
   exact⟨J,by simp[C],(BW J).2 aj⟩
  obtain⟨o,A,W,ar⟩:=h.spec j aE
  have aC:mD o.op=false:=by simp only[yw,A,Bool.and_eq_true] at W;simpa using W.1
  have E:j<listed.size:=by rw[y.size];exact J
  have aF:listed.getD j false=false:=by
   cases aH:listed.getD j false with
   |false=>rfl
   |true=>rw[y.sub j aH] at C;cases C
  have ad:∀x,looks ops o x=true->ρ' x=ρ x:=λx M=>y.cQ x λi q m u l aa=>by
   obtain⟨d2,Z,aJ,_⟩:=y.BV i q m u l
   have G:j≠i:=λe=>by subst e;rw[u] at C;cases C
   have:=U i (AG aJ m aa A G (.inl M))
   rw[l] at this;cases this
  have ah:(listed.setIfInBounds j true).toList.count false<=fuel:=by
   have aG:listed.toList[j]'(by simpa using E)=false:=by simpa[Array.getD_eq_getD_getElem?,E] using aF
   simp only[Array.toList_setIfInBounds]
   rw[List.count_set (by simpa using E),aG]
   show listed.toList.count false- 1+0<=fuel
   omega
  have au:Down ops (S|||2 ^ j):=λa b O F=>by
   rw[g9] at F ⊢
   by_cases ax:j=b
   ·subst ax;simp[aj a O]
   ·simp[ax] at F;simp[hD a b O F]
  have ap:∀(v:Value) (V:PH) (L2:List Nat),(∀i,i∈L->i≠j->listed.getD i false=false->i∈L2)->(∀i,i∈L->i≠j->listed.getD i false=false->∀q d,ops[i]?=some q->q.dst=some d->mD q.op=false->(∀x,looks ops q x=true->lA ρ o.dst v x=ρ x)->bP P ρ q H (ρ d)->bP P (lA ρ o.dst v) q V (ρ d))->
   FX P ops (S|||2 ^ j) L2 (listed.setIfInBounds j true) (lA ρ o.dst v) (lA ρ' o.dst v) V:=by
   intro v V L2 aD ab
   refine⟨by simp[y.size],λi hi=>?_,λa b O F=>?_,λx M=>?_,λi q m u l=>?_⟩
   ·rw[qp _ _ _ E] at hi
    rw[g9]
    by_cases r:j=i
    ·simp[r]
    ·simp[r] at hi;simp[y.sub i (by simpa using hi)]
   ·rw[qp _ _ _ E] at F ⊢
    by_cases ay:j=b
    ·subst ay;simp[U a O]
    ·simp[ay] at F;simp[y.down a b O (by simpa using F)]
   ·have Y:o.dst≠some x->ρ' x=ρ x:=λak=>y.cQ x λi q m u l aa=>by
     by_cases r:j=i
     ·subst r;rw[A] at m;cases m;exact ak aa
     ·exact M i q m (by rw[g9];simp[u]) (by rw[qp _ _ _ E];simp[r];simpa using l) aa
    cases z:o.dst with
    |none=>exact Y (by rw[z];simp)
    |some d=>
     simp only[lA]
     by_cases ac:x=d
     ·subst ac;rw[dW,dW]
     ·rw[al _ _ ac,al _ _ ac];exact Y (by rw[z];simpa using Ne.symm ac)
   ·rw[qp _ _ _ E] at l
    have r:j≠i:=λe=>by subst e;simp at l
    simp[r] at l
    have B:listed.getD i false=false:=by simpa using l
    rw[g9] at u
    simp[r] at u
    have az:∀d,o.dst=some d->¬(looks ops q d=true∨q.dst=some d):=λd z hh=>by
     rcases JX W A z m (Ne.symm r) hh with he|he
     ·have:=U i he;rw[B] at this;cases this
     ·have:=hD j i he u;rw[this] at C;cases C
    have I:∀x,looks ops q x=true->lA ρ o.dst v x=ρ x:=λx M=>by
     cases z:o.dst with
     |none=>rfl
     |some d=>exact al _ _ (λe=>by subst e;exact az x z (.inl M))
    have aI:=y.BV i q m u B
    obtain⟨_,_,_,an,_⟩:=y.BV i q m u B
    refine aI.move I (λd2 Z=>?_) (λs=>aD i s (Ne.symm r) B) λs d2 Z N=>ab i s (Ne.symm r) B q d2 m Z an I N
    ·cases z:o.dst with
     |none=>rfl
     |some d=>exact al _ _ (λe=>by subst e;exact az d2 z (.inr Z))
  intro b cs tm w F ht am
  rcases ar with⟨hw,av⟩|⟨hw,ai⟩
  ·have ao:Region.wanted o (yielded ops tm)=true:=by rw[tG ht,rY ad];exact hw
   have aB:cv P ρ' o T H _:=⟨av.1,λw A=>by rw[pP aC ad];exact av.2 w A⟩
   obtain⟨v,T',H',w',hs,aw,L2,ab,ai⟩:=Di (is:=Region.linearise.go .any ops fuel t (listed.setIfInBounds j true) []) (b:=b) (cs:=cs) (k:=k) (D:=D) A ao ht am aB
   have X:=ap v H' L2 (λi s G l=>by
    rcases ab.spec i s with⟨c,ae,ag⟩|⟨h1,_⟩
    ·have:=wi y.down U c i ae ag G
     rw[l] at this;cases this
    ·exact h1) λi s G l q d m z _ _ N=>by
    rcases ab.spec i s with⟨c,ae,ag⟩|⟨_,o2,d2,h1,h2,h3⟩
    ·have:=wi y.down U c i ae ag G
     rw[l] at this;cases this
    ·rw[m] at h1;cases h1;rw[z] at h2;cases h2;exact h3
   obtain⟨f,k',t',ρ2,D',T2,V,w2,a1,a2,a3,a4,a5⟩:=ai au _ _ X _ t ah b cs _ w' F (ht.wX (λx M=>vn hn A M) v) aw.own
   exact⟨f,k',t',ρ2,D',T2,V,w2,hs.trans a1,a2,a3,aw.trans a4,a5⟩
  ·have ao:Region.wanted o (yielded ops tm)=false:=by rw[tG ht,rY ad];exact hw
   have hs:=wY (P:=P) (b:=b) (cs:=cs) (w:=w) (k:=k) (D:=D) (is:=Region.linearise.go .any ops fuel t (listed.setIfInBounds j true) []) A ao
   have X:=ap undef H L (λi s _ _=>s) λi s G l q d m z an I N=>
    ⟨N.1,λT w hw=>by rw[pP (ops:=ops) an I];exact N.2 T w hw⟩
   obtain⟨f,k',t',ρ2,D',T2,V,w2,a1,a2,a3,a4,a5⟩:=ai au _ _ X _ t ah b cs _ w F (ht.wX (λx M=>vn hn A M) undef) am
   exact⟨f,k',t',ρ2,D',T2,V,w2,.head hs a1,a2,a3,a4,a5⟩
def vA (ops:Array Oper) (S i d S2:Nat):Bool:=match ops[i]? with
 |some o=>o.dst==some d&& !S.testBit i&&tH ops S i&&oX ops i&& !mD o.op&&(S|||2 ^ i)==S2
 |none=>false
theorem xR {i d S2:Nat} {o:Oper} {v:Value} (b:ops[i]?=some o) (a:vA ops S i d S2=true) (hw:want ops ρ o=true) (q:bP P ρ o PH.none v) (h:bG P rd n ops k S2 L (bL ρ d v) D T H Q):bG P rd n ops k S L ρ D T H Q:=by
 simp only[vA,b,Bool.and_eq_true,Bool.not_eq_true',beq_iff_eq] at a
 obtain⟨⟨⟨⟨⟨c,e⟩,f⟩,j⟩,l⟩,m⟩:=a
 subst m
 exact .pure b c e f j hw (.of l q) h
theorem xS {i d S2:Nat} {o:Oper} {v:Value} (b:ops[i]?=some o) (a:vA ops S i d S2=true) (hw:want ops ρ o=true) (q:bP P ρ o H v) (h:bG P rd n ops k S2 (i::L) (bL ρ d v) D T H Q):bG P rd n ops k S L ρ D T H Q:=by
 simp only[vA,b,Bool.and_eq_true,Bool.not_eq_true',beq_iff_eq] at a
 obtain⟨⟨⟨⟨⟨c,e⟩,f⟩,j⟩,l⟩,m⟩:=a
 subst m
 exact .load b c e f j l hw q h
theorem AH {i d S2:Nat} {o:Oper} (b:ops[i]?=some o) (a:vA ops S i d S2=true) (hw:want ops ρ o=false) (h:bG P rd n ops k S2 L (bL ρ d undef) D T H Q):bG P rd n ops k S L ρ D T H Q:=by
 simp only[vA,b,Bool.and_eq_true,Bool.not_eq_true',beq_iff_eq] at a
 obtain⟨⟨⟨⟨⟨c,e⟩,f⟩,j⟩,l⟩,m⟩:=a
 subst m
 exact .skip b c e f j l hw h
def EM (ops:Array Oper) (n S:Nat) (R:List Nat):Bool:=u0 ops&&xQ ops n&&Cj ops S==R&& !R.isEmpty&&R.all (yw ops)
theorem dN {R:List Nat} (a:EM ops n S R=true) (h:yQ P rd n ops k S L ρ D T H Q R):bG P rd n ops k S L ρ D T H Q:=by
 simp only[EM,Bool.and_eq_true,Bool.not_eq_true',beq_iff_eq] at a
 obtain⟨⟨⟨⟨b,c⟩,e⟩,f⟩,i⟩:=a
 exact .step b c e (by cases R;cases f;simp) h
theorem yx {j S2:Nat} {o:Oper} (a:EM ops n S [j]=true) (e:ops[j]?=some o) (c:(S|||2 ^ j)=S2) (hw:want ops ρ o=true)
 (h:cv P ρ o T H λv b H'=>∃L2,Re P ops j ρ (lA ρ o.dst v) H' L L2/\bG P rd n ops k S2 L2 (lA ρ o.dst v) D b H' Q):bG P rd n ops k S L ρ D T H Q:=by
 subst c
 have he:yw ops j=true:=by simp only[EM,Bool.and_eq_true,List.all_cons] at a;exact a.2.1
 exact dN a ⟨⟨o,e,he,.inl ⟨hw,h⟩⟩,trivial⟩
theorem bM {j S2:Nat} {o:Oper} (c:ops[j]?=some o) (he:yw ops j=true) (b:(S|||2 ^ j)=S2) (hw:want ops ρ o=true)
 (h:cv P ρ o T H λv a H'=>∃L2,Re P ops j ρ (lA ρ o.dst v) H' L L2/\bG P rd n ops k S2 L2 (lA ρ o.dst v) D a H' Q):JW P rd n ops k S L ρ D T H Q j:=by
 subst b;exact⟨o,c,he,.inl ⟨hw,h⟩⟩
theorem EN (a:(u0 ops&&xQ ops n&&(List.range ops.size).all λi=>S.testBit i)=true) (h:Go P rd n k ρ D T H Q):bG P rd n ops k S L ρ D T H Q:=by
 simp only[Bool.and_eq_true] at a
 exact .done a.1.1 a.1.2 a.2 h
theorem xT {σ:Type} (S2:Nat) (L2:List Nat) (E:Env->σ->Prop) {kk:σ->PH->Prop} {body:(σ->PH->Prop)->Prop} (h:aM kk body)
 (a:∀s H ρ,kk s H->E ρ s->bG P rd n ops k S2 L2 ρ D T H Q)
 (b:∀j:σ->PH->Prop,(∀s H ρ,j s H->E ρ s->bG P rd n ops k S2 L2 ρ D T H Q)->body j->bG P rd n ops k S L ρ D T H Q):bG P rd n ops k S L ρ D T H Q:=b kk a h
theorem JY {b:Nat} {o:Obj} {w:World} (i:T b=none) (h:iG H (T.bL b o) w):H b=none/\iG (H.bL b o) T w:=by
 have j:H b=none:=(h.uK b).resolve_right (by simp)
 refine⟨j,λc x a=>?_,λc x a=>?_,λc=>?_⟩
 ·by_cases e:c=b
  ·subst e;simp at a;subst a;exact h.tok c _ (by simp)
  ·rw[PH.al _ _ e] at a;exact h.sub c x a
 ·have e:c≠b:=λe=>by subst e;rw[i] at a;cases a
  exact h.tok c x (by rw[PH.al _ _ e];exact a)
 ·by_cases e:c=b
  ·subst e;exact .inr i
  ·rw[PH.al _ _ e]
   rcases h.uK c with f|f
   ·exact .inl f
   ·rw[PH.al _ _ e] at f;exact .inr f
theorem LP {b:Nat} {o:Obj} {w w':World} {H' a:PH} (h:Fr (H.bL b o) T w H' a w'):Fr H (T.bL b o) w H' a w':=
 ⟨h.own,h.size,λc j i f=>by
  have e:c≠b:=λe=>by subst e;simp at f
  exact h.oT c j (by rw[PH.al _ _ e];exact i) (by rwa[PH.al _ _ e] at f),h.os,h.output,h.tape⟩
theorem LQ {b:Nat} {o:Obj} (s:T b=none) (h:H b=none->Go P rd n k ρ D T (H.bL b o) Q):Go P rd n k ρ D (T.bL b o) H Q:=by
 intro r cs t w u x v
 obtain⟨a,c⟩:=JY s v
 obtain⟨f,y,z,ρ',e,i,H',w',a1,j,l,m,q⟩:=h a r cs t w u x c
 exact⟨f,y,z,ρ',e,i,H',w',a1,j,l,LP m,q⟩
theorem PH.Nm (H:PH) {a b:Nat} (x y:Obj) (h:a≠b):(H.bL a x).bL b y=(H.bL b y).bL a x:=by
 funext c
 by_cases e:c=a
 ·subst e;rw[PH.al _ _ h];simp
 ·by_cases f:c=b
  ·subst f;rw[PH.al _ _ e];simp
  ·rw[PH.al _ _ f,PH.al _ _ e,PH.al _ _ e,PH.al _ _ f]
theorem Fa {a b:Nat} {o:Obj} (h:T.bL a o b=none):b≠a/\T b=none:=by
 have e:b≠a:=λe=>by subst e;simp at h
 exact⟨e,by rwa[PH.al _ _ e] at h⟩
theorem cJ {b:Nat} {o:Obj} (u:T b=none) (h:H b=none->bG P rd n ops k S L ρ D T (H.bL b o) Q):bG P rd n ops k S L ρ D (T.bL b o) H Q:=by
 intro s listed ρ' f fuel t a
 refine LQ u λl=>h l s listed ρ' ⟨f.size,f.sub,f.down,f.cQ,λi v r m q=>?_⟩ fuel t a
 have:=f.BV i v r m q
 refine this.move (λ_ _=>rfl) (λ_ _=>rfl) (λh=>h) λ_ d z j=>⟨j.1,λy w hw=>?_⟩
 exact j.2 PH.none w ⟨λc x a=>hw.sub c x (by
  have e:c≠b:=λe=>by subst e;rw[l] at a;cases a
  rw[PH.al _ _ e];exact a),λ_ _ h=>(by cases h),λ_=>.inr rfl⟩
theorem Fb {b c:Nat} {o o2:Obj} (a:b≠c) (e:T b=none) (h:H b=none->bG P rd n ops k S L ρ D (T.bL c o2) (H.bL b o) Q):bG P rd n ops k S L ρ D ((T.bL b o).bL c o2) H Q:=by
 rw[PH.Nm _ _ _ a]
 exact cJ (by rw[PH.al _ _ a];exact e) h
section
variable {d:Option Nat} {ty:TypeId} {p:String} {af:Array Edge} {g:Option (Nat×Bool)} {K:Value->PH->PH->Prop}
theorem oY {e:TypeId} {z:Value} {cs:List Value} (i:bR P e z) (f:z.cells=cs.toArray)
 (h:∀b a,H b=none->T b=none->a=⟨b,0,none⟩->K (.pointer (some a)) (T.bL b (row cs e)) H):cv P ρ ⟨d,.alloc e,ty,p,af,g⟩ T H K:=⟨rfl,λw c=>.inl
 ⟨_,_,H,_,by simp[execOp,Instr.alloc,Sem.run_bind,ng i,Result.andThen,newVar,lV,Sem.run_pure,f],.wW c _,h _ _ c.new.1 c.new.2 rfl⟩⟩
theorem tC {xs:Array Operand} {a:Array TypeId} {f:FuncId} {vs:List Value} {R:Value->PH->Prop} (hf:Body P f) (b:dv P f vs.toArray H R) (c:xs.toList.map (ev ρ)=vs)
 (h:∀v H',R v H'->K v T H'):cv P ρ ⟨d,.call ⟨.value (.func f),xs,a⟩,ty,p,af,g⟩ T H K:=rU hf c b h
theorem qq {t e size m:Nat} {x y:Operand} {z:Value} {zs:List Value} {f c:Int} {k1 k2:IntKind} (u:iK P t e size) (hm:fT P e m) (l:1<=m) (C:bR P e z) (q:z.cells=zs.toArray) (o:zs.length=size) (j:1<=size)
 (A:ev ρ x= .int k1 f) (B:ev ρ y= .int k2 c) (a:sH m f c)
 (h:∀b r,H b=none->T b=none->r=⟨some ⟨b,0,none⟩,f.toNat,c.toNat⟩->K (Sl.v r) (T.bL b (row (bz c.toNat zs) e)) H):cv P ρ ⟨d,.makeSlice t x y,ty,p,af,g⟩ T H K:=⟨rfl,λw i=>by
 have s:=run_makeSlice (P:=P) (w:=w) (k1:=k1) (k2:=k2) (n:=f.toNat) (c:=c.toNat) u hm l C q o j (by have:=a.1;have:=a.2.1;omega) (UO a.1 a.2.1 a.2.2)
 refine .inl ⟨_,_,H,_,?_,.wW i _,h _ _ i.new.1 i.new.2 rfl⟩
 simp only[execOp,yt A a.1,yt B (Int.le_trans a.1 a.2.1),Sem.run_bind,s,Result.andThen,Sem.run_pure]⟩
end
end
end Go.Kx
end
section
namespace Go.Kx
def Ext (H H':PH):Prop:=∀b o,H b=some o->H' b=some o
theorem Ext.refl (H:PH):Ext H H:=λ_ _ h=>h
theorem Ext.trans {A B C:PH} (h:Ext A B) (k:Ext B C):Ext A C:=λb o a=>k b o (h b o a)
theorem Ext.bL {H:PH} {b:Nat} {o:Obj} (d:H b=none):Ext H (H.bL b o):=λc x a=>by
 rw[PH.al _ _ (λe=>by subst e;rw[d] at a;cases a)];exact a
theorem Ext.none {A B:PH} (h:Ext A B) {b:Nat} (a:B b=none):A b=none:=by
 cases c:A b with
 |none=>rfl
 |some o=>rw[h b o c] at a;cases a
theorem Ext.cell {A B:PH} (h:Ext A B) {a:Addr} {v:Value} (b:cellAt A a=some v):cellAt B a=some v:=by
 unfold cellAt at b ⊢
 split at b
 ·rename_i c e f d;rw[h _ _ d];exact b
 ·cases b
theorem Ext.Uq {H:PH} {o:Obj} {a:Addr} {H':PH} (h:Bt H o a H'):Ext H H':=by obtain⟨b,c,rfl,rfl⟩:=h;exact .bL c
theorem Ext.lX {H:PH} {o:Obj} {n c:Nat} {r:Sl} {H':PH} (h:uP H o n c r H'):Ext H H':=by obtain⟨b,a,rfl,rfl⟩:=h;exact .bL a
def b9 {α:Type} (enc:α->Value) (H:PH) (s:Sl) (l:List α):Prop:=
 s.len=l.length/\s.len<=s.cap/\∀i x,l[i]?=some x->∃a,s.a=some a/\a.spot=none/\cellAt H (a.add i)=some (enc x)
abbrev fv (H:PH) (s:Sl) (l:List Int):Prop:=b9 (Value.int .i64) H s l
abbrev Bytes (H:PH) (s:Sl) (l:List Int):Prop:=b9 (Value.int .u8) H s l
theorem b9.ext {α:Type} {enc:α->Value} {A B:PH} {s:Sl} {l:List α} (h:b9 enc A s l) (e:Ext A B):b9 enc B s l:=
 ⟨h.1,h.2.1,λi x hi=>let⟨a,b,d,c⟩:=h.2.2 i x hi;⟨a,b,d,e.cell c⟩⟩
theorem b9.nil {α:Type} {enc:α->Value} {H:PH}:b9 enc H Sl.nil ([]:List α):=⟨rfl,Nat.le_refl _,λi x h=>by simp at h⟩
theorem b9.bF {α:Type} {enc:α->Value} {H:PH} {s:Sl} {l:List α} (h:b9 enc H s l):(s.len:Int)=l.length:=by rw[h.1]
theorem eJ {α:Type} {enc:α->Value} {H:PH} {s:Sl} {l:List α} {i:Int} {K:α->Prop} (h:b9 enc H s l) (c:0<=i) (g:i<l.length) (d:∀x,l[i.toNat]?=some x->K x):
 bX s 1 i λa=>aH enc H a K:=by
 have b:i.toNat<l.length:=by omega
 obtain⟨a,e,j,f⟩:=h.2.2 i.toNat l[i.toNat] (by simp[b])
 exact⟨_,⟨a,e,c,by rw[h.1];omega,rfl⟩,_,by simpa using f,d _ (by simp[b])⟩
theorem oZ {H:PH} {b off n:Nat} {cs:List Value} {e:TypeId} {fz:Nat×Nat} (c:H b=some (.cells cs.toArray e fz)) (h:off+n<=cs.length):bw H ⟨b,off,none⟩ n=some ((cs.drop off).take n):=by
 unfold bw
 split
 ·rename_i a;subst a;simp
 ·simp[c,h]
theorem vU {H:PH} {b off:Nat} {cs:List Value} {e:TypeId} {fz:Nat×Nat} (a:H b=some (.cells cs.toArray e fz)):cellAt H ⟨b,off,none⟩=cs[off]?:=by
 simp[cellAt,a]
theorem b9.cells {α:Type} {enc:α->Value} {H:PH} {s:Sl} {l:List α} (h:b9 enc H s l):df H s 1=some (l.map enc):=by
 unfold df
 cases j:s.a with
 |none=>
  have:l=[]:=by
   cases l with
   |nil=>rfl
   |cons x l=>obtain⟨a,d,_⟩:=h.2.2 0 x rfl;rw[j] at d;cases d
  subst this;simp
 |some a=>
  simp only[Nat.mul_one,h.1]
  unfold bw
  by_cases r:l.length=0
  ·have:l=[]:=List.length_eq_zero_iff.1 r
   simp[this]
  ·rw[if_neg r]
   have u:∀i,i<l.length->∃x,l[i]?=some x/\cellAt H (a.add i)=some (enc x):=λi hi=>by
    obtain⟨q,d,v,g⟩:=h.2.2 i l[i] (by simp[hi])
    rw[j] at d;cases d
    exact⟨l[i],by simp[hi],g⟩
   obtain⟨x0,_,b⟩:=u 0 (by omega)
   obtain⟨q,k,n,_⟩:=h.2.2 0 l[0] (by simp)
   rw[j] at k;cases k
   rw[add_zero'] at b
   have t:=b
   unfold cellAt at b
   cases p:H a.block with
   |none=>rw[p] at b;cases b
   |some o=>
    cases o with
    |cells c e f=>
     have m:∀i x,l[i]?=some x->c[a.off+i]?=some (enc x):=λi x hi=>by
      obtain⟨q,d,_,g⟩:=h.2.2 i x hi
      rw[j] at d;cases d
      unfold cellAt at g
      rw[qm,p] at g
      simp only[qn _ _ n,BA] at g
      simpa using g
     have hle:a.off+l.length<=c.size:=by
      have d:=m (l.length- 1) l[l.length- 1] (by simp)
      have:=(Array.getElem?_eq_some_iff.1 d).1
      omega
     simp only[n,Option.isSome_none,Bool.false_eq_true,if_false,hle,if_true,Option.some.injEq]
     apply List.ext_getElem?
     intro i
     rw[List.getElem?_take]
     by_cases hi:i<l.length
     ·rw[if_pos hi,List.getElem?_drop,Array.getElem?_toList,m i l[i] (by simp[hi]),List.getElem?_map,List.getElem?_eq_getElem hi];rfl
     ·rw[if_neg hi,List.getElem?_eq_none (by simp;omega)]
    |_=>rw[p] at b;cases b
def dE {α:Type} (enc:α->Value) (H:PH) (s:Sl) (l:List α):Prop:=
 (s=Sl.nil/\l=[])∨∃b sp e,s=⟨some ⟨b,0,none⟩,l.length,l.length+sp.length⟩/\H b=some (row (l.map enc++sp) e)
def Sl.has (s:Sl) (b:Nat):Prop:=∃a,s.a=some a/\a.block=b
theorem dE.list {α:Type} {enc:α->Value} {H:PH} {s:Sl} {l:List α} (h:dE enc H s l):b9 enc H s l:=by
 rcases h with⟨rfl,rfl⟩|⟨b,sp,e,rfl,c⟩
 ·exact .nil
 ·refine⟨rfl,by simp,λi x hi=>⟨_,rfl,rfl,?_⟩⟩
  have a:i<l.length:=(List.getElem?_eq_some_iff.1 hi).1
  rw[eW,vU c,Nat.zero_add,List.getElem?_append_left (by simpa using a),List.getElem?_map,hi];rfl
theorem dE.ext {α:Type} {enc:α->Value} {A B:PH} {s:Sl} {l:List α} (h:dE enc A s l) (d:Ext A B):dE enc B s l:=by
 rcases h with h|⟨b,sp,e,a,c⟩
 ·exact .inl h
 ·exact .inr ⟨b,sp,e,a,d _ _ c⟩
theorem dE.gI {α:Type} {enc:α->Value} {H H':PH} {s:Sl} {l:List α} {e:TypeId} (h:uP H (row (l.map enc) e) l.length l.length s H'):dE enc H' s l:=by
 obtain⟨b,a,rfl,rfl⟩:=h
 exact .inr ⟨b,[],e,by simp,by simp⟩
theorem Dn {α:Type} {enc:α->Value} {H:PH} {e m:Nat} {zs:List Value} {s x:Sl} {l ys:List α} {K:Sl->PH->Prop} (v:dE enc H s l) (d:b9 enc H x ys) (i:∀y,cI (enc y)=true) (C:zs.length=1)
 (z:(4*(l.length+ys.length)+4096)*m<=2 ^ 48)
 (p:∀r H',dE enc H' r (l++ys)->(∀c o,H c=some o->¬s.has c->H' c=some o)->(∀c,r.has c->s.has c∨H c=none)->K r H'):fG H e 1 m zs s x K:=by
 refine⟨ys.map enc,d.cells,by simp[d.1],by simp[i],?_⟩
 have g:=v.list
 split
 ·rename_i hle
  rcases v with⟨rfl,rfl⟩|⟨b,sp,q,rfl,t⟩
  ·have B:ys=[]:=by
    have:=d.1;simp at hle;rw[hle] at this
    exact List.length_eq_zero_iff.1 this.symm
   subst B
   refine⟨rfl,p _ _ (.inl ⟨by simp[d.1],rfl⟩) (λc o h _=>h) λc i=>?_⟩
   obtain⟨a,j,_⟩:=i;cases j
  ·simp only at hle ⊢
   have D:ys.length<=sp.length:=by rw[d.1] at hle;omega
   refine⟨b,0,_,q,rfl,t,by simp;omega,p _ _ (.inr ⟨b,sp.drop ys.length,q,?_,?_⟩) (λc o i A=>?_) λc i=>?_⟩
   ·simp[d.1];omega
   ·simp only[PH.dW,Nat.zero_add,Nat.mul_one]
    rw[kF _ _ _ (by simp;omega)]
    have e1:List.take l.length (l.map enc++sp)=l.map enc:=by rw[List.take_append_of_le_length (by simp),List.take_of_length_le (by simp)]
    have e2:List.drop (l.length+(ys.map enc).length) (l.map enc++sp)=sp.drop ys.length:=by
     rw[List.drop_append,List.drop_of_length_le (by simp),List.nil_append,List.length_map,List.length_map,Nat.add_sub_cancel_left]
    rw[e1,e2];simp
   ·rw[PH.al _ _ (λe=>A ⟨_,rfl,e.symm⟩)];exact i
   ·obtain⟨a,j,k⟩:=i;cases j;exact .inl ⟨_,rfl,k⟩
 ·refine⟨l.map enc,g.cells,by rw[g.1,d.1];exact z,g.2.1,λb c n u=>?_⟩
  refine p _ _ (.inr ⟨b,bz (c-(s.len+x.len)) zs,e,?_,?_⟩) (λw o f _=>?_) λw f=>?_
  ·rw[oV,C,List.length_append,g.1,d.1];simp;rw[g.1,d.1] at u;omega
  ·simp
  ·rw[PH.al _ _ (λe=>by subst e;rw[n] at f;cases f)];exact f
  ·obtain⟨a,j,k⟩:=f;cases j;subst k;exact .inr n
theorem aL {c:Bool} {a b:Prop} (d:c=true->a) (e:c=false->b):aJ c a b:=⟨d,e⟩
theorem aF {σ:Type} {k:σ->PH->Prop} {body:(σ->PH->Prop)->Prop} (h:body k):aM k body:=h
theorem yy {σ:Type} {body:σ->PH->(σ->PH->Prop)->Prop} {s0:σ} {c:PH} (J:Nat->σ->PH->Prop) (f:Nat) (g:J f s0 c)
 (h:∀m s H (again:σ->PH->Prop),J m s H->(∀a b H',a<m->J a b H'->again b H')->body s H again):bp body s0 c:=
 ⟨J,⟨f,g⟩,λm s H i=>h m s H _ i λa b H' e d=>⟨a,e,d⟩⟩
theorem ax {σ:Type} {body:σ->PH->(σ->PH->Prop)->Prop} {s0:σ} {b:PH} (n:Nat) (J:Nat->σ->PH->Prop) (e:J 0 s0 b)
 (h:∀k s H (again:σ->PH->Prop),k<=n->J k s H->(k<n->∀a H',J (k+1) a H'->again a H')->body s H again):bp body s0 b:=
 yy (λm s H=>∃k,k<=n/\m=n-k/\J k s H) n ⟨0,Nat.zero_le _,rfl,e⟩ λm s H again ⟨k,hk,hm,f⟩ g=>
  h k s H again hk f λd a H' c=>g (n-(k+1)) a H' (by omega) ⟨k+1,d,rfl,c⟩
end Go.Kx
end
section
namespace Go.Kx
theorem Fc (a:Addr) (m n:Nat) (h:a.spot=none):(a.add m).add n=a.add (m+n):=by
 obtain⟨b,o,sp⟩:=a
 simp only at h;subst h
 rw[eW,eW,eW,Nat.add_assoc]
def vV (s:Sl) (H H':PH):Prop:=∀c o,H c=some o->¬s.has c->H' c=some o
def jr (a:PH) (s:Sl):Prop:=∀c,s.has c->a c=none
theorem Ext.oT {a H H':PH} {s:Sl} (h:Ext a H) (k:vV s H H') (o:jr a s):Ext a H':=λc x b=>k c x (h c x b) λd=>by rw[o c d] at b;cases b
theorem jr.gI {H H':PH} {o:Obj} {n c:Nat} {r:Sl} (h:uP H o n c r H'):jr H r:=by
 obtain⟨b,f,rfl,rfl⟩:=h
 rintro c ⟨a,e,d⟩;cases e;subst d;exact f
theorem jr.ext {A B:PH} {s:Sl} (h:jr B s) (x:Ext A B):jr A s:=λc a=>x.none (h c a)
variable {α:Type} {enc:α->Value}
theorem Ry {H:PH} {e m:Nat} {x:α} {n:Int} {K:Sl->PH->Prop} (b:0<=n) (hm:(m:Int)*n<=2 ^ 48)
 (c:∀r H',Ext H H'->jr H r->dE enc H' r (List.replicate n.toNat x)->K r H'):xO H e m [enc x] n n K:=by
 refine⟨⟨b,Int.le_refl _,hm⟩,λr H' a=>c r H' (.lX a) (.gI a) ?_⟩
 have e1:bz n.toNat [enc x]=(List.replicate n.toNat x).map enc:=by rw[uz,List.map_replicate]
 rw[e1] at a
 exact dE.gI (l:=List.replicate n.toNat x) (e:=e) (by simpa using a)
theorem ni {H:PH} {s:Sl} {l:List α} {lo hi:Int} {K:Sl->Prop} (h:b9 enc H s l) (j:0<=lo) (k:lo<=hi) (q:hi<=l.length)
 (m:∀r,b9 enc H r ((l.drop lo.toNat).take (hi.toNat-lo.toNat))->(∀c,r.has c->s.has c)->K r):kG s 1 lo hi K:=by
 have t:=h.1
 have n:=h.2.1
 refine⟨_,⟨j,k,by omega,n,rfl⟩,m _ ⟨?_,?_,?_⟩ ?_⟩
 ·simp only[Sl.cut,List.length_take,List.length_drop];omega
 ·simp only[Sl.cut];omega
 ·intro i x hi
  rw[List.getElem?_take] at hi
  split at hi
  ·rw[List.getElem?_drop] at hi
   obtain⟨a,b,f,o⟩:=h.2.2 _ _ hi
   have p:=(List.getElem?_eq_some_iff.1 hi).1
   refine⟨a.add lo.toNat,?_,?_,?_⟩
   ·simp only[Sl.cut,b,Nat.mul_one]
    rw[if_neg (by omega)];rfl
   ·rw[qn _ _ f]
   ·rw[Fc _ _ _ f];exact o
  ·cases hi
 ·rintro c ⟨a,b,d⟩
  simp only[Sl.cut] at b
  split at b
  ·exact⟨a,b,d⟩
  ·rw[Option.map_eq_some_iff] at b
   obtain⟨g,e,rfl⟩:=b
   exact⟨g,e,by rw[←d,qm]⟩
theorem EO (a:∀y,cI (enc y)=true) (l:List α):(l.map enc).all cI=true:=by simp[a]
theorem QL {H:PH} {s:Sl} {l:List α} {i:Int} {x:α} {K:PH->Prop} (n:dE enc H s l) (g:0<=i) (d:i<l.length) (k:cI (enc x)=true)
 (h:∀H',dE enc H' s (l.set i.toNat x)->vV s H H'->K H'):bX s 1 i λa=>aX H a [enc x] K:=by
 rcases n with⟨rfl,rfl⟩|⟨b,sp,e,rfl,j⟩
 ·simp at d;omega
 ·refine⟨_,⟨_,rfl,g,by simpa using d,rfl⟩,b,i.toNat,l.map enc++sp,e,by simp[eW],j,by simp;omega,by simp[k],h _ (.inr ⟨b,sp,e,by simp,?_⟩) ?_⟩
  ·simp only[PH.dW]
   rw[putAt,putAt,List.map_set,List.set_append_left _ _ (by simp;omega)]
  ·intro c o f m
   rw[PH.al _ _ (λe=>m ⟨_,rfl,e.symm⟩)];exact f
theorem Nn {H:PH} {s x:Sl} {l ys:List α} {K:Int->PH->Prop} (k:dE enc H s l) (f:b9 enc H x ys) (p:∀y,cI (enc y)=true)
 (g:∀H',dE enc H' s (ys.take l.length++l.drop ys.length)->vV s H H'->K (min ys.length l.length:Nat) H'):mZ H 1 s x K:=by
 have q:=k.list.1
 have m:=f.1
 have d:b9 enc H ⟨x.a,min x.len s.len,x.cap⟩ (ys.take l.length):=by
  refine⟨by simp;omega,by have:=f.2.1;simp only;omega,λi y hi=>?_⟩
  rw[List.getElem?_take] at hi
  split at hi
  ·exact f.2.2 i y hi
  ·cases hi
 refine⟨(ys.take l.length).map enc,d.cells,EO p _,?_⟩
 rw[q,m]
 rcases k with⟨rfl,rfl⟩|⟨b,sp,e,rfl,n⟩
 ·exact g H (by simp[dE]) λc o h _=>h
 ·refine⟨b,0,_,e,rfl,n,by simp;omega,g _ (.inr ⟨b,sp,e,?_,?_⟩) ?_⟩
  ·simp;omega
  ·simp only[PH.dW]
   rw[kF _ _ _ (by simp;omega)]
   have e1:List.take 0 (l.map enc++sp)++(ys.take l.length).map enc++List.drop (0+((ys.take l.length).map enc).length) (l.map enc++sp)=(ys.take l.length++l.drop ys.length).map enc++sp:=by
    rw[List.take_zero,List.nil_append,Nat.zero_add,List.length_map,List.length_take,List.drop_append_of_le_length (by simp;omega),List.map_append,List.append_assoc]
    congr 2
    rw[←List.map_drop]
    congr 1
    by_cases h:l.length<=ys.length
    ·rw[Nat.min_eq_left h,List.drop_of_length_le h,List.drop_of_length_le (Nat.le_refl _)]
    ·rw[Nat.min_eq_right (by omega)]
   rw[e1]
  ·intro c o j r
   rw[PH.al _ _ (λe=>r ⟨_,rfl,e.symm⟩)];exact j
end Go.Kx
end
section
namespace Go.Kx
section
variable {P:Program} {rd:Option Nat} {n:Nat} {k:List Item} {D:List Deferred} {T H:PH} {Q:mr} {ops:Array Oper} {S:Nat} {L:List Nat} {ρ:Env}
theorem ud {L2:List Nat} (b:L.all (λx=>L2.contains x)=true) (h:bG P rd n ops k S L2 ρ D T H Q):bG P rd n ops k S L ρ D T H Q:=by
 intro f listed ρ' a fuel t g
 refine h f listed ρ' ⟨a.size,a.sub,a.down,a.cQ,λi j e c d=>?_⟩ fuel t g
 refine(a.BV i j e c d).move (λ_ _=>rfl) (λ_ _=>rfl) (λhi=>?_) λ_ _ _ h=>h
 simp only[List.all_eq_true] at b
 simpa using b i hi
def Cl (t:Array Value):ResultVar->Sem Value
 | .tmp x=>pure (t.getD x undef)
 | .cell a ty=>do loadVar ty (←asAddr (t.getD a undef))
def RV (P:Program) (ρ:Env) (H:PH) (r:ResultVar) (v:Value):Prop:=∀n t T w,sF n ρ t->iG H T w->(Cl t r).run P w= .ok v w
theorem qt {a:Tmp} {v:Value} (c:ρ a=v):RV P ρ H (.tmp a) v:=λn t T w b d=>by
 have:=b.2 a
 rw[c] at this
 simp only[Cl,Sem.run_pure,this]
theorem lv {a:Tmp} {ty:TypeId} {b:Addr} {v:Value} (e:we P ty) (c:ρ a= .pointer (some b)) (g:cellAt H b=some v):RV P ρ H (.cell a ty) v:=λn t T w f d=>by
 have:=f.2 a
 rw[c] at this
 simp only[Cl,this,asAddr,Sem.run_bind,Sem.run_pure,Result.andThen,loadVar,td e,Bool.false_eq_true,if_false,run_load d g]
theorem pQ {a:Tmp} {ty m:TypeId} {b:Addr} {cs:List Value} (c:FU P ty m) (d:ρ a= .pointer (some b)) (g:bw H b m=some cs):RV P ρ H (.cell a ty) (.agg cs.toArray):=λn t T w f e=>by
 have:=f.2 a
 rw[d] at this
 simp only[Cl,this,asAddr,Sem.run_bind,Sem.run_pure,Result.andThen,loadVar,zt c,if_true,fc c.2,rS e g]
theorem yz (fn:Func) (t:Array Value):results fn t=(do let vs ←fn.results.mapM (Cl t);pure (if h:vs.size=1 then vs[0] else .tuple vs)):=by
 unfold results
 congr 1
theorem mw {fn:Func} {r:ResultVar} {v:Value} (h:fn.results= #[r]) (c:RV P ρ H r v):jN P fn ρ H v:=λn t T w b a=>by
 rw[yz,h]
 simp[Sem.run_bind,c n t T w b a,Result.andThen,Sem.run_pure]
theorem yR {fn:Func} {r s:ResultVar} {u v:Value} (h:fn.results= #[r,s]) (hu:RV P ρ H r u) (c:RV P ρ H s v):jN P fn ρ H (.tuple #[u,v]):=λn t T w b a=>by
 rw[yz,h]
 simp[Sem.run_bind,hu n t T w b a,c n t T w b a,Result.andThen,Sem.run_pure]
theorem yS {fn:Func} {r s q:ResultVar} {u v x:Value} (h:fn.results= #[r,s,q]) (hu:RV P ρ H r u) (c:RV P ρ H s v) (d:RV P ρ H q x):jN P fn ρ H (.tuple #[u,v,x]):=λn t T w b a=>by
 rw[yz,h]
 simp[Sem.run_bind,hu n t T w b a,c n t T w b a,d n t T w b a,Result.andThen,Sem.run_pure]
def aU {α:Type} (enc:α->List Value) (H:PH) (a:Addr) (n:Nat) (K:α->Prop):Prop:=∃x,bw H a n=some (enc x)/\K x
end
end Go.Kx
end
section
namespace Go.Kx
def aZ (H:PH) (a:Addr) (cs:List Value):Prop:=a.off=0/\a.spot=none/\∃e,H a.block=some (row cs e)
theorem aZ.ext {A B:PH} {a:Addr} {cs:List Value} (h:aZ A a cs) (x:Ext A B):aZ B a cs:=⟨h.1,h.2.1,let⟨e,he⟩:=h.2.2;⟨e,x _ _ he⟩⟩
theorem aZ.gI {H H':PH} {cs:List Value} {e:TypeId} {a:Addr} (h:Bt H (row cs e) a H'):aZ H' a cs:=by
 obtain⟨b,c,rfl,rfl⟩:=h
 exact⟨rfl,rfl,e,PH.dW _ _ _⟩
theorem Bt.fresh {H H':PH} {o:Obj} {a:Addr} (h:Bt H o a H'):H a.block=Option.none:=by obtain⟨b,c,rfl,rfl⟩:=h;exact c
theorem aZ.addr {H:PH} {a:Addr} {cs:List Value} (h:aZ H a cs):a=⟨a.block,0,none⟩:=by
 obtain⟨b,o,s⟩:=a
 have c:=h.1;have d:=h.2.1
 simp only at c d;subst c;subst d;rfl
theorem aZ.cell {H:PH} {a:Addr} {cs:List Value} {i:Nat} {v:Value} (h:aZ H a cs) (hi:cs[i]?=some v):cellAt H (a.add i)=some v:=by
 obtain⟨e,he⟩:=h.2.2
 rw[h.addr,eW,vU he,Nat.zero_add];exact hi
theorem aZ.PE {H:PH} {a:Addr} {cs:List Value} {i:Nat} {v:Value} (h:aZ H a cs) (hi:cs[i]?=some v):cellAt H ((a.add 0).add i)=some v:=by rw[add_zero'];exact h.cell hi
theorem aZ.all {H:PH} {a:Addr} {cs:List Value} {n:Nat} (h:aZ H a cs) (b:n=cs.length):bw H a n=some cs:=by
 obtain⟨e,he⟩:=h.2.2
 rw[h.addr,oZ he (by omega),b];simp
theorem aZ.Rz {H:PH} {a:Addr} {cs:List Value} {n:Nat} (h:aZ H a cs) (b:n=cs.length):bw H (a.add 0) n=some cs:=by rw[add_zero'];exact h.all b
theorem jf {H:PH} {cs:List Value} {e:TypeId} {K:Addr->PH->Prop} (h:∀a H',Ext H H'->aZ H' a cs->H a.block=Option.none->K a H'):ag H (row cs e) K:=
 λa H' b=>h a H' (.Uq b) (.gI b) b.fresh
theorem aa {α:Type} {enc:α->Value} {H:PH} {a:Addr} {cs:List Value} {i:Nat} {x:α} {K:α->Prop} (h:aZ H a cs) (hi:cs[i]?=some (enc x)) (b:K x):aH enc H (a.add i) K:=⟨x,h.cell hi,b⟩
theorem my {α:Type} {enc:α->Value} {H:PH} {a:Addr} {cs:List Value} {i:Nat} {x:α} {K:α->Prop} (h:aZ H a cs) (hi:cs[i]?=some (enc x)) (b:K x):aH enc H ((a.add 0).add i) K:=⟨x,h.PE hi,b⟩
theorem fF {α:Type} {enc:α->List Value} {H:PH} {a:Addr} {n:Nat} {x:α} {K:α->Prop} (h:aZ H a (enc x)) (c:n=(enc x).length) (b:K x):aU enc H a n K:=⟨x,h.all c,b⟩
theorem No {α:Type} {enc:α->List Value} {H:PH} {a:Addr} {n:Nat} {x:α} {K:α->Prop} (h:aZ H a (enc x)) (c:n=(enc x).length) (b:K x):aU enc H (a.add 0) n K:=⟨x,h.Rz c,b⟩
theorem cx {H:PH} {a:Addr} {cs:List Value} {i:Nat} {v:Value} {K:Prop} (h:aZ H a cs) (hi:cs[i]?=some v) (b:K):ar H (a.add i) v K:=⟨h.cell hi,b⟩
theorem AI {H:PH} {a:Addr} {cs:List Value} {i:Nat} {v:Value} {K:Prop} (h:aZ H a cs) (hi:cs[i]?=some v) (b:K):ar H ((a.add 0).add i) v K:=⟨h.PE hi,b⟩
def rZ (b:Nat) (H H':PH):Prop:=∀c o,H c=some o->c≠b->H' c=some o
theorem Ext.BC {a H H':PH} {b:Nat} (h:Ext a H) (k:rZ b H H') (f:a b=Option.none):Ext a H':=λc o d=>k c o (h c o d) λe=>by subst e;rw[f] at d;cases d
theorem sO {H:PH} {a:Addr} {cs vs:List Value} {K:PH->Prop} (h:aZ H a cs) (f:vs.length=cs.length) (i:vs.all cI=true) (b:∀H',aZ H' a vs->rZ a.block H H'->K H'):aX H a vs K:=by
 obtain⟨e,he⟩:=h.2.2
 refine⟨a.block,0,cs,e,h.addr,he,by omega,i,b _ ⟨h.1,h.2.1,e,?_⟩ λc o d g=>?_⟩
 ·rw[PH.dW,kF _ _ _ (by omega)]
  simp[f]
 ·rw[PH.al _ _ g];exact d
theorem tI {H:PH} {a:Addr} {cs:List Value} {i:Nat} {v:Value} {K:PH->Prop} (h:aZ H a cs) (hi:i<cs.length) (g:cI v=true) (b:∀H',aZ H' a (cs.set i v)->rZ a.block H H'->K H'):aX H (a.add i) [v] K:=by
 obtain⟨e,he⟩:=h.2.2
 refine⟨a.block,i,cs,e,by rw[h.addr,eW];simp,he,by simp;omega,by simp[g],b _ ⟨h.1,h.2.1,e,?_⟩ λc o d f=>?_⟩
 ·rw[PH.dW];simp[putAt]
 ·rw[PH.al _ _ f];exact d
theorem ic {a:Addr} {n size:Nat} {i:Int} {K:Addr->Prop} (b:0<=i) (c:i<n) (d:K (a.add (i.toNat*size))):fW n a size i K:=⟨_,⟨b,c,rfl⟩,d⟩
theorem aD {a:Addr} {K:Addr->Prop} (b:K a):aN (some a) K:=⟨a,rfl,b⟩
theorem ae {c:Bool} {a b:Prop} (h:c=true) (e:a):aJ c a b:=aL (λ_=>e) (λd=>by rw[h] at d;cases d)
theorem aE {c:Bool} {a b:Prop} (h:c=false) (e:b):aJ c a b:=aL (λd=>by rw[h] at d;cases d) (λ_=>e)
end Go.Kx
end
section
namespace Go.Kx
section
variable {P:Program} {ρ:Env} {T H:PH} {d:Option Nat} {ty:TypeId} {p:String} {af:Array Edge} {g:Option (Nat×Bool)} {K:Value->PH->PH->Prop}
def Np (P:Program) (n:Nat) (t:TypeId) (x y:Value) (b:Bool):Prop:=∀w:World,(Op.equalIn n t x y).run P w= .ok b w
def EqAt (P:Program) (n:Nat) (t off:Nat) (xs ys:List Value) (b:Bool):Prop:=
 ∃x y,(∀w:World,(part t xs.toArray off).run P w= .ok x w)/\(∀w:World,(part t ys.toArray off).run P w= .ok y w)/\Np P n t x y b
theorem BX {t off:Nat} {xs:List Value} {v:Value} (a:we P t) (h:xs[off]?=some v) (w:World):(part t xs.toArray off).run P w= .ok v w:=by
 simp[part,Sem.run_bind,td a,Result.andThen,h,Sem.run_pure]
theorem nj {n t off:Nat} {xs ys:List Value} {k:IntKind} {a b:Int} (hu:P.underlying t=some (.int k)) (c:xs[off]?=some (.int k a)) (e:ys[off]?=some (.int k b)):EqAt P (n+1) t off xs ys (a==b):=
 ⟨_,_,BX ⟨_,hu,trivial⟩ c,BX ⟨_,hu,trivial⟩ e,λw=>by simp[Op.equalIn,Sem.run_bind,bS hu,Result.andThen,Sem.run_pure]⟩
def uR (P:Program) (n:Nat) (xs ys:List Value):List Field->List Bool->Prop
 |[],bs=>bs=[]
 |f::fs,bs=>∃b r,bs=b::r/\f.name≠ "_"/\EqAt P n f.type f.offset xs ys b/\uR P n xs ys fs r
theorem uR.cons {n:Nat} {xs ys:List Value} {f:Field} {fs:List Field} {b:Bool} {r:List Bool} (c:f.name≠ "_") (h:EqAt P n f.type f.offset xs ys b) (a:uR P n xs ys fs r):uR P n xs ys (f::fs) (b::r):=⟨b,r,rfl,c,h,a⟩
def qA:List Bool->Bool
 |[]=>true
 |[b]=>b
 |b::r=>b&&qA r
theorem BY (b:Bool) (r:List Bool):qA (b::r)=(b&&qA r):=by cases r<;>simp[qA]
theorem HS {n t:Nat} {fs:Array Field} {xs ys:List Value} {bs:List Bool} (hu:P.underlying t=some (.struct fs)) (q:P.stoodInHeld t=false) (h:uR P n xs ys fs.toList bs):Np P (n+1) t (.agg xs.toArray) (.agg ys.toArray) (qA bs):=by
 intro w
 unfold Op.equalIn
 have m:Sem.run P program w= .ok P w:=rfl
 simp only[Sem.run_bind,bS hu,Result.andThen,m,q,Bool.false_eq_true,if_false]
 rw[←Array.forIn_toList]
 have key:∀(fs:List Field) (bs:List Bool),uR P n xs ys fs bs->Sem.run P (forIn fs ((none:Option Bool),()) λf __s=>if f.name≠ "_" then do
  let a ←part f.type xs.toArray f.offset
  let b ←part f.type ys.toArray f.offset
  let c ←Op.equalIn n f.type a b
  if(!c)=true then pure (ForInStep.done (some false,())) else pure (ForInStep.yield (none,()))
  else pure (ForInStep.yield (none,()))) w= .ok ((if qA bs then none else some false),()) w:=by
  intro fs
  induction fs with
  |nil=>intro bs k;cases k;simp[Sem.run_pure,qA]
  |cons f fs s=>
   rintro bs ⟨b,r,rfl,l,⟨x,y,e,i,j⟩,o⟩
   rw[List.forIn_cons]
   simp only[l,ne_eq,not_false_eq_true,if_true,Sem.run_bind,e,i,j w,Result.andThen]
   cases b
   ·simp[Sem.run_pure,BY]
   ·simp only[Bool.not_true,Bool.false_eq_true,if_false,Sem.run_pure]
    rw[s r o,BY,Bool.true_and]
 rw[key _ _ h]
 cases qA bs<;>rfl
section
variable {x y:Operand} {tx ty2:TypeId} {xs ys:List Value} {b:Bool}
theorem LR {t:TypeId} {op:BinOp} {xs ys:Array Value} {w:World} (a:P.eqGuardType P.depth t=false):(eqGuard op t x y (.agg xs) (.agg ys)).run P w= .ok () w:=by
 have c:Sem.run P program w= .ok P w:=rfl
 unfold eqGuard
 cases op<;>simp[Sem.run_bind,Sem.run_pure,c,Result.andThen,a]
theorem R2 (a:P.eqGuardType P.depth tx=false) (h:Np P (9999+1) tx (.agg xs.toArray) (.agg ys.toArray) b) (c:ev ρ x= .agg xs.toArray) (e:ev ρ y= .agg ys.toArray):bP P ρ ⟨d,.binOp .neq tx x y ty2,ty,p,af,g⟩ H (.bool (!b)):=⟨rfl,λT w f=>by
 simp only[execOp,c,e,Sem.run_bind,LR a,Result.andThen,binOp,rX,h w,Sem.run_pure]⟩
theorem R6 {u v:ByteArray} (hu:P.underlying tx=some .string) (a:ev ρ x= .string u) (c:ev ρ y= .string v):bP P ρ ⟨d,.binOp .eql tx x y ty2,ty,p,af,g⟩ H (.bool (u.toList==v.toList)):=⟨rfl,λT w e=>by
 simp only[execOp,a,c,eqGuard,binOp,Op.stringOp,Sem.run_bind,Sem.run_pure,Result.andThen,reduceIte,Bool.not_true,Bool.false_eq_true]⟩
end
end
end Go.Kx
end
section
namespace Go.Kx
section
variable {P:Program} {ρ:Env} {T H:PH} {d:Option Nat} {ty:TypeId} {p:String} {af:Array Edge} {g:Option (Nat×Bool)} {K:Value->PH->PH->Prop}
def pR:List (List Value)->List Value
 |[]=>[]
 |[c]=>c
 |c::r=>c++pR r
theorem EP (c:List Value) (r:List (List Value)):pR (c::r)=c++pR r:=by cases r<;>simp[pR]
def yT (place:Nat->Option (Nat×Nat)) (tot:Nat):List (Nat×Value)->List (List Value)->Nat->Prop
 |[],css,off=>css=[]/\off=tot
 |q::ps,css,off=>∃cs r n,css=cs::r/\cs.length=n/\place q.1=some (off,n)/\q.2.cells=cs.toArray/\yT place tot ps r (off+n)
theorem yT.cons {place:Nat->Option (Nat×Nat)} {tot off n i:Nat} {v:Value} {ps:List (Nat×Value)} {cs:List Value} {css:List (List Value)} (a:cs.length=n) (b:place i=some (off,n)) (c:v.cells=cs.toArray) (h:yT place tot ps css (off+n)):
 yT place tot ((i,v)::ps) (cs::css) off:=⟨cs,css,n,rfl,a,b,c,h⟩
theorem yT.nil {place:Nat->Option (Nat×Nat)} {tot off:Nat} (h:off=tot):yT place tot [] [] off:=⟨rfl,h⟩
theorem yT.len {place:Nat->Option (Nat×Nat)} {tot:Nat}:∀{ps:List (Nat×Value)} {css:List (List Value)} {off:Nat},yT place tot ps css off->off+(pR css).length=tot
 |[],_,off,⟨a,b⟩=>by subst a;simpa[pR] using b
 |q::ps,_,off,⟨cs,r,n,a,b,_,_,h⟩=>by
  subst a
  have:=yT.len h
  rw[EP,List.length_append];omega
theorem QM (vs:List Value):∀(pre:List Value) (post:List Value) (k off:Nat),pre.length=off+k->vs.length<=post.length->((vs.zipIdx k).foldl (λcs q=>cs.setIfInBounds (off+q.2) q.1) (pre++post).toArray)=(pre++vs++post.drop vs.length).toArray:=by
 induction vs with
 |nil=>intro pre post k off _ _;simp
 |cons v vs c=>
  intro pre post k off b a
  cases post with
  |nil=>simp at a
  |cons x post=>
   simp only[List.zipIdx_cons,List.foldl_cons]
   have e:(pre++x::post).toArray.setIfInBounds (off+k) v=((pre++[v])++post).toArray:=by
    rw[←b];simp
   rw[e,c (pre++[v]) post (k+1) off (by simp;omega) (by simpa using a)]
   simp
theorem Bv {place:Nat->Option (Nat×Nat)} {tot:Nat}:∀(ps:List (Nat×Value)) (css:List (List Value)) (done rest:List Value),yT place tot ps css done.length->done.length+rest.length=tot->
 Instr.fill place (done++rest).toArray ps=some (done++pR css).toArray
 |[],_,done,rest,⟨a,b⟩,l=>by
  subst a
  have:rest=[]:=List.length_eq_zero_iff.1 (by omega)
  subst this;simp[Instr.fill,pR]
 |(i,v)::ps,_,done,rest,⟨cs,r,n,a,b,e,c,h⟩,l=>by
  subst a
  have hlen:=yT.len h
  simp only[Instr.fill,e]
  have m:v.cells.size=n:=by rw[c];simpa using b
  have f:¬(done.length+n>(done++rest).toArray.size):=by simp;omega
  simp only[m,ne_eq,not_true_eq_false,decide_false,Bool.false_or,f,Bool.false_eq_true,if_false]
  have hf:(v.cells.zipIdx.foldl (λcs (x:Value×Nat)=>cs.setIfInBounds (done.length+x.2) x.1) (done++rest).toArray)=((done++cs)++rest.drop cs.length).toArray:=by
   rw[c]
   have:=QM cs done rest 0 done.length (by simp) (by omega)
   apply Array.ext'
   simpa using congrArg Array.toList this
  have j:=Bv ps r (done++cs) (rest.drop cs.length) (by rw[List.length_append,b];exact h) (by simp;omega)
  rw[EP,←List.append_assoc,←j]
  first
   |rw[hf]
   |(split
     ·rename_i k;exact absurd k (by simp;omega)
     ·rw[hf])
theorem JZ {t:Nat} {parts:Array (Nat×Operand)} {pl:List (Nat×Nat)} {ps:List (Nat×Value)} {css:List (List Value)} {z:Value} {zs:List Value} (e:yu P t pl) (f:bR P t z) (b:z.cells=zs.toArray)
 (a:parts.toList.map (λq=>(q.1,ev ρ q.2))=ps) (c:yT (λi=>pl.toArray[i]?) zs.length ps css 0):bP P ρ ⟨d,.build t parts,ty,p,af,g⟩ H (.agg (pR css).toArray):=
 cH e f b a (by simpa using Bv ps css [] zs c (by simp))
theorem nC {place:Nat->Option (Nat×Nat)} {tot:Nat} {ps:List (Nat×Value)} {css:List (List Value)} {zs:List Value} (a:yT place tot ps css 0) (b:zs.length=tot):Instr.fill place zs.toArray ps=some (pR css).toArray:=by
 simpa using Bv ps css [] zs a (by simpa using b)
theorem R7 {t e size:Nat} (b:iK P t e size) (h:∀r H',uP H (row [] e) 0 0 r H'->K (Sl.v r) T H'):cv P ρ ⟨d,.buildSlice t 0 #[],ty,p,af,g⟩ T H K:=⟨rfl,λw a=>by
 refine .inl ⟨_,T,_,_,?_,.alloc a _,h _ _ ⟨_,a.new.1,rfl,rfl⟩⟩
 simp[execOp,Instr.buildSlice,Sem.run_bind,bS b.1,Result.andThen,fc b.2,Sem.run_pure,Instr.fill,lV]
 have c:∀f:Nat->Value,(Array.range 0).map f= #[]:=λf=>by apply Array.ext';simp[Array.toList_range]
 rw[c]⟩
def Nq (x:Sl) (n:Nat) (K:Addr->Prop):Prop:=n<=x.len/\∃a,x.a=some a/\K a
theorem PF {t n e size:Nat} {x:Operand} {s:Sl} {a:Addr} (f:uN P t n e size) (i:n<=s.len) (c:s.a=some a) (h:ev ρ x=Sl.v s):bP P ρ ⟨d,.sliceToArrayPointer t x,ty,p,af,g⟩ H (.pointer (some a)):=⟨rfl,λT w j=>by
 have b:¬s.len<n:=by omega
 simp[execOp,h,Instr.arrayAt,Sem.run_bind,bS f.1,Result.andThen,Sl.v,b,c,Sem.run_pure]⟩
def Nr (n:Nat) (a:Addr) (size:Nat) (lo hi:Int) (r:Sl):Prop:=0<=lo/\lo<=hi/\hi<=n/\r=⟨some (if n=lo.toNat then a else a.add (lo.toNat*size)),hi.toNat-lo.toNat,n-lo.toNat⟩
def zA (n:Nat) (a:Addr) (size:Nat) (lo hi:Int) (K:Sl->Prop):Prop:=∃r,Nr n a size lo hi r/\K r
theorem R8 {t n e size:Nat} {x:Operand} {a:Addr} {r:Sl} {lo hi:Option Operand} {l h:Int} (s:uN P t n e size) (z:Nr n a size l h r) (A:ev ρ x= .pointer (some a))
 (c:(match lo with|none=>l=0|some o=>∃k,ev ρ o= .int k l)) (b:(match hi with|none=>h=(n:Int)|some o=>∃k,ev ρ o= .int k h)):
 bP P ρ ⟨d,.slice t x lo hi none,ty,p,af,g⟩ H (Sl.v r):=⟨rfl,λT w C=>by
 obtain⟨f,i,j,rfl⟩:=z
 have B:(Instr.sliceBounds false n n (lo.map (ev ρ)) (hi.map (ev ρ)) none).run P w= .ok (l.toNat,h.toNat,n) w:=by
  have e2:h.toNat<=n:=by omega
  cases lo with
  |none=>
   simp only at c;subst c
   cases hi with
   |none=>simp only at b;subst b;simp[Instr.sliceBounds,Sem.run_bind,Sem.run_pure,Result.andThen]
   |some o=>obtain⟨k,hk⟩:=b;simp[Instr.sliceBounds,Sem.run_bind,Sem.run_pure,Result.andThen,hk,Instr.sliceBound,asIntOf,i,j]
  |some q=>
   obtain⟨k,hk⟩:=c
   cases hi with
   |none=>simp only at b;subst b;simp[Instr.sliceBounds,Sem.run_bind,Sem.run_pure,Result.andThen,hk,Instr.sliceBound,asIntOf,f,i]
   |some o=>
    obtain⟨k2,m⟩:=b
    have y:0<=h:=by omega
    have e3:l<=(h.toNat:Int):=by omega
    have u:l<=max h 0:=by omega
    simp[Instr.sliceBounds,Sem.run_bind,Sem.run_pure,Result.andThen,hk,m,Instr.sliceBound,asIntOf,y,f,j,e3,u]
 simp[execOp,A,Instr.sliceAt,Instr.sureAddr,Sem.run_bind,bS s.1,Result.andThen,B,fc s.2,Sem.run_pure]⟩
end
end Go.Kx
end
