import Derived.Below
import Derived.Calls
import Derived.ChangeArms
import Derived.ChangeSame
import Derived.Deep.Slices
import Derived.JoinedCond
import Derived.KernelRfl
import Derived.OpenShut
import Derived.Orders
import Derived.ProofKit
import Derived.RangeFuncRecord
import Derived.Test.YtigjebgjphmkoaaGreatProg
import Derived.WalkKit
set_option linter.unusedVariables false
set_option linter.unusedSimpArgs false
section
namespace Go.Kx
abbrev PH:=Nat->Option Obj
abbrev Env:=Nat->Value
def PH.bQ (H:PH) (b:Nat) (o:Obj):PH:=λx=>if x=b then some o else H x
def PH.none:PH:=λ_=>Option.none
def bQ (ρ:Env) (i:Nat) (v:Value):Env:=λj=>bif Nat.beq j i then v else ρ j
@[simp] theorem PH.eH (H:PH) (b:Nat) (o:Obj):H.bQ b o b=some o:=by simp[PH.bQ]
theorem PH.al (H:PH) {b c:Nat} (o:Obj) (h:c≠b):H.bQ b o c=H c:=by simp[PH.bQ,h]
theorem eH (ρ:Env) (i:Nat) (v:Value):bQ ρ i v i=v:=by simp[bQ]
theorem al (ρ:Env) {i j:Nat} (v:Value) (h:j≠i):bQ ρ i v j=ρ j:=by
 have:Nat.beq j i=false:=Bool.eq_false_iff.2 λe=>h (Nat.eq_of_beq_eq_true e)
 simp only[bQ,this,cond_false]
structure jU (H T:PH) (w:World):Prop where
 sub:∀b o,H b=some o->w.heap[b]?=some o
 tok:∀b o,T b=some o->w.heap[b]?=some o
 wZ:∀b,H b=Option.none∨T b=Option.none
structure Fr (H T:PH) (w:World) (H' T':PH) (w':World):Prop where
 own:jU H' T' w'
 size:w.heap.size<=w'.heap.size
 qE:∀b,b<w.heap.size->H b=Option.none->T b=Option.none->w'.heap[b]?=w.heap[b]?/\H' b=Option.none/\T' b=Option.none
 os:w'.os=w.os
 output:w'.output=w.output
 tape:w'.tape=w.tape
theorem jU.lt {H T:PH} {w:World} (h:jU H T w) {b:Nat} {o:Obj} (a:H b=some o):b<w.heap.size:=
 (Array.getElem?_eq_some_iff.1 (h.sub b o a)).1
theorem jU.FZ {H T:PH} {w:World} (h:jU H T w) {b:Nat} {o:Obj} (a:T b=some o):b<w.heap.size:=
 (Array.getElem?_eq_some_iff.1 (h.tok b o a)).1
theorem jU.new {H T:PH} {w:World} (h:jU H T w):H w.heap.size=Option.none/\T w.heap.size=Option.none:=by
 constructor
 ·cases a:H w.heap.size with
  |none=>rfl
  |some o=>have:=h.lt a;omega
 ·cases a:T w.heap.size with
  |none=>rfl
  |some o=>have:=h.FZ a;omega
theorem Fr.refl {H T:PH} {w:World} (h:jU H T w):Fr H T w H T w:=
 ⟨h,Nat.le_refl _,by grind,rfl,rfl,rfl⟩
theorem Fr.trans {H T H1 c a d:PH} {w f g:World} (h:Fr H T w H1 c f) (k:Fr H1 c f a d g):Fr H T w a d g:=
 ⟨k.own,Nat.le_trans h.size k.size,λb e j l=>by
  obtain⟨e1,a1,i⟩:=h.qE b e j l
  obtain⟨e2,m,o⟩:=k.qE b (Nat.lt_of_lt_of_le e h.size) a1 i
  grind,k.os.trans h.os,k.output.trans h.output,k.tape.trans h.tape⟩
theorem Fr.weaken {H T H1 f c d:PH} {w i:World} (h:Fr H T w H1 f i) (m:∀b o,c b=some o->H1 b=some o) (p:∀b o,d b=some o->f b=some o):Fr H T w c d i:=by
 have n1:∀b,H1 b=Option.none->c b=Option.none:=λb a=>by
  cases g:c b with
  |none=>rfl
  |some o=>grind
 have n2:∀b,f b=Option.none->d b=Option.none:=λb a=>by
  cases g:d b with
  |none=>rfl
  |some o=>grind
 exact⟨⟨λb o a=>h.own.sub b o (m b o a),λb o a=>h.own.tok b o (p b o a),λb=>(h.own.wZ b).imp (n1 b) (n2 b)⟩,h.size,
  λb a l g=>by obtain⟨e,a1,j⟩:=h.qE b a l g;exact⟨e,n1 b a1,n2 b j⟩,h.os,h.output,h.tape⟩
theorem Fr.beside {H H':PH} {T:PH} {w w':World} (h:Fr H PH.none w H' PH.none w') (c:jU H T w):Fr H T w H' T w':=by
 refine⟨⟨h.own.sub,λb o a=>?_,λb=>?_⟩,h.size,λb a g i=>?_,h.os,h.output,h.tape⟩
 ·have d:H b=Option.none:=(c.wZ b).resolve_right (by rw[a];simp)
  rw[(h.qE b (c.FZ a) d rfl).1];exact c.tok b o a
 ·cases f:T b with
  |none=>simp
  |some o=>
   have d:H b=Option.none:=(c.wZ b).resolve_right (by rw[f];simp)
   exact .inl (h.qE b (c.FZ f) d rfl).2.1
 ·obtain⟨e,a1,_⟩:=h.qE b a g rfl;exact⟨e,a1,i⟩
theorem jU.ZO {H T:PH} {w:World} (h:jU H T w):jU H PH.none w:={sub:=h.sub,tok:=λ_ _ h=>(by cases h),wZ:=λ_=>.inr rfl}
theorem Fr.alloc {H T:PH} {w:World} (h:jU H T w) (o:Obj):Fr H T w (H.bQ w.heap.size o) T (w.alloc o):=by
 have f:=h.new
 refine⟨⟨λb x a=>?_,λb x a=>?_,λb=>?_⟩,by simp,λb a c d=>⟨Go.RowKit.Below.heap_alloc _ _ _ a,?_,d⟩,rfl,rfl,rfl⟩
 ·by_cases e:b=w.heap.size
  ·subst e;simp at a;subst a;show(w.heap.push o)[w.heap.size]?=_;simp
  ·rw[PH.al _ _ e] at a;rw[Go.RowKit.Below.heap_alloc _ _ _ (h.lt a)];exact h.sub b x a
 ·rw[Go.RowKit.Below.heap_alloc _ _ _ (h.FZ a)];exact h.tok b x a
 ·by_cases e:b=w.heap.size
  ·grind
  ·rw[PH.al _ _ e];exact h.wZ b
 ·rw[PH.al _ _ (by omega)];exact c
theorem Fr.yu {H T:PH} {w:World} (h:jU H T w) (o:Obj):Fr H T w H (T.bQ w.heap.size o) (w.alloc o):=by
 have f:=h.new
 refine⟨⟨λb x a=>?_,λb x a=>?_,λb=>?_⟩,by simp,λb a c d=>⟨Go.RowKit.Below.heap_alloc _ _ _ a,c,?_⟩,rfl,rfl,rfl⟩
 ·rw[Go.RowKit.Below.heap_alloc _ _ _ (h.lt a)];exact h.sub b x a
 ·by_cases e:b=w.heap.size
  ·subst e;simp at a;subst a;show(w.heap.push o)[w.heap.size]?=_;simp
  ·rw[PH.al _ _ e] at a;rw[Go.RowKit.Below.heap_alloc _ _ _ (h.FZ a)];exact h.tok b x a
 ·by_cases e:b=w.heap.size
  ·grind
  ·rw[PH.al _ _ e];exact h.wZ b
 ·rw[PH.al _ _ (by omega)];exact d
theorem Fr.put {H T:PH} {w w':World} (h:jU H T w) {b:Nat} {o o':Obj} (g:H b=some o) (hw:w'.heap=w.heap.setIfInBounds b o') (i:w'.os=w.os) (f:w'.output=w.output) (l:w'.tape=w.tape):Fr H T w (H.bQ b o') T w':=by
 have m:=h.lt g
 refine⟨⟨λc x a=>?_,λc x a=>?_,λc=>?_⟩,by rw[hw];simp,λc a d j=>⟨?_,?_,j⟩,i,f,l⟩
 ·rw[hw]
  by_cases e:c=b
  ·simp_all
  ·rw[PH.al _ _ e] at a;rw[Array.getElem?_setIfInBounds_ne (by omega)];exact h.sub c x a
 ·rw[hw]
  have:c≠b:=λe=>by subst e;rcases h.wZ c with d|d<;>simp_all
  rw[Array.getElem?_setIfInBounds_ne (by omega)];exact h.tok c x a
 ·by_cases e:c=b
  ·subst e;exact .inr ((h.wZ c).resolve_left (by rw[g];simp))
  ·rw[PH.al _ _ e];exact h.wZ c
 ·have:c≠b:=λe=>by subst e;simp_all
  rw[hw,Array.getElem?_setIfInBounds_ne (by omega)]
 ·have:c≠b:=(by grind)
  rw[PH.al _ _ this];exact d
theorem Fr.Fa {H T:PH} {w w':World} (h:jU H T w) {b:Nat} {o o':Obj} (g:T b=some o) (hw:w'.heap=w.heap.setIfInBounds b o') (i:w'.os=w.os) (f:w'.output=w.output) (l:w'.tape=w.tape):Fr H T w H (T.bQ b o') w':=by
 have m:=h.FZ g
 refine⟨⟨λc x a=>?_,λc x a=>?_,λc=>?_⟩,by rw[hw];simp,λc a d j=>⟨?_,d,?_⟩,i,f,l⟩
 ·rw[hw]
  have:c≠b:=λe=>by subst e;rcases h.wZ c with d|d<;>simp_all
  rw[Array.getElem?_setIfInBounds_ne (by omega)];exact h.sub c x a
 ·rw[hw]
  by_cases e:c=b
  ·simp_all
  ·rw[PH.al _ _ e] at a;rw[Array.getElem?_setIfInBounds_ne (by omega)];exact h.tok c x a
 ·by_cases e:c=b
  ·subst e;exact .inl ((h.wZ c).resolve_right (by rw[g];simp))
  ·rw[PH.al _ _ e];exact h.wZ c
 ·grind
 ·have:c≠b:=(by grind)
  rw[PH.al _ _ this];exact j
theorem Fr.drew {H T:PH} {w:World} (h:jU H T w):Fr H T w H T w.drew:=⟨⟨h.sub,h.tok,h.wZ⟩,Nat.le_refl _,λ_ _ a b=>⟨rfl,a,b⟩,rfl,rfl,rfl⟩
def mk (b:Frame) (t:Array Value) (D:List Deferred) (k:List Item):Frame:={b with tmps:=t,defers:=D,todo:=k,mode:=.run}
def uC (n:Nat) (ρ:Env) (t:Array Value):Prop:=t.size=n/\∀i,t.getD i undef=ρ i
def ev (ρ:Env):Operand->Value
 | .tmp t=>ρ t
 | .const v=>v
 | .global g=>.pointer (some ⟨g,0,Option.none⟩)
 | .func f=>.func (.func f) #[] #[]
theorem Gy {n:Nat} {ρ:Env} {t:Array Value} (h:uC n ρ t) (b:Frame) (D:List Deferred) (k:List Item):(mk b t D k).eval=ev ρ:=by
 funext x
 cases x with
 |tmp i=>exact h.2 i
 |_=>rfl
theorem uC.put {n:Nat} {ρ:Env} {t:Array Value} (h:uC n ρ t) {d:Nat} (hd:d<n) (v:Value):uC n (bQ ρ d v) (t.setIfInBounds d v):=by
 refine⟨by simp[h.1],λi=>?_⟩
 by_cases e:i=d
 ·subst e;simp[bQ,Array.getD_eq_getD_getElem?,h.1,hd]
 ·rw[al _ _ e,←h.2 i];simp[Array.getD_eq_getD_getElem?,Array.getElem?_setIfInBounds_ne (Ne.symm e)]
inductive Fin where
 |ret
 |lk
 |exit (id:Nat)
def ZP:Fin->List Item->Prop
 | .lk,k=>k=[]
 | .ret,k=>∃r,k= .code .ret::r
 | .exit id,k=>∃r,k= .code (.exit id)::r/\exitTo id r=Option.none
abbrev ll:=Fin->Env->List Deferred->PH->PH->Prop
def Go (P:Program) (rd:Option Nat) (n:Nat) (k:List Item) (ρ:Env) (D:List Deferred) (T H:PH) (Q:ll):Prop:=
 ∀(b:Frame) (cs:List Frame) (t:Array Value) (w:World),b.roundOf=rd->uC n ρ t->jU H T w->
  ∃f d e ρ' a c H' w',Steps P (lone (mk b t D k) cs w) (lone (mk b e a d) cs w')/\ZP f d/\uC n ρ' e/\Fr H T w H' c w'/\Q f ρ' a c H'
section rules
variable {P:Program} {rd:Option Nat} {n:Nat} {k:List Item} {ρ:Env} {D:List Deferred} {T H:PH} {Q:ll}
theorem Go.mono {a:ll} (h:Go P rd n k ρ D T H Q) (p:∀f ρ D T H,Q f ρ D T H->a f ρ D T H):Go P rd n k ρ D T H a:=
 λb cs t w c e d=>let⟨f,q,r,ρ',g,i,H',w',a1,j,l,m,o⟩:=h b cs t w c e d;(by grind)
theorem Go.lk (h:Q .lk ρ D T H):Go P rd n [] ρ D T H Q:=λ_ _ t w _ b a=>⟨.lk,[],t,ρ,D,T,H,w,.refl _ _,rfl,b,.refl a,h⟩
theorem Go.ret (h:Q .ret ρ D T H):Go P rd n (.code .ret::k) ρ D T H Q:=λ_ _ t w _ b a=>⟨.ret,_,t,ρ,D,T,H,w,.refl _ _,⟨_,rfl⟩,b,.refl a,h⟩
theorem Go.step {k2:List Item} (m:∀b cs t w,uC n ρ t->step P (lone (mk b t D k) cs w)= .next (lone (mk b t D k2) cs w)) (h:Go P rd n k2 ρ D T H Q):Go P rd n k ρ D T H Q:=by
 intro b cs t w e i g
 obtain⟨f,j,l,ρ',a,c,H',w',a1,d⟩:=h b cs t w e i g
 exact⟨f,j,l,ρ',a,c,H',w',.head (by grind) a1,d⟩
theorem Go.skip (h:Go P rd n k ρ D T H Q):Go P rd n (.code .skip::k) ρ D T H Q:=.step (λb cs t w _=>rfl) h
theorem Go.inBlock {l:Nat} (h:Go P rd n k ρ D T H Q):Go P rd n (.inBlock l::k) ρ D T H Q:=.step (λb cs t w _=>rfl) h
theorem Go.seq {x y:Code} (h:Go P rd n (.code x:: .code y::k) ρ D T H Q):Go P rd n (.code (.seq x y)::k) ρ D T H Q:=.step (λb cs t w _=>rfl) h
theorem Go.block {id:Nat} {c:Code} (h:Go P rd n (.code c:: .inBlock id::k) ρ D T H Q):Go P rd n (.code (.block id c)::k) ρ D T H Q:=.step (λb cs t w _=>rfl) h
theorem Go.cond {c:Operand} {x y:Code} {t:Bool} (a:ev ρ c= .bool t) (h:Go P rd n (.code (if t then x else y)::k) ρ D T H Q):Go P rd n (.code (.cond c x y)::k) ρ D T H Q:=
 .step (λb cs tm w d=>step_lone_go (by
  have:=congrFun (Gy d b D (.code (.cond c x y)::k)) c
  simp only[mk] at this
  simp[stepG,stepG.exec,mk,this,a])) h
theorem Go.ZQ {c:Operand} {x y:Code} (a:ev ρ c= .bool true) (h:Go P rd n (.code x::k) ρ D T H Q):Go P rd n (.code (.cond c x y)::k) ρ D T H Q:=Go.cond a h
theorem Go.ZR {c:Operand} {x y:Code} (a:ev ρ c= .bool false) (h:Go P rd n (.code y::k) ρ D T H Q):Go P rd n (.code (.cond c x y)::k) ρ D T H Q:=Go.cond a h
theorem Go.exit {id:Nat} {a:List Item} (he:exitTo id k=some a) (h:Go P rd n a ρ D T H Q):Go P rd n (.code (.exit id)::k) ρ D T H Q:=
 .step (λb cs t w _=>step_lone_go (by simp[stepG,stepG.exec,mk,he])) h
end rules
end Go.Kx
end
section
namespace Go.Kx
section
variable {P:Program} {rd:Option Nat} {n:Nat} {k:List Item} {ρ:Env} {D:List Deferred} {T H:PH} {Q:ll} {ops:Array Oper} {l:List Oper} {i:Nat}
def ba (P:Program) (rd:Option Nat) (n:Nat) (ops:Array Oper) (l:List Oper) (i:Nat) (k:List Item) (ρ:Env) (D:List Deferred) (T H:PH) (Q:ll):Prop:=
 ops.toList.drop i=l->Go P rd n (.inRegion ops (List.range' i l.length)::k) ρ D T H Q
theorem Go.region {id:Nat} (a:ops.toList=l) (h:ba P rd n ops l 0 k ρ D T H Q):Go P rd n (.code (.region id ops false)::k) ρ D T H Q:=by
 refine .step (k2:=.inRegion ops (List.range ops.size)::k) (λb cs t w _=>rfl) ?_
 have:=h (by simp[a])
 rw[List.range_eq_range']
 grind
theorem ba.nil (h:Go P rd n k ρ D T H Q):ba P rd n ops [] i k ρ D T H Q:=λ_=>
 .step (λb cs t w _=>rfl) h
def Bd (ops:Array Oper) (ρ:Env) (j:Nat):Option Bool:=
 match(ops[j]?).bind (·.dst) with
 |some d=>match ρ d with| .bool b=>some b|_=>none
 |none=>none
def want (ops:Array Oper) (ρ:Env) (o:Oper):Bool:=
 match o.guard with
 |none=>true
 |some (j,w)=>Bd ops ρ j==some w
theorem N0 {t:Array Value} (e:uC n ρ t) (j:Nat):yielded ops t j=Bd ops ρ j:=by
 unfold yielded Bd
 cases c:(ops[j]?).bind (·.dst) with
 |none=>simp[c]
 |some d=>
  simp only[c,Option.bind_some]
  have a:=e.2 d
  rw[Array.getD_eq_getD_getElem?] at a
  cases hd:t[d]? with
  |none=>rw[hd] at a;simp only[Option.getD_none] at a;rw[←a];rfl
  |some v=>grind
theorem vM {t:Array Value} (a:uC n ρ t) (o:Oper):Region.wanted o (yielded ops t)=want ops ρ o:=by
 unfold Region.wanted want
 cases o.guard with
 |none=>rfl
 |some g=>simp[N0 a]
def Dq:Op->Bool
 | .defer _=>true
 |_=>false
def ku (ρ:Env) (d:Option Nat) (v:Value):Env:=match d with|some d=>bQ ρ d v|none=>ρ
def yw (t:Array Value) (d:Option Nat) (v:Value):Array Value:=match d with|some d=>t.setIfInBounds d v|none=>t
theorem uC.yw {t:Array Value} (h:uC n ρ t) {d:Option Nat} (hd:∀x,d=some x->x<n) (v:Value):uC n (ku ρ d v) (yw t d v):=by
 cases d with
 |none=>exact h
 |some x=>exact h.put (hd x rfl) v
section steps
variable {o:Oper} {is:List Nat} {t:Array Value} {b:Frame} {cs:List Frame} {w:World}
theorem HV (a:ops[i]?=some o) (v:Value):(mk b t D (.inRegion ops (i::is)::k)).finish v=mk b (yw t o.dst v) D (.inRegion ops is::k):=by
 simp only[Frame.finish,mk,a,Option.bind_some]
 rfl
theorem Ss (e:ops[i]?=some o) (hw:Region.wanted o (yielded ops t)=true) (a:Dq o.op=false) (f:uC n ρ t):
 stepG P true {frame:=mk b t D (.inRegion ops (i::is)::k),callers:=cs,status:=.running,dying:=none} w=
  stepG.apply P true (mk b t D (.inRegion ops (i::is)::k)) cs none (execOp (ev ρ) o) w:=by
 have he:=Gy f b D (.inRegion ops (i::is)::k)
 simp only[mk] at he
 have:∀c,o.op≠ .defer c:=λc d=>by rw[d] at a;cases a
 simp only[stepG,stepG.exec,mk,e,Option.map_some,hw,Option.getD_some,if_true,stepG.oper,Frame.oper?,he]
 grind
theorem yx (a:ops[i]?=some o) (hw:Region.wanted o (yielded ops t)=false):
 step P (lone (mk b t D (.inRegion ops (i::is)::k)) cs w)= .next (lone (mk b (yw t o.dst undef) D (.inRegion ops is::k)) cs w):=by
 rw[←HV a]
 exact step_lone_go (by simp[stepG,stepG.exec,mk,a,hw])
end steps
theorem drop_cons {α:Type} {xs l:List α} {i:Nat} {o:α} (h:xs.drop i=o::l):xs[i]?=some o/\xs.drop (i+1)=l:=by
 constructor
 ·have:=congrArg (·[0]?) h;simpa using this
 ·rw[←List.drop_drop,h];rfl
theorem ba.no {o:Oper} (hw:want ops ρ o=false) (hd:∀x,o.dst=some x->x<n) (h:ba P rd n ops l (i+1) k (ku ρ o.dst undef) D T H Q):
 ba P rd n ops (o::l) i k ρ D T H Q:=by
 intro q b cs t w p d r
 obtain⟨hi,c⟩:=drop_cons q
 have a:ops[i]?=some o:=by grind
 obtain⟨f,s,u,ρ',e,j,g,v,a1,m⟩:=h c b cs (yw t o.dst undef) w p (d.yw hd undef) r
 refine⟨f,s,u,ρ',e,j,g,v,.head ?_ a1,m⟩
 rw[List.length_cons,List.range'_succ]
 exact yx a (by rw[vM d];exact hw)
def JQ (P:Program) (f:FuncId) (args:Array Value) (T H:PH) (R:Value->PH->PH->Prop):Prop:=
 ∀w,jU H T w->Calls P f args w λe w'=>∃v a H',e= .returned v/\Fr H T w H' a w'/\R v a H'
def fU (P:Program) (f:FuncId) (args:Array Value) (H:PH) (R:Value->PH->Prop):Prop:=
 ∀w,jU H PH.none w->Calls P f args w λe w'=>∃v H',e= .returned v/\Fr H PH.none w H' PH.none w'/\R v H'
theorem fU.beside {f:FuncId} {args:Array Value} {R:Value->PH->Prop} (h:fU P f args H R):JQ P f args T H λv c H'=>c=T/\R v H':=
 λw a=>(h w a.ZO).mono λe w' ⟨v,H',d,g,j⟩=>⟨v,T,H',d,g.beside a,rfl,j⟩
theorem fU.mono {f:FuncId} {args:Array Value} {R a:Value->PH->Prop} (h:fU P f args H R) (d:∀v H',R v H'->a v H'):fU P f args H a:=
 λw c=>(h w c).mono (by grind)
def Body (P:Program) (f:FuncId):Prop:=∀args w,(callFunc f args).run P w= .ok (.enter f args) w
theorem iU {f:FuncId} {fn:Func} {c:Code} (hf:P.funcs[f]?=some fn) (d:fn.body=some c) (e:(fn.name== "runtime.NumGoroutine")=false):Body P f:=by
 intro args w
 have a:¬fn.name= "runtime.NumGoroutine":=by grind
 simp[callFunc,program,Sem.run_bind,Sem.run,hf,a,d,Result.andThen]
def JR (P:Program) (l:Nat) (fn:FuncId) (tmps:Array Value) (assign body:Code) (w:World) (R:Value->World->Prop):Prop:=
 ∀(c:Frame) (cs:List Frame),∃v w',R v w'/\Steps P (lone (Frame.round l fn tmps assign body .normal) (c::cs) w) (lone (c.finish v) cs w')
structure dT (P:Program) (ρ:Env) (o:Oper) (T H:PH) (K:Value->PH->PH->Prop):Prop where
 nd:Dq o.op=false
 run:∀w,jU H T w->
  (∃v T' H' w',(execOp (ev ρ) o).run P w= .ok (.value v) w'/\Fr H T w H' T' w'/\K v T' H')∨
  (∃T' H' w',(execOp (ev ρ) o).run P w= .ok .skip w'/\Fr H T w H' T' w'/\K undef T' H')∨
  (∃f args,(execOp (ev ρ) o).run P w= .ok (.enter f args) w/\Calls P f args w λe w'=>∃v T' H',e= .returned v/\Fr H T w H' T' w'/\K v T' H')∨
  (∃y fn tmps assign body,(execOp (ev ρ) o).run P w= .ok (.round y fn tmps assign body) w/\JR P y fn tmps assign body w λv w'=>∃T' H',Fr H T w H' T' w'/\K v T' H')
structure bx (P:Program) (ρ:Env) (o:Oper) (H:PH) (v:Value):Prop where
 nd:Dq o.op=false
 run:∀T w,jU H T w->(execOp (ev ρ) o).run P w= .ok (.value v) w
theorem bx.do {o:Oper} {v:Value} {K:Value->PH->PH->Prop} (h:bx P ρ o H v) (hk:K v T H):dT P ρ o T H K:=
 ⟨h.1,λw a=>.inl ⟨v,T,H,w,h.2 T w a,.refl a,hk⟩⟩
theorem Gz {o:Oper} {is:List Nat} {b:Frame} {cs:List Frame} {t:Array Value} {w:World} {K:Value->PH->PH->Prop}
 (hi:ops[i]?=some o) (hw:Region.wanted o (yielded ops t)=true) (A:uC n ρ t) (z:jU H T w) (h:dT P ρ o T H K):
 ∃v c H' w',Steps P (lone (mk b t D (.inRegion ops (i::is)::k)) cs w) (lone (mk b (yw t o.dst v) D (.inRegion ops is::k)) cs w')/\Fr H T w H' c w'/\K v c H':=by
 have p:=Ss (P:=P) (b:=b) (cs:=cs) (w:=w) (is:=is) (k:=k) (D:=D) hi hw h.1 A
 have d:=HV (b:=b) (is:=is) (k:=k) (D:=D) (t:=t) hi
 rcases h.2 w z with⟨v,c,H',w',g,a,hk⟩|⟨c,H',w',g,a,hk⟩|⟨f,args,g,q⟩|⟨y,fn,tmps,s,u,g,q⟩
 ·refine⟨v,c,H',w',.one (step_lone_go ?_),a,hk⟩
  rw[p,←d];simp[stepG.apply,g]
 ·refine⟨undef,c,H',w',.one (step_lone_go ?_),a,hk⟩
  rw[p,←d];simp[stepG.apply,g]
 ·obtain⟨e,w',fr,x,j,B,m⟩:=q (mk b t D (.inRegion ops (i::is)::k)::cs)
  obtain⟨v,c,H',rfl,a,hk⟩:=x
  refine⟨v,c,H',w',.head (step_lone_go (w':=w) (fr':=Frame.enter P f args .normal) (cs':=mk b t D (.inRegion ops (i::is)::k)::cs) ?_) (Steps.trans j (.one ?_)),a,hk⟩
  ·rw[p];simp[stepG.apply,g,mk]
  ·rw[←d];exact step_leave_returned m
 ·obtain⟨v,w',⟨c,H',a,hk⟩,r⟩:=q (mk b t D (.inRegion ops (i::is)::k)) cs
  rw[d] at r
  refine⟨v,c,H',w',.head (step_lone_go (w':=w) (fr':=Frame.round y fn tmps s u .normal) (cs':=mk b t D (.inRegion ops (i::is)::k)::cs) ?_) r,a,hk⟩
  rw[p];simp[stepG.apply,g,mk]
theorem ba.op {o:Oper} (hw:want ops ρ o=true) (hd:∀x,o.dst=some x->x<n)
 (h:dT P ρ o T H λv d H'=>ba P rd n ops l (i+1) k (ku ρ o.dst v) D d H' Q):ba P rd n ops (o::l) i k ρ D T H Q:=by
 intro z b cs t w y c A
 obtain⟨hi,g⟩:=drop_cons z
 have e:ops[i]?=some o:=by grind
 obtain⟨v,d,H',w',B,a,hk⟩:=Gz (is:=List.range' (i+1) l.length) (b:=b) (cs:=cs) (k:=k) (D:=D) e (by rw[vM c];exact hw) c A h
 obtain⟨f,C,E,ρ',j,p,m,F,a1,q,r,s,u⟩:=hk g b cs (yw t o.dst v) w' y (c.yw hd v) a.own
 refine⟨f,C,E,ρ',j,p,m,F,?_,q,r,a.trans s,u⟩
 rw[List.length_cons,List.range'_succ]
 exact B.trans a1
theorem ba.q {o:Oper} {d:Nat} {v:Value} (hw:want ops ρ o=true) (hd:o.dst=some d) (c:d<n) (a:bx P ρ o H v)
 (h:ba P rd n ops l (i+1) k (bQ ρ d v) D T H Q):ba P rd n ops (o::l) i k ρ D T H Q:=
 .op hw (by grind) (a.do (by rw[hd];exact h))
end
end Go.Kx
end
section
namespace Go.Kx
section
variable {P:Program} {n:Nat} {k:List Item} {ρ:Env} {D:List Deferred} {T H:PH} {Q:ll}
def marks (rs:List Nat):List Deferred:=rs.map λr=>{target:=.collected r,args:= #[]}
def qa (D:List Deferred) (T Tg:PH):Prop:=∃rs:List Nat,D=marks rs/\rs.Nodup/\(∀r,r∈rs->T r=some (.deferred (some [])))/\∀b o,Tg b=some o->T b=some o/\b∉rs
theorem qa.nil:qa [] T T:=⟨[],rfl,by simp,by simp,λb o h=>⟨h,by simp⟩⟩
theorem qa.weaken {e f:PH} (h:qa D T e) (g:∀b o,f b=some o->e b=some o):qa D T f:=by
 obtain⟨rs,a,b,c,d⟩:=h;exact⟨rs,a,b,c,λx o i=>d x o (g x o i)⟩
theorem qa.none {Tg:PH} (h:qa D T Tg):qa D T PH.none:=h.weaken λ_ _ h=>by cases h
def back (b:Frame) (t:Array Value) (D:List Deferred) (k:List Item):Frame:={mk b t D k with mode:=.returning}
theorem C1 {b:Frame} {cs:List Frame} {t:Array Value} {Tg:PH}:∀(rs:List Nat) (T:PH) (w:World),jU H T w->rs.Nodup->(∀r,r∈rs->T r=some (.deferred (some [])))->
 (∀b o,Tg b=some o->T b=some o/\b∉rs)->∃w',Steps P (lone (back b t (marks rs) k) cs w) (lone (back b t [] k) cs w')/\Fr H T w H Tg w'
 |[],T,w,c,_,_,f=>⟨w,.refl _ _,(Fr.refl c).weaken (λ_ _ h=>h) λb o h=>(f b o h).1⟩
 |r::rs,T,w,c,d,l,f=>by
  have g:=l r (by simp)
  have hw:=c.tok r _ g
  have a:Fr H T w H (T.bQ r (.deferred Option.none)) {w with heap:=w.heap.setIfInBounds r (.deferred Option.none)}:=.Fa c g rfl rfl rfl rfl
  rw[List.nodup_cons] at d
  obtain⟨w',i,j⟩:=C1 (b:=b) (cs:=cs) (t:=t) (Tg:=Tg) rs _ _ a.own d.2
   (λq p=>by rw[PH.al _ _ (by grind)];grind)
   (λx o m=>by
    obtain⟨a1,e⟩:=f x o m
    simp at e
    exact⟨by rw[PH.al _ _ e.1];exact a1,e.2⟩)
  refine⟨w',.head (step_lone_go ?_) i,a.trans j⟩
  simp[stepG,unwind,back,mk,marks,Instr.takeDeferred,Sem.runT_eq,Sem.run_bind,getObj,setObj,Sem.run,hw,Result.andThen,GStep.bare_after]
def jj (P:Program) (fn:Func) (ρ:Env) (H:PH) (v:Value):Prop:=∀n t T w,uC n ρ t->jU H T w->(results fn t).run P w= .ok v w
theorem il {fn:Func} (h:fn.results= #[]):jj P fn ρ H (.tuple #[]):=λn t T w b a=>by
 simp[results,h,Sem.run_pure,Sem.run_bind,Result.andThen]
theorem Xq {fn:Func} {a:Tmp} {v:Value} (h:fn.results= #[.tmp a]) (c:ρ a=v):jj P fn ρ H v:=λn t T w b d=>by
 have:=b.2 a
 rw[c] at this
 simp[results,h,Sem.run_pure,Sem.run_bind,Result.andThen]
 simp_all
theorem Xr {fn:Func} {a b:Tmp} {u v:Value} (h:fn.results= #[.tmp a,.tmp b]) (hu:ρ a=u) (f:ρ b=v):jj P fn ρ H (.tuple #[u,v]):=λn t T w c g=>by
 have d:=c.2 a
 have e:=c.2 b
 rw[hu] at d;rw[f] at e
 simp[results,h,Sem.run_pure,Sem.run_bind,Result.andThen]
 simp_all
theorem Xs {fn:Func} {a b c:Tmp} {u v x:Value} (h:fn.results= #[.tmp a,.tmp b,.tmp c]) (hu:ρ a=u) (i:ρ b=v) (j:ρ c=x):jj P fn ρ H (.tuple #[u,v,x]):=λn t T w d l=>by
 have e:=d.2 a
 have f:=d.2 b
 have g:=d.2 c
 rw[hu] at e;rw[i] at f;rw[j] at g
 simp[results,h,Sem.run_pure,Sem.run_bind,Result.andThen]
 simp_all
def Be (args:Array Value):Env:=λi=>args.getD i undef
theorem tok0 {args:Array Value} {m:Nat} (h:args.size<=m):uC m (Be args) (args++Array.replicate (m-args.size) undef):=by
 refine⟨by simp;omega,λi=>?_⟩
 simp only[Be,Array.getD_eq_getD_getElem?]
 grind
theorem C2 {f:FuncId} {fn:Func} {c:Code} {args:Array Value} {R:Value->PH->PH->Prop} (hf:P.funcs[f]?=some fn) (z:fn.body=some c) (B:fn.ntmps=n) (E:args.size<=n)
 (h:Go P Option.none n [.code c] (Be args) [] T H λfi ρ D l H'=>(fi= .ret∨fi= .lk)/\∃v Tg,qa D l Tg/\jj P fn ρ H' v/\R v Tg H'):JQ P f args T H R:=by
 intro w C cs
 let b:Frame:={fn:=f,tmps:= #[],todo:=[],defers:=[],mode:=.run,kind:=.normal,roundOf:=Option.none}
 have a:Frame.enter P f args .normal=mk b (args++Array.replicate (n-args.size) undef) [] [.code c]:=by
  simp[Frame.enter,mk,hf,z,B,b]
 obtain⟨fi,i,g,ρ',G,l,H',w',s,d,F,j,p,v,Tg,⟨rs,rfl,q,y,A⟩,m,x⟩:=h b cs _ w rfl (tok0 E) C
 obtain⟨u,hu,e⟩:=C1 (P:=P) (b:=b) (cs:=cs) (t:=g) (k:=i) rs l w' j.own q y A
 have o:Steps P (lone (mk b g (marks rs) i) cs w') (lone (back b g (marks rs) i) cs w'):=by
  rcases p with rfl|rfl
  ·obtain⟨r,rfl⟩:=d
   exact .one rfl
  ·cases d
   exact .one rfl
 refine⟨.returned v,u,back b g [] i,⟨v,Tg,H',rfl,j.trans e,x⟩,?_,rfl,rfl,rfl,rfl,fn,hf,m n g Tg u F e.own⟩
 rw[a]
 exact(s.trans o).trans hu
theorem yy {f:FuncId} {fn:Func} {c:Code} {args:Array Value} {R:Value->PH->Prop} (hf:P.funcs[f]?=some fn) (g:fn.body=some c) (i:fn.ntmps=n) (l:args.size<=n)
 (h:Go P Option.none n [.code c] (Be args) [] PH.none H λfi ρ D e H'=>(fi= .ret∨fi= .lk)/\∃v Tg,qa D e Tg/\jj P fn ρ H' v/\R v H'):fU P f args H R:=by
 have:=C2 (R:=λv Tg H'=>Tg=PH.none/\R v H') hf g i l (h.mono λfi ρ D e H' ⟨a,v,Tg,b,c,d⟩=>⟨a,v,PH.none,b.none,c,rfl,d⟩)
 exactλw j=>(this w j).mono (by grind)
end
end Go.Kx
end
section
namespace Go.Kx
section
variable {P:Program} {ρ:Env} {T H:PH} {d:Option Nat} {ty:TypeId} {p:String} {af:Array Edge} {g:Option (Nat×Bool)}
theorem mu {x:Operand} {v:Value} (h:ev ρ x=v):bx P ρ ⟨d,.move x,ty,p,af,g⟩ H v:=⟨rfl,λT w c=>by simp[execOp,h,Sem.run_pure]⟩
theorem Ek {x:Operand} {v:Value} (h:ev ρ x=v):bx P ρ ⟨d,.assign x,ty,p,af,g⟩ H v:=⟨rfl,λT w c=>by simp[execOp,h,Sem.run_pure]⟩
theorem MP {c x y:Operand} {v:Value} (e:ev ρ c= .bool true) (h:ev ρ x=v):bx P ρ ⟨d,.pick c x y,ty,p,af,g⟩ H v:=⟨rfl,λT w f=>by simp[execOp,h,e,asBool,Sem.run_pure,Sem.run_bind,Result.andThen]⟩
theorem MQ {c x y:Operand} {v:Value} (e:ev ρ c= .bool false) (h:ev ρ y=v):bx P ρ ⟨d,.pick c x y,ty,p,af,g⟩ H v:=⟨rfl,λT w f=>by simp[execOp,h,e,asBool,Sem.run_pure,Sem.run_bind,Result.andThen]⟩
section arith
variable {x y:Operand} {tx tyy:TypeId} {kk:IntKind} {a b:Int}
theorem sO (c:ev ρ x= .int kk a) (e:ev ρ y= .int kk b):bx P ρ ⟨d,.binOp .add tx x y tyy,ty,p,af,g⟩ H (.int kk (kk.wrap (a+b))):=⟨rfl,λT w f=>by simp[execOp,c,e,eqGuard,binOp,Op.intArith,Sem.run_pure,Sem.run_bind,Result.andThen]⟩
theorem ZS (c:ev ρ x= .int kk a) (e:ev ρ y= .int kk b):bx P ρ ⟨d,.binOp .sub tx x y tyy,ty,p,af,g⟩ H (.int kk (kk.wrap (a-b))):=⟨rfl,λT w f=>by simp[execOp,c,e,eqGuard,binOp,Op.intArith,Sem.run_pure,Sem.run_bind,Result.andThen]⟩
theorem ZT (c:ev ρ x= .int kk a) (e:ev ρ y= .int kk b):bx P ρ ⟨d,.binOp .mul tx x y tyy,ty,p,af,g⟩ H (.int kk (kk.wrap (a*b))):=⟨rfl,λT w f=>by simp[execOp,c,e,eqGuard,binOp,Op.intArith,Sem.run_pure,Sem.run_bind,Result.andThen]⟩
theorem ZU (c:b≠0) (e:ev ρ x= .int kk a) (f:ev ρ y= .int kk b):bx P ρ ⟨d,.binOp .quo tx x y tyy,ty,p,af,g⟩ H (.int kk (kk.wrap (a.tdiv b))):=⟨rfl,λT w h=>by simp[execOp,e,f,c,eqGuard,binOp,Op.intDiv,Sem.run_pure,Sem.run_bind,Result.andThen]⟩
theorem ZV (c:b≠0) (e:ev ρ x= .int kk a) (f:ev ρ y= .int kk b):bx P ρ ⟨d,.binOp .rem tx x y tyy,ty,p,af,g⟩ H (.int kk (a.tmod b)):=⟨rfl,λT w h=>by simp[execOp,e,f,c,eqGuard,binOp,Op.intDiv,Sem.run_pure,Sem.run_bind,Result.andThen]⟩
def jd (k:IntKind) (a b:Int):Int:=k.wrap (BitVec.ofInt k.bits a&&&BitVec.ofInt k.bits b).toNat
def MR (k:IntKind) (a b:Int):Int:=k.wrap (BitVec.ofInt k.bits a|||BitVec.ofInt k.bits b).toNat
def vo (k:IntKind) (a b:Int):Int:=k.wrap (BitVec.ofInt k.bits a^^^BitVec.ofInt k.bits b).toNat
def yz (k:IntKind) (a b:Int):Int:=k.wrap (a*2 ^ (min b.toNat k.bits))
def gy (k:IntKind) (a b:Int):Int:=a.fdiv (2 ^ (min b.toNat k.bits))
theorem ZW (c:ev ρ x= .int kk a) (e:ev ρ y= .int kk b):bx P ρ ⟨d,.binOp .and tx x y tyy,ty,p,af,g⟩ H (.int kk (jd kk a b)):=⟨rfl,λT w f=>by simp[execOp,c,e,eqGuard,binOp,Op.intBits,Sem.run_pure,Sem.run_bind,Result.andThen,jd]⟩
theorem q_or (c:ev ρ x= .int kk a) (e:ev ρ y= .int kk b):bx P ρ ⟨d,.binOp .or tx x y tyy,ty,p,af,g⟩ H (.int kk (MR kk a b)):=⟨rfl,λT w f=>by simp[execOp,c,e,eqGuard,binOp,Op.intBits,Sem.run_pure,Sem.run_bind,Result.andThen,MR]⟩
theorem ZX (c:ev ρ x= .int kk a) (e:ev ρ y= .int kk b):bx P ρ ⟨d,.binOp .xor tx x y tyy,ty,p,af,g⟩ H (.int kk (vo kk a b)):=⟨rfl,λT w f=>by simp[execOp,c,e,eqGuard,binOp,Op.intBits,Sem.run_pure,Sem.run_bind,Result.andThen,vo]⟩
theorem ZY {k2:IntKind} (f:0<=b) (c:ev ρ x= .int kk a) (e:ev ρ y= .int k2 b):bx P ρ ⟨d,.binOp .shl tx x y tyy,ty,p,af,g⟩ H (.int kk (yz kk a b)):=⟨rfl,λT w h=>by
 have:¬b< 0:=by omega
 simp[execOp,c,e,eqGuard,binOp,Op.shift,this,Sem.run_pure,Sem.run_bind,Result.andThen,yz]⟩
theorem ZZ {k2:IntKind} (f:0<=b) (c:ev ρ x= .int kk a) (e:ev ρ y= .int k2 b):bx P ρ ⟨d,.binOp .shr tx x y tyy,ty,p,af,g⟩ H (.int kk (gy kk a b)):=⟨rfl,λT w h=>by
 have:¬b< 0:=by omega
 simp[execOp,c,e,eqGuard,binOp,Op.shift,this,Sem.run_pure,Sem.run_bind,Result.andThen,gy]⟩
theorem I7 (c:ev ρ x= .int kk a) (e:ev ρ y= .int kk b):bx P ρ ⟨d,.binOp .eql tx x y tyy,ty,p,af,g⟩ H (.bool (a==b)):=⟨rfl,λT w f=>by simp[execOp,c,e,eqGuard,binOp,Op.intCmp,Sem.run_pure,Sem.run_bind,Result.andThen]⟩
theorem Dt (c:ev ρ x= .int kk a) (e:ev ρ y= .int kk b):bx P ρ ⟨d,.binOp .neq tx x y tyy,ty,p,af,g⟩ H (.bool (a != b)):=⟨rfl,λT w f=>by simp[execOp,c,e,eqGuard,binOp,Op.intCmp,Sem.run_pure,Sem.run_bind,Result.andThen]⟩
theorem xE (c:ev ρ x= .int kk a) (e:ev ρ y= .int kk b):bx P ρ ⟨d,.binOp .lss tx x y tyy,ty,p,af,g⟩ H (.bool (decide (a<b))):=⟨rfl,λT w f=>by simp[execOp,c,e,eqGuard,binOp,Op.intCmp,Sem.run_pure,Sem.run_bind,Result.andThen]⟩
theorem Za (c:ev ρ x= .int kk a) (e:ev ρ y= .int kk b):bx P ρ ⟨d,.binOp .leq tx x y tyy,ty,p,af,g⟩ H (.bool (decide (a<=b))):=⟨rfl,λT w f=>by simp[execOp,c,e,eqGuard,binOp,Op.intCmp,Sem.run_pure,Sem.run_bind,Result.andThen]⟩
theorem N1 (c:ev ρ x= .int kk a) (e:ev ρ y= .int kk b):bx P ρ ⟨d,.binOp .gtr tx x y tyy,ty,p,af,g⟩ H (.bool (decide (b<a))):=⟨rfl,λT w f=>by simp[execOp,c,e,eqGuard,binOp,Op.intCmp,Sem.run_pure,Sem.run_bind,Result.andThen]⟩
theorem Zb (c:ev ρ x= .int kk a) (e:ev ρ y= .int kk b):bx P ρ ⟨d,.binOp .geq tx x y tyy,ty,p,af,g⟩ H (.bool (decide (b<=a))):=⟨rfl,λT w f=>by simp[execOp,c,e,eqGuard,binOp,Op.intCmp,Sem.run_pure,Sem.run_bind,Result.andThen]⟩
theorem Zc (c:ev ρ x= .int kk a):bx P ρ ⟨d,.unOp .neg tx x,ty,p,af,g⟩ H (.int kk (kk.wrap (0-a))):=⟨rfl,λT w e=>by simp[execOp,c,Op.unary,Op.intArith,Sem.run_pure,Sem.run_bind,Result.andThen]⟩
theorem Zd (c:ev ρ x= .int kk a):bx P ρ ⟨d,.unOp .xor tx x,ty,p,af,g⟩ H (.int kk (vo kk (if kk.signed then -1 else kk.max) a)):=⟨rfl,λT w e=>by simp[execOp,c,Op.unary,Op.intBits,Sem.run_pure,Sem.run_bind,Result.andThen,vo]⟩
theorem qj {c:Bool} (e:ev ρ x= .bool c):bx P ρ ⟨d,.unOp .not tx x,ty,p,af,g⟩ H (.bool (!c)):=⟨rfl,λT w f=>by simp[execOp,e,Op.unary,Sem.run_pure,Sem.run_bind,Result.andThen]⟩
end arith
theorem bq {t:TypeId} {x:TypeDesc} {w:World} (h:P.underlying t=some x):(underlying t).run P w= .ok x w:=by
 simp[underlying,program,Sem.run_bind,Sem.run,Result.andThen,h,Sem.run_pure]
theorem gP {t:TypeId} {s:Nat} {w:World} (h:(P.info? t).map (·.size)=some s):(sizeOf t).run P w= .ok s w:=by
 cases hi:P.info? t with
 |none=>grind
 |some i=>rw[hi] at h;cases h;simp[sizeOf,typeInfo,program,Sem.run_bind,Sem.run,Result.andThen,hi,Sem.run_pure]
theorem Bf {t:TypeId} {i:TypeInfo} {w:World} (h:P.info? t=some i):(typeInfo t).run P w= .ok i w:=by
 simp[typeInfo,program,Sem.run_bind,Sem.run,Result.andThen,h,Sem.run_pure]
theorem Xt {src dst:TypeId} {x:Operand} {i kd:IntKind} {c:TypeDesc} {a:Int} (e:P.underlying src=some c) (f:P.underlying dst=some (.int kd)) (h:ev ρ x= .int i a):
 bx P ρ ⟨d,.convert src dst x,ty,p,af,g⟩ H (.int kd (kd.wrap a)):=⟨rfl,λT w j=>by
 simp[execOp,h,convert,Sem.run_bind,bq e,bq f,Result.andThen,Conv.intToInt,Sem.run_pure]⟩
theorem Bh {x:Operand} {a:Addr} (c:ev ρ x= .pointer (some a)):bx P ρ ⟨d,.nilCheck x,ty,p,af,g⟩ H (.pointer (some a)):=⟨rfl,λT w e=>by
 simp[execOp,c,Sem.run_pure]⟩
def Bi (P:Program) (s i off:Nat):Prop:=∃fs f sz,P.underlying s=some (.struct fs)/\fs[i]?=some f/\f.offset=off/\(P.info? f.type).map (·.size)=some sz/\sz≠0
theorem AX {s i off:Nat} {x:Operand} {a:Addr} (hf:Bi P s i off) (l:ev ρ x= .pointer (some a)):bx P ρ ⟨d,.fieldAddr s x i,ty,p,af,g⟩ H (.pointer (some (a.add off))):=⟨rfl,λT w m=>by
 obtain⟨fs,f,sz,c,e,h,j,k⟩:=hf
 simp[execOp,l,Instr.fieldAt,Sem.run_bind,bq c,e,Result.andThen,Instr.sureAddr,Sem.run_pure,fieldPlace,gP j,k,h]⟩
def jX (P:Program) (t e size:Nat):Prop:=P.underlying t=some (.slice e)/\(P.info? e).map (·.size)=some size
def wi (P:Program) (t len e size:Nat):Prop:=P.underlying t=some (.array len e)/\(P.info? e).map (·.size)=some size
theorem Lm {t e size:Nat} {x f:Operand} {a:Addr} {len cap:Nat} {l:IntKind} {i:Int} (c:jX P t e size) (h:0<=i) (j:i<len)
 (k:ev ρ x= .slice (some a) len cap) (hi:ev ρ f= .int l i):bx P ρ ⟨d,.indexAddr t x f,ty,p,af,g⟩ H (.pointer (some (a.add (i.toNat*size)))):=⟨rfl,λT w m=>by
 simp[execOp,k,hi,Instr.indexAt,asIntOf,Sem.run_bind,bq c.1,Result.andThen,Sem.run_pure,gP c.2,h,j]⟩
theorem JS {t n e size:Nat} {x f:Operand} {a:Addr} {l:IntKind} {i:Int} (c:wi P t n e size) (h:0<=i) (j:i<n)
 (k:ev ρ x= .pointer (some a)) (hi:ev ρ f= .int l i):bx P ρ ⟨d,.indexAddr t x f,ty,p,af,g⟩ H (.pointer (some (a.add (i.toNat*size)))):=⟨rfl,λT w m=>by
 simp[execOp,k,hi,Instr.indexAt,asIntOf,Sem.run_bind,bq c.1,Result.andThen,Sem.run_pure,gP c.2,h,j,Instr.sureAddr]⟩
def cellAt (H:PH) (a:Addr):Option Value:=match H a.block with
 |some (.cells c _ _)=>if a.spot.isSome then none else c[a.off]?
 |_=>none
def cI (H:PH) (a:Addr) (n:Nat):Option (List Value):=if n=0 then some [] else match H a.block with
 |some (.cells c _ _)=>if a.spot.isSome then none else if a.off+n<=c.size then some ((c.toList.drop a.off).take n) else none
 |_=>none
theorem cell_of {w:World} (j:jU H T w) {a:Addr} {v:Value} (h:cellAt H a=some v):w.cell? a=some v:=by
 unfold cellAt at h
 split at h
 ·rename_i c e f i
  simp only[World.cell?,j.sub _ _ i];exact h
 ·cases h
theorem run_load {w:World} (c:jU H T w) {a:Addr} {v:Value} (h:cellAt H a=some v):(load a).run P w= .ok v w:=by
 simp[load,Sem.run,cell_of c h]
def xa (P:Program) (t:TypeId):Prop:=∃x,P.underlying t=some x/\(match x with| .struct _=>False| .array _ _=>False|_=>True)
def G0 (P:Program) (t n:Nat):Prop:=(∃x,P.underlying t=some x/\(match x with| .struct _=>True| .array _ _=>True|_=>False))/\(P.info? t).map (·.size)=some n
theorem vp {t:TypeId} {w:World} (h:xa P t):(isAgg t).run P w= .ok false w:=by
 obtain⟨x,c,e⟩:=h
 simp only[isAgg,Sem.run_bind,bq c,Result.andThen]
 cases x<;>simp_all[Sem.run_pure]
theorem Cm {t n:Nat} {w:World} (h:G0 P t n):(isAgg t).run P w= .ok true w:=by
 obtain⟨⟨x,c,e⟩,_⟩:=h
 simp only[isAgg,Sem.run_bind,bq c,Result.andThen]
 cases x<;>simp_all[Sem.run_pure]
theorem C3 {t:TypeId} {x:Operand} {a:Addr} {v:Value} (e:xa P t) (h:ev ρ x= .pointer (some a)) (f:cellAt H a=some v):bx P ρ ⟨d,.load t x,ty,p,af,g⟩ H v:=⟨rfl,λT w c=>by
 simp[execOp,h,Instr.loadAt,Instr.sureAddr,loadVar,Sem.run_bind,vp e,Result.andThen,Sem.run_pure,run_load c f]⟩
theorem add_zero' (a:Addr):a.add 0=a:=by rfl
theorem sZ (a:Addr) (n:Nat):(a.add n).block=a.block:=by unfold Addr.add;split<;>rfl
theorem Du (a:Addr) (n:Nat):(a.add n).off=a.off+n:=by unfold Addr.add;grind
theorem vC (a:Addr) (n:Nat) (h:a.spot=none):(a.add n).spot=none:=by unfold Addr.add;grind
theorem fV (b o n:Nat):(⟨b,o,none⟩:Addr).add n=⟨b,o+n,none⟩:=by unfold Addr.add;simp
theorem C4 {a:Addr} {n:Nat} {cs:List Value} (h:cI H a n=some cs):cs.length=n/\∀j,j<n->∃v,cs[j]?=some v/\cellAt H (a.add j)=some v:=by
 unfold cI at h
 split at h
 ·grind
 split at h
 ·rename_i c e f l
  split at h
  ·cases h
  ·rename_i o
   split at h
   ·rename_i hle
    cases h
    refine⟨by simp;omega,λj m=>?_⟩
    have i:a.off+j<c.size:=by omega
    refine⟨c[a.off+j],by grind,?_⟩
    have k:(a.add j).spot=none:=vC a j (by simp_all)
    simp[cellAt,sZ,l,k,Du,i]
   ·cases h
 ·cases h
theorem run_loadCells {w:World} (k:jU H T w) {a:Addr}:∀(n i:Nat) (acc:Array Value) (cs:List Value),cs.length=n->(∀j,j<n->∃v,cs[j]?=some v/\cellAt H (a.add (i+j))=some v)->
 (loadCellsFrom a i n acc).run P w= .ok (acc++cs.toArray) w
 | 0,i,acc,cs,e,h=>by
   cases cs with
   |nil=>rfl
   |cons=>cases e
 |n+1,i,acc,cs,e,h=>by
  cases cs with
  |nil=>cases e
  |cons v cs=>
   obtain⟨m,c,f⟩:=h 0 (by omega)
   simp at c;subst c
   simp only[Nat.add_zero] at f
   have l:=run_loadCells k (a:=a) n (i+1) (acc.push v) cs (by grind) (by grind)
   simp only[loadCellsFrom,Sem.run_bind,run_load k f,Result.andThen,l]
   simp
theorem tW {w:World} (f:jU H T w) {a:Addr} {n:Nat} {cs:List Value} (h:cI H a n=some cs):(loadCells a n).run P w= .ok cs.toArray w:=by
 obtain⟨c,e⟩:=C4 h
 have:=run_loadCells (P:=P) f n 0 #[] cs c (by simpa using e)
 simpa[loadCells] using this
theorem Aq {t n:Nat} {x:Operand} {a:Addr} {cs:List Value} (c:G0 P t n) (h:ev ρ x= .pointer (some a)) (f:cI H a n=some cs):bx P ρ ⟨d,.load t x,ty,p,af,g⟩ H (.agg cs.toArray):=⟨rfl,λT w e=>by
 simp[execOp,h,Instr.loadAt,Instr.sureAddr,loadVar,Sem.run_bind,Cm c,Result.andThen,Sem.run_pure,gP c.2,tW e f]⟩
def G1 (P:Program) (s i off t:Nat):Prop:=∃fs f,P.underlying s=some (.struct fs)/\fs[i]?=some f/\f.offset=off/\f.type=t
theorem Vv {s i off t:Nat} {x:Operand} {cs:List Value} {v:Value} (hf:G1 P s i off t) (k:xa P t) (m:ev ρ x= .agg cs.toArray) (l:cs[off]?=some v):bx P ρ ⟨d,.field s x i,ty,p,af,g⟩ H v:=⟨rfl,λT w n=>by
 obtain⟨fs,f,c,e,h,j⟩:=hf
 simp[execOp,m,Instr.field,Sem.run_bind,bq c,e,Result.andThen,asAgg,Sem.run_pure,part,h,j,vp k,l]⟩
theorem C5 {x:Operand} {vs:Array Value} {i:Nat} {v:Value} (e:ev ρ x= .tuple vs) (c:vs[i]?=some v):bx P ρ ⟨d,.extract x i,ty,p,af,g⟩ H v:=⟨rfl,λT w f=>by
 simp[execOp,e,Instr.extract,c,Sem.run_pure,Sem.run_bind,Result.andThen]⟩
theorem qF {xs:Array Operand} {vs:List Value} (h:xs.toList.map (ev ρ)=vs):xs.map (ev ρ)=vs.toArray:=by
 grind
theorem vt {xs:Array Operand} {c:Array TypeId} {t e:Nat} {a:Option Addr} {len cap:Nat} (hu:P.underlying t=some (.slice e)) (f:c[0]?=some t) (h:xs.toList.map (ev ρ)=[.slice a len cap]):
 bx P ρ ⟨d,.call ⟨.builtin .len,xs,c⟩,ty,p,af,g⟩ H (.int .i64 len):=⟨rfl,λT w i=>by
 simp[execOp,resolve,qF h,Sem.run_bind,Sem.run_pure,Result.andThen,invoke,builtin,Builtin.len_,f,bq hu,goInt]⟩
theorem Ze {xs:Array Operand} {c:Array TypeId} {t e:Nat} {a:Option Addr} {len cap:Nat} (hu:P.underlying t=some (.slice e)) (f:c[0]?=some t) (h:xs.toList.map (ev ρ)=[.slice a len cap]):
 bx P ρ ⟨d,.call ⟨.builtin .cap,xs,c⟩,ty,p,af,g⟩ H (.int .i64 cap):=⟨rfl,λT w i=>by
 simp[execOp,resolve,qF h,Sem.run_bind,Sem.run_pure,Result.andThen,invoke,builtin,Builtin.cap_,f,bq hu,goInt]⟩
theorem QA {xs:Array Operand} {c:Array TypeId} {k:IntKind} {a b:Int} (e:xs.toList.map (ev ρ)=[.int k a,.int k b]):
 bx P ρ ⟨d,.call ⟨.builtin .min,xs,c⟩,ty,p,af,g⟩ H (.int k (if b<a then b else a)):=⟨rfl,λT w f=>by
 simp[execOp,resolve,qF e,Sem.run_bind,Sem.run_pure,Result.andThen,invoke,builtin,Builtin.min_,Builtin.min2]⟩
theorem Xu {xs:Array Operand} {c:Array TypeId} {k:IntKind} {a b:Int} (e:xs.toList.map (ev ρ)=[.int k a,.int k b]):
 bx P ρ ⟨d,.call ⟨.builtin .max,xs,c⟩,ty,p,af,g⟩ H (.int k (if a<b then b else a)):=⟨rfl,λT w f=>by
 simp[execOp,resolve,qF e,Sem.run_bind,Sem.run_pure,Result.andThen,invoke,builtin,Builtin.max_,Builtin.max2]⟩
end
end Go.Kx
end
section
namespace Go.Kx
section
variable {P:Program} {ρ:Env} {T H:PH} {d:Option Nat} {ty:TypeId} {p:String} {af:Array Edge} {g:Option (Nat×Bool)} {K:Value->PH->PH->Prop}
def cg:Value->Bool
 | .agg _=>false
 | .tuple _=>false
 |_=>true
theorem nA {w:World} (e:TypeId) (c:Array Value):(newRow e c).run P w= .ok ⟨w.heap.size,0,none⟩ (w.alloc (.cells c e)):=by
 rfl
abbrev row (cs:List Value) (e:TypeId):Obj:=.cells cs.toArray e
def jv (P:Program) (t:TypeId) (z:Value):Prop:=(P.info? t).bind (·.zero)=some z
theorem pQ {t:TypeId} {z:Value} {w:World} (h:jv P t z):(zeroValue t).run P w= .ok z w:=by
 unfold jv at h
 cases hi:P.info? t with
 |none=>grind
 |some i=>rw[hi] at h;simp at h;simp[zeroValue,Sem.run_bind,Bf hi,Result.andThen,h,Sem.run_pure]
theorem Sv {e:TypeId} {z:Value} {cs:List Value} (f:jv P e z) (c:z.cells=cs.toArray)
 (h:∀b,H b=none->T b=none->K (.pointer (some ⟨b,0,none⟩)) T (H.bQ b (row cs e))):dT P ρ ⟨d,.alloc e,ty,p,af,g⟩ T H K:=⟨rfl,λw a=>.inl
 ⟨_,T,_,_,by simp[execOp,Instr.alloc,Sem.run_bind,pQ f,Result.andThen,newVar,nA,Sem.run_pure,c],.alloc a _,h _ a.new.1 a.new.2⟩⟩
theorem Xv {e:TypeId} {x:Operand} {v:Value} {cs:List Value} (f:ev ρ x=v) (c:v.cells=cs.toArray)
 (h:∀b,H b=none->T b=none->K (.pointer (some ⟨b,0,none⟩)) T (H.bQ b (row cs e))):dT P ρ ⟨d,.box e x,ty,p,af,g⟩ T H K:=⟨rfl,λw a=>.inl
 ⟨_,T,_,_,by simp[execOp,f,Instr.box,Sem.run_bind,Result.andThen,newVar,nA,Sem.run_pure,c],.alloc a _,h _ a.new.1 a.new.2⟩⟩
theorem run_store {w:World} (j:jU H T w) {b off:Nat} {c:Array Value} {e:TypeId} {v:Value} (i:H b=some (.cells c e)) (h:off<c.size) (k:cg v=true):
 (store ⟨b,off,none⟩ v).run P w= .ok () (w.setCell ⟨b,off,none⟩ v):=by
 have hw:=j.sub b _ i
 have a:w.cell? ⟨b,off,none⟩=some c[off]:=by simp[World.cell?,hw,h]
 have f:w.frozen? ⟨b,off,none⟩=false:=by simp[World.frozen?,hw]
 unfold store
 cases v<;>first|(cases k;done)|simp[Sem.run,a,f]
theorem N2 {w:World} (f:jU H T w) {b off:Nat} {c:Array Value} {e:TypeId} {v:Value} (a:H b=some (.cells c e)):
 Fr H T w (H.bQ b (.cells (c.setIfInBounds off v) e)) T (w.setCell ⟨b,off,none⟩ v):=by
 refine .put f a ?_ rfl rfl rfl
 have hw:=f.sub b _ a
 have h:=f.lt a
 simp only[World.setCell]
 grind
def putAt (cs:List Value) (off:Nat):List Value->List Value
 |[]=>cs
 |v::vs=>putAt (cs.set off v) (off+1) vs
theorem kK (vs:List Value):∀(cs:List Value) (off:Nat),off+vs.length<=cs.length->putAt cs off vs=cs.take off++vs++cs.drop (off+vs.length):=by
 induction vs with
 |nil=>intro cs off h;simp[putAt]
 |cons v vs a=>
  intro cs off h
  simp only[List.length_cons] at h
  rw[putAt,a _ _ (by simp;omega)]
  have b:(cs.set off v).take (off+1)=cs.take off++[v]:=by
   apply List.ext_getElem?
   intro i
   rw[List.getElem?_take]
   grind
  have c:(cs.set off v).drop (off+1+vs.length)=cs.drop (off+1+vs.length):=by
   rw[List.drop_set,if_pos (by omega)]
  grind
theorem tX (vs:List Value):∀{H:PH} {w:World} (f:jU H T w) {b off i:Nat} {cs:List Value} {e:TypeId} (k:H b=some (row cs e)) (hle:off+i+vs.length<=cs.length) (j:vs.all cg=true),
 ∃w',(storeCells ⟨b,off,none⟩ vs i).run P w= .ok () w'/\Fr H T w (H.bQ b (row (putAt cs (off+i) vs) e)) T w':=by
 induction vs with
 |nil=>
  intro H w f b off i cs e k hle j
  refine⟨w,by rfl,(Fr.refl f).weaken (λx o c=>?_) (by simp)⟩
  by_cases a:x=b
  ·subst a;simp[putAt] at c;grind
  ·rwa[PH.al _ _ a] at c
 |cons v vs r=>
  intro H w f b off i cs e k hle j
  simp only[List.all_cons,Bool.and_eq_true,List.length_cons] at j hle
  have m:=run_store (P:=P) f (off:=off+i) (v:=v) k (by simp;omega) j.1
  have l:=N2 f (off:=off+i) (v:=v) k
  have e1:(cs.toArray.setIfInBounds (off+i) v)=(cs.set (off+i) v).toArray:=by simp
  rw[e1] at l
  obtain⟨w',n,q⟩:=r l.own (b:=b) (off:=off) (i:=i+1) (cs:=cs.set (off+i) v) (e:=e) (by simp) (by simp;omega) j.2
  refine⟨w',?_,(l.trans q).weaken (λx o c=>?_) (λ_ _ h=>h)⟩
  ·simp only[storeCells,Sem.run_bind,fV,m,Result.andThen,n]
  ·by_cases a:x=b
   ·subst a;simp at c ⊢; rw[←c,putAt,Nat.add_assoc]
   ·rw[PH.al _ _ a] at c;rw[PH.al _ _ a,PH.al _ _ a];exact c
theorem El {t n:Nat} {x y:Operand} {b off:Nat} {v:Value} {cs vs:List Value} {e:TypeId} (c:(P.info? t).map (·.size)=some n) (q:ev ρ x= .pointer (some ⟨b,off,none⟩)) (r:ev ρ y=v)
 (f:v.cells=vs.toArray) (m:vs.length=n) (a:vs.all cg=true) (l:H b=some (row cs e)) (hle:off+vs.length<=cs.length)
 (h:K undef T (H.bQ b (row (putAt cs off vs) e))):dT P ρ ⟨d,.store t x y,ty,p,af,g⟩ T H K:=⟨rfl,λw o=>by
 obtain⟨w',j,k⟩:=tX (P:=P) vs o (off:=off) (i:=0) l (by omega) a
 refine .inr (.inl ⟨T,_,w',?_,k,by simpa using h⟩)
 simp[execOp,q,r,Instr.storeAt,Instr.sureAddr,storeVar,Sem.run_bind,Sem.run_pure,Result.andThen,gP c,f,m,j]⟩
theorem Vw {t e size:Nat} {x:Operand} {a:Option Addr} {len cap:Nat} {lo hi:Option Operand} {l h:Nat} (m:jX P t e size) (n:ev ρ x= .slice a len cap)
 (c:(match lo with|none=>l=0|some o=>∃k,ev ρ o= .int k (l:Int))) (b:(match hi with|none=>h=len|some o=>∃k,ev ρ o= .int k (h:Int))) (f:l<=h) (i:h<=cap) (r:len<=cap):
 bx P ρ ⟨d,.slice t x lo hi none,ty,p,af,g⟩ H (.slice (if cap=l then a else a.map (·.add (l*size))) (h-l) (cap-l)):=⟨rfl,λT w s=>by
 have r1:(Instr.sliceBounds true len cap (lo.map (ev ρ)) (hi.map (ev ρ)) none).run P w= .ok (l,h,cap) w:=by
  cases lo with
  |none=>
   simp only at c;subst c
   cases hi with
   |none=>simp only at b;subst b;rfl
   |some o=>obtain⟨k,hk⟩:=b;simp[Instr.sliceBounds,Sem.run_bind,Sem.run_pure,Result.andThen,hk,Instr.sliceBound,asIntOf,i]
  |some q=>
   obtain⟨k,hk⟩:=c
   cases hi with
   |none=>simp only at b;subst b;simp[Instr.sliceBounds,Sem.run_bind,Sem.run_pure,Result.andThen,hk,Instr.sliceBound,asIntOf,f]
   |some o=>obtain⟨k2,j⟩:=b;simp[Instr.sliceBounds,Sem.run_bind,Sem.run_pure,Result.andThen,hk,j,Instr.sliceBound,asIntOf,f,i]
 simp[execOp,n,Instr.sliceAt,Sem.run_bind,bq m.1,Result.andThen,Instr.slice,r1,gP m.2,Sem.run_pure]⟩
theorem N3 {f:Fn} {fi ca:Array Operand} {vs us:List Value} (a:fi.toList.map (ev ρ)=vs) (b:ca.toList.map (ev ρ)=us):bx P ρ ⟨d,.makeFunc f fi ca,ty,p,af,g⟩ H (.func f vs.toArray us.toArray):=⟨rfl,λT w c=>by
 simp[execOp,qF a,qF b,Instr.makeFunc,Sem.run_pure,Sem.run_bind,Result.andThen]⟩
def cN (n:Nat) (z:List Value):List Value:=(List.range (n*z.length)).map λi=>z[i%z.length]!
theorem rh (n:Nat) (z:List Value):(Array.range (n*z.length)).map (λi=>z.toArray[i%z.length]!)=(cN n z).toArray:=by
 apply Array.ext';simp[cN]
theorem xc (n:Nat) (z:Value):cN n [z]=List.replicate n z:=by
 apply List.ext_getElem
 ·simp[cN]
 ·intro i a b;simp[cN,Nat.mod_one]
theorem qG (n:Nat) (z:List Value):(cN n z).length=n*z.length:=by simp[cN]
theorem run_askRoom {w:World} (m:Nat):(askRoom m).run P w= .ok () w:=by
 simp
def nT (P:Program) (t m:Nat):Prop:=(P.info? t).map (·.bytes)=some m
theorem rO {t m:Nat} {w:World} (h:nT P t m):∃i,(typeInfo t).run P w= .ok i w/\i.bytes=m:=by
 unfold nT at h
 cases hi:P.info? t with
 |none=>grind
 |some i=>rw[hi] at h;cases h;exact⟨i,Bf hi,rfl⟩
theorem bC {x:Int} (c: -9223372036854775808<=x) (e:x< 9223372036854775808):IntKind.i64.wrap x=x:=by
 have a:(2:Int) ^ IntKind.i64.bits=18446744073709551616:=rfl
 have b:(2:Int) ^ (IntKind.i64.bits- 1)=9223372036854775808:=rfl
 simp only[IntKind.wrap,a,b,IntKind.signed,Bool.true_and,decide_eq_true_eq]
 split<;>omega
theorem wrap_small {n:Nat} (h:n<=2 ^ 48):IntKind.i64.wrap (n:Int)=n:=bC (by omega) (by omega)
theorem run_makeSlice {t e size m:Nat} {z:Value} {zs:List Value} {n c:Nat} {w:World} {k1 k2:IntKind} (l:jX P t e size) (hm:nT P e m) (k:1<=m) (q:jv P e z) (b:z.cells=zs.toArray) (o:zs.length=size) (v:1<=size)
 (y:n<=c) (A:m*c<=2 ^ 48):(Instr.makeSlice t (.int k1 n) (.int k2 c)).run P w= .ok (.slice (some ⟨w.heap.size,0,none⟩) n c) (w.alloc (row (cN c zs) e)):=by
 obtain⟨i,hi,j⟩:=rO (w:=w) hm
 have s:c<=2 ^ 48:=by
  have:1*c<=m*c:=Nat.mul_le_mul_right c k
  omega
 have u:n<=2 ^ 48:=by omega
 have e1:=wrap_small s
 have e2:=wrap_small u
 have t1:(decide ((c:Int)< 0)||decide ((m:Int)*(c:Int)> 2 ^ 48))=false:=by
  grind
 have a:¬(((decide ((c:Int)< 0)||decide ((m:Int)*(c:Int)> 2 ^ 48))=true∨(n:Int)< 0)∨(n:Int)>(c:Int)):=by
  grind
 subst o
 have r:(if c*zs.length=0 then(pure #[]:Sem (Array Value)) else do pure (←zeroValue e).cells).run P w= .ok (if c*zs.length=0 then #[] else zs.toArray) w:=by
  split
  ·rfl
  ·simp[Sem.run_bind,pQ q,Result.andThen,Sem.run_pure,b]
 simp only[Instr.makeSlice,Sem.run_bind,bq l.1,Result.andThen,asInt,asIntOf,Sem.run_pure,hi,j,e1,e2]
 simp only[Bool.or_eq_true,decide_eq_true_eq] at a
 simp only[Bool.or_eq_true,decide_eq_true_eq,a,if_false,Int.toNat_natCast,Sem.run_bind,run_askRoom,Result.andThen,gP l.2,r]
 by_cases f:c*zs.length=0
 ·have:c=0:=by rcases Nat.mul_eq_zero.1 f with h|h<;>omega
  subst this
  simp[nA,Sem.run_pure,Result.andThen,cN]
  grind
 ·simp only[f,if_false,Sem.run_bind,pQ q,nA,Sem.run_pure,Result.andThen,b]
  rw[show(Array.range (c*zs.length)).map (λx=>zs.toArray[x%zs.toArray.size]!)=(cN c zs).toArray by simpa using rh c zs]
theorem JT {t e size m:Nat} {x y:Operand} {z:Value} {zs:List Value} {n c:Nat} {k1 k2:IntKind} (q:jX P t e size) (hm:nT P e m) (i:1<=m) (u:jv P e z) (k:z.cells=zs.toArray) (j:zs.length=size) (f:1<=size)
 (r:ev ρ x= .int k1 n) (s:ev ρ y= .int k2 c) (l:n<=c) (o:m*c<=2 ^ 48)
 (h:∀b,H b=none->T b=none->K (.slice (some ⟨b,0,none⟩) n c) T (H.bQ b (row (cN c zs) e))):dT P ρ ⟨d,.makeSlice t x y,ty,p,af,g⟩ T H K:=⟨rfl,λw a=>.inl
 ⟨_,T,_,_,by simp[execOp,r,s,Sem.run_bind,run_makeSlice q hm i u k j f l o,Result.andThen,Sem.run_pure],.alloc a _,h _ a.new.1 a.new.2⟩⟩
theorem Is {t e size len:Nat} {parts:Array (Nat×Operand)} {ps:List (Nat×Value)} {z:Value} {zs cs:List Value} (j:jX P t e size) (o:jv P e z) (l:z.cells=zs.toArray) (k:zs.length=size) (m:len*size≠0) (r:len*size<=2 ^ 24)
 (s:parts.toList.map (λq=>(q.1,ev ρ q.2))=ps) (hf:Instr.fill (λi=>some (i*size,size)) (cN len zs).toArray ps=some cs.toArray)
 (h:∀b,H b=none->T b=none->K (.slice (some ⟨b,0,none⟩) len len) T (H.bQ b (row cs e))):dT P ρ ⟨d,.buildSlice t len parts,ty,p,af,g⟩ T H K:=⟨rfl,λw c=>by
 refine .inl ⟨_,T,_,_,?_,.alloc c _,h _ c.new.1 c.new.2⟩
 subst k
 have a:¬len*zs.length> 2 ^ 24:=by omega
 have f:(parts.map λq=>(q.1,ev ρ q.2)).toList=ps:=by simp_all
 have n:=rh len zs
 simp only[execOp,Instr.buildSlice,Sem.run_bind,bq j.1,Result.andThen,gP j.2,a,if_false,m,pQ o,Sem.run_pure,l]
 simp only[f,List.size_toArray,n,hf,Sem.run_bind,nA,Result.andThen,Sem.run_pure]⟩
theorem wj {xs:Array Operand} {a:Array TypeId} {f:FuncId} {vs:List Value} {R:Value->PH->Prop} (hf:Body P f) (e:xs.toList.map (ev ρ)=vs) (b:fU P f vs.toArray H R)
 (h:∀v H',R v H'->K v T H'):dT P ρ ⟨d,.call ⟨.value (.func f),xs,a⟩,ty,p,af,g⟩ T H K:=⟨rfl,λw c=>by
 refine .inr (.inr (.inl ⟨f,vs.toArray,?_,?_⟩))
 ·simp[execOp,resolve,ev,qF e,Deferred.ofValue,Sem.run_bind,Sem.run_pure,Result.andThen,invoke,hf _ _]
 ·exact(b.beside w c).mono (by grind)⟩
end
end Go.Kx
end
section
namespace Go.Kx
structure Sl where
 a:Option Addr
 len:Nat
 cap:Nat
abbrev Sl.v (s:Sl):Value:=.slice s.a s.len s.cap
abbrev Sl.nil:Sl:=⟨none,0,0⟩
def aL (c:Bool) (a b:Prop):Prop:=(c=true->a)/\(c=false->b)
def aO {σ:Type} (k:σ->PH->Prop) (body:(σ->PH->Prop)->Prop):Prop:=body k
def bw {σ:Type} (body:σ->PH->(σ->PH->Prop)->Prop) (s0:σ) (a:PH):Prop:=
 ∃I:Nat->σ->PH->Prop,(∃m,I m s0 a)/\∀m s H,I m s H->body s H λb H'=>∃m',m'<m/\I m' b H'
def aP (p:Option Addr) (K:Addr->Prop):Prop:=∃a,p=some a/\K a
def aH {α:Type} (enc:α->Value) (H:PH) (a:Addr) (K:α->Prop):Prop:=∃x,cellAt H a=some (enc x)/\K x
def C6 (H:PH) (a:Addr) (n:Nat) (K:List Value->Prop):Prop:=∃cs,cI H a n=some cs/\K cs
def aV (H:PH) (a:Addr) (vs:List Value) (K:PH->Prop):Prop:=
 ∃b off cs e,a=⟨b,off,none⟩/\H b=some (row cs e)/\off+vs.length<=cs.length/\vs.all cg=true/\K (H.bQ b (row (putAt cs off vs) e))
def Sw (s:Sl) (size:Nat) (i:Int) (a:Addr):Prop:=∃a0,s.a=some a0/\0<=i/\i<s.len/\a=a0.add (i.toNat*size)
def bX (s:Sl) (size:Nat) (i:Int) (K:Addr->Prop):Prop:=∃a,Sw s size i a/\K a
def Sx (n:Nat) (a0:Addr) (size:Nat) (i:Int) (a:Addr):Prop:=0<=i/\i<n/\a=a0.add (i.toNat*size)
def iH (n:Nat) (a0:Addr) (size:Nat) (i:Int) (K:Addr->Prop):Prop:=∃a,Sx n a0 size i a/\K a
def Em (H:PH) (o:Obj) (a:Addr) (H':PH):Prop:=∃b,H b=none/\a=⟨b,0,none⟩/\H'=H.bQ b o
def wk (H:PH) (o:Obj) (n c:Nat) (r:Sl) (H':PH):Prop:=∃b,H b=none/\r=⟨some ⟨b,0,none⟩,n,c⟩/\H'=H.bQ b o
def aj (H:PH) (o:Obj) (K:Addr->PH->Prop):Prop:=∀a H',Em H o a H'->K a H'
def bZ (H:PH) (o:Obj) (n:Nat) (K:Sl->PH->Prop):Prop:=∀r H',wk H o n n r H'->K r H'
def sd (m:Nat) (n c:Int):Prop:=0<=n/\n<=c/\(m:Int)*c<=2 ^ 48
def zA (H:PH) (e m:Nat) (zs:List Value) (n c:Int) (K:Sl->PH->Prop):Prop:=
 sd m n c/\∀r H',wk H (row (cN c.toNat zs) e) n.toNat c.toNat r H'->K r H'
def Sl.cut (s:Sl) (size lo hi:Nat):Sl:=⟨if s.cap=lo then s.a else s.a.map (·.add (lo*size)),hi-lo,s.cap-lo⟩
def Sy (s:Sl) (size:Nat) (lo hi:Int) (r:Sl):Prop:=0<=lo/\lo<=hi/\hi<=s.cap/\s.len<=s.cap/\r=s.cut size lo.toNat hi.toNat
def kv (s:Sl) (size:Nat) (lo hi:Int) (K:Sl->Prop):Prop:=∃r,Sy s size lo hi r/\K r
def qk (A K:Prop):Prop:=A/\K
def lq (H:PH) (o:Obj) (n c:Int) (K:Sl->PH->Prop):Prop:=∀r H',wk H o n.toNat c.toNat r H'->K r H'
def ay (H:PH) (a:Addr) (v:Value) (K:Prop):Prop:=cellAt H a=some v/\K
def gQ (H:PH) (a:Addr) (n:Nat) (cs:List Value) (K:Prop):Prop:=cI H a n=some cs/\K
def Ar (b:Int) (K:Prop):Prop:=b≠0/\K
def Fb (b:Int) (K:Prop):Prop:=0<=b/\K
section
variable {P:Program} {rd:Option Nat} {n:Nat} {k:List Item} {ρ:Env} {D:List Deferred} {T H:PH} {Q:ll} {ops:Array Oper} {l:List Oper} {i:Nat}
theorem MS {σ:Type} (m:Nat) (E:Env->σ->Prop) {kk:σ->PH->Prop} {body:(σ->PH->Prop)->Prop} (h:aO kk body)
 (a:∀s H ρ,kk s H->E ρ s->Go P rd n (k.drop m) ρ D T H Q)
 (b:∀j:σ->PH->Prop,(∀s H ρ,j s H->E ρ s->Go P rd n (k.drop m) ρ D T H Q)->body j->Go P rd n k ρ D T H Q):Go P rd n k ρ D T H Q:=b kk a h
theorem En {σ:Type} (m:Nat) (E:Env->σ->Prop) {kk:σ->PH->Prop} {body:(σ->PH->Prop)->Prop} (h:aO kk body)
 (a:∀s H ρ,kk s H->E ρ s->ba P rd n ops (l.drop m) (i+m) k ρ D T H Q)
 (b:∀j:σ->PH->Prop,(∀s H ρ,j s H->E ρ s->ba P rd n ops (l.drop m) (i+m) k ρ D T H Q)->body j->ba P rd n ops l i k ρ D T H Q):ba P rd n ops l i k ρ D T H Q:=b kk a h
theorem As {σ:Type} {c:Code} {a:σ->PH->(σ->PH->Prop)->Prop} {s0:σ} (E:Env->σ->Prop) (h:bw a s0 H) (e:E ρ s0)
 (round:∀ρ s H again,E ρ s->a s H again->(∀d H' ρ',again d H'->E ρ' d->Go P rd n (.inLoop c::k) ρ' D T H' Q)->Go P rd n (.code c:: .inLoop c::k) ρ D T H Q):
 Go P rd n (.code (.loop c)::k) ρ D T H Q:=by
 obtain⟨I,⟨u,q⟩,g⟩:=h
 refine Go.step (k2:=.code c:: .inLoop c::k) (λb cs t w _=>rfl) ?_
 have key:∀m s H ρ,E ρ s->I m s H->Go P rd n (.code c:: .inLoop c::k) ρ D T H Q:=by
  intro m
  induction m using Nat.strongRecOn with
  |_ m r=>
   intro s H ρ e f
   refine round ρ s H _ e (g m s H f) λd H' ρ' ⟨m',p,o⟩ j=>?_
   exact .step (λb cs t w _=>rfl) (by grind)
 grind
theorem nc {o:Oper} {j d:Nat} {w c:Bool} (b:o.guard=some (j,w)) (hd:(ops[j]?).bind (·.dst)=some d) (e:ρ d= .bool c) (a:c=w):want ops ρ o=true:=by
 simp[want,b,Bd,hd,e,a]
theorem MT {o:Oper} {j d:Nat} {w c:Bool} (b:o.guard=some (j,w)) (hd:(ops[j]?).bind (·.dst)=some d) (e:ρ d= .bool c) (a:c= !w):want ops ρ o=false:=by
 simp[want,b,Bd,hd,e,a]
theorem Fc {o:Oper} {j d:Nat} {w:Bool} (a:o.guard=some (j,w)) (hd:(ops[j]?).bind (·.dst)=some d) (b:ρ d=undef):want ops ρ o=false:=by
 simp[want,a,Bd,hd,b,undef]
theorem QB {o:Oper} {d:Nat} (hw:want ops ρ o=false) (hd:o.dst=some d) (a:d<n) (h:ba P rd n ops l (i+1) k (bQ ρ d undef) D T H Q):ba P rd n ops (o::l) i k ρ D T H Q:=
 .no hw (by grind) (by rw[hd];exact h)
theorem zB {o:Oper} {d:Nat} (hw:want ops ρ o=true) (hd:o.dst=some d) (b:d<n) (h:dT P ρ o T H λv a H'=>ba P rd n ops l (i+1) k (bQ ρ d v) D a H' Q):ba P rd n ops (o::l) i k ρ D T H Q:=
 .op hw (by grind) (by rw[hd];exact h)
theorem MU {o:Oper} (hw:want ops ρ o=true) (hd:o.dst=none) (h:dT P ρ o T H λv a H'=>ba P rd n ops l (i+1) k ρ D a H' Q):ba P rd n ops (o::l) i k ρ D T H Q:=
 .op hw (by grind) (by rw[hd];exact h)
theorem vD {xs:Array Operand} {a:Array TypeId} {f:FuncId} {vs:List Value} {R:Value->PH->Prop} {d:Nat} {ty:TypeId} {p:String} {af:Array Edge} {g:Option (Nat×Bool)}
 (hw:want ops ρ ⟨some d,.call ⟨.value (.func f),xs,a⟩,ty,p,af,g⟩=true) (b:d<n) (hf:Body P f) (c:fU P f vs.toArray H R) (e:xs.toList.map (ev ρ)=vs)
 (h:∀v H',R v H'->ba P rd n ops l (i+1) k (bQ ρ d v) D T H' Q):ba P rd n ops (⟨some d,.call ⟨.value (.func f),xs,a⟩,ty,p,af,g⟩::l) i k ρ D T H Q:=
 zB hw rfl b (wj hf e c h)
theorem Cn {α:Type} {a b:α} (h:a=b):[a]=[b]:=by rw[h]
theorem ls2 {α:Type} {a c b d:α} (h:a=c) (e:b=d):[a,b]=[c,d]:=by rw[h,e]
end
end Go.Kx
end
section
namespace Go.Kx
theorem Xw {v:Value} {b:Bool} (h:v= .bool b) (a:b=true):v= .bool true:=by rw[h,a]
theorem Xx {v:Value} {b:Bool} (h:v= .bool b) (a:b=false):v= .bool false:=by rw[h,a]
theorem sla {v:Value} {s:Sl} {a:Addr} (h:v=Sl.v s) (b:s.a=some a):v= .slice (some a) s.len s.cap:=by grind
theorem Xy {v:Value} {a b:Addr} (h:v= .pointer (some a)) (c:a=b):v= .pointer (some b):=by rw[h,c]
theorem ptn {v:Value} {p:Option Addr} {a:Addr} (h:v= .pointer p) (b:p=some a):v= .pointer (some a):=by rw[h,b]
theorem Eo {v:Value} {k:IntKind} {x:Int} (h:v= .int k x) (a:0<=x):v= .int k ((x.toNat:Nat):Int):=by grind
theorem mkb {m:Nat} {n c:Int} (a:0<=n) (b:n<=c) (e:(m:Int)*c<=2 ^ 48):m*c.toNat<=2 ^ 48:=by
 grind
def G2 (k:IntKind) (a:Int):Int:=vo k (if k.signed then -1 else k.max) a
def Sz (cs:List Value) (n:Nat) (K:Prop):Prop:=cs.length=n/\K
def Ep (H:PH) (a:Addr) (n:Nat) (vs:List Value) (K:PH->Prop):Prop:=vs.length=n/\aV H a vs K
section
variable {P:Program} {ρ:Env} {T H:PH} {d:Option Nat} {ty:TypeId} {p:String} {af:Array Edge} {g:Option (Nat×Bool)} {K:Value->PH->PH->Prop}
theorem xF {t e size:Nat} {x c:Operand} {s:Sl} {m:IntKind} {i:Int} {a:Addr} (k:jX P t e size) (hi:Sw s size i a) (l:ev ρ x=Sl.v s) (b:ev ρ c= .int m i):bx P ρ ⟨d,.indexAddr t x c,ty,p,af,g⟩ H (.pointer (some a)):=by
 obtain⟨a0,f,h,j,rfl⟩:=hi
 exact Lm k h j (sla l f) b
theorem Xz {t n e size:Nat} {x c:Operand} {a0 a:Addr} {l:IntKind} {i:Int} (j:wi P t n e size) (hi:Sx n a0 size i a) (k:ev ρ x= .pointer (some a0)) (b:ev ρ c= .int l i):bx P ρ ⟨d,.indexAddr t x c,ty,p,af,g⟩ H (.pointer (some a)):=by
 obtain⟨f,h,rfl⟩:=hi
 exact JS j f h k b
theorem Ux {t e size:Nat} {x:Operand} {s r:Sl} {lo hi:Option Operand} {l h:Int} (c:jX P t e size) (b:Sy s size l h r) (f:ev ρ x=Sl.v s)
 (j:(match lo with|none=>l=0|some o=>∃k,ev ρ o= .int k l)) (i:(match hi with|none=>h=(s.len:Int)|some o=>∃k,ev ρ o= .int k h)):
 bx P ρ ⟨d,.slice t x lo hi none,ty,p,af,g⟩ H (Sl.v r):=by
 obtain⟨m,n,q,a,rfl⟩:=b
 refine Vw (l:=l.toNat) (h:=h.toNat) c f ?_ ?_ (by omega) (by omega) a
 ·grind
 grind
theorem uL {e:TypeId} {z:Value} {cs:List Value} (i:jv P e z) (f:z.cells=cs.toArray)
 (h:∀a H',Em H (row cs e) a H'->K (.pointer (some a)) T H'):dT P ρ ⟨d,.alloc e,ty,p,af,g⟩ T H K:=Sv i f λb c _=>h _ _ ⟨b,c,rfl,rfl⟩
theorem xd {e:TypeId} {x:Operand} {v:Value} {cs:List Value} (i:ev ρ x=v) (f:v.cells=cs.toArray)
 (h:∀a H',Em H (row cs e) a H'->K (.pointer (some a)) T H'):dT P ρ ⟨d,.box e x,ty,p,af,g⟩ T H K:=Xv i f λb c _=>h _ _ ⟨b,c,rfl,rfl⟩
theorem Uy {t e size m:Nat} {x y:Operand} {z:Value} {zs:List Value} {n c:Int} {k1 k2:IntKind} (o:jX P t e size) (hm:nT P e m) (i:1<=m) (u:jv P e z) (k:z.cells=zs.toArray) (j:zs.length=size) (f:1<=size)
 (q:ev ρ x= .int k1 n) (s:ev ρ y= .int k2 c) (a:sd m n c)
 (h:∀r H',wk H (row (cN c.toNat zs) e) n.toNat c.toNat r H'->K (Sl.v r) T H'):dT P ρ ⟨d,.makeSlice t x y,ty,p,af,g⟩ T H K:=
 JT o hm i u k j f (Eo q a.1) (Eo s (Int.le_trans a.1 a.2.1)) (by have:=a.1;have:=a.2.1;omega) (mkb a.1 a.2.1 a.2.2) λb l _=>h _ _ ⟨b,l,rfl,rfl⟩
theorem Uz {t e size len:Nat} {parts:Array (Nat×Operand)} {ps:List (Nat×Value)} {z:Value} {zs cs:List Value} (m:jX P t e size) (n:jv P e z) (j:z.cells=zs.toArray) (f:zs.length=size) (k:len*size≠0) (a:len*size<=2 ^ 24)
 (c:parts.toList.map (λq=>(q.1,ev ρ q.2))=ps) (hf:Instr.fill (λi=>some (i*size,size)) (cN len zs).toArray ps=some cs.toArray)
 (h:∀r H',wk H (row cs e) len len r H'->K (Sl.v r) T H'):dT P ρ ⟨d,.buildSlice t len parts,ty,p,af,g⟩ T H K:=
 Is m n j f k a c hf λb l _=>h _ _ ⟨b,l,rfl,rfl⟩
def U0 (H:PH) (s:Sl) (K:PH->Prop):Prop:=∃b off cs e,s.a=some ⟨b,off,none⟩/\H b=some (row cs e)/\K (H.bQ b (.cells cs.toArray e (cs.length,cs.length+1)))
theorem Vx {t e:TypeId} {x:Operand} {s:Sl} {f:PH->Prop} (j:P.underlying t=some (.slice e)) (k:P.underlying e=some (.int .u8)) (m:ev ρ x=Sl.v s) (h:U0 H s f) (hk:∀H',f H'->K (Sl.v s) T H'):
 dT P ρ ⟨d,.convert t t x,ty,p,af,g⟩ T H K:=⟨rfl,λw c=>by
 obtain⟨b,off,cs,i,l,a,h⟩:=h
 have hw:=c.sub b _ a
 have n:=c.lt a
 have o:w.heap[b]= .cells cs.toArray i:=by grind
 refine .inl ⟨_,T,_,w.freeze ⟨b,cs.length,none⟩ 1,?_,.put c a (o':=.cells cs.toArray i (cs.length,cs.length+1)) ?_ rfl rfl rfl,hk _ h⟩
 ·simp[execOp,m,Sl.v,l,convert,Sem.run_bind,bq j,bq k,Result.andThen,markStringish,shape,freeze,Sem.run,World.shape?,hw,Sem.run_pure]
 ·simp only[World.freeze]
  grind⟩
def zC (P:Program) (t:Nat) (pl:List (Nat×Nat)):Prop:=
 ∃fs,P.underlying t=some (.struct fs)/\fs.toList.length=pl.length/\(fs.toList.zip pl).all (λq=>q.1.offset==q.2.1&&(P.info? q.1.type).map (·.size)==some q.2.2)=true
theorem run_places {w:World}:∀(fs:List Field) (pl:List (Nat×Nat)),fs.length=pl.length->(fs.zip pl).all (λq=>q.1.offset==q.2.1&&(P.info? q.1.type).map (·.size)==some q.2.2)=true->
 (fs.mapM (m:=Sem) λf=>do pure (f.offset,←sizeOf f.type)).run P w= .ok pl w
 |[],[],_,_=>by rfl
 |f::fs,q::pl,a,h=>by
  simp only[List.zip_cons_cons,List.all_cons,Bool.and_eq_true,beq_iff_eq] at h
  have b:=run_places (w:=w) fs pl (by simpa using a) h.2
  rw[List.mapM_cons]
  simp only[Sem.run_bind,gP h.1.2,Result.andThen,Sem.run_pure,b,h.1.1]
theorem MV {t:Nat} {parts:Array (Nat×Operand)} {pl:List (Nat×Nat)} {ps:List (Nat×Value)} {z:Value} {zs cs:List Value} (j:zC P t pl) (k:jv P t z) (b:z.cells=zs.toArray)
 (l:parts.toList.map (λq=>(q.1,ev ρ q.2))=ps) (hf:Instr.fill (λi=>pl.toArray[i]?) zs.toArray ps=some cs.toArray):bx P ρ ⟨d,.build t parts,ty,p,af,g⟩ H (.agg cs.toArray):=⟨rfl,λT w n=>by
 obtain⟨fs,c,e,h⟩:=j
 have a:(parts.map λq=>(q.1,ev ρ q.2)).toList=ps:=by simp_all
 have hm:(fs.mapM (m:=Sem) λf=>do pure (f.offset,←sizeOf f.type)).run P w= .ok pl.toArray w:=by
  have:=run_places (P:=P) (w:=w) fs.toList pl e h
  rw[Array.mapM_eq_mapM_toList]
  simp_all
 simp only[execOp,Instr.build,Sem.run_bind,pQ k,Result.andThen,bq c,hm,a,b,hf,Sem.run_pure]⟩
theorem S3 {t len e size:Nat} {parts:Array (Nat×Operand)} {ps:List (Nat×Value)} {z:Value} {zs cs:List Value} (b:wi P t len e size) (f:jv P t z) (c:z.cells=zs.toArray)
 (h:parts.toList.map (λq=>(q.1,ev ρ q.2))=ps) (hf:Instr.fill (λi=>some (i*size,size)) zs.toArray ps=some cs.toArray):bx P ρ ⟨d,.build t parts,ty,p,af,g⟩ H (.agg cs.toArray):=⟨rfl,λT w j=>by
 have a:(parts.map λq=>(q.1,ev ρ q.2)).toList=ps:=by simp_all
 simp only[execOp,Instr.build,Sem.run_bind,pQ f,Result.andThen,bq b.1,gP b.2,a,c,hf,Sem.run_pure]⟩
end
end Go.Kx
end
section
namespace Go.Kx
section
variable {P:Program} {ρ:Env} {T H:PH} {d:Option Nat} {ty:TypeId} {p:String} {af:Array Edge} {g:Option (Nat×Bool)} {K:Value->PH->PH->Prop}
theorem tY (t:TypeId) (x y:Value):Op.equal t x y=Op.equalIn (9999+1) t x y:=rfl
theorem Vy {t:TypeId} {a b:Bool} {w:World} (n:Nat) (hu:P.underlying t=some .bool):(Op.equalIn (n+1) t (.bool a) (.bool b)).run P w= .ok (a==b) w:=by
 simp only[Op.equalIn,Sem.run_bind,bq hu,Result.andThen,Sem.run_pure]
theorem MW {t e:TypeId} {a:Option Addr} {w:World} (n:Nat) (hu:P.underlying t=some (.pointer e)):(Op.equalIn (n+1) t (.pointer a) (.pointer none)).run P w= .ok (Option.isNone a) w:=by
 cases a<;>simp only[Op.equalIn,Sem.run_bind,bq hu,Result.andThen,Sem.run_pure,Option.isNone]
theorem QC {t e:TypeId} {a:Option Addr} {l c:Nat} {w:World} (n:Nat) (hu:P.underlying t=some (.slice e)):(Op.equalIn (n+1) t (.slice a l c) (.slice none 0 0)).run P w= .ok (Option.isNone a) w:=by
 cases a<;>simp only[Op.equalIn,Sem.run_bind,bq hu,Result.andThen,Sem.run_pure,Option.isNone]
section
variable {x y:Operand} {tx ty2 e:TypeId} {a b:Bool} {pa:Option Addr} {l c:Nat}
theorem X1 (hu:P.underlying tx=some .bool) (f:ev ρ x= .bool a) (h:ev ρ y= .bool b):bx P ρ ⟨d,.binOp .neq tx x y ty2,ty,p,af,g⟩ H (.bool (a != b)):=⟨rfl,λT w i=>by
 simp only[execOp,f,h,eqGuard,binOp,tY,Vy 9999 hu,Sem.run_pure,Sem.run_bind,Result.andThen,reduceIte,Bool.not_true,Bool.false_eq_true,bne]⟩
theorem At (hu:P.underlying tx=some (.pointer e)) (f:ev ρ x= .pointer pa) (h:ev ρ y= .pointer none):bx P ρ ⟨d,.binOp .eql tx x y ty2,ty,p,af,g⟩ H (.bool (Option.isNone pa)):=⟨rfl,λT w i=>by
 simp only[execOp,f,h,eqGuard,binOp,tY,MW 9999 hu,Sem.run_pure,Sem.run_bind,Result.andThen,reduceIte,Bool.not_true,Bool.false_eq_true]⟩
theorem Vz (hu:P.underlying tx=some (.pointer e)) (f:ev ρ x= .pointer pa) (h:ev ρ y= .pointer none):bx P ρ ⟨d,.binOp .neq tx x y ty2,ty,p,af,g⟩ H (.bool (!Option.isNone pa)):=⟨rfl,λT w i=>by
 simp only[execOp,f,h,eqGuard,binOp,tY,MW 9999 hu,Sem.run_pure,Sem.run_bind,Result.andThen,reduceIte,Bool.not_true,Bool.false_eq_true]⟩
theorem V0 (hu:P.underlying tx=some (.slice e)) (f:ev ρ x= .slice pa l c) (h:ev ρ y= .slice none 0 0):bx P ρ ⟨d,.binOp .eql tx x y ty2,ty,p,af,g⟩ H (.bool (Option.isNone pa)):=⟨rfl,λT w i=>by
 simp only[execOp,f,h,eqGuard,binOp,tY,QC 9999 hu,Sem.run_pure,Sem.run_bind,Result.andThen,reduceIte,Bool.not_true,Bool.false_eq_true]⟩
theorem V1 (hu:P.underlying tx=some (.slice e)) (f:ev ρ x= .slice pa l c) (h:ev ρ y= .slice none 0 0):bx P ρ ⟨d,.binOp .neq tx x y ty2,ty,p,af,g⟩ H (.bool (!Option.isNone pa)):=⟨rfl,λT w i=>by
 simp only[execOp,f,h,eqGuard,binOp,tY,QC 9999 hu,Sem.run_pure,Sem.run_bind,Result.andThen,reduceIte,Bool.not_true,Bool.false_eq_true]⟩
end
end
end Go.Kx
end
section
namespace Go.Kx
section
variable {P:Program} {ρ:Env} {T H:PH} {d:Option Nat} {ty:TypeId} {p:String} {af:Array Edge} {g:Option (Nat×Bool)} {K:Value->PH->PH->Prop}
def eQ (H:PH) (s:Sl) (size:Nat):Option (List Value):=match s.a with
 |some a=>cI H a (s.len*size)
 |none=>some []
theorem nU {w:World} (c:jU H T w) {s:Sl} {size:Nat} {cs:List Value} (h:eQ H s size=some cs):(Builtin.firstCells size s.len (Sl.v s)).run P w= .ok cs.toArray w:=by
 unfold eQ at h
 cases b:s.a with
 |none=>rw[b] at h;simp at h;subst h;simp[Builtin.firstCells,Sl.v,b,Sem.run_pure]
 |some a=>rw[b] at h;simp only at h;simp only[Sl.v,b,Builtin.firstCells,tW c h]
def fh (H:PH) (e size m:Nat) (zs:List Value) (s x:Sl) (K:Sl->PH->Prop):Prop:=
 ∃ys,eQ H x size=some ys/\ys.length=x.len*size/\ys.all cg=true/\
  if s.len+x.len<=s.cap then
   (match s.a with
    |some a=>∃b off cs f,a=⟨b,off,none⟩/\H b=some (row cs f)/\off+s.len*size+ys.length<=cs.length/\K ⟨s.a,s.len+x.len,s.cap⟩ (H.bQ b (row (putAt cs (off+s.len*size) ys) f))
    |none=>ys=[]/\K ⟨s.a,s.len+x.len,s.cap⟩ H)
  else∃xs,eQ H s size=some xs/\(4*(s.len+x.len)+4096)*m<=2 ^ 48/\s.len<=s.cap/\
   ∀b c,H b=none->s.len+x.len<=c->K ⟨some ⟨b,0,none⟩,s.len+x.len,c⟩ (H.bQ b (row (xs++ys++cN (c-(s.len+x.len)) zs) e))
theorem JU (n:Nat):∀(r c:Nat),Builtin.growBy n r c<=max c (n+(n+768)/ 4):=by
 intro r
 induction r with
 |zero=>intro c;simp[Builtin.growBy];omega
 |succ r a=>
  intro c
  simp only[Builtin.growBy]
  grind
theorem Co (a b:Nat) (h:b<a):Builtin.nextslicecap a b<=4*a+4096:=by
 unfold Builtin.nextslicecap
 split
 ·omega
 ·split
  ·omega
  ·have:=JU a 4 b;omega
theorem HW {xs:Array Operand} {f:Array TypeId} {t e size m:Nat} {z:Value} {zs:List Value} {s x:Sl} {xt xe:TypeId} (l:jX P t e size) (hm:nT P e m) (X:1<=m) (hz:jv P e z) (ac:z.cells=zs.toArray) (ak:zs.length=size) (aj:1<=size)
 (N:f[0]?=some t) (u:f[1]?=some xt) (y:P.underlying xt=some (.slice xe))
 (hx:xs.toList.map (ev ρ)=[Sl.v s,Sl.v x]) {O:Sl->PH->Prop} (h:fh H e size m zs s x O) (hk:∀r H',O r H'->K (Sl.v r) T H'):
 dT P ρ ⟨d,.call ⟨.builtin .append,xs,f⟩,ty,p,af,g⟩ T H K:=⟨rfl,λw q=>by
 obtain⟨ys,I,am,aa,h⟩:=h
 have B:=qF hx
 have Z:=nU (P:=P) q I
 obtain⟨ie,o,V⟩:=rO (w:=w) hm
 have e1:∀v w',(Builtin.append_ f ty #[Sl.v s,Sl.v x]).run P w= .ok v w'->(execOp (ev ρ) ⟨d,.call ⟨.builtin .append,xs,f⟩,ty,p,af,g⟩).run P w= .ok (.value v) w':=by
  intro v w' hv
  simp only[execOp,resolve,B,Sem.run_bind,Sem.run_pure,Result.andThen,invoke,builtin]
  rw[hv]
 by_cases hle:s.len+x.len<=s.cap
 ·rw[if_pos hle] at h
  cases A:s.a with
  |none=>
   rw[A] at h
   obtain⟨rfl,J⟩:=h
   refine .inl ⟨_,T,H,w,e1 _ _ ?_,.refl q,hk _ _ J⟩
   simp[Builtin.append_,N,u,Sem.run_bind,bq l.1,Result.andThen,gP l.2,bq y,Sem.run_pure,Sl.v,Builtin.lenOf,hle,A]
   grind
  |some a=>
   rw[A] at h
   obtain⟨b,off,cs,e',rfl,hb,hlen,J⟩:=h
   obtain⟨w',h1,Q⟩:=tX (P:=P) ys q (b:=b) (off:=off+s.len*size) (i:=0) hb (by omega) aa
   refine .inl ⟨_,T,_,w',e1 _ _ ?_,Q,by simpa using hk _ _ J⟩
   simp[Builtin.append_,N,u,Sem.run_bind,bq l.1,Result.andThen,gP l.2,bq y,Sem.run_pure,Sl.v,Builtin.lenOf,hle,A]
   simp only[Sl.v] at Z
   rw[Z]
   simp[fV,h1]
 ·rw[if_neg hle] at h
  obtain⟨ad,F,R,ah,h⟩:=h
  have al:=nU (P:=P) q F
  have Y:=Co (s.len+x.len) s.cap (by omega)
  have ai:Builtin.nextslicecap (s.len+x.len) s.cap*m<=2 ^ 48:=Nat.le_trans (Nat.mul_le_mul_right m Y) R
  have ae:s.len+x.len<=2 ^ 48:=by
   have:4*(s.len+x.len)*1<=(4*(s.len+x.len)+4096)*m:=Nat.mul_le_mul (by omega) X
   omega
  have ag:¬((s.len+x.len:Int)>IntKind.i64.max):=by simp[IntKind.max,IntKind.signed,IntKind.bits];omega
  obtain⟨j,D⟩:∃j,j=w.drew:=⟨_,rfl⟩
  have n:Fr H T w H T j:=D▸ .drew q
  obtain⟨c,C⟩:∃c,c=(Question.appendCap (s.len+x.len) s.cap e).cut (w.tape w.drawn (Question.appendCap (s.len+x.len) s.cap e)):=⟨_,rfl⟩
  have S:s.len+x.len<=c:=by rw[C];simp[Question.cut]
  have U:(Question.appendCap (s.len+x.len) s.cap e).forced=false:=rfl
  have k:=n.own
  have G:=nU (P:=P) k I
  have E:=nU (P:=P) k F
  have ab:Builtin.zeroCells zs.toArray (c-(s.len+x.len))=(cN (c-(s.len+x.len)) zs).toArray:=by
   simpa[Builtin.zeroCells] using rh (c-(s.len+x.len)) zs
  have L:(typeInfo e).run P j= .ok ie j:=by
   obtain⟨i2,Q,_⟩:=rO (w:=j) hm
   unfold nT at hm
   cases hi:P.info? e with
   |none=>rw[hi] at hm;cases hm
   |some i3=>rw[Bf hi] at o ⊢; cases o;rfl
  refine .inl ⟨_,T,_,_,e1 (Sl.v ⟨some ⟨j.heap.size,0,none⟩,s.len+x.len,c⟩) (j.alloc (row (ad++ys++cN (c-(s.len+x.len)) zs) e)) ?_,n.trans (.alloc k _),hk _ _ (h _ _ k.new.1 S)⟩
  have M:¬(281474976710656<Builtin.nextslicecap (s.len+x.len) s.cap*m):=by omega
  have W:¬m=0:=by omega
  simp only[Sl.v] at E G
  simp[Builtin.append_,N,u,Sem.run_bind,bq l.1,Result.andThen,gP l.2,bq y,Sem.run_pure,Sl.v,Builtin.lenOf,hle,o,V,W,M,U,←C,←D,L,run_askRoom,E,G,pQ hz,ac,ab,nA]⟩
def nC (H:PH) (size:Nat) (dst src:Sl) (K:Int->PH->Prop):Prop:=
 ∃ys,eQ H ⟨src.a,min src.len dst.len,src.cap⟩ size=some ys/\ys.all cg=true/\
  match dst.a with
  |some a=>∃b off cs c,a=⟨b,off,none⟩/\H b=some (row cs c)/\off+ys.length<=cs.length/\K (min src.len dst.len:Nat) (H.bQ b (row (putAt cs off ys) c))
  |none=>K (min src.len dst.len:Nat) H
theorem V2 {xs:Array Operand} {c:Array TypeId} {t e size:Nat} {s x:Sl} (l:jX P t e size) (o:c[0]?=some t)
 (D:xs.toList.map (ev ρ)=[Sl.v s,Sl.v x]) {n:Int->PH->Prop} (h:nC H size s x n) (hk:∀r H',n r H'->K (.int .i64 r) T H'):
 dT P ρ ⟨d,.call ⟨.builtin .copy,xs,c⟩,ty,p,af,g⟩ T H K:=⟨rfl,λw m=>by
 obtain⟨ys,q,u,h⟩:=h
 have k:=qF D
 have E:=nU (P:=P) m q
 have e1:∀v w',(Builtin.copy_ c ty #[Sl.v s,Sl.v x]).run P w= .ok v w'->(execOp (ev ρ) ⟨d,.call ⟨.builtin .copy,xs,c⟩,ty,p,af,g⟩).run P w= .ok (.value v) w':=by
  intro v w' C
  simp only[execOp,resolve,k,Sem.run_bind,Sem.run_pure,Result.andThen,invoke,builtin]
  rw[C]
 have f:(Builtin.firstCells size (min x.len s.len) (Sl.v x)).run P w= .ok ys.toArray w:=by
  have:=E
  simp only[Sl.v] at this ⊢
  cases F:x.a<;>simp_all[Builtin.firstCells]
 simp only[Sl.v] at f
 cases j:s.a with
 |none=>
  rw[j] at h
  refine .inl ⟨_,T,H,w,e1 _ _ ?_,.refl m,hk _ _ h⟩
  simp[Builtin.copy_,o,Sem.run_bind,bq l.1,Result.andThen,gP l.2,Sem.run_pure,Sl.v,Builtin.lenOf,j,f,goInt]
 |some a=>
  rw[j] at h
  obtain⟨b,off,cs,G,rfl,B,hlen,A⟩:=h
  obtain⟨w',y,z⟩:=tX (P:=P) ys m (b:=b) (off:=off) (i:=0) B (by omega) u
  refine .inl ⟨_,T,_,w',e1 _ _ ?_,z,by simpa using hk _ _ A⟩
  simp[Builtin.copy_,o,Sem.run_bind,bq l.1,Result.andThen,gP l.2,Sem.run_pure,Sl.v,Builtin.lenOf,j,f,goInt,y]⟩
def xf (H:PH) (size:Nat) (zs:List Value) (s:Sl) (K:PH->Prop):Prop:=
 (s.len=0/\K H)∨(s.a=none/\K H)∨(s.len≠0/\∃b off cs c,s.a=some ⟨b,off,none⟩/\H b=some (row cs c)/\off+s.len*size<=cs.length/\K (H.bQ b (row (putAt cs off (cN s.len zs)) c)))
theorem S7 {xs:Array Operand} {c:Array TypeId} {t e size:Nat} {z:Value} {zs:List Value} {s:Sl} (o:jX P t e size) (J:jv P e z) (D:z.cells=zs.toArray) (A:zs.length=size) (r:c[0]?=some t) (N:zs.all cg=true)
 (I:xs.toList.map (ev ρ)=[Sl.v s]) {u:PH->Prop} (h:xf H size zs s u) (hk:∀H',u H'->K (.tuple #[]) T H'):
 dT P ρ ⟨d,.call ⟨.builtin .clear,xs,c⟩,ty,p,af,g⟩ T H K:=⟨rfl,λw n=>by
 have j:=qF I
 have e1:∀v w',(Builtin.clear_ c ty #[Sl.v s]).run P w= .ok v w'->(execOp (ev ρ) ⟨d,.call ⟨.builtin .clear,xs,c⟩,ty,p,af,g⟩).run P w= .ok (.value v) w':=by
  intro v w' G
  simp only[execOp,resolve,j,Sem.run_bind,Sem.run_pure,Result.andThen,invoke,builtin]
  rw[G]
 rcases h with⟨l,f⟩|⟨l,f⟩|⟨M,b,off,cs,O,m,F,hlen,f⟩
 ·refine .inl ⟨_,T,H,w,e1 _ _ ?_,.refl n,hk _ f⟩
  cases m:s.a<;>simp[Builtin.clear_,r,Sem.run_bind,bq o.1,Result.andThen,Sem.run_pure,Sl.v,l,m]
 ·refine .inl ⟨_,T,H,w,e1 _ _ ?_,.refl n,hk _ f⟩
  simp[Builtin.clear_,r,Sem.run_bind,bq o.1,Result.andThen,Sem.run_pure,Sl.v,l]
 ·have C:(cN s.len zs).all cg=true:=by
   simp only[cN,List.all_map,List.all_eq_true,List.mem_range,Function.comp]
   intro i hi
   have B:0<zs.length:=by grind
   have L:=Nat.mod_lt i B
   grind
  obtain⟨w',x,E⟩:=tX (P:=P) (cN s.len zs) n (b:=b) (off:=off) (i:=0) F (by rw[qG,A];omega) C
  refine .inl ⟨_,T,_,w',e1 _ _ ?_,E,by simpa using hk _ f⟩
  have k:Builtin.zeroCells zs.toArray s.len=(cN s.len zs).toArray:=by
   simpa[Builtin.zeroCells] using rh s.len zs
  cases y:s.len with
  |zero=>omega
  |succ q=>
   rw[y] at k x
   simp[Builtin.clear_,r,Sem.run_bind,bq o.1,Result.andThen,Sem.run_pure,Sl.v,y,m,pQ J,D,k,x]⟩
end
end Go.Kx
end
section
namespace Go.Kx
def qH (ops:Array Oper) (a b:Nat):Bool:=match ops[b]? with|some o=>o.after.toList.any (λe=>e.on==a&&Region.binds .any e)|none=>false
def vN (ops:Array Oper) (S j:Nat):Bool:=match ops[j]? with|some o=>o.after.toList.all (λe=> !Region.binds .any e||S.testBit e.on)|none=>false
def Fe (ops:Array Oper) (S:Nat):List Nat:=(List.range ops.size).filter λj=> !S.testBit j&&vN ops S j
def looks (ops:Array Oper) (o:Oper) (d:Nat):Bool:=(o.looksAt ops).contains d
def qI (ops:Array Oper) (i:Nat):Bool:=match ops[i]? with
 |some o=>(match o.dst with
  |some d=> !(looks ops o d)&&(List.range ops.size).all λj=>j==i||(match ops[j]? with|some a=>(!(looks ops a d)&&a.dst != some d)||qH ops i j|none=>true)
  |none=>false)
 |none=>false
def ng:Op->Bool
 | .select _ _=>true
 |_=>false
def vu (ops:Array Oper) (j:Nat):Bool:=match ops[j]? with
 |some o=> !ng o.op&&(List.range ops.size).all λi=>i==j||(match o.dst with
  |some d=>(match ops[i]? with|some a=>(!(looks ops a d)&&a.dst != some d)||qH ops i j||qH ops j i|none=>true)
  |none=>true)
 |none=>false
def xg (ops:Array Oper):Bool:=(List.range ops.size).all λi=>match ops[i]? with|some o=>o.after.toList.all (λe=> !Region.binds .any e||decide (e.on<i))|none=>true
def chain (ops:Array Oper):List Nat->Bool
 |a::b::r=>qH ops a b&&chain ops (b::r)
 |_=>true
def zE (P:Program) (a:Env) (o:Oper) (v:Value):Prop:=Dq o.op=false/\ng o.op=false/\∀w,(execOp (ev a) o).run P w= .ok (.value v) w
theorem zE.q {P:Program} {a:Env} {o:Oper} {v:Value} (h:zE P a o v) (H:PH):bx P a o H v:=⟨h.1,λ_ w _=>h.2.2 w⟩
theorem S8 {ops:Array Oper} {o:Oper} {b ρ':Env} (h:∀x,looks ops o x=true->ρ' x=b x):∀x∈o.op.operands,ev ρ' x=ev b x:=by
 intro x a
 cases x with
 |tmp t=>exact h t (by simp only[looks,List.contains_iff_mem];exact List.mem_append_left _ (List.mem_filterMap.2 ⟨.tmp t,by simpa using a,rfl⟩))
 |_=>rfl
theorem qm {ops:Array Oper} {o:Oper} {c ρ':Env} (a:ng o.op=false) (h:∀x,looks ops o x=true->ρ' x=c x):execOp (ev ρ') o=execOp (ev c) o:=
 execOp_congr o (λcs b e=>by rw[e] at a;cases a) (S8 h)
theorem tZ {ops:Array Oper} {o:Oper} {b ρ':Env} (h:∀x,looks ops o x=true->ρ' x=b x):want ops ρ' o=want ops b o:=by
 unfold want
 cases a:o.guard with
 |none=>rfl
 |some g=>
  obtain⟨j,w⟩:=g
  have:Bd ops ρ' j=Bd ops b j:=by
   unfold Bd
   cases hd:(ops[j]?).bind (·.dst) with
   |none=>rfl
   |some d=>
    have:=h d (by simp only[looks,List.contains_iff_mem,Oper.looksAt,a,hd];simp)
    grind
  grind
section
variable {P:Program} {rd:Option Nat} {n:Nat} {k:List Item} {D:List Deferred} {T H:PH} {Q:ll} {ops:Array Oper}
def I8 (P:Program) (ops:Array Oper) (a:Env) (H:PH) (L:List Nat) (i:Nat) (o:Oper):Prop:=
 ∃d,o.dst=some d/\qI ops i=true/\ng o.op=false/\((want ops a o=true/\(zE P a o (a d)∨(i∈L/\bx P a o H (a d))))∨(want ops a o=false/\a d=undef))
structure JV (P:Program) (ops:Array Oper) (S:Nat) (L:List Nat) (listed:Array Bool) (ρ ρ':Env) (H:PH):Prop where
 size:listed.size=ops.size
 sub:∀i,listed.getD i false=true->S.testBit i=true
 down:∀a b,qH ops a b=true->listed.getD b false=true->listed.getD a false=true
 cq:∀x,(∀i o,ops[i]?=some o->S.testBit i=true->listed.getD i false=false->o.dst≠some x)->ρ' x=ρ x
 EO:∀i o,ops[i]?=some o->S.testBit i=true->listed.getD i false=false->I8 P ops ρ H L i o
def Down (ops:Array Oper) (S:Nat):Prop:=∀a b,qH ops a b=true->S.testBit b=true->S.testBit a=true
def bF (P:Program) (rd:Option Nat) (n:Nat) (ops:Array Oper) (k:List Item) (S:Nat) (L:List Nat) (a:Env) (D:List Deferred) (T H:PH) (Q:ll):Prop:=
 Down ops S->∀listed ρ',JV P ops S L listed a ρ' H->∀fuel t,listed.toList.count false<=fuel->Go P rd n (.inRegion ops (Region.linearise.go .any ops fuel t listed [])::k) ρ' D T H Q
theorem MX {listed:Array Bool} {i:Nat} (hi:i<listed.size) (d e:Bool):listed.getD i d=listed.getD i e:=by grind
theorem nV (S i j:Nat):(S|||2 ^ i).testBit j=(S.testBit j||decide (i=j)):=by
 grind
theorem se (listed:Array Bool) (i j:Nat) (hi:i<listed.size):(listed.setIfInBounds i true).getD j false=(decide (i=j)||listed.getD j false):=by
 by_cases h:i=j
 ·simp_all
 simp_all
theorem Ff {j:Nat} {listed:Array Bool} (i:listed.size=ops.size):j∈Region.ready .any ops listed↔j<ops.size/\listed.getD j false=false/\∀a,qH ops a j=true->listed.getD a false=true:=by
 rw[mem_ready]
 constructor
 ·rintro⟨c,o,b,h⟩
  have d:=(Array.getElem?_eq_some_iff.1 b).1
  refine⟨d,by rw[MX (by omega) false true];exact c,λa f=>?_⟩
  simp only[qH,b,List.any_eq_true] at f
  grind
 ·rintro⟨d,c,h⟩
  obtain⟨o,b⟩:∃o,ops[j]?=some o:=⟨ops[j],by simp[d]⟩
  refine⟨by rw[MX (by omega) true false];exact c,o,b,λe he g=>h e.on ?_⟩
  simp only[qH,b,List.any_eq_true]
  grind
theorem EP {S j:Nat} (b:j<ops.size):vN ops S j=true↔∀a,qH ops a j=true->S.testBit a=true:=by
 obtain⟨o,c⟩:∃o,ops[j]?=some o:=⟨ops[j],by simp[b]⟩
 simp only[vN,qH,c,List.all_eq_true,List.any_eq_true]
 grind
theorem JW {S:Nat} {L:List Nat} {z:Env} (hD:Down ops S) (y:xg ops=true)
 (V:(∀i,i<ops.size->S.testBit i=true)->Go P rd n k z D T H Q)
 (hn:∀i o d,ops[i]?=some o->S.testBit i=true->o.dst=some d->d<n)
 (W:∀j listed ρ' fuel t,j<ops.size->S.testBit j=false->(∀a,qH ops a j=true->listed.getD a false=true)->(∀a,qH ops a j=true->S.testBit a=true)->JV P ops S L listed z ρ' H->listed.toList.count false<=fuel+1->
  Go P rd n (.inRegion ops (j::Region.linearise.go .any ops fuel t (listed.setIfInBounds j true) [])::k) ρ' D T H Q):
 ∀(fuel:Nat) (t:Nat) (listed:Array Bool) (ρ':Env),JV P ops S L listed z ρ' H->listed.toList.count false<=fuel->Go P rd n (.inRegion ops (Region.linearise.go .any ops fuel t listed [])::k) ρ' D T H Q:=by
 have fin:∀(listed:Array Bool) (ρ':Env),JV P ops S L listed z ρ' H->(∀i,i<ops.size->listed.getD i false=true)->Go P rd n (.inRegion ops []::k) ρ' D T H Q:=by
  intro listed ρ' c C
  have hρ:ρ'=z:=funext λx=>c.cq x (by grind)
  rw[hρ]
  exact .step (λb cs t w _=>rfl) (V λi hi=>c.sub i (C i hi))
 intro fuel
 induction fuel with
 |zero=>
  intro t listed ρ' c hc
  have C:∀i,i<ops.size->listed.getD i false=true:=by
   intro i hi
   have h0:listed.toList.count false=0:=by omega
   rw[List.count_eq_zero] at h0
   cases p:listed.getD i false with
   |true=>rfl
   |false=>
    refine absurd ?_ h0
    have aj:i<listed.size:=by rw[c.size];exact hi
    have:listed[i]=false:=by simp_all
    grind
  simpa[Region.linearise.go] using(by grind)
 |succ fuel ih=>
  intro t listed ρ' c hc
  simp only[Region.linearise.go]
  change Go P rd n (.inRegion ops (match(Region.ready .any ops listed)[t%(Region.ready .any ops listed).length]? with
   |some i=>Region.linearise.go .any ops fuel (t/(Region.ready .any ops listed).length) (listed.setIfInBounds i true) [i]
   |none=>[].reverse)::k) ρ' D T H Q
  cases hi:(Region.ready .any ops listed)[t%(Region.ready .any ops listed).length]? with
  |none=>
   have ai:Region.ready .any ops listed=[]:=by
    cases hr:Region.ready .any ops listed with
    |nil=>rfl
    |cons x xs=>
     rw[hr] at hi
     have ag:t%(x::xs).length<(x::xs).length:=Nat.mod_lt _ (by simp)
     grind
   refine fin listed ρ' c ?_
   intro i
   induction i using Nat.strongRecOn with
   |_ i ak=>
    intro F
    cases p:listed.getD i false with
    |true=>rfl
    |false=>
     have:i∈Region.ready .any ops listed:=by
      rw[Ff c.size]
      refine⟨F,p,λa ha=>?_⟩
      have ag:a<i:=by
       simp only[xg,List.all_eq_true,List.mem_range] at y
       have:=y i F
       obtain⟨o,r⟩:∃o,ops[i]?=some o:=(by grind)
       simp only[qH,r,List.any_eq_true] at ha
       grind
      grind
     grind
  |some j=>
   simp only[]
   rw[linearise_go_acc,List.reverse_singleton,List.singleton_append]
   obtain⟨u,ab,I⟩:=(Ff c.size).1 (List.mem_of_getElem? hi)
   cases G:S.testBit j with
   |false=>exact W j listed ρ' _ _ u G I (λa ha=>c.sub a (I a ha)) c hc
   |true=>
    obtain⟨o,r⟩:∃o,ops[j]?=some o:=⟨ops[j],by simp[u]⟩
    obtain⟨d,hd,hq,ac,af⟩:=c.EO j o r G ab
    have l:j<listed.size:=by rw[c.size];exact u
    have B:∀x,looks ops o x=true->ρ' x=z x:=λx hx=>c.cq x λi U g s e m=>by
     obtain⟨d2,Y,ah,_⟩:=c.EO i U g s e
     rw[m] at Y;cases Y
     simp only[qI,g,m,Bool.and_eq_true,List.all_eq_true,List.mem_range] at ah
     grind
    have key:∀v,v=z d->JV P ops S L (listed.setIfInBounds j true) z (bQ ρ' d v) H:=λv N=>by
     refine⟨by simp[c.size],λi hi=>?_,λa b X p=>?_,λx hx=>?_,λi U g s e=>?_⟩
     ·rw[se _ _ _ l] at hi
      by_cases h:j=i
      ·grind
      ·simp[h] at hi;exact c.sub i (by simp_all)
     ·rw[se _ _ _ l] at p ⊢
      by_cases h:j=b
      ·subst h;simp[I a X]
      ·simp[h] at p;simp[c.down a b X (by simpa using p)]
     ·by_cases R:x=d
      ·subst R;rw[eH];exact N
      ·rw[al _ _ R]
       refine c.cq x λi U g s e m=>?_
       by_cases h:j=i
       ·subst h;rw[r] at g;cases g;rw[hd] at m;cases m;exact R rfl
       ·exact hx i U g s (by rw[se _ _ _ l];simp[h];simpa using e) m
     ·rw[se _ _ _ l] at e
      by_cases h:j=i
      ·simp[h] at e
      ·simp[h] at e;exact c.EO i U g s (by simpa using e)
    have E:(listed.setIfInBounds j true).toList.count false<=fuel:=by
     have ae:listed.toList[j]'(by simpa using l)=false:=by simpa[Array.getD_eq_getD_getElem?,l] using ab
     simp only[Array.toList_setIfInBounds]
     rw[List.count_set (by simpa using l),ae]
     show listed.toList.count false- 1+0<=fuel
     omega
    intro b cs tm w p M J
    have Z:=hn j o d r G hd
    rcases af with⟨hw,N⟩|⟨hw,N⟩
    ·have O:Region.wanted o (yielded ops tm)=true:=by rw[vM M,tZ B];exact hw
     have A:bx P z o H (z d):=by rcases N with h|⟨_,h⟩;exact h.q H;exact h
     have ad:dT P ρ' o T H λv T' H'=>v=z d/\T'=T/\H'=H:=
      bx.do (v:=z d) ⟨A.1,λT w r=>by rw[qm ac B];exact A.2 T w r⟩ ⟨rfl,rfl,rfl⟩
     obtain⟨v,T',H',w',K,aa,rfl,rfl,rfl⟩:=Gz (is:=Region.linearise.go .any ops fuel (t/(Region.ready .any ops listed).length) (listed.setIfInBounds j true) []) (b:=b) (cs:=cs) (k:=k) (D:=D) r O M J ad
     rw[hd] at K
     obtain⟨f,k',t',ρ2,D',T2,H2,w2,a1,a2,a3,a4,a5⟩:=ih _ _ _ (key _ rfl) E b cs _ w' p (M.put Z _) aa.own
     exact⟨f,k',t',ρ2,D',T2,H2,w2,K.trans a1,a2,a3,aa.trans a4,a5⟩
    ·have O:Region.wanted o (yielded ops tm)=false:=by rw[vM M,tZ B];exact hw
     have K:=yx (P:=P) (b:=b) (cs:=cs) (w:=w) (k:=k) (D:=D) (is:=Region.linearise.go .any ops fuel (t/(Region.ready .any ops listed).length) (listed.setIfInBounds j true) []) r O
     rw[hd] at K
     obtain⟨f,k',t',ρ2,D',T2,H2,w2,a1,a2⟩:=ih _ _ _ (key _ N.symm) E b cs _ w p (M.put Z _) J
     exact⟨f,k',t',ρ2,D',T2,H2,w2,.head K a1,a2⟩
end
end Go.Kx
end
section
namespace Go.Kx
section
variable {P:Program} {rd:Option Nat} {n:Nat} {k:List Item} {D:List Deferred} {T H:PH} {Q:ll} {ops:Array Oper} {S:Nat} {L:List Nat} {ρ:Env}
def zy (ops:Array Oper) (n:Nat):Bool:=ops.toList.all λo=>match o.dst with|some d=>decide (d<n)|none=>true
theorem yP (h:zy ops n=true) {i:Nat} {o:Oper} {d:Nat} (a:ops[i]?=some o) (hd:o.dst=some d):d<n:=by
 simp only[zy,List.all_eq_true] at h
 grind
theorem Go.draw {id:Nat} (hm:P.follows .mixedOrders=true) (h:bF P rd n ops k 0 [] ρ D T H Q):Go P rd n (.code (.region id ops true)::k) ρ D T H Q:=by
 intro b cs t w c v e
 have s:Down ops 0:=λa b _ h=>by simp at h
 have u:JV P ops 0 [] (Array.replicate ops.size false) ρ ρ H:=by
  refine⟨by simp,λi hi=>?_,λa b _ c=>?_,by simp,by simp⟩
  ·simp only[Array.getD_eq_getD_getElem?,Array.getElem?_replicate] at hi;grind
  ·simp only[Array.getD_eq_getD_getElem?,Array.getElem?_replicate] at c;grind
 obtain⟨f,x,y,ρ',j,l,H',w',a1,m,o,q,r⟩:=h s _ ρ u ops.size (w.tape w.drawn (.order b.fn id)) (by simp[List.count_replicate]) b cs t w.drew c v (Fr.drew e).own
 refine⟨f,x,y,ρ',j,l,H',w',.head (step_lone_go ?_) a1,m,o,(Fr.drew e).trans q,r⟩
 simp[stepG,stepG.exec,mk,choose,Sem.run,Question.forced,Question.cut,Region.schedule,hm,Region.linearise]
theorem bF.done (a:xg ops=true) (l:zy ops n=true) (c:(List.range ops.size).all (λi=>S.testBit i)=true) (h:Go P rd n k ρ D T H Q):bF P rd n ops k S L ρ D T H Q:=by
 intro b listed ρ' f fuel t e
 refine JW b a (λ_=>h) (λi o d m _ hd=>yP l m hd) (λj _ _ _ _ r q _ _ _ _=>?_) fuel t listed ρ' f e
 grind
theorem I8.move {ρ2:Env} {j:PH} {l:List Nat} {i:Nat} {o:Oper} (h:I8 P ops ρ H L i o) (e:∀x,looks ops o x=true->ρ2 x=ρ x) (hd:∀d,o.dst=some d->ρ2 d=ρ d)
 (q:i∈L->i∈l) (m:i∈L->∀d,o.dst=some d->bx P ρ o H (ρ d)->bx P ρ2 o j (ρ d)):I8 P ops ρ2 j l i o:=by
 obtain⟨d,b,r,c,f⟩:=h
 refine⟨d,b,r,c,?_⟩
 rw[tZ e,hd d b]
 rcases f with⟨hw,a⟩|f
 ·refine .inl ⟨hw,?_⟩
  rcases a with a|⟨hi,a⟩
  ·exact .inl ⟨a.1,a.2.1,λw=>by rw[qm c e];exact a.2.2 w⟩
  ·exact .inr ⟨q hi,m hi d b a⟩
 ·exact .inr f
theorem C7 {i j:Nat} {o a:Oper} {d:Nat} (h:qI ops i=true) (b:ops[i]?=some o) (hd:o.dst=some d) (e:ops[j]?=some a) (c:j≠i) (f:looks ops a d=true∨a.dst=some d):qH ops i j=true:=by
 simp only[qI,b,hd,Bool.and_eq_true,List.all_eq_true,List.mem_range] at h
 grind
theorem JX {i:Nat} {o:Oper} {d:Nat} (h:qI ops i=true) (a:ops[i]?=some o) (hd:o.dst=some d):looks ops o d=false:=by
 simp only[qI,a,hd,Bool.and_eq_true] at h
 grind
theorem zE.of {o:Oper} {v:Value} (a:ng o.op=false) (h:bx P ρ o PH.none v):zE P ρ o v:=
 ⟨h.1,a,λw=>h.2 PH.none w ⟨λ_ _ h=>(by cases h),λ_ _ h=>(by cases h),λ_=>.inl rfl⟩⟩
theorem bF.quiet {i d:Nat} {o:Oper} {v:Value} {C:List Nat} (y:ops[i]?=some o) (hd:o.dst=some d) (J:S.testBit i=false) (hp:vN ops S i=true) (F:qI ops i=true) (q:ng o.op=false)
 (X:∀x,x∈L->x∈C) (c:(want ops ρ o=true/\(zE P ρ o v∨(i∈C/\bx P ρ o H v)))∨(want ops ρ o=false/\v=undef))
 (h:bF P rd n ops k (S|||2 ^ i) C (bQ ρ d v) D T H Q):bF P rd n ops k S L ρ D T H Q:=by
 intro I listed ρ' m fuel t Y
 have hi:=(Array.getElem?_eq_some_iff.1 y).1
 have ab:=(EP (S:=S) hi).1 hp
 have W:=JX F y hd
 have r:∀x,looks ops o x=true->bQ ρ d v x=ρ x:=λx G=>al _ _ (by grind)
 refine h (λa b M E=>?_) listed ρ' ⟨m.size,λj hj=>?_,m.down,λx G=>?_,λj z l f B=>?_⟩ fuel t Y
 ·rw[nV] at E ⊢
  by_cases O:i=b
  ·grind
  ·simp[O] at E;simp[I a b M E]
 ·rw[nV];simp[m.sub j hj]
 ·have V:x≠d:=λe=>by
   subst e
   refine G i o y (by simp) ?_ hd
   cases R:listed.getD i false with
   |false=>rfl
   |true=>rw[m.sub i R] at J;cases J
  rw[al _ _ V]
  exact m.cq x (by grind)
 ·by_cases u:j=i
  ·subst u
   rw[y] at l;cases l
   refine⟨d,hd,F,q,?_⟩
   rw[tZ r,eH]
   rcases c with⟨hw,c⟩|c
   ·refine .inl ⟨hw,?_⟩
    rcases c with c|⟨hm,c⟩
    ·exact .inl ⟨c.1,c.2.1,λw=>by rw[qm q r];exact c.2.2 w⟩
    ·exact .inr ⟨hm,c.1,λT w hw=>by rw[qm q r];exact c.2 T w hw⟩
   grind
  ·rw[nV] at f
   simp[Ne.symm u] at f
   have aa:¬(looks ops z d=true∨z.dst=some d):=λZ=>by
    have:=I i j (C7 F y hd l u Z) f
    grind
   have s:∀x,looks ops z x=true->bQ ρ d v x=ρ x:=λx G=>al _ _ (by grind)
   refine(m.EO j z l f B).move s (λd2 N=>al _ _ (by grind)) (X j) λ_ d2 N A=>?_
   obtain⟨_,_,_,U,_⟩:=m.EO j z l f B
   exact⟨A.1,λT w hw=>by rw[qm U s];exact A.2 T w hw⟩
theorem bF.pure {i d:Nat} {o:Oper} {v:Value} (b:ops[i]?=some o) (hd:o.dst=some d) (a:S.testBit i=false) (c:vN ops S i=true) (e:qI ops i=true)
 (hw:want ops ρ o=true) (f:zE P ρ o v) (h:bF P rd n ops k (S|||2 ^ i) L (bQ ρ d v) D T H Q):bF P rd n ops k S L ρ D T H Q:=
 .quiet b hd a c e f.2.1 (by simp) (by grind) h
theorem bF.load {i d:Nat} {o:Oper} {v:Value} (c:ops[i]?=some o) (hd:o.dst=some d) (b:S.testBit i=false) (e:vN ops S i=true) (f:qI ops i=true) (a:ng o.op=false)
 (hw:want ops ρ o=true) (j:bx P ρ o H v) (h:bF P rd n ops k (S|||2 ^ i) (i::L) (bQ ρ d v) D T H Q):bF P rd n ops k S L ρ D T H Q:=
 .quiet c hd b e f a (by grind) (by grind) h
theorem bF.skip {i d:Nat} {o:Oper} (c:ops[i]?=some o) (hd:o.dst=some d) (b:S.testBit i=false) (e:vN ops S i=true) (f:qI ops i=true) (a:ng o.op=false)
 (hw:want ops ρ o=false) (h:bF P rd n ops k (S|||2 ^ i) L (bQ ρ d undef) D T H Q):bF P rd n ops k S L ρ D T H Q:=
 .quiet c hd b e f a (by simp) (by grind) h
def Re (P:Program) (ops:Array Oper) (j:Nat) (ρ ρ2:Env) (b:PH):List Nat->List Nat->Prop
 |[],a=>a=[]
 |i::r,a=>((∃c,chain ops (i::c)=true/\(i::c).getLast?=some j)/\Re P ops j ρ ρ2 b r a)∨((∃o d,ops[i]?=some o/\o.dst=some d/\bx P ρ2 o b (ρ d))/\∃e,a=i::e/\Re P ops j ρ ρ2 b r e)
theorem Re.spec {j:Nat} {ρ ρ2:Env} {l:PH}:∀{L b:List Nat},Re P ops j ρ ρ2 l L b->∀i,i∈L->((∃c,chain ops (i::c)=true/\(i::c).getLast?=some j)∨(i∈b/\∃o d,ops[i]?=some o/\o.dst=some d/\bx P ρ2 o l (ρ d)))
 |[],_,_,_,hi=>by cases hi
 |a::r,b,h,i,hi=>by
  rcases h with⟨m,e⟩|⟨m,q,rfl,e⟩
  ·cases hi with
   |head=>exact .inl m
   |tail _ f=>exact Re.spec e i f
  ·cases hi with
   |head=>grind
   |tail _ f=>exact(Re.spec e i f).imp id (by grind)
theorem zF {listed:Array Bool} {j:Nat} (e:∀a b,qH ops a b=true->listed.getD b false=true->listed.getD a false=true) (o:∀a,qH ops a j=true->listed.getD a false=true):
 ∀(c:List Nat) (i:Nat),chain ops (i::c)=true->(i::c).getLast?=some j->i≠j->listed.getD i false=true
 |[],i,_,h,l=>by grind
 |b::c,i,f,h,l=>by
  simp only[chain,Bool.and_eq_true] at f
  by_cases m:b=j
  ·grind
  ·exact e i b f.1 (zF e o c b f.2 (by simpa using h) m)
def xG (P:Program) (rd:Option Nat) (n:Nat) (ops:Array Oper) (k:List Item) (S:Nat) (L:List Nat) (ρ:Env) (D:List Deferred) (T H:PH) (Q:ll) (j:Nat):Prop:=
 ∃o,ops[j]?=some o/\vu ops j=true/\
  ((want ops ρ o=true/\dT P ρ o T H λv b H'=>∃a,Re P ops j ρ (ku ρ o.dst v) H' L a/\bF P rd n ops k (S|||2 ^ j) a (ku ρ o.dst v) D b H' Q)∨
   (want ops ρ o=false/\bF P rd n ops k (S|||2 ^ j) L (ku ρ o.dst undef) D T H Q))
def og (P:Program) (rd:Option Nat) (n:Nat) (ops:Array Oper) (k:List Item) (S:Nat) (L:List Nat) (ρ:Env) (D:List Deferred) (T H:PH) (Q:ll):List Nat->Prop
 |[]=>True
 |j::r=>xG P rd n ops k S L ρ D T H Q j/\og P rd n ops k S L ρ D T H Q r
theorem og.spec:∀{R:List Nat},og P rd n ops k S L ρ D T H Q R->∀j,j∈R->xG P rd n ops k S L ρ D T H Q j
 |[],_,_,hi=>by cases hi
 |a::r,h,i,hi=>by
  cases hi with
  |head=>exact h.1
  |tail _ b=>exact og.spec h.2 i b
theorem N4 {i j:Nat} {o a:Oper} {d:Nat} (h:vu ops j=true) (b:ops[j]?=some o) (hd:o.dst=some d) (hi:ops[i]?=some a) (c:i≠j) (e:looks ops a d=true∨a.dst=some d):qH ops i j=true∨qH ops j i=true:=by
 simp only[vu,b,hd,Bool.and_eq_true,List.all_eq_true,List.mem_range] at h
 grind
theorem bF.step {R:List Nat} (an:xg ops=true) (hn:zy ops n=true) (hR:Fe ops S=R) (av:R≠[]) (h:og P rd n ops k S L ρ D T H Q R):bF P rd n ops k S L ρ D T H Q:=by
 intro hD listed ρ' u fuel t hc
 refine JW hD an (λaH=>?_) (λi o d A _ hd=>yP hn A hd) (λj listed ρ' fuel t X I V ay u hc=>?_) fuel t listed ρ' u hc
 ·obtain⟨j,X⟩:=List.exists_mem_of_ne_nil R av
  rw[←hR] at X
  simp only[Fe,List.mem_filter,List.mem_range,Bool.and_eq_true] at X
  grind
 ·have aC:j∈R:=by
   rw[←hR];simp only[Fe,List.mem_filter,List.mem_range,Bool.and_eq_true]
   exact⟨X,by simp[I],(EP X).2 ay⟩
  obtain⟨o,A,M,ap⟩:=h.spec j aC
  have az:ng o.op=false:=by simp only[vu,A,Bool.and_eq_true] at M;simpa using M.1
  have U:j<listed.size:=by rw[u.size];exact X
  have aI:listed.getD j false=false:=by
   cases aE:listed.getD j false with
   |false=>rfl
   |true=>rw[u.sub j aE] at I;cases I
  have aa:∀x,looks ops o x=true->ρ' x=ρ x:=λx F=>u.cq x λi l m y r ae=>by
   obtain⟨d2,O,aG,_⟩:=u.EO i l m y r
   have B:j≠i:=(by grind)
   have:=V i (C7 aG m ae A B (.inl F))
   grind
  have ad:(listed.setIfInBounds j true).toList.count false<=fuel:=by
   have aJ:listed.toList[j]'(by omega)=false:=by simp_all
   grind
  have aq:Down ops (S|||2 ^ j):=λa b Z E=>by
   rw[nV] at E ⊢
   by_cases aB:j=b
   ·grind
   ·simp[aB] at E;simp[hD a b Z E]
  have am:∀(v:Value) (J:PH) (Y:List Nat),(∀i,i∈L->i≠j->listed.getD i false=false->i∈Y)->(∀i,i∈L->i≠j->listed.getD i false=false->∀l d,ops[i]?=some l->l.dst=some d->ng l.op=false->(∀x,looks ops l x=true->ku ρ o.dst v x=ρ x)->bx P ρ l H (ρ d)->bx P (ku ρ o.dst v) l J (ρ d))->
   JV P ops (S|||2 ^ j) Y (listed.setIfInBounds j true) (ku ρ o.dst v) (ku ρ' o.dst v) J:=by
   intro v J Y aA W
   refine⟨by simp[u.size],λi hi=>?_,λa b Z E=>?_,λx F=>?_,λi l m y r=>?_⟩
   ·rw[se _ _ _ U] at hi
    rw[nV]
    by_cases s:j=i
    ·simp[s]
    ·simp[s] at hi;simp[u.sub i (by simp_all)]
   ·rw[se _ _ _ U] at E ⊢
    by_cases aD:j=b
    ·grind
    ·simp[aD] at E;simp[u.down a b Z (by simp_all)]
   ·have ao:o.dst≠some x->ρ' x=ρ x:=λav=>u.cq x λi l m y r ae=>by
     by_cases s:j=i
     ·grind
     ·exact F i l m (by grind) (by rw[se _ _ _ U];grind) ae
    cases hd:o.dst with
    |none=>exact ao (by rw[hd];simp)
    |some d=>
     simp only[ku]
     by_cases ak:x=d
     ·subst ak;rw[eH,eH]
     ·rw[al _ _ ak,al _ _ ak];grind
   ·rw[se _ _ _ U] at r
    have s:j≠i:=(by grind)
    simp[s] at r
    have z:listed.getD i false=false:=by simp_all
    rw[nV] at y
    simp[s] at y
    have aw:∀d,o.dst=some d->¬(looks ops l d=true∨l.dst=some d):=λd hd hh=>by
     rcases N4 M A hd m (Ne.symm s) hh with he|he
     ·have:=V i he;rw[z] at this;cases this
     ·have:=hD j i he y;rw[this] at I;cases I
    have C:∀x,looks ops l x=true->ku ρ o.dst v x=ρ x:=λx F=>by
     cases hd:o.dst with
     |none=>rfl
     |some d=>exact al _ _ (λe=>by subst e;exact aw x hd (.inl F))
    have aF:=u.EO i l m y z
    obtain⟨_,_,_,ai,_⟩:=u.EO i l m y z
    refine aF.move C (λd2 O=>?_) (λq=>aA i q (Ne.symm s) z) λq d2 O G=>W i q (Ne.symm s) z l d2 m O ai C G
    ·cases hd:o.dst with
     |none=>rfl
     |some d=>exact al _ _ (λe=>by subst e;exact aw d2 hd (.inr O))
  intro b cs tm w E ht ah
  rcases ap with⟨hw,ar⟩|⟨hw,ag⟩
  ·have aj:Region.wanted o (yielded ops tm)=true:=by rw[vM ht,tZ aa];exact hw
   have ax:dT P ρ' o T H _:=⟨ar.1,λw A=>by rw[qm az aa];exact ar.2 w A⟩
   obtain⟨v,T',H',w',hs,au,Y,W,ag⟩:=Gz (is:=Region.linearise.go .any ops fuel t (listed.setIfInBounds j true) []) (b:=b) (cs:=cs) (k:=k) (D:=D) A aj ht ah ax
   have N:=am v H' Y (λi q B r=>by
    rcases W.spec i q with⟨c,ab,ac⟩|⟨h1,_⟩
    ·have:=zF u.down V c i ab ac B
     rw[r] at this;cases this
    ·exact h1) λi q B r l d m hd _ _ G=>by
    rcases W.spec i q with⟨c,ab,ac⟩|⟨_,o2,d2,h1,h2,h3⟩
    ·have:=zF u.down V c i ab ac B
     rw[r] at this;cases this
    ·rw[m] at h1;cases h1;rw[hd] at h2;cases h2;exact h3
   obtain⟨f,k',t',ρ2,D',T2,J,w2,a1,a2,a3,a4,a5⟩:=ag aq _ _ N _ t ad b cs _ w' E (ht.yw (λx F=>yP hn A F) v) au.own
   exact⟨f,k',t',ρ2,D',T2,J,w2,hs.trans a1,a2,a3,au.trans a4,a5⟩
  ·have aj:Region.wanted o (yielded ops tm)=false:=by rw[vM ht,tZ aa];exact hw
   have hs:=yx (P:=P) (b:=b) (cs:=cs) (w:=w) (k:=k) (D:=D) (is:=Region.linearise.go .any ops fuel t (listed.setIfInBounds j true) []) A aj
   have N:=am undef H L (λi q _ _=>q) λi q B r l d m hd ai C G=>
    ⟨G.1,λT w hw=>by rw[qm (ops:=ops) ai C];exact G.2 T w hw⟩
   obtain⟨f,k',t',ρ2,D',T2,J,w2,a1,a2,a3,a4,a5⟩:=ag aq _ _ N _ t ad b cs _ w E (ht.yw (λx F=>yP hn A F) undef) ah
   exact⟨f,k',t',ρ2,D',T2,J,w2,.head hs a1,a2,a3,a4,a5⟩
def zz (ops:Array Oper) (S i d S2:Nat):Bool:=match ops[i]? with
 |some o=>o.dst==some d&& !S.testBit i&&vN ops S i&&qI ops i&& !ng o.op&&(S|||2 ^ i)==S2
 |none=>false
theorem C8 {i d S2:Nat} {o:Oper} {v:Value} (b:ops[i]?=some o) (a:zz ops S i d S2=true) (hw:want ops ρ o=true) (q:bx P ρ o PH.none v) (h:bF P rd n ops k S2 L (bQ ρ d v) D T H Q):bF P rd n ops k S L ρ D T H Q:=by
 simp only[zz,b,Bool.and_eq_true,Bool.not_eq_true',beq_iff_eq] at a
 obtain⟨⟨⟨⟨⟨c,e⟩,f⟩,j⟩,l⟩,m⟩:=a
 subst m
 exact .pure b c e f j hw (.of l q) h
theorem C9 {i d S2:Nat} {o:Oper} {v:Value} (b:ops[i]?=some o) (a:zz ops S i d S2=true) (hw:want ops ρ o=true) (q:bx P ρ o H v) (h:bF P rd n ops k S2 (i::L) (bQ ρ d v) D T H Q):bF P rd n ops k S L ρ D T H Q:=by
 simp only[zz,b,Bool.and_eq_true,Bool.not_eq_true',beq_iff_eq] at a
 obtain⟨⟨⟨⟨⟨c,e⟩,f⟩,j⟩,l⟩,m⟩:=a
 subst m
 exact .load b c e f j l hw q h
theorem HX {i d S2:Nat} {o:Oper} (b:ops[i]?=some o) (a:zz ops S i d S2=true) (hw:want ops ρ o=false) (h:bF P rd n ops k S2 L (bQ ρ d undef) D T H Q):bF P rd n ops k S L ρ D T H Q:=by
 simp only[zz,b,Bool.and_eq_true,Bool.not_eq_true',beq_iff_eq] at a
 obtain⟨⟨⟨⟨⟨c,e⟩,f⟩,j⟩,l⟩,m⟩:=a
 subst m
 exact .skip b c e f j l hw h
def DB (ops:Array Oper) (n S:Nat) (R:List Nat):Bool:=xg ops&&zy ops n&&Fe ops S==R&& !R.isEmpty&&R.all (vu ops)
theorem xi {R:List Nat} (a:DB ops n S R=true) (h:og P rd n ops k S L ρ D T H Q R):bF P rd n ops k S L ρ D T H Q:=by
 simp only[DB,Bool.and_eq_true,Bool.not_eq_true',beq_iff_eq] at a
 obtain⟨⟨⟨⟨b,c⟩,e⟩,f⟩,i⟩:=a
 exact .step b c e (by grind) h
theorem Bj {j S2:Nat} {o:Oper} (a:DB ops n S [j]=true) (f:ops[j]?=some o) (e:(S|||2 ^ j)=S2) (hw:want ops ρ o=true)
 (h:dT P ρ o T H λv c H'=>∃b,Re P ops j ρ (ku ρ o.dst v) H' L b/\bF P rd n ops k S2 b (ku ρ o.dst v) D c H' Q):bF P rd n ops k S L ρ D T H Q:=by
 subst e
 have he:vu ops j=true:=by simp only[DB,Bool.and_eq_true,List.all_cons] at a;exact a.2.1
 exact xi a ⟨⟨o,f,he,.inl ⟨hw,h⟩⟩,trivial⟩
theorem vO {j S2:Nat} {o:Oper} (e:ops[j]?=some o) (he:vu ops j=true) (c:(S|||2 ^ j)=S2) (hw:want ops ρ o=true)
 (h:dT P ρ o T H λv b H'=>∃a,Re P ops j ρ (ku ρ o.dst v) H' L a/\bF P rd n ops k S2 a (ku ρ o.dst v) D b H' Q):xG P rd n ops k S L ρ D T H Q j:=by
 subst c;exact⟨o,e,he,.inl ⟨hw,h⟩⟩
theorem HY (a:(xg ops&&zy ops n&&(List.range ops.size).all λi=>S.testBit i)=true) (h:Go P rd n k ρ D T H Q):bF P rd n ops k S L ρ D T H Q:=by
 simp only[Bool.and_eq_true] at a
 exact .done a.1.1 a.1.2 a.2 h
theorem QD {σ:Type} (S2:Nat) (a:List Nat) (E:Env->σ->Prop) {kk:σ->PH->Prop} {body:(σ->PH->Prop)->Prop} (h:aO kk body)
 (b:∀s H ρ,kk s H->E ρ s->bF P rd n ops k S2 a ρ D T H Q)
 (c:∀j:σ->PH->Prop,(∀s H ρ,j s H->E ρ s->bF P rd n ops k S2 a ρ D T H Q)->body j->bF P rd n ops k S L ρ D T H Q):bF P rd n ops k S L ρ D T H Q:=c kk b h
theorem N5 {b:Nat} {o:Obj} {w:World} (j:T b=none) (h:jU H (T.bQ b o) w):H b=none/\jU (H.bQ b o) T w:=by
 have i:H b=none:=(h.wZ b).resolve_right (by simp)
 refine⟨i,λc x a=>?_,λc x a=>?_,λc=>?_⟩
 ·by_cases e:c=b
  ·subst e;simp at a;subst a;exact h.tok c _ (by simp)
  ·rw[PH.al _ _ e] at a;exact h.sub c x a
 ·have e:c≠b:=(by grind)
  exact h.tok c x (by rw[PH.al _ _ e];exact a)
 ·by_cases e:c=b
  ·grind
  ·rw[PH.al _ _ e]
   rcases h.wZ c with f|f
   ·exact .inl f
   ·rw[PH.al _ _ e] at f;exact .inr f
theorem QE {b:Nat} {o:Obj} {w w':World} {H' a:PH} (h:Fr (H.bQ b o) T w H' a w'):Fr H (T.bQ b o) w H' a w':=
 ⟨h.own,h.size,λc j f i=>by
  have e:c≠b:=λe=>by simp_all
  exact h.qE c j (by rw[PH.al _ _ e];exact f) (by rwa[PH.al _ _ e] at i),h.os,h.output,h.tape⟩
theorem QF {b:Nat} {o:Obj} (r:T b=none) (h:H b=none->Go P rd n k ρ D T (H.bQ b o) Q):Go P rd n k ρ D (T.bQ b o) H Q:=by
 intro bb cs t w s v u
 obtain⟨a,c⟩:=N5 r u
 obtain⟨f,x,y,ρ',e,i,H',w',a1,j,l,m,q⟩:=h a bb cs t w s v c
 exact⟨f,x,y,ρ',e,i,H',w',a1,j,l,QE m,q⟩
theorem PH.S9 (H:PH) {a b:Nat} (x y:Obj) (h:a≠b):(H.bQ a x).bQ b y=(H.bQ b y).bQ a x:=by
 funext c
 by_cases e:c=a
 ·subst e;rw[PH.al _ _ h];simp
 ·by_cases f:c=b
  ·subst f;rw[PH.al _ _ e];simp
  ·rw[PH.al _ _ f,PH.al _ _ e,PH.al _ _ e,PH.al _ _ f]
theorem JY {a b:Nat} {o:Obj} (h:T.bQ a o b=none):b≠a/\T b=none:=by
 have e:b≠a:=λe=>by simp_all
 exact⟨e,by rwa[PH.al _ _ e] at h⟩
theorem xH {b:Nat} {o:Obj} (s:T b=none) (h:H b=none->bF P rd n ops k S L ρ D T (H.bQ b o) Q):bF P rd n ops k S L ρ D (T.bQ b o) H Q:=by
 intro r listed ρ' a fuel t j
 refine QF s λu=>h u r listed ρ' ⟨a.size,a.sub,a.down,a.cq,λi v q l m=>?_⟩ fuel t j
 have:=a.EO i v q l m
 refine this.move (by simp) (by simp) (λh=>h) λ_ d hd f=>⟨f.1,λy w hw=>?_⟩
 exact f.2 PH.none w ⟨λc x j=>hw.sub c x (by
  have e:c≠b:=(by grind)
  rw[PH.al _ _ e];exact j),λ_ _ h=>(by cases h),λ_=>.inr rfl⟩
theorem JZ {b c:Nat} {o o2:Obj} (a:b≠c) (e:T b=none) (h:H b=none->bF P rd n ops k S L ρ D (T.bQ c o2) (H.bQ b o) Q):bF P rd n ops k S L ρ D ((T.bQ b o).bQ c o2) H Q:=by
 rw[PH.S9 _ _ _ a]
 exact xH (by rw[PH.al _ _ a];exact e) h
section
variable {d:Option Nat} {ty:TypeId} {p:String} {af:Array Edge} {g:Option (Nat×Bool)} {K:Value->PH->PH->Prop}
theorem MY {e:TypeId} {z:Value} {cs:List Value} (i:jv P e z) (f:z.cells=cs.toArray)
 (h:∀b a,H b=none->T b=none->a=⟨b,0,none⟩->K (.pointer (some a)) (T.bQ b (row cs e)) H):dT P ρ ⟨d,.alloc e,ty,p,af,g⟩ T H K:=⟨rfl,λw c=>.inl
 ⟨_,_,H,_,by simp[execOp,Instr.alloc,Sem.run_bind,pQ i,Result.andThen,newVar,nA,Sem.run_pure,f],.yu c _,h _ _ c.new.1 c.new.2 rfl⟩⟩
theorem X2 {t e size m:Nat} {x y:Operand} {z:Value} {zs:List Value} {nn c:Int} {k1 k2:IntKind} (s:jX P t e size) (hm:nT P e m) (j:1<=m) (B:jv P e z) (o:z.cells=zs.toArray) (l:zs.length=size) (i:1<=size)
 (u:ev ρ x= .int k1 nn) (A:ev ρ y= .int k2 c) (a:sd m nn c)
 (h:∀b r,H b=none->T b=none->r=⟨some ⟨b,0,none⟩,nn.toNat,c.toNat⟩->K (Sl.v r) (T.bQ b (row (cN c.toNat zs) e)) H):dT P ρ ⟨d,.makeSlice t x y,ty,p,af,g⟩ T H K:=⟨rfl,λw f=>by
 have q:=run_makeSlice (P:=P) (w:=w) (k1:=k1) (k2:=k2) (n:=nn.toNat) (c:=c.toNat) s hm j B o l i (by have:=a.1;have:=a.2.1;omega) (mkb a.1 a.2.1 a.2.2)
 refine .inl ⟨_,_,H,_,?_,.yu f _,h _ _ f.new.1 f.new.2 rfl⟩
 simp only[execOp,Eo u a.1,Eo A (Int.le_trans a.1 a.2.1),Sem.run_bind,q,Result.andThen,Sem.run_pure]⟩
end
end
end Go.Kx
end
section
namespace Go.Kx
def Ext (H H':PH):Prop:=∀b o,H b=some o->H' b=some o
theorem Ext.refl (H:PH):Ext H H:=λ_ _ h=>h
theorem Ext.trans {A B C:PH} (h:Ext A B) (k:Ext B C):Ext A C:=λb o a=>k b o (h b o a)
theorem Ext.bQ {H:PH} {b:Nat} {o:Obj} (d:H b=none):Ext H (H.bQ b o):=λc x a=>by
 rw[PH.al _ _ (by grind)];exact a
theorem Ext.none {A B:PH} (h:Ext A B) {b:Nat} (a:B b=none):A b=none:=by
 cases c:A b with
 |none=>rfl
 |some o=>rw[h b o c] at a;cases a
theorem Ext.cell {A B:PH} (h:Ext A B) {a:Addr} {v:Value} (b:cellAt A a=some v):cellAt B a=some v:=by
 unfold cellAt at b ⊢
 split at b
 ·rename_i c e f d;rw[h _ _ d];exact b
 ·cases b
theorem Ext.newA {H:PH} {o:Obj} {a:Addr} {H':PH} (h:Em H o a H'):Ext H H':=by obtain⟨b,c,rfl,rfl⟩:=h;exact .bQ c
theorem Ext.nD {H:PH} {o:Obj} {n c:Nat} {r:Sl} {H':PH} (h:wk H o n c r H'):Ext H H':=by obtain⟨b,a,rfl,rfl⟩:=h;exact .bQ a
def cL {α:Type} (enc:α->Value) (H:PH) (s:Sl) (l:List α):Prop:=
 s.len=l.length/\s.len<=s.cap/\∀i x,l[i]?=some x->∃a,s.a=some a/\a.spot=none/\cellAt H (a.add i)=some (enc x)
abbrev gR (H:PH) (s:Sl) (l:List Int):Prop:=cL (Value.int .i64) H s l
abbrev Bytes (H:PH) (s:Sl) (l:List Int):Prop:=cL (Value.int .u8) H s l
theorem cL.ext {α:Type} {enc:α->Value} {A B:PH} {s:Sl} {l:List α} (h:cL enc A s l) (e:Ext A B):cL enc B s l:=
 ⟨h.1,h.2.1,λi x hi=>let⟨a,b,d,c⟩:=h.2.2 i x hi;⟨a,b,d,e.cell c⟩⟩
theorem cL.nil {α:Type} {enc:α->Value} {H:PH}:cL enc H Sl.nil ([]:List α):=⟨rfl,Nat.le_refl _,λi x h=>by simp at h⟩
theorem cL.bL {α:Type} {enc:α->Value} {H:PH} {s:Sl} {l:List α} (h:cL enc H s l):(s.len:Int)=l.length:=by rw[h.1]
theorem dm {α:Type} {enc:α->Value} {H:PH} {s:Sl} {l:List α} {i:Int} {K:α->Prop} (h:cL enc H s l) (c:0<=i) (g:i<l.length) (d:∀x,l[i.toNat]?=some x->K x):
 bX s 1 i λa=>aH enc H a K:=by
 have b:i.toNat<l.length:=by omega
 obtain⟨a,e,j,f⟩:=h.2.2 i.toNat l[i.toNat] (by simp[b])
 exact⟨_,⟨a,e,c,by rw[h.1];omega,rfl⟩,_,by simpa using f,d _ (by simp[b])⟩
theorem qJ {H:PH} {b off n:Nat} {cs:List Value} {e:TypeId} {fz:Nat×Nat} (a:H b=some (.cells cs.toArray e fz)) (h:off+n<=cs.length):cI H ⟨b,off,none⟩ n=some ((cs.drop off).take n):=by
 unfold cI
 grind
theorem yD {H:PH} {b off:Nat} {cs:List Value} {e:TypeId} {fz:Nat×Nat} (a:H b=some (.cells cs.toArray e fz)):cellAt H ⟨b,off,none⟩=cs[off]?:=by
 simp[cellAt,a]
theorem cL.cells {α:Type} {enc:α->Value} {H:PH} {s:Sl} {l:List α} (h:cL enc H s l):eQ H s 1=some (l.map enc):=by
 unfold eQ
 cases j:s.a with
 |none=>
  have:l=[]:=by
   cases l with
   |nil=>rfl
   |cons x l=>obtain⟨a,d,_⟩:=h.2.2 0 x rfl;rw[j] at d;cases d
  grind
 |some a=>
  simp only[Nat.mul_one,h.1]
  unfold cI
  by_cases r:l.length=0
  ·grind
  ·rw[if_neg r]
   have u:∀i,i<l.length->∃x,l[i]?=some x/\cellAt H (a.add i)=some (enc x):=λi hi=>by
    obtain⟨q,d,v,g⟩:=h.2.2 i l[i] (by simp[hi])
    rw[j] at d;cases d
    exact⟨l[i],by simp[hi],g⟩
   obtain⟨x0,_,b⟩:=u 0 (by omega)
   obtain⟨q,k,n,_⟩:=h.2.2 0 l[0] (by simp)
   rw[j] at k;cases k
   rw[add_zero'] at b
   have t:=b
   unfold cellAt at b
   cases p:H a.block with
   |none=>rw[p] at b;cases b
   |some o=>
    cases o with
    |cells c e f=>
     have m:∀i x,l[i]?=some x->c[a.off+i]?=some (enc x):=λi x hi=>by
      obtain⟨q,d,_,g⟩:=h.2.2 i x hi
      rw[j] at d;cases d
      unfold cellAt at g
      rw[sZ,p] at g
      simp only[vC _ _ n,Du] at g
      simpa using g
     have hle:a.off+l.length<=c.size:=by
      have d:=m (l.length- 1) l[l.length- 1] (by simp)
      have:=(Array.getElem?_eq_some_iff.1 d).1
      omega
     simp only[n,Option.isSome_none,Bool.false_eq_true,if_false,hle,if_true,Option.some.injEq]
     apply List.ext_getElem?
     intro i
     rw[List.getElem?_take]
     by_cases hi:i<l.length
     ·rw[if_pos hi,List.getElem?_drop,Array.getElem?_toList,m i l[i] (by simp[hi]),List.getElem?_map,List.getElem?_eq_getElem hi];rfl
     ·rw[if_neg hi,List.getElem?_eq_none (by simp;omega)]
    |_=>rw[p] at b;cases b
def dX {α:Type} (enc:α->Value) (H:PH) (s:Sl) (l:List α):Prop:=
 (s=Sl.nil/\l=[])∨∃b sp e,s=⟨some ⟨b,0,none⟩,l.length,l.length+sp.length⟩/\H b=some (row (l.map enc++sp) e)
def Sl.has (s:Sl) (b:Nat):Prop:=∃a,s.a=some a/\a.block=b
theorem dX.list {α:Type} {enc:α->Value} {H:PH} {s:Sl} {l:List α} (h:dX enc H s l):cL enc H s l:=by
 rcases h with⟨rfl,rfl⟩|⟨b,sp,e,rfl,c⟩
 ·exact .nil
 ·refine⟨rfl,by simp,λi x hi=>⟨_,rfl,rfl,?_⟩⟩
  have a:i<l.length:=(by grind)
  rw[fV,yD c,Nat.zero_add,List.getElem?_append_left (by simpa using a),List.getElem?_map,hi];rfl
theorem dX.ext {α:Type} {enc:α->Value} {A B:PH} {s:Sl} {l:List α} (h:dX enc A s l) (d:Ext A B):dX enc B s l:=by
 rcases h with h|⟨b,sp,e,a,c⟩
 ·exact .inl h
 ·exact .inr ⟨b,sp,e,a,d _ _ c⟩
theorem dX.iI {α:Type} {enc:α->Value} {H H':PH} {s:Sl} {l:List α} {e:TypeId} (h:wk H (row (l.map enc) e) l.length l.length s H'):dX enc H' s l:=by
 obtain⟨b,a,rfl,rfl⟩:=h
 exact .inr ⟨b,[],e,by simp,by simp⟩
theorem G3 {α:Type} {enc:α->Value} {H:PH} {e m:Nat} {zs:List Value} {s x:Sl} {l ys:List α} {K:Sl->PH->Prop} (v:dX enc H s l) (d:cL enc H x ys) (i:∀y,cg (enc y)=true) (C:zs.length=1)
 (z:(4*(l.length+ys.length)+4096)*m<=2 ^ 48)
 (p:∀r H',dX enc H' r (l++ys)->(∀c o,H c=some o->¬s.has c->H' c=some o)->(∀c,r.has c->s.has c∨H c=none)->K r H'):fh H e 1 m zs s x K:=by
 refine⟨ys.map enc,d.cells,by simp[d.1],by simp[i],?_⟩
 have g:=v.list
 split
 ·rename_i hle
  rcases v with⟨rfl,rfl⟩|⟨b,sp,q,rfl,t⟩
  ·have B:ys=[]:=by
    have:=d.1;simp at hle;rw[hle] at this
    exact List.length_eq_zero_iff.1 this.symm
   subst B
   refine⟨rfl,p _ _ (.inl ⟨by simp[d.1],rfl⟩) (λc o h _=>h) λc i=>?_⟩
   obtain⟨a,j,_⟩:=i;cases j
  ·simp only at hle ⊢
   have D:ys.length<=sp.length:=by rw[d.1] at hle;omega
   refine⟨b,0,_,q,rfl,t,by simp;omega,p _ _ (.inr ⟨b,sp.drop ys.length,q,?_,?_⟩) (λc o i A=>?_) λc i=>?_⟩
   ·simp[d.1];omega
   ·simp only[PH.eH,Nat.zero_add,Nat.mul_one]
    rw[kK _ _ _ (by simp;omega)]
    have e1:List.take l.length (l.map enc++sp)=l.map enc:=by rw[List.take_append_of_le_length (by simp),List.take_of_length_le (by simp)]
    have e2:List.drop (l.length+(ys.map enc).length) (l.map enc++sp)=sp.drop ys.length:=by
     rw[List.drop_append,List.drop_of_length_le (by simp),List.nil_append,List.length_map,List.length_map,Nat.add_sub_cancel_left]
    rw[e1,e2];simp
   ·rw[PH.al _ _ (λe=>A ⟨_,rfl,e.symm⟩)];exact i
   ·obtain⟨a,j,k⟩:=i;cases j;exact .inl ⟨_,rfl,k⟩
 ·refine⟨l.map enc,g.cells,by rw[g.1,d.1];exact z,g.2.1,λb c n u=>?_⟩
  refine p _ _ (.inr ⟨b,cN (c-(s.len+x.len)) zs,e,?_,?_⟩) (λw o f _=>?_) λw f=>?_
  ·rw[qG,C,List.length_append,g.1,d.1];simp;rw[g.1,d.1] at u;omega
  ·simp
  ·rw[PH.al _ _ (λe=>by subst e;rw[n] at f;cases f)];exact f
  ·obtain⟨a,j,k⟩:=f;cases j;subst k;exact .inr n
theorem aM {c:Bool} {a b:Prop} (d:c=true->a) (e:c=false->b):aL c a b:=⟨d,e⟩
theorem aE {σ:Type} {k:σ->PH->Prop} {body:(σ->PH->Prop)->Prop} (h:body k):aO k body:=h
theorem Bk {σ:Type} {body:σ->PH->(σ->PH->Prop)->Prop} {s0:σ} {a:PH} (J:Nat->σ->PH->Prop) (b:Nat) (d:J b s0 a)
 (h:∀m s H (again:σ->PH->Prop),J m s H->(∀m' c H',m'<m->J m' c H'->again c H')->body s H again):bw body s0 a:=
 ⟨J,⟨b,d⟩,by grind⟩
theorem av {σ:Type} {body:σ->PH->(σ->PH->Prop)->Prop} {s0:σ} {b:PH} (n:Nat) (J:Nat->σ->PH->Prop) (g:J 0 s0 b)
 (h:∀k s H (again:σ->PH->Prop),k<=n->J k s H->(k<n->∀a H',J (k+1) a H'->again a H')->body s H again):bw body s0 b:=
 Bk (λm s H=>∃k,k<=n/\m=n-k/\J k s H) n (by grind) λm s H again ⟨k,hk,hm,c⟩ d=>
  h k s H again hk c λf a H' e=>d (n-(k+1)) a H' (by omega) (by grind)
end Go.Kx
end
section
namespace Go.Kx
theorem TA (a:Addr) (m n:Nat) (h:a.spot=none):(a.add m).add n=a.add (m+n):=by
 obtain⟨b,o,sp⟩:=a
 simp only at h;subst h
 rw[fV,fV,fV,Nat.add_assoc]
def wm (s:Sl) (H H':PH):Prop:=∀c o,H c=some o->¬s.has c->H' c=some o
def kz (a:PH) (s:Sl):Prop:=∀c,s.has c->a c=none
theorem Ext.qE {a H H':PH} {s:Sl} (h:Ext a H) (k:wm s H H') (o:kz a s):Ext a H':=λc x b=>k c x (h c x b) λd=>by rw[o c d] at b;cases b
theorem kz.iI {H H':PH} {o:Obj} {n c:Nat} {r:Sl} (h:wk H o n c r H'):kz H r:=by
 obtain⟨b,f,rfl,rfl⟩:=h
 rintro c ⟨a,e,d⟩;cases e;subst d;exact f
theorem kz.ext {A B:PH} {s:Sl} (h:kz B s) (x:Ext A B):kz A s:=λc a=>x.none (h c a)
variable {α:Type} {enc:α->Value}
theorem X4 {H:PH} {e m:Nat} {x:α} {n:Int} {K:Sl->PH->Prop} (b:0<=n) (hm:(m:Int)*n<=2 ^ 48)
 (c:∀r H',Ext H H'->kz H r->dX enc H' r (List.replicate n.toNat x)->K r H'):zA H e m [enc x] n n K:=by
 refine⟨⟨b,Int.le_refl _,hm⟩,λr H' a=>c r H' (.nD a) (.iI a) ?_⟩
 have e1:cN n.toNat [enc x]=(List.replicate n.toNat x).map enc:=by rw[xc,List.map_replicate]
 rw[e1] at a
 exact dX.iI (l:=List.replicate n.toNat x) (e:=e) (by simpa using a)
theorem ni {H:PH} {s:Sl} {l:List α} {lo hi:Int} {K:Sl->Prop} (h:cL enc H s l) (j:0<=lo) (k:lo<=hi) (q:hi<=l.length)
 (m:∀r,cL enc H r ((l.drop lo.toNat).take (hi.toNat-lo.toNat))->(∀c,r.has c->s.has c)->K r):kv s 1 lo hi K:=by
 have t:=h.1
 have n:=h.2.1
 refine⟨_,⟨j,k,by omega,n,rfl⟩,m _ ⟨?_,?_,?_⟩ ?_⟩
 ·simp only[Sl.cut,List.length_take,List.length_drop];omega
 ·simp only[Sl.cut];omega
 ·intro i x hi
  rw[List.getElem?_take] at hi
  split at hi
  ·rw[List.getElem?_drop] at hi
   obtain⟨a,b,f,o⟩:=h.2.2 _ _ hi
   have p:=(by omega)
   refine⟨a.add lo.toNat,?_,?_,?_⟩
   ·simp only[Sl.cut,b,Nat.mul_one]
    grind
   ·rw[vC _ _ f]
   ·rw[TA _ _ _ f];exact o
  ·cases hi
 ·rintro c ⟨a,b,d⟩
  simp only[Sl.cut] at b
  split at b
  ·exact⟨a,b,d⟩
  ·rw[Option.map_eq_some_iff] at b
   obtain⟨g,e,rfl⟩:=b
   exact⟨g,e,by rw[←d,sZ]⟩
theorem HZ (a:∀y,cg (enc y)=true) (l:List α):(l.map enc).all cg=true:=by simp[a]
theorem V3 {H:PH} {s:Sl} {l:List α} {i:Int} {x:α} {K:PH->Prop} (n:dX enc H s l) (f:0<=i) (g:i<l.length) (k:cg (enc x)=true)
 (h:∀H',dX enc H' s (l.set i.toNat x)->wm s H H'->K H'):bX s 1 i λa=>aV H a [enc x] K:=by
 rcases n with⟨rfl,rfl⟩|⟨b,sp,e,rfl,j⟩
 ·grind
 ·refine⟨_,⟨_,rfl,f,by simpa using g,rfl⟩,b,i.toNat,l.map enc++sp,e,by simp[fV],j,by simp;omega,by simp[k],h _ (.inr ⟨b,sp,e,by simp,?_⟩) ?_⟩
  ·simp only[PH.eH]
   rw[putAt,putAt,List.map_set,List.set_append_left _ _ (by simp;omega)]
  ·intro c o d m
   rw[PH.al _ _ (λe=>m ⟨_,rfl,e.symm⟩)];exact d
theorem TB {H:PH} {s x:Sl} {l ys:List α} {K:Int->PH->Prop} (k:dX enc H s l) (f:cL enc H x ys) (p:∀y,cg (enc y)=true)
 (g:∀H',dX enc H' s (ys.take l.length++l.drop ys.length)->wm s H H'->K (min ys.length l.length:Nat) H'):nC H 1 s x K:=by
 have q:=k.list.1
 have m:=f.1
 have d:cL enc H ⟨x.a,min x.len s.len,x.cap⟩ (ys.take l.length):=by
  refine⟨by simp;omega,by have:=f.2.1;grind,λi y hi=>?_⟩
  rw[List.getElem?_take] at hi
  split at hi
  ·exact f.2.2 i y hi
  ·cases hi
 refine⟨(ys.take l.length).map enc,d.cells,HZ p _,?_⟩
 rw[q,m]
 rcases k with⟨rfl,rfl⟩|⟨b,sp,e,rfl,n⟩
 ·exact g H (by simp[dX]) λc o h _=>h
 ·refine⟨b,0,_,e,rfl,n,by simp;omega,g _ (.inr ⟨b,sp,e,?_,?_⟩) ?_⟩
  ·simp;omega
  ·simp only[PH.eH]
   rw[kK _ _ _ (by simp;omega)]
   have e1:List.take 0 (l.map enc++sp)++(ys.take l.length).map enc++List.drop (0+((ys.take l.length).map enc).length) (l.map enc++sp)=(ys.take l.length++l.drop ys.length).map enc++sp:=by
    rw[List.take_zero,List.nil_append,Nat.zero_add,List.length_map,List.length_take,List.drop_append_of_le_length (by simp;omega),List.map_append,List.append_assoc]
    congr 2
    rw[←List.map_drop]
    congr 1
    by_cases h:l.length<=ys.length
    ·simp_all
    grind
   rw[e1]
  ·intro c o j r
   rw[PH.al _ _ (λe=>r ⟨_,rfl,e.symm⟩)];exact j
end Go.Kx
end
section
namespace Go.Kx
section
variable {P:Program} {rd:Option Nat} {n:Nat} {k:List Item} {D:List Deferred} {T H:PH} {Q:ll} {ops:Array Oper} {S:Nat} {L:List Nat} {ρ:Env}
theorem Ln {b:List Nat} (l:L.all (λx=>b.contains x)=true) (h:bF P rd n ops k S b ρ D T H Q):bF P rd n ops k S L ρ D T H Q:=by
 intro f listed ρ' a fuel t g
 refine h f listed ρ' ⟨a.size,a.sub,a.down,a.cq,λi j e c d=>?_⟩ fuel t g
 refine(a.EO i j e c d).move (by simp) (by simp) (λhi=>?_) (by simp)
 grind
def Fg (t:Array Value):ResultVar->Sem Value
 | .tmp x=>pure (t.getD x undef)
 | .cell a ty=>do loadVar ty (←asAddr (t.getD a undef))
def RV (P:Program) (ρ:Env) (H:PH) (r:ResultVar) (v:Value):Prop:=∀n t T w,uC n ρ t->jU H T w->(Fg t r).run P w= .ok v w
theorem X5 {a:Tmp} {v:Value} (c:ρ a=v):RV P ρ H (.tmp a) v:=λn t T w b d=>by
 have:=b.2 a
 rw[c] at this
 simp only[Fg,Sem.run_pure,this]
theorem V4 {a:Tmp} {ty:TypeId} {b:Addr} {v:Value} (e:xa P ty) (c:ρ a= .pointer (some b)) (g:cellAt H b=some v):RV P ρ H (.cell a ty) v:=λn t T w f d=>by
 have:=f.2 a
 rw[c] at this
 simp only[Fg,this,asAddr,Sem.run_bind,Sem.run_pure,Result.andThen,loadVar,vp e,Bool.false_eq_true,if_false,run_load d g]
theorem TC {a:Tmp} {ty m:TypeId} {b:Addr} {cs:List Value} (c:G0 P ty m) (d:ρ a= .pointer (some b)) (g:cI H b m=some cs):RV P ρ H (.cell a ty) (.agg cs.toArray):=λn t T w f e=>by
 have:=f.2 a
 rw[d] at this
 simp only[Fg,this,asAddr,Sem.run_bind,Sem.run_pure,Result.andThen,loadVar,Cm c,if_true,gP c.2,tW e g]
theorem Bl (fn:Func) (t:Array Value):results fn t=(do let vs ←fn.results.mapM (Fg t);pure (if h:vs.size=1 then vs[0] else .tuple vs)):=by
 rfl
theorem MZ {fn:Func} {r:ResultVar} {v:Value} (h:fn.results= #[r]) (c:RV P ρ H r v):jj P fn ρ H v:=λn t T w b a=>by
 rw[Bl,h]
 simp[Sem.run_bind,c n t T w b a,Result.andThen,Sem.run_pure]
theorem Mb {fn:Func} {r s:ResultVar} {u v:Value} (h:fn.results= #[r,s]) (hu:RV P ρ H r u) (c:RV P ρ H s v):jj P fn ρ H (.tuple #[u,v]):=λn t T w b a=>by
 rw[Bl,h]
 simp[Sem.run_bind,hu n t T w b a,c n t T w b a,Result.andThen,Sem.run_pure]
theorem Mc {fn:Func} {r s q:ResultVar} {u v x:Value} (h:fn.results= #[r,s,q]) (hu:RV P ρ H r u) (c:RV P ρ H s v) (d:RV P ρ H q x):jj P fn ρ H (.tuple #[u,v,x]):=λn t T w b a=>by
 rw[Bl,h]
 simp[Sem.run_bind,hu n t T w b a,c n t T w b a,d n t T w b a,Result.andThen,Sem.run_pure]
def aT {α:Type} (enc:α->List Value) (H:PH) (a:Addr) (n:Nat) (K:α->Prop):Prop:=∃x,cI H a n=some (enc x)/\K x
end
end Go.Kx
end
section
namespace Go.Kx
def aa (H:PH) (a:Addr) (cs:List Value):Prop:=a.off=0/\a.spot=none/\∃e,H a.block=some (row cs e)
theorem aa.ext {A B:PH} {a:Addr} {cs:List Value} (h:aa A a cs) (x:Ext A B):aa B a cs:=⟨h.1,h.2.1,let⟨e,he⟩:=h.2.2;⟨e,x _ _ he⟩⟩
theorem aa.iI {H H':PH} {cs:List Value} {e:TypeId} {a:Addr} (h:Em H (row cs e) a H'):aa H' a cs:=by
 obtain⟨b,c,rfl,rfl⟩:=h
 exact⟨rfl,rfl,e,PH.eH _ _ _⟩
theorem Em.fresh {H H':PH} {o:Obj} {a:Addr} (h:Em H o a H'):H a.block=Option.none:=by obtain⟨b,c,rfl,rfl⟩:=h;exact c
theorem aa.addr {H:PH} {a:Addr} {cs:List Value} (h:aa H a cs):a=⟨a.block,0,none⟩:=by
 obtain⟨b,o,s⟩:=a
 have c:=h.1;have d:=h.2.1
 grind
theorem aa.cell {H:PH} {a:Addr} {cs:List Value} {i:Nat} {v:Value} (h:aa H a cs) (hi:cs[i]?=some v):cellAt H (a.add i)=some v:=by
 obtain⟨e,he⟩:=h.2.2
 rw[h.addr,fV,yD he,Nat.zero_add];exact hi
theorem aa.U1 {H:PH} {a:Addr} {cs:List Value} {i:Nat} {v:Value} (h:aa H a cs) (hi:cs[i]?=some v):cellAt H ((a.add 0).add i)=some v:=by rw[add_zero'];exact h.cell hi
theorem aa.all {H:PH} {a:Addr} {cs:List Value} {n:Nat} (h:aa H a cs) (b:n=cs.length):cI H a n=some cs:=by
 obtain⟨e,he⟩:=h.2.2
 rw[h.addr,qJ he (by omega),b];simp
theorem aa.X6 {H:PH} {a:Addr} {cs:List Value} {n:Nat} (h:aa H a cs) (b:n=cs.length):cI H (a.add 0) n=some cs:=by rw[add_zero'];exact h.all b
theorem kb {H:PH} {cs:List Value} {e:TypeId} {K:Addr->PH->Prop} (h:∀a H',Ext H H'->aa H' a cs->H a.block=Option.none->K a H'):aj H (row cs e) K:=
 λa H' b=>h a H' (.newA b) (.iI b) b.fresh
theorem aX {α:Type} {enc:α->Value} {H:PH} {a:Addr} {cs:List Value} {i:Nat} {x:α} {K:α->Prop} (h:aa H a cs) (hi:cs[i]?=some (enc x)) (b:K x):aH enc H (a.add i) K:=⟨x,h.cell hi,b⟩
theorem oZ {α:Type} {enc:α->Value} {H:PH} {a:Addr} {cs:List Value} {i:Nat} {x:α} {K:α->Prop} (h:aa H a cs) (hi:cs[i]?=some (enc x)) (b:K x):aH enc H ((a.add 0).add i) K:=⟨x,h.U1 hi,b⟩
theorem iK {α:Type} {enc:α->List Value} {H:PH} {a:Addr} {n:Nat} {x:α} {K:α->Prop} (h:aa H a (enc x)) (c:n=(enc x).length) (b:K x):aT enc H a n K:=⟨x,h.all c,b⟩
theorem TD {α:Type} {enc:α->List Value} {H:PH} {a:Addr} {n:Nat} {x:α} {K:α->Prop} (h:aa H a (enc x)) (c:n=(enc x).length) (b:K x):aT enc H (a.add 0) n K:=⟨x,h.X6 c,b⟩
theorem dE {H:PH} {a:Addr} {cs:List Value} {i:Nat} {v:Value} {K:Prop} (h:aa H a cs) (hi:cs[i]?=some v) (b:K):ay H (a.add i) v K:=⟨h.cell hi,b⟩
theorem DC {H:PH} {a:Addr} {cs:List Value} {i:Nat} {v:Value} {K:Prop} (h:aa H a cs) (hi:cs[i]?=some v) (b:K):ay H ((a.add 0).add i) v K:=⟨h.U1 hi,b⟩
def td (b:Nat) (H H':PH):Prop:=∀c o,H c=some o->c≠b->H' c=some o
theorem Ext.Dv {a H H':PH} {b:Nat} (h:Ext a H) (k:td b H H') (e:a b=Option.none):Ext a H':=λc o d=>k c o (h c o d) (by grind)
theorem uM {H:PH} {a:Addr} {cs vs:List Value} {K:PH->Prop} (h:aa H a cs) (f:vs.length=cs.length) (i:vs.all cg=true) (b:∀H',aa H' a vs->td a.block H H'->K H'):aV H a vs K:=by
 obtain⟨e,he⟩:=h.2.2
 refine⟨a.block,0,cs,e,h.addr,he,by omega,i,b _ ⟨h.1,h.2.1,e,?_⟩ λc o d g=>?_⟩
 ·rw[PH.eH,kK _ _ _ (by omega)]
  simp[f]
 ·rw[PH.al _ _ g];exact d
theorem tf {H:PH} {a:Addr} {cs:List Value} {i:Nat} {v:Value} {K:PH->Prop} (h:aa H a cs) (hi:i<cs.length) (g:cg v=true) (b:∀H',aa H' a (cs.set i v)->td a.block H H'->K H'):aV H (a.add i) [v] K:=by
 obtain⟨e,he⟩:=h.2.2
 refine⟨a.block,i,cs,e,by rw[h.addr,fV];simp,he,by simp;omega,by simp[g],b _ ⟨h.1,h.2.1,e,?_⟩ λc o d f=>?_⟩
 ·rw[PH.eH];simp[putAt]
 ·rw[PH.al _ _ f];exact d
theorem mi {a:Addr} {n size:Nat} {i:Int} {K:Addr->Prop} (b:0<=i) (c:i<n) (d:K (a.add (i.toNat*size))):iH n a size i K:=⟨_,⟨b,c,rfl⟩,d⟩
theorem aD {a:Addr} {K:Addr->Prop} (b:K a):aP (some a) K:=⟨a,rfl,b⟩
theorem aW {c:Bool} {a b:Prop} (h:c=true) (d:a):aL c a b:=aM (λ_=>d) (by grind)
theorem aF {c:Bool} {a b:Prop} (h:c=false) (d:b):aL c a b:=aM (by grind) (λ_=>d)
end Go.Kx
end
section
namespace Go.Kx
section
variable {P:Program} {ρ:Env} {T H:PH} {d:Option Nat} {ty:TypeId} {p:String} {af:Array Edge} {g:Option (Nat×Bool)} {K:Value->PH->PH->Prop}
def TE (P:Program) (n:Nat) (t:TypeId) (x y:Value) (b:Bool):Prop:=∀w:World,(Op.equalIn n t x y).run P w= .ok b w
def EqAt (P:Program) (n:Nat) (t off:Nat) (xs ys:List Value) (b:Bool):Prop:=
 ∃x y,(∀w:World,(part t xs.toArray off).run P w= .ok x w)/\(∀w:World,(part t ys.toArray off).run P w= .ok y w)/\TE P n t x y b
theorem ER {t off:Nat} {xs:List Value} {v:Value} (a:xa P t) (h:xs[off]?=some v) (w:World):(part t xs.toArray off).run P w= .ok v w:=by
 simp[part,Sem.run_bind,vp a,Result.andThen,h,Sem.run_pure]
theorem TF {n t off:Nat} {xs ys:List Value} {k:IntKind} {a b:Int} (hu:P.underlying t=some (.int k)) (c:xs[off]?=some (.int k a)) (e:ys[off]?=some (.int k b)):EqAt P (n+1) t off xs ys (a==b):=
 ⟨_,_,ER ⟨_,hu,trivial⟩ c,ER ⟨_,hu,trivial⟩ e,λw=>by simp[Op.equalIn,Sem.run_bind,bq hu,Result.andThen,Sem.run_pure]⟩
def qn (P:Program) (n:Nat) (xs ys:List Value):List Field->List Bool->Prop
 |[],bs=>bs=[]
 |f::fs,bs=>∃b r,bs=b::r/\f.name≠ "_"/\EqAt P n f.type f.offset xs ys b/\qn P n xs ys fs r
theorem V5 {n:Nat} {xs ys:List Value} {f:Field} {fs:List Field} {b:Bool} {r:List Bool} (c:f.name≠ "_") (h:EqAt P n f.type f.offset xs ys b) (a:qn P n xs ys fs r):qn P n xs ys (f::fs) (b::r):=⟨b,r,rfl,c,h,a⟩
def uN:List Bool->Bool
 |[]=>true
 |[b]=>b
 |b::r=>b&&uN r
theorem ES (b:Bool) (r:List Bool):uN (b::r)=(b&&uN r):=by cases r<;>simp[uN]
theorem Lp {n t:Nat} {fs:Array Field} {xs ys:List Value} {bs:List Bool} (hu:P.underlying t=some (.struct fs)) (q:P.stoodInHeld t=false) (h:qn P n xs ys fs.toList bs):TE P (n+1) t (.agg xs.toArray) (.agg ys.toArray) (uN bs):=by
 intro w
 unfold Op.equalIn
 have m:Sem.run P program w= .ok P w:=rfl
 simp only[Sem.run_bind,bq hu,Result.andThen,m,q,Bool.false_eq_true,if_false]
 rw[←Array.forIn_toList]
 have key:∀(fs:List Field) (bs:List Bool),qn P n xs ys fs bs->Sem.run P (forIn fs ((none:Option Bool),()) λf __s=>if f.name≠ "_" then do
  let a ←part f.type xs.toArray f.offset
  let b ←part f.type ys.toArray f.offset
  let c ←Op.equalIn n f.type a b
  if(!c)=true then pure (ForInStep.done (some false,())) else pure (ForInStep.yield (none,()))
  else pure (ForInStep.yield (none,()))) w= .ok ((if uN bs then none else some false),()) w:=by
  intro fs
  induction fs with
  |nil=>intro bs k;cases k;rfl
  |cons f fs s=>
   rintro bs ⟨b,r,rfl,l,⟨x,y,e,i,j⟩,o⟩
   rw[List.forIn_cons]
   simp only[l,ne_eq,not_false_eq_true,if_true,Sem.run_bind,e,i,j w,Result.andThen]
   cases b
   ·simp[Sem.run_pure,ES]
   ·simp only[Bool.not_true,Bool.false_eq_true,if_false,Sem.run_pure]
    rw[s r o,ES,Bool.true_and]
 rw[key _ _ h]
 cases uN bs<;>rfl
section
variable {x y:Operand} {tx ty2:TypeId} {xs ys:List Value} {b:Bool}
theorem QG {t:TypeId} {op:BinOp} {xs ys:Array Value} {w:World} (a:P.eqGuardType P.depth t=false):(eqGuard op t x y (.agg xs) (.agg ys)).run P w= .ok () w:=by
 have c:Sem.run P program w= .ok P w:=rfl
 unfold eqGuard
 simp_all
theorem X7 (a:P.eqGuardType P.depth tx=false) (h:TE P (9999+1) tx (.agg xs.toArray) (.agg ys.toArray) b) (c:ev ρ x= .agg xs.toArray) (e:ev ρ y= .agg ys.toArray):bx P ρ ⟨d,.binOp .neq tx x y ty2,ty,p,af,g⟩ H (.bool (!b)):=⟨rfl,λT w f=>by
 simp only[execOp,c,e,Sem.run_bind,QG a,Result.andThen,binOp,tY,h w,Sem.run_pure]⟩
theorem X8 {u v:ByteArray} (hu:P.underlying tx=some .string) (a:ev ρ x= .string u) (c:ev ρ y= .string v):bx P ρ ⟨d,.binOp .eql tx x y ty2,ty,p,af,g⟩ H (.bool (u.toList==v.toList)):=⟨rfl,λT w e=>by
 simp only[execOp,a,c,eqGuard,binOp,Op.stringOp,Sem.run_bind,Sem.run_pure,Result.andThen,reduceIte,Bool.not_true,Bool.false_eq_true]⟩
end
end
end Go.Kx
end
section
namespace Go.Kx
section
variable {P:Program} {ρ:Env} {T H:PH} {d:Option Nat} {ty:TypeId} {p:String} {af:Array Edge} {g:Option (Nat×Bool)} {K:Value->PH->PH->Prop}
def sB:List (List Value)->List Value
 |[]=>[]
 |[c]=>c
 |c::r=>c++sB r
theorem Ha (c:List Value) (r:List (List Value)):sB (c::r)=c++sB r:=by cases r<;>simp[sB]
def Av (place:Nat->Option (Nat×Nat)) (b:Nat):List (Nat×Value)->List (List Value)->Nat->Prop
 |[],a,off=>a=[]/\off=b
 |q::ps,a,off=>∃cs r n,a=cs::r/\cs.length=n/\place q.1=some (off,n)/\q.2.cells=cs.toArray/\Av place b ps r (off+n)
theorem Av.cons {place:Nat->Option (Nat×Nat)} {b off n i:Nat} {v:Value} {ps:List (Nat×Value)} {cs:List Value} {a:List (List Value)} (c:cs.length=n) (e:place i=some (off,n)) (f:v.cells=cs.toArray) (h:Av place b ps a (off+n)):
 Av place b ((i,v)::ps) (cs::a) off:=⟨cs,a,n,rfl,c,e,f,h⟩
theorem Av.nil {place:Nat->Option (Nat×Nat)} {a off:Nat} (h:off=a):Av place a [] [] off:=⟨rfl,h⟩
theorem Av.len {place:Nat->Option (Nat×Nat)} {b:Nat}:∀{ps:List (Nat×Value)} {a:List (List Value)} {off:Nat},Av place b ps a off->off+(sB a).length=b
 |[],_,off,⟨c,e⟩=>by subst c;simpa[sB] using e
 |q::ps,_,off,⟨cs,r,n,c,e,_,_,h⟩=>by
  subst c
  have:=Av.len h
  rw[Ha,List.length_append];omega
theorem V6 (vs:List Value):∀(pre:List Value) (post:List Value) (k off:Nat),pre.length=off+k->vs.length<=post.length->((vs.zipIdx k).foldl (λcs q=>cs.setIfInBounds (off+q.2) q.1) (pre++post).toArray)=(pre++vs++post.drop vs.length).toArray:=by
 induction vs with
 |nil=>simp
 |cons v vs c=>
  intro pre post k off b a
  cases post with
  |nil=>simp at a
  |cons x post=>
   simp only[List.zipIdx_cons,List.foldl_cons]
   have e:(pre++x::post).toArray.setIfInBounds (off+k) v=((pre++[v])++post).toArray:=by
    rw[←b];simp
   rw[e,c (pre++[v]) post (k+1) off (by simp;omega) (by grind)]
   simp
theorem Er {place:Nat->Option (Nat×Nat)} {b:Nat}:∀(ps:List (Nat×Value)) (a:List (List Value)) (done rest:List Value),Av place b ps a done.length->done.length+rest.length=b->
 Instr.fill place (done++rest).toArray ps=some (done++sB a).toArray
 |[],_,done,rest,⟨c,e⟩,m=>by
  subst c
  have:rest=[]:=(by simp_all)
  subst this;rfl
 |(i,v)::ps,_,done,rest,⟨cs,r,n,c,e,f,j,h⟩,m=>by
  subst c
  have hlen:=Av.len h
  simp only[Instr.fill,f]
  have o:v.cells.size=n:=by grind
  have k:¬(done.length+n>(done++rest).toArray.size):=by simp;omega
  simp only[o,ne_eq,not_true_eq_false,decide_false,Bool.false_or,k,Bool.false_eq_true,if_false]
  have hf:(v.cells.zipIdx.foldl (λcs (x:Value×Nat)=>cs.setIfInBounds (done.length+x.2) x.1) (done++rest).toArray)=((done++cs)++rest.drop cs.length).toArray:=by
   rw[j]
   have:=V6 cs done rest 0 done.length (by simp) (by omega)
   grind
  have l:=Er ps r (done++cs) (rest.drop cs.length) (by rw[List.length_append,e];exact h) (by simp;omega)
  rw[Ha,←List.append_assoc,←l]
  grind
theorem N6 {t:Nat} {parts:Array (Nat×Operand)} {pl:List (Nat×Nat)} {ps:List (Nat×Value)} {a:List (List Value)} {z:Value} {zs:List Value} (f:zC P t pl) (h:jv P t z) (c:z.cells=zs.toArray)
 (b:parts.toList.map (λq=>(q.1,ev ρ q.2))=ps) (e:Av (λi=>pl.toArray[i]?) zs.length ps a 0):bx P ρ ⟨d,.build t parts,ty,p,af,g⟩ H (.agg (sB a).toArray):=
 MV f h c b (by simpa using Er ps a [] zs e (by simp))
theorem QH {place:Nat->Option (Nat×Nat)} {b:Nat} {ps:List (Nat×Value)} {a:List (List Value)} {zs:List Value} (c:Av place b ps a 0) (e:zs.length=b):Instr.fill place zs.toArray ps=some (sB a).toArray:=by
 simpa using Er ps a [] zs c (by grind)
theorem X9 {t e size:Nat} (b:jX P t e size) (h:∀r H',wk H (row [] e) 0 0 r H'->K (Sl.v r) T H'):dT P ρ ⟨d,.buildSlice t 0 #[],ty,p,af,g⟩ T H K:=⟨rfl,λw a=>by
 refine .inl ⟨_,T,_,_,?_,.alloc a _,h _ _ ⟨_,a.new.1,rfl,rfl⟩⟩
 simp[execOp,Instr.buildSlice,Sem.run_bind,bq b.1,Result.andThen,gP b.2,Sem.run_pure,Instr.fill,nA]
 grind⟩
def TG (x:Sl) (n:Nat) (K:Addr->Prop):Prop:=n<=x.len/\∃a,x.a=some a/\K a
theorem U2 {t n e size:Nat} {x:Operand} {s:Sl} {a:Addr} (f:wi P t n e size) (i:n<=s.len) (c:s.a=some a) (h:ev ρ x=Sl.v s):bx P ρ ⟨d,.sliceToArrayPointer t x,ty,p,af,g⟩ H (.pointer (some a)):=⟨rfl,λT w j=>by
 have b:¬s.len<n:=by omega
 simp[execOp,h,Instr.arrayAt,Sem.run_bind,bq f.1,Result.andThen,Sl.v,b,c,Sem.run_pure]⟩
def TH (n:Nat) (a:Addr) (size:Nat) (lo hi:Int) (r:Sl):Prop:=0<=lo/\lo<=hi/\hi<=n/\r=⟨some (if n=lo.toNat then a else a.add (lo.toNat*size)),hi.toNat-lo.toNat,n-lo.toNat⟩
def Bm (n:Nat) (a:Addr) (size:Nat) (lo hi:Int) (K:Sl->Prop):Prop:=∃r,TH n a size lo hi r/\K r
theorem YA {t n e size:Nat} {x:Operand} {a:Addr} {r:Sl} {lo hi:Option Operand} {l h:Int} (s:wi P t n e size) (y:TH n a size l h r) (z:ev ρ x= .pointer (some a))
 (c:(match lo with|none=>l=0|some o=>∃k,ev ρ o= .int k l)) (b:(match hi with|none=>h=(n:Int)|some o=>∃k,ev ρ o= .int k h)):
 bx P ρ ⟨d,.slice t x lo hi none,ty,p,af,g⟩ H (Sl.v r):=⟨rfl,λT w A=>by
 obtain⟨f,i,j,rfl⟩:=y
 have r1:(Instr.sliceBounds false n n (lo.map (ev ρ)) (hi.map (ev ρ)) none).run P w= .ok (l.toNat,h.toNat,n) w:=by
  have e2:h.toNat<=n:=by omega
  cases lo with
  |none=>
   simp only at c;subst c
   cases hi with
   |none=>simp only at b;subst b;rfl
   |some o=>obtain⟨k,hk⟩:=b;simp[Instr.sliceBounds,Sem.run_bind,Sem.run_pure,Result.andThen,hk,Instr.sliceBound,asIntOf,i,j]
  |some q=>
   obtain⟨k,hk⟩:=c
   cases hi with
   |none=>simp only at b;subst b;simp[Instr.sliceBounds,Sem.run_bind,Sem.run_pure,Result.andThen,hk,Instr.sliceBound,asIntOf,f,i]
   |some o=>
    obtain⟨k2,m⟩:=b
    have u:0<=h:=by omega
    have e3:l<=(h.toNat:Int):=by omega
    have e4:l<=max h 0:=by omega
    simp[Instr.sliceBounds,Sem.run_bind,Sem.run_pure,Result.andThen,hk,m,Instr.sliceBound,asIntOf,u,f,j,e3,e4]
 simp[execOp,z,Instr.sliceAt,Instr.sureAddr,Sem.run_bind,bq s.1,Result.andThen,r1,gP s.2,Sem.run_pure]⟩
end
end Go.Kx
end
section
namespace Go.Kx
def PH.join (M T:PH):PH:=λb=>match M b with| .some o=>.some o| .none=>T b
theorem join_some {M T:PH} {b:Nat} {o:Obj} (h:M b=some o):M.join T b=some o:=by simp[PH.join,h]
theorem join_none {M T:PH} {b:Nat} (h:M b=none):M.join T b=T b:=by simp[PH.join,h]
theorem wo (M T:PH) (b:Nat) (o:Obj):(M.join T).bQ b o=(M.bQ b o).join T:=by
 funext c
 by_cases e:c=b
 ·subst e;simp[PH.join]
 ·rw[PH.al _ _ e];simp[PH.join,PH.al _ _ e]
theorem V7:PH.none.join PH.none=PH.none:=rfl
theorem YB (T:PH):PH.none.join T=T:=rfl
def Sub (A B:PH):Prop:=∀b o,A b=some o->B b=some o
def wb {G:Type} (M:PH) (TT:G->PH):Prop:=∀b g,M b≠none->TT g b=none
def Md {G:Type} (TT:G->PH):Prop:=∀g a b,TT g b=none->TT a b=none
theorem Fr.YC {H H' M T j:PH} {w w':World} (h:Fr H T w H' j w') (e:jU H (M.join T) w) (t:∀b,M b≠none->T b=none) (s:∀b,M b≠none->j b=none):Fr H (M.join T) w H' (M.join j) w':=by
 have m:∀b o,M b=some o->H b=none:=λb o a=>(e.wZ b).resolve_right (by rw[join_some a];simp)
 have q:∀b o,M b=some o->T b=none:=(by grind)
 refine⟨⟨h.own.sub,λb o a=>?_,λb=>?_⟩,h.size,λb a r c=>?_,h.os,h.output,h.tape⟩
 ·cases hm:M b with
  |none=>rw[join_none hm] at a;exact h.own.tok b o a
  |some x=>
   rw[join_some hm] at a;cases a
   rw[(h.qE b (e.FZ (join_some hm)) (m b _ hm) (q b _ hm)).1];exact e.tok b _ (join_some hm)
 ·cases hm:M b with
  |none=>rw[join_none hm];exact h.own.wZ b
  |some x=>exact .inl (h.qE b (e.FZ (join_some hm)) (m b _ hm) (q b _ hm)).2.1
 ·cases hm:M b with
  |none=>
   rw[join_none hm] at c ⊢
   exact h.qE b a r c
  |some x=>rw[join_some hm] at c;cases c
theorem jU.less {H T a:PH} {w:World} (h:jU H T w) (s:Sub a T):jU H a w:=⟨h.sub,λb o c=>h.tok b o (s b o c),λb=>(h.wZ b).imp id λe=>by
 cases c:a b with
 |none=>rfl
 |some o=>rw[s b o c] at e;cases e⟩
def Aw (P:Program) (l:Nat) {γ:Type} (a:Nat->γ->PH) (Y:List Value->γ->PH->(Nat->γ->PH->Prop)->Prop):Prop:=
 ∀vs g H K,Y vs g H K->∀w,jU H (a 0 g) w->∃fn tmps assign body,(Instr.yield l vs.toArray).run P w= .ok (.round l fn tmps assign body) w/\
  JR P l fn tmps assign body w λv w'=>∃j b H',v= .bool (j==0)/\Fr H (a 0 g) w H' (a j b) w'/\K j b H'
def iX (P:Program) (v:Value) {γ:Type} (Y:List Value->γ->PH->(Nat->γ->PH->Prop)->Prop) (g:γ) (H:PH) (R:Nat->γ->PH->Prop):Prop:=
 ∃f fi ca,v= .func (.func f) fi ca/\Body P f/\∀l (a:Nat->γ->PH),Md (λq:Nat×γ=>a q.1 q.2)->Aw P l a Y->
  JQ P f (fi++ #[.func (.yield l) #[] #[]]++ca) (a 0 g) H λ_ c H'=>∃j b,c=a j b/\R j b H'
def xI (P:Program) (v:Value) (vs:List Value) (H:PH) (K:Value->PH->Prop):Prop:=
 ∃f fi ca,v= .func (.func f) fi ca/\Body P f/\fU P f (fi++vs.toArray++ca) H K
def Mk (rd:Option Nat) (D:List Deferred) (M:PH):Prop:=match rd with
 |none=>∃rs:List Nat,D=marks rs/\rs.Nodup/\∀r,r∈rs->M r=some (.deferred (some []))
 |some _=>True
def kL {G:Type} (rd:Option Nat) (B':PH) (TT:G->PH) (Q:Fin->Env->G->PH->Prop):ll:=λf ρ D T H=>∃M g,Mk rd D M/\Sub B' M/\wb M TT/\T=M.join (TT g)/\Q f ρ g H
def yM {G:Type} (P:Program) (rd:Option Nat) (n:Nat) (k:List Item) (ρ:Env) (B B':PH) (TT:G->PH) (g:G) (H:PH) (Q:Fin->Env->G->PH->Prop):Prop:=
 ∀D M,Mk rd D M->Sub B M->wb M TT->Go P rd n k ρ D (M.join (TT g)) H (kL rd B' TT Q)
section rules
variable {P:Program} {rd:Option Nat} {n:Nat} {k:List Item} {ρ:Env} {D:List Deferred} {M B B' H T:PH} {ops:Array Oper} {l:List Oper} {i:Nat}
variable {G:Type} {TT:G->PH} {g:G} {Q:Fin->Env->G->PH->Prop} {QP:ll}
theorem Go.qo (b:Mk rd D M) (hB:Sub B' M) (a:wb M TT) (h:Q .ret ρ g H):Go P rd n (.code .ret::k) ρ D (M.join (TT g)) H (kL rd B' TT Q):=.ret ⟨M,g,b,hB,a,rfl,h⟩
theorem Go.vv (b:Mk rd D M) (hB:Sub B' M) (a:wb M TT) (h:Q .lk ρ g H):Go P rd n [] ρ D (M.join (TT g)) H (kL rd B' TT Q):=.lk ⟨M,g,b,hB,a,rfl,h⟩
theorem Es {σ:Type} (m:Nat) (a:σ->G) (E:Env->σ->Prop) {kk:σ->PH->Prop} {body:(σ->PH->Prop)->Prop} (hB:Sub B M) (h:aO kk body)
 (b:∀s H ρ,kk s H->E ρ s->yM P rd n (k.drop m) ρ B B' TT (a s) H Q)
 (c:∀j:σ->PH->Prop,(∀s H ρ,j s H->E ρ s->yM P rd n (k.drop m) ρ B B' TT (a s) H Q)->body j->Go P rd n k ρ D T H (kL rd B' TT Q)):Go P rd n k ρ D T H (kL rd B' TT Q):=c kk b h
theorem xj {σ:Type} (m:Nat) (a:σ->G) (E:Env->σ->Prop) {kk:σ->PH->Prop} {body:(σ->PH->Prop)->Prop} (h:aO kk body)
 (b:∀s H ρ,kk s H->E ρ s->ba P rd n ops (l.drop m) (i+m) k ρ D (M.join (TT (a s))) H QP)
 (c:∀j:σ->PH->Prop,(∀s H ρ,j s H->E ρ s->ba P rd n ops (l.drop m) (i+m) k ρ D (M.join (TT (a s))) H QP)->body j->ba P rd n ops l i k ρ D T H QP):ba P rd n ops l i k ρ D T H QP:=c kk b h
theorem si {σ:Type} {c:Code} {a:σ->PH->(σ->PH->Prop)->Prop} {s0:σ} (j:σ->G) (E:Env->σ->Prop) (r:Mk rd D M) (hB:Sub B M) (o:wb M TT) (h:bw a s0 H) (q:E ρ s0) (C:g=j s0)
 (round:∀ρ s H again,E ρ s->a s H again->(∀e H' ρ',again e H'->E ρ' e->yM P rd n (.inLoop c::k) ρ' B B' TT (j e) H' Q)->yM P rd n (.code c:: .inLoop c::k) ρ B B' TT (j s) H Q):
 Go P rd n (.code (.loop c)::k) ρ D (M.join (TT g)) H (kL rd B' TT Q):=by
 subst C
 obtain⟨I,⟨L,z⟩,F⟩:=h
 refine Go.step (k2:=.code c:: .inLoop c::k) (λb cs t w _=>rfl) ?_
 have key:∀m s H ρ,E ρ s->I m s H->yM P rd n (.code c:: .inLoop c::k) ρ B B' TT (j s) H Q:=by
  intro m
  induction m using Nat.strongRecOn with
  |_ m J=>
   intro s H ρ q A
   refine round ρ s H _ q (F m s H A) λe H' ρ' ⟨m',y,x⟩ u D M r hB o=>?_
   exact .step (λb cs t w _=>rfl) (J m' y e H' ρ' u x D M r hB o)
 exact key L s0 H ρ q z D M r hB o
def vx (ρ:Env):List Nat->List Value->Env
 |p::ps,v::vs=>vx (bQ ρ p v) ps vs
 |_,_=>ρ
theorem Fh {n:Nat}:∀(ps:List Nat) (vs:List Value) (ρ:Env) (t:Array Value),uC n ρ t->(∀p,p∈ps->p<n)->uC n (vx ρ ps vs) ((ps.zip vs).foldl (λt q=>t.setIfInBounds q.1 q.2) t)
 |[],_,_,_,h,_=>h
 |_::_,[],_,_,h,_=>h
 |p::ps,v::vs,ρ,t,h,a=>Fh ps vs _ _ (h.put (by simp_all) v) (by grind)
def vy (a:List Code) (j:Nat):Fin->Prop
 | .lk=>j=0
 | .ret=>∃i,j=i+1/\a[i]?=some .ret
 | .exit id=>∃i,j=i+1/\a[i]?=some (.exit id)
def jump (a:List Code):Nat->Option Code
 | 0=>none
 |i+1=>a[i]?
def fq (r:Loop) (a:List Code) (j:Nat):Loop:={r with state:=if j=0 then .ready else .done,pending:=jump a j}
def lr (r:Loop):Loop:={r with state:=.busy}
theorem Et {a:Nat} {y:PH} {r:Loop} (R:r.state= .ready) (hB:Sub (y.bQ a (.loop r)) M) (z:wb M TT)
 (h:∀s,Sub (y.bQ a (.loop (lr r))) s->wb s TT->Go P (some a) n k ρ D (s.join (TT g)) H QP):Go P (some a) n (.beginRound::k) ρ D (M.join (TT g)) H QP:=by
 intro b cs t w A S u
 have q:M a=some (.loop r):=hB _ _ (by simp)
 have hw:=u.tok a _ (join_some q)
 have W:=u.FZ (join_some q)
 have j:Fr H (M.join (TT g)) w H ((M.join (TT g)).bQ a (.loop (lr r))) (w.putObj a (.loop (lr r))):=.Fa u (join_some q) rfl rfl rfl rfl
 rw[wo] at j
 obtain⟨f,U,V,ρ',E,F,H',w',a1,I,J,L,N⟩:=h (M.bQ a (.loop (lr r))) (λc o m=>by
  by_cases e:c=a
  ·simp_all
  ·rw[PH.al _ _ e] at m ⊢; exact hB c o (by rw[PH.al _ _ e];exact m))
  (λc O m=>by
   by_cases e:c=a
   ·subst e;exact z _ _ (by rw[q];simp)
   ·rw[PH.al _ _ e] at m;exact z c O m) b cs t _ A S j.own
 refine⟨f,U,V,ρ',E,F,H',w',.head (step_lone_go ?_) a1,I,J,j.trans L,N⟩
 have x:=run_beginRound (P:=P) hw R
 have C:b.roundOf=some a:=A
 simp only[stepG,stepG.exec,mk,stepG.apply,C,Option.elim,Sem.runT_eq,if_true]
 simp[Sem.run_bind,x,Result.andThen,Sem.run_pure,GStep.bare_after,Frame.finish]
 rfl
def G4 (rd:Option Nat) (M:PH):Prop:=match rd with
 |none=>True
 |some l=>∃r,M l=some (.loop r)
theorem Ja {a:Nat} {s:List Code} {r:Loop} {t:PH} {fn:FuncId} {tmps:Array Value} {assign body:Code} {w:World} {K:Nat->G->PH->Prop} (Z:r=fq r s 0) (ht:uC n ρ tmps)
 (N:wb (t.bQ a (.loop (fq r s 0))) TT)
 (h:yM P (some a) n [.code assign,.beginRound,.code body] ρ (t.bQ a (.loop r)) (t.bQ a (.loop (lr r))) TT g H λf ρ' m H'=>∃j,vy s j f/\K j m H')
 (S:jU H ((t.bQ a (.loop (fq r s 0))).join (TT g)) w):
 JR P a fn tmps assign body w λv w'=>∃j m H',v= .bool (j==0)/\Fr H ((t.bQ a (.loop (fq r s 0))).join (TT g)) w H' ((t.bQ a (.loop (fq r s j))).join (TT m)) w'/\K j m H':=by
 intro c cs
 rw[←Z] at S N ⊢
 let b:Frame:={fn:=fn,tmps:= #[],todo:=[],defers:=[],mode:=.run,kind:=.normal,roundOf:=some a}
 obtain⟨f,k',t',ρ',U,T',H',w',a1,F,a3,I,C,m,b1,L,V,rfl,j,J,W⟩:=h [] _ trivial (λ_ _ h=>h) N b (c::cs) tmps w rfl ht S
 have O:C a=some (.loop (lr r)):=L _ _ (by simp)
 have hw:=I.own.tok a _ (join_some O)
 have fin:∀jp:Option Code,jump s j=jp->(jp.isNone=(j==0))->
  step P (lone (mk b t' U k') (c::cs) w')= .next (lone (c.finish (.bool jp.isNone)) cs (w'.putObj a (.loop {lr r with state:=if jp.isNone then .ready else .done,pending:=jp})))->
  ∃v E,(∃j m H',v= .bool (j==0)/\Fr H ((t.bQ a (.loop r)).join (TT g)) w H' ((t.bQ a (.loop (fq r s j))).join (TT m)) E/\K j m H')/\Steps P (lone (Frame.round a fn tmps assign body .normal) (c::cs) w) (lone (c.finish v) cs E):=by
  intro jp z R hs
  refine⟨_,_,⟨j,m,H',by rw[R],?_,W⟩,a1.trans (.one hs)⟩
  have A:Fr H' (C.join (TT m)) w' H' ((C.join (TT m)).bQ a (.loop (fq r s j))) (w'.putObj a (.loop {lr r with state:=if jp.isNone then .ready else .done,pending:=jp})):=by
   refine .Fa I.own (join_some O) ?_ rfl rfl rfl
   have:fq r s j={lr r with state:=if jp.isNone then .ready else .done,pending:=jp}:=by
    simp only[fq,lr,z,R]
    simp
   rw[this];rfl
  rw[wo] at A
  refine(I.trans A).weaken (by simp) λx o u=>?_
  by_cases e:x=a
  ·subst e
   rw[join_some (PH.eH _ _ _)] at u
   rw[join_some (PH.eH _ _ _)];exact u
  ·cases hm:t x with
   |some y=>
    rw[join_some (by rw[PH.al _ _ e];exact hm)] at u
    rw[join_some (by rw[PH.al _ _ e];exact L x y (by rw[PH.al _ _ e];exact hm))];exact u
   |none=>
    rw[join_none (by rw[PH.al _ _ e];exact hm)] at u
    rw[join_none]
    ·exact u
    ·rw[PH.al _ _ e]
     cases aa:C x with
     |none=>rfl
     |some y=>have:=V x m (by grind);grind
 cases f with
 |lk=>
  cases F
  have X:j=0:=J
  subst X
  refine fin none rfl rfl (step_lone_go ?_)
  have q:=run_endRound (P:=P) none hw
  simp only[stepG,stepG.exec,mk,b,Sem.runT_eq,GStep.bare_after,q]
  simp[doReturn]
 |ret=>
  obtain⟨rr,rfl⟩:=F
  obtain⟨i,rfl,z⟩:=J
  refine fin (some .ret) z rfl (step_lone_go ?_)
  have q:=run_endRound (P:=P) (some .ret) hw
  simp only[stepG,stepG.exec,mk,b,Sem.runT_eq,GStep.bare_after,q]
  simp[doReturn]
 |exit id=>
  obtain⟨rr,rfl,he⟩:=F
  obtain⟨i,rfl,z⟩:=J
  refine fin (some (.exit id)) z rfl (step_lone_go ?_)
  have q:=run_endRound (P:=P) (some (.exit id)) hw
  simp only[stepG,stepG.exec,mk,b,he,Option.elim,Sem.runT_eq,GStep.bare_after,q]
  simp[doReturn]
theorem QI (ps:Array Nat) (vs:List Value) (t:Array Value):(ps.zip vs.toArray).foldl (λt (q:Nat×Value)=>t.setIfInBounds q.1 q.2) t=(ps.toList.zip vs).foldl (λt q=>t.setIfInBounds q.1 q.2) t:=by
 rw[←Array.foldl_toList];simp
theorem Jb {f:Operand} {params:Array Tmp} {assign body:Code} {v:Value} {Y:List Value->G->PH->(Nat->G->PH->Prop)->Prop} {R:Nat->G->PH->Prop} (m:List Code)
 (hf:ev ρ f=v) (it:iX P v Y g H R) (V:Md TT) (hp:params.toList.all (λp=>decide (p<n))=true) (hM:Mk rd D M) (hB:Sub B M) (hA:wb M TT) (hE:G4 rd M)
 (aa:∀vs g H K,Y vs g H K->vs.length=params.size/\∀(a:Nat) (Bx:PH) (r:Loop),r.state= .ready->
  yM P (some a) n [.code assign,.beginRound,.code body] (vx ρ params.toList vs) (Bx.bQ a (.loop r)) (Bx.bQ a (.loop (lr r))) TT g H λf ρ' s H'=>∃j,vy m j f/\K j s H')
 (O:∀j s H',R j s H'->yM P rd n (((jump m j).map Item.code).toList++k) ρ B B' TT s H' Q):
 Go P rd n (.code (.rangeFunc f params assign body)::k) ρ D (M.join (TT g)) H (kL rd B' TT Q):=by
 intro b cs t w hb ht ho
 obtain⟨gf,fi,ca,rfl,ae,az⟩:=it
 obtain⟨a,mark,w1,u,r,ar,aq,aH,aE,an,aC,aD,W,aj,ax,ad,L⟩:∃(a:Nat) (mark:List Deferred) (w1:World) (u:PH) (r:Loop),
  (Instr.enterLoop b.fn t params assign body b.roundOf).run P w= .ok (a,mark) w1/\r.state= .ready/\r.pending=none/\r.tmps=t/\r.params=params/\r.assign=assign/\r.body=body/\
  Fr H (M.join (TT g)) w H ((u.bQ a (.loop r)).join (TT g)) w1/\(∀s,TT s a=none)/\(∀o,Mk rd (mark++D) (u.bQ a o))/\(∀o,Sub B (u.bQ a o))/\wb u TT:=by
  have Z:∀{T:PH} {w:World},jU H ((T).join (TT g)) w->T w.heap.size=none/\∀s,TT s w.heap.size=none:=λ{T} {w} h=>by
   have:=h.new.2
   cases hT:T w.heap.size with
   |none=>rw[join_none hT] at this;exact⟨rfl,λs=>V g s _ this⟩
   |some o=>rw[join_some hT] at this;cases this
  cases rd with
  |none=>
   have S:b.roundOf=none:=hb
   obtain⟨E,t0⟩:=Z ho
   have f1:Fr H (M.join (TT g)) w H ((M.join (TT g)).bQ w.heap.size (.deferred (some []))) (w.alloc (.deferred (some []))):=.yu ho _
   rw[wo] at f1
   obtain⟨m1,t1⟩:=Z f1.own
   have ao:(w.alloc (.deferred (some []))).heap.size=w.heap.size+1:=by simp
   rw[ao] at m1 t1
   let r:Loop:={state:=.ready,pending:=none,fn:=b.fn,tmps:=t,params:=params,assign:=assign,body:=body,defers:=w.heap.size}
   have f2:Fr H ((M.bQ w.heap.size (.deferred (some []))).join (TT g)) (w.alloc (.deferred (some []))) H (((M.bQ w.heap.size (.deferred (some []))).join (TT g)).bQ (w.alloc (.deferred (some []))).heap.size (.loop r)) ((w.alloc (.deferred (some []))).alloc (.loop r)):=.yu f1.own _
   rw[wo,ao] at f2
   obtain⟨rs,e1,e2,e3⟩:=hM
   refine⟨w.heap.size+1,_,_,M.bQ w.heap.size (.deferred (some [])),r,by rw[S];exact run_enterLoop_outer _ _ _ _ _,rfl,rfl,rfl,rfl,rfl,rfl,f1.trans f2,t1,λo=>⟨w.heap.size::rs,?_,?_,?_⟩,λo=>?_,?_⟩
   ·rw[e1];rfl
   ·rw[List.nodup_cons];exact⟨λhm=>(by rw[e3 _ hm] at E;cases E),e2⟩
   ·intro x c
    rcases List.mem_cons.1 c with rfl|c
    ·rw[PH.al _ _ (by omega),PH.eH]
    ·have z:x≠w.heap.size:=λe=>by subst e;rw[e3 _ c] at E;cases E
     have ac:x≠w.heap.size+1:=λe=>by
      subst e
      rw[PH.al _ _ z,e3 _ c] at m1;cases m1
     rw[PH.al _ _ ac,PH.al _ _ z];exact e3 _ c
   ·intro x ox c
    have A:=hB x ox c
    have z:x≠w.heap.size:=λe=>by subst e;rw[A] at E;cases E
    have ac:x≠w.heap.size+1:=λe=>by
     subst e
     rw[PH.al _ _ z,A] at m1;cases m1
    rw[PH.al _ _ ac,PH.al _ _ z];exact A
   ·intro x s c
    by_cases e:x=w.heap.size
    ·subst e;exact t0 s
    ·rw[PH.al _ _ e] at c;exact hA x s c
  |some l0=>
   have S:b.roundOf=some l0:=hb
   obtain⟨E,t0⟩:=Z ho
   obtain⟨r0,aB⟩:=hE
   let r:Loop:={state:=.ready,pending:=none,fn:=b.fn,tmps:=t,params:=params,assign:=assign,body:=body,defers:=r0.defers}
   have f2:Fr H (M.join (TT g)) w H ((M.join (TT g)).bQ w.heap.size (.loop r)) (w.alloc (.loop r)):=.yu ho _
   rw[wo] at f2
   refine⟨w.heap.size,[],_,M,r,?_,rfl,rfl,rfl,rfl,rfl,rfl,f2,t0,λ_=>trivial,λ_=>?_,hA⟩
   ·rw[S]
    unfold Instr.enterLoop
    simp only[Sem.run_bind,run_getLoop (ho.tok l0 _ (join_some aB)),run_newObj_alloc,Result.andThen,Sem.run_pure,r]
   ·intro x ox c
    have A:=hB x ox c
    have z:x≠w.heap.size:=λe=>by subst e;rw[A] at E;cases E
    rw[PH.al _ _ z];exact A
 have er:r=fq r m 0:=by
  simp only[fq,jump]
  cases r;simp_all
 have av:∀j,wb (u.bQ a (.loop (fq r m j))) TT:=λj x s c=>by
  by_cases e:x=a
  ·subst e;exact aj s
  ·rw[PH.al _ _ e] at c;exact L x s c
 have ah:Md (λq:Nat×G=>(u.bQ a (.loop (fq r m q.1))).join (TT q.2)):=λq q' x c=>by
  replace c:((u.bQ a (.loop (fq r m q.1))).join (TT q.2)) x=none:=c
  show((u.bQ a (.loop (fq r m q'.1))).join (TT q'.2)) x=none
  by_cases e:x=a
  ·subst e;rw[join_some (PH.eH _ _ _)] at c;cases c
  ·cases hm:u x with
   |none=>
    rw[join_none (by rw[PH.al _ _ e];exact hm)] at c ⊢
    exact V _ _ _ c
   |some o=>rw[join_some (by rw[PH.al _ _ e];exact hm)] at c;cases c
 have hy:Aw P a (λj g=>(u.bQ a (.loop (fq r m j))).join (TT g)) Y:=by
  intro vs F N K hY J am
  obtain⟨hlen,ay⟩:=aa vs F N K hY
  have ab:=am.tok a _ (join_some (PH.eH _ _ _))
  refine⟨_,_,_,_,run_yield ab (by show vs.toArray.size=r.params.size;rw[an];simpa using hlen),?_⟩
  have aF:uC n (vx ρ params.toList vs) (((fq r m 0).params.zip vs.toArray).foldl (λtmps (q:Nat×Value)=>tmps.setIfInBounds q.1 q.2) (fq r m 0).tmps):=by
   show uC n _ ((r.params.zip vs.toArray).foldl (λtmps (q:Nat×Value)=>tmps.setIfInBounds q.1 q.2) r.tmps)
   rw[an,aE,QI]
   refine Fh _ _ _ _ ht λp aA=>?_
   simp only[List.all_eq_true] at hp
   simpa using hp p aA
  have:=Ja (fn:=r.fn) (assign:=assign) (body:=body) (K:=K) er aF (av 0) (ay a u r aq) am
  rw[←aC,←aD] at this
  exact this
 have ag:=az a _ ah hy w1 (by rw[←er];exact W.own)
 let y:Frame:=mk b t (mark++D) (.inRangeFunc a::k)
 obtain⟨e,J,au,⟨v,T2,N,rfl,C,j,F,rfl,hR⟩,U,aG,X⟩:=ag (y::cs)
 rw[←er] at C
 have ak:(((u.bQ a (.loop (fq r m j))).join (TT F)):PH) a=some (.loop (fq r m j)):=join_some (PH.eH _ _ _)
 have ab:=C.own.tok a _ ak
 have ap:=run_endLoop (P:=P) ab (by show(if j=0 then LoopState.ready else .done)≠ .busy;split<;>simp)
 have I:Fr N ((u.bQ a (.loop (fq r m j))).join (TT F)) J N (((u.bQ a (.loop (fq r m j))).join (TT F)).bQ a (.loop {fq r m j with state:=.exhausted})) (J.putObj a (.loop {fq r m j with state:=.exhausted})):=.Fa C.own ak rfl rfl rfl rfl
 have heq:((u.bQ a (.loop (fq r m j))).join (TT F)).bQ a (.loop {fq r m j with state:=.exhausted})=(u.bQ a (.loop {fq r m j with state:=.exhausted})).join (TT F):=by
  rw[wo]
  congr 1
  funext x
  by_cases e:x=a
  ·subst e;simp
  ·simp[PH.al _ _ e]
 rw[heq] at I
 have aw:wb (u.bQ a (.loop {fq r m j with state:=.exhausted})) TT:=λx s c=>by
  by_cases e:x=a
  ·subst e;exact aj s
  ·rw[PH.al _ _ e] at c;exact L x s c
 obtain⟨fe,k',t',ρ',D',T',H',w',a1,a2,a3,a4,a5⟩:=O j F N hR (mark++D) _ (ax _) (ad _) aw b cs t _ hb ht I.own
 refine⟨fe,k',t',ρ',D',T',H',w',?_,a2,a3,((W.trans C).trans I).trans a4,a5⟩
 have ai:=Gy ht b (mark++D) (.inRangeFunc a::k)
 have s1:step P (lone (mk b t D (.code (.rangeFunc f params assign body)::k)) cs w)= .next (lone (Frame.enter P gf (fi++ #[.func (.yield a) #[] #[]]++ca) .normal) (y::cs) w1):=by
  refine step_lone_go ?_
  simp only[mk] at ai
  simp only[stepG,stepG.exec,mk,Sem.runT_eq,GStep.bare_after,ar,stepG.apply]
  simp[resolve,ai,hf,(show∀x,ev ρ (.const x)=x fromλ_=>rfl),Deferred.ofValue,Sem.run_bind,Sem.run_pure,Result.andThen,invoke,ae _ _,y,mk]
 have s2:step P (lone au (y::cs) J)= .next (lone (y.finish v) cs J):=step_leave_returned X
 have e2:y.finish v=mk b t (mark++D) (.endRangeFunc a::k):=by simp[Frame.finish,y,mk]
 have s3:step P (lone (mk b t (mark++D) (.endRangeFunc a::k)) cs J)= .next (lone (mk b t (mark++D) (((jump m j).map Item.code).toList++k)) cs (J.putObj a (.loop {fq r m j with state:=.exhausted}))):=by
  refine step_lone_go ?_
  simp only[stepG,stepG.exec,mk,Sem.runT_eq,GStep.bare_after,ap]
  rfl
 rw[e2] at s2
 exact .head s1 (U.trans (.head s2 (.head s3 a1)))
end rules
section
variable {P:Program} {n:Nat} {ρ:Env} {T H:PH} {d:Option Nat} {ty:TypeId} {p:String} {af:Array Edge} {g:Option (Nat×Bool)} {K:Value->PH->PH->Prop}
theorem TI {x:Operand} {xs:Array Operand} {A:Array TypeId} {l j:Nat} {γ:Type} {e:Nat->γ->PH} {a:γ} {Y:List Value->γ->PH->(Nat->γ->PH->Prop)->Prop} {M:PH} {vs:List Value} {t:Nat->γ->PH->Prop}
 (L:ev ρ x= .func (.yield l) #[] #[]) (R:xs.toList.map (ev ρ)=vs) (S:Aw P l e Y) (u:wb M λq:Nat×γ=>e q.1 q.2) (N:j=0) (h:Y vs a H t)
 (hk:∀r s H',t r s H'->K (.bool (r==0)) (M.join (e r s)) H'):dT P ρ ⟨d,.call ⟨.value x,xs,A⟩,ty,p,af,g⟩ (M.join (e j a)) H K:=⟨rfl,λw F=>by
 subst N
 have O:Sub (e 0 a) (M.join (e 0 a)):=λb o m=>by
  cases hm:M b with
  |none=>rw[join_none hm];exact m
  |some y=>
   have:e 0 a b=none:=u b (0,a) (by rw[hm];simp)
   grind
 obtain⟨fn,tmps,assign,body,z,I⟩:=S vs a H t h w (F.less O)
 refine .inr (.inr (.inr ⟨l,fn,tmps,assign,body,?_,λc cs=>?_⟩))
 ·simp[execOp,resolve,L,qF R,Deferred.ofValue,Sem.run_bind,Sem.run_pure,Result.andThen,invoke,z]
 ·obtain⟨v,w',⟨r,s,H',rfl,C,E⟩,J⟩:=I c cs
  exact⟨_,w',⟨_,H',C.YC F (λb m=>u b (0,a) m) (λb m=>u b (r,s) m),hk _ _ _ E⟩,J⟩⟩
theorem Bn {x:Operand} {xs:Array Operand} {a:Array TypeId} {v:Value} {vs:List Value} {R:Value->PH->Prop} (c:ev ρ x=v) (m:xs.toList.map (ev ρ)=vs) (e:xI P v vs H R)
 (h:∀v H',R v H'->K v T H'):dT P ρ ⟨d,.call ⟨.value x,xs,a⟩,ty,p,af,g⟩ T H K:=⟨rfl,λw j=>by
 obtain⟨f,fi,ca,rfl,hf,b⟩:=e
 refine .inr (.inr (.inl ⟨f,(fi++vs.toArray++ca),?_,?_⟩))
 ·simp[execOp,resolve,c,qF m,Deferred.ofValue,Sem.run_bind,Sem.run_pure,Result.andThen,invoke,hf _ _]
 ·exact(b.beside w j).mono (by grind)⟩
theorem QJ {G:Type} {D:List Deferred} {M:PH} {TT:G->PH} {g:G} (j:Mk none D M) (a:wb M TT):qa D (M.join (TT g)) (TT g):=by
 obtain⟨rs,rfl,e,h⟩:=j
 refine⟨rs,rfl,e,λr c=>join_some (h r c),λb o m=>⟨?_,λc=>?_⟩⟩
 ·cases hm:M b with
  |none=>rw[join_none hm];exact m
  |some y=>have:=a b g (by rw[hm];simp);grind
 ·have:=a b g (by grind);grind
theorem Iu {f:FuncId} {fn:Func} {c:Code} {args:Array Value} {R:Value->PH->Prop} (hf:P.funcs[f]?=some fn) (q:fn.body=some c) (r:fn.ntmps=n) (t:args.size<=n)
 (h:yM P none n [.code c] (Be args) PH.none PH.none (λ_:Unit=>PH.none) () H λfi ρ _ H'=>(fi= .ret∨fi= .lk)/\∃v,jj P fn ρ H' v/\R v H'):fU P f args H R:=by
 refine yy hf q r t ?_
 have:=h [] PH.none ⟨[],rfl,by simp,by simp⟩ (λ_ _ h=>h) (λb g h=>absurd rfl h)
 rw[V7] at this
 refine this.mono λfi ρ D u H' s=>?_
 obtain⟨M,g,a,w,e,rfl,j,v,m,o⟩:=s
 exact⟨j,v,_,QJ (TT:=λ_:Unit=>PH.none) (g:=()) a e,m,o⟩
theorem lu {f:FuncId} {fn:Func} {c:Code} {fi ca:List Value} {γ:Type} {Y:List Value->γ->PH->(Nat->γ->PH->Prop)->Prop} {j:γ} {R:Nat->γ->PH->Prop} (m:Body P f) (hf:P.funcs[f]?=some fn) (w:fn.body=some c) (x:fn.ntmps=n) (E:fi.length+1+ca.length<=n)
 (h:∀l (a:Nat->γ->PH),Md (λq:Nat×γ=>a q.1 q.2)->Aw P l a Y->yM P none n [.code c] (Be (fi++ .func (.yield l) #[] #[]::ca).toArray) PH.none PH.none (λq:Nat×γ=>a q.1 q.2) (0,j) H λfi ρ q H'=>(fi= .ret∨fi= .lk)/\∃v,jj P fn ρ H' v/\R q.1 q.2 H'):
 iX P (.func (.func f) fi.toArray ca.toArray) Y j H R:=by
 refine⟨f,_,_,rfl,m,λl a hd z=>?_⟩
 have e:fi.toArray++ #[.func (.yield l) #[] #[]]++ca.toArray=(fi++ .func (.yield l) #[] #[]::ca).toArray:=by simp
 rw[e]
 refine C2 hf w x (by simp;omega) ?_
 have:=h l a hd z [] PH.none ⟨[],rfl,by simp,by simp⟩ (λ_ _ h=>(by cases h)) (λb g h=>absurd rfl h)
 rw[YB] at this
 refine this.mono λfe ρ D A H' y=>?_
 obtain⟨M,q,o,C,r,rfl,s,v,t,u⟩:=y
 exact⟨s,v,_,QJ (TT:=λq:Nat×γ=>a q.1 q.2) (g:=q) o r,t,q.1,q.2,rfl,u⟩
end
def uO {γ:Type} (Y:List Value->γ->PH->(Nat->γ->PH->Prop)->Prop) (q:Nat×γ) (vs:List Value) (H:PH) (K:Nat×γ->PH->Prop):Prop:=q.1=0/\Y vs q.2 H λj g H'=>K (j,g) H'
section
variable {P:Program} {ρ:Env} {T H:PH} {d:Option Nat} {ty:TypeId} {p:String} {af:Array Edge} {g:Option (Nat×Bool)} {K:Value->PH->PH->Prop}
theorem oh {x:Operand} {xs:Array Operand} {e:Array TypeId} {l:Nat} {γ:Type} {a:Nat->γ->PH} {q:Nat×γ} {Y:List Value->γ->PH->(Nat->γ->PH->Prop)->Prop} {M:PH} {vs:List Value} {c:Nat×γ->PH->Prop}
 (r:Aw P l a Y) (m:wb M λq:Nat×γ=>a q.1 q.2) (j:ev ρ x= .func (.yield l) #[] #[]) (o:xs.toList.map (ev ρ)=vs) (h:uO Y q vs H c)
 (hk:∀b H',c b H'->K (.bool (b.1==0)) (M.join ((λq:Nat×γ=>a q.1 q.2) b)) H'):dT P ρ ⟨d,.call ⟨.value x,xs,e⟩,ty,p,af,g⟩ (M.join ((λq:Nat×γ=>a q.1 q.2) q)) H K:=
 TI j o r m h.1 h.2 (by grind)
end
section
variable {P:Program} {rd:Option Nat} {n:Nat} {k:List Item} {ρ:Env} {D:List Deferred} {M B B' H T:PH}
variable {G:Type} {TT:G->PH} {g:G} {Q:Fin->Env->G->PH->Prop} {f:Operand} {params:Array Tmp} {assign body:Code} {v:Value} {Y:List Value->G->PH->(Nat->G->PH->Prop)->Prop}
theorem QK {o:G->PH->Prop} (it:iX P v Y g H λ_ q H=>o q H) (hf:ev ρ f=v) (c:Md TT) (x:params.toList.all (λp=>decide (p<n))=true) (w:Mk rd D M) (hB:Sub B M) (t:wb M TT) (u:G4 rd M)
 (b:∀vs g H K,Y vs g H K->vs.length=params.size/\∀(e:Nat) (m:PH) (r:Loop),r.state= .ready->
  yM P (some e) n [.code assign,.beginRound,.code body] (vx ρ params.toList vs) (m.bQ e (.loop r)) (m.bQ e (.loop (lr r))) TT g H λf ρ' a H'=>∃j,vy [] j f/\K j a H')
 (s:∀a H',o a H'->yM P rd n k ρ B B' TT a H' Q):
 Go P rd n (.code (.rangeFunc f params assign body)::k) ρ D (M.join (TT g)) H (kL rd B' TT Q):=
 Jb [] hf it c x w hB t u b λj a H' h=>by
  cases j with
  |zero=>exact s _ _ h
  |succ j=>exact s _ _ h
theorem DD {c1:Code} {o s:G->PH->Prop} (it:iX P v Y g H λj q H=>aL (j==1) (s q H) (o q H)) (hf:ev ρ f=v) (c:Md TT) (z:params.toList.all (λp=>decide (p<n))=true) (y:Mk rd D M) (hB:Sub B M) (w:wb M TT) (x:G4 rd M)
 (b:∀vs g H K,Y vs g H K->vs.length=params.size/\∀(e:Nat) (m:PH) (r:Loop),r.state= .ready->
  yM P (some e) n [.code assign,.beginRound,.code body] (vx ρ params.toList vs) (m.bQ e (.loop r)) (m.bQ e (.loop (lr r))) TT g H λf ρ' a H'=>∃j,vy [c1] j f/\K j a H')
 (t:∀a H',o a H'->yM P rd n k ρ B B' TT a H' Q) (u:∀a H',s a H'->yM P rd n (.code c1::k) ρ B B' TT a H' Q):
 Go P rd n (.code (.rangeFunc f params assign body)::k) ρ D (M.join (TT g)) H (kL rd B' TT Q):=
 Jb [c1] hf it c z y hB w x b λj a H' h=>by
  match j,h with
  | 0,h=>exact t _ _ (h.2 rfl)
  | 1,h=>exact u _ _ (h.1 rfl)
  |j+2,h=>exact t _ _ (h.2 (by simp))
end
end Go.Kx
end
section
namespace Go.Kx.W
section
variable {P:Program} {rd:Option Nat} {n:Nat} {k:List Item} {ρ:Env} {D:List Deferred} {T H:PH} {Q:ll} {ops:Array Oper} {l:List Oper} {i:Nat}
theorem s {x y:Code} (h:Go P rd n (.code x:: .code y::k) ρ D T H Q):Go P rd n (.code (.seq x y)::k) ρ D T H Q:=.seq h
theorem r {id:Nat} (h:ba P rd n ops ops.toList 0 k ρ D T H Q):Go P rd n (.code (.region id ops false)::k) ρ D T H Q:=.region rfl h
theorem R {id:Nat} {y:Code} (h:ba P rd n ops ops.toList 0 (.code y::k) ρ D T H Q):Go P rd n (.code (.seq (.region id ops false) y)::k) ρ D T H Q:=.seq (.region rfl h)
theorem z (h:Go P rd n k ρ D T H Q):ba P rd n ops [] i k ρ D T H Q:=.nil h
theorem b {id:Nat} {c:Code} (h:Go P rd n (.code c:: .inBlock id::k) ρ D T H Q):Go P rd n (.code (.block id c)::k) ρ D T H Q:=.block h
theorem B {l:Nat} (h:Go P rd n k ρ D T H Q):Go P rd n (.inBlock l::k) ρ D T H Q:=.inBlock h
theorem K (h:Go P rd n k ρ D T H Q):Go P rd n (.code .skip::k) ρ D T H Q:=.skip h
theorem X {id:Nat} {a:List Item} (he:exitTo id k=some a) (h:Go P rd n a ρ D T H Q):Go P rd n (.code (.exit id)::k) ρ D T H Q:=.exit he h
theorem dr {id:Nat} {a:List Deferred} (hm:P.follows .mixedOrders=true) (h:bF P rd n ops k 0 [] ρ a T H Q):Go P rd n (.code (.region id ops true)::k) ρ a T H Q:=.draw hm h
theorem q {d:Nat} {i':Op} {ty:TypeId} {p:String} {af:Array Edge} {v:Value} (a:bx P ρ ⟨some d,i',ty,p,af,none⟩ H v) (h:ba P rd n ops l (i+1) k (bQ ρ d v) D T H Q) (hd:Nat.blt d n=true:=by rfl):
 ba P rd n ops (⟨some d,i',ty,p,af,none⟩::l) i k ρ D T H Q:=.q rfl rfl (Nat.le_of_ble_eq_true hd) a h
theorem w {d j e:Nat} {c g:Bool} {i':Op} {ty:TypeId} {p:String} {af:Array Edge} {v:Value} (a:c=g) (m:bx P ρ ⟨some d,i',ty,p,af,some (j,g)⟩ H v) (h:ba P rd n ops l (i+1) k (bQ ρ d v) D T H Q)
 (he:(ops[j]?).bind (·.dst)=some e:=by rfl) (o:ρ e= .bool c:=by first|rfl|assumption) (hd:Nat.blt d n=true:=by rfl):
 ba P rd n ops (⟨some d,i',ty,p,af,some (j,g)⟩::l) i k ρ D T H Q:=.q (nc rfl he o a) rfl (Nat.le_of_ble_eq_true hd) m h
theorem o {d j e:Nat} {c g:Bool} {i':Op} {ty:TypeId} {p:String} {af:Array Edge} (a:c= !g) (h:ba P rd n ops l (i+1) k (bQ ρ d undef) D T H Q)
 (he:(ops[j]?).bind (·.dst)=some e:=by rfl) (m:ρ e= .bool c:=by first|rfl|assumption) (hd:Nat.blt d n=true:=by rfl):
 ba P rd n ops (⟨some d,i',ty,p,af,some (j,g)⟩::l) i k ρ D T H Q:=QB (MT rfl he m a) rfl (Nat.le_of_ble_eq_true hd) h
theorem u {d j e:Nat} {g:Bool} {i':Op} {ty:TypeId} {p:String} {af:Array Edge} (h:ba P rd n ops l (i+1) k (bQ ρ d undef) D T H Q)
 (he:(ops[j]?).bind (·.dst)=some e:=by rfl) (a:ρ e=undef:=by rfl) (hd:Nat.blt d n=true:=by rfl):
 ba P rd n ops (⟨some d,i',ty,p,af,some (j,g)⟩::l) i k ρ D T H Q:=QB (Fc rfl he a) rfl (Nat.le_of_ble_eq_true hd) h
theorem y {α:Type} {G:Prop} {A K:α->Prop} (h:∃x,A x/\K x) (g:∀x,A x->K x->G):G:=by grind
theorem t {G A K:Prop} (h:A/\K) (g:A->K->G):G:=g h.1 h.2
theorem J {b:Bool} {A B G:Prop} (h:aL b A B) (g1:b=true->A->G) (a:b=false->B->G):G:=by
 cases b with
 |false=>exact a rfl (h.2 rfl)
 |true=>exact g1 rfl (h.1 rfl)
theorem C {c:Operand} {x y:Code} {b:Bool} (a:b=true) (m:ev ρ c= .bool b) (h:Go P rd n (.code x::k) ρ D T H Q):Go P rd n (.code (.cond c x y)::k) ρ D T H Q:=.ZQ (Xw m a) h
theorem N {c:Operand} {x y:Code} {b:Bool} (a:b=false) (m:ev ρ c= .bool b) (h:Go P rd n (.code y::k) ρ D T H Q):Go P rd n (.code (.cond c x y)::k) ρ D T H Q:=.ZR (Xx m a) h
section
variable {xs:Array Operand} {ats:Array TypeId} {f:FuncId} {vs:List Value} {d:Nat} {ty:TypeId} {p:String} {af:Array Edge}
theorem c1 {α:Type} {e:α->Value} {K:α->PH->Prop} (hf:Body P f) (a:fU P f vs.toArray H λv H'=>∃x,v=e x/\K x H') (m:xs.toList.map (ev ρ)=vs) (h:∀x H',K x H'->ba P rd n ops l (i+1) k (bQ ρ d (e x)) D T H' Q) (hd:Nat.blt d n=true:=by rfl):
 ba P rd n ops (⟨some d,.call ⟨.value (.func f),xs,ats⟩,ty,p,af,none⟩::l) i k ρ D T H Q:=
 vD rfl (Nat.le_of_ble_eq_true hd) hf a m λv H' ⟨x,e,q⟩=>by subst e;exact h x H' q
theorem c2 {α β:Type} {e:α->β->Value} {K:α->β->PH->Prop} (hf:Body P f) (a:fU P f vs.toArray H λv H'=>∃x y,v=e x y/\K x y H') (m:xs.toList.map (ev ρ)=vs) (h:∀x y H',K x y H'->ba P rd n ops l (i+1) k (bQ ρ d (e x y)) D T H' Q) (hd:Nat.blt d n=true:=by rfl):
 ba P rd n ops (⟨some d,.call ⟨.value (.func f),xs,ats⟩,ty,p,af,none⟩::l) i k ρ D T H Q:=
 vD rfl (Nat.le_of_ble_eq_true hd) hf a m λv H' ⟨x,y,e,q⟩=>by subst e;exact h x y H' q
theorem c3 {α β γ:Type} {e:α->β->γ->Value} {K:α->β->γ->PH->Prop} (hf:Body P f) (a:fU P f vs.toArray H λv H'=>∃x y z,v=e x y z/\K x y z H') (m:xs.toList.map (ev ρ)=vs) (h:∀x y z H',K x y z H'->ba P rd n ops l (i+1) k (bQ ρ d (e x y z)) D T H' Q) (hd:Nat.blt d n=true:=by rfl):
 ba P rd n ops (⟨some d,.call ⟨.value (.func f),xs,ats⟩,ty,p,af,none⟩::l) i k ρ D T H Q:=
 vD rfl (Nat.le_of_ble_eq_true hd) hf a m λv H' ⟨x,y,z,e,q⟩=>by subst e;exact h x y z H' q
variable {j e0:Nat} {cb g:Bool}
theorem k1 {α:Type} {e:α->Value} {K:α->PH->Prop} (a:cb=g) (hf:Body P f) (m:fU P f vs.toArray H λv H'=>∃x,v=e x/\K x H') (r:xs.toList.map (ev ρ)=vs) (h:∀x H',K x H'->ba P rd n ops l (i+1) k (bQ ρ d (e x)) D T H' Q)
 (he:(ops[j]?).bind (·.dst)=some e0:=by rfl) (o:ρ e0= .bool cb:=by first|rfl|assumption) (hd:Nat.blt d n=true:=by rfl):
 ba P rd n ops (⟨some d,.call ⟨.value (.func f),xs,ats⟩,ty,p,af,some (j,g)⟩::l) i k ρ D T H Q:=
 vD (nc rfl he o a) (Nat.le_of_ble_eq_true hd) hf m r λv H' ⟨x,e,q⟩=>by subst e;exact h x H' q
theorem k2 {α β:Type} {e:α->β->Value} {K:α->β->PH->Prop} (a:cb=g) (hf:Body P f) (m:fU P f vs.toArray H λv H'=>∃x y,v=e x y/\K x y H') (r:xs.toList.map (ev ρ)=vs) (h:∀x y H',K x y H'->ba P rd n ops l (i+1) k (bQ ρ d (e x y)) D T H' Q)
 (he:(ops[j]?).bind (·.dst)=some e0:=by rfl) (o:ρ e0= .bool cb:=by first|rfl|assumption) (hd:Nat.blt d n=true:=by rfl):
 ba P rd n ops (⟨some d,.call ⟨.value (.func f),xs,ats⟩,ty,p,af,some (j,g)⟩::l) i k ρ D T H Q:=
 vD (nc rfl he o a) (Nat.le_of_ble_eq_true hd) hf m r λv H' ⟨x,y,e,q⟩=>by subst e;exact h x y H' q
end
section
variable {S:Nat} {L:List Nat} {d:Nat} {i':Op} {ty:TypeId} {p':String} {af:Array Edge} {v:Value} {j e:Nat} {c g:Bool}
theorem p (i:Nat) (a:ops[i]?=some ⟨some d,i',ty,p',af,none⟩) (m:bx P ρ ⟨some d,i',ty,p',af,none⟩ PH.none v) (h:bF P rd n ops k (S|||2 ^ i) L (bQ ρ d v) D T H Q) (o:zz ops S i d (S|||2 ^ i)=true:=by decide+kernel):bF P rd n ops k S L ρ D T H Q:=
 C8 a o rfl m h
theorem pl (i:Nat) (a:ops[i]?=some ⟨some d,i',ty,p',af,none⟩) (m:bx P ρ ⟨some d,i',ty,p',af,none⟩ H v) (h:bF P rd n ops k (S|||2 ^ i) (i::L) (bQ ρ d v) D T H Q) (o:zz ops S i d (S|||2 ^ i)=true:=by decide+kernel):bF P rd n ops k S L ρ D T H Q:=
 C9 a o rfl m h
theorem Z (h:Go P rd n k ρ D T H Q) (a:(xg ops&&zy ops n&&(List.range ops.size).all λi=>S.testBit i)=true:=by decide+kernel):bF P rd n ops k S L ρ D T H Q:=HY a h
end
end
section
variable {P:Program} {ρ:Env} {T H:PH} {d:Option Nat} {ty:TypeId} {p:String} {af:Array Edge} {g:Option (Nat×Bool)} {x:Operand}
theorem mP {a:Option Addr} (h:ev ρ x= .pointer a):bx P ρ ⟨d,.move x,ty,p,af,g⟩ H (.pointer a):=mu h
theorem mI {k:IntKind} {a:Int} (h:ev ρ x= .int k a):bx P ρ ⟨d,.move x,ty,p,af,g⟩ H (.int k a):=mu h
theorem mB {a:Bool} (h:ev ρ x= .bool a):bx P ρ ⟨d,.move x,ty,p,af,g⟩ H (.bool a):=mu h
theorem mS {a:Sl} (h:ev ρ x=Sl.v a):bx P ρ ⟨d,.move x,ty,p,af,g⟩ H (Sl.v a):=mu h
theorem aI {k:IntKind} {a:Int} (h:ev ρ x= .int k a):bx P ρ ⟨d,.assign x,ty,p,af,g⟩ H (.int k a):=Ek h
theorem aB {a:Bool} (h:ev ρ x= .bool a):bx P ρ ⟨d,.assign x,ty,p,af,g⟩ H (.bool a):=Ek h
variable {c y:Operand} {b:Bool}
theorem jB {a:Bool} (m:b=true) (o:ev ρ c= .bool b) (h:ev ρ x= .bool a):bx P ρ ⟨d,.pick c x y,ty,p,af,g⟩ H (.bool a):=MP (Xw o m) h
theorem nB {a:Bool} (m:b=false) (o:ev ρ c= .bool b) (h:ev ρ y= .bool a):bx P ρ ⟨d,.pick c x y,ty,p,af,g⟩ H (.bool a):=MQ (Xx o m) h
theorem n {x:Operand} {a:Addr} {q:Option Addr} (h:q=some a) (m:ev ρ x= .pointer q):bx P ρ ⟨d,.nilCheck x,ty,p,af,g⟩ H (.pointer (some a)):=Bh (ptn m h)
end
section
variable {P:Program} {n:Nat} {ρ:Env} {D:List Deferred} {T H:PH} {k:List Item} {rd:Option Nat} {fn:Func} {R:Value->PH->Prop} {v:Value}
theorem E (h:jj P fn ρ H v) (m:R v H):Go P rd n (.code .ret::k) ρ [] PH.none H λfi ρ D a H'=>(fi= .ret∨fi= .lk)/\∃v Tg,qa D a Tg/\jj P fn ρ H' v/\R v H':=.ret ⟨.inl rfl,_,_,qa.nil,h,m⟩
end
theorem f:type_of% @AX:=@AX
theorem a:type_of% @C3:=@C3
theorem e:type_of% @C5:=@C5
theorem A:type_of% @Aq:=@Aq
theorem V {P:Program} {ρ:Env} {H:PH} {o:Oper} (v:Value) (h:bx P ρ o H v):bx P ρ o H v:=h
section
variable {P:Program} {rd:Option Nat} {n:Nat} {k:List Item} {ρ:Env} {D:List Deferred} {T H:PH} {Q:ll} {ops:Array Oper} {l:List Oper} {i:Nat}
theorem gY {A G:Prop} (a:A) (f:A->G):G:=f a
abbrev VP (a:Option Addr):Value:=.pointer a
abbrev VA (a:Addr):Value:=.pointer (some a)
abbrev VI (a:Int):Value:=.int .i64 a
abbrev VB (a:Bool):Value:=.bool a
theorem od {d:Nat} {i':Op} {ty:TypeId} {p:String} {af:Array Edge} (h:dT P ρ ⟨some d,i',ty,p,af,none⟩ T H λv m H'=>ba P rd n ops l (i+1) k (bQ ρ d v) D m H' Q) (a:Nat.blt d n=true:=by rfl):ba P rd n ops (⟨some d,i',ty,p,af,none⟩::l) i k ρ D T H Q:=zB rfl rfl (Nat.le_of_ble_eq_true a) h
theorem st {t m:Nat} {x y:Operand} {a:Addr} {v:Value} {vs:List Value} {o:PH->Prop} {ty:TypeId} {p:String} {af:Array Edge} (h:aV H a vs o) (q:(P.info? t).map (·.size)=some m) (B:ev ρ x= .pointer (some a)) (C:ev ρ y=v) (g:∀H',o H'->ba P rd n ops l (i+1) k ρ D T H' Q)
 (r:v.cells=vs.toArray:=by exact rfl) (z:vs.length=m:=by exact rfl):ba P rd n ops (⟨none,.store t x y,ty,p,af,none⟩::l) i k ρ D T H Q:=by
 obtain⟨b,off,cs,e,s,u,w,A,h⟩:=h
 exact MU rfl rfl (El q (Xy B s) C r z A u w (g _ h))
section
variable {S:Nat} {L:List Nat} {j:Nat}
theorem po (j:Nat) {o:Oper} (r:ops[j]?=some o) (h:dT P ρ o T H λv q H'=>∃a,Re P ops j ρ (ku ρ o.dst v) H' L a/\bF P rd n ops k (S|||2 ^ j) a (ku ρ o.dst v) D q H' Q)
 (m:DB ops n S [j]=true:=by decide+kernel) (hw:want ops ρ o=true:=by rfl):bF P rd n ops k S L ρ D T H Q:=Bj m r rfl hw h
theorem pO (j:Nat) {o:Oper} (r:ops[j]?=some o) (hw:want ops ρ o=true) (h:dT P ρ o T H λv q H'=>∃a,Re P ops j ρ (ku ρ o.dst v) H' L a/\bF P rd n ops k (S|||2 ^ j) a (ku ρ o.dst v) D q H' Q)
 (m:DB ops n S [j]=true:=by decide+kernel):bF P rd n ops k S L ρ D T H Q:=Bj m r rfl hw h
theorem re {α:Type} {A B:α->Prop} {x:α} (a:A x) (b:B x):∃x,A x/\B x:=⟨x,a,b⟩
theorem rl {ρ2:Env} {m:PH} {x:Nat} {r o:List Nat} (c:List Nat) (h:Re P ops j ρ ρ2 m r o) (a:(chain ops (x::c)&&(x::c).getLast?==some j)=true:=by decide+kernel):Re P ops j ρ ρ2 m (x::r) o:=by
 simp only[Bool.and_eq_true,beq_iff_eq] at a
 exact .inl ⟨⟨c,a.1,a.2⟩,h⟩
theorem rr {ρ2:Env} {a:PH} {x d:Nat} {o:Oper} {r m:List Nat} (q:ops[x]?=some o) (hd:o.dst=some d) (s:bx P ρ2 o a (ρ d)) (h:Re P ops j ρ ρ2 a r m):Re P ops j ρ ρ2 a (x::r) (x::m):=.inr ⟨⟨o,d,q,hd,s⟩,m,rfl,h⟩
end
section
variable {d:Option Nat} {ty:TypeId} {p:String} {af:Array Edge} {gu:Option (Nat×Bool)} {K:Value->PH->PH->Prop} {xs:Array Operand} {ats:Array TypeId} {f:FuncId} {vs:List Value}
theorem d1 {α:Type} {e:α->Value} {a:α->PH->Prop} (hf:Body P f) (m:fU P f vs.toArray H λv H'=>∃x,v=e x/\a x H') (o:xs.toList.map (ev ρ)=vs) (h:∀x H',a x H'->K (e x) T H'):dT P ρ ⟨d,.call ⟨.value (.func f),xs,ats⟩,ty,p,af,gu⟩ T H K:=
 wj hf o m (by grind)
theorem d2 {α β:Type} {e:α->β->Value} {a:α->β->PH->Prop} (hf:Body P f) (m:fU P f vs.toArray H λv H'=>∃x y,v=e x y/\a x y H') (o:xs.toList.map (ev ρ)=vs) (h:∀x y H',a x y H'->K (e x y) T H'):dT P ρ ⟨d,.call ⟨.value (.func f),xs,ats⟩,ty,p,af,gu⟩ T H K:=
 wj hf o m (by grind)
theorem dS {t m:Nat} {x y:Operand} {a:Addr} {v:Value} {vs:List Value} {o:PH->Prop} (h:aV H a vs o) (q:(P.info? t).map (·.size)=some m) (B:ev ρ x= .pointer (some a)) (C:ev ρ y=v) (g:∀H',o H'->K undef T H')
 (r:v.cells=vs.toArray:=by exact rfl) (z:vs.length=m:=by exact rfl):dT P ρ ⟨d,.store t x y,ty,p,af,gu⟩ T H K:=by
 obtain⟨b,off,cs,e,s,u,w,A,h⟩:=h
 exact El q (Xy B s) C r z A u w (g _ h)
end
end
section
variable {P:Program} {ρ:Env} {T H:PH} {d:Option Nat} {ty:TypeId} {p:String} {af:Array Edge} {g:Option (Nat×Bool)} {x:Operand}
theorem mT {a:Array Value} (h:ev ρ x= .tuple a):bx P ρ ⟨d,.move x,ty,p,af,g⟩ H (.tuple a):=mu h
end
section
variable {P:Program} {n:Nat} {ρ:Env} {D:List Deferred} {T H:PH} {k:List Item} {rd:Option Nat} {fn:Func}
theorem E1 {α:Type} {e:α->Value} {K:α->PH->Prop} {a:Tmp} {x:α} (m:fn.results= #[.tmp a]) (o:ρ a=e x) (q:K x H):Go P rd n (.code .ret::k) ρ [] PH.none H λfi ρ D h H'=>(fi= .ret∨fi= .lk)/\∃v Tg,qa D h Tg/\jj P fn ρ H' v/\∃x,v=e x/\K x H':=
 .ret ⟨.inl rfl,_,_,qa.nil,Xq m o,x,rfl,q⟩
theorem F {f:FuncId} {c:Code} {a:Array Value} {R:Value->PH->Prop} (hf:P.funcs[f]?=some fn) (o:fn.body=some c) (q:fn.ntmps=n)
 (h:Go P Option.none n [.code c] (Be a) [] PH.none H λfi ρ D m H'=>(fi= .ret∨fi= .lk)/\∃v Tg,qa D m Tg/\jj P fn ρ H' v/\R v H') (r:Nat.ble a.size n=true:=by rfl):fU P f a H R:=
 yy hf o q (by simp_all) h
end
end Go.Kx.W
end
section
namespace Go.Kx
section
variable {α:Type} {enc:α->List Value} {sz:Nat}
def bj (enc:α->List Value) (sz:Nat) (H:PH) (s:Sl) (l:List α):Prop:=
 (s=Sl.nil/\l=[])∨∃b sp e spare,s=⟨some ⟨b,0,none⟩,l.length,l.length+sp⟩/\List.length spare=sp*sz/\H b=some (row (l.flatMap enc++spare) e)
theorem fL (a:∀x,(enc x).length=sz):∀l:List α,(l.flatMap enc).length=l.length*sz
 |[]=>by simp
 |x::l=>by
  rw[List.flatMap_cons,List.length_append,a,fL a l,List.length_cons,Nat.add_mul,Nat.one_mul,Nat.add_comm]
theorem qp {l:List α} {i:Nat} {x:α} (a:l[i]?=some x):l.flatMap enc=(l.take i).flatMap enc++enc x++(l.drop (i+1)).flatMap enc:=by
 have hi:=(List.getElem?_eq_some_iff.1 a).1
 have he:=(List.getElem?_eq_some_iff.1 a).2
 have e:l=l.take i++x::l.drop (i+1):=by
  rw[←he,List.getElem_cons_drop,List.take_append_drop]
 conv=>lhs;rw[e]
 simp
theorem rP (a:∀x,(enc x).length=sz) {l:List α} {i:Nat} (hi:i<=l.length):((l.take i).flatMap enc).length=i*sz:=by
 rw[fL a,List.length_take,Nat.min_eq_left hi]
theorem bj.len {H:PH} {s:Sl} {l:List α} (h:bj enc sz H s l):s.len=l.length:=by
 rcases h with⟨rfl,rfl⟩|⟨b,sp,e,spare,rfl,_⟩<;>rfl
theorem bj.bL {H:PH} {s:Sl} {l:List α} (h:bj enc sz H s l):(s.len:Int)=l.length:=by rw[h.len]
theorem bj.ext {A B:PH} {s:Sl} {l:List α} (h:bj enc sz A s l) (x:Ext A B):bj enc sz B s l:=by
 rcases h with h|⟨b,sp,e,spare,a,c,d⟩
 ·exact .inl h
 ·exact .inr ⟨b,sp,e,spare,a,c,x _ _ d⟩
theorem bj.cq {A B:PH} {s:Sl} {l:List α} (h:bj enc sz A s l) (x:∀c o,s.has c->A c=some o->B c=some o):bj enc sz B s l:=by
 rcases h with h|⟨b,sp,e,spare,a,d,f⟩
 ·exact .inl h
 ·exact .inr ⟨b,sp,e,spare,a,d,x _ _ ⟨_,by rw[a],rfl⟩ f⟩
theorem bj.iI {H H':PH} {s:Sl} {l:List α} {e:TypeId} (h:wk H (row (l.flatMap enc) e) l.length l.length s H'):bj enc sz H' s l:=by
 obtain⟨b,a,rfl,rfl⟩:=h
 exact .inr ⟨b,0,e,[],by simp,by simp,by simp⟩
theorem bj.xk {H H':PH} {s:Sl} {l:List α} {e:TypeId} {cs:List Value} {n:Nat} (h:wk H (row cs e) n n s H') (a:cs=l.flatMap enc) (b:n=l.length):bj enc sz H' s l:=by
 subst a;subst b;exact .iI h
structure qq (enc:α->List Value) (sz:Nat) (H:PH) (s:Sl) (l:List α) (i:Nat) (x:α) (a:Addr):Prop where
 at_:∃b sp e spare,s=⟨some ⟨b,0,none⟩,l.length,l.length+sp⟩/\List.length spare=sp*sz/\H b=some (row (l.flatMap enc++spare) e)/\a=⟨b,i*sz,none⟩
 get:l[i]?=some x
theorem sk {H:PH} {s:Sl} {l:List α} {i:Int} {K:Addr->Prop} (h:bj enc sz H s l) (d:0<=i) (f:i<l.length) (k:∀a x,qq enc sz H s l i.toNat x a->K a):bX s sz i K:=by
 rcases h with⟨rfl,rfl⟩|⟨b,sp,e,spare,rfl,g,j⟩
 ·grind
 ·have c:i.toNat<l.length:=by omega
  exact⟨_,⟨_,rfl,d,by simpa using f,rfl⟩,k _ l[i.toNat] ⟨⟨b,sp,e,spare,rfl,g,j,by rw[fV,Nat.zero_add]⟩,by simp[c]⟩⟩
theorem qq.lt {H:PH} {s:Sl} {l:List α} {i:Nat} {x:α} {a:Addr} (h:qq enc sz H s l i x a):i<l.length:=(List.getElem?_eq_some_iff.1 h.get).1
theorem qq.cells (c:∀x,(enc x).length=sz) {H:PH} {s:Sl} {l:List α} {i:Nat} {x:α} {a:Addr} (h:qq enc sz H s l i x a):cI H a sz=some (enc x):=by
 obtain⟨⟨b,sp,e,spare,rfl,g,f,rfl⟩,d⟩:=h
 have hi:=(List.getElem?_eq_some_iff.1 d).1
 have k:=qp (enc:=enc) d
 have j:=rP c (l:=l) (i:=i) (by omega)
 rw[qJ f (by
  grind)]
 grind
theorem qq.cell (c:∀x,(enc x).length=sz) {H:PH} {s:Sl} {l:List α} {i j:Nat} {x:α} {a:Addr} {v:Value} (h:qq enc sz H s l i x a) (g:(enc x)[j]?=some v):cellAt H (a.add j)=some v:=by
 obtain⟨⟨b,sp,e,spare,rfl,n,f,rfl⟩,d⟩:=h
 have hi:=(List.getElem?_eq_some_iff.1 d).1
 have k:=qp (enc:=enc) d
 have o:=rP c (l:=l) (i:=i) (by omega)
 have m:=(List.getElem?_eq_some_iff.1 g).1
 rw[fV,yD f,k]
 grind
theorem ldN (b:∀x,(enc x).length=sz) {H:PH} {s:Sl} {l:List α} {i:Nat} {x:α} {a:Addr} {K:List Value->Prop} (h:qq enc sz H s l i x a) (c:K (enc x)):C6 H a sz K:=⟨_,h.cells b,c⟩
theorem Me (d:∀x,(enc x).length=sz) {H:PH} {s:Sl} {l:List α} {i:Nat} {x y:α} {a:Addr} {K:PH->Prop} (h:qq enc sz H s l i x a) (n:(enc y).all cg=true) (j:∀H',bj enc sz H' s (l.set i y)->wm s H H'->K H'):aV H a (enc y) K:=by
 have hi:=h.lt
 obtain⟨⟨b,sp,e,spare,rfl,f,g,rfl⟩,p⟩:=h
 have t:=qp (enc:=enc) p
 have r:=rP d (l:=l) (i:=i) (by omega)
 have hlen:i*sz+sz<=(l.flatMap enc++spare).length:=by grind
 refine⟨b,i*sz,_,e,rfl,g,by rw[d];exact hlen,n,j _ (.inr ⟨b,sp,e,spare,by simp,f,?_⟩) λc o k m=>?_⟩
 ·rw[PH.eH,kK _ _ _ (by rw[d];exact hlen)]
  congr 2
  have q:(l.set i y).flatMap enc=(l.take i).flatMap enc++enc y++(l.drop (i+1)).flatMap enc:=by
   have:=qp (enc:=enc) (l:=l.set i y) (i:=i) (x:=y) (by grind)
   rw[this,List.take_set_of_le (by simp),List.drop_set_of_lt (by omega)]
  grind
 ·rw[PH.al _ _ (λe=>m ⟨_,rfl,e.symm⟩)];exact k
theorem Fi (z:List Value):∀n:Nat,cN n z=(List.replicate n z).flatten
 | 0=>by simp[cN]
 |n+1=>by
  have b:=Fi z n
  have e:cN (n+1) z=cN n z++z:=by
   by_cases d:z.length=0
   ·have:z=[]:=(by grind)
    subst this;simp[cN]
   ·unfold cN
    rw[Nat.add_mul,Nat.one_mul,List.range_add,List.map_append,List.map_map]
    congr 1
    apply List.ext_getElem
    ·simp
    ·intro i c a
     have hi:i<z.length:=a
     simp[Nat.mul_add_mod,Nat.add_mod,Nat.mod_eq_of_lt hi,hi]
  rw[e,b,List.replicate_succ',List.flatten_append];simp
theorem Bo {n:Nat} {x:α}:cN n (enc x)=(List.replicate n x).flatMap enc:=by rw[Fi];simp[List.flatMap_def]
theorem mkN {H:PH} {e m:Nat} {x:α} {n:Int} {K:Sl->PH->Prop} (b:0<=n) (hm:(m:Int)*n<=2 ^ 48)
 (c:∀r H',Ext H H'->kz H r->bj enc sz H' r (List.replicate n.toNat x)->K r H'):zA H e m (enc x) n n K:=by
 refine⟨⟨b,Int.le_refl _,hm⟩,λr H' a=>c r H' (.nD a) (.iI a) (bj.xk a Bo (by simp))⟩
theorem bj.cells (a:∀x,(enc x).length=sz) (g:0<sz) {H:PH} {s:Sl} {l:List α} (h:bj enc sz H s l):eQ H s sz=some (l.flatMap enc):=by
 unfold eQ
 rcases h with⟨rfl,rfl⟩|⟨b,sp,e,spare,rfl,f,c⟩
 ·simp
 ·simp only
  by_cases d:l.length=0
  ·have:l=[]:=(by grind)
   subst this;simp[cI]
  ·rw[qJ c (by rw[List.length_append,fL a];omega)]
   rw[List.drop_zero,List.take_append_of_le_length (by rw[fL a];omega),List.take_of_length_le (by rw[fL a];omega)]
theorem bj.bound {H:PH} {s:Sl} {l:List α} (h:bj enc sz H s l):s.len<=s.cap:=by
 rcases h with⟨rfl,rfl⟩|⟨b,sp,e,spare,rfl,a,c⟩<;>simp
theorem TJ (d:∀x,(enc x).length=sz) (A:0<sz) {H:PH} {e m:Nat} {zs:List Value} {s x:Sl} {l ys:List α} {K:Sl->PH->Prop} (k:bj enc sz H s l) (D:eQ H x sz=some (ys.flatMap enc)) (f:x.len=ys.length) (i:∀y,(enc y).all cg=true) (F:zs.length=sz)
 (I:(4*(l.length+ys.length)+4096)*m<=2 ^ 48)
 (p:∀r H',bj enc sz H' r (l++ys)->wm s H H'->(∀c,r.has c->s.has c∨H c=none)->K r H'):fh H e sz m zs s x K:=by
 have w:=k.len
 refine⟨ys.flatMap enc,D,by rw[fL d,f],by grind,?_⟩
 split
 ·rename_i hle
  rcases k with⟨rfl,rfl⟩|⟨b,sp,t,spare,rfl,n,u⟩
  ·have E:ys=[]:=by
    grind
   subst E
   refine⟨by simp,p _ _ (.inl ⟨by simp at f;simp[f],rfl⟩) (λc o h _=>h) λc i=>?_⟩
   grind
  ·simp only at hle ⊢
   have z:ys.length<=sp:=by omega
   have hmul:ys.length*sz<=sp*sz:=Nat.mul_le_mul_right _ z
   refine⟨b,0,_,t,rfl,u,?_,p _ _ (.inr ⟨b,sp-ys.length,t,spare.drop (ys.length*sz),?_,?_,?_⟩) (λc o i C=>?_) λc i=>?_⟩
   ·simp only[Nat.zero_add,List.length_append,fL d,n];omega
   ·grind
   ·rw[List.length_drop,n,Nat.sub_mul]
   ·simp only[PH.eH,Nat.zero_add]
    rw[kK _ _ _ (by simp only[List.length_append,fL d,n];omega)]
    have e1:List.take (l.length*sz) (l.flatMap enc++spare)=l.flatMap enc:=by rw[List.take_append_of_le_length (by rw[fL d];omega),List.take_of_length_le (by rw[fL d];omega)]
    have e2:List.drop (l.length*sz+(ys.flatMap enc).length) (l.flatMap enc++spare)=spare.drop (ys.length*sz):=by
     rw[List.drop_append,List.drop_of_length_le (by rw[fL d,fL d];omega),List.nil_append,fL d,fL d,Nat.add_sub_cancel_left]
    grind
   ·rw[PH.al _ _ (λe=>C ⟨_,rfl,e.symm⟩)];exact i
   ·obtain⟨a,q,g⟩:=i;cases q;exact .inl ⟨_,rfl,g⟩
 ·refine⟨l.flatMap enc,k.cells d A,by grind,k.bound,λb c v G=>?_⟩
  refine p _ _ (.inr ⟨b,c-(s.len+x.len),e,cN (c-(s.len+x.len)) zs,?_,?_,?_⟩) (λB o j _=>?_) λB j=>?_
  ·rw[List.length_append,←w,←f];simp;omega
  ·rw[qG,F]
  ·simp
  ·rw[PH.al _ _ (by grind)];exact j
  ·obtain⟨a,q,g⟩:=j;cases q;subst g;exact .inr v
end
end Go.Kx
end
section
namespace Go.Kx
theorem bj.dg {α:Type} {enc:α->List Value} {sz:Nat} {H:PH} {s:Sl} {l:List α} (h:bj enc sz H s l) {c:Nat} (f:s.has c):∃o,H c=some o:=by
 rcases h with⟨rfl,_⟩|⟨b,sp,e,spare,rfl,_,g⟩
 ·obtain⟨a,d,_⟩:=f;cases d
 ·obtain⟨a,d,rfl⟩:=f;cases d;exact⟨_,g⟩
theorem dX.dg {α:Type} {enc:α->Value} {H:PH} {s:Sl} {l:List α} (h:dX enc H s l) {c:Nat} (f:s.has c):∃o,H c=some o:=by
 rcases h with⟨rfl,_⟩|⟨b,sp,e,rfl,g⟩
 ·obtain⟨a,d,_⟩:=f;cases d
 ·obtain⟨a,d,rfl⟩:=f;cases d;exact⟨_,g⟩
theorem dX.cq {α:Type} {enc:α->Value} {A B:PH} {s:Sl} {l:List α} (h:dX enc A s l) (x:∀c o,s.has c->A c=some o->B c=some o):dX enc B s l:=by
 rcases h with h|⟨b,sp,e,a,d⟩
 ·exact .inl h
 ·exact .inr ⟨b,sp,e,a,x _ _ ⟨_,by rw[a],rfl⟩ d⟩
theorem aa.cq {A B:PH} {a:Addr} {cs:List Value} (h:aa A a cs) (x:∀c o,c=a.block->A c=some o->B c=some o):aa B a cs:=
 ⟨h.1,h.2.1,let⟨e,he⟩:=h.2.2;(by grind)⟩
theorem Dw {H:PH} {c:Nat} (h:∃o,H c=some o):H c≠none:=by grind
theorem Mf {H:PH} {c:Nat} (h:H c≠none):∃o,H c=some o:=by cases a:H c with
 |none=>grind
 |some o=>simp
theorem QL {c:Nat}:¬Sl.nil.has c:=λ⟨a,b,_⟩=>by cases b
structure Ob where
 pred:PH->Prop
 jR:Nat->Prop
 cq:∀{H H':PH},pred H->(∀c o,jR c->H c=some o->H' c=some o)->pred H'
 alloc:∀{H:PH} {c:Nat},pred H->jR c->H c≠none
def Dj (A B:Ob):Prop:=∀c,A.jR c->¬B.jR c
theorem Dj.symm {A B:Ob} (h:Dj A B):Dj B A:=λc b a=>h c a b
structure aA (H:PH) (L:List Ob):Prop where
 all:∀(i:Nat) (O:Ob),L[i]?=some O->O.pred H
 dj:∀(i j:Nat) (A B:Ob),L[i]?=some A->L[j]?=some B->i≠j->Dj A B
def aC (B:PH):Ob:=⟨λH=>Ext B H,λc=>B c≠none,λh x c o a=>x c o (by rw[a];simp) (h c o a),λh a=>by
 obtain⟨o,b⟩:=Mf a
 rw[h _ _ b];simp⟩
def aJ (a:Addr) (cs:List Value):Ob:=⟨λH=>aa H a cs,λc=>c=a.block,λh x=>h.cq x,λh b=>by
 obtain⟨e,he⟩:=h.2.2
 grind⟩
def aS {α:Type} (enc:α->Value) (s:Sl) (l:List α):Ob:=⟨λH=>dX enc H s l,s.has,λh x=>h.cq x,λh a=>Dw (h.dg a)⟩
def au {α:Type} (enc:α->List Value) (sz:Nat) (s:Sl) (l:List α):Ob:=⟨λH=>bj enc sz H s l,s.has,λh x=>h.cq x,λh a=>Dw (h.dg a)⟩
section
variable {H H':PH} {L:List Ob} {O O':Ob}
theorem aA.get (h:aA H L) (i:Nat) (hi:L[i]?=some O):O.pred H:=h.all i O hi
theorem aA.base {B:PH} (h:aA H (aC B::L)):Ext B H:=h.all 0 _ rfl
theorem aA.start (H:PH):aA H [aC H]:=⟨λi O hi=>by
 cases i with
 |zero=>simp at hi;subst hi;exact Ext.refl H
 |succ i=>simp at hi,by grind⟩
theorem aA.cR (h:aA H L) (i:Nat) (hi:L[i]?=some O) (p:O'.pred H') (f:∀c,O'.jR c->O.jR c∨H c=none) (b:∀c o,H c=some o->¬O.jR c->H' c=some o):aA H' (L.set i O'):=by
 have u:=(List.getElem?_eq_some_iff.1 hi).1
 have key:∀(j:Nat) (A:Ob),L[j]?=some A->j≠i->A.pred H'/\Dj A O':=λj A d g=>by
  have q:=h.all j A d
  have hd:=h.dj j i A O d hi g
  refine⟨A.cq q λc o l t=>b c o t (hd c l),λc l hf=>?_⟩
  rcases f c hf with n|n
  ·exact hd c l n
  ·exact A.alloc q l n
 have a:∀(j:Nat) (A:Ob),(L.set i O')[j]?=some A->(j=i/\A=O')∨(j≠i/\L[j]?=some A):=(by grind)
 refine⟨λj A d=>?_,λj k A B d hk g=>?_⟩
 ·grind
 ·rcases a j A d with⟨e,s⟩|⟨e,r⟩<;>rcases a k B hk with⟨e2,v⟩|⟨e2,m⟩
  ·omega
  ·rw[s];exact(key k B m e2).2.symm
  ·grind
  ·exact h.dj j k A B r m g
theorem aA.ext (h:aA H L) (x:Ext H H'):aA H' L:=⟨λi O hi=>O.cq (h.all i O hi) λc o _ a=>x c o a,h.dj⟩
theorem aA.new (h:aA H L) (x:Ext H H') (p:O'.pred H') (f:∀c,O'.jR c->H c=none):aA H' (L++[O']):=by
 have a:∀(j:Nat) (A:Ob),(L++[O'])[j]?=some A->(j=L.length/\A=O')∨(j≠L.length/\L[j]?=some A):=(by grind)
 have key:∀(j:Nat) (A:Ob),L[j]?=some A->Dj A O':=λj A b c g hf=>A.alloc (h.all j A b) g (f c hf)
 refine⟨λj A b=>?_,λj k A B b hk l=>?_⟩
 ·rcases a j A b with⟨rfl,rfl⟩|⟨e,b⟩
  ·exact p
  ·exact A.cq (h.all j A b) λc o _ g=>x c o g
 ·rcases a j A b with⟨e,m⟩|⟨e,i⟩<;>rcases a k B hk with⟨e2,n⟩|⟨e2,d⟩
  ·omega
  ·rw[m];exact(key k B d).symm
  ·grind
  ·exact h.dj j k A B i d l
theorem aA.pick (h:aA H L) (is:List Nat) (b:is.Nodup) {L':List Ob} (m:L'=is.filterMap λi=>L[i]?) (p:is.all (λi=>decide (i<L.length))=true):aA H L':=by
 have hlen:L'.length=is.length:=by
  simp_all
 have a:∀(k:Nat) (A:Ob),L'[k]?=some A->∃i,is[k]?=some i/\L[i]?=some A:=by
  subst m
  clear b hlen
  induction is with
  |nil=>simp
  |cons i is r=>
   grind
 refine⟨λk A hk=>let⟨i,_,hi⟩:=a k A hk;h.all i A hi,λj k A B l hk c=>?_⟩
 obtain⟨i1,a1,d⟩:=a j A l
 obtain⟨i2,f,g⟩:=a k B hk
 refine h.dj i1 i2 A B d g λe=>c ?_
 subst e
 obtain⟨l1,n⟩:=(List.getElem?_eq_some_iff.1 a1)
 obtain⟨l2,o⟩:=(List.getElem?_eq_some_iff.1 f)
 have q:=List.pairwise_iff_getElem.1 b
 grind
theorem aA.init (h:aA H (L++[O])):aA H L:=⟨λi A hi=>h.all i A (by grind),λi j A B hi b a=>
 h.dj i j A B (by grind) (by grind) a⟩
theorem aA.vP {B a:PH} (h:aA H (aC a::L)) (x:Ext B a):aA H (aC B::L):=by
 have key:∀c,(aC B).jR c->(aC a).jR c:=λc b=>by
  obtain⟨o,f⟩:=Mf b
  show a c≠none
  rw[x c o f];simp
 refine⟨λi A hi=>?_,λi j A C hi d e=>?_⟩
 ·cases i with
  |zero=>simp at hi;subst hi;exact x.trans h.base
  |succ i=>exact h.all (i+1) A (by grind)
 ·cases i with
  |zero=>
   simp at hi;subst hi
   cases j with
   |zero=>omega
   |succ j=>exactλc b=>h.dj 0 (j+1) (aC a) C rfl (by grind) (by omega) c (key c b)
  |succ i=>
   cases j with
   |zero=>simp at d;subst d;exactλc b hf=>h.dj (i+1) 0 A (aC a) (by grind) rfl (by omega) c b (key c hf)
   |succ j=>exact h.dj (i+1) (j+1) A C (by grind) (by grind) e
open Classical in
theorem aA.freeze {B:PH} (h:aA H (aC B::L++[O])):∃g,Ext B g/\O.pred g/\aA H (aC g::L):=by
 have p:Ext B H:=h.all 0 _ rfl
 have n:O.pred H:=h.all (L.length+1) O (by simp)
 refine⟨λc=>if B c≠none∨O.jR c then H c else none,λc o a=>?_,O.cq n λc o a q=>?_,?_⟩
 ·show(if B c≠none∨O.jR c then H c else none)=some o
  rw[if_pos (.inl (by rw[a];simp))];exact p c o a
 ·grind
 ·have hi:=h.init
  have m:∀c,(aC λc=>if B c≠none∨O.jR c then H c else none).jR c->(aC B).jR c∨O.jR c:=λc a=>by
   by_cases e:B c≠none∨O.jR c
   ·exact e
   ·exact absurd (if_neg e) a
  have key:∀(j:Nat) (A:Ob),L[j]?=some A->Dj (aC λc=>if B c≠none∨O.jR c then H c else none) A:=λj A d c a hf=>by
   have f:(aC B::L++[O])[j+1]?=some A:=by
    grind
   rcases m c a with k|k
   ·exact h.dj 0 (j+1) _ _ rfl f (by omega) c k hf
   ·have:=(List.getElem?_eq_some_iff.1 d).1
    exact h.dj (L.length+1) (j+1) O A (by simp) f (by omega) c k hf
  refine⟨λi A b=>?_,λi j A C b d l=>?_⟩
  ·cases i with
   |zero=>
    simp at b;subst b
    intro c o a
    grind
   |succ i=>exact hi.all (i+1) A (by grind)
  ·cases i with
   |zero=>
    grind
   |succ i=>
    cases j with
    |zero=>simp at d;subst d;exact(key i A (by simpa using b)).symm
    |succ j=>exact hi.dj (i+1) (j+1) A C (by grind) (by grind) l
theorem lW {cs:List Value} {e:TypeId} {K:Addr->PH->Prop} (h:aA H L) (b:∀a H',aA H' (L++[aJ a cs])->Ext H H'->K a H'):aj H (row cs e) K:=
 kb λa H' x r f=>b a H' (h.new (O':=aJ a cs) x r λc d=>by rw[show c=a.block from d];exact f) x
theorem cU {a:Addr} {cs:List Value} {j:Nat} {v:Value} {K:PH->Prop} (h:aA H L) (i:Nat) (hi:L[i]?=some (aJ a cs)) (e:j<cs.length) (g:cg v=true) (d:∀H',aA H' (L.set i (aJ a (cs.set j v)))->K H'):aV H (a.add j) [v] K:=
 tf (h.get i hi) e g λH' r k=>d H' (h.cR (O':=aJ a (cs.set j v)) i hi r (λc b=>.inl b) λc o b f=>k c o b f)
theorem jF {a:Addr} {v0 v:Value} {K:PH->Prop} (h:aA H L) (i:Nat) (hi:L[i]?=some (aJ a [v0])) (f:cg v=true) (d:∀H',aA H' (L.set i (aJ a [v]))->K H'):aV H a [v] K:=
 uM (h.get i hi) rfl (by simp[f]) λH' r k=>d H' (h.cR (O':=aJ a [v]) i hi r (λc b=>.inl b) λc o b e=>k c o b e)
theorem eB {α:Type} {enc:α->Value} {a:Addr} {x:α} {K:α->Prop} (h:aA H L) (i:Nat) (hi:L[i]?=some (aJ a [enc x])) (c:K x):aH enc H a K:=by
 have:=(h.get i hi)
 have b:cellAt H (a.add 0)=some (enc x):=this.cell rfl
 rw[add_zero'] at b
 exact⟨x,b,c⟩
theorem aU {α:Type} {enc:α->Value} {a:Addr} {cs:List Value} {j:Nat} {x:α} {K:α->Prop} (h:aA H L) (i:Nat) (hi:L[i]?=some (aJ a cs)) (c:cs[j]?=some (enc x)) (b:K x):aH enc H (a.add j) K:=aX (h.get i hi) c b
variable {α:Type} {enc:α->Value}
theorem YD {e m:Nat} {x:α} {n:Int} {K:Sl->PH->Prop} (h:aA H L) (b:0<=n) (hm:(m:Int)*n<=2 ^ 48)
 (c:∀r H',aA H' (L++[aS enc r (List.replicate n.toNat x)])->Ext H H'->K r H'):zA H e m [enc x] n n K:=
 X4 b hm λr H' a o v=>c r H' (h.new (O':=aS enc r (List.replicate n.toNat x)) a v o) a
theorem uk {s:Sl} {l:List α} {j:Int} {x:α} {K:PH->Prop} (h:aA H L) (i:Nat) (hi:L[i]?=some (aS enc s l)) (d:0<=j) (e:j<l.length) (b:cg (enc x)=true)
 (f:∀H',aA H' (L.set i (aS enc s (l.set j.toNat x)))->K H'):bX s 1 j λa=>aV H a [enc x] K:=
 V3 (h.get i hi) d e b λH' v k=>f H' (h.cR (O':=aS enc s (l.set j.toNat x)) i hi v (λc b=>.inl b) λc o b g=>k c o b g)
theorem pe {e m:Nat} {zs:List Value} {s x:Sl} {l ys:List α} {K:Sl->PH->Prop} (h:aA H L) (i:Nat) (hi:L[i]?=some (aS enc s l)) (g:cL enc H x ys) (a:∀y,cg (enc y)=true) (j:zs.length=1)
 (d:(4*(l.length+ys.length)+4096)*m<=2 ^ 48) (b:∀r H',aA H' (L.set i (aS enc r (l++ys)))->K r H'):fh H e 1 m zs s x K:=
 G3 (h.get i hi) g a j d λr H' v k n=>b r H' (h.cR (O':=aS enc r (l++ys)) i hi v n λc o a f=>k c o a f)
theorem aA.Bp (h:aA H L):aA H (L++[aS enc Sl.nil ([]:List α)]):=h.new (O':=aS enc Sl.nil ([]:List α)) (.refl H) (.inl ⟨rfl,rfl⟩) λc a=>absurd a QL
theorem aA.list {s:Sl} {l:List α} (h:aA H L) (i:Nat) (hi:L[i]?=some (aS enc s l)):cL enc H s l:=dX.list (h.get i hi)
theorem aA.aG {N:List Ob} (h:aA H L) (k:aA H' (aC H::N)):aA H' (L++N):=by
 have x:Ext H H':=k.base
 have key:∀(i j:Nat) (A B:Ob),L[i]?=some A->N[j]?=some B->Dj A B:=λi j A B hi b c d hf=>
  k.dj 0 (j+1) (aC H) B rfl (by grind) (by omega) c (A.alloc (h.all i A hi) d) hf
 have a:∀(j:Nat) (A:Ob),(L++N)[j]?=some A->(j<L.length/\L[j]?=some A)∨(L.length<=j/\N[j-L.length]?=some A):=(by grind)
 refine⟨λj A b=>?_,λi j A B hi b e=>?_⟩
 ·rcases a j A b with⟨_,b⟩|⟨_,b⟩
  ·exact A.cq (h.all j A b) λc o _ d=>x c o d
  ·exact k.all (j-L.length+1) A (by grind)
 ·rcases a i A hi with⟨e1,hi⟩|⟨e1,hi⟩<;>rcases a j B b with⟨e2,b⟩|⟨e2,b⟩
  ·exact h.dj i j A B hi b e
  ·grind
  ·exact(key j _ B A b hi).symm
  ·exact k.dj (i-L.length+1) (j-L.length+1) A B (by grind) (by grind) (by omega)
theorem aA.Bq {a:Addr} {v:Value} (h:aA H L) (i:Nat) (hi:L[i]?=some (aJ a [v])):cellAt H a=some v:=by
 have b:cellAt H (a.add 0)=some v:=(h.get i hi:aa H a [v]).cell rfl
 rwa[add_zero'] at b
theorem DE {x:α} {e:TypeId} {K:Sl->PH->Prop} (h:aA H L) (b:∀r H',aA H' (L++[aS enc r [x]])->Ext H H'->K r H'):bZ H (row [enc x] e) 1 K:=by
 intro r H' a
 exact b r H' (h.new (O':=aS enc r [x]) (.nD a) (dX.iI (l:=[x]) (e:=e) a) (kz.iI a)) (.nD a)
def sC (N:List Ob):Ob:=⟨λH=>aA H N,λc=>∃(i:Nat) (O:Ob),N[i]?=some O/\O.jR c,
 λh x=>⟨λi O hi=>O.cq (h.all i O hi) (by grind),h.dj⟩,λh ⟨i,O,hi,a⟩=>O.alloc (h.all i O hi) a⟩
theorem aA.Jc {N:List Ob} (h:aA H (L++N)):aA H (L++[sC N]):=by
 have f:∀(i:Nat) (O:Ob),N[i]?=some O->(L++N)[L.length+i]?=some O:=(by grind)
 have d:∀(i:Nat) (O:Ob),L[i]?=some O->(L++N)[i]?=some O:=(by grind)
 have q:aA H N:=⟨λi O hi=>h.all _ O (f i O hi),λi j A B hi b l=>h.dj _ _ A B (f i A hi) (f j B b) (by omega)⟩
 have a:∀(j:Nat) (A:Ob),(L++[sC N])[j]?=some A->(j=L.length/\A=sC N)∨(j<L.length/\L[j]?=some A):=(by grind)
 have key:∀(j:Nat) (A:Ob),j<L.length->L[j]?=some A->Dj A (sC N):=λj A r b c o ⟨i,O,hi,p⟩=>h.dj j (L.length+i) A O (d j A b) (f i O hi) (by omega) c o p
 refine⟨λj A b=>?_,λj k A B b hk l=>?_⟩
 ·rcases a j A b with⟨rfl,rfl⟩|⟨e,b⟩
  ·exact q
  ·exact h.all j A (d j A b)
 ·rcases a j A b with⟨e,n⟩|⟨e,m⟩<;>rcases a k B hk with⟨e2,s⟩|⟨e2,g⟩
  ·omega
  ·rw[n];exact(key k B e2 g).symm
  ·grind
  ·exact h.dj j k A B (d j A m) (d k B g) l
end
end Go.Kx
end
section
namespace Go.Kx
theorem qb {σ:Type} {k:σ->PH->Prop} {body:(σ->PH->Prop)->Prop} (C:σ->PH->Prop) (b:∀s H,C s H->k s H) (c:∀a:σ->PH->Prop,(∀s H,C s H->a s H)->body a):aO k body:=c k b
section
variable {α:Type} {enc:α->Value} {H:PH} {L:List Ob}
theorem Mg {s:Sl} {l:List α} {lo hi:Int} {K:Sl->Prop} (h:dX enc H s l) (b:0<=lo) (c:lo<=hi) (d:hi<=l.length)
 (e:cL enc H (s.cut 1 lo.toNat hi.toNat) ((l.drop lo.toNat).take (hi.toNat-lo.toNat))->K (s.cut 1 lo.toNat hi.toNat)):kv s 1 lo hi K:=by
 have g:=h.list.1
 have f:=h.list.2.1
 refine⟨_,⟨b,c,by omega,f,rfl⟩,e ?_⟩
 obtain⟨r,⟨_,_,_,_,rfl⟩,a⟩:=ni (K:=λr=>cL enc H r ((l.drop lo.toNat).take (hi.toNat-lo.toNat))) h.list b c d λr a _=>a
 exact a
theorem TK {s x:Sl} {l ys:List α} {lo hi:Nat} {K:Int->PH->Prop} (q:dX enc H s l) (v:lo<=hi) (k:hi<=l.length) (f:cL enc H x ys) (r:∀y,cg (enc y)=true)
 (m:∀H',dX enc H' s (l.take lo++ys.take (hi-lo)++l.drop (lo+min ys.length (hi-lo)))->wm s H H'->K (min ys.length (hi-lo):Nat) H'):nC H 1 (s.cut 1 lo hi) x K:=by
 have w:=q.list.1
 have u:=f.1
 have d:cL enc H ⟨x.a,min x.len (s.cut 1 lo hi).len,x.cap⟩ (ys.take (hi-lo)):=by
  refine⟨by simp only[Sl.cut,List.length_take];omega,by have:=f.2.1;grind,λi y hi=>?_⟩
  rw[List.getElem?_take] at hi
  split at hi
  ·exact f.2.2 i y hi
  ·cases hi
 refine⟨(ys.take (hi-lo)).map enc,d.cells,HZ r _,?_⟩
 have el:min x.len (s.cut 1 lo hi).len=min ys.length (hi-lo):=by simp only[Sl.cut];omega
 rw[el]
 rcases q with⟨rfl,rfl⟩|⟨b,sp,e,rfl,n⟩
 ·simp at k
  subst k
  have:lo=0:=by omega
  subst this
  exact m H (.inl ⟨rfl,by simp⟩) λc o h _=>h
 ·have key:∀cs',cs'=(l.take lo++ys.take (hi-lo)++l.drop (lo+min ys.length (hi-lo))).map enc++sp->K (min ys.length (hi-lo):Nat) (H.bQ b (row cs' e)):=by
   rintro cs' rfl
   refine m _ (.inr ⟨b,sp,e,?_,by simp⟩) λc o p t=>?_
   ·simp;omega
   ·rw[PH.al _ _ (λe=>t ⟨_,rfl,e.symm⟩)];exact p
  simp only[Sl.cut]
  by_cases j:l.length+sp.length=lo
  ·have g:hi-lo=0:=by omega
   rw[if_pos j]
   refine⟨b,0,_,e,rfl,n,by simp[g],key _ ?_⟩
   have:sp=[]:=List.length_eq_zero_iff.1 (by omega)
   subst this
   simp[g,putAt]
  ·rw[if_neg j]
   refine⟨b,lo,_,e,by simp[fV],n,by simp;omega,key _ ?_⟩
   rw[kK _ _ _ (by simp;omega),List.length_map,List.length_take,List.take_append_of_le_length (by simp;omega),List.drop_append_of_le_length (by simp;omega)]
   simp only[List.map_append,List.map_take,List.map_drop,List.append_assoc]
   grind
theorem QM {s:Sl} {l:List α} {x:α} {K:PH->Prop} (j:dX enc H s l) (a:∀H',dX enc H' s (List.replicate l.length x)->wm s H H'->K H'):xf H 1 [enc x] s K:=by
 rcases j with⟨rfl,rfl⟩|⟨b,sp,e,rfl,d⟩
 ·exact .inl ⟨rfl,a H (.inl ⟨rfl,rfl⟩) λc o h _=>h⟩
 ·by_cases g:l.length=0
  ·have:l=[]:=(by grind)
   subst this
   exact .inl ⟨rfl,a H (.inr ⟨b,sp,e,rfl,d⟩) λc o h _=>h⟩
  ·refine .inr (.inr ⟨g,b,0,_,e,rfl,d,by simp,a _ (.inr ⟨b,sp,e,by simp,?_⟩) λc o f i=>?_⟩)
   ·simp only[PH.eH]
    rw[kK _ _ _ (by rw[xc];simp),xc]
    simp
   ·rw[PH.al _ _ (λe=>i ⟨_,rfl,e.symm⟩)];exact f
theorem I9 {s:Sl} {l:List α} {lo hi:Int} {K:Sl->Prop} (h:aA H L) (i:Nat) (a:L[i]?=some (aS enc s l)) (b:0<=lo) (c:lo<=hi) (d:hi<=l.length)
 (e:cL enc H (s.cut 1 lo.toNat hi.toNat) ((l.drop lo.toNat).take (hi.toNat-lo.toNat))->K (s.cut 1 lo.toNat hi.toNat)):kv s 1 lo hi K:=Mg (h.get i a) b c d e
theorem z4 {s x:Sl} {l ys:List α} {lo hi:Nat} {K:Int->PH->Prop} (h:aA H L) (i:Nat) (b:L[i]?=some (aS enc s l)) (d:lo<=hi) (e:hi<=l.length) (j:cL enc H x ys) (a:∀y,cg (enc y)=true)
 (f:∀H',aA H' (L.set i (aS enc s (l.take lo++ys.take (hi-lo)++l.drop (lo+min ys.length (hi-lo)))))->K (min ys.length (hi-lo):Nat) H'):nC H 1 (s.cut 1 lo hi) x K:=
 TK (h.get i b) d e j a λH' v k=>f H' (h.cR (O':=aS enc s _) i b v (λc a=>.inl a) λc o a g=>k c o a g)
theorem Mh {s:Sl} {l:List α} {x:α} {K:PH->Prop} (h:aA H L) (i:Nat) (hi:L[i]?=some (aS enc s l)) (b:∀H',aA H' (L.set i (aS enc s (List.replicate l.length x)))->K H'):xf H 1 [enc x] s K:=
 QM (h.get i hi) λH' v k=>b H' (h.cR (O':=aS enc s (List.replicate l.length x)) i hi v (λc a=>.inl a) λc o a d=>k c o a d)
theorem TL {l:List α} {n k:Nat} {x:α} {z:List α} (hk:k<n) (a:l=List.replicate k x++z) (b:z.length=n-k):
 l.take k++(l.take k).take (n-k)++l.drop (k+min (l.take k).length (n-k))=List.replicate (k+min k (n-k)) x++z.drop (min k (n-k)):=by
 subst a
 have e1:(List.replicate k x++z).take k=List.replicate k x:=by simp
 rw[e1,List.length_replicate,List.take_replicate,List.replicate_append_replicate,List.drop_append,List.drop_of_length_le (by simp),List.nil_append,List.length_replicate,Nat.add_sub_cancel_left,Nat.min_comm (n-k)]
theorem V8 {s x:Sl} {l ys:List α} {K:Int->PH->Prop} (h:aA H L) (i:Nat) (hi:L[i]?=some (aS enc s l)) (e:cL enc H x ys) (a:∀y,cg (enc y)=true)
 (b:∀H',aA H' (L.set i (aS enc s (ys.take l.length++l.drop ys.length)))->K (min ys.length l.length:Nat) H'):nC H 1 s x K:=
 TB (h.get i hi) e a λH' v k=>b H' (h.cR (O':=aS enc s (ys.take l.length++l.drop ys.length)) i hi v (λc a=>.inl a) λc o a d=>k c o a d)
theorem Fj {e:TypeId} {x:α} {n:Int} {K:Sl->PH->Prop} (h:aA H L) (b:∀r H',aA H' (L++[aS enc r (List.replicate n.toNat x)])->Ext H H'->K r H'):lq H (row (cN n.toNat [enc x]) e) n n K:=by
 intro r H' a
 have e1:cN n.toNat [enc x]=(List.replicate n.toNat x).map enc:=by rw[xc,List.map_replicate]
 rw[e1] at a
 exact b r H' (h.new (O':=aS enc r (List.replicate n.toNat x)) (.nD a) (dX.iI (l:=List.replicate n.toNat x) (e:=e) (by simpa using a)) (kz.iI a)) (.nD a)
theorem Br {s:Sl} {l:List α} {e m g:Nat} {zs:List Value} {K:Sl->PH->Prop} (h:cL enc H s l) (n:∀y,cg (enc y)=true) (o:zs.length=1) (q:(4*l.length+4096)*m<=2 ^ 48)
 (k:∀r H',aA H' [aC H,aS enc r l]->K r H'):aL (Option.isNone s.a) (K Sl.nil H) (bZ H (row [] g) 0 λd f=>fh f e 1 m zs d s K):=by
 refine aM (λc=>?_) (λ_ d f b=>?_)
 ·have:l=[]:=by
   cases l with
   |nil=>rfl
   |cons x l=>
    obtain⟨a,p,_⟩:=h.2.2 0 x rfl
    grind
  subst this
  exact k Sl.nil H (aA.start H).Bp
 ·have i:=Ext.nD b
  have j:=(aA.start H).new (O':=aS enc d ([]:List α)) i (dX.iI (l:=([]:List α)) (e:=g) b) (kz.iI b)
  exact pe (l:=[]) (ys:=l) j 1 rfl (h.ext i) n o (by grind) (by grind)
end
end Go.Kx
end
section
namespace Go.Kx
open Go.ChangeShapes Go.WideShapes Go.ChangeAt Go.RowKit
def zG (W:World):PH:=λb=>W.heap[b]?
theorem N7 (W:World):jU (zG W) PH.none W:=⟨λ_ _ h=>h,λ_ _ h=>(by cases h),λ_=>.inr rfl⟩
def Done (H:PH) (r:Bool) (H':PH):Prop:=r=true/\Ext H H'
theorem TM {W b:World} {H' c:PH} (a:Fr (zG W) PH.none W H' c b) (d:Ext (zG W) H'):Below W.heap.size W b:=
 ⟨a.os,a.tape,a.output,a.size,λk hk=>by
  have:W.heap[k]?=some W.heap[k]:=(by simp)
  rw[this];exact a.own.sub k _ (d k _ this)⟩
theorem N8 {P:Program} {f:FuncId} {args:Array Value} {W:World} (h:fU P f args (zG W) λv H'=>∃r,v= .bool r/\Done (zG W) r H'):
 Calls P f args W λe a=>e= .returned (.bool true)/\Below W.heap.size W a:=
 (h W (N7 W)).mono λe a ⟨v,H',b,c,r,d,g,i⟩=>⟨by rw[b,d,g],TM c i⟩
section
variable {H:Type} {enc:TypeId×Value->H} {P:Program}
theorem Cp (i:laidOutB P=true) {W f:World} (g:Below W.heap.size W f):∀(ts:List TypeId) (vs:List Value) (ds:List (DataW H)) (ps:List MemPlace),ts.all (λt=>P.readableRec t&&decide (t<P.types.size))=true->
 DataW.TrodAll enc P W 0 (λ_=>true) true ts vs ds ps->(∀x∈ps,x.block<W.heap.size)->∀sp:Nat->Bool,(∀x∈ps,sp x.block=true)->DataW.TrodAll enc P f 0 sp true ts vs ds ps
 |[],[],[],ps,_,h,_,sp,_=>h
 |t::ts,v::vs,d::ds,ps,b,h,c,sp,e=>by
  obtain⟨p,q,j,k,rfl⟩:=h
  simp only[List.all_cons,Bool.and_eq_true,decide_eq_true_eq] at b
  refine⟨p,q,WideElems.Trod_stays i b.1.1 b.1.2 j (λx a=>g.same (c x (by simp[a]))) (λx a=>e x (by simp[a])),Cp i g ts vs ds q b.2 k (λx a=>c x (by simp[a])) sp (λx a=>e x (by simp[a])),rfl⟩
 |[],[],_::_,_,_,h,_,_,_=>h.elim
 |[],_::_,_,_,_,h,_,_,_=>h.elim
 |_::_,[],_,_,_,h,_,_,_=>h.elim
 |_::_,_::_,[],_,_,h,_,_,_=>h.elim
theorem TN {f:Func} {s:ChangeSpec} {apart fresh handsOn again:Bool} {W d:World} {args:Array Value} {ds gs:List (DataW H)} {before:List MemPlace} {tb:TypeId}
 (C:laidOutB P=true) (w:f.params.toList.all (λt=>P.readableRec t&&decide (t<P.types.size))=true) (j:f.resultTypes= #[tb]) (k:P.underlying tb=some .bool)
 (c:s.vars=[]) (e:(s.fn H (ds++gs)).results=[.lit (.bool true)]/\(s.fn H (ds++gs)).args=ds/\(s.fn H (ds++gs)).vars=[])
 (m:DataW.Whole enc P f.params.toList s.vars apart W args.toList ds gs before) (n:Below W.heap.size W d):
 s.post enc P f apart fresh handsOn again W args (.bool true) d:=by
 have u:=m
 have g:∀p∈before,p.block<W.heap.size:=λp o=>m.lt p o
 have hold:∀p∈before,(λb=>decide (b<W.heap.size)) p.block=true:=(by grind)
 obtain⟨p,q,A,r,rfl,z,v⟩:=m
 have D:q=[]:=by rw[c] at r;exact(trodVars_none r).2
 subst D
 rw[List.append_nil] at g hold z v u
 have a:∀sp:Nat->Bool,(∀x∈p,sp x.block=true)->DataW.TrodAll enc P d 0 sp true f.params.toList args.toList (s.fn H (ds++gs)).args p:=λsp y=>by
  rw[e.2.1];exact Cp C n _ _ _ _ w A g sp y
 have h:∀(b:Nat) (sp:Nat->Bool) (hd:Bool),DataW.TrodAll enc P d b sp hd f.resultTypes.toList ((Value.bool true).resultList f.resultTypes.size) (s.fn H (ds++gs)).results []:=λb sp hd=>by
  rw[e.1,j];exact trodAll_cons_mk (shut_bool k true) trodAll_mk0
 have l:∀sp:Nat->Bool,DataW.TrodVars enc P d sp s.vars (s.fn H (ds++gs)).vars []:=λsp=>by rw[c,e.2.2];rfl
 refine⟨ds,gs,p,[],p,[],by omega,h _ _ _,a _ hold,l _,World.keptBut_mono (λx E=>⟨E,?_⟩) (n.frame (· ∈p)),λ_=>?_⟩
 ·grind
 ·refine⟨ok_one j rfl (okWide_bool_mk k true),_,_,([]++p)++[],⟨[]++p,[],trodAll_append (a _ (λ_ _=>rfl)) (h _ _ _),l _,rfl,?_,?_⟩,?_⟩
  ·intro b off o
   have i:MemPlace.cell b off∈p:=by simpa using o
   rw[n.frozen (g _ i)]
   exact z b off i
  ·intro B;have:=v B;simpa using this
  grind
theorem QN {W:World} {a:Addr} {v:Value} (h:W.cell? a=some v):a.spot=none:=by
 unfold World.cell? at h
 split at h
 ·simp_all
 ·cases h
theorem Mj {α:Type} {p:Nat->α->Prop}:∀n:Nat,(∀i,i<n->∃a,p i a)->∃l:List α,l.length=n/\∀i a,l[i]?=some a->p i a
 | 0,_=>⟨[],rfl,λi a h=>by simp at h⟩
 |n+1,h=>by
  obtain⟨l,c,f⟩:=Mj n λi hi=>h i (by omega)
  obtain⟨a,d⟩:=h n (by omega)
  refine⟨l++[a],by simp[c],λi b e=>?_⟩
  grind
theorem Iw {t e:Nat} {W:World} {base:Nat} {v:Value} {d:DataW H} {ps:List MemPlace} (hu:P.underlying t=some (.slice e)) (b:Value.okWide P W .any base t v)
 (h:DataW.Trod enc P W 0 (λ_=>true) true t v d ps):∃fuel,DataW.trod enc P W 0 (λ_=>true) true fuel t [v]=some (d,ps):=by
 obtain⟨a,len,cap,rfl⟩:=okWide_slice hu b
 exact h
end
theorem Zf {α:Type} {cs:List α} {a b c d:α} (e:cs.length=4) (f:cs[0]?=some a) (g:cs[1]?=some b) (h:cs[2]?=some c) (i:cs[3]?=some d):cs=[a,b,c,d]:=by
 match cs,e with|[x0,j,k,l],_=>grind
end Go.Kx
end
section
namespace Go.Kx
open Go.ChangeShapes Go.WideShapes Go.ChangeAt Go.RowKit
section
variable {α:Type} {enc:α->List Value} {sz:Nat}
def fM (enc:α->List Value) (sz:Nat) (H:PH) (s:Sl) (l:List α):Prop:=
 s.len=l.length/\s.len<=s.cap/\∀(i:Nat) (x:α),l[i]?=some x->∃a,s.a=some a/\a.spot=none/\cI H (a.add (i*sz)) sz=some (enc x)
theorem Ext.cells {A B:PH} (h:Ext A B) {a:Addr} {n:Nat} {cs:List Value} (b:cI A a n=some cs):cI B a n=some cs:=by
 unfold cI at b ⊢
 split at b
 ·grind
 ·rename_i d
  rw[if_neg d]
  split at b
  ·rename_i c e f g;rw[h _ _ g];exact b
  ·cases b
theorem fM.ext {A B:PH} {s:Sl} {l:List α} (h:fM enc sz A s l) (x:Ext A B):fM enc sz B s l:=
 ⟨h.1,h.2.1,λi y hi=>let⟨a,b,d,c⟩:=h.2.2 i y hi;⟨a,b,d,x.cells c⟩⟩
theorem fM.bL {H:PH} {s:Sl} {l:List α} (h:fM enc sz H s l):(s.len:Int)=l.length:=by rw[h.1]
theorem su {H:PH} {s:Sl} {l:List α} {i:Int} {K:Addr->Prop} (h:fM enc sz H s l) (c:0<=i) (e:i<l.length) (f:∀a x,l[i.toNat]?=some x->cI H a sz=some (enc x)->K a):bX s sz i K:=by
 have b:i.toNat<l.length:=by omega
 obtain⟨a,d,j,g⟩:=h.2.2 i.toNat l[i.toNat] (by simp[b])
 exact⟨_,⟨a,d,c,by rw[h.1];omega,rfl⟩,by grind⟩
theorem jo {H:PH} {a:Addr} {n:Nat} {cs:List Value} (h:cI H a n=some cs) {j:Nat} {v:Value} (d:cs[j]?=some v):cellAt H (a.add j)=some v:=by
 obtain⟨b,c⟩:=C4 h
 grind
end
theorem Jd {W:World} {a:Addr} {n:Nat} {cs:List Value} (h:W.cells? 0 a n=some cs) (j:a.spot=none):cI (zG W) a n=some cs:=by
 obtain⟨_,q,m⟩:=World.cells?_some h
 unfold cI
 by_cases k:n=0
 ·grind
 ·rw[if_neg k]
  have p:∀i,i<n->W.cell? (a.add i)=some (cs[i]?.getD undef):=(by grind)
  have b:=p 0 (by omega)
  rw[add_zero'] at b
  have l:=b
  unfold World.cell? at l
  cases hw:W.heap[a.block]? with
  |none=>grind
  |some o=>
   cases o with
   |cells c e f=>
    have g:∀i,i<n->c[a.off+i]?=cs[i]?:=λi hi=>by
     have:=m i hi
     unfold World.cell? at this
     rw[sZ,hw] at this
     simp only[vC _ _ j,Du] at this
     grind
    have hle:a.off+n<=c.size:=by
     have d:=g (n- 1) (by omega)
     rw[List.getElem?_eq_getElem (by omega:n- 1<cs.length)] at d
     have:=(Array.getElem?_eq_some_iff.1 d).1
     omega
    show(match W.heap[a.block]? with|some (.cells c _ _)=>_|_=>none)=_
    rw[hw]
    simp only[j,Option.isSome_none,Bool.false_eq_true,if_false,hle,if_true,Option.some.injEq]
    apply List.ext_getElem?
    grind
   |_=>grind
section
variable {H:Type} {enc:TypeId×Value->H} {P:Program}
theorem QO {α:Type} {b:α->List Value} {sz:Nat} {R:α->Prop} {t e fuel:Nat} {W:World} {cs:List Value} {d:DataW H} {ps:List MemPlace} (hu:P.underlying t=some (.slice e)) (y:P.cellsOf e=sz) (u:0<sz)
 (o:∀n cs x,DataW.trod enc P W 0 (λ_=>true) true n e cs=some x->∃a,cs=b a/\R a)
 (h:DataW.trod enc P W 0 (λ_=>true) true fuel t cs=some (d,ps)):∃s l,cs=[Sl.v s]/\fM b sz (zG W) s l/\∀a,a∈l->R a:=by
 rcases Go.Deep.open_slice hu h with⟨j,F⟩|⟨a,len,cap,m,n,D,Pl,j,_,hle,A,hm,G,c⟩
 ·exact⟨Sl.nil,[],j,⟨rfl,Nat.le_refl _,λi x hi=>by simp at hi⟩,by simp⟩
 ·simp only[if_true] at hm;subst hm
  rw[y] at c
  obtain⟨l,z,q⟩:=Mj (p:=λi (f:α)=>W.cells? 0 (a.add (i*sz)) sz=some (b f)/\R f) len λi hi=>by
   obtain⟨cs',c1,c2⟩:=c i (by omega)
   obtain⟨f,rfl,r⟩:=o n cs' _ c2
   exact⟨f,c1,r⟩
  have g:0<len->a.spot=none:=λE=>by
   obtain⟨cs',c1,_⟩:=c 0 (by omega)
   obtain⟨_,B,k⟩:=World.cells?_some c1
   have:=k 0 u
   rw[Nat.zero_mul,add_zero',add_zero',List.getElem?_eq_getElem (by omega:0<cs'.length)] at this
   exact QN this
  refine⟨⟨some a,len,m⟩,l,j,⟨z.symm,hle,λi x hi=>?_⟩,λx w=>?_⟩
  ·have C:=(List.getElem?_eq_some_iff.1 hi).1
   exact⟨a,rfl,g (by omega),Jd (q i x hi).1 (vC _ _ (g (by omega)))⟩
  ·obtain⟨i,hi,rfl⟩:=List.getElem_of_mem w
   exact(q i _ (by simp[hi])).2
theorem Lq {cs:List Value} {i:Nat} {v:Value} (h:(cs.drop i).take 1=[v]):cs[i]?=some v:=by
 have:=congrArg (·[0]?) h
 simpa[List.getElem?_take,List.getElem?_drop] using this
theorem N9 {W:World} {t fuel:Nat} {fs:Array Field} {cs:List Value} {x:DataW H×List MemPlace} (a:P.underlying t=some (.struct fs)) (h:DataW.trod enc P W 0 (λ_=>true) true fuel t cs=some x):
 cs.length=P.cellsOf t/\∀(i:Nat) (f:Field),fs[i]?=some f->∃n y,DataW.trod enc P W 0 (λ_=>true) true n f.type ((cs.drop f.offset).take (P.cellsOf f.type))=some y:=by
 obtain⟨xs,n,_,_,b,hlen,hf⟩:=DataW.trod_struct a h
 grind
theorem JA {W:World} {t n i:Nat} {k:IntKind} {cs:List Value} {y:DataW H×List MemPlace} (hu:P.underlying t=some (.int k)) (d:P.cellsOf t=1) (h:DataW.trod enc P W 0 (λ_=>true) true n t ((cs.drop i).take (P.cellsOf t))=some y):∃a,cs[i]?=some (.int k a)/\(Lit.int k a).wf=true:=by
 rw[d] at h
 obtain⟨a,b,_,c⟩:=DataW.trod_int hu h
 exact⟨a,Lq b,c⟩
end
end Go.Kx
end
section
namespace Go.Kx
section
variable {α:Type} {enc:α->List Value} {sz:Nat} {H:PH} {L:List Ob}
theorem wc (d:∀x,(enc x).length=sz) {s:Sl} {l:List α} {i j:Nat} {x y:α} {a:Addr} {v:Value} {K:PH->Prop} (h:qq enc sz H s l i x a) (u:j<sz) (z:enc y=(enc x).set j v) (r:cg v=true)
 (m:∀H',bj enc sz H' s (l.set i y)->wm s H H'->K H'):aV H (a.add j) [v] K:=by
 have hi:=h.lt
 obtain⟨⟨b,sp,e,spare,rfl,g,k,rfl⟩,t⟩:=h
 have q:=qp (enc:=enc) t
 have w:=rP d (l:=l) (i:=i) (by omega)
 have hlen:i*sz+sz<=(l.flatMap enc++spare).length:=by grind
 refine⟨b,i*sz+j,_,e,by rw[fV],k,by simp only[List.length_singleton];omega,by simp[r],m _ (.inr ⟨b,sp,e,spare,by simp,g,?_⟩) λc o n p=>?_⟩
 ·rw[PH.eH]
  congr 2
  have f:(l.set i y).flatMap enc=(l.take i).flatMap enc++enc y++(l.drop (i+1)).flatMap enc:=by
   have:=qp (enc:=enc) (l:=l.set i y) (i:=i) (x:=y) (by grind)
   rw[this,List.take_set_of_le (by simp),List.drop_set_of_lt (by omega)]
  rw[f,q]
  simp only[List.append_assoc,putAt]
  grind
 ·rw[PH.al _ _ (λe=>p ⟨_,rfl,e.symm⟩)];exact n
theorem Dx (d:∀x,(enc x).length=sz) {s:Sl} {l:List α} {i j:Nat} {x:α} (y:α) {a:Addr} {v:Value} {K:PH->Prop} (h:aA H L) (k:Nat) (hk:L[k]?=some (au enc sz s l)) (he:qq enc sz H s l i x a) (f:j<sz) (n:enc y=(enc x).set j v) (m:cg v=true)
 (e:∀H',aA H' (L.set k (au enc sz s (l.set i y)))->K H'):aV H (a.add j) [v] K:=
 wc d he f n m λH' w p=>e H' (h.cR (O':=au enc sz s (l.set i y)) k hk w (λc b=>.inl b) λc o b g=>p c o b g)
theorem uP (b:∀x,(enc x).length=sz) (f:0<sz) {e m:Nat} {zs:List Value} {s x:Sl} {l ys:List α} {K:Sl->PH->Prop} (h:aA H L) (k:Nat) (hk:L[k]?=some (au enc sz s l)) (p:eQ H x sz=some (ys.flatMap enc)) (d:x.len=ys.length) (a:∀y,(enc y).all cg=true) (q:zs.length=sz)
 (i:(4*(l.length+ys.length)+4096)*m<=2 ^ 48) (g:∀r H',aA H' (L.set k (au enc sz r (l++ys)))->K r H'):fh H e sz m zs s x K:=
 TJ b f (h.get k hk) p d a q i λr H' v t n=>g r H' (h.cR (O':=au enc sz r (l++ys)) k hk v n λc o a j=>t c o a j)
theorem Ml {x:α} {cs:List Value} {e:TypeId} {K:Sl->PH->Prop} (h:aA H L) (b:cs=enc x) (c:∀r H',aA H' (L++[au enc sz r [x]])->Ext H H'->K r H'):bZ H (row cs e) 1 K:=by
 subst b
 intro r H' a
 exact c r H' (h.new (O':=au enc sz r [x]) (.nD a) (bj.xk (l:=[x]) a (by simp) rfl) (kz.iI a)) (.nD a)
theorem V9 {e:TypeId} {x:α} {cs:List Value} {n:Int} {K:Sl->PH->Prop} (h:aA H L) (b:cs=enc x) (c:∀r H',aA H' (L++[au enc sz r (List.replicate n.toNat x)])->Ext H H'->K r H'):lq H (row (cN n.toNat cs) e) n n K:=by
 subst b
 intro r H' a
 exact c r H' (h.new (O':=au enc sz r (List.replicate n.toNat x)) (.nD a) (bj.xk a Bo (by simp)) (kz.iI a)) (.nD a)
theorem aA.Bt (h:aA H L):aA H (L++[au enc sz Sl.nil []]):=h.new (O':=au enc sz Sl.nil ([]:List α)) (.refl H) (.inl ⟨rfl,rfl⟩) λc a=>absurd a QL
theorem bj.lX (d:∀x,(enc x).length=sz) {s:Sl} {l:List α} (h:bj enc sz H s l):fM enc sz H s l:=by
 refine⟨h.len,h.bound,λi x g=>?_⟩
 have hi:=(List.getElem?_eq_some_iff.1 g).1
 obtain⟨a,⟨a0,m,n,o,p⟩,k⟩:=sk (i:=i) (K:=λa=>∃y,qq enc sz H s l i y a) h (by omega) (by omega) λa y el=>⟨y,by simpa using el⟩
 obtain⟨y,el⟩:=k
 have j:x=y:=by have:=el.get;grind
 subst j
 obtain⟨⟨b,sp,e,spare,f,_,_,c⟩,_⟩:=el
 refine⟨⟨b,0,none⟩,by rw[f],rfl,?_⟩
 rw[fV,Nat.zero_add,←c]
 exact qq.cells d ⟨⟨b,sp,e,spare,f,by assumption,by assumption,c⟩,g⟩
theorem fM.cells (A:∀x,(enc x).length=sz) (y:0<sz) {s:Sl} {l:List α} (h:fM enc sz H s l):eQ H s sz=some (l.flatMap enc):=by
 obtain⟨u,B,v⟩:=h
 unfold eQ
 cases w:s.a with
 |none=>
  cases l with
  |nil=>rfl
  |cons x l=>obtain⟨a,j,_⟩:=v 0 x rfl;rw[w] at j;cases j
 |some a=>
  simp only
  rw[u]
  cases l with
  |nil=>simp[cI]
  |cons x0 l0=>
   have q:∀(i:Nat) (x:α),(x0::l0)[i]?=some x->a.spot=none/\cI H (a.add (i*sz)) sz=some (enc x):=(by grind)
   obtain⟨r,d⟩:=q 0 x0 rfl
   rw[Nat.zero_mul,add_zero'] at d
   unfold cI at d
   rw[if_neg (by omega)] at d
   cases m:H a.block with
   |none=>grind
   |some o=>
    cases o with
    |cells c e f=>
     have p:∀(i:Nat) (x:α),(x0::l0)[i]?=some x->a.off+i*sz+sz<=c.size/\(c.toList.drop (a.off+i*sz)).take sz=enc x:=λi x hi=>by
      have b:=(q i x hi).2
      unfold cI at b
      rw[if_neg (by omega),sZ,m] at b
      simp only[vC _ _ r,Du,Option.isSome_none,Bool.false_eq_true,if_false] at b
      split at b
      ·rename_i hle
       exact⟨hle,by simpa using b⟩
      ·cases b
     generalize x0::l0=l at p
     have key:∀n,n<=l.length->a.off+n*sz<=c.size∨n=0:=λn g=>by
      cases n with
      |zero=>exact .inr rfl
      |succ n=>
       have:=(p n (l[n]'(by omega)) (by simp)).1
       left
       rw[Nat.add_mul,Nat.one_mul];omega
     have sum:∀n,n<=l.length->(c.toList.drop a.off).take (n*sz)=(l.take n).flatMap enc:=λn=>by
      induction n with
      |zero=>intro _;simp
      |succ n z=>
       intro g
       have t:l[n]?=some (l[n]'(by omega)):=by simp
       rw[Nat.add_mul,Nat.one_mul,List.take_add,z (by omega),List.drop_drop,(p n _ t).2,List.take_add_one,t,List.flatMap_append]
       simp
     have k:=sum l.length (Nat.le_refl _)
     rw[List.take_length] at k
     unfold cI
     by_cases g:l.length=0
     ·have:l=[]:=List.length_eq_zero_iff.1 g
      subst this;simp
     ·rw[if_neg (by have:=Nat.mul_pos (Nat.pos_of_ne_zero g) y;omega),m]
      simp only[r,Option.isSome_none,Bool.false_eq_true,if_false]
      rcases key l.length (Nat.le_refl _) with h|h
      ·rw[if_pos h,k]
      ·exact absurd h g
    |_=>rw[m] at d;cases d
theorem Bu {s:Sl} {l:List α} {i:Int} {K:Addr->Prop} (h:fM enc sz H s l) (b:0<=i) (c:i<l.length) (d:∀a x,l[i.toNat]?=some x->cI H a sz=some (enc x)->K a):bX s sz i K:=su h b c d
theorem Zg (a:∀x,(enc x).length=sz) (q:0<sz) {s x:Sl} {l ys:List α} {K:Int->PH->Prop} (i:bj enc sz H s l) (j:fM enc sz H x ys) (hle:ys.length<=l.length) (r:∀y,(enc y).all cg=true)
 (f:∀H',bj enc sz H' s (ys++l.drop ys.length)->wm s H H'->K (ys.length:Nat) H'):nC H sz s x K:=by
 have t:=i.len
 have k:=j.1
 have e1:min x.len s.len=x.len:=by omega
 have d:=j.cells a q
 refine⟨ys.flatMap enc,by rw[e1];exact d,by grind,?_⟩
 rw[e1,k]
 rcases i with⟨rfl,rfl⟩|⟨b,sp,e,spare,rfl,m,n⟩
 ·have:ys=[]:=(by grind)
  subst this
  exact f H (.inl ⟨rfl,rfl⟩) λc o h _=>h
 ·refine⟨b,0,_,e,rfl,n,by rw[List.length_append,fL a,fL a];have:=Nat.mul_le_mul_right sz hle;omega,f _ (.inr ⟨b,sp,e,spare,by simp;omega,m,?_⟩) λc o g p=>?_⟩
  ·rw[PH.eH,kK _ _ _ (by rw[List.length_append,fL a,fL a];have:=Nat.mul_le_mul_right sz hle;omega)]
   congr 2
   rw[List.take_zero,List.nil_append,Nat.zero_add,List.flatMap_append,List.append_assoc]
   congr 1
   have e2:l=l.take ys.length++l.drop ys.length:=by simp
   have l2:((l.take ys.length).flatMap enc).length=(ys.flatMap enc).length:=by rw[fL a,fL a,List.length_take,Nat.min_eq_left hle]
   grind
  ·rw[PH.al _ _ (λe=>p ⟨_,rfl,e.symm⟩)];exact g
theorem TO (b:∀x,(enc x).length=sz) (g:0<sz) {s x:Sl} {l ys:List α} {K:Int->PH->Prop} (h:aA H L) (k:Nat) (hk:L[k]?=some (au enc sz s l)) (f:fM enc sz H x ys) (hle:ys.length<=l.length) (a:∀y,(enc y).all cg=true)
 (d:∀H',aA H' (L.set k (au enc sz s (ys++l.drop ys.length)))->K (ys.length:Nat) H'):nC H sz s x K:=
 Zg b g (h.get k hk) f hle a λH' v i=>d H' (h.cR (O':=au enc sz s (ys++l.drop ys.length)) k hk v (λc a=>.inl a) λc o a e=>i c o a e)
theorem TP (b:∀x,(enc x).length=sz) (f:0<sz) {s:Sl} {l:List α} {e m n:Nat} {zs:List Value} {K:Sl->PH->Prop} (j:fM enc sz H s l) (q:∀y,(enc y).all cg=true) (t:zs.length=sz) (v:(4*l.length+4096)*m<=2 ^ 48)
 (p:∀r H',aA H' [aC H,au enc sz r l]->K r H'):aL (Option.isNone s.a) (K Sl.nil H) (bZ H (row [] n) 0 λh i=>fh i e sz m zs h s K):=by
 refine aM (λc=>?_) (λ_ h i g=>?_)
 ·have:l=[]:=by
   cases l with
   |nil=>rfl
   |cons x l=>
    obtain⟨a,u,_⟩:=j.2.2 0 x rfl
    grind
  subst this
  exact p Sl.nil H (aA.start H).Bt
 ·have k:=Ext.nD g
  have o:=(aA.start H).new (O':=au enc sz h ([]:List α)) k (bj.xk (l:=([]:List α)) g (by simp) rfl) (kz.iI g)
  have d:=j.ext k
  exact uP b f (l:=[]) (ys:=l) o 1 rfl (d.cells b f) d.1 q t (by grind) (by grind)
end
end Go.Kx
end
section
namespace Go.Kx
def strOf (l:List Int):ByteArray:=l.foldl (λs n=>s.push (UInt8.ofNat n.toNat)) ByteArray.empty
def TQ (H:PH) (s:Sl) (K:ByteArray->Prop):Prop:=∃x,(∃l:List Int,eQ H s 1=some (l.map (Value.int .u8))/\x=strOf l)/\K x
section
variable {P:Program} {ρ:Env} {T H:PH} {d:Option Nat} {ty:TypeId} {p:String} {af:Array Edge} {g:Option (Nat×Bool)} {K:Value->PH->PH->Prop}
theorem TR {w:World} (f:Value->ByteArray->Sem (ForInStep ByteArray)) (hf:∀n s,f (.int .u8 n) s=pure (.yield (s.push (UInt8.ofNat n.toNat)))):∀(l:List Int) (s:ByteArray),Sem.run P (forIn (m:=Sem) (l.map (Value.int .u8)) s f) w= .ok (l.foldl (λs n=>s.push (UInt8.ofNat n.toNat)) s) w
 |[],s=>by rfl
 |x::l,s=>by
  simp_all
theorem Zh {src dst e:TypeId} {x:Operand} {s:Sl} {v:ByteArray} (j:P.underlying src=some (.slice e)) (k:P.underlying dst=some .string) (c:P.underlying e=some (.int .u8)) (o:ev ρ x=Sl.v s) (h:∃l:List Int,eQ H s 1=some (l.map (Value.int .u8))/\v=strOf l):
 bx P ρ ⟨d,.convert src dst x,ty,p,af,g⟩ H (.string v):=⟨rfl,λT w m=>by
 obtain⟨l,b,rfl⟩:=h
 simp only[execOp,o,convert,Sem.run_bind,bq j,bq k,Result.andThen,Sl.v]
 unfold eQ at b
 cases i:s.a with
 |none=>
  rw[i] at b
  simp only[Option.some.injEq] at b
  have:l=[]:=by simp_all
  subst this
  simp[Sem.run_bind,bq c,Result.andThen,Conv.bytesToString,Sem.run_pure,strOf]
 |some a=>
  rw[i] at b
  simp only at b
  have f:=tW (P:=P) m b
  rw[Nat.mul_one] at f
  simp only[Sem.run_bind,bq c,Result.andThen,Conv.bytesToString,f,Sem.run_pure]
  rw[List.forIn_toArray,TR _ (λn s=>rfl)]
  rfl⟩
def Sl.G5 (s:Sl) (size lo hi b:Nat):Sl:=⟨if b=lo then s.a else s.a.map (·.add (lo*size)),hi-lo,b-lo⟩
def TS (s:Sl) (size:Nat) (lo hi a:Int) (r:Sl):Prop:=0<=lo/\lo<=hi/\hi<=a/\a<=s.cap/\s.len<=s.cap/\r=s.G5 size lo.toNat hi.toNat a.toNat
def U3 (s:Sl) (size:Nat) (lo hi a:Int) (K:Sl->Prop):Prop:=∃r,TS s size lo hi a r/\K r
theorem QQ {t e size:Nat} {x lo hi a:Operand} {s r:Sl} {l h m:Int} (i:jX P t e size) (n:TS s size l h m r) (o:ev ρ x=Sl.v s)
 (c:∃k,ev ρ lo= .int k l) (b:∃k,ev ρ hi= .int k h) (f:∃k,ev ρ a= .int k m):
 bx P ρ ⟨d,.slice t x (some lo) (some hi) (some a),ty,p,af,g⟩ H (Sl.v r):=⟨rfl,λT w A=>by
 obtain⟨j,q,u,y,z,rfl⟩:=n
 obtain⟨k1,e1⟩:=c;obtain⟨k2,e2⟩:=b;obtain⟨k3,e3⟩:=f
 have i1:=Eo e1 j
 have i2:=Eo e2 (by omega)
 have i3:=Eo e3 (by omega)
 have c3:(0<=((m.toNat:Nat):Int)/\((m.toNat:Nat):Int)<=(s.cap:Int)):=(by omega)
 have c2:(0<=((h.toNat:Nat):Int)/\((h.toNat:Nat):Int)<=(m.toNat:Int)):=(by omega)
 have c1:(0<=((l.toNat:Nat):Int)/\((l.toNat:Nat):Int)<=(h.toNat:Int)):=(by grind)
 have r1:(Instr.sliceBounds true s.len s.cap (some (ev ρ lo)) (some (ev ρ hi)) (some (ev ρ a))).run P w= .ok (l.toNat,h.toNat,m.toNat) w:=by
  simp only[Instr.sliceBounds,Sem.run_bind,Sem.run_pure,Result.andThen,i1,i2,i3,Instr.sliceBound,asIntOf,c1,c2,c3,and_self,if_true,Int.toNat_natCast]
 simp only[execOp,o,Option.map_some,Instr.sliceAt,Sem.run_bind,bq i.1,Result.andThen,Instr.slice,Sl.v,r1,gP i.2,Sem.run_pure,Sl.G5]⟩
def JB (H:PH) (e size m:Nat) (zs:List Value) (s:Sl) (n:Int) (K:Sl->PH->Prop):Prop:=
 0<n/\s.cap<s.len+n.toNat/\s.len<=s.cap/\(4*(s.len+n.toNat)+4096)*m<=2 ^ 48/\∃xs,eQ H s size=some xs/\
  ∀b c,H b=none->s.len+n.toNat<=c->K ⟨some ⟨b,0,none⟩,s.len+n.toNat,c⟩ (H.bQ b (row (xs++cN n.toNat zs++cN (c-(s.len+n.toNat)) zs) e))
theorem OA {xs:Array Operand} {a:Array TypeId} {t e size m:Nat} {z:Value} {zs:List Value} {s:Sl} {n:Int} {xt:TypeId} {kk:IntKind} (R:jX P t e size) (hm:nT P e m) (O:1<=m) (hz:jv P e z) (Z:z.cells=zs.toArray) (ah:zs.length=size) (ae:1<=size)
 (ht:a[0]?=some t) (S:a[1]?=some xt) (W:P.underlying xt=some (.int kk))
 (hx:xs.toList.map (ev ρ)=[Sl.v s,.int .i64 n]) {E:Sl->PH->Prop} (h:JB H e size m zs s n E) (hk:∀r H',E r H'->K (Sl.v r) T H'):
 dT P ρ ⟨d,.call ⟨.builtin .append,xs,a⟩,ty,p,af,g⟩ T H K:=⟨rfl,λw ho=>by
 obtain⟨h0,hle,ac,f,aa,V,h⟩:=h
 obtain⟨k,rfl⟩:=Int.eq_ofNat_of_zero_le (show 0<=n by omega)
 rw[Int.toNat_natCast] at hle f h
 have o:=qF hx
 obtain⟨ie,j,I⟩:=rO (w:=w) hm
 have e1:∀v w',(Builtin.append_ a ty #[Sl.v s,.int .i64 k]).run P w= .ok v w'->(execOp (ev ρ) ⟨d,.call ⟨.builtin .append,xs,a⟩,ty,p,af,g⟩).run P w= .ok (.value v) w':=by
  intro v w' hv
  simp only[execOp,resolve,o,Sem.run_bind,Sem.run_pure,Result.andThen,invoke,builtin]
  rw[hv]
 have C:¬(s.len+k<=s.cap):=by omega
 have Q:=Co (s.len+k) s.cap (by omega)
 have ad:Builtin.nextslicecap (s.len+k) s.cap*m<=2 ^ 48:=Nat.le_trans (Nat.mul_le_mul_right m Q) f
 have ab:s.len+k<=2 ^ 48:=by
  have:4*(s.len+k)*1<=(4*(s.len+k)+4096)*m:=Nat.mul_le_mul (by omega) O
  omega
 have ag:k*m<=2 ^ 48:=Nat.le_trans (Nat.mul_le_mul_right m (by omega)) f
 have y:¬((s.len+k:Int)>IntKind.i64.max):=by simp[IntKind.max,IntKind.signed,IntKind.bits];omega
 have U:IntKind.i64.wrap (k:Int)=k:=bC (by omega) (by omega)
 obtain⟨b,u⟩:∃b,b=w.drew:=⟨_,rfl⟩
 have i:Fr H T w H T b:=u▸ .drew ho
 obtain⟨c,q⟩:∃c,c=(Question.appendCap (s.len+k) s.cap e).cut (w.tape w.drawn (Question.appendCap (s.len+k) s.cap e)):=⟨_,rfl⟩
 have F:s.len+k<=c:=by rw[q];simp[Question.cut]
 have G:(Question.appendCap (s.len+k) s.cap e).forced=false:=rfl
 have l:=i.own
 have x:=nU (P:=P) l V
 have X:Builtin.zeroCells zs.toArray (c-(s.len+k))=(cN (c-(s.len+k)) zs).toArray:=by
  simpa[Builtin.zeroCells] using rh (c-(s.len+k)) zs
 have Y:Builtin.zeroCells zs.toArray k=(cN k zs).toArray:=by
  simpa[Builtin.zeroCells] using rh k zs
 have A:(typeInfo e).run P b= .ok ie b:=by
  obtain⟨i2,h2,_⟩:=rO (w:=b) hm
  unfold nT at hm
  cases hi:P.info? e with
  |none=>rw[hi] at hm;cases hm
  |some i3=>rw[Bf hi] at j ⊢; cases j;rfl
 refine .inl ⟨_,T,_,_,e1 (Sl.v ⟨some ⟨b.heap.size,0,none⟩,s.len+k,c⟩) (b.alloc (row (aa++cN k zs++cN (c-(s.len+k)) zs) e)) ?_,i.trans (.alloc l _),hk _ _ (h _ _ l.new.1 F)⟩
 have D:¬(281474976710656<Builtin.nextslicecap (s.len+k) s.cap*m):=by omega
 have N:¬m=0:=by omega
 have J:¬(k*size=0):=by
  have:=Nat.mul_pos (show 0<k by omega) (show 0<size by omega)
  omega
 have M:¬((k:Int)< 0):=by omega
 have B:¬((281474976710656:Int)<(k:Int)*(m:Int)):=by
  have:((k*m:Nat):Int)=(k:Int)*m:=by push_cast;rfl
  omega
 simp only[Sl.v] at x
 have L:¬(k=0∨size=0):=by omega
 simp[Builtin.append_,ht,S,Sem.run_bind,bq R.1,Result.andThen,gP R.2,bq W,Sem.run_pure,Sl.v,asInt,asIntOf,U,M,B,C,j,I,N,D,G,←q,←u,A,run_askRoom,x,pQ hz,Z,X,Y,J,L,nA,y]
 intro hh;omega⟩
end
end Go.Kx
end
