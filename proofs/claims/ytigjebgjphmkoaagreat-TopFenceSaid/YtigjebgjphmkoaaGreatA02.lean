import Derived.Test.YtigjebgjphmkoaaGreatA01
set_option linter.unusedVariables false
set_option linter.unusedSimpArgs false
section
namespace Go.Kx.Au
open Go Go.Kx
section
variable {P:Program} {s t i off n:Nat} {pl:List (Nat×Nat)}
theorem scB (h:(match P.underlying t with|some (.struct _)=>false|some (.array _ _)=>false|some _=>true|none=>false)=true):xa P t:=by
 cases hu:P.underlying t with
 |none=>grind
 |some x=>rw[hu] at h;cases x<;>first|exact⟨_,hu,trivial⟩|exact⟨_,rfl,trivial⟩|cases h
theorem agB (h:((match P.underlying t with|some (.struct _)=>true|some (.array _ _)=>true|_=>false)&&(P.info? t).map (·.size)==some n)=true):G0 P t n:=by
 rw[Bool.and_eq_true,beq_iff_eq] at h
 refine⟨?_,h.2⟩
 grind
theorem foB (h:(match P.underlying s with|some (.struct fs)=>(match fs[i]? with|some f=>f.offset==off&&(match(P.info? f.type).map (·.size) with|some z=>z != 0|none=>false)|none=>false)|_=>false)=true):Bi P s i off:=by
 cases hu:P.underlying s with
 |none=>grind
 |some x=>
  rw[hu] at h
  cases x with
  |struct fs=>
   simp only at h
   cases hf:fs[i]? with
   |none=>grind
   |some f=>
    rw[hf] at h
    simp only[Bool.and_eq_true,beq_iff_eq] at h
    cases c:(P.info? f.type).map (·.size) with
    |none=>grind
    |some z=>rw[c] at h;exact⟨fs,f,z,hu,hf,h.1,c,by simpa using h.2⟩
  |_=>cases h
theorem fiB (h:(match P.underlying s with|some (.struct fs)=>(match fs[i]? with|some f=>f.offset==off&&f.type==t|none=>false)|_=>false)=true):G1 P s i off t:=by
 cases hu:P.underlying s with
 |none=>grind
 |some x=>
  rw[hu] at h
  cases x with
  |struct fs=>
   simp only at h
   cases hf:fs[i]? with
   |none=>grind
   |some f=>
    rw[hf] at h
    simp only[Bool.and_eq_true,beq_iff_eq] at h
    exact⟨fs,f,hu,hf,h.1,h.2⟩
  |_=>cases h
theorem plB (h:(match P.underlying t with|some (.struct fs)=>fs.toList.length==pl.length&&(fs.toList.zip pl).all (λq=>q.1.offset==q.2.1&&(P.info? q.1.type).map (·.size)==some q.2.2)|_=>false)=true):zC P t pl:=by
 cases hu:P.underlying t with
 |none=>grind
 |some x=>
  rw[hu] at h
  cases x with
  |struct fs=>
   simp only[Bool.and_eq_true,beq_iff_eq] at h
   exact⟨fs,hu,h.1,by simpa using h.2⟩
  |_=>cases h
end
class kM (P:Program) (t:TypeId):Prop where
 u:xa P t:=by exact scB (by kernel_rfl)
class rQ (P:Program) (t:TypeId) (n:outParam Nat):Prop where
 u:G0 P t n:=by exact agB (by kernel_rfl)
class pd (P:Program) (t:TypeId) (e size:outParam Nat):Prop where
 u:jX P t e size:=by exact⟨by kernel_rfl,by kernel_rfl⟩
class Hb (P:Program) (t:TypeId) (len e size:outParam Nat):Prop where
 u:wi P t len e size:=by exact⟨by kernel_rfl,by kernel_rfl⟩
class bU (P:Program) (s i:Nat) (off:outParam Nat):Prop where
 u:Bi P s i off:=by exact foB (by kernel_rfl)
class ET (P:Program) (s i:Nat) (off t:outParam Nat):Prop where
 u:G1 P s i off t:=by exact fiB (by kernel_rfl)
class jm (P:Program) (t:TypeId) (n:outParam Nat):Prop where
 u:(P.info? t).map (·.size)=some n:=by kernel_rfl
class IZ (P:Program) (t:TypeId) (v:outParam Value):Prop where
 u:jv P t v:=by unfold jv;kernel_rfl
class lC (P:Program) (t:TypeId) (l:outParam (List (Nat×Nat))):Prop where
 u:zC P t l:=by exact plB (by kernel_rfl)
class we (P:Program) (t:TypeId) (n:outParam Nat):Prop where
 u:nT P t n:=by unfold nT;kernel_rfl
class dw (P:Program) (t:TypeId) (x:outParam TypeDesc):Prop where
 u:P.underlying t=some x:=by kernel_rfl
class YE (P:Program):Prop where
 u:P.follows .mixedOrders=true
class ae (P:Program) (f:FuncId) (A:Prop) (vs:outParam (List Value)) (H:outParam PH) (R:outParam (Value->PH->Prop)):Prop where
 u:A->fU P f vs.toArray H R
 b:Body P f
def TV:Op->Bool
 | .call c=>(match c.callee with| .builtin b=>(match b with| .len=>false| .cap=>false| .min=>false| .max=>false|_=>true)|_=>true)
 | .alloc _=>true
 | .box _ _=>true
 | .store _ _ _=>true
 | .makeSlice _ _ _=>true
 | .buildSlice _ _ _=>true
 |_=>false
def Je:Op->Bool
 | .convert _ _ _=>true
 |_=>false
section
variable {P:Program} {rd:Option Nat} {n:Nat} {k:List Item} {ρ:Env} {D:List Deferred} {T H:PH} {Q:ll} {ops:Array Oper} {l:List Oper} {i:Nat} {A B:Prop}
def Pt (ρ:Env) (l:List Operand) (vs:List Value):Prop:=l.map (ev ρ)=vs
theorem YF:Pt ρ [] []:=rfl
theorem YG {x:Operand} {l:List Operand} {v:Value} {vs:List Value} (h:ev ρ x=v) (g:Pt ρ l vs):Pt ρ (x::l) (v::vs):=by unfold Pt at *; grind
def Pm (ρ:Env) (l:List (Nat×Operand)) (vs:List (Nat×Value)):Prop:=l.map (λq=>(q.1,ev ρ q.2))=vs
theorem zpm0:Pm ρ [] []:=rfl
theorem zpm1 {j:Nat} {x:Operand} {l:List (Nat×Operand)} {v:Value} {vs:List (Nat×Value)} (h:ev ρ x=v) (g:Pm ρ l vs):Pm ρ ((j,x)::l) ((j,v)::vs):=by unfold Pm at *; grind
theorem QR {d:Nat} {c:Op} {ty:TypeId} {p:String} {af:Array Edge} {v:Value} (e:bx P ρ ⟨some d,c,ty,p,af,none⟩ H v) (h:A->ba P rd n ops l (i+1) k (bQ ρ d v) D T H Q) (hd:Nat.blt d n=true):
 A->ba P rd n ops (⟨some d,c,ty,p,af,none⟩::l) i k ρ D T H Q:=λa=>W.q e (h a) hd
theorem YH {d j e:Nat} {c g:Bool} {m:Op} {ty:TypeId} {p:String} {af:Array Edge} {v:Value} (he:(ops[j]?).bind (·.dst)=some e) (u:ρ e= .bool c) (q:c=g) (r:bx P ρ ⟨some d,m,ty,p,af,some (j,g)⟩ H v)
 (h:A->ba P rd n ops l (i+1) k (bQ ρ d v) D T H Q) (hd:Nat.blt d n=true):
 A->ba P rd n ops (⟨some d,m,ty,p,af,some (j,g)⟩::l) i k ρ D T H Q:=λa=>W.w q r (h a) he u hd
theorem zoA {d j e:Nat} {c g:Bool} {r:Op} {ty:TypeId} {p:String} {af:Array Edge} (he:(ops[j]?).bind (·.dst)=some e) (q:ρ e= .bool c) (m:c= !g)
 (h:A->ba P rd n ops l (i+1) k (bQ ρ d undef) D T H Q) (hd:Nat.blt d n=true):
 A->ba P rd n ops (⟨some d,r,ty,p,af,some (j,g)⟩::l) i k ρ D T H Q:=λa=>W.o m (h a) he q hd
theorem zuA {d j e:Nat} {g:Bool} {m:Op} {ty:TypeId} {p:String} {af:Array Edge} (he:(ops[j]?).bind (·.dst)=some e) (c:ρ e=undef)
 (h:A->ba P rd n ops l (i+1) k (bQ ρ d undef) D T H Q) (hd:Nat.blt d n=true):
 A->ba P rd n ops (⟨some d,m,ty,p,af,some (j,g)⟩::l) i k ρ D T H Q:=λa=>W.u (h a) he c hd
theorem YI {α:Type} {G:Prop} {F K:α->Prop} (g:∀x,F x->(K x->G)):(∃x,F x/\K x)->G:=by grind
theorem zjA {b:Bool} {G:Prop} (g1:b=true->(A->G)) (c:b=false->(B->G)):aL b A B->G:=λh=>W.J h g1 c
theorem zod {d:Nat} {c:Op} {ty:TypeId} {p:String} {af:Array Edge} (he:TV c=true) (h:A->dT P ρ ⟨some d,c,ty,p,af,none⟩ T H λv m H'=>ba P rd n ops l (i+1) k (bQ ρ d v) D m H' Q) (e:Nat.blt d n=true):A->ba P rd n ops (⟨some d,c,ty,p,af,none⟩::l) i k ρ D T H Q:=λa=>W.od (h a) e
theorem zodc {d:Nat} {c:Op} {ty:TypeId} {p:String} {af:Array Edge} (he:Je c=true) (h:A->dT P ρ ⟨some d,c,ty,p,af,none⟩ T H λv m H'=>ba P rd n ops l (i+1) k (bQ ρ d v) D m H' Q) (e:Nat.blt d n=true):A->ba P rd n ops (⟨some d,c,ty,p,af,none⟩::l) i k ρ D T H Q:=λa=>W.od (h a) e
theorem zon {c:Op} {ty:TypeId} {p:String} {af:Array Edge} (h:A->dT P ρ ⟨none,c,ty,p,af,none⟩ T H λv e H'=>ba P rd n ops l (i+1) k ρ D e H' Q):A->ba P rd n ops (⟨none,c,ty,p,af,none⟩::l) i k ρ D T H Q:=λa=>MU rfl rfl (h a)
theorem zodw {d j e:Nat} {c g:Bool} {m:Op} {ty:TypeId} {p:String} {af:Array Edge} (he:(ops[j]?).bind (·.dst)=some e) (w:ρ e= .bool c) (u:c=g) (z:TV m=true) (h:A->dT P ρ ⟨some d,m,ty,p,af,some (j,g)⟩ T H λv r H'=>ba P rd n ops l (i+1) k (bQ ρ d v) D r H' Q) (q:Nat.blt d n=true):
 A->ba P rd n ops (⟨some d,m,ty,p,af,some (j,g)⟩::l) i k ρ D T H Q:=λa=>zB (nc rfl he w u) rfl (Nat.le_of_ble_eq_true q) (h a)
end
section
variable {P:Program} {ρ:Env} {T H:PH} {d:Option Nat} {ty:TypeId} {p:String} {af:Array Edge} {g:Option (Nat×Bool)}
theorem zMf {f:Fn} {fi ca:Array Operand} {vs us:List Value} (c:Pt ρ fi.toList vs) (e:Pt ρ ca.toList us):bx P ρ ⟨d,.makeFunc f fi ca,ty,p,af,g⟩ H (.func f vs.toArray us.toArray):=N3 c e
theorem zMv {x:Operand} {v:Value} (h:ev ρ x=v):bx P ρ ⟨d,.move x,ty,p,af,g⟩ H v:=mu h
theorem zAs {x:Operand} {v:Value} (h:ev ρ x=v):bx P ρ ⟨d,.assign x,ty,p,af,g⟩ H v:=Ek h
theorem zPkT {c x y:Operand} {b:Bool} {v:Value} (m:ev ρ c= .bool b) (e:b=true) (h:ev ρ x=v):bx P ρ ⟨d,.pick c x y,ty,p,af,g⟩ H v:=MP (Xw m e) h
theorem zPkF {c x y:Operand} {b:Bool} {v:Value} (m:ev ρ c= .bool b) (e:b=false) (h:ev ρ y=v):bx P ρ ⟨d,.pick c x y,ty,p,af,g⟩ H v:=MQ (Xx m e) h
theorem zFd {s i off:Nat} {x:Operand} {a:Addr} [h:bU P s i off] (c:ev ρ x= .pointer (some a)):bx P ρ ⟨d,.fieldAddr s x i,ty,p,af,g⟩ H (.pointer (some (a.add off))):=AX h.u c
theorem zCv {src dst:TypeId} {x:Operand} {q kd:IntKind} {c:TypeDesc} {a:Int} [e:dw P src c] [h:dw P dst (.int kd)] (m:ev ρ x= .int q a):bx P ρ ⟨d,.convert src dst x,ty,p,af,g⟩ H (.int kd (kd.wrap a)):=Xt e.u h.u m
theorem zePn {tx tyy e:TypeId} {x y:Operand} {c:Option Addr} [h:dw P tx (.pointer e)] (m:ev ρ x= .pointer c) (q:ev ρ y= .pointer none):bx P ρ ⟨d,.binOp .eql tx x y tyy,ty,p,af,g⟩ H (.bool (Option.isNone c)):=At h.u m q
theorem znPn {tx tyy e:TypeId} {x y:Operand} {c:Option Addr} [h:dw P tx (.pointer e)] (m:ev ρ x= .pointer c) (q:ev ρ y= .pointer none):bx P ρ ⟨d,.binOp .neq tx x y tyy,ty,p,af,g⟩ H (.bool (!Option.isNone c)):=Vz h.u m q
theorem zeSn {tx tyy e:TypeId} {x y:Operand} {s:Sl} [h:dw P tx (.slice e)] (c:ev ρ x=Sl.v s) (m:ev ρ y= .slice none 0 0):bx P ρ ⟨d,.binOp .eql tx x y tyy,ty,p,af,g⟩ H (.bool (Option.isNone s.a)):=V0 h.u c m
theorem znSn {tx tyy e:TypeId} {x y:Operand} {s:Sl} [h:dw P tx (.slice e)] (c:ev ρ x=Sl.v s) (m:ev ρ y= .slice none 0 0):bx P ρ ⟨d,.binOp .neq tx x y tyy,ty,p,af,g⟩ H (.bool (!Option.isNone s.a)):=V1 h.u c m
theorem znB {tx tyy:TypeId} {x y:Operand} {a b:Bool} [h:dw P tx .bool] (c:ev ρ x= .bool a) (e:ev ρ y= .bool b):bx P ρ ⟨d,.binOp .neq tx x y tyy,ty,p,af,g⟩ H (.bool (a != b)):=X1 h.u c e
theorem zeS {tx tyy:TypeId} {x y:Operand} {a b:ByteArray} [h:dw P tx .string] (c:ev ρ x= .string a) (e:ev ρ y= .string b):bx P ρ ⟨d,.binOp .eql tx x y tyy,ty,p,af,g⟩ H (.bool (a.toList==b.toList)):=X8 h.u c e
theorem zLn {xs:Array Operand} {t e:Nat} {s:Sl} [h:dw P t (.slice e)] (c:xs.toList.map (ev ρ)=[Sl.v s]):bx P ρ ⟨d,.call ⟨.builtin .len,xs,#[t]⟩,ty,p,af,g⟩ H (.int .i64 s.len):=vt h.u rfl c
theorem zCp {xs:Array Operand} {t e:Nat} {s:Sl} [h:dw P t (.slice e)] (c:xs.toList.map (ev ρ)=[Sl.v s]):bx P ρ ⟨d,.call ⟨.builtin .cap,xs,#[t]⟩,ty,p,af,g⟩ H (.int .i64 s.cap):=Ze h.u rfl c
variable {tx tyy:TypeId} {kk:IntKind} {a b:Int} {x y:Operand}
theorem zQu (e:ev ρ x= .int kk a) (h:ev ρ y= .int kk b) (c:b≠0):bx P ρ ⟨d,.binOp .quo tx x y tyy,ty,p,af,g⟩ H (.int kk (kk.wrap (a.tdiv b))):=ZU c e h
theorem zRm (e:ev ρ x= .int kk a) (h:ev ρ y= .int kk b) (c:b≠0):bx P ρ ⟨d,.binOp .rem tx x y tyy,ty,p,af,g⟩ H (.int kk (a.tmod b)):=ZV c e h
theorem zSh {k2:IntKind} (e:ev ρ x= .int kk a) (h:ev ρ y= .int k2 b) (c:0<=b):bx P ρ ⟨d,.binOp .shl tx x y tyy,ty,p,af,g⟩ H (.int kk (yz kk a b)):=ZY c e h
theorem zSr {k2:IntKind} (e:ev ρ x= .int kk a) (h:ev ρ y= .int k2 b) (c:0<=b):bx P ρ ⟨d,.binOp .shr tx x y tyy,ty,p,af,g⟩ H (.int kk (gy kk a b)):=ZZ c e h
theorem zLd {t:TypeId} {x:Operand} {a:Addr} {v:Value} (e:cellAt H a=some v) [c:kM P t] (h:ev ρ x= .pointer (some a)):bx P ρ ⟨d,.load t x,ty,p,af,g⟩ H v:=C3 c.u h e
theorem zLdA {t n:Nat} {x:Operand} {a:Addr} {cs:List Value} (e:cI H a n=some cs) [c:rQ P t n] (h:ev ρ x= .pointer (some a)):bx P ρ ⟨d,.load t x,ty,p,af,g⟩ H (.agg cs.toArray):=Aq c.u h e
theorem zNl {x:Operand} {a:Addr} {q:Option Addr} (c:q=some a) (e:ev ρ x= .pointer q):bx P ρ ⟨d,.nilCheck x,ty,p,af,g⟩ H (.pointer (some a)):=Bh (ptn e c)
theorem zIx {t e size:Nat} {x h:Operand} {s:Sl} {r:IntKind} {i:Int} {a:Addr} (hi:Sw s size i a) [m:pd P t e size] (q:ev ρ x=Sl.v s) (c:ev ρ h= .int r i):bx P ρ ⟨d,.indexAddr t x h,ty,p,af,g⟩ H (.pointer (some a)):=xF m.u hi q c
theorem zIxA {t n e size:Nat} {x h:Operand} {a0 a:Addr} {r:IntKind} {i:Int} (hi:Sx n a0 size i a) [m:Hb P t n e size] (q:ev ρ x= .pointer (some a0)) (c:ev ρ h= .int r i):bx P ρ ⟨d,.indexAddr t x h,ty,p,af,g⟩ H (.pointer (some a)):=Xz m.u hi q c
theorem OB {x:Operand} {k:IntKind} {l:Int} (h:ev ρ x= .int k l):∃k,ev ρ x= .int k l:=⟨k,h⟩
theorem zCt {t e size:Nat} {x:Operand} {s r:Sl} {lo hi:Option Operand} {l h:Int} (q:Sy s size l h r) [w:pd P t e size] (z:ev ρ x=Sl.v s)
 (m:(match lo with|none=>l=0|some o=>∃k,ev ρ o= .int k l)) (c:(match hi with|none=>h=(s.len:Int)|some o=>∃k,ev ρ o= .int k h)):bx P ρ ⟨d,.slice t x lo hi none,ty,p,af,g⟩ H (Sl.v r):=Ux w.u q z m c
theorem zCtA {t n e size:Nat} {x:Operand} {a:Addr} {r:Sl} {lo hi:Option Operand} {l h:Int} (q:TH n a size l h r) [w:Hb P t n e size] (z:ev ρ x= .pointer (some a))
 (m:(match lo with|none=>l=0|some o=>∃k,ev ρ o= .int k l)) (c:(match hi with|none=>h=(n:Int)|some o=>∃k,ev ρ o= .int k h)):bx P ρ ⟨d,.slice t x lo hi none,ty,p,af,g⟩ H (Sl.v r):=YA w.u q z m c
theorem zCt3 {t e size:Nat} {x lo hi z:Operand} {s r:Sl} {l h m:Int} (C:TS s size l h m r) [E:pd P t e size] (F:ev ρ x=Sl.v s)
 (q:∃k,ev ρ lo= .int k l) (c:∃k,ev ρ hi= .int k h) (w:∃k,ev ρ z= .int k m):bx P ρ ⟨d,.slice t x (some lo) (some hi) (some z),ty,p,af,g⟩ H (Sl.v r):=QQ E.u C F q c w
theorem zSt {src dst e:TypeId} {x:Operand} {s:Sl} {v:ByteArray} (h:∃l:List Int,eQ H s 1=some (l.map (Value.int .u8))/\v=strOf l) [c:dw P src (.slice e)] [m:dw P dst .string] [q:dw P e (.int .u8)] (r:ev ρ x=Sl.v s):
 bx P ρ ⟨d,.convert src dst x,ty,p,af,g⟩ H (.string v):=Zh c.u m.u q.u r h
theorem zFi {s i off t:Nat} {x:Operand} {cs:List Value} {v:Value} [hf:ET P s i off t] [c:kM P t] (h:ev ρ x= .agg cs.toArray) (e:cs[off]?=some v):bx P ρ ⟨d,.field s x i,ty,p,af,g⟩ H v:=Vv hf.u c.u h e
end
section
variable {P:Program} {ρ:Env} {T H:PH} {d:Option Nat} {ty:TypeId} {p:String} {af:Array Edge} {gu:Option (Nat×Bool)} {K:Value->PH->PH->Prop} {A:Prop}
variable {xs:Array Operand} {ats:Array TypeId} {f:FuncId} {vs:List Value}
theorem zcl0 {e:PH->Prop} {v0:Value} [c:ae P f A vs H λv H'=>v=v0/\e H'] (m:Pt ρ xs.toList vs) (h:∀H',e H'->K v0 T H'):A->dT P ρ ⟨d,.call ⟨.value (.func f),xs,ats⟩,ty,p,af,gu⟩ T H K:=
 λa=>wj c.b m (c.u a) (by grind)
theorem zcl1 {α:Type} {e:α->Value} {m:α->PH->Prop} [c:ae P f A vs H λv H'=>∃x,v=e x/\m x H'] (q:Pt ρ xs.toList vs) (h:∀x H',m x H'->K (e x) T H'):A->dT P ρ ⟨d,.call ⟨.value (.func f),xs,ats⟩,ty,p,af,gu⟩ T H K:=
 λa=>wj c.b q (c.u a) (by grind)
theorem zcl2 {α β:Type} {e:α->β->Value} {m:α->β->PH->Prop} [c:ae P f A vs H λv H'=>∃x y,v=e x y/\m x y H'] (q:Pt ρ xs.toList vs) (h:∀x y H',m x y H'->K (e x y) T H'):A->dT P ρ ⟨d,.call ⟨.value (.func f),xs,ats⟩,ty,p,af,gu⟩ T H K:=
 λa=>wj c.b q (c.u a) (by grind)
theorem zcl3 {α β γ:Type} {e:α->β->γ->Value} {m:α->β->γ->PH->Prop} [c:ae P f A vs H λv H'=>∃x y z,v=e x y z/\m x y z H'] (q:Pt ρ xs.toList vs) (h:∀x y z H',m x y z H'->K (e x y z) T H'):A->dT P ρ ⟨d,.call ⟨.value (.func f),xs,ats⟩,ty,p,af,gu⟩ T H K:=
 λa=>wj c.b q (c.u a) (by grind)
theorem znw {e:TypeId} {z:Value} {cs:List Value} {c:Addr->PH->Prop} [r:IZ P e z] (m:z.cells=cs.toArray) (h:∀a H',c a H'->K (.pointer (some a)) T H'):aj H (row cs e) c->dT P ρ ⟨d,.alloc e,ty,p,af,gu⟩ T H K:=
 λa=>uL r.u m λx H' q=>h x H' (a x H' q)
theorem zbx {e:TypeId} {x:Operand} {v:Value} {cs:List Value} {c:Addr->PH->Prop} (r:ev ρ x=v) (m:v.cells=cs.toArray) (h:∀a H',c a H'->K (.pointer (some a)) T H'):aj H (row cs e) c->dT P ρ ⟨d,.box e x,ty,p,af,gu⟩ T H K:=
 λa=>xd r m λx H' q=>h x H' (a x H' q)
theorem zsto {t m:Nat} {x y:Operand} {a:Addr} {v:Value} {vs:List Value} {c:PH->Prop} [e:jm P t m] (w:ev ρ x= .pointer (some a)) (z:ev ρ y=v) (q:v.cells=vs.toArray) (r:vs.length=m) (g:∀H',c H'->K undef T H'):
 aV H a vs c->dT P ρ ⟨d,.store t x y,ty,p,af,gu⟩ T H K:=λh=>W.dS h e.u w z g q r
theorem zstA {t m:Nat} {x y:Operand} {a:Addr} {v:Value} {vs:List Value} {c:PH->Prop} [e:jm P t m] (r:ev ρ x= .pointer (some a)) (w:ev ρ y=v) (q:v.cells=vs.toArray) (g:∀H',c H'->K undef T H'):
 Ep H a m vs c->dT P ρ ⟨d,.store t x y,ty,p,af,gu⟩ T H K:=λh=>W.dS h.2 e.u r w g q h.1
theorem zmkS {t e size m:Nat} {x y:Operand} {z:Value} {zs:List Value} {nn c:Int} {k1 k2:IntKind} {q:Sl->PH->Prop} [F:pd P t e size] [hm:we P e m] [L:IZ P e z] (I:ev ρ x= .int k1 nn) (J:ev ρ y= .int k2 c) (C:z.cells=zs.toArray) (M:Nat.ble 1 m=true) (w:zs.length=size) (G:Nat.ble 1 size=true)
 (h:∀r H',q r H'->K (Sl.v r) T H'):zA H e m zs nn c q->dT P ρ ⟨d,.makeSlice t x y,ty,p,af,gu⟩ T H K:=
 λa=>Uy F.u hm.u (by simp_all) L.u C w (by simp_all) I J a.1 λr H' E=>h r H' (a.2 r H' E)
theorem zbs0 {t e size:Nat} {c:Sl->PH->Prop} [q:pd P t e size] (h:∀r H',c r H'->K (Sl.v r) T H'):bZ H (row [] e) 0 c->dT P ρ ⟨d,.buildSlice t 0 #[],ty,p,af,gu⟩ T H K:=λa=>X9 q.u λr H' m=>h r H' (a r H' m)
theorem zbsl {t e size len:Nat} {parts:Array (Nat×Operand)} {ps:List (Nat×Value)} {z:Value} {zs cs:List Value} {c:Sl->PH->Prop} [E:pd P t e size] [F:IZ P e z] (m:Pm ρ parts.toList ps) (w:z.cells=zs.toArray) (q:zs.length=size) (I:Nat.beq (len*size) 0=false) (G:Nat.ble (len*size) (2 ^ 24)=true)
 (hf:Instr.fill (λi=>some (i*size,size)) (cN len zs).toArray ps=some cs.toArray) (h:∀r H',c r H'->K (Sl.v r) T H'):bZ H (row cs e) len c->dT P ρ ⟨d,.buildSlice t len parts,ty,p,af,gu⟩ T H K:=
 λa=>Uz E.u F.u w q (λe=>by simp_all) (by simp_all) m hf λr H' C=>h r H' (a r H' C)
theorem zapp {t e size m:Nat} {z:Value} {zs:List Value} {s x:Sl} {E L:TypeId} {c:Sl->PH->Prop} [F:pd P t e size] [hm:we P e m] [J:IZ P e z] [w:dw P E (.slice L)] (I:Pt ρ xs.toList [Sl.v s,Sl.v x]) (C:z.cells=zs.toArray) (M:Nat.ble 1 m=true) (q:zs.length=size) (G:Nat.ble 1 size=true)
 (hk:∀r H',c r H'->K (Sl.v r) T H'):fh H e size m zs s x c->dT P ρ ⟨d,.call ⟨.builtin .append,xs,#[t,E]⟩,ty,p,af,gu⟩ T H K:=
 λh=>HW F.u hm.u (by simp_all) J.u C q (by simp_all) rfl rfl w.u I h hk
theorem zapZ {t e size m:Nat} {z:Value} {zs:List Value} {s:Sl} {n:Int} {E:TypeId} {kk:IntKind} {c:Sl->PH->Prop} [F:pd P t e size] [hm:we P e m] [J:IZ P e z] [w:dw P E (.int kk)] (I:Pt ρ xs.toList [Sl.v s,.int .i64 n]) (C:z.cells=zs.toArray) (L:Nat.ble 1 m=true) (q:zs.length=size) (G:Nat.ble 1 size=true)
 (hk:∀r H',c r H'->K (Sl.v r) T H'):JB H e size m zs s n c->dT P ρ ⟨d,.call ⟨.builtin .append,xs,#[t,E]⟩,ty,p,af,gu⟩ T H K:=
 λh=>OA F.u hm.u (by simp_all) J.u C q (by simp_all) rfl rfl w.u I h hk
theorem zcpy {t w e size:Nat} {s x:Sl} {c:Int->PH->Prop} [m:pd P t e size] (q:Pt ρ xs.toList [Sl.v s,Sl.v x]) (hk:∀r H',c r H'->K (.int .i64 r) T H'):nC H size s x c->dT P ρ ⟨d,.call ⟨.builtin .copy,xs,#[t,w]⟩,ty,p,af,gu⟩ T H K:=λh=>V2 m.u rfl q h hk
theorem zclr {t e size:Nat} {z:Value} {zs:List Value} {s:Sl} {c:PH->Prop} [w:pd P t e size] [E:IZ P e z] (C:Pt ρ xs.toList [Sl.v s]) (q:z.cells=zs.toArray) (m:zs.length=size) (r:zs.all cg=true)
 (hk:∀H',c H'->K (.tuple #[]) T H'):xf H size zs s c->dT P ρ ⟨d,.call ⟨.builtin .clear,xs,#[t]⟩,ty,p,af,gu⟩ T H K:=λh=>S7 w.u E.u q m rfl r C h hk
theorem zmrk {t e:TypeId} {x:Operand} {s:Sl} {c:PH->Prop} [m:dw P t (.slice e)] [q:dw P e (.int .u8)] (r:ev ρ x=Sl.v s) (hk:∀H',c H'->K (Sl.v s) T H'):U0 H s c->dT P ρ ⟨d,.convert t t x,ty,p,af,gu⟩ T H K:=λh=>Vx m.u q.u r h hk
end
class Dr {α:Type} (m:Nat) (k:List α) (k2:outParam (List α)):Prop where
 u:k.drop m=k2
instance {α:Type} {k:List α}:Dr 0 k k:=⟨rfl⟩
instance {α:Type} {m:Nat} {x:α} {k k2:List α} [h:Dr m k k2]:Dr (m+1) (x::k) k2:=⟨h.u⟩
class EU (v:Value) (l:outParam (List Value)):Prop
instance {k:IntKind} {a:Int}:EU (.int k a) [.int k a]:=⟨⟩
instance {a:Bool}:EU (.bool a) [.bool a]:=⟨⟩
instance {a:Option Addr}:EU (.pointer a) [.pointer a]:=⟨⟩
instance {a:Option Addr} {n m:Nat}:EU (.slice a n m) [.slice a n m]:=⟨⟩
instance {s:Sl}:EU (Sl.v s) [Sl.v s]:=⟨⟩
instance {s:ByteArray}:EU (.string s) [.string s]:=⟨⟩
instance {f:Fn} {a b:Array Value}:EU (.func f a b) [.func f a b]:=⟨⟩
instance {l:List Value}:EU (.agg l.toArray) l:=⟨⟩
class Jf (l:List Value) (n:Nat) (v:List Value) (r:outParam (List Value)):Prop
instance {l:List Value}:Jf l 0 [] l:=⟨⟩
instance {l v r:List Value} {x y:Value} [Jf l 0 v r]:Jf (x::l) 0 (y::v) (y::r):=⟨⟩
instance {l v r:List Value} {x:Value} {n:Nat} [Jf l n v r]:Jf (x::l) (n+1) v (x::r):=⟨⟩
class U4 (pl:List (Nat×Nat)) (i:Nat) (o:outParam Nat):Prop
instance {a b:Nat} {r:List (Nat×Nat)}:U4 ((a,b)::r) 0 a:=⟨⟩
instance {x:Nat×Nat} {r:List (Nat×Nat)} {i o:Nat} [U4 r i o]:U4 (x::r) (i+1) o:=⟨⟩
class U5 (pl:List (Nat×Nat)) (zs:List Value) (ps:List (Nat×Value)) (cs:outParam (List Value)):Prop
instance filN {pl:List (Nat×Nat)} {zs:List Value}:U5 pl zs [] zs:=⟨⟩
theorem filS {pl:List (Nat×Nat)} {zs l c cs:List Value} {ps:List (Nat×Value)} {i o:Nat} {v:Value} [U4 pl i o] [EU v l] [Jf zs o l c] (_:U5 pl c ps cs):U5 pl zs ((i,v)::ps) cs:=⟨⟩
class U6 (zs:List Value) (ps:List (Nat×Value)) (cs:outParam (List Value)):Prop
instance fiaN {zs:List Value}:U6 zs [] zs:=⟨⟩
theorem fiaS {zs l c cs:List Value} {ps:List (Nat×Value)} {i:Nat} {v:Value} [EU v l] [Jf zs i l c] (_:U6 c ps cs):U6 zs ((i,v)::ps) cs:=⟨⟩
section
variable {P:Program} {ρ:Env} {T H:PH} {d:Option Nat} {ty:TypeId} {p:String} {af:Array Edge} {g:Option (Nat×Bool)}
theorem U7 {t:Nat} {parts:Array (Nat×Operand)} {pl:List (Nat×Nat)} {ps:List (Nat×Value)} {z:Value} {zs cs:List Value} [m:lC P t pl] [q:IZ P t z] (h:z.cells=zs.toArray) (e:Pm ρ parts.toList ps)
 (c:U5 pl zs ps cs) (hf:Instr.fill (λi=>pl.toArray[i]?) zs.toArray ps=some cs.toArray):bx P ρ ⟨d,.build t parts,ty,p,af,g⟩ H (.agg cs.toArray):=MV m.u q.u h e hf
theorem YJ {t len e size:Nat} {parts:Array (Nat×Operand)} {ps:List (Nat×Value)} {z:Value} {zs cs:List Value} [q:Hb P t len e size] [r:IZ P t z] (m:z.cells=zs.toArray) (h:Pm ρ parts.toList ps)
 (c:U6 zs ps cs) (hf:Instr.fill (λi=>some (i*size,size)) zs.toArray ps=some cs.toArray):bx P ρ ⟨d,.build t parts,ty,p,af,g⟩ H (.agg cs.toArray):=S3 q.u r.u m h hf
end
section
variable {P:Program} {rd:Option Nat} {n:Nat} {k:List Item} {ρ:Env} {D:List Deferred} {T H:PH} {Q:ll} {ops:Array Oper} {l:List Oper} {i:Nat} {A B:Prop}
theorem zsR {x y:Code} (h:A->Go P rd n (.code x:: .code y::k) ρ D T H Q):A->Go P rd n (.code (.seq x y)::k) ρ D T H Q:=λa=>.seq (h a)
theorem zrR {id:Nat} (h:A->ba P rd n l.toArray l 0 k ρ D T H Q):A->Go P rd n (.code (.region id l.toArray false)::k) ρ D T H Q:=λa=>.region rfl (by grind)
theorem zzR (h:A->Go P rd n k ρ D T H Q):A->ba P rd n ops [] i k ρ D T H Q:=λa=>.nil (h a)
theorem zbR {id:Nat} {c:Code} (h:A->Go P rd n (.code c:: .inBlock id::k) ρ D T H Q):A->Go P rd n (.code (.block id c)::k) ρ D T H Q:=λa=>.block (h a)
theorem zBR {l:Nat} (h:A->Go P rd n k ρ D T H Q):A->Go P rd n (.inBlock l::k) ρ D T H Q:=λa=>.inBlock (h a)
theorem zKR (h:A->Go P rd n k ρ D T H Q):A->Go P rd n (.code .skip::k) ρ D T H Q:=λa=>.skip (h a)
theorem zXR {id:Nat} {c:List Item} (he:exitTo id k=some c) (h:A->Go P rd n c ρ D T H Q):A->Go P rd n (.code (.exit id)::k) ρ D T H Q:=λa=>.exit he (h a)
theorem zcF {c:Operand} {x y:Code} {b:Bool} (m:ev ρ c= .bool b) (e:b=false) (h:A->Go P rd n (.code y::k) ρ D T H Q):A->Go P rd n (.code (.cond c x y)::k) ρ D T H Q:=λa=>W.N e m (h a)
theorem zcJ {c:Operand} {x y:Code} {b:Bool} (m:ev ρ c= .bool b) (q:b=true->(A->Go P rd n (.code x::k) ρ D T H Q)) (r:b=false->(B->Go P rd n (.code y::k) ρ D T H Q)):aL b A B->Go P rd n (.code (.cond c x y)::k) ρ D T H Q:=
 λh=>W.J h (λe a=>W.C e m (q e a)) (λe a=>W.N e m (r e a))
structure Hc (A B:Prop):Prop where
 f:A->B
theorem Zi (h:A->B):Hc A B:=⟨h⟩
end
end Go.Kx.Au
namespace Go.Kx
abbrev mK {σ:Type} (m:Nat) (E:Env->σ->Prop) (k:σ->PH->Prop) (s:σ) (H:PH):Prop:=k s H
abbrev mB {σ:Type} (E:Env->σ->Prop) (k:σ->PH->Prop) (s:σ) (H:PH):Prop:=k s H
abbrev mL {σ:Type} (E:Env->σ->Prop) (body:σ->PH->(σ->PH->Prop)->Prop) (s:σ) (H:PH) (j:σ->PH->Prop):Prop:=body s H j
end Go.Kx
namespace Go.Kx.Au
open Go Go.Kx
section
variable {P:Program} {rd:Option Nat} {n:Nat} {k:List Item} {ρ:Env} {D:List Deferred} {T H:PH} {Q:ll} {ops:Array Oper} {l:List Oper} {i:Nat} {A B:Prop}
theorem zjG {σ:Type} {m:Nat} {E:Env->σ->Prop} {kk:σ->PH->Prop} {body:(σ->PH->Prop)->Prop} {k2:List Item} [d:Dr m k k2] (c:∀s H ρ,Hc (E ρ s) (kk s H->Go P rd n k2 ρ D T H Q))
 (e:∀j:σ->PH->Prop,(∀s H ρ,j s H->E ρ s->Go P rd n k2 ρ D T H Q)->(body j->Go P rd n k ρ D T H Q)):aO (mK m E kk) body->Go P rd n k ρ D T H Q:=λ(h:aO kk body)=>MS m E h (λs H ρ a b=>d.u▸(c s H ρ).f b a) λj q=>e j (d.u▸q)
theorem zjB {σ:Type} {E:Env->σ->Prop} {kk:σ->PH->Prop} {body:(σ->PH->Prop)->Prop} {c:Item} {k2:List Item} (e:∀s H ρ,Hc (E ρ s) (kk s H->Go P rd n k2 ρ D T H Q))
 (m:∀j:σ->PH->Prop,(∀s H ρ,j s H->E ρ s->Go P rd n k2 ρ D T H Q)->(body j->Go P rd n (c::k2) ρ D T H Q)):aO (mB E kk) body->Go P rd n (c::k2) ρ D T H Q:=λ(h:aO kk body)=>MS 1 E h (λs H ρ a b=>(e s H ρ).f b a) m
theorem zjO {σ:Type} {m:Nat} {E:Env->σ->Prop} {kk:σ->PH->Prop} {body:(σ->PH->Prop)->Prop} {l2:List Oper} [d:Dr m l l2] (c:∀s H ρ,Hc (E ρ s) (kk s H->ba P rd n ops l2 (i+m) k ρ D T H Q))
 (e:∀j:σ->PH->Prop,(∀s H ρ,j s H->E ρ s->ba P rd n ops l2 (i+m) k ρ D T H Q)->(body j->ba P rd n ops l i k ρ D T H Q)):aO (mK m E kk) body->ba P rd n ops l i k ρ D T H Q:=λ(h:aO kk body)=>En m E h (λs H ρ a b=>d.u▸(c s H ρ).f b a) λj q=>e j (d.u▸q)
theorem zlG {σ:Type} {c:Code} {E:Env->σ->Prop} {m:σ->PH->(σ->PH->Prop)->Prop} {s0:σ} (r:E ρ s0)
 (h:∀ρ s H again,(∀q H' ρ',again q H'->E ρ' q->Go P rd n (.inLoop c::k) ρ' D T H' Q)->Hc (E ρ s) (m s H again->Go P rd n (.code c:: .inLoop c::k) ρ D T H Q)):bw (mL E m) s0 H->Go P rd n (.code (.loop c)::k) ρ D T H Q:=
 λa=>As E a r λρ s H again e b g=>(h ρ s H again g).f e b
theorem zuG {σ:Type} {J:σ->PH->Prop} {E:Env->σ->Prop} {s:σ} (c:∀s H ρ,J s H->E ρ s->Go P rd n k ρ D T H Q) (e:E ρ s):J s H->Go P rd n k ρ D T H Q:=by grind
theorem zuO {σ:Type} {J:σ->PH->Prop} {E:Env->σ->Prop} {s:σ} (c:∀s H ρ,J s H->E ρ s->ba P rd n ops l i k ρ D T H Q) (e:E ρ s):J s H->ba P rd n ops l i k ρ D T H Q:=by grind
end
section
variable {P:Program} {n:Nat} {ρ:Env} {T H:PH} {k:List Item} {rd:Option Nat} {fn:Func}
theorem zE0 {K:PH->Prop} {v0:Value} (e:fn.results= #[]) (m:v0= .tuple #[]):K H->Go P rd n (.code .ret::k) ρ [] PH.none H λfi ρ D c H'=>(fi= .ret∨fi= .lk)/\∃v Tg,qa D c Tg/\jj P fn ρ H' v/\v=v0/\K H':=
 λh=>by subst m;exact W.E (il e) ⟨rfl,h⟩
theorem zEf {K:PH->Prop} {v0:Value} (e:fn.results= #[]) (m:v0= .tuple #[]):K H->Go P rd n [] ρ [] PH.none H λfi ρ D c H'=>(fi= .ret∨fi= .lk)/\∃v Tg,qa D c Tg/\jj P fn ρ H' v/\v=v0/\K H':=
 λh=>by subst m;exact .lk ⟨.inr rfl,_,_,qa.nil,il e,rfl,h⟩
theorem zE1 {α:Type} {e:α->Value} {K:α->PH->Prop} {a:Tmp} {x:α} (m:fn.results= #[.tmp a]) (q:ρ a=e x):K x H->Go P rd n (.code .ret::k) ρ [] PH.none H λfi ρ D c H'=>(fi= .ret∨fi= .lk)/\∃v Tg,qa D c Tg/\jj P fn ρ H' v/\∃x,v=e x/\K x H':=
 λh=>W.E1 m q h
theorem zE2 {α β:Type} {e:α->β->Value} {K:α->β->PH->Prop} {a b:Tmp} {x:α} {y:β} {u v:Value} (w:e x y= .tuple #[u,v]) (m:fn.results= #[.tmp a,.tmp b]) (q:ρ a=u) (r:ρ b=v):
 K x y H->Go P rd n (.code .ret::k) ρ [] PH.none H λfi ρ D c H'=>(fi= .ret∨fi= .lk)/\∃v Tg,qa D c Tg/\jj P fn ρ H' v/\∃x y,v=e x y/\K x y H':=
 λh=>W.E (Xr m q r) (by grind)
theorem zE3 {α β γ:Type} {e:α->β->γ->Value} {K:α->β->γ->PH->Prop} {a b c:Tmp} {x:α} {y:β} {z:γ} {u v w:Value} (G:e x y z= .tuple #[u,v,w]) (q:fn.results= #[.tmp a,.tmp b,.tmp c]) (r:ρ a=u) (C:ρ b=v) (F:ρ c=w):
 K x y z H->Go P rd n (.code .ret::k) ρ [] PH.none H λfi ρ D m H'=>(fi= .ret∨fi= .lk)/\∃v Tg,qa D m Tg/\jj P fn ρ H' v/\∃x y z,v=e x y z/\K x y z H':=
 λh=>W.E (Xs q r C F) (by grind)
end
section
variable {P:Program} {rd:Option Nat} {n:Nat} {k:List Item} {ρ:Env} {D:List Deferred} {T H:PH} {Q:ll} {ops:Array Oper} {l:List Oper} {i:Nat} {A B:Prop} {o:Op} {ty:TypeId} {p:String} {af:Array Edge} {d:Nat} {d':Option Nat} {j:Nat×Bool}
theorem zshb {id:Nat} {c:Code} (h:A->Go P rd n (.code (.block id c)::k) ρ D T H Q):A->Go P rd n (.code (.block id c)::k) ρ D T H Q:=h
theorem zshD {id:Nat} (h:A->Go P rd n (.code (.region id ops true)::k) ρ D T H Q):A->Go P rd n (.code (.region id ops true)::k) ρ D T H Q:=h
theorem zshf (h:A->Go P rd n [] ρ D T H Q):A->Go P rd n [] ρ D T H Q:=h
theorem zshx {id:Nat} (h:A->Go P rd n (.code (.exit id)::k) ρ D T H Q):A->Go P rd n (.code (.exit id)::k) ρ D T H Q:=h
theorem zshd {K:Value->PH->PH->Prop} {gu:Option (Nat×Bool)} (h:A->dT P ρ ⟨d',o,ty,p,af,gu⟩ T H K):A->dT P ρ ⟨d',o,ty,p,af,gu⟩ T H K:=h
theorem zsh1 (h:A->ba P rd n ops (⟨some d,o,ty,p,af,none⟩::l) i k ρ D T H Q):A->ba P rd n ops (⟨some d,o,ty,p,af,none⟩::l) i k ρ D T H Q:=h
theorem zsh2 (h:A->ba P rd n ops (⟨d',o,ty,p,af,some j⟩::l) i k ρ D T H Q):A->ba P rd n ops (⟨d',o,ty,p,af,some j⟩::l) i k ρ D T H Q:=h
theorem zsh0 (h:A->ba P rd n ops (⟨none,o,ty,p,af,none⟩::l) i k ρ D T H Q):A->ba P rd n ops (⟨none,o,ty,p,af,none⟩::l) i k ρ D T H Q:=h
theorem zshc {c:Operand} {x y:Code} (h:A->Go P rd n (.code (.cond c x y)::k) ρ D T H Q):A->Go P rd n (.code (.cond c x y)::k) ρ D T H Q:=h
theorem zshj {c:Operand} {x y:Code} {b:Bool} (h:aL b A B->Go P rd n (.code (.cond c x y)::k) ρ D T H Q):aL b A B->Go P rd n (.code (.cond c x y)::k) ρ D T H Q:=h
theorem zshr (h:A->Go P rd n (.code .ret::k) ρ D T H Q):A->Go P rd n (.code .ret::k) ρ D T H Q:=h
theorem ztNe {G K:Prop} {b:Int} (g:b≠0->(K->G)):Ar b K->G:=λh=>g h.1 h.2
theorem ztGe {G K:Prop} {b:Int} (g:0<=b->(K->G)):Fb b K->G:=λh=>g h.1 h.2
theorem ztLn {G K:Prop} {cs:List Value} {n:Nat} (g:cs.length=n->(K->G)):Sz cs n K->G:=λh=>g h.1 h.2
theorem zvA1 {α:Type} {e:α->Value} {v:Value} {F:α->Prop} {G:Value->Prop} (h:∀x,F x->G (e x)):(∃x,v=e x/\F x)->G v:=by grind
theorem zvA0 {w v:Value} {F:Prop} {G:Value->Prop} (h:F->G w):(v=w/\F)->G v:=by grind
variable {fn:Func}
theorem zrt {a:Tmp} {v:Value} (h:ρ a=v):RV P ρ H (.tmp a) v:=X5 h
theorem zrc {a:Tmp} {t:TypeId} {c:Addr} {v:Value} (e:ρ a= .pointer (some c)) [h:kM P t] (m:cellAt H c=some v):RV P ρ H (.cell a t) v:=V4 h.u e m
theorem zra {a:Tmp} {t m:TypeId} {c:Addr} {cs:List Value} (e:ρ a= .pointer (some c)) [h:rQ P t m] (q:cI H c m=some cs):RV P ρ H (.cell a t) (.agg cs.toArray):=TC h.u e q
theorem zG1 {α:Type} {e:α->Value} {K:α->PH->Prop} {r:ResultVar} {x:α} {u:Value} (m:fn.results= #[r]) (q:RV P ρ H r u) (he:e x=u):K x H->Go P rd n (.code .ret::k) ρ [] PH.none H λfi ρ D c H'=>(fi= .ret∨fi= .lk)/\∃v Tg,qa D c Tg/\jj P fn ρ H' v/\∃x,v=e x/\K x H':=
 λh=>W.E (MZ m q) (by grind)
theorem zG2 {α β:Type} {e:α->β->Value} {K:α->β->PH->Prop} {r s:ResultVar} {x:α} {y:β} {u v:Value} (m:fn.results= #[r,s]) (q:RV P ρ H r u) (w:RV P ρ H s v) (he:e x y= .tuple #[u,v]):
 K x y H->Go P rd n (.code .ret::k) ρ [] PH.none H λfi ρ D c H'=>(fi= .ret∨fi= .lk)/\∃v Tg,qa D c Tg/\jj P fn ρ H' v/\∃x y,v=e x y/\K x y H':=λh=>W.E (Mb m q w) (by grind)
theorem zG3 {α β γ:Type} {e:α->β->γ->Value} {K:α->β->γ->PH->Prop} {r s q:ResultVar} {x:α} {y:β} {z:γ} {u v w:Value} (m:fn.results= #[r,s,q]) (C:RV P ρ H r u) (F:RV P ρ H s v) (G:RV P ρ H q w) (he:e x y z= .tuple #[u,v,w]):
 K x y z H->Go P rd n (.code .ret::k) ρ [] PH.none H λfi ρ D c H'=>(fi= .ret∨fi= .lk)/\∃v Tg,qa D c Tg/\jj P fn ρ H' v/\∃x y z,v=e x y z/\K x y z H':=λh=>W.E (Mc m C F G) (by grind)
end
section
variable {P:Program}
theorem de {t:TypeId} [h:kM P t]:xa P t:=h.u
theorem vQ {t n:Nat} [h:rQ P t n]:G0 P t n:=h.u
theorem Ax {t e size:Nat} [h:pd P t e size]:jX P t e size:=h.u
theorem xAr {t len e size:Nat} [h:Hb P t len e size]:wi P t len e size:=h.u
theorem qK {s i off:Nat} [h:bU P s i off]:Bi P s i off:=h.u
theorem sv {t n:Nat} [h:jm P t n]:(P.info? t).map (·.size)=some n:=h.u
theorem xZ {t:Nat} {v:Value} [h:IZ P t v]:jv P t v:=h.u
theorem xPl {t:Nat} {l:List (Nat×Nat)} [h:lC P t l]:zC P t l:=h.u
theorem xBy {t n:Nat} [h:we P t n]:nT P t n:=h.u
theorem Jg [h:YE P]:P.follows .mixedOrders=true:=h.u
theorem cu {f:FuncId} {A:Prop} {vs:List Value} {H:PH} {R:Value->PH->Prop} [c:ae P f A vs H R] (h:A):fU P f vs.toArray H R:=c.u h
theorem cb {f:FuncId} {A:Prop} {vs:List Value} {H:PH} {R:Value->PH->Prop} [c:ae P f A vs H R] (h:A):Body P f:=c.b
end
end Go.Kx.Au
end
section
namespace Go.Kx
def mP (l:List Nat) (A:Prop):Prop:=A
theorem mP.i {l:List Nat} {A:Prop} (h:A):mP l A:=h
abbrev mQ {σ:Type} (S2:Nat) (a:List Nat) (E:Env->σ->Prop) (k:σ->PH->Prop) (s:σ) (H:PH):Prop:=k s H
def YK (ops:Array Oper) (x:Nat):Nat->List (Nat×List Nat)->List (Nat×List Nat)
 | 0,l=>l
 |f+1,l=>YK ops x f (match l.find? (λq=>qH ops (x+f) q.1) with|some q=>(x+f,q.1::q.2)::l|none=>l)
def gch (ops:Array Oper) (x j:Nat):List Nat:=match YK ops x (j-x) [(j,[])] with
 |(y,c)::_=>if y==x then c else[]
 |[]=>[]
end Go.Kx
namespace Go.Kx.Au
open Go Go.Kx
section
variable {P:Program} {rd:Option Nat} {n:Nat} {k:List Item} {ρ ρ2:Env} {D:List Deferred} {T H H2:PH} {Q:ll} {ops:Array Oper} {l r:List Nat} {i j S:Nat} {L:List Nat} {A:Prop} {af:Array Edge} {ty:TypeId} {p:String} {o:Op} {d:Nat} {G:List Nat->Prop} {dd:Option Nat}
theorem zdR {id:Nat} [m:YE P] (h:A->bF P rd n ops k 0 [] ρ D T H Q):A->Go P rd n (.code (.region id ops true)::k) ρ D T H Q:=λa=>W.dr m.u (h a)
theorem zP0 {G:Prop} (h:A->G):mP [] A->G:=h
theorem QS {α:Type} {G:Prop} {F K:α->Prop} (g:∀x,F x->(mP l (K x)->G)):mP l (∃x,F x/\K x)->G:=λ⟨x,a,k⟩=>g x a k
theorem zPN {G K:Prop} {b:Int} (g:b≠0->(mP l K->G)):mP l (Ar b K)->G:=λh=>g h.1 h.2
theorem zPG {G K:Prop} {b:Int} (g:0<=b->(mP l K->G)):mP l (Fb b K)->G:=λh=>g h.1 h.2
theorem zPB {G F K:Prop} (g:F->(mP l K->G)):mP l (qk F K)->G:=λh=>g h.1 h.2
theorem zBo {G F K:Prop} (g:F->(K->G)):qk F K->G:=λh=>g h.1 h.2
theorem QT {v:Value} (b:ops[i]?=some ⟨some d,o,ty,p,af,none⟩) (f:bx P ρ ⟨some d,o,ty,p,af,none⟩ PH.none v) (q:zz ops S i d (S|||2 ^ i)=true) (h:mP l A->bF P rd n ops k (S|||2 ^ i) L (bQ ρ d v) D T H Q):mP (i::l) A->bF P rd n ops k S L ρ D T H Q:=λa=>C8 b q rfl f (h a)
theorem zPl {v:Value} {t:TypeId} {x:Operand} (b:ops[i]?=some ⟨some d,.load t x,ty,p,af,none⟩) (f:bx P ρ ⟨some d,.load t x,ty,p,af,none⟩ H v) (q:zz ops S i d (S|||2 ^ i)=true) (h:mP l A->bF P rd n ops k (S|||2 ^ i) (i::L) (bQ ρ d v) D T H Q):mP (i::l) A->bF P rd n ops k S L ρ D T H Q:=λa=>C9 b q rfl f (h a)
section
variable {m e:Nat} {c g:Bool}
theorem zPw {v:Value} (f:ops[i]?=some ⟨some d,o,ty,p,af,some (m,g)⟩) (he:(ops[m]?).bind (·.dst)=some e) (t:ρ e= .bool c) (b:c=g) (q:bx P ρ ⟨some d,o,ty,p,af,some (m,g)⟩ PH.none v) (s:zz ops S i d (S|||2 ^ i)=true) (h:mP l A->bF P rd n ops k (S|||2 ^ i) L (bQ ρ d v) D T H Q):mP (i::l) A->bF P rd n ops k S L ρ D T H Q:=λa=>C8 f s (nc rfl he t b) q (h a)
theorem zPW {v:Value} {t:TypeId} {x:Operand} (f:ops[i]?=some ⟨some d,.load t x,ty,p,af,some (m,g)⟩) (he:(ops[m]?).bind (·.dst)=some e) (u:ρ e= .bool c) (b:c=g) (q:bx P ρ ⟨some d,.load t x,ty,p,af,some (m,g)⟩ H v) (s:zz ops S i d (S|||2 ^ i)=true) (h:mP l A->bF P rd n ops k (S|||2 ^ i) (i::L) (bQ ρ d v) D T H Q):mP (i::l) A->bF P rd n ops k S L ρ D T H Q:=λa=>C9 f s (nc rfl he u b) q (h a)
theorem zPO (f:ops[i]?=some ⟨some d,o,ty,p,af,some (m,g)⟩) (he:(ops[m]?).bind (·.dst)=some e) (s:ρ e= .bool c) (b:c= !g) (q:zz ops S i d (S|||2 ^ i)=true) (h:mP l A->bF P rd n ops k (S|||2 ^ i) L (bQ ρ d undef) D T H Q):mP (i::l) A->bF P rd n ops k S L ρ D T H Q:=λa=>HX f q (MT rfl he s b) (h a)
theorem zPU (b:ops[i]?=some ⟨some d,o,ty,p,af,some (m,g)⟩) (he:(ops[m]?).bind (·.dst)=some e) (q:ρ e=undef) (f:zz ops S i d (S|||2 ^ i)=true) (h:mP l A->bF P rd n ops k (S|||2 ^ i) L (bQ ρ d undef) D T H Q):mP (i::l) A->bF P rd n ops k S L ρ D T H Q:=λa=>HX b f (Fc rfl he q) (h a)
theorem zww (he:(ops[m]?).bind (·.dst)=some e) (b:ρ e= .bool c) (a:c=g):want ops ρ ⟨dd,o,ty,p,af,some (m,g)⟩=true:=nc rfl he b a
end
theorem zPe {b:Oper} (t:ops[i]?=some b) (he:TV b.op=true) (hw:want ops ρ b=true) (q:DB ops n S [i]=true) (h:A->dT P ρ b T H λv s H'=>∃f,Re P ops i ρ (ku ρ b.dst v) H' L f/\bF P rd n ops k (S|||2 ^ i) f (ku ρ b.dst v) D s H' Q):mP [i] A->bF P rd n ops k S L ρ D T H Q:=λa=>Bj q t rfl hw (h a)
theorem zPq {b:Oper} {v:Value} (s:ops[i]?=some b) (hw:want ops ρ b=true) (q:DB ops n S [i]=true) (t:bx P ρ b H v) (h:mP l A->∃f,Re P ops i ρ (ku ρ b.dst v) H L f/\bF P rd n ops k (S|||2 ^ i) f (ku ρ b.dst v) D T H Q):mP (i::l) A->bF P rd n ops k S L ρ D T H Q:=λa=>Bj q s rfl hw (t.do (h a))
theorem zRn (h:A->G []):A->∃b,Re P ops j ρ ρ2 H2 [] b/\G b:=λa=>⟨[],rfl,h a⟩
theorem zRc {x:Nat} (s:(chain ops (x::gch ops x j)&&(x::gch ops x j).getLast?==some j)=true) (h:A->∃b,Re P ops j ρ ρ2 H2 r b/\G b):A->∃b,Re P ops j ρ ρ2 H2 (x::r) b/\G b:=λa=>let⟨b,f,q⟩:=h a;⟨b,W.rl _ f s,q⟩
theorem zRr {x t:Nat} {y:Operand} {a:Addr} {v:Value} {gu:Option (Nat×Bool)} (B:ops[x]?=some ⟨some d,.load t y,ty,p,af,gu⟩) [C:kM P t] (z:ev ρ2 y= .pointer (some a)) (E:ρ d=v) (h:cellAt H2 a=some v->(A->∃b,Re P ops j ρ ρ2 H2 r b/\G (x::b))):ay H2 a v A->∃q,Re P ops j ρ ρ2 H2 (x::r) q/\G q:=
 λf=>let⟨b,s,w⟩:=h f.1 f.2;⟨_,W.rr B rfl (by rw[E];exact C3 C.u z f.1) s,w⟩
theorem zRA {x t m:Nat} {y:Operand} {a:Addr} {cs:List Value} {gu:Option (Nat×Bool)} (z:ops[x]?=some ⟨some d,.load t y,ty,p,af,gu⟩) [B:rQ P t m] (w:ev ρ2 y= .pointer (some a)) (C:ρ d= .agg cs.toArray) (h:cI H2 a m=some cs->(A->∃b,Re P ops j ρ ρ2 H2 r b/\G (x::b))):gQ H2 a m cs A->∃q,Re P ops j ρ ρ2 H2 (x::r) q/\G q:=
 λf=>let⟨b,s,v⟩:=h f.1 f.2;⟨_,W.rr z rfl (by rw[C];exact Aq B.u w f.1) s,v⟩
theorem zRs {x t:Nat} {y:Operand} {a:Addr} {v:Value} {gu:Option (Nat×Bool)} (B:ops[x]?=some ⟨some d,.load t y,ty,p,af,gu⟩) [C:kM P t] (z:ev ρ2 y= .pointer (some a)) (E:ρ d=v) (F:cellAt H2 a=some v) (h:A->∃b,Re P ops j ρ ρ2 H2 r b/\G (x::b)):A->∃f,Re P ops j ρ ρ2 H2 (x::r) f/\G f:=
 λq=>let⟨b,s,w⟩:=h q;⟨_,W.rr B rfl (by rw[E];exact C3 C.u z F) s,w⟩
theorem zRt {x t m:Nat} {y:Operand} {a:Addr} {cs:List Value} {gu:Option (Nat×Bool)} (z:ops[x]?=some ⟨some d,.load t y,ty,p,af,gu⟩) [B:rQ P t m] (w:ev ρ2 y= .pointer (some a)) (C:ρ d= .agg cs.toArray) (E:cI H2 a m=some cs) (h:A->∃b,Re P ops j ρ ρ2 H2 r b/\G (x::b)):A->∃f,Re P ops j ρ ρ2 H2 (x::r) f/\G f:=
 λq=>let⟨b,s,v⟩:=h q;⟨_,W.rr z rfl (by rw[C];exact Aq B.u w E) s,v⟩
theorem zshp (h:mP (i::l) A->bF P rd n ops k S L ρ D T H Q):mP (i::l) A->bF P rd n ops k S L ρ D T H Q:=h
theorem zshP (h:A->bF P rd n ops k S L ρ D T H Q):A->bF P rd n ops k S L ρ D T H Q:=h
theorem zshR {x:Nat} (h:A->∃a,Re P ops j ρ ρ2 H2 (x::r) a/\G a):A->∃a,Re P ops j ρ ρ2 H2 (x::r) a/\G a:=h
theorem zjP {σ:Type} {S2:Nat} {q:List Nat} {E:Env->σ->Prop} {kk:σ->PH->Prop} {body:(σ->PH->Prop)->Prop} (t:∀s H ρ,Hc (E ρ s) (kk s H->bF P rd n ops k S2 q ρ D T H Q))
 (u:∀j:σ->PH->Prop,(∀s H ρ,j s H->E ρ s->bF P rd n ops k S2 q ρ D T H Q)->(body j->bF P rd n ops k S L ρ D T H Q)):aO (mQ S2 q E kk) body->bF P rd n ops k S L ρ D T H Q:=λ(h:aO kk body)=>QD S2 q E h (λs H ρ a b=>(t s H ρ).f b a) u
theorem zuP {σ:Type} {J:σ->PH->Prop} {E:Env->σ->Prop} {s:σ} {S2:Nat} {b:List Nat} (c:∀s H ρ,J s H->E ρ s->bF P rd n ops k S2 b ρ D T H Q) (a:(S==S2&&L.all (λx=>b.contains x))=true) (q:E ρ s):J s H->bF P rd n ops k S L ρ D T H Q:=λh=>by
 simp only[Bool.and_eq_true,beq_iff_eq] at a
 obtain⟨a,f⟩:=a
 subst a
 exact Ln f (by grind)
theorem zPZ (b:(xg ops&&zy ops n&&(List.range ops.size).all λi=>S.testBit i)=true) (h:A->Go P rd n k ρ D T H Q):A->bF P rd n ops k S L ρ D T H Q:=λa=>HY b (h a)
end
section
variable {P:Program} {ρ:Env} {T H:PH} {d:Option Nat} {ty:TypeId} {p:String} {af:Array Edge} {gu:Option (Nat×Bool)} {K:Value->PH->PH->Prop}
theorem zmkI {t e size m:Nat} {x y:Operand} {z:Value} {zs:List Value} {nn c:Int} {k1 k2:IntKind} {b:Sl->PH->Prop} [B:pd P t e size] [hm:we P e m] [I:IZ P e z] (E:ev ρ x= .int k1 nn) (F:ev ρ y= .int k2 c) (f:sd m nn c) (s:z.cells=zs.toArray) (J:Nat.ble 1 m=true) (q:zs.length=size) (C:Nat.ble 1 size=true)
 (h:∀r H',b r H'->K (Sl.v r) T H'):lq H (row (cN c.toNat zs) e) nn c b->dT P ρ ⟨d,.makeSlice t x y,ty,p,af,gu⟩ T H K:=
 λa=>Uy B.u hm.u (by simp_all) I.u s q (by simp_all) E F f λr H' w=>h r H' (a r H' w)
end
end Go.Kx.Au
end
section
namespace Go.Kx.Au
open Go Go.Kx
abbrev TU:Unit->PH:=λ_=>PH.none
theorem mkS {lp:Nat} {D:List Deferred} {M:PH}:Mk (some lp) D M:=trivial
theorem zH {M:PH}:wb M TU:=λ_ _ _=>rfl
section
variable {P:Program} {rd:Option Nat} {n:Nat} {k:List Item} {ρ:Env} {D:List Deferred} {M B B' H:PH} {Q:Fin->Env->Unit->PH->Prop} {QP:ll} {A:Prop} {f:Operand} {params:Array Tmp} {assign body:Code} {v:Value} {Y:List Value->Unit->PH->(Nat->Unit->PH->Prop)->Prop}
abbrev Fk (P:Program) (n:Nat) (ρ:Env) (assign body:Code) (js:List Code) (sz:Nat) (vs:List Value) (ps:List Nat) (H:PH) (K:Nat->Unit->PH->Prop):Prop:=
 vs.length=sz/\∀(lp:Nat) (a:PH) (r:Loop) (D:List Deferred) (M:PH),r.state= .ready->Sub (a.bQ lp (.loop r)) M->Go P (some lp) n [.code assign,.beginRound,.code body] (vx ρ ps vs) D (M.join (TU ())) H (kL (some lp) (a.bQ lp (.loop (lr r))) TU λf ρ' e H'=>∃j,vy js j f/\K j e H')
theorem rnd {js:List Code} (h:∀vs H K,Y vs () H K->Fk P n ρ assign body js params.size vs params.toList H K):∀vs g H K,Y vs g H K->vs.length=params.size/\∀(lp:Nat) (a:PH) (r:Loop),r.state= .ready->
 yM P (some lp) n [.code assign,.beginRound,.code body] (vx ρ params.toList vs) (a.bQ lp (.loop r)) (a.bQ lp (.loop (lr r))) TU g H λf ρ' l H'=>∃j,vy js j f/\K j l H':=
 λvs _ H K e=>⟨(h vs H K e).1,λlp a r q D M _ hB _=>(h vs H K e).2 lp a r D M q hB⟩
theorem zI0 {l:Unit->PH->Prop} (hf:ev ρ f=v) (t:params.toList.all (λp=>decide (p<n))=true) (e:Mk none D M) (hB:Sub B M) (a:∀vs H K,Y vs () H K->Fk P n ρ assign body [] params.size vs params.toList H K)
 (s:∀D M H',Mk none D M->Sub B M->(l () H'->Go P none n k ρ D (M.join (TU ())) H' (kL none B' TU Q))):iX P v Y () H (λ_ q H=>l q H)->Go P none n (.code (.rangeFunc f params assign body)::k) ρ D (M.join (TU ())) H (kL none B' TU Q):=
 λit=>QK it hf (λ_ _ _ h=>h) t e hB zH trivial (rnd a) λ_ H' h D M e hB _=>s D M H' e hB h
theorem zI1 {c1:Code} {l s:Unit->PH->Prop} (hf:ev ρ f=v) (w:params.toList.all (λp=>decide (p<n))=true) (a:Mk none D M) (hB:Sub B M) (e:∀vs H K,Y vs () H K->Fk P n ρ assign body [c1] params.size vs params.toList H K)
 (t:∀D M H',Mk none D M->Sub B M->(l () H'->Go P none n k ρ D (M.join (TU ())) H' (kL none B' TU Q))) (u:∀D M H',Mk none D M->Sub B M->(s () H'->Go P none n (.code c1::k) ρ D (M.join (TU ())) H' (kL none B' TU Q))):
 iX P v Y () H (λj q H=>aL (j==1) (s q H) (l q H))->Go P none n (.code (.rangeFunc f params assign body)::k) ρ D (M.join (TU ())) H (kL none B' TU Q):=
 λit=>DD it hf (λ_ _ _ h=>h) w a hB zH trivial (rnd e) (λ_ H' h D M a hB _=>t D M H' a hB h) λ_ H' h D M a hB _=>u D M H' a hB h
section
variable {js:List Code} {sz:Nat} {vs:List Value} {ps:List Nat} {K:Nat->Unit->PH->Prop}
theorem zvl1 {α:Type} {e:α->List Value} {F:α->Prop} (h:∀x,F x->Fk P n ρ assign body js sz (e x) ps H K):(∃x,vs=e x/\F x)->Fk P n ρ assign body js sz vs ps H K:=by grind
theorem zvl2 {α β:Type} {e:α->β->List Value} {F:α->β->Prop} (h:∀x y,F x y->Fk P n ρ assign body js sz (e x y) ps H K):(∃x y,vs=e x y/\F x y)->Fk P n ρ assign body js sz vs ps H K:=by grind
end
theorem zan {js:List Code} {sz:Nat} {vs:List Value} {ps:List Nat} {K:Nat->Unit->PH->Prop} (h:vs.length=sz) (l:∀(lp:Nat) (a:PH) (r:Loop) (D:List Deferred) (M:PH),r.state= .ready->Sub (a.bQ lp (.loop r)) M->(A->Go P (some lp) n [.code assign,.beginRound,.code body] (vx ρ ps vs) D (M.join (TU ())) H (kL (some lp) (a.bQ lp (.loop (lr r))) TU λf ρ' e H'=>∃j,vy js j f/\K j e H'))):
 A->Fk P n ρ assign body js sz vs ps H K:=by grind
theorem zbg {lp:Nat} {e:PH} {r:Loop} (hB:Sub (e.bQ lp (.loop r)) M) (q:r.state= .ready) (h:∀l,Sub (e.bQ lp (.loop (lr r))) l->(A->Go P (some lp) n k ρ D (l.join (TU ())) H QP)):A->Go P (some lp) n (.beginRound::k) ρ D (M.join (TU ())) H QP:=
 λa=>Et (TT:=TU) (g:=()) q hB zH (by grind)
section
variable {lp:Nat} {js:List Code} {K:Nat->Unit->PH->Prop}
theorem zRf (hB:Sub B' M):K 0 () H->Go P (some lp) n [] ρ D (M.join (TU ())) H (kL (some lp) B' TU λf ρ' a H'=>∃j,vy js j f/\K j a H'):=λh=>Go.vv (g:=()) trivial hB zH ⟨0,rfl,h⟩
theorem zRu {i:Nat} (hB:Sub B' M) (e:js[i]?=some .ret):K (i+1) () H->Go P (some lp) n (.code .ret::k) ρ D (M.join (TU ())) H (kL (some lp) B' TU λf ρ' a H'=>∃j,vy js j f/\K j a H'):=λh=>Go.qo (g:=()) trivial hB zH ⟨i+1,⟨i,rfl,e⟩,h⟩
end
section
variable {σ:Type} {E:Env->σ->Prop} {kk:σ->PH->Prop} {body:(σ->PH->Prop)->Prop}
theorem zjM {m:Nat} {k2:List Item} [d:Dr m k k2] (hB:Sub B M) (l:∀s H ρ D M,Mk rd D M->Sub B M->Hc (E ρ s) (kk s H->Go P rd n k2 ρ D (M.join (TU ())) H (kL rd B' TU Q)))
 (q:∀j:σ->PH->Prop,(∀s H ρ D M,Mk rd D M->Sub B M->j s H->E ρ s->Go P rd n k2 ρ D (M.join (TU ())) H (kL rd B' TU Q))->(body j->Go P rd n k ρ D (M.join (TU ())) H (kL rd B' TU Q))):aO (mK m E kk) body->Go P rd n k ρ D (M.join (TU ())) H (kL rd B' TU Q):=
 λ(h:aO kk body)=>Es (TT:=TU) m (λ_=>()) E hB h (λs H ρ a b D M e hB _=>d.u▸(l s H ρ D M e hB).f b a) λj t=>q j λs H ρ D M e hB a b=>d.u▸t s H ρ a b D M e hB zH
theorem zuM {J:σ->PH->Prop} {s:σ} (c:∀s H ρ D M,Mk rd D M->Sub B M->J s H->E ρ s->Go P rd n k ρ D (M.join (TU ())) H QP) (e:Mk rd D M) (hB:Sub B M) (a:E ρ s):J s H->Go P rd n k ρ D (M.join (TU ())) H QP:=by grind
theorem zlM {c:Code} {l:σ->PH->(σ->PH->Prop)->Prop} {s0:σ} (q:Mk rd D M) (hB:Sub B M) (u:E ρ s0)
 (h:∀ρ s H again D M,Mk rd D M->Sub B M->(∀t H' ρ' D M,Mk rd D M->Sub B M->again t H'->E ρ' t->Go P rd n (.inLoop c::k) ρ' D (M.join (TU ())) H' (kL rd B' TU Q))->Hc (E ρ s) (l s H again->Go P rd n (.code c:: .inLoop c::k) ρ D (M.join (TU ())) H (kL rd B' TU Q))):
 bw (mL E l) s0 H->Go P rd n (.code (.loop c)::k) ρ D (M.join (TU ())) H (kL rd B' TU Q):=
 λa=>si (g:=()) (λ_=>()) E q hB zH a u rfl λρ s H again e b g D M q hB _=>(h ρ s H again D M q hB λt H' ρ' D M q hB a b=>g t H' ρ' a b D M q hB zH).f e b
end
section
variable {fn:Func}
abbrev OC (P:Program) (fn:Func) (R:Value->PH->Prop):Fin->Env->Unit->PH->Prop:=λfi ρ _ H'=>(fi= .ret∨fi= .lk)/\∃v,jj P fn ρ H' v/\R v H'
theorem zM1 {α:Type} {e:α->Value} {K:α->PH->Prop} {r:ResultVar} {x:α} {u:Value} (a:fn.results= #[r]) (l:RV P ρ H r u) (he:e x=u) (q:Mk none D M) (hB:Sub B' M):K x H->Go P none n (.code .ret::k) ρ D (M.join (TU ())) H (kL none B' TU (OC P fn λv H=>∃x,v=e x/\K x H)):=
 λh=>Go.qo (g:=()) q hB zH ⟨.inl rfl,_,MZ a l,x,he.symm,h⟩
theorem zM2 {α β:Type} {e:α->β->Value} {K:α->β->PH->Prop} {r s:ResultVar} {x:α} {y:β} {u v:Value} (a:fn.results= #[r,s]) (l:RV P ρ H r u) (q:RV P ρ H s v) (he:e x y= .tuple #[u,v]) (t:Mk none D M) (hB:Sub B' M):
 K x y H->Go P none n (.code .ret::k) ρ D (M.join (TU ())) H (kL none B' TU (OC P fn λv H=>∃x y,v=e x y/\K x y H)):=λh=>Go.qo (g:=()) t hB zH ⟨.inl rfl,_,Mb a l q,x,y,he.symm,h⟩
theorem zM3 {α β γ:Type} {e:α->β->γ->Value} {K:α->β->γ->PH->Prop} {r s q:ResultVar} {x:α} {y:β} {z:γ} {u v w:Value} (a:fn.results= #[r,s,q]) (l:RV P ρ H r u) (t:RV P ρ H s v) (C:RV P ρ H q w) (he:e x y z= .tuple #[u,v,w]) (F:Mk none D M) (hB:Sub B' M):
 K x y z H->Go P none n (.code .ret::k) ρ D (M.join (TU ())) H (kL none B' TU (OC P fn λv H=>∃x y z,v=e x y z/\K x y z H)):=λh=>Go.qo (g:=()) F hB zH ⟨.inl rfl,_,Mc a l t C,x,y,z,he.symm,h⟩
end
theorem zshI {Q:ll} {T:PH} (h:A->Go P rd n (.code (.rangeFunc f params assign body)::k) ρ D T H Q):A->Go P rd n (.code (.rangeFunc f params assign body)::k) ρ D T H Q:=h
theorem zshB {Q:ll} {T:PH} (h:A->Go P rd n (.beginRound::k) ρ D T H Q):A->Go P rd n (.beginRound::k) ρ D T H Q:=h
def mR (R:List Nat) (A:Prop):Prop:=A
def mV (l:List Nat) (i:Nat) (R:List Nat) (A:Prop):Prop:=A
def Jh (R:List Nat) (A:Prop):Prop:=A
def He (X R:List Nat) (A:Prop):Prop:=A
section
variable {ops:Array Oper} {S i j:Nat} {L R X:List Nat} {T:PH} {Q:ll} {af:Array Edge} {ty:TypeId} {p:String} {d:Nat}
theorem zshQ (h:mR R A->bF P rd n ops k S L ρ D T H Q):mR R A->bF P rd n ops k S L ρ D T H Q:=h
theorem zshV {l:List Nat} (h:mP l (mR R (mP [i] A))->bF P rd n ops k S L ρ D T H Q):mV l i R A->bF P rd n ops k S L ρ D T H Q:=h
theorem zPs (e:DB ops n S R=true) (h:He [] R A->og P rd n ops k S L ρ D T H Q R):mR R A->bF P rd n ops k S L ρ D T H Q:=λa=>xi e (h a)
def OD (x:Nat):List Nat->List Nat
 |[]=>[x]
 |y::r=>if x<y then x::y::r else y::OD x r
theorem zPsi {e:Nat} (l:DB ops n (e|||2 ^ j) (OD (j+1) R)=true) (h:He [] (OD (j+1) R) A->og P rd n ops k (e|||2 ^ j) L ρ D T H Q (OD (j+1) R)):mR R A->bF P rd n ops k (e|||2 ^ j) L ρ D T H Q:=λa=>xi l (h a)
theorem zPsr (e:DB ops n S (R.map λx=>bif S.testBit x then x+1 else x)=true) (h:He [] (R.map λx=>bif S.testBit x then x+1 else x) A->og P rd n ops k S L ρ D T H Q (R.map λx=>bif S.testBit x then x+1 else x)):mR R A->bF P rd n ops k S L ρ D T H Q:=λa=>xi e (h a)
theorem YL {e:Oper} {v:Value} (q:ops[j]?=some e) (he:vu ops j=true) (hw:want ops ρ e=true) (s:bx P ρ e H v) (h:mR R A->∃l,Re P ops j ρ (ku ρ e.dst v) H L l/\bF P rd n ops k (S|||2 ^ j) l (ku ρ e.dst v) D T H Q):Jh R A->xG P rd n ops k S L ρ D T H Q j:=
 λa=>vO q he rfl hw (s.do (h a))
theorem zPsk (a:S.testBit i=true) (h:mP X A->bF P rd n ops k S L ρ D T H Q):mP (i::X) A->bF P rd n ops k S L ρ D T H Q:=h
theorem zPsd (h:A->bF P rd n ops k S L ρ D T H Q):mR R A->bF P rd n ops k S L ρ D T H Q:=h
theorem zPsn:He X [] A->og P rd n ops k S L ρ D T H Q []:=λ_=>trivial
theorem zPsc (e:Jh (X++R) A->xG P rd n ops k S L ρ D T H Q j) (h:He (X++[j]) R A->og P rd n ops k S L ρ D T H Q R):He X (j::R) A->og P rd n ops k S L ρ D T H Q (j::R):=λa=>⟨e a,h a⟩
theorem zsmP {a:Addr} {v:Value} {e:PH} (h:cellAt e a=some v->(A->bF P rd n ops k S L ρ D T H Q)):ay e a v A->bF P rd n ops k S L ρ D T H Q:=λx=>h x.1 x.2
theorem zshT (h:He X R A->og P rd n ops k S L ρ D T H Q R):He X R A->og P rd n ops k S L ρ D T H Q R:=h
theorem zshU (h:Jh R A->xG P rd n ops k S L ρ D T H Q j):Jh R A->xG P rd n ops k S L ρ D T H Q j:=h
theorem zPx {e:Oper} (s:ops[i]?=some e) (he:vu ops i=true) (hw:want ops ρ e=true) (h:A->dT P ρ e T H λv q H'=>∃l,Re P ops i ρ (ku ρ e.dst v) H' L l/\bF P rd n ops k (S|||2 ^ i) l (ku ρ e.dst v) D q H' Q):Jh R (mP [i] A)->xG P rd n ops k S L ρ D T H Q i:=
 λa=>vO s he rfl hw (h a)
theorem zPz {e:TypeId} {z:Value} {cs:List Value} (w:ops[j]?=some ⟨some d,.alloc e,ty,p,af,none⟩) (he:vu ops j=true) [C:IZ P e z] (t:z.cells=cs.toArray)
 (h:∀b a,T b=none->a=⟨b,0,none⟩->(mR R A->∃l,Re P ops j ρ (bQ ρ d (.pointer (some a))) H L l/\bF P rd n ops k (S|||2 ^ j) l (bQ ρ d (.pointer (some a))) D (T.bQ b (row cs e)) H Q)):Jh R A->xG P rd n ops k S L ρ D T H Q j:=
 λa=>vO w he rfl rfl (MY C.u t λb ad _ q s=>h b ad q s a)
theorem zPzm {t e size m:Nat} {x y:Operand} {z:Value} {zs:List Value} {nn c:Int} {k1 k2:IntKind} (F:ops[j]?=some ⟨some d,.makeSlice t x y,ty,p,af,none⟩) (he:vu ops j=true) [I:pd P t e size] [hm:we P e m] [U:IZ P e z] (N:ev ρ x= .int k1 nn) (O:ev ρ y= .int k2 c) (q:sd m nn c) (w:z.cells=zs.toArray) (V:Nat.ble 1 m=true) (s:zs.length=size) (J:Nat.ble 1 size=true)
 (h:∀b r,T b=none->r=⟨some ⟨b,0,none⟩,nn.toNat,c.toNat⟩->(mR R A->∃l,Re P ops j ρ (bQ ρ d (Sl.v r)) H L l/\bF P rd n ops k (S|||2 ^ j) l (bQ ρ d (Sl.v r)) D (T.bQ b (row (cN c.toNat zs) e)) H Q)):Jh R A->xG P rd n ops k S L ρ D T H Q j:=
 λa=>vO F he rfl rfl (X2 I.u hm.u (by simp_all) U.u w s (by simp_all) N O q λb r _ C G=>h b r C G a)
variable {o o2:Obj} {b b2:Nat} {ad:Addr} {r:Sl} {nn c:Int} {KA:Addr->PH->Prop} {KS:Sl->PH->Prop}
theorem zPk (hd:(ops[i]?).bind (·.dst)=some d) (q:ρ d= .pointer (some ad)) (e:ad=⟨b,0,none⟩) (a:T b=none) (h:∀H',(KA ad H'->bF P rd n ops k S L ρ D T H' Q)):mP [i] (aj H o KA)->bF P rd n ops k S L ρ D (T.bQ b o) H Q:=λhk=>xH a λl=>h _ (hk ad _ ⟨b,l,e,rfl⟩)
theorem zPkS (hd:(ops[i]?).bind (·.dst)=some d) (q:ρ d=Sl.v r) (e:r=⟨some ⟨b,0,none⟩,nn.toNat,c.toNat⟩) (a:T b=none) (h:∀H',(KS r H'->bF P rd n ops k S L ρ D T H' Q)):mP [i] (lq H o nn c KS)->bF P rd n ops k S L ρ D (T.bQ b o) H Q:=λhk=>xH a λl=>h _ (hk r _ ⟨b,l,e,rfl⟩)
theorem Zj (hd:(ops[i]?).bind (·.dst)=some d) (s:ρ d=Sl.v r) (l:r=⟨some ⟨b,0,none⟩,nn.toNat,c.toNat⟩) (e:T b=none) (a:(T.bQ b o) b2=none) (h:∀H',T b2=none->(KS r H'->bF P rd n ops k S L ρ D (T.bQ b2 o2) H' Q)):mP [i] (lq H o nn c KS)->bF P rd n ops k S L ρ D ((T.bQ b o).bQ b2 o2) H Q:=
 λhk=>JZ (Ne.symm (JY a).1) e λq=>h _ (JY a).2 (hk r _ ⟨b,q,l,rfl⟩)
end
end
section
variable {P:Program} {ρ:Env} {H:PH} {d:Option Nat} {ty tx ty2:TypeId} {p:String} {af:Array Edge} {g:Option (Nat×Bool)} {x y:Operand} {xs ys:List Value} {m:Nat} {fs:List Field} {r:List Bool}
class IQ (P:Program) (t:TypeId) where
 fs:Array Field
 u:P.underlying t=some (.struct fs)
 s:P.stoodInHeld t=false
 g:P.eqGuardType P.depth t=false
abbrev mkIQ {P:Program} {t:TypeId} {F:Array Field} (u:P.underlying t=some (.struct F)) (s:P.stoodInHeld t=false:=by kernel_rfl) (g:P.eqGuardType P.depth t=false:=by kernel_rfl):IQ P t:=⟨F,u,s,g⟩
theorem zef0:qn P m xs ys [] []:=rfl
theorem zef {nm z w:String} {t off bo:Nat} {em:Bool} {k:IntKind} {a b:Int} [h:dw P t (.int k)] (l:nm≠ "_") (q:xs[off]?=some (.int k a)) (s:ys[off]?=some (.int k b)) (e:qn P (m+1) xs ys fs r):qn P (m+1) xs ys (⟨nm,t,off,em,z,w,bo⟩::fs) ((a==b)::r):=V5 l (TF h.u q s) e
theorem zne [q:IQ P tx] (a:ev ρ x= .agg xs.toArray) (e:ev ρ y= .agg ys.toArray) (h:qn P 9999 xs ys q.fs.toList r):bx P ρ ⟨d,.binOp .neq tx x y ty2,ty,p,af,g⟩ H (.bool (!(uN r))):=X7 q.g (Lp q.u q.s h) a e
end
end Go.Kx.Au
end
section
namespace Go.Kx.Au
open Go Go.Kx
section
variable {P:Program} {ρ:Env} {x:Operand}
theorem zvP {a:Option Addr} (h:ev ρ x= .pointer a):ev ρ x= .pointer a:=h
theorem zvI {k:IntKind} {a:Int} (h:ev ρ x= .int k a):ev ρ x= .int k a:=h
theorem zvB {a:Bool} (h:ev ρ x= .bool a):ev ρ x= .bool a:=h
theorem zvN (h:ev ρ x=Sl.v Sl.nil):ev ρ x=Sl.v Sl.nil:=h
theorem zvS {a:Sl} (h:ev ρ x=Sl.v a):ev ρ x=Sl.v a:=h
theorem zvT {a:Array Value} (h:ev ρ x= .tuple a):ev ρ x= .tuple a:=h
theorem zvA {a:Array Value} (h:ev ρ x= .agg a):ev ρ x= .agg a:=h
theorem zvL (h:ev ρ x= .nilFunc):ev ρ x= .nilFunc:=h
theorem zvF {a:Fn} {u w:Array Value} (h:ev ρ x= .func a u w):ev ρ x= .func a u w:=h
end
theorem zS {X:Prop} (h:X:=by first|exact rfl|assumption):X:=h
theorem zV {X:Prop} (h:X:=by first|exact zvI rfl|exact zvP rfl|exact zvB rfl|exact zvN rfl|exact zvS rfl|exact zvT rfl|exact zvA rfl|exact zvY rfl|exact zvM rfl|exact zvF rfl|exact zvL rfl|assumption|((conv=>lhs;whnf);try rfl)):X:=h
theorem zT {X:Prop} (h:X:=by exact rfl):X:=h
theorem Fl {X:Prop} (h:X:=by repeat (first|exact YF|refine YG zS ?_)):X:=h
theorem Ji {X:Prop} (h:X:=by repeat (first|exact zpm0|apply zpm1|exact zV)):X:=h
theorem U8 {X:Prop} (h:X:=by repeat (first|exact YF|apply YG|exact zV)):X:=h
theorem Cq {X:Prop} (h:X:=by first|exact zrt zS|exact zrc zS (by assumption)|exact zra zS (by assumption)):X:=h
theorem zK {X:Prop} (h:X:=by decide+kernel):X:=h
theorem zD {X:Prop} (h:X:=by first|decide|assumption):X:=h
theorem zX {X:Prop} (h:X:=by first|exact rfl|exact OB zS):X:=h
theorem zEF {X:Prop} (h:X:=by repeat (first|exact zef0|apply zef (by decide) zS zS)):X:=h
theorem Mm {X:Prop} (h:X:=by first|exact zMv zV|exact zAs zV|exact zFd zS|exact C5 zS zS|exact Bh zS|exact sO zS zS|exact I7 zS zS|exact Dt zS zS|exact xE zS zS|exact ZS zS zS|exact zePn zS zS|exact znPn zS zS|exact zLn (Cn zS)|exact Zb zS zS|exact Za zS zS|exact N1 zS zS|exact ZT zS zS|exact zQu zS zS zD|exact zRm zS zS zD|exact qj zS|exact zCv zS|exact zPkT zS zS zV|exact zPkF zS zS zV|exact zeSn zS zS|exact znSn zS zS|exact zeB zS zS|exact znB zS zS|exact zeS zS zS|exact znS zS zS|exact zCp (Cn zS)|exact ZW zS zS|exact q_or zS zS|exact ZX zS zS|exact zSh zS zS zD|exact zSr zS zS zD|exact Zc zS|exact Zd zS|exact zFi zS zS|exact QA (ls2 zS zS)|exact Xu (ls2 zS zS)|exact zne zV zV zEF):X:=h
theorem Jj {X:Prop} (h:X:=by first|exact zLd hy zS|exact zNl hy zS|exact zLdA hy zS|exact zIx hy zS zS|exact zIxA hy zS zS|exact zCt hy zS zX zX|exact zCtA hy zS zX zX|exact zCt3 hy zS (OB zS) (OB zS) (OB zS)|exact zSt hy zS|exact zFg hy zS):X:=h
theorem zMk {X:Prop} (h:X:=by first|exact mkS|assumption):X:=h
theorem Mn {X:Prop} (h:X:=by repeat (first|exact filN|apply filS|exact fiaN|apply fiaS)):X:=h
theorem Mp {X:Prop} (h:X:=by and_intros<;>first|exact rfl|assumption|trivial):X:=h
theorem zGO {X:Prop} (h:X:=by
 repeat (first
  |((with_reducible refine zuM (by with_reducible assumption) zMk (by assumption) ?_);exact Mp)
  |((with_reducible apply zuG);(with_reducible assumption);exact Mp)
  |((with_reducible apply zuO);(with_reducible assumption);exact Mp)
  |with_reducible refine zzR ?_
  |(with_reducible refine zjP (λs H ρ=>?_) (λj hj=>?_))
  |((with_reducible refine zsh1 ?_);first|refine zod zT ?_ zS|refine QR Mm ?_ zS|refine YI (λy hy=>QR Jj ?_ zS)|(apply QR;(apply U7);exact zS;exact Ji;exact Mn;kernel_rfl)|(apply QR;(apply YJ);exact zS;exact Ji;exact Mn;kernel_rfl)|(apply QR;(apply zMf);exact U8;exact U8)|refine zodc zT ?_ zS)
  |((with_reducible refine zshd ?_);first|refine zcl1 Fl (λy H'=>?_)|refine zcl2 Fl (λy z H'=>?_)|refine zcl3 Fl (λy z u H'=>?_)|refine zcl0 Fl (λH'=>?_)|refine znw zS (λa H'=>?_)|refine zbx zV zS (λa H'=>?_)|refine zsto zS zV zS zS (λH'=>?_)|refine zstA zS zV zS (λH'=>?_)|refine zapp Fl zS zS zS zS (λr H'=>?_)|refine zapZ Fl zS zS zS zS (λr H'=>?_)|refine zmkS zS zS zS zS zS zS (λr H'=>?_)|refine zmkI zS zS (by assumption) zS zS zS zS (λr H'=>?_)|refine zbs0 (λr H'=>?_)|refine zbsl Ji zS zS zS zS (by kernel_rfl) (λr H'=>?_)|refine zcpy Fl (λr H'=>?_)|refine zclr Fl zS zS zS (λH'=>?_)|refine zmrk zS (λH'=>?_)|(refine zcv ?_ ?_ (λv H'=>?_);exact zS;exact Fl;first|refine zvA1 (λy=>?_)|refine zvA0 ?_))
  |with_reducible refine zrR ?_
  |with_reducible refine zsR ?_
  |((with_reducible refine zshc ?_);first|refine zcT zS zS ?_|refine zcF zS zS ?_|(first|with_reducible refine zjM (by assumption) (λs H ρ D M hM hB=>?_) (λj hj=>?_)|with_reducible refine zjG (λs H ρ=>?_) (λj hj=>?_))|((with_reducible refine zshj ?_);refine zcJ zS (λhc=>?_) (λhc=>?_)))
  |((with_reducible refine zshr ?_);first|refine zE1 zT zS|refine zE2 zT zT zS zS|refine zE3 zT zT zS zS zS|refine zE0 zT zT|refine zG1 zT Cq zT|refine zG2 zT Cq Cq zT|refine zG3 zT Cq Cq Cq zT|refine zM1 zT Cq zT (by assumption) (by assumption)|refine zM2 zT Cq Cq zT (by assumption) (by assumption)|refine zM3 zT Cq Cq Cq zT (by assumption) (by assumption)|refine zM0 zT zT (by assumption) (by assumption)|refine zRu (by assumption) zT|refine YI (λy hy=>?_))
  |((with_reducible refine zshf ?_);first|refine zEf zT zT|refine zMg zT zT (by assumption) (by assumption)|refine zRf (by assumption))
  |((with_reducible refine zsh2 ?_);first|refine YH zT zS zS Mm ?_ zS|refine zoA zT zS zS ?_ zS|refine zuA zT zS ?_ zS|refine YI (λy hy=>YH zT zS zS Jj ?_ zS)|(apply YH;exact zT;exact zS;exact zS;(apply U7);exact zS;exact Ji;exact Mn;kernel_rfl)|refine zodw zT zS zS zT ?_ zS|with_reducible refine zjO (λs H ρ=>?_) (λj hj=>?_)|with_reducible refine zjA (λhc=>?_) (λhc=>?_))
  |((with_reducible refine zsh0 ?_);refine zon ?_)
  |with_reducible refine zKR ?_
  |((with_reducible refine zshb ?_);first|(first|with_reducible refine zjMB (by assumption) (λs H ρ D M hM hB=>?_) (λj hj=>?_)|with_reducible refine zjB (λs H ρ=>?_) (λj hj=>?_))|refine zbR ?_)
  |with_reducible refine zBR ?_
  |((with_reducible refine zshx ?_);first|refine zXR zT ?_|refine zRx zT (by assumption) zT)
  |((with_reducible refine zshI ?_);first|refine zI0 zS zT (by assumption) (by assumption) (λvs H K=>?_) (λD M H' hM hB=>?_)|apply zI1 zS zT (by assumption) (by assumption)|apply zI2 zS zT (by assumption) (by assumption))
  |((with_reducible refine zshB ?_);refine zbg (by assumption) (by assumption) (λM hB=>?_))
  |(refine zan zT (λlp Bx r D M hr hB=>?_))
  |(refineλvs H K=>(?_:_->Fk _ _ _ _ _ _ _ _ _ _ _))
  |(refineλD M H' hM hB=>(?_:_->Go _ _ _ _ _ _ _ _ _))
  |(refine zvl1 (λx=>?_))
  |(refine zvl2 (λx y=>?_))
  |(refine zvl0 ?_)
  |((with_reducible refine zshD ?_);first|(first|with_reducible refine zjM (by assumption) (λs H ρ D M hM hB=>?_) (λj hj=>?_)|with_reducible refine zjG (λs H ρ=>?_) (λj hj=>?_))|refine zdR ?_)
  |with_reducible refine zP0 ?_
  |with_reducible refine zPB (λhb=>?_)
  |with_reducible refine zBo (λhb=>?_)
  |with_reducible refine zPN (λhb=>?_)
  |with_reducible refine zPG (λhb=>?_)
  |with_reducible refine zshV ?_
  |((with_reducible refine zshQ ?_);first|refine zPs zK ?_|refine zPsi zK ?_|refine zPsr zK ?_|refine zPsd ?_)
  |((with_reducible refine zshT ?_);first|exact zPsn|refine zPsc ?_ ?_)
  |((with_reducible refine zshU ?_);first|refine zPx zT zK zT ?_|refine zPz zT zK zS (λb a hT ha=>?_)|(apply zPzm zT zK zS zS;assumption;exact zS;exact zS;exact zS;exact zS;intro b r hT hr)|refine YL zT zK zT Mm ?_|(apply YL;exact zT;exact zK;exact zT;(apply U7);exact zS;exact Ji;exact Mn;kernel_rfl))
  |with_reducible refine zsmP (λhy=>?_)
  |with_reducible refine zsmQ (λhy=>?_)
  |((with_reducible refine zshp ?_);first|refine zPk zT zS (by assumption) (by assumption) (λH'=>?_)|refine zPk2 zT zS (by assumption) (by assumption) (by assumption) (λH' hT=>?_)|refine zPkS zT zS (by assumption) (by assumption) (λH'=>?_)|refine Zj zT zS (by assumption) (by assumption) (by assumption) (λH' hT=>?_)|refine QT zT Mm zK ?_|refine zPe zT zT zT zK ?_|refine QS (λy hy=>zPl zT Jj zK ?_)|refine QS (λy hy=>QT zT Jj zK ?_)|refine zPw zT zT zS zS Mm zK ?_|refine zPO zT zT zS zS zK ?_|refine zPU zT zT zS zK ?_|refine zPe zT zT (zww zT zS zS) zK ?_|refine QS (λy hy=>zPW zT zT zS zS Jj zK ?_)|refine QS (λy hy=>zPw zT zT zS zS Jj zK ?_)|(apply QT;exact zT;(apply U7);exact zS;exact Ji;exact Mn;kernel_rfl;exact zK)|(apply QT;exact zT;(apply YJ);exact zS;exact Ji;exact Mn;kernel_rfl;exact zK)|(apply QT;exact zT;(apply zMf);exact U8;exact U8;exact zK)|refine zPc zT zT zT zK ?_|refine zPq zT zT zK Mm ?_|refine QS (λy hy=>zPq zT zT zK Jj ?_)|refine zPZ zK ?_|refine zPsk zK ?_)
  |with_reducible refine zRn ?_
  |((with_reducible refine zshR ?_);first|refine zRc zK ?_|refine zRr zT zS zS (λhy=>?_)|refine zRA zT zS zS (λhy=>?_)|refine zRs zT zS zS (by assumption) ?_|refine zRt zT zS zS (by assumption) ?_)
  |((with_reducible refine zshP ?_);first|((with_reducible apply zuP);(with_reducible assumption);exact zK;exact Mp)|refine zPZ zK ?_)
  |(first|refine zlM zMk (by assumption) Mp (λρ s H again D M hM hB hag=>?_)|refine zlG Mp (λρ s H again hag=>?_))
  |((with_reducible refine Zi (λhE=>?_));repeat (obtain⟨_,hE⟩:=hE))
  |with_reducible refine ztNe (λhb=>?_)
  |with_reducible refine ztGe (λhb=>?_)
  |with_reducible refine ztLn (λhb=>?_)
  |with_reducible refine zlR ?_
  |exact False.elim
  |with_reducible refine zjA (λhc=>?_) (λhc=>?_)
  |kernel_rfl
  |exact zS)):X:=h
theorem aR {P:Program} {f:FuncId} {fn:Func} {c:Code} {n:Nat} {A:Prop} {vs:List Value} {H:PH} {R:Value->PH->Prop} {A0:Prop} (hA:A0=A) (hf:P.funcs[f]?=some fn) (hn:fn.ntmps=n) (hb:fn.body=some c:=by exact zT) (hnm:(fn.name== "runtime.NumGoroutine")=false:=by exact zT) (hs:Nat.ble vs.toArray.size n=true:=by exact zT)
 (go:A->Go P Option.none n [.code c] (Be vs.toArray) [] PH.none H λfi ρ D T' H'=>(fi= .ret∨fi= .lk)/\∃v Tg,qa D T' Tg/\jj P fn ρ H' v/\R v H':=by exact zGO):ae P f A0 vs H R:=
 ⟨λa=>yy hf hb hn (Nat.le_of_ble_eq_true hs) (go (hA▸a)),iU hf hb hnm⟩
theorem rR {P:Program} {f:FuncId} {fn:Func} {c:Code} {n:Nat} {A:Prop} {vs:List Value} {H:PH} {R:Value->PH->Prop} {A0:Prop} (hA:A0=A) (hf:P.funcs[f]?=some fn) (hn:fn.ntmps=n) (hb:fn.body=some c:=by exact zT) (hnm:(fn.name== "runtime.NumGoroutine")=false:=by exact zT) (hs:Nat.ble vs.toArray.size n=true:=by exact zT)
 (go:∀D M,Mk none D M->Sub PH.none M->(A->Go P Option.none n [.code c] (Be vs.toArray) D (M.join (TU ())) H (kL none PH.none TU (OC P fn R))):=by intro D M hM hB;exact zGO):ae P f A0 vs H R:=
 ⟨λa=>Iu hf hb hn (Nat.le_of_ble_eq_true hs) λD M hM hB _=>go D M hM hB (hA▸a),iU hf hb hnm⟩
end Go.Kx.Au
end
namespace Go.Proofs.YtigjebgjphmkoaaGreat
open Tryz
section
open Go Go.Kx Go.Proofs Go.Kx.Au Go.Kx.W
theorem WA:Body prog 292:=iU func292 rfl rfl
theorem WB:Body prog 305:=iU func305 rfl rfl
theorem WC:Body prog 297:=iU func297 rfl rfl
theorem WD:Body prog 223:=iU func223 rfl rfl
theorem WE:Body prog 139:=iU func139 rfl rfl
theorem WG:Body prog 178:=iU func178 rfl rfl
theorem WH:Body prog 312:=iU func312 rfl rfl
theorem WI:Body prog 266:=iU func266 rfl rfl
instance:IZ prog 25 (.agg ([.int .i64 0,.int .i64 0,.int .i64 0]:List Value).toArray):={}
instance:lC prog 25 [(0,1),(1,1),(2,1)]:={}
instance:jm prog 25 3:={}
instance:rQ prog 25 3:={}
instance:bU prog 25 0 0:={}
instance:kM prog 3:={}
instance:lC prog 158 [(0,3)]:={}
instance:IZ prog 158 (.agg ([.int .i64 0,.int .i64 0,.int .i64 0]:List Value).toArray):={}
instance:bU prog 25 2 2:={}
instance:bU prog 25 1 1:={}
instance:lC prog 161 [(0,1),(1,1),(2,1),(3,1),(4,1),(5,1),(6,1)]:={}
instance:IZ prog 161 (.agg ([.int .i64 0,.int .i64 0,.int .i64 0,.int .i64 0,.int .i64 0,.int .i64 0,.slice none 0 0]:List Value).toArray):={}
instance:bU prog 158 0 0:={}
instance:ET prog 25 0 0 3:={}
instance:YE prog:=⟨by kernel_rfl⟩
instance:pd prog 125 202 64:={}
instance:we prog 202 64:={}
instance:IZ prog 202 (.agg ((List.replicate 64 (.int .u8 0)):List Value).toArray):={}
instance:pd prog 127 4 1:={}
instance:we prog 4 1:={}
instance:IZ prog 4 (.bool false):={}
instance:lC prog 129 [(0,1),(1,1),(2,1),(3,1),(4,1),(5,1),(6,1)]:={}
instance:IZ prog 129 (.agg ([.slice none 0 0,.slice none 0 0,.slice none 0 0,.slice none 0 0,.int .i64 0,.int .i64 0,.bool false]:List Value).toArray):={}
instance:bU prog 129 1 1:={}
instance:kM prog 125:={}
instance:pd prog 50 5 1:={}
instance:we prog 5 1:={}
instance:IZ prog 5 (.int .u8 0):={}
instance:bU prog 129 6 6:={}
instance:kM prog 4:={}
instance:bU prog 129 3 3:={}
instance:kM prog 127:={}
instance:Hb prog 202 64 5 1:={}
instance:IZ prog 227 (.agg ([.slice none 0 0,.slice none 0 0]:List Value).toArray):={}
instance:Hb prog 227 2 50 1:={}
instance:jm prog 50 1:={}
instance:rQ prog 227 2:={}
instance:jm prog 227 2:={}
instance:lC prog 292 [(0,1),(1,1)]:={}
instance:IZ prog 292 (.agg ([.slice none 0 0,.int .i64 0]:List Value).toArray):={}
instance:bU prog 292 0 0:={}
instance:kM prog 50:={}
instance:bU prog 292 1 1:={}
instance:jm prog 3 1:={}
instance:kM prog 5:={}
instance:bU prog 231 0 0:={}
instance:bU prog 231 2 4:={}
instance:bU prog 231 1 3:={}
instance:pd prog 36 3 1:={}
instance:jm prog 5 1:={}
instance:pd prog 44 50 1:={}
instance:IZ prog 50 (.slice none 0 0):={}
instance:rQ prog 231 5:={}
instance:IZ prog 3 (.int .i64 0):={}
instance:IZ prog 231 (.agg ([.int .i64 0,.int .i64 0,.int .i64 0,.int .i64 0,.int .i64 0]:List Value).toArray):={}
instance:lC prog 231 [(0,3),(3,1),(4,1)]:={}
instance:jm prog 231 5:={}
instance:IZ prog 237 (.agg ([.int .i64 0,.int .i64 0,.int .i64 0,.int .i64 0,.int .i64 0,.int .i64 0,.int .i64 0,.int .i64 0,.int .i64 0,.int .i64 0,.int .i64 0,.slice none 0 0,.slice none 0 0,.slice none 0 0]:List Value).toArray):={}
instance:we prog 3 8:={}
instance:ET prog 25 1 1 3:={}
instance:pd prog 206 210 2:={}
instance:we prog 210 16:={}
instance:IZ prog 210 (.agg ([.int .i64 0,.int .i64 0]:List Value).toArray):={}
instance:bU prog 210 0 0:={}
instance:lC prog 185 [(0,1),(1,1),(2,1),(3,1),(4,1)]:={}
instance:IZ prog 185 (.agg ([.int .i64 0,.int .i64 0,.int .i64 0,.int .i64 0,.int .i64 0]:List Value).toArray):={}
instance:lC prog 237 [(0,1),(1,1),(2,1),(3,1),(4,1),(5,1),(6,5),(11,1),(12,1),(13,1)]:={}
instance:jm prog 237 14:={}
instance:rQ prog 237 14:={}
instance:bU prog 237 2 2:={}
instance:bU prog 237 0 0:={}
instance:bU prog 237 5 5:={}
instance:bU prog 237 4 4:={}
instance:bU prog 237 3 3:={}
instance:bU prog 237 1 1:={}
instance:bU prog 185 0 0:={}
instance:bU prog 185 3 3:={}
instance:bU prog 185 4 4:={}
instance:bU prog 185 2 2:={}
instance:bU prog 185 1 1:={}
instance:bU prog 237 9 13:={}
instance:kM prog 206:={}
instance:rQ prog 210 2:={}
instance:jm prog 210 2:={}
instance:bU prog 237 6 6:={}
instance:bU prog 210 1 1:={}
instance:bU prog 237 8 12:={}
instance:kM prog 36:={}
instance:bU prog 237 7 11:={}
instance:rQ prog 185 5:={}
instance:lC prog 242 [(0,1),(1,1)]:={}
instance:IZ prog 242 (.agg ([.int .i64 0,.slice none 0 0]:List Value).toArray):={}
instance:pd prog 239 242 2:={}
instance:we prog 242 32:={}
instance:pd prog 300 239 1:={}
instance:kM prog 239:={}
instance:bU prog 129 5 5:={}
instance:jm prog 4 1:={}
instance:bU prog 129 4 4:={}
instance:bU prog 129 2 2:={}
instance:kM prog 126:={}
instance:rQ prog 202 64:={}
instance:lC prog 205 [(0,1),(1,64)]:={}
instance:IZ prog 205 (.agg ([.int .i64 0,.int .u8 0,.int .u8 0,.int .u8 0,.int .u8 0,.int .u8 0,.int .u8 0,.int .u8 0,.int .u8 0,.int .u8 0,.int .u8 0,.int .u8 0,.int .u8 0,.int .u8 0,.int .u8 0,.int .u8 0,.int .u8 0,.int .u8 0,.int .u8 0,.int .u8 0,.int .u8 0,.int .u8 0,.int .u8 0,.int .u8 0,.int .u8 0,.int .u8 0,.int .u8 0,.int .u8 0,.int .u8 0,.int .u8 0,.int .u8 0,.int .u8 0,.int .u8 0,.int .u8 0,.int .u8 0,.int .u8 0,.int .u8 0,.int .u8 0,.int .u8 0,.int .u8 0,.int .u8 0,.int .u8 0,.int .u8 0,.int .u8 0,.int .u8 0,.int .u8 0,.int .u8 0,.int .u8 0,.int .u8 0,.int .u8 0,.int .u8 0,.int .u8 0,.int .u8 0,.int .u8 0,.int .u8 0,.int .u8 0,.int .u8 0,.int .u8 0,.int .u8 0,.int .u8 0,.int .u8 0,.int .u8 0,.int .u8 0,.int .u8 0,.int .u8 0]:List Value).toArray):={}
instance:pd prog 126 205 65:={}
instance:we prog 205 72:={}
instance:jm prog 126 1:={}
instance:jm prog 202 64:={}
instance:IZ prog 32 (.int .i64 0):={}
instance:kM prog 67:={}
instance:jm prog 32 1:={}
instance:kM prog 32:={}
instance:rQ prog 205 65:={}
instance:jm prog 205 65:={}
instance:bU prog 129 0 0:={}
instance:bU prog 205 0 0:={}
instance:bU prog 205 1 1:={}
instance:IZ prog 239 (.slice none 0 0):={}
instance:rQ prog 242 2:={}
instance:jm prog 242 2:={}
instance:bU prog 242 0 0:={}
instance:bU prog 242 1 1:={}
instance:bU prog 247 0 0:={}
instance:bU prog 247 2 2:={}
instance:bU prog 247 1 1:={}
instance:jm prog 77 1:={}
instance:kM prog 77:={}
instance:bU prog 367 0 0:={}
instance:kM prog 217:={}
instance:rQ prog 367 1:={}
instance:lC prog 367 [(0,1)]:={}
instance:IZ prog 367 (.agg ([.pointer none]:List Value).toArray):={}
instance:jm prog 367 1:={}
instance:jm prog 36 1:={}
instance:lC prog 210 [(0,1),(1,1)]:={}
instance:jm prog 206 1:={}
instance:bU prog 208 1 1:={}
instance:lC prog 208 [(0,1),(1,1),(2,1)]:={}
instance:IZ prog 208 (.agg ([.pointer none,.slice none 0 0,.slice none 0 0]:List Value).toArray):={}
instance:lC prog 288 [(0,1),(1,1),(2,1)]:={}
instance:IZ prog 288 (.agg ([.slice none 0 0,.int .i64 0,.slice none 0 0]:List Value).toArray):={}
instance:lC prog 214 [(0,1),(1,1)]:={}
instance:IZ prog 214 (.agg ([.pointer none,.pointer none]:List Value).toArray):={}
instance:bU prog 247 3 7:={}
instance:bU prog 247 4 21:={}
instance:lC prog 42 [(0,1),(1,1),(2,1),(3,1),(4,1),(5,1),(6,1),(7,1),(8,1),(9,1)]:={}
instance:IZ prog 42 (.agg ([.int .i64 0,.int .i64 0,.int .i64 0,.int .i64 0,.int .i64 0,.int .i64 0,.int .i64 0,.int .i64 0,.int .i64 0,.int .i64 0]:List Value).toArray):={}
instance:bU prog 247 7 24:={}
instance:jm prog 42 10:={}
instance:bU prog 247 5 22:={}
instance:jm prog 73 1:={}
instance:bU prog 247 6 23:={}
instance:jm prog 75 1:={}
instance:bU prog 214 1 1:={}
instance:kM prog 211:={}
instance:bU prog 214 0 0:={}
instance:bU prog 288 2 2:={}
instance:bU prog 288 0 0:={}
instance:bU prog 288 1 1:={}
instance:kM prog 245:={}
instance:kM prog 75:={}
instance:lC prog 346 [(0,1),(1,1),(2,5),(7,5),(12,1)]:={}
instance:IZ prog 346 (.agg ([.pointer none,.pointer none,.int .i64 0,.int .i64 0,.int .i64 0,.int .i64 0,.int .i64 0,.int .i64 0,.int .i64 0,.int .i64 0,.int .i64 0,.int .i64 0,.int .i64 0]:List Value).toArray):={}
instance:lC prog 325 [(0,1),(1,1),(2,5),(7,1),(8,5),(13,1)]:={}
instance:IZ prog 325 (.agg ([.pointer none,.pointer none,.int .i64 0,.int .i64 0,.int .i64 0,.int .i64 0,.int .i64 0,.bool false,.int .i64 0,.int .i64 0,.int .i64 0,.int .i64 0,.int .i64 0,.int .i64 0]:List Value).toArray):={}
instance:bU prog 325 0 0:={}
instance:bU prog 325 5 13:={}
instance:bU prog 330 0 0:={}
instance:bU prog 330 3 3:={}
instance:bU prog 330 2 2:={}
instance:bU prog 330 1 1:={}
instance:rQ prog 330 4:={}
instance:IZ prog 330 (.agg ([.int .i64 0,.int .i64 0,.int .i64 0,.int .i64 0]:List Value).toArray):={}
instance:lC prog 330 [(0,1),(1,1),(2,1),(3,1)]:={}
instance:jm prog 330 4:={}
instance:bU prog 325 2 2:={}
instance:jm prog 185 5:={}
instance:bU prog 325 1 1:={}
instance:bU prog 325 3 7:={}
instance:ET prog 25 2 2 3:={}
instance:bU prog 196 1 1:={}
instance:bU prog 196 0 0:={}
instance:bU prog 196 3 3:={}
instance:bU prog 196 2 2:={}
instance:pd prog 271 196 4:={}
instance:rQ prog 196 4:={}
instance:IZ prog 196 (.agg ([.int .i64 0,.int .i64 0,.int .i64 0,.int .i64 0]:List Value).toArray):={}
instance:jm prog 196 4:={}
instance:we prog 196 32:={}
instance:bU prog 273 0 0:={}
instance:bU prog 273 3 3:={}
instance:kM prog 271:={}
instance:bU prog 273 4 4:={}
instance:kM prog 44:={}
instance:bU prog 273 2 2:={}
instance:bU prog 273 1 1:={}
instance:rQ prog 273 5:={}
instance:we prog 50 24:={}
instance:IZ prog 273 (.agg ([.int .i64 0,.int .i64 0,.int .i64 0,.slice none 0 0,.slice none 0 0]:List Value).toArray):={}
instance:lC prog 273 [(0,1),(1,1),(2,1),(3,1),(4,1)]:={}
instance:jm prog 273 5:={}
instance:jm prog 271 1:={}
instance:jm prog 44 1:={}
instance:kM prog 266:={}
instance:bU prog 325 4 8:={}
instance:bU prog 346 1 1:={}
instance:kM prog 314:={}
instance:bU prog 346 2 2:={}
instance:bU prog 346 3 7:={}
instance:bU prog 346 4 12:={}
instance:kM prog 347:={}
instance:bU prog 346 0 0:={}
instance:IZ prog 266 (.pointer none):={}
instance:jm prog 266 1:={}
instance:IZ prog 36 (.slice none 0 0):={}
instance:bU prog 42 4 4:={}
instance:bU prog 42 3 3:={}
instance:bU prog 208 2 2:={}
instance:bU prog 42 2 2:={}
instance:kM prog 73:={}
instance:bU prog 247 8 34:={}
instance:kM prog 135:={}
instance:bU prog 208 0 0:={}
instance:lC prog 277 [(0,1),(1,1),(2,1),(3,5),(8,1),(9,1)]:={}
instance:IZ prog 277 (.agg ([.pointer none,.pointer none,.pointer none,.int .i64 0,.int .i64 0,.int .i64 0,.int .i64 0,.int .i64 0,.slice none 0 0,.slice none 0 0]:List Value).toArray):={}
instance:bU prog 42 5 5:={}
instance:rQ prog 42 10:={}
instance:Hb prog 114 2 36 1:={}
instance:IZ prog 114 (.agg ([.slice none 0 0,.slice none 0 0]:List Value).toArray):={}
instance:lC prog 116 [(0,1),(1,1),(2,1),(3,1),(4,1),(5,10),(15,1),(16,2)]:={}
instance:IZ prog 116 (.agg ([.pointer none,.pointer none,.pointer none,.pointer none,.pointer none,.int .i64 0,.int .i64 0,.int .i64 0,.int .i64 0,.int .i64 0,.int .i64 0,.int .i64 0,.int .i64 0,.int .i64 0,.int .i64 0,.int .i64 0,.slice none 0 0,.slice none 0 0]:List Value).toArray):={}
instance:lC prog 247 [(0,1),(1,1),(2,5),(7,14),(21,1),(22,1),(23,1),(24,10),(34,5)]:={}
instance:IZ prog 247 (.agg ([.pointer none,.pointer none,.int .i64 0,.int .i64 0,.int .i64 0,.int .i64 0,.int .i64 0,.int .i64 0,.int .i64 0,.int .i64 0,.int .i64 0,.int .i64 0,.int .i64 0,.int .i64 0,.int .i64 0,.int .i64 0,.int .i64 0,.int .i64 0,.slice none 0 0,.slice none 0 0,.slice none 0 0,.int .i64 0,.pointer none,.pointer none,.int .i64 0,.int .i64 0,.int .i64 0,.int .i64 0,.int .i64 0,.int .i64 0,.int .i64 0,.int .i64 0,.int .i64 0,.int .i64 0,.int .i64 0,.int .i64 0,.int .i64 0,.int .i64 0,.int .i64 0]:List Value).toArray):={}
instance:bU prog 116 5 5:={}
instance:bU prog 116 2 2:={}
instance:bU prog 116 3 3:={}
instance:bU prog 42 7 7:={}
instance:bU prog 42 9 9:={}
instance:bU prog 42 8 8:={}
instance:pd prog 219 223 6:={}
instance:we prog 223 64:={}
instance:IZ prog 223 (.agg ([.int .i64 0,.int .i64 0,.int .i64 0,.int .i64 0,.slice none 0 0,.bool false]:List Value).toArray):={}
instance:lC prog 221 [(0,1),(1,1)]:={}
instance:IZ prog 221 (.agg ([.slice none 0 0,.int .i64 0]:List Value).toArray):={}
instance:ET prog 42 3 3 3:={}
instance:lC prog 142 [(0,1),(1,1)]:={}
instance:IZ prog 142 (.agg ([.pointer none,.pointer none]:List Value).toArray):={}
instance:lC prog 139 [(0,1)]:={}
instance:IZ prog 139 (.agg ([.pointer none]:List Value).toArray):={}
instance:lC prog 167 [(0,1)]:={}
instance:IZ prog 167 (.agg ([.slice none 0 0]:List Value).toArray):={}
instance:lC prog 83 [(0,1),(1,1),(2,1),(3,1),(4,1),(5,1)]:={}
instance:IZ prog 83 (.agg ([.int .i64 0,.pointer none,.pointer none,.pointer none,.pointer none,.pointer none]:List Value).toArray):={}
instance:bU prog 83 2 2:={}
instance:kM prog 39:={}
instance:bU prog 83 1 1:={}
instance:bU prog 83 3 3:={}
instance:kM prog 69:={}
instance:bU prog 83 4 4:={}
instance:kM prog 71:={}
instance:bU prog 83 5 5:={}
instance:bU prog 139 0 0:={}
instance:kM prog 92:={}
instance:bU prog 142 0 0:={}
instance:kM prog 47:={}
instance:bU prog 116 1 1:={}
instance:IZ prog 54 (.agg ([.int .i64 0,.int .i64 0,.int .i64 0,.int .i64 0,.int .i64 0,.int .i64 0,.int .i64 0,.slice none 0 0]:List Value).toArray):={}
instance:bU prog 54 0 0:={}
instance:bU prog 54 1 1:={}
instance:lC prog 54 [(0,1),(1,1),(2,1),(3,1),(4,1),(5,1),(6,1),(7,1)]:={}
instance:jm prog 54 8:={}
instance:rQ prog 54 8:={}
instance:bU prog 54 7 7:={}
instance:bU prog 54 6 6:={}
instance:bU prog 54 5 5:={}
instance:bU prog 54 4 4:={}
instance:bU prog 54 3 3:={}
instance:bU prog 54 2 2:={}
instance:bU prog 152 0 0:={}
instance:bU prog 152 1 1:={}
instance:bU prog 152 2 2:={}
instance:bU prog 152 3 3:={}
instance:bU prog 152 4 4:={}
instance:bU prog 161 3 3:={}
instance:bU prog 161 5 5:={}
instance:bU prog 161 6 6:={}
instance:kM prog 159:={}
instance:rQ prog 152 5:={}
instance:pd prog 159 152 5:={}
instance:IZ prog 152 (.agg ([.int .i64 0,.int .i64 0,.int .i64 0,.int .i64 0,.slice none 0 0]:List Value).toArray):={}
instance:we prog 152 56:={}
instance:jm prog 159 1:={}
instance:bU prog 161 0 0:={}
instance:lC prog 152 [(0,1),(1,1),(2,1),(3,1),(4,1)]:={}
instance:IZ prog 34 (.agg ([.int .i64 0,.int .i64 0]:List Value).toArray):={}
instance:lC prog 34 [(0,1),(1,1)]:={}
instance:jm prog 34 2:={}
instance:rQ prog 34 2:={}
instance:bU prog 161 2 2:={}
instance:jm prog 152 5:={}
instance:IZ prog 44 (.slice none 0 0):={}
instance:bU prog 161 4 4:={}
instance:bU prog 161 1 1:={}
instance:bU prog 167 0 0:={}
instance:bU prog 116 0 0:={}
instance:ET prog 42 0 0 3:={}
instance:bU prog 42 0 0:={}
instance:bU prog 277 3 3:={}
instance:bU prog 277 0 0:={}
instance:bU prog 277 1 1:={}
instance:kM prog 113:={}
instance:bU prog 277 2 2:={}
instance:bU prog 277 4 8:={}
instance:bU prog 277 5 9:={}
instance:bU prog 116 7 16:={}
instance:bU prog 42 6 6:={}
instance:bU prog 42 1 1:={}
instance:bU prog 116 4 4:={}
instance:bU prog 116 6 15:={}
instance:rQ prog 114 2:={}
instance:jm prog 114 2:={}
instance:bU prog 221 0 0:={}
instance:kM prog 219:={}
instance:bU prog 221 1 1:={}
instance:bU prog 142 1 1:={}
instance:kM prog 140:={}
instance:bU prog 223 1 5:={}
instance:lC prog 223 [(0,5),(5,1)]:={}
instance:jm prog 223 6:={}
instance:bU prog 223 0 0:={}
instance:lC prog 196 [(0,1),(1,1),(2,1),(3,1)]:={}
instance:ET prog 42 1 1 3:={}
instance:bU prog 38 0 0:={}
instance:bU prog 38 1 1:={}
instance:bU prog 38 3 3:={}
instance:Hb prog 259 3 3 1:={}
instance:IZ prog 259 (.agg ([.int .i64 0,.int .i64 0,.int .i64 0]:List Value).toArray):={}
instance:rQ prog 259 3:={}
instance:jm prog 259 3:={}
instance:ET prog 185 2 2 3:={}
instance:jm prog 125 1:={}
instance:bU prog 38 4 4:={}
instance:jm prog 67 1:={}
instance:bU prog 38 2 2:={}
instance:bU prog 83 0 0:={}
instance:jm prog 39 1:={}
instance:ET prog 42 2 2 3:={}
instance:rQ prog 38 5:={}
instance:pd prog 103 38 5:={}
instance:IZ prog 38 (.agg ([.int .i64 0,.int .i64 0,.int .i64 0,.int .i64 0,.slice none 0 0]:List Value).toArray):={}
instance:jm prog 38 5:={}
instance:pd prog 61 34 2:={}
instance:we prog 34 16:={}
instance:lC prog 38 [(0,1),(1,1),(2,1),(3,1),(4,1)]:={}
instance:bU prog 34 0 0:={}
instance:bU prog 34 1 1:={}
instance:lC prog 102 [(0,1),(1,1)]:={}
instance:IZ prog 102 (.agg ([.slice none 0 0,.int .i64 0]:List Value).toArray):={}
instance:bU prog 102 0 0:={}
instance:bU prog 102 1 1:={}
instance:pd prog 22 31 4:={}
instance:bU prog 31 3 3:={}
instance:bU prog 31 1 1:={}
instance:bU prog 31 2 2:={}
instance:bU prog 31 0 0:={}
instance:IQ prog 42:=mkIQ underlying42
instance:ET prog 34 0 0 32:={}
instance:dw prog 2 (.int .i64):={}
instance:dw prog 3 (.int .i64):={}
instance:dw prog 4 .bool:={}
instance:dw prog 5 (.int .u8):={}
instance:dw prog 6 (.int .u8):={}
instance:dw prog 9 .string:={}
instance:dw prog 10 .string:={}
instance:dw prog 11 .string:={}
instance:dw prog 12 (.int .u64):={}
instance:dw prog 15 (.pointer 382):={}
instance:dw prog 16 (.pointer 385):={}
instance:dw prog 17 (.pointer 393):={}
instance:dw prog 21 (.int .i32):={}
instance:dw prog 22 (.slice 31):={}
instance:dw prog 27 (.pointer 83):={}
instance:dw prog 32 (.int .i64):={}
instance:dw prog 36 (.slice 3):={}
instance:dw prog 39 (.pointer 139):={}
instance:dw prog 44 (.slice 50):={}
instance:dw prog 47 (.pointer 116):={}
instance:dw prog 50 (.slice 5):={}
instance:dw prog 61 (.slice 34):={}
instance:dw prog 67 (.pointer 129):={}
instance:dw prog 69 (.pointer 161):={}
instance:dw prog 71 (.pointer 167):={}
instance:dw prog 73 (.pointer 208):={}
instance:dw prog 75 (.pointer 214):={}
instance:dw prog 77 (.pointer 158):={}
instance:dw prog 92 (.pointer 142):={}
instance:dw prog 95 (.pointer 102):={}
instance:dw prog 103 (.slice 38):={}
instance:dw prog 113 (.pointer 277):={}
instance:dw prog 125 (.slice 202):={}
instance:dw prog 126 (.slice 205):={}
instance:dw prog 127 (.slice 4):={}
instance:dw prog 140 (.pointer 221):={}
instance:dw prog 145 (.int .u64):={}
instance:dw prog 159 (.slice 152):={}
instance:dw prog 187 (.slice 191):={}
instance:dw prog 206 (.slice 210):={}
instance:dw prog 211 (.pointer 288):={}
instance:dw prog 215 (.int .u32):={}
instance:dw prog 217 (.pointer 292):={}
instance:dw prog 219 (.slice 223):={}
instance:dw prog 224 (.pointer 223):={}
instance:dw prog 239 (.slice 242):={}
instance:dw prog 245 (.pointer 247):={}
instance:dw prog 266 (.pointer 325):={}
instance:dw prog 271 (.slice 196):={}
instance:dw prog 300 (.slice 239):={}
instance:dw prog 314 (.pointer 346):={}
instance:dw prog 363 (.int .u64):={}
instance:dw prog 386 (.int .u8):={}
instance:dw prog 387 (.int .u8):={}
instance:dw prog 389 (.pointer 5):={}
instance:dw prog 390 (.int .i32):={}
instance:dw prog 391 (.int .i32):={}
abbrev yQ:=Int×Int×Int
abbrev YM:=Sl×Sl
abbrev iV:=Int×Int×Int×Int×Int
abbrev jq:=Int×Int×Int×Int×Int×Int×Int×Int×Int×Int×Int×Sl×Sl×Sl
abbrev xl:=Int×Int×Int×Int
abbrev vR:=Int×Int×Int×Sl×Sl
abbrev zI:=Int×Int×Int×Int×Int×Int×Int×Int×Int×Int
abbrev jk:=Int×Int×Int×Int×Int×Int×Int×Sl
abbrev qL:=Int×Int×Int×Int×Sl
abbrev Eu:=Int×Int
abbrev fZ (x:Int×Int×Int):List Value:=[VI x.1,VI x.2.1,VI x.2.2]
abbrev uE (x:Sl×Sl):List Value:=[Sl.v x.1,Sl.v x.2]
abbrev ag (x:Int×Int×Int×Int×Int):List Value:=[VI x.1,VI x.2.1,VI x.2.2.1,VI x.2.2.2.1,VI x.2.2.2.2]
abbrev bI (x:Int×Int×Int×Int×Int×Int×Int×Int×Int×Int×Int×Sl×Sl×Sl):List Value:=[VI x.1,VI x.2.1,VI x.2.2.1,VI x.2.2.2.1,VI x.2.2.2.2.1,VI x.2.2.2.2.2.1,VI x.2.2.2.2.2.2.1,VI x.2.2.2.2.2.2.2.1,VI x.2.2.2.2.2.2.2.2.1,VI x.2.2.2.2.2.2.2.2.2.1,VI x.2.2.2.2.2.2.2.2.2.2.1,Sl.v x.2.2.2.2.2.2.2.2.2.2.2.1,Sl.v x.2.2.2.2.2.2.2.2.2.2.2.2.1,Sl.v x.2.2.2.2.2.2.2.2.2.2.2.2.2]
abbrev dx (x:Int×Int):List Value:=[VI x.1,VI x.2]
abbrev YN (x:Int×Sl):List Value:=[VI x.1,Sl.v x.2]
abbrev yN (x:Option Addr):List Value:=[.pointer x]
abbrev dG (x:Int×Int×Int×Int):List Value:=[VI x.1,VI x.2.1,VI x.2.2.1,VI x.2.2.2]
abbrev cT (x:Int×Int×Int×Sl×Sl):List Value:=[VI x.1,VI x.2.1,VI x.2.2.1,Sl.v x.2.2.2.1,Sl.v x.2.2.2.2]
abbrev dB (x:Int×Int×Int×Int×Int×Int×Int×Int×Int×Int):List Value:=[VI x.1,VI x.2.1,VI x.2.2.1,VI x.2.2.2.1,VI x.2.2.2.2.1,VI x.2.2.2.2.2.1,VI x.2.2.2.2.2.2.1,VI x.2.2.2.2.2.2.2.1,VI x.2.2.2.2.2.2.2.2.1,VI x.2.2.2.2.2.2.2.2.2]
abbrev bS (x:Int×Int×Int×Int×Int×Int×Int×Sl):List Value:=[VI x.1,VI x.2.1,VI x.2.2.1,VI x.2.2.2.1,VI x.2.2.2.2.1,VI x.2.2.2.2.2.1,VI x.2.2.2.2.2.2.1,Sl.v x.2.2.2.2.2.2.2]
abbrev b9 (x:Int×Int×Int×Int×Sl):List Value:=[VI x.1,VI x.2.1,VI x.2.2.1,VI x.2.2.2.1,Sl.v x.2.2.2.2]
abbrev Dy:List Value:=[VI 0,VI 0,VI 0]
abbrev gr:List Value:=[VI 0,VI 0,VI 0,VI 0,VI 0]
abbrev lI:List Value:=[VI 0,VI 0,VI 0,VI 0,VI 0,VI 0,VI 0,VI 0,VI 0,VI 0,VI 0,.slice none 0 0,.slice none 0 0,.slice none 0 0]
abbrev bp:List Value:=[VI 0,.int .u8 0,.int .u8 0,.int .u8 0,.int .u8 0,.int .u8 0,.int .u8 0,.int .u8 0,.int .u8 0,.int .u8 0,.int .u8 0,.int .u8 0,.int .u8 0,.int .u8 0,.int .u8 0,.int .u8 0,.int .u8 0,.int .u8 0,.int .u8 0,.int .u8 0,.int .u8 0,.int .u8 0,.int .u8 0,.int .u8 0,.int .u8 0,.int .u8 0,.int .u8 0,.int .u8 0,.int .u8 0,.int .u8 0,.int .u8 0,.int .u8 0,.int .u8 0,.int .u8 0,.int .u8 0,.int .u8 0,.int .u8 0,.int .u8 0,.int .u8 0,.int .u8 0,.int .u8 0,.int .u8 0,.int .u8 0,.int .u8 0,.int .u8 0,.int .u8 0,.int .u8 0,.int .u8 0,.int .u8 0,.int .u8 0,.int .u8 0,.int .u8 0,.int .u8 0,.int .u8 0,.int .u8 0,.int .u8 0,.int .u8 0,.int .u8 0,.int .u8 0,.int .u8 0,.int .u8 0,.int .u8 0,.int .u8 0,.int .u8 0,.int .u8 0]
abbrev uQ:List Value:=[VI 0,VI 0,VI 0,VI 0]
abbrev Ay:List Value:=[VI 0,VI 0,VI 0,.slice none 0 0,.slice none 0 0]
abbrev lv:List Value:=[VI 0,VI 0,VI 0,VI 0,VI 0,VI 0,VI 0,VI 0,VI 0,VI 0]
abbrev Jk:List Value:=[VI 0,VI 0,VI 0,VI 0,.slice none 0 0,.bool false]
abbrev nE:List Value:=[VI 0,VI 0,VI 0,VI 0,VI 0,VI 0,VI 0,.slice none 0 0]
abbrev nW:List Value:=[VI 0,VI 0,VI 0,VI 0,.slice none 0 0]
def om (p0:Int) (p1:Int) (H:PH) (Q:Int->PH->Prop):Prop:=
 Ar p1<|
 aO (mK 1 (λc (s2:Int)=>c 5=VI s2) (λs2 b=>
 Q s2 b))
 λa=>
 aL (decide ((Int.tmod p0 p1)< 0))
 (a (IntKind.wrap .i64 ((Int.tmod p0 p1)+p1)) H)
 (a (Int.tmod p0 p1) H)
def gq (p0:Int) (p1:Int) (H:PH) (Q:Int->PH->Prop):Prop:=
 om p0 p1 H λa H1=>
 Q a H1
def nj (p0:Int) (H:PH) (Q:yQ->PH->Prop):Prop:=
 aj H (row Dy 25) λa1 b=>
 gq p0 20 b λe c=>
 aV c a1 ([VI (IntKind.wrap .i64 (1+e)),VI 8,VI 24]) λa=>
 aT fZ a a1 3 λd=>
 Q d a
def fQ (p0:Int) (p1:Int) (p2:Int) (H:PH) (Q:Bool->PH->Prop):Prop:=
 aO (mK 4 (λc (s2:Bool)=>c 14=VB s2) (λs2 b=>
 Q s2 b))
 λa=>
 aL (decide (p1<=p0))
 (a (decide (p0<=p2)) H)
 (a false H)
def qt (p0:yQ) (H:PH) (Q:Option Addr->Int->PH->Prop):Prop:=
 aj H (row (fZ p0) 25) λa1 h=>
 aH (.int .i64) h (a1.add 0) λs=>
 fQ s 1 64 h λt f=>
 aO (mK 5 (λr (g:Bool)=>r 1=VA a1/\r 13=VB g) (λg a=>
 aO (mK 5 (λr (c:Bool)=>r 1=VA a1/\r 19=VB c) (λc b=>
 aL c
 (Q none 1 b)
 (aT fZ b a1 3 λm=>
 aj b (row (fZ m) 158) λl i=>
 Q (some l) 0 i)))
 λe=>
 aL g
 (e true a)
 (aH (.int .i64) a (a1.add 2) λn=>
 fQ n 24 64 a λp j=>
 e (!p) j)))
 λd=>
 aL (!t)
 (d true f)
 (aH (.int .i64) f (a1.add 1) λo=>
 fQ o 8 32 f λq k=>
 d (!q) k)
def yR (p0:Int) (p1:Int) (H:PH) (Q:Option Addr->PH->Prop):Prop:=
 aO (mK 3 (λb (s2:Bool)=>b 0=VI p0/\b 1=VI p1/\b 10=VB s2) (λs2 g=>
 aO (mK 3 (λb (e:Bool)=>b 0=VI p0/\b 1=VI p1/\b 14=VB e) (λe h=>
 aO (mK 3 (λb (a:Bool)=>b 0=VI p0/\b 1=VI p1/\b 18=VB a) (λa c=>
 aL a
 (Q none c)
 (aj c (row [VI p0,VI p1,VI 0,VI 0,VI 0,VI 0,Sl.v Sl.nil] 161) λi f=>
 Q (some i) f)))
 λd=>
 aL e
 (d true h)
 (d (decide (16<p1)) h)))
 λk=>
 aL s2
 (k true g)
 (k (decide (p1< 1)) g)))
 λj=>
 aL (decide (p0< 1))
 (j true H)
 (j (decide (2147483647<p0)) H)
def Az (p0:Int) (p1:Int) (H:PH) (Q:Int->PH->Prop):Prop:=
 Ar p1<|
 Q (IntKind.wrap .i64 (Int.tdiv (IntKind.wrap .i64 ((IntKind.wrap .i64 (p0+p1))- 1)) p1)) H
def fA (p0:Option Addr) (H:PH) (Q:Int->PH->Prop):Prop:=
 aL (Option.isNone p0)
 (Q 0 H)
 (aP p0 λb=>
 aH (.int .i64) H ((b.add 0).add 1) λc=>
 Az (IntKind.wrap .i64 (43+(IntKind.wrap .i64 (5*c)))) 64 H λd a=>
 Q d a)
def dF (p0:Option Addr) (H:PH) (Q:yQ->PH->Prop):Prop:=
 aj H (row Dy 25) λa1 b=>
 aL (Option.isNone p0)
 (aV b a1 (Dy) λc=>
 aT fZ c a1 3 λg=>
 Q g c)
 (aP p0 λf=>
 aT fZ b (f.add 0) 3 λd=>
 aV b a1 (fZ d) λa=>
 aT fZ a a1 3 λe=>
 Q e a)
def eU (p0:Option Addr) (H:PH) (Q:Int->PH->Prop):Prop:=
 dF p0 H λb H1=>
 Az b.1 15 H1 λc a=>
 Q c a
def lJ (p0:Option Addr) (H:PH) (Q:Int->PH->Prop):Prop:=
 fA p0 H λb H1=>
 eU p0 H1 λc a=>
 Q (IntKind.wrap .i64 (2+(IntKind.wrap .i64 (2*(IntKind.wrap .i64 (b+(IntKind.wrap .i64 (2*c)))))))) a
def jS (p0:Option Addr) (H:PH) (Q:Int->PH->Prop):Prop:=
 aL (Option.isNone p0)
 (Q 0 H)
 (mP [0,2,3]<|
 aP p0 λb=>
 mP [4,5,6]<|
 aH (.int .i64) H ((b.add 0).add 1) λd=>
 mP [7,8]<|
 aP p0 λc=>
 mP [9,10,11]<|
 aH (.int .i64) H ((c.add 0).add 2) λe=>
 mP [12,1]<|
 lJ p0 H λf a=>
 ay a ((c.add 0).add 2) (VI e)<|
 ay a ((b.add 0).add 1) (VI d)<|
 mP [13,14]<|
 Q (IntKind.wrap .i64 (f+(IntKind.wrap .i64 (d*e)))) a)
def xm (p0:Int) (H:PH) (Q:Option Addr->Int->PH->Prop):Prop:=
 aO (mK 3 (λk (s2:Bool)=>k 0=VI p0/\k 9=VB s2) (λs2 e=>
 aL s2
 (Q none 1 e)
 (mP [0,2,4]<|
 qk (sd 64 p0 p0)<|
 qk (sd 64 p0 p0)<|
 qk (sd 1 p0 p0)<|
 mV [] 1 [1,3,5]<|
 lq e (row (cN (p0:Int).toNat (List.replicate 64 (.int .u8 0))) 202) p0 p0 λh a=>
 mV [] 3 [3,5]<|
 lq a (row (cN (p0:Int).toNat (List.replicate 64 (.int .u8 0))) 202) p0 p0 λi b=>
 mP [5]<|
 lq b (row (cN (p0:Int).toNat [.bool false]) 4) p0 p0 λj c=>
 mP [6,7]<|
 aj c (row [Sl.v h,Sl.v i,Sl.v Sl.nil,Sl.v j,VI (-1),VI 0,.bool false] 129) λf d=>
 mP [8,9]<|
 Q (some f) 0 d)))
 λg=>
 aL (decide (p0< 1))
 (g true H)
 (g (decide (4096<p0)) H)
def jw (p0:Option Addr) (H:PH) (Q:Int->PH->Prop):Prop:=
 aL (Option.isNone p0)
 (Q 0 H)
 (aP p0 λa=>
 aH Sl.v H (a.add 1) λb=>
 Q (b.len:Int) H)
def qM (p0:Option Addr) (p1:Int) (H:PH) (Q:Bool->PH->Prop):Prop:=
 aO (mK 3 (λg (s2:Bool)=>g 0=VP p0/\g 1=VI p1/\g 10=VB s2) (λs2 a=>
 aO (mK 8 (λg (b:Bool)=>g 19=VB b) (λb h=>
 Q b h))
 λe=>
 aL s2
 (aP p0 λc=>
 aH Sl.v a (c.add 1) λf=>
 e (decide (p1<(f.len:Int))) a)
 (e false a)))
 λd=>
 aL (!(Option.isNone p0))
 (d (decide (0<=p1)) H)
 (d false H)
def cC (p0:Sl) (H:PH) (Q:Sl->PH->Prop):Prop:=
 aL (Option.isNone p0.a)
 (Q Sl.nil H)
 (bZ H (row [] 5) 0 λd b=>
 fh b 5 1 1 [.int .u8 0] d p0 λr5 c=>
 Q r5 c)
def gm (p0:Option Addr) (p1:Int) (H:PH) (Q:Sl->Int->PH->Prop):Prop:=
 qM p0 p1 H λm H1=>
 aL (!m)
 (Q Sl.nil 1 H1)
 (aP p0 λj=>
 aH .bool H1 (j.add 6) λl=>
 aL l
 (Q Sl.nil 3 H1)
 (aP p0 λk=>
 aH Sl.v H1 (k.add 3) λf=>
 bX f 1 p1 λb=>
 aH .bool H1 b λg=>
 aL g
 (Q Sl.nil 4 H1)
 (aP p0 λc=>
 aH Sl.v H1 (c.add 1) λh=>
 bX h 64 p1 λd=>
 Bm 64 d 1 0 64 λe=>
 cC e H1 λi a=>
 Q i 0 a)))
def sw (p0:Option Addr) (H:PH) (Q:YM->Int->PH->Prop):Prop:=
 aj H (row [.slice none 0 0,.slice none 0 0] 227) λa1 m=>
 bw (mL (λo (s4:Int)=>o 0=VP p0/\o 2=VA a1/\o 5=VI s4) (λs4 f b=>
 aL (decide (s4< 2))
 (gm p0 s4 f λl e n=>
 iH 2 a1 1 s4 λg=>
 aV n g ([Sl.v l]) λa=>
 aL (e != 0)
 (aT uE a a1 2 λh=>
 aV a a1 (uE h) λc=>
 aT uE c a1 2 λi=>
 Q i e c)
 (b (IntKind.wrap .i64 (s4+1)) a))
 (aT uE f a1 2 λj=>
 aV f a1 (uE j) λd=>
 aT uE d a1 2 λk=>
 Q k 0 d)))
 0 m
def mj (p0:Sl) (H:PH) (Q:Option Addr->PH->Prop):Prop:=
 aL (decide (65536<(p0.len:Int)))
 (Q none H)
 (cC p0 H λd a=>
 aj a (row [Sl.v d,VI 0] 292) λc b=>
 Q (some c) b)
def kN (p0:Option Addr) (H:PH) (Q:Int->PH->Prop):Prop:=
 aL (Option.isNone p0)
 (Q 0 H)
 (mP [0,1]<|
 aP p0 λa=>
 mP [2,3]<|
 aH Sl.v H (a.add 0) λc=>
 mP [4,5,6]<|
 aP p0 λb=>
 mP [7,8]<|
 aH (.int .i64) H (b.add 1) λd=>
 mP [9,10]<|
 Q (IntKind.wrap .i64 ((c.len:Int)-d)) H)
def ft (p0:Option Addr) (p1:Int) (H:PH) (Q:Sl->Bool->PH->Prop):Prop:=
 aO (mK 3 (λd (s2:Bool)=>d 0=VP p0/\d 1=VI p1/\d 12=VB s2) (λs2 g=>
 aO (mK 5 (λd (c:Bool)=>d 0=VP p0/\d 1=VI p1/\d 18=VB c) (λc a=>
 aL c
 (Q Sl.nil false a)
 (mP [0,1]<|
 aP p0 λh=>
 mP [2,3]<|
 aH Sl.v a (h.add 0) λp=>
 mP [4,5]<|
 aP p0 λi=>
 mP [6,7]<|
 aH (.int .i64) a (i.add 1) λq=>
 mP [8,9]<|
 aP p0 λj=>
 mP [10,11]<|
 aH (.int .i64) a (j.add 1) λr=>
 mP [12,13,14]<|
 kv p 1 q (IntKind.wrap .i64 (r+p1)) λo=>
 mP [15]<|
 cC o a λt b=>
 mP [16]<|
 aP p0 λk=>
 aH (.int .i64) b (k.add 1) λs=>
 aP p0 λl=>
 aV b (l.add 1) ([VI (IntKind.wrap .i64 (s+p1))]) λe=>
 Q t true e)))
 λn=>
 aL s2
 (n true g)
 (kN p0 g λu f=>
 n (decide (u<p1)) f)))
 λm=>
 aL (Option.isNone p0)
 (m true H)
 (m (decide (p1< 0)) H)
def zJ (p0:Int) (H:PH) (Q:Bool->PH->Prop):Prop:=
 aO (mK 3 (λe (s2:Bool)=>e 0=VI p0/\e 8=VB s2) (λs2 b=>
 aO (mK 3 (λe (a:Bool)=>e 12=VB a) (λa f=>
 Q a f))
 λd=>
 aL s2
 (d true b)
 (d (p0==4) b)))
 λc=>
 aL (p0==1)
 (c true H)
 (c (p0==2) H)
def cA (p0:Option Addr) (p1:Int) (H:PH) (Q:Int->Bool->PH->Prop):Prop:=
 aO (mK 4 (λc (s2:Bool)=>c 0=VP p0/\c 1=VI p1/\c 4=VI 0/\c 13=VB s2) (λs2 h=>
 aO (mK 5 (λc (e:Bool)=>c 0=VP p0/\c 1=VI p1/\c 4=VI 0/\c 19=VB e) (λe j=>
 aL e
 (Q 0 false j)
 (bw (mL (λc (a:Int×Int)=>c 0=VP p0/\c 1=VI p1/\c 4=VI a.1/\c 20=VI p1/\c 21=VI a.2) (λa b d=>
 aL (decide (a.2<p1))
 (mP [0,1,2]<|
 aP p0 λk=>
 mP [3,4]<|
 aH Sl.v b (k.add 0) λr=>
 mP [5,6]<|
 aP p0 λl=>
 mP [7,8]<|
 aH (.int .i64) b (l.add 1) λs=>
 mP [9,10,11]<|
 bX r 1 (IntKind.wrap .i64 (s+a.2)) λm=>
 mP [12]<|
 aH (.int .u8) b m λt=>
 mP [13,14,15,16]<|
 Fb (IntKind.wrap .i64 (8*a.2))<|
 mP [17,18]<|
 d (MR .i64 a.1 (yz .i64 (IntKind.wrap .i64 t) (IntKind.wrap .i64 (8*a.2))),IntKind.wrap .i64 (a.2+1)) b)
 (aP p0 λn=>
 aH (.int .i64) b (n.add 1) λu=>
 aP p0 λo=>
 aV b (o.add 1) ([VI (IntKind.wrap .i64 (u+p1))]) λf=>
 Q a.1 true f)))
 (0,0) j)))
 λq=>
 aL s2
 (q true h)
 (kN p0 h λw g=>
 q (decide (w<p1)) g)))
 λp=>
 aL (Option.isNone p0)
 (p true H)
 (zJ p1 H λx i=>
 p (!x) i)
def z5 (p0:iV) (H:PH) (Q:Bool->PH->Prop):Prop:=
 aj H (row (ag p0) 231) λa1 m=>
 aT fZ m (a1.add 0) 3 λs=>
 qt s m λu t l=>
 aO (mK 4 (λg (cr:Bool)=>g 1=VA a1/\g 17=VB cr) (λcr a=>
 aO (mK 4 (λg (d:Bool)=>g 1=VA a1/\g 22=VB d) (λd b=>
 aO (mK 4 (λg (e:Bool)=>g 1=VA a1/\g 27=VB e) (λe c=>
 aO (mK 4 (λg (f:Bool)=>g 32=VB f) (λf n=>
 Q f n))
 λk=>
 aL e
 (aH (.int .i64) c (a1.add 4) λo=>
 k (decide (o<=2147483647)) c)
 (k false c)))
 λj=>
 aL d
 (aH (.int .i64) b (a1.add 4) λp=>
 j (decide (1<=p)) b)
 (j false b)))
 λi=>
 aL cr
 (aH (.int .i64) a (a1.add 3) λq=>
 i (decide (q<=2147483647)) a)
 (i false a)))
 λh=>
 aL (t==0)
 (aH (.int .i64) l (a1.add 3) λr=>
 h (decide (0<=r)) l)
 (h false l)
def ri (p0:Int) (H:PH) (Q:Option Addr->PH->Prop):Prop:=
 aO (mK 3 (λg (s2:Bool)=>g 0=VI p0/\g 8=VB s2) (λs2 b=>
 aL s2
 (Q none b)
 (zA b 5 1 [.int .u8 0] p0 p0 λf e=>
 aj e (row [Sl.v f,VI 0] 292) λc a=>
 Q (some c) a)))
 λd=>
 aL (decide (p0< 0))
 (d true H)
 (d (decide (65536<p0)) H)
def cM (p0:Option Addr) (p1:Int) (p2:Sl) (H:PH) (Q:Bool->PH->Prop):Prop:=
 aO (mK 4 (λa (s2:Bool)=>a 0=VP p0/\a 1=VI p1/\a 2=Sl.v p2/\a 18=VB s2) (λs2 q=>
 aO (mK 8 (λa (p:Bool)=>a 0=VP p0/\a 1=VI p1/\a 2=Sl.v p2/\a 27=VB p) (λp w=>
 aL p
 (Q false w)
 (bw (mL (λa (c:Int)=>a 0=VP p0/\a 1=VI p1/\a 2=Sl.v p2/\a 28=Sl.v p2/\a 29=VI (p2.len:Int)/\a 30=VI c) (λc f g=>
 aL (decide (c<(p2.len:Int)))
 (bX p2 1 c λx=>
 aH (.int .i64) f x λn=>
 aO (mK 6 (λa (k:Bool)=>a 0=VP p0/\a 1=VI p1/\a 2=Sl.v p2/\a 28=Sl.v p2/\a 29=VI (p2.len:Int)/\a 30=VI c/\a 42=VB k) (λk l=>
 aL k
 (Q false l)
 (g (IntKind.wrap .i64 (c+1)) l)))
 λm=>
 aL (decide (n< 0))
 (m true f)
 (Fb (IntKind.wrap .i64 (8*p1))<|
 m ((gy .i64 n (IntKind.wrap .i64 (8*p1))) != 0) f))
 (bw (mL (λa (d:Int)=>a 0=VP p0/\a 1=VI p1/\a 44=Sl.v p2/\a 45=VI (p2.len:Int)/\a 46=VI d) (λd j h=>
 aL (decide (d<(p2.len:Int)))
 (bX p2 1 d λy=>
 aH (.int .i64) j y λo=>
 bw (mL (λa (b:Int)=>a 0=VP p0/\a 1=VI p1/\a 10=VI o/\a 44=Sl.v p2/\a 45=VI (p2.len:Int)/\a 46=VI d/\a 50=VI p1/\a 51=VI b) (λb e i=>
 aL (decide (b<p1))
 (mP [0,1]<|
 aP p0 λz=>
 mP [2,3]<|
 aH Sl.v e (z.add 0) λG=>
 mP [4,5]<|
 aP p0 λA=>
 mP [6,7]<|
 aH (.int .i64) e (A.add 1) λI=>
 mP [8,9,10,11,12,13]<|
 Fb (IntKind.wrap .i64 (8*b))<|
 mP [14,15,16]<|
 bX G 1 (IntKind.wrap .i64 (I+b)) λB=>
 mP [17]<|
 aV e B ([.int .u8 (IntKind.wrap .u8 (jd .i64 (gy .i64 o (IntKind.wrap .i64 (8*b))) 255))]) λr=>
 i (IntKind.wrap .i64 (b+1)) r)
 (aP p0 λC=>
 aH (.int .i64) e (C.add 1) λJ=>
 aP p0 λD=>
 aV e (D.add 1) ([VI (IntKind.wrap .i64 (J+p1))]) λs=>
 h (IntKind.wrap .i64 (d+1)) s)))
 0 j)
 (Q true j)))
 0 f)))
 0 w)))
 λF=>
 aL s2
 (F true q)
 (kN p0 q λK t=>
 Ar p1<|
 F (decide ((IntKind.wrap .i64 (Int.tdiv K p1))<(p2.len:Int))) t)))
 λE=>
 aL (Option.isNone p0)
 (E true H)
 (zJ p1 H λL u=>
 E (!L) u)
def iB (p0:Option Addr) (H:PH) (Q:Sl->PH->Prop):Prop:=
 aL (Option.isNone p0)
 (Q Sl.nil H)
 (aP p0 λb=>
 aH Sl.v H (b.add 0) λc=>
 cC c H λd a=>
 Q d a)
def Dz (p0:Int) (p1:Sl) (H:PH) (Q:Int->PH->Prop):Prop:=
 bw (mL (λa (s1:Int×Int)=>a 0=.int .u32 s1.1/\a 9=Sl.v p1/\a 10=VI (p1.len:Int)/\a 11=VI s1.2) (λs1 g d=>
 aL (decide (s1.2<(p1.len:Int)))
 (bX p1 1 s1.2 λj=>
 aH (.int .u8) g j λh=>
 bw (mL (λa (cr:Int×Int)=>a 0=.int .u32 cr.1/\a 6=.int .u8 h/\a 9=Sl.v p1/\a 10=VI (p1.len:Int)/\a 11=VI s1.2/\a 15=VI cr.2) (λcr c b=>
 aL (decide (cr.2< 8))
 (aO (mB (λa (e:Int)=>a 0=.int .u32 e/\a 6=.int .u8 h/\a 9=Sl.v p1/\a 10=VI (p1.len:Int)/\a 11=VI s1.2/\a 15=VI cr.2) (λe i=>
 b (e,IntKind.wrap .i64 (cr.2+1)) i))
 λf=>
 Fb cr.2<|
 aL ((jd .u32 (vo .u32 cr.1 (gy .u32 (IntKind.wrap .u32 h) cr.2)) 1)==1)
 (f (vo .u32 (gy .u32 cr.1 1) 2197175160) c)
 (f (gy .u32 cr.1 1) c))
 (d (cr.1,IntKind.wrap .i64 (s1.2+1)) c)))
 (s1.1,0) g)
 (Q s1.1 g)))
 (p0,0) H
def yi (p0:Sl) (H:PH) (Q:Int->PH->Prop):Prop:=
 bw (mL (λe (s1:Int×Int)=>e 3=.int .u32 s1.1/\e 6=Sl.v p0/\e 7=VI (p0.len:Int)/\e 8=VI s1.2) (λs1 b a=>
 aL (decide (s1.2<(p0.len:Int)))
 (bX p0 1 s1.2 λf=>
 aH Sl.v b f λg=>
 Dz s1.1 g b λd c=>
 a (d,IntKind.wrap .i64 (s1.2+1)) c)
 (Q (IntKind.wrap .i64 (G2 .u32 s1.1)) b)))
 (4294967295,0) H
def nk (p0:Sl) (H:PH) (Q:Sl->PH->Prop):Prop:=
 kv p0 1 0 (IntKind.wrap .i64 ((p0.len:Int)- 4)) λj=>
 bZ H (row [Sl.v j] 50) 1 λk h=>
 yi k h λf i=>
 bw (mL (λg (a:Int)=>g 0=Sl.v p0/\g 3=VI (IntKind.wrap .i64 ((p0.len:Int)- 4))/\g 4=VI f/\g 14=VI a) (λa c b=>
 aL (decide (a< 4))
 (Fb (IntKind.wrap .i64 (8*a))<|
 bX p0 1 (IntKind.wrap .i64 ((IntKind.wrap .i64 ((p0.len:Int)- 4))+a)) λe=>
 aV c e ([.int .u8 (IntKind.wrap .u8 (jd .i64 (gy .i64 f (IntKind.wrap .i64 (8*a))) 255))]) λd=>
 b (IntKind.wrap .i64 (a+1)) d)
 (Q p0 c)))
 0 i
def nq (p0:iV) (H:PH) (Q:Sl->Int->PH->Prop):Prop:=
 aj H (row (ag p0) 231) λa1 e=>
 aT ag e a1 5 λt=>
 z5 t e λu j=>
 aL (!u)
 (Q Sl.nil 1 j)
 (ri 64 j λb c=>
 aH (.int .i64) c ((a1.add 0).add 0) λm=>
 aH (.int .i64) c ((a1.add 0).add 1) λn=>
 aH (.int .i64) c ((a1.add 0).add 2) λo=>
 bZ c (row [VI 75,VI 83,VI m,VI n,VI o] 3) 5 λk d=>
 cM b 1 k d λv a=>
 aH (.int .i64) a (a1.add 3) λp=>
 aH (.int .i64) a (a1.add 4) λq=>
 bZ a (row [VI p,VI q] 3) 2 λl f=>
 cM b 4 l f λw g=>
 iB b g λr h=>
 nk r h λs i=>
 Q s 0 i)
def jA (p0:Sl) (p1:Sl) (H:PH) (Q:Bool->PH->Prop):Prop:=
 TQ H p0 λa=>
 TQ H p1 λb=>
 Q (a.toList==b.toList) H
def sx (p0:Sl) (H:PH) (Q:iV->Int->PH->Prop):Prop:=
 aj H (row gr 231) λa1 D=>
 mj p0 D λa E=>
 ft a 2 E λO P F=>
 cA a 1 F λv I G=>
 aV G ((a1.add 0).add 0) ([VI v]) λi=>
 cA a 1 i λw J j=>
 aV j ((a1.add 0).add 1) ([VI w]) λk=>
 cA a 1 k λx K l=>
 aV l ((a1.add 0).add 2) ([VI x]) λm=>
 cA a 4 m λy L n=>
 aV n (a1.add 3) ([VI y]) λo=>
 cA a 4 o λz M p=>
 aV p (a1.add 4) ([VI z]) λd=>
 aT ag d a1 5 λr=>
 nq r d λA B e=>
 aO (mK 5 (λN (c:Bool)=>N 2=VA a1/\N 56=VB c) (λc b=>
 aL c
 (aV b a1 (gr) λf=>
 aT ag f a1 5 λs=>
 Q s 2 f)
 (aT ag b a1 5 λt=>
 aV b a1 (ag t) λg=>
 aT ag g a1 5 λu=>
 Q u 0 g)))
 λh=>
 aL (B != 0)
 (h true e)
 (jA A p0 e λC q=>
 h (!C) q)
def sy (p0:Sl) (p1:Sl) (H:PH) (Q:iV->Int->Int->PH->Prop):Prop:=
 aj H (row gr 231) λa1 A=>
 sx p0 A λD z B=>
 aj B (row gr 231) λf C=>
 aV C f (ag D) λn=>
 sx p1 n λy d o=>
 aj o (row gr 231) λc p=>
 aV p c (ag y) λa=>
 aO (mK 10 (λe (g:Bool)=>e 4=VA a1/\e 7=VA f/\e 9=VA c/\e 10=VI d/\e 34=VB g) (λg b=>
 aL g
 (aT ag b f 5 λr=>
 aV b a1 (ag r) λi=>
 aT ag i a1 5 λs=>
 Q s 0 0 i)
 (aL (d==0)
 (aT ag b c 5 λt=>
 aV b a1 (ag t) λj=>
 aT ag j a1 5 λu=>
 Q u 1 0 j)
 (aV b a1 (gr) λk=>
 aT ag k a1 5 λv=>
 Q v 0 2 k))))
 λl=>
 aL (z==0)
 (aO (mK 6 (λe (h:Bool)=>e 4=VA a1/\e 7=VA f/\e 9=VA c/\e 10=VI d/\e 24=VB (z==0)/\e 33=VB h) (λh q=>
 l h q))
 λm=>
 aL (d != 0)
 (m true a)
 (aH (.int .i64) a (f.add 4) λw=>
 aH (.int .i64) a (c.add 4) λx=>
 m (decide (x<=w)) a))
 (l false a)
def xJ (p0:Option Addr) (p1:Int) (H:PH) (Q:jq->PH->Prop):Prop:=
 aj H (row lI 237) λa1 k=>
 eU p0 k λj l=>
 zA l 3 8 [VI 0] j j λh m=>
 dF p0 m λc d=>
 zA d 210 16 [VI 0,VI 0] c.2.1 c.2.1 λb e=>
 bX b 2 0 λg=>
 aV e (g.add 0) ([VI 1]) λf=>
 aV f a1 ([VI 1,VI 1,VI 1,VI 0,VI 0,VI 0,VI 0,VI 0,VI 1,VI 0,VI p1,Sl.v h,Sl.v h,Sl.v b]) λa=>
 aT bI a a1 14 λi=>
 Q i a
def jC (p0:Int) (p1:Int) (p2:Int) (H:PH) (Q:Bool->PH->Prop):Prop:=
 aO (mK 4 (λc (s2:Bool)=>c 14=VB s2) (λs2 b=>
 Q s2 b))
 λa=>
 aL (decide (p1<=p0))
 (a (decide (p0<=p2)) H)
 (a false H)
def th (p0:jq) (H:PH) (Q:Bool->PH->Prop):Prop:=
 aj H (row (bI p0) 237) λa1 k=>
 aH (.int .i64) k (a1.add 2) λM=>
 aO (mK 4 (λa (l:Bool)=>a 1=VA a1/\a 11=VB l) (λl x=>
 aH (.int .i64) x (a1.add 0) λz=>
 jC z 1 2147483647 x λG c=>
 aO (mK 4 (λa (f:Bool)=>a 1=VA a1/\a 3=VB l/\a 19=VB f) (λf m=>
 aO (mK 2 (λa (g:Bool)=>a 1=VA a1/\a 22=VB g) (λg d=>
 aO (mK 4 (λa (h:Bool)=>a 1=VA a1/\a 27=VB h) (λh e=>
 aO (mK 4 (λa (i:Bool)=>a 1=VA a1/\a 32=VB i) (λi b=>
 aO (mK 6 (λa (j:Bool)=>a 39=VB j) (λj s=>
 Q j s))
 λr=>
 aL i
 (aH (.int .i64) b (a1.add 5) λA=>
 aH (.int .i64) b (a1.add 4) λB=>
 jC A 0 B b λI t=>
 r I t)
 (r false b)))
 λq=>
 aL h
 (aH (.int .i64) e (a1.add 4) λC=>
 jC C 0 2147483647 e λJ u=>
 q J u)
 (q false e)))
 λp=>
 aL g
 (aH (.int .i64) d (a1.add 3) λD=>
 jC D 0 2147483647 d λK v=>
 p K v)
 (p false d)))
 λo=>
 aL f
 (o l m)
 (o false m)))
 λn=>
 aL G
 (aH (.int .i64) c (a1.add 1) λE=>
 jC E 1 2147483647 c λL w=>
 n L w)
 (n false c)))
 λy=>
 aL (M==1)
 (y true k)
 (aH (.int .i64) k (a1.add 2) λF=>
 y (F==2) k)
def mm (p0:Option Addr) (p1:Int) (H:PH) (Q:Bool->PH->Prop):Prop:=
 aO (mK 9 (λg (s2:Bool)=>g 16=VB s2) (λs2 d=>
 Q s2 d))
 λb=>
 aL (!(Option.isNone p0))
 (aP p0 λe=>
 aH (.int .i64) H ((e.add 0).add 1) λf=>
 fQ p1 0 (IntKind.wrap .i64 (f- 1)) H λc a=>
 b c a)
 (b false H)
def rS (p0:Option Addr) (p1:iV) (H:PH) (Q:Bool->PH->Prop):Prop:=
 aj H (row (ag p1) 185) λa1 n=>
 mP [0,1,2]<|
 aH (.int .i64) n (a1.add 0) λD=>
 mP [3]<|
 mm p0 D n λE h=>
 mP [4]<|
 aO (mQ 32767 [11,6] (λa (m:Bool)=>a 3=VA a1/\a 4=VB false/\a 19=VB m) (λm b=>
 mP [15]<|
 aO (mQ 1048575 [17,11,6] (λa (e:Bool)=>a 3=VA a1/\a 4=VB false/\a 24=VB e) (λe c=>
 mP [20]<|
 aO (mQ 33554431 [22,17,11,6] (λa (f:Bool)=>a 3=VA a1/\a 4=VB false/\a 29=VB f) (λf d=>
 mP [25]<|
 aO (mQ 1073741823 [27,22,17,11,6] (λa (g:Bool)=>a 4=VB false/\a 34=VB g) (λg o=>
 mP [30]<|
 Q g o))
 λl=>
 aL f
 (mP [26,27]<|
 aH (.int .i64) d (a1.add 3) λu=>
 mP [28]<|
 fQ u 0 4294967295 d λz p=>
 mP [29]<|
 l z p)
 (mP [26,27,28,29]<|
 l false d)))
 λk=>
 aL e
 (mP [21,22]<|
 aH (.int .i64) c (a1.add 4) λv=>
 mP [23]<|
 fQ v 1 2147483647 c λA q=>
 mP [24]<|
 k A q)
 (mP [21,22,23,24]<|
 k false c)))
 λj=>
 aL m
 (mP [16,17]<|
 aH (.int .i64) b (a1.add 2) λw=>
 mP [18]<|
 fQ w 1 2147483647 b λB r=>
 mP [19]<|
 j B r)
 (mP [16,17,18,19]<|
 j false b)))
 λi=>
 aL E
 (mP [5,6]<|
 aH (.int .i64) h (a1.add 1) λx=>
 mP [7,8]<|
 aP p0 λt=>
 mP [9,10,11]<|
 aH (.int .i64) h ((t.add 0).add 2) λy=>
 mP [12,13]<|
 fQ x 0 (IntKind.wrap .i64 (y- 1)) h λC s=>
 mP [14]<|
 i C s)
 (mP [5,6,7,8,9,10,11,12,13,14]<|
 i false h)
def iC (p0:Sl) (p1:Value) (H:PH) (Q:Int->PH->Prop):Prop:=
 bw (λ(s1:Int) (d:PH) (a:Int->PH->Prop)=>
 aL (decide (s1<(p0.len:Int)))
 (bX p0 1 s1 λf=>
 aH (.int .i64) d f λg=>
 xI prog p1 [VI g] d λe b=>
 ∃(c:Bool),e= .bool c/\
 aL c
 (Q s1 b)
 (a (IntKind.wrap .i64 (s1+1)) b))
 (Q (-1) d))
 0 H
def dM (p0:Sl) (p1:Value) (H:PH) (Q:Bool->PH->Prop):Prop:=
 iC p0 p1 H λa H1=>
 Q (decide (0<=a)) H1
def tA (p0:Sl) (p1:Int) (H:PH) (Q:Bool->PH->Prop):Prop:=
 aO (mK 4 (λe (s2:Bool)=>e 13=VB s2) (λs2 b=>
 Q s2 b))
 λa=>
 aL ((p0.len:Int)==p1)
 (dM p0 (.func (.func 317) #[] #[]) H λd c=>
 a (!d) c)
 (a false H)
def yS (p0:Option Addr) (p1:jq) (H:PH) (Q:Bool->PH->Prop):Prop:=
 aj H (row (bI p1) 237) λa1 G=>
 mP [0,1,2]<|
 aO (mQ 127 [3] (λa (s5:Bool)=>a 0=VP p0/\a 3=VA a1/\a 13=VB s5) (λs5 I=>
 mP [7]<|
 aO (mQ 16383 [10,3] (λa (cr:Bool)=>a 0=VP p0/\a 3=VA a1/\a 20=VB cr) (λcr g=>
 mP [14]<|
 aO (mQ 4194303 [16,10,3] (λa (m:Bool)=>a 0=VP p0/\a 3=VA a1/\a 28=VB m) (λm h=>
 mP [22]<|
 aO (mQ 1073741823 [24,16,10,3] (λa (n:Bool)=>a 0=VP p0/\a 3=VA a1/\a 36=VB n) (λn i=>
 mP [30]<|
 aO (mQ 549755813887 [32,24,16,10,3] (λa (o:Bool)=>a 3=VA a1/\a 45=VB o) (λo j=>
 aL o
 (Q false j)
 (aH Sl.v j (a1.add 13) λc=>
 bw (mL (λa (b:Int)=>a 3=VA a1/\a 47=Sl.v c/\a 48=VI (c.len:Int)/\a 49=VI b) (λb k f=>
 aL (decide (b<(c.len:Int)))
 (bX c 2 b λP=>
 aT dx k P 2 λS=>
 aj k (row [VI 0,VI 0] 210) λd J=>
 aV J d (dx S) λr=>
 aH (.int .i64) r (d.add 0) λT=>
 jC T 0 2 r λaa l=>
 aO (mK 5 (λa (p:Bool)=>a 3=VA a1/\a 5=VI b/\a 6=VA d/\a 47=Sl.v c/\a 48=VI (c.len:Int)/\a 49=VI b/\a 63=VB p) (λp e=>
 aO (mK 10 (λa (q:Bool)=>a 3=VA a1/\a 47=Sl.v c/\a 48=VI (c.len:Int)/\a 49=VI b/\a 74=VB q) (λq s=>
 aL q
 (Q false s)
 (f (IntKind.wrap .i64 (b+1)) s)))
 λC=>
 aL p
 (C true e)
 (aH (.int .i64) e (d.add 0) λU=>
 aH (.int .i64) e ((a1.add 6).add 0) λV=>
 C ((U==1) != (b==V)) e)))
 λB=>
 aL (!aa)
 (B true l)
 (aH (.int .i64) l (d.add 1) λX=>
 jC X 0 2147483647 l λab K=>
 B (!ab) K))
 (Q true k)))
 0 j)))
 λA=>
 aL n
 (mP [31,32,33,34,35,36,37,38]<|
 A true i)
 (mP [31,32]<|
 aH Sl.v i (a1.add 13) λD=>
 mP [33,34,35]<|
 dF p0 i λac t=>
 ay t (a1.add 13) (Sl.v D)<|
 mP [36,37,38]<|
 A ((D.len:Int) != ac.2.1) t)))
 λz=>
 aL m
 (mP [23,24,25,26,27,28,29]<|
 z true h)
 (mP [23,24]<|
 aH Sl.v h (a1.add 12) λE=>
 mP [25,26]<|
 eU p0 h λad u=>
 ay u (a1.add 12) (Sl.v E)<|
 mP [27]<|
 tA E ad u λae L=>
 mP [28,29]<|
 z (!ae) L)))
 λy=>
 aL cr
 (mP [15,16,17,18,19,20,21]<|
 y true g)
 (mP [15,16]<|
 aH Sl.v g (a1.add 11) λF=>
 mP [17,18]<|
 eU p0 g λaf w=>
 ay w (a1.add 11) (Sl.v F)<|
 mP [19]<|
 tA F af w λah M=>
 mP [20,21]<|
 y (!ah) M)))
 λx=>
 aL s5
 (mP [8,9,10,11,12,13]<|
 x true I)
 (mP [8,9,10]<|
 aT ag I (a1.add 6) 5 λY=>
 mP [11]<|
 rS p0 Y I λai N=>
 mP [12,13]<|
 x (!ai) N)))
 λR=>
 aL (Option.isNone p0)
 (mP [3,4,5,6]<|
 R true G)
 (mP [3]<|
 aT bI G a1 14 λZ=>
 mP [4]<|
 th Z G λak O=>
 mP [5,6]<|
 R (!ak) O)
def uR (p0:Sl) (H:PH) (Q:Int->PH->Prop):Prop:=
 bw (mL (λc (s1:Int×Int)=>c 2=VI s1.1/\c 5=Sl.v p0/\c 6=VI (p0.len:Int)/\c 7=VI s1.2) (λs1 b a=>
 aL (decide (s1.2<(p0.len:Int)))
 (bX p0 1 s1.2 λd=>
 aH (.int .i64) b d λe=>
 Fb s1.2<|
 a (MR .i64 s1.1 (yz .i64 e s1.2),IntKind.wrap .i64 (s1.2+1)) b)
 (Q s1.1 b)))
 (0,0) H
def mn (p0:Option Addr) (p1:jq) (H:PH) (Q:Sl->Int->PH->Prop):Prop:=
 aj H (row (bI p1) 237) λa1 C=>
 aT bI C a1 14 λx4=>
 yS p0 x4 C λy7 I=>
 aL (!y7)
 (Q Sl.nil 1 I)
 (fA p0 I λao H9=>
 ri (IntKind.wrap .i64 (64*ao)) H9 λa A=>
 bZ A (row [VI 75,VI 67] 3) 2 λP B=>
 cM a 1 P B λav h=>
 aH (.int .i64) h (a1.add 0) λZ=>
 aH (.int .i64) h (a1.add 1) λaa=>
 bZ h (row [VI Z,VI aa] 3) 2 λR D=>
 cM a 4 R D λaw m=>
 aH (.int .i64) m (a1.add 2) λab=>
 bZ m (row [VI ab] 3) 1 λS E=>
 cM a 1 S E λax c=>
 aH (.int .i64) c (a1.add 3) λac=>
 aH (.int .i64) c (a1.add 4) λad=>
 aH (.int .i64) c (a1.add 5) λae=>
 bZ c (row [VI ac,VI ad,VI ae] 3) 3 λT F=>
 cM a 4 T F λaz i=>
 aH (.int .i64) i ((a1.add 6).add 0) λaf=>
 aH (.int .i64) i ((a1.add 6).add 1) λag=>
 bZ i (row [VI af,VI ag] 3) 2 λU G=>
 cM a 1 U G λaA d=>
 aH (.int .i64) d ((a1.add 6).add 2) λah=>
 aH (.int .i64) d ((a1.add 6).add 3) λai=>
 aH (.int .i64) d ((a1.add 6).add 4) λak=>
 bZ d (row [VI ah,VI ai,VI ak] 3) 3 λV J=>
 cM a 4 V J λaB j=>
 mP [0,1,2]<|
 aH Sl.v j (a1.add 11) λal=>
 mP [4,5]<|
 aH Sl.v j (a1.add 12) λq=>
 mP [3]<|
 uR al j λap n=>
 ay n (a1.add 12) (Sl.v q)<|
 mP [6]<|
 uR q n λaq K=>
 mP [7]<|
 bZ K (row [VI ap,VI aq] 3) 2 λX L=>
 mP [8]<|
 cM a 1 X L λaC o=>
 aH Sl.v o (a1.add 13) λe=>
 bw (mL (λρ (b:Int)=>ρ 6=VP a/\ρ 72=Sl.v e/\ρ 73=VI (e.len:Int)/\ρ 74=VI b) (λb k f=>
 aL (decide (b<(e.len:Int)))
 (bX e 2 b λO=>
 aT dx k O 2 λam=>
 aj k (row [VI 0,VI 0] 210) λl M=>
 aV M l (dx am) λp=>
 aH (.int .i64) p (l.add 0) λan=>
 bZ p (row [VI an] 3) 1 λY N=>
 cM a 1 Y N λar g=>
 aH (.int .i64) g (l.add 1) λx=>
 bZ g (row [VI x] 3) 1 λw r=>
 cM a 4 w r λau s=>
 f (IntKind.wrap .i64 (b+1)) s)
 (iB a k λy t=>
 nk y t λz u=>
 Q z 0 u)))
 0 o)
def Fo (p0:Int) (p1:Int) (H:PH) (Q:Int->Int->PH->Prop):Prop:=
 Q (IntKind.wrap .u32 (gy .u64 (IntKind.wrap .u64 ((IntKind.wrap .u64 p0)*(IntKind.wrap .u64 p1))) 32)) (IntKind.wrap .u32 (IntKind.wrap .u64 ((IntKind.wrap .u64 p0)*(IntKind.wrap .u64 p1)))) H
def yT (p0:Int) (p1:Int) (H:PH) (Q:Int->Int->PH->Prop):Prop:=
 Q (IntKind.wrap .u64 ((IntKind.wrap .u64 ((IntKind.wrap .u64 ((gy .u64 p0 32)*(gy .u64 p1 32)))+(gy .u64 (IntKind.wrap .u64 ((IntKind.wrap .u64 ((gy .u64 p0 32)*(jd .u64 p1 4294967295)))+(gy .u64 (IntKind.wrap .u64 ((jd .u64 p0 4294967295)*(jd .u64 p1 4294967295))) 32))) 32)))+(gy .u64 (IntKind.wrap .u64 ((jd .u64 (IntKind.wrap .u64 ((IntKind.wrap .u64 ((gy .u64 p0 32)*(jd .u64 p1 4294967295)))+(gy .u64 (IntKind.wrap .u64 ((jd .u64 p0 4294967295)*(jd .u64 p1 4294967295))) 32))) 4294967295)+(IntKind.wrap .u64 ((jd .u64 p0 4294967295)*(gy .u64 p1 32))))) 32))) (IntKind.wrap .u64 (p0*p1)) H
def zL (p0:Int) (p1:Int) (H:PH) (Q:Int->Int->PH->Prop):Prop:=
 yT p0 p1 H λa b H1=>
 Q a b H1
def gw (p0:Sl) (p1:Int) (H:PH) (Q:Sl->PH->Prop):Prop:=
 aO (mK 1 (λd (s1:Unit)=>d 0=Sl.v p0/\d 1=VI p1) (λs1 u=>
 zL (IntKind.wrap .u64 (p0.len:Int)) (IntKind.wrap .u64 p1) u λx e n=>
 aO (mK 3 (λd (h:Bool)=>d 0=Sl.v p0/\d 6=.int .u64 e/\d 26=VB h) (λh i=>
 aO (mK 1 (λd (r:Unit)=>d 0=Sl.v p0/\d 6=.int .u64 e) (λr j=>
 zA j 3 8 [VI 0] (IntKind.wrap .i64 e) (IntKind.wrap .i64 e) λa k=>
 nC k 1 a p0 λs l=>
 bw (mL (λd (b:Int)=>d 7=Sl.v a/\d 8=VI b) (λb f c=>
 aL (decide (b<(a.len:Int)))
 (mP [0,1,2,3]<|
 kv a 1 b (a.len:Int) λp=>
 mP [4,5,6]<|
 kv a 1 0 b λq=>
 mP [7]<|
 nC f 1 p q λt m=>
 mP [8,9]<|
 c (IntKind.wrap .i64 (b+t)) m)
 (Q a f)))
 s l))
 λo=>
 aL h
 (False)
 (o () i)))
 λg=>
 aL (decide (0<x))
 (g true n)
 (g (decide (9223372036854775807<e)) n)))
 λw=>
 aL (decide (p1< 0))
 (False)
 (w () H)
def pR (p0:Sl) (H:PH) (Q:Sl->Int->PH->Prop):Prop:=
 aL (decide (15<(p0.len:Int)))
 (Q Sl.nil 1 H)
 (ri 64 H λf p=>
 bw (mL (λd (s4:Int)=>d 4=VP f/\d 11=Sl.v p0/\d 12=VI (p0.len:Int)/\d 13=VI s4) (λs4 e b=>
 aL (decide (s4<(p0.len:Int)))
 (bX p0 1 s4 λq=>
 aH (.int .i64) e q λa=>
 aO (mK 3 (λd (c:Bool)=>d 4=VP f/\d 6=VI a/\d 11=Sl.v p0/\d 12=VI (p0.len:Int)/\d 13=VI s4/\d 22=VB c) (λc g=>
 aL c
 (Q Sl.nil 1 g)
 (bZ g (row [VI (jd .i64 a 4294967295)] 3) 1 λm i=>
 cM f 4 m i λr j=>
 b (IntKind.wrap .i64 (s4+1)) j)))
 λh=>
 aL (decide (a<(-1)))
 (h true e)
 (h (decide (4096<=a)) e))
 (iB f e λn k=>
 nk n k λo l=>
 Q o 0 l)))
 0 p)
def lK (p0:Option Addr) (p1:Bool) (p2:Int) (p3:Int) (H:PH) (Q:Int->PH->Prop):Prop:=
 aO (mK 4 (λa (s2:Bool)=>a 0=VP p0/\a 1=VB p1/\a 2=VI p2/\a 3=VI p3/\a 15=VB s2) (λs2 l=>
 aO (mK 7 (λa (e:Bool)=>a 0=VP p0/\a 1=VB p1/\a 2=VI p2/\a 3=VI p3/\a 23=VB e) (λe d=>
 aL e
 (Q (-1) d)
 (aO (mK 1 (λa (b:Int)=>a 0=VP p0/\a 2=VI b/\a 3=VI p3) (λb f=>
 fA p0 f λo g=>
 Q (IntKind.wrap .i64 ((IntKind.wrap .i64 (2+(IntKind.wrap .i64 (2*(IntKind.wrap .i64 (o+b))))))+p3)) g))
 λc=>
 aL p1
 (eU p0 d λp h=>
 c (IntKind.wrap .i64 (p2+p)) h)
 (c p2 d))))
 λn=>
 aL s2
 (n true l)
 (eU p0 l λq i=>
 fQ p2 0 (IntKind.wrap .i64 (q- 1)) i λr j=>
 n (!r) j)))
 λm=>
 aL (Option.isNone p0)
 (m true H)
 (fQ p3 0 1 H λs k=>
 m (!s) k)
def uS (p0:Option Addr) (p1:Bool) (H:PH) (Q:Sl->PH->Prop):Prop:=
 aO (mK 1 (λc (s1:Int)=>c 0=VP p0/\c 1=VB p1/\c 4=Sl.v Sl.nil/\c 5=VI s1) (λs1 t=>
 eU p0 t λs u=>
 bw (mL (λc (a:Sl×Int)=>c 0=VP p0/\c 1=VB p1/\c 4=Sl.v a.1/\c 5=VI s1/\c 12=VI s/\c 13=VI a.2) (λa d b=>
 aL (decide (a.2<s))
 (dF p0 d λe f=>
 bZ f (row [VI s1] 3) 1 λdp g=>
 gw dp (if 15<(IntKind.wrap .i64 (e.1-(IntKind.wrap .i64 (a.2*15)))) then 15 else(IntKind.wrap .i64 (e.1-(IntKind.wrap .i64 (a.2*15))))) g λp h=>
 pR p h λq w i=>
 lK p0 p1 a.2 0 i λr j=>
 bZ j (row [VI r,Sl.v q] 242) 1 λn k=>
 fh k 242 2 32 [VI 0,.slice none 0 0] a.1 n λo l=>
 b (o,IntKind.wrap .i64 (a.2+1)) l)
 (Q a.1 d)))
 (Sl.nil,0) u))
 λm=>
 aL p1
 (m (-1) H)
 (m 0 H)
def eW (p0:Sl) (p1:Int) (H:PH) (Q:Sl->PH->Prop):Prop:=
 aO (mK 1 (λg (s1:Unit)=>g 0=Sl.v p0/\g 1=VI p1) (λs1 b=>
 aO (mK 1 (λg (s5:Sl)=>g 0=Sl.v s5) (λs5 h=>
 Q s5 h))
 λc=>
 aL (decide (0<(IntKind.wrap .i64 (p1-(IntKind.wrap .i64 ((p0.cap:Int)-(p0.len:Int)))))))
 (kv p0 2 0 (p0.cap:Int) λd=>
 JB b 242 2 32 [VI 0,.slice none 0 0] d (IntKind.wrap .i64 (p1-(IntKind.wrap .i64 ((p0.cap:Int)-(p0.len:Int))))) λe a=>
 kv e 2 0 (p0.len:Int) λf=>
 c f a)
 (c p0 b)))
 λi=>
 aL (decide (p1< 0))
 (False)
 (i () H)
def fk (p0:Sl) (H:PH) (Q:Sl->PH->Prop):Prop:=
 bw (mL (λb (s1:Int×Int)=>b 0=Sl.v p0/\b 3=VI s1.1/\b 9=Sl.v p0/\b 10=VI (p0.len:Int)/\b 11=VI s1.2) (λs1 g e=>
 aL (decide (s1.2<(p0.len:Int)))
 (aO (mB (λb (h:Int)=>b 0=Sl.v p0/\b 3=VI h/\b 9=Sl.v p0/\b 10=VI (p0.len:Int)/\b 11=VI s1.2) (λh p=>
 e (h,IntKind.wrap .i64 (s1.2+1)) p))
 λq=>
 bX p0 1 s1.2 λk=>
 aH Sl.v g k λf=>
 aL (decide ((IntKind.wrap .i64 (s1.1+(f.len:Int)))< 0))
 (False)
 (q (IntKind.wrap .i64 (s1.1+(f.len:Int))) g))
 (eW Sl.nil s1.1 g λo i=>
 bw (mL (λb (a:Sl×Int)=>b 6=Sl.v a.1/\b 25=Sl.v p0/\b 26=VI (p0.len:Int)/\b 27=VI a.2) (λa d c=>
 aL (decide (a.2<(p0.len:Int)))
 (bX p0 1 a.2 λl=>
 aH Sl.v d l λn=>
 fh d 242 2 32 [VI 0,.slice none 0 0] a.1 n λm j=>
 c (m,IntKind.wrap .i64 (a.2+1)) j)
 (Q a.1 d)))
 (o,0) i)))
 (0,0) H
def jr (p0:Option Addr) (p1:Int) (H:PH) (Q:Int->PH->Prop):Prop:=
 aO (mK 4 (λg (s2:Bool)=>g 0=VP p0/\g 1=VI p1/\g 11=VB s2) (λs2 a=>
 aL s2
 (Q (-1) a)
 (fA p0 a λf d=>
 Q (IntKind.wrap .i64 (2+(IntKind.wrap .i64 (p1*f)))) d)))
 λb=>
 aL (Option.isNone p0)
 (b true H)
 (fQ p1 0 1 H λc e=>
 b (!c) e)
def mH (p0:Option Addr) (p1:Int) (H:PH) (Q:Int->PH->Prop):Prop:=
 aO (mK 4 (λe (s2:Bool)=>e 1=VI p1/\e 11=VB s2) (λs2 a=>
 aL s2
 (Q (-1) a)
 (Q p1 a)))
 λb=>
 aL (Option.isNone p0)
 (b true H)
 (fQ p1 0 1 H λd c=>
 b (!d) c)
def lL {γ:Type} (c0:Addr) (c1:Addr) (Y:List Value->γ->PH->(Nat->γ->PH->Prop)->Prop) (g:γ) (H:PH) (Q:Nat->γ->PH->Prop):Prop:=
 bw (λ(s1:Int×(Nat×γ)) (c:PH) (e:(Int×(Nat×γ))->PH->Prop)=>
 aH Sl.v c c0 λl=>
 aL (decide (s1.1<(l.len:Int)))
 (aH (.int .i64) c c1 λf=>
 aH Sl.v c c0 λh=>
 kv h 1 s1.1 (h.len:Int) λb=>
 aH Sl.v c c0 λj=>
 U3 j 1 s1.1 (IntKind.wrap .i64 (s1.1+(if(b.len:Int)<f then(b.len:Int) else f))) (IntKind.wrap .i64 (s1.1+(if(b.len:Int)<f then(b.len:Int) else f))) λi=>
 uO Y s1.2 [Sl.v i] c λa d=>
 aL (!(a.1==0))
 (Q a.1 a.2 d)
 (aH (.int .i64) d c1 λk=>
 e (IntKind.wrap .i64 (s1.1+k),a) d))
 (Q s1.2.1 s1.2.2 c))
 (0,(0,g)) H
def gT (p0:Sl) (p1:Int) (H:PH) (Q:Value->PH->Prop):Prop:=
 aj H (row [Sl.v p0] 50) λa1 e=>
 aj e (row [VI p1] 3) λa c=>
 aH (.int .i64) c a λg=>
 aO (mK 1 (λh (f:Unit)=>h 2=VA a1/\h 3=VA a) (λf b=>
 Q (.func (.func 292) #[] #[.pointer (some a1),.pointer (some a)]) b))
 λd=>
 aL (decide (g< 1))
 (False)
 (d () c)
def qN (p0:Option Addr) (H:PH) (Q:Int->PH->Prop):Prop:=
 aP p0 λa1=>
 aH (.int .i64) H (a1.add 5) λr=>
 aP p0 λp=>
 aV H (p.add 5) ([VI (IntKind.wrap .i64 (r+1))]) λc=>
 aP p0 λq=>
 aH .bool c (q.add 6) λm=>
 aO (mK 6 (λs (b:Bool)=>s 0=VP p0/\s 10=VP p0/\s 21=VB b) (λb f=>
 aP p0 λh=>
 aV f (h.add 6) ([.bool b]) λa=>
 aP p0 λi=>
 aH .bool a (i.add 6) λn=>
 aL n
 (Q 3 a)
 (aP p0 λj=>
 aH (.int .i64) a (j.add 4) λe=>
 aP p0 λk=>
 aV a (k.add 4) ([VI (if(IntKind.wrap .i64 (e- 1))<(-1) then(-1) else(IntKind.wrap .i64 (e- 1)))]) λg=>
 Q 0 g)))
 λd=>
 aL m
 (d true c)
 (aP p0 λl=>
 aH (.int .i64) c (l.add 4) λo=>
 d (o==0) c)
def gB (p0:Option Addr) (p1:Int) (p2:Sl) (H:PH) (Q:Int->PH->Prop):Prop:=
 qM p0 p1 H λu H1=>
 aO (λ(s4:Bool) (j:PH)=>
 aL s4
 (Q 1 j)
 (qN p0 j λg c=>
 aL (g != 0)
 (Q g c)
 (aP p0 λe=>
 aH Sl.v c (e.add 2) λf=>
 TG p2 64 λk=>
 C6 c k 64 λb=>
 Sz b 64<|
 Sz (sB [[VI p1],b]) 65<|
 bZ c (row (sB [sB [[VI p1],b]]) 205) 1 λq d=>
 ay d (e.add 2) (Sl.v f)<|
 fh d 205 65 72 bp f q λr h=>
 aP p0 λl=>
 aV h (l.add 2) ([Sl.v r]) λa=>
 aP p0 λm=>
 aH Sl.v a (m.add 1) λs=>
 TG p2 64 λn=>
 C6 a n 64 λt=>
 bX s 64 p1 λo=>
 Ep a o 64 t λi=>
 Q 0 i)))
 λp=>
 aL (!u)
 (p true H1)
 (p ((p2.len:Int) != 64) H1)
def xn (p0:Option Addr) (p1:Int) (p2:Sl) (H:PH) (Q:Int->PH->Prop):Prop:=
 aj H (row [.pointer p0] 67) λa1 u=>
 aj u (row [VI p1] 3) λi w=>
 aj w (row [VI 0] 32) λd x=>
 gT p2 64 x λt k=>
 iX prog t (λ(j:List Value) (y:Unit) (a:PH) (g:Nat->Unit->PH->Prop)=>
 ∃(f:Sl),j=[Sl.v f]/\
 aH .pointer a a1 λo=>
 aH (.int .i64) a i λp=>
 gB o p f a λh b=>
 aL (h != 0)
 (aV b d ([VI h]) λl=>
 g 1 () l)
 (aH (.int .i64) b i λq=>
 aV b i ([VI (IntKind.wrap .i64 (q+1))]) λm=>
 g 0 () m)) () k λn z c=>
 aL (n==1)
 (aH (.int .i64) c d λs=>
 Q s c)
 (aV c d ([VI 0]) λe=>
 aH (.int .i64) e d λr=>
 Q r e)
def gC (p0:Option Addr) (H:PH) (Q:Int->PH->Prop):Prop:=
 aL (Option.isNone p0)
 (Q 1 H)
 (qN p0 H λs g=>
 aL (s != 0)
 (Q s g)
 (aP p0 λu=>
 aH Sl.v g (u.add 2) λf=>
 bw (mL (λt (e:Int)=>t 0=VP p0/\t 16=Sl.v f/\t 17=VI (f.len:Int)/\t 18=VI e) (λe c b=>
 aL (decide (e<(f.len:Int)))
 (bX f 65 e λk=>
 C6 c k 65 λo=>
 aj c (row bp 205) λd h=>
 Ep h d 65 o λa=>
 mP [0,1]<|
 aP p0 λl=>
 mP [2,3]<|
 aH Sl.v a (l.add 0) λp=>
 mP [4,5]<|
 aH (.int .i64) a (d.add 0) λq=>
 mP [6,7]<|
 C6 a (d.add 1) 64 λr=>
 mP [8]<|
 bX p 64 q λm=>
 mP [9]<|
 Ep a m 64 r λi=>
 b (IntKind.wrap .i64 (e+1)) i)
 (aP p0 λn=>
 aV c (n.add 2) ([Sl.v Sl.nil]) λj=>
 Q 0 j)))
 0 g))
def v9 (p0:Option Addr) (p1:yQ) (p2:Int) (H:PH) (Q:Int->Int->PH->Prop):Prop:=
 aj H (row (fZ p1) 25) λa1 H2=>
 aT fZ H2 a1 3 λx4=>
 qt x4 H2 λb y8 H6=>
 aO (mK 3 (λa (cr:Bool)=>a 0=VP p0/\a 2=VI p2/\a 4=VA a1/\a 8=VP b/\a 29=VB cr) (λcr s=>
 aO (mK 3 (λa (n:Bool)=>a 0=VP p0/\a 2=VI p2/\a 4=VA a1/\a 8=VP b/\a 33=VB n) (λn t=>
 aO (mK 3 (λa (o:Bool)=>a 0=VP p0/\a 2=VI p2/\a 4=VA a1/\a 8=VP b/\a 37=VB o) (λo u=>
 aO (mK 6 (λa (p:Bool)=>a 0=VP p0/\a 2=VI p2/\a 4=VA a1/\a 8=VP b/\a 44=VB p) (λp w=>
 aL p
 (Q 0 1 w)
 (sw p0 w λaK E ah=>
 aj ah (row [.slice none 0 0,.slice none 0 0] 227) λm ai=>
 aV ai m (uE aK) λi=>
 aL (E != 0)
 (Q 0 E i)
 (iH 2 m 1 0 λaA=>
 aH Sl.v i aA λaI=>
 iH 2 m 1 1 λaB=>
 aH Sl.v i aB λaJ=>
 sy aI aJ i λaM aY aZ ak=>
 aj ak (row gr 231) λz al=>
 aV al z (ag aM) λl=>
 aH (.int .i64) l (z.add 4) λe=>
 aT fZ l a1 3 λq=>
 nq (q.1,q.2.1,q.2.2,p2,IntKind.wrap .i64 (e+1)) l λaN F x=>
 aL (F != 0)
 (Q 0 F x)
 (xJ b (IntKind.wrap .i64 (e+1)) x λaP am=>
 mn b aP am λaQ G y=>
 aL (G != 0)
 (Q 0 G y)
 (uS b false y λaR an=>
 uS b true an λaS ao=>
 bZ ao (row [Sl.v aR,Sl.v aS] 239) 2 λaD ap=>
 fk aD ap λaU aq=>
 jr b 0 aq λaW ar=>
 jr b 1 ar λaX au=>
 fA b au λI av=>
 zA av 5 1 [.int .u8 0] (IntKind.wrap .i64 (64*I)) (IntKind.wrap .i64 (64*I)) λaE aw=>
 bZ aw (row [VI aW,Sl.v aQ,VI aX,Sl.v aE] 242) 2 λaF ax=>
 fh ax 242 2 32 [VI 0,.slice none 0 0] aU aF λaG ay=>
 aO (mK 1 (λa (d:Sl)=>a 0=VP p0/\a 6=VI (IntKind.wrap .i64 (e+1))/\a 15=Sl.v d) (λd az=>
 bw (mL (λa (c:Int×Int)=>a 0=VP p0/\a 6=VI c.1/\a 123=Sl.v d/\a 124=VI (d.len:Int)/\a 125=VI c.2) (λc f j=>
 aL (decide (c.2<(d.len:Int)))
 (bX d 2 c.2 λT=>
 aT YN f T 2 λY=>
 aj f (row [VI 0,.slice none 0 0] 242) λh J=>
 aV J h (YN Y) λg=>
 aH (.int .i64) g (h.add 0) λZ=>
 aH Sl.v g (h.add 1) λaa=>
 xn p0 Z aa g λr k=>
 aL (r != 0)
 (Q 0 r k)
 (j (c.1,IntKind.wrap .i64 (c.2+1)) k))
 (gC p0 f λab K=>
 Q c.1 ab K)))
 (IntKind.wrap .i64 (e+1),0) az))
 λaC=>
 mP [0,1,2,3,4,8,9,10,12]<|
 qk (sd 1 64 64)<|
 mV [] 5 [5,6]<|
 mH b (IntKind.wrap .i64 (1-(Int.tmod (IntKind.wrap .i64 (e+1)) 2))) ay λac L=>
 mV [] 11 [6,11]<|
 mH b (Int.tmod (IntKind.wrap .i64 (e+1)) 2) L λad M=>
 mP [13,6]<|
 lq M (row (cN (64:Int).toNat [.int .u8 0]) 5) 64 64 λU N=>
 mP [7,14]<|
 bZ N (row [VI ac,Sl.v U,VI ad,Sl.v aN] 242) 2 λV O=>
 mP [15]<|
 fh O 242 2 32 [VI 0,.slice none 0 0] aG V λX P=>
 mP [16]<|
 aC X P))))))
 λD=>
 aL o
 (D true u)
 (jw p0 u λae R=>
 jS b R λaf S=>
 D (decide (ae<af)) S)))
 λC=>
 aL n
 (C true t)
 (C (decide (2147483647<p2)) t)))
 λB=>
 aL cr
 (B true s)
 (B (decide (p2< 0)) s)))
 λA=>
 aL (Option.isNone p0)
 (A true H6)
 (A (y8 != 0) H6)
def wA (p0:Option Addr) (p1:yQ) (p2:Int) (H:PH) (Q:Int->PH->Prop):Prop:=
 aj H (row (fZ p1) 25) λa1 a=>
 aT fZ a a1 3 λc=>
 v9 p0 c p2 a λe d b=>
 Q d b
def oq (p0:Option Addr) (H:PH) (Q:Int->PH->Prop):Prop:=
 aP p0 λa1=>
 aH .pointer H (a1.add 0) λD=>
 sw D H λE A B=>
 aj B (row [.slice none 0 0,.slice none 0 0] 227) λi C=>
 aV C i (uE E) λa=>
 aL (A != 0)
 (Q A a)
 (iH 2 i 1 0 λl=>
 aH Sl.v a l λr=>
 iH 2 i 1 1 λm=>
 aH Sl.v a m λs=>
 sy r s a λw F h j=>
 aP p0 λn=>
 aV j (n.add 2) (ag w) λb=>
 aL (h != 0)
 (Q h b)
 (aP p0 λo=>
 aT fZ b ((o.add 2).add 0) 3 λt=>
 qt t b λx G k=>
 aP p0 λp=>
 aV k (p.add 1) ([.pointer x]) λc=>
 mP [0,1]<|
 aP p0 λq=>
 mP [2,3]<|
 aH .pointer c (q.add 0) λu=>
 mP [5,6]<|
 aP p0 λf=>
 mP [7,8]<|
 aH .pointer c (f.add 1) λg=>
 mP [4]<|
 jw u c λy d=>
 ay d (f.add 1) (.pointer g)<|
 mP [9]<|
 jS g d λz e=>
 mP [10]<|
 aL (decide (y<z))
 (Q 2 e)
 (Q 0 e)))
def pf (p0:Option Addr) (p1:Int) (p2:Int) (H:PH) (Q:Sl->Int->PH->Prop):Prop:=
 bw (mL (λg (s1:Sl×Int)=>g 0=VP p0/\g 1=VI p1/\g 6=Sl.v s1.1/\g 11=VI p2/\g 12=VI s1.2) (λs1 d a=>
 aL (decide (s1.2<p2))
 (aP p0 λh=>
 aH .pointer d (h.add 0) λi=>
 gm i (IntKind.wrap .i64 (p1+s1.2)) d λf c b=>
 aL (c != 0)
 (Q Sl.nil c b)
 (fh b 5 1 1 [.int .u8 0] s1.1 f λdp e=>
 a (dp,IntKind.wrap .i64 (s1.2+1)) e))
 (Q s1.1 0 d)))
 (Sl.nil,0) H
def cW (p0:Option Addr) (p1:Int) (H:PH) (Q:Int->PH->Prop):Prop:=
 aj H (row [.pointer p0] 367) λa1 a=>
 aH .pointer a (a1.add 0) λc=>
 cA c p1 a λd e b=>
 Q d b
def lD (p0:Option Addr) (p1:Int) (H:PH) (Q:Sl->PH->Prop):Prop:=
 aj H (row [.pointer p0] 367) λa1 f=>
 aT yN f a1 1 λk=>
 cW k 1 f λh j=>
 bw (mL (λi (a:Sl×Int)=>i 4=Sl.v a.1/\i 5=VI h/\i 9=VI p1/\i 10=VI a.2) (λa c b=>
 aL (decide (a.2<p1))
 (Fb a.2<|
 bZ c (row [VI (jd .i64 (gy .i64 h a.2) 1)] 3) 1 λdp d=>
 fh d 3 1 8 [VI 0] a.1 dp λg e=>
 b (g,IntKind.wrap .i64 (a.2+1)) e)
 (Q a.1 c)))
 (Sl.nil,0) j
def rT (p0:Option Addr) (p1:Sl) (H:PH) (Q:jq->Int->PH->Prop):Prop:=
 aj H (row lI 237) λa1 H2=>
 aL (Option.isNone p0)
 (aT bI H2 a1 14 λx5=>
 aV H2 a1 (bI x5) λH7=>
 aT bI H7 a1 14 λx9=>
 Q x9 1 H7)
 (mj p1 H2 λaQ ar=>
 aj ar (row [.pointer none] 367) λa au=>
 aV au a ([.pointer aQ]) λF=>
 aH .pointer F (a.add 0) λaI=>
 ft aI 2 F λa5 a6 t=>
 mP [0]<|
 aT yN t a 1 λaJ=>
 mP [2]<|
 aT yN t a 1 λM=>
 mP [1]<|
 cW aJ 4 t λaR G=>
 gQ G a 1 ([.pointer M])<|
 mP [4,3]<|
 cW M 4 G λaS av=>
 mP [5]<|
 aV av (a1.add 0) ([VI aR]) λaw=>
 mP [6,7]<|
 aV aw (a1.add 1) ([VI aS]) λI=>
 aT yN I a 1 λaK=>
 cW aK 1 I λaU ax=>
 aV ax (a1.add 2) ([VI aU]) λj=>
 mP [0]<|
 aT yN j a 1 λaM=>
 mP [2]<|
 aT yN j a 1 λN=>
 mP [4]<|
 aT yN j a 1 λB=>
 mP [1]<|
 cW aM 4 j λaW u=>
 gQ u a 1 ([.pointer B])<|
 gQ u a 1 ([.pointer N])<|
 mP [6,3]<|
 cW N 4 u λaX J=>
 gQ J a 1 ([.pointer B])<|
 mP [5]<|
 cW B 4 J λaY az=>
 mP [7]<|
 aV az (a1.add 3) ([VI aW]) λaA=>
 mP [8,9]<|
 aV aA (a1.add 4) ([VI aX]) λaB=>
 mP [10,11]<|
 aV aB (a1.add 5) ([VI aY]) λw=>
 mP [0]<|
 aT yN w a 1 λaN=>
 mP [2]<|
 aT yN w a 1 λO=>
 mP [1]<|
 cW aN 1 w λaZ K=>
 gQ K a 1 ([.pointer O])<|
 mP [4,5,3]<|
 cW O 1 K λa0 aC=>
 mP [6]<|
 aV aC ((a1.add 6).add 0) ([VI aZ]) λaD=>
 mP [7,8,9]<|
 aV aD ((a1.add 6).add 1) ([VI a0]) λk=>
 mP [0]<|
 aT yN k a 1 λaP=>
 mP [2]<|
 aT yN k a 1 λP=>
 mP [4]<|
 aT yN k a 1 λC=>
 mP [1]<|
 cW aP 4 k λa2 x=>
 gQ x a 1 ([.pointer C])<|
 gQ x a 1 ([.pointer P])<|
 mP [6,7,3]<|
 cW P 4 x λa3 L=>
 gQ L a 1 ([.pointer C])<|
 mP [5]<|
 cW C 4 L λa4 aE=>
 mP [8]<|
 aV aE ((a1.add 6).add 2) ([VI a2]) λaF=>
 mP [9,10,11]<|
 aV aF ((a1.add 6).add 3) ([VI a3]) λaG=>
 mP [12,13,14]<|
 aV aG ((a1.add 6).add 4) ([VI a4]) λy=>
 mP [0]<|
 aT yN y a 1 λR=>
 mP [1,4]<|
 aT yN y a 1 λl=>
 mP [5,2]<|
 eU p0 y λah e=>
 gQ e a 1 ([.pointer l])<|
 gQ e a 1 ([.pointer R])<|
 mP [3]<|
 lD R ah e λai m=>
 gQ m a 1 ([.pointer l])<|
 mP [8,6]<|
 eU p0 m λak n=>
 gQ n a 1 ([.pointer l])<|
 mP [7]<|
 lD l ak n λal S=>
 mP [9]<|
 aV S (a1.add 11) ([Sl.v ai]) λT=>
 mP [10,11]<|
 aV T (a1.add 12) ([Sl.v al]) λU=>
 dF p0 U λD V=>
 bw (mL (λE (c:Int)=>E 0=VP p0/\E 1=Sl.v p1/\E 4=VA a1/\E 6=VA a/\E 68=VI D.2.1/\E 69=VI c) (λc b h=>
 aL (decide (c<D.2.1))
 (mP [0,1]<|
 aH Sl.v b (a1.add 13) λd=>
 mP [2]<|
 aT yN b a 1 λac=>
 mP [4]<|
 aT yN b a 1 λA=>
 mP [3]<|
 cW ac 1 b λam f=>
 gQ f a 1 ([.pointer A])<|
 ay f (a1.add 13) (Sl.v d)<|
 mP [5]<|
 cW A 4 f λan o=>
 ay o (a1.add 13) (Sl.v d)<|
 mP [6,7]<|
 bZ o (row [VI am,VI an] 210) 1 λaa p=>
 ay p (a1.add 13) (Sl.v d)<|
 mP [8]<|
 fh p 210 2 16 [VI 0,VI 0] d aa λab X=>
 mP [9,10]<|
 aV X (a1.add 13) ([Sl.v ab]) λY=>
 h (IntKind.wrap .i64 (c+1)) Y)
 (aT bI b a1 14 λad=>
 mn p0 ad b λao ap q=>
 aO (mK 5 (λE (i:Bool)=>E 4=VA a1/\E 95=VB i) (λi g=>
 aL i
 (aV g a1 ([VI 0,VI 0,VI 0,VI 0,VI 0,VI 0,VI 0,VI 0,VI 0,VI 0,VI 0,Sl.v Sl.nil,Sl.v Sl.nil,Sl.v Sl.nil]) λr=>
 aT bI r a1 14 λae=>
 Q ae 2 r)
 (aT bI g a1 14 λaf=>
 aV g a1 (bI af) λs=>
 aT bI s a1 14 λag=>
 Q ag 0 s)))
 λz=>
 aL (ap != 0)
 (z true q)
 (jA ao p1 q λaq Z=>
 z (!aq) Z))))
 0 V)
def um (p0:Option Addr) (p1:Sl) (p2:Sl) (H:PH) (Q:jq->Int->Int->PH->Prop):Prop:=
 aj H (row lI 237) λa1 D=>
 rT p0 p1 D λG C E=>
 aj E (row lI 237) λf F=>
 aV F f (bI G) λo=>
 rT p0 p2 o λB d p=>
 aj p (row lI 237) λc q=>
 aV q c (bI B) λa=>
 aL (Option.isNone p0)
 (aV a a1 ([VI 0,VI 0,VI 0,VI 0,VI 0,VI 0,VI 0,VI 0,VI 0,VI 0,VI 0,Sl.v Sl.nil,Sl.v Sl.nil,Sl.v Sl.nil]) λi=>
 aT bI i a1 14 λs=>
 Q s 0 1 i)
 (aO (mK 10 (λe (g:Bool)=>e 6=VA a1/\e 9=VA f/\e 11=VA c/\e 12=VI d/\e 42=VB g) (λg b=>
 aL g
 (aT bI b f 14 λt=>
 aV b a1 (bI t) λj=>
 aT bI j a1 14 λu=>
 Q u 0 0 j)
 (aL (d==0)
 (aT bI b c 14 λw=>
 aV b a1 (bI w) λk=>
 aT bI k a1 14 λx=>
 Q x 1 0 k)
 (aV b a1 ([VI 0,VI 0,VI 0,VI 0,VI 0,VI 0,VI 0,VI 0,VI 0,VI 0,VI 0,Sl.v Sl.nil,Sl.v Sl.nil,Sl.v Sl.nil]) λl=>
 aT bI l a1 14 λy=>
 Q y 0 2 l))))
 λm=>
 aL (C==0)
 (aO (mK 6 (λe (h:Bool)=>e 6=VA a1/\e 9=VA f/\e 11=VA c/\e 12=VI d/\e 32=VB (C==0)/\e 41=VB h) (λh r=>
 m h r))
 λn=>
 aL (d != 0)
 (n true a)
 (aH (.int .i64) a (f.add 0) λz=>
 aH (.int .i64) a (c.add 0) λA=>
 n (decide (A<=z)) a))
 (m false a))
def xo (p0:Option Addr) (p1:Sl) (H:PH) (Q:Option Addr->PH->Prop):Prop:=
 dF p0 H λb H1=>
 aO (mK 10 (λa (s4:Bool)=>a 0=VP p0/\a 1=Sl.v p1/\a 5=VI b.2.1/\a 24=VB s4) (λs4 x=>
 aL s4
 (Q none x)
 (bw (mL (λa (d:Int)=>a 0=VP p0/\a 1=Sl.v p1/\a 5=VI b.2.1/\a 25=Sl.v p1/\a 26=VI (p1.len:Int)/\a 27=VI d) (λd h g=>
 aL (decide (d<(p1.len:Int)))
 (bX p1 2 d λC=>
 aT dx h C 2 λK=>
 aj h (row [VI 0,VI 0] 210) λc u=>
 aV u c (dx K) λe=>
 aH (.int .i64) e (c.add 0) λL=>
 aO (mK 4 (λa (k:Bool)=>a 0=VP p0/\a 1=Sl.v p1/\a 5=VI b.2.1/\a 7=VA c/\a 25=Sl.v p1/\a 26=VI (p1.len:Int)/\a 27=VI d/\a 38=VB k) (λk i=>
 aO (mK 4 (λa (l:Bool)=>a 0=VP p0/\a 1=Sl.v p1/\a 5=VI b.2.1/\a 7=VA c/\a 25=Sl.v p1/\a 26=VI (p1.len:Int)/\a 27=VI d/\a 43=VB l) (λl j=>
 aO (mK 4 (λa (m:Bool)=>a 0=VP p0/\a 1=Sl.v p1/\a 5=VI b.2.1/\a 25=Sl.v p1/\a 26=VI (p1.len:Int)/\a 27=VI d/\a 48=VB m) (λm o=>
 aL m
 (Q none o)
 (g (IntKind.wrap .i64 (d+1)) o)))
 λs=>
 aL l
 (s true j)
 (aH (.int .i64) j (c.add 1) λM=>
 s (decide (2147483647<M)) j)))
 λr=>
 aL k
 (r true i)
 (aH (.int .i64) i (c.add 1) λN=>
 r (decide (N< 0)) i)))
 λq=>
 aL (decide (L< 0))
 (q true e)
 (aH (.int .i64) e (c.add 0) λO=>
 q (decide (2<O)) e))
 (aO (mK 1 (λa (f:Option Addr)=>a 1=Sl.v p1/\a 8=VP f) (λf p=>
 aP f λD=>
 aH Sl.v p (D.add 1) λP=>
 nC p 2 P p1 λR w=>
 Q f w))
 λF=>
 mP [0,1,3]<|
 qk (sd 16 b.2.1 b.2.1)<|
 qk (sd 8 b.2.1 b.2.1)<|
 mV [] 2 [2,4]<|
 lq h (row (cN (b.2.1:Int).toNat [VI 0,VI 0]) 210) b.2.1 b.2.1 λI y=>
 mP [4]<|
 lq y (row (cN (b.2.1:Int).toNat [VI 0]) 3) b.2.1 b.2.1 λJ z=>
 mP [5,6]<|
 aj z (row [.pointer p0,Sl.v I,Sl.v J] 208) λE A=>
 mP [7]<|
 F (some E) A)))
 0 x)))
 λG=>
 aL (Option.isNone p0)
 (G true H1)
 (aO (mK 5 (λa (n:Bool)=>a 0=VP p0/\a 1=Sl.v p1/\a 5=VI b.2.1/\a 14=VB (Option.isNone p0)/\a 23=VB n) (λn B=>
 G n B))
 λt=>
 aL ((p1.len:Int) != 0)
 (t ((p1.len:Int) != b.2.1) H1)
 (t false H1))
def oa (p0:Int) (p1:Int) (p2:Int) (H:PH) (Q:Option Addr->PH->Prop):Prop:=
 aO (mK 3 (λa (s2:Bool)=>a 0=VI p0/\a 1=VI p1/\a 2=VI p2/\a 12=VB s2) (λs2 j=>
 aO (mK 3 (λa (e:Bool)=>a 0=VI p0/\a 1=VI p1/\a 2=VI p2/\a 16=VB e) (λe k=>
 aO (mK 3 (λa (b:Bool)=>a 0=VI p0/\a 1=VI p1/\a 2=VI p2/\a 20=VB b) (λb c=>
 aL b
 (Q none c)
 (mP [0,2,4,5,6,7,8,9,10]<|
 Ar p1<|
 qk (sd 1 (IntKind.wrap .i64 (Int.tdiv (IntKind.wrap .i64 ((IntKind.wrap .i64 (p0+p1))- 1)) p1)) (IntKind.wrap .i64 (Int.tdiv (IntKind.wrap .i64 ((IntKind.wrap .i64 (p0+p1))- 1)) p1)))<|
 mV [] 1 [1,11]<|
 bZ c (row [VI p2] 3) 1 λo f=>
 mV [] 3 [3,11]<|
 gw o p0 f λq g=>
 mP [11]<|
 lq g (row (cN (IntKind.wrap .i64 (Int.tdiv (IntKind.wrap .i64 ((IntKind.wrap .i64 (p0+p1))- 1)) p1):Int).toNat [.bool false]) 4) (IntKind.wrap .i64 (Int.tdiv (IntKind.wrap .i64 ((IntKind.wrap .i64 (p0+p1))- 1)) p1)) (IntKind.wrap .i64 (Int.tdiv (IntKind.wrap .i64 ((IntKind.wrap .i64 (p0+p1))- 1)) p1)) λp h=>
 mP [12,13]<|
 aj h (row [Sl.v q,VI p1,Sl.v p] 288) λl i=>
 mP [14]<|
 Q (some l) i)))
 λd=>
 aL e
 (d true k)
 (d (decide (65536<p1)) k)))
 λn=>
 aL s2
 (n true j)
 (n (decide (p1< 1)) j)))
 λm=>
 aL (decide (p0< 1))
 (m true H)
 (m (decide (65536<p0)) H)
def z6 (p0:Int) (H:PH) (Q:Option Addr->PH->Prop):Prop:=
 aO (mK 3 (λi (s2:Bool)=>i 0=VI p0/\i 8=VB s2) (λs2 b=>
 aL s2
 (Q none b)
 (oa p0 15 0 b λh f=>
 oa p0 15 (-1) f λe g=>
 aj g (row [.pointer h,.pointer e] 214) λc a=>
 Q (some c) a)))
 λd=>
 aL (decide (p0< 1))
 (d true H)
 (d (decide (64<p0)) H)
def oL (p0:Option Addr) (H:PH) (Q:Int->PH->Prop):Prop:=
 aj H (row [.slice none 0 0,.slice none 0 0] 227) λa1 H2=>
 bw (mL (λp (s4:Int)=>p 0=VP p0/\p 3=VA a1/\p 10=VI s4) (λs4 c g=>
 aL (decide (s4< 2))
 (mP [0,1,2]<|
 aP p0 λa9=>
 mP [3,4]<|
 aH .pointer c (a9.add 1) λP=>
 mP [5,7,8]<|
 aP p0 λk=>
 mP [9,10]<|
 aH .pointer c (k.add 1) λm=>
 mP [6]<|
 jr P s4 c λae h=>
 ay h (k.add 1) (.pointer m)<|
 mP [11]<|
 fA m h λaf u=>
 mP [12]<|
 pf p0 ae af u λag o i=>
 mP [13,14,15,16,17]<|
 aL (o != 0)
 (Q o i)
 (iH 2 a1 1 s4 λD=>
 aV i D ([Sl.v ag]) λw=>
 g (IntKind.wrap .i64 (s4+1)) w))
 (aO (mK 1 (λp (a:Addr×Int×Int)=>p 0=VP p0/\p 7=VA (a.1)/\p 8=VI a.2.1/\p 9=VI a.2.2) (λa e=>
 aL (a.2.2 != 0)
 (Q a.2.2 e)
 (aT bI e a.1 14 λR=>
 aP p0 λE=>
 aV e (E.add 7) (bI R) λx=>
 aP p0 λF=>
 aV x (F.add 21) ([VI a.2.1]) λb=>
 aH (.int .i64) b (a.1.add 2) λS=>
 aH (.int .i64) b (a.1.add 1) λT=>
 aH (.int .i64) b (a.1.add 3) λU=>
 aH (.int .i64) b (a.1.add 4) λV=>
 aH (.int .i64) b (a.1.add 5) λX=>
 aH (.int .i64) b (a.1.add 0) λY=>
 aP p0 λG=>
 aV b (G.add 24) ([VI S,VI T,VI U,VI V,VI X,VI 0,VI Y,VI 0,VI 0,VI 0]) λd=>
 mP [0,1,2,3]<|
 aP p0 λI=>
 mP [4,5]<|
 aH .pointer d (I.add 1) λZ=>
 mP [6,7]<|
 aH Sl.v d (a.1.add 13) λaa=>
 mP [9,10]<|
 aP p0 λl=>
 mP [11,12]<|
 aH .pointer d (l.add 1) λn=>
 mP [8]<|
 xo Z aa d λah j=>
 ay j (l.add 1) (.pointer n)<|
 mP [13]<|
 dF n j λai y=>
 mP [14,15]<|
 z6 ai.1 y λak z=>
 mP [16]<|
 aP p0 λJ=>
 mP [17,18]<|
 aV z (J.add 22) ([.pointer ah]) λA=>
 mP [19]<|
 aP p0 λK=>
 mP [20,21]<|
 aV A (K.add 23) ([.pointer ak]) λB=>
 Q 0 B)))
 λO=>
 mP [0,1]<|
 aP p0 λL=>
 mP [2,3]<|
 aH .pointer c (L.add 1) λab=>
 mP [4]<|
 iH 2 a1 1 0 λM=>
 mP [5]<|
 aH Sl.v c M λac=>
 mP [6]<|
 iH 2 a1 1 1 λN=>
 mP [7]<|
 aH Sl.v c N λad=>
 mV [] 8 [8,13]<|
 um ab ac ad c λal s t C=>
 mP [9,10,11,12,13]<|
 aj C (row lI 237) λf q=>
 mP [14]<|
 aV q f (bI al) λr=>
 mP [15,16]<|
 O (f,s,t) r)))
 0 H2
def xK (p0:Sl) (H:PH) (Q:Sl->Int->PH->Prop):Prop:=
 mj p0 H λj H1=>
 bw (mL (λb (a:Sl×Int)=>b 0=Sl.v p0/\b 2=Sl.v a.1/\b 4=VP j/\b 11=VI a.2) (λa o c=>
 aL (decide (a.2< 15))
 (cA j 4 o λw x p=>
 aO (mK 1 (λb (d:Int)=>b 0=Sl.v p0/\b 2=Sl.v a.1/\b 4=VP j/\b 5=VI d/\b 11=VI a.2) (λd k=>
 bZ k (row [VI d] 3) 1 λq l=>
 fh l 3 1 8 [VI 0] a.1 q λr m=>
 c (r,IntKind.wrap .i64 (a.2+1)) m))
 λh=>
 aL (w==4294967295)
 (h (-1) p)
 (h w p))
 (pR a.1 o λs t f=>
 aO (mK 5 (λb (e:Bool)=>b 2=Sl.v a.1/\b 37=VB e) (λe g=>
 aL e
 (Q Sl.nil 2 g)
 (Q a.1 0 g)))
 λi=>
 aL (t != 0)
 (i true f)
 (jA s p0 f λu n=>
 i (!u) n))))
 (Sl.nil,0) H1
def cv (p0:Option Addr) (p1:Bool) (H:PH) (Q:Option Addr->PH->Prop):Prop:=
 aL (Option.isNone p0)
 (Q none H)
 (aL p1
 (aP p0 λa=>
 aH .pointer H (a.add 1) λc=>
 Q c H)
 (aP p0 λb=>
 aH .pointer H (b.add 0) λd=>
 Q d H))
def jx (p0:Option Addr) (H:PH) (Q:Int->PH->Prop):Prop:=
 aL (Option.isNone p0)
 (Q 0 H)
 (aP p0 λa=>
 aH Sl.v H (a.add 2) λb=>
 Q (b.len:Int) H)
def lx (p0:Option Addr) (p1:Int) (H:PH) (Q:Sl->PH->Prop):Prop:=
 aO (mK 5 (λn (s2:Bool)=>n 0=VP p0/\n 1=VI p1/\n 12=VB s2) (λs2 a=>
 aL s2
 (Q Sl.nil a)
 (mP [0,1]<|
 aP p0 λl=>
 mP [2,3]<|
 aH Sl.v a (l.add 0) λm=>
 mP [4,5,6]<|
 aP p0 λe=>
 mP [7,8]<|
 aH (.int .i64) a (e.add 1) λj=>
 mP [9,10,11,12,13]<|
 aP p0 λf=>
 mP [14,15]<|
 aH (.int .i64) a (f.add 1) λb=>
 mP [16,17,18]<|
 aP p0 λg=>
 mP [19,20]<|
 aH Sl.v a (g.add 0) λc=>
 mP [21,22,23]<|
 kv m 1 (IntKind.wrap .i64 (p1*j)) (if(c.len:Int)<(IntKind.wrap .i64 ((IntKind.wrap .i64 (p1+1))*b)) then(c.len:Int) else(IntKind.wrap .i64 ((IntKind.wrap .i64 (p1+1))*b))) λi=>
 mP [24]<|
 Q i a)))
 λh=>
 aL (decide (p1< 0))
 (h true H)
 (jx p0 H λk d=>
 h (decide (k<=p1)) d)
def df (p0:Sl) (H:PH) (Q:Sl->PH->Prop):Prop:=
 aL (Option.isNone p0.a)
 (Q Sl.nil H)
 (bZ H (row [] 3) 0 λd b=>
 fh b 3 1 8 [VI 0] d p0 λr5 c=>
 Q r5 c)
def jG (p0:Option Addr) (p1:Int) (H:PH) (Q:Sl->PH->Prop):Prop:=
 lx p0 p1 H λb H1=>
 df b H1 λc a=>
 Q c a
def ns (p0:Option Addr) (p1:Bool) (p2:Int) (H:PH) (Q:Sl->PH->Prop):Prop:=
 cv p0 p1 H λb H1=>
 jG b p2 H1 λc a=>
 Q c a
def ot (p0:Option Addr) (p1:Int) (H:PH) (Q:Int->Int->Bool->PH->Prop):Prop:=
 aO (mK 9 (λo (s2:Bool)=>o 0=VP p0/\o 1=VI p1/\o 18=VB s2) (λs2 g=>
 aL s2
 (Q 0 0 false g)
 (lJ p0 g λm c=>
 mP [0,1,2]<|
 aP p0 λn=>
 mP [3,4,5]<|
 aH (.int .i64) c ((n.add 0).add 2) λa=>
 mP [6]<|
 Ar a<|
 mP [7,8,9]<|
 aP p0 λh=>
 mP [10,11,12]<|
 aH (.int .i64) c ((h.add 0).add 2) λb=>
 mP [13]<|
 Ar b<|
 mP [14,15,16]<|
 Q (IntKind.wrap .i64 (Int.tdiv (IntKind.wrap .i64 (p1-m)) a)) (Int.tmod (IntKind.wrap .i64 (p1-m)) b) true c)))
 λi=>
 aL (Option.isNone p0)
 (i true H)
 (lJ p0 H λj d=>
 jS p0 d λk e=>
 fQ p1 j (IntKind.wrap .i64 (k- 1)) e λl f=>
 i (!l) f)
def pj (p0:Option Addr) (p1:Int) (H:PH) (Q:Bool->PH->Prop):Prop:=
 aP p0 λa1=>
 aH .pointer H (a1.add 1) λd=>
 ot d p1 H λf g e c=>
 aO (mK 3 (λh (cr:Bool)=>h 22=VB cr) (λcr b=>
 Q cr b))
 λa=>
 aL e
 (a true c)
 (a (decide (p1< 1)) c)
def vS (p0:Int) (c0:Addr) (H:PH) (Q:Bool->PH->Prop):Prop:=
 aH .pointer H c0 λb=>
 pj b p0 H λc a=>
 Q (!c) a
def jH (p0:Option Addr) (p1:Int) (p2:Sl) (H:PH) (Q:Bool->PH->Prop):Prop:=
 lx p0 p1 H λa H1=>
 aO (mK 6 (λi (s4:Bool)=>i 0=VP p0/\i 1=VI p1/\i 2=Sl.v p2/\i 7=Sl.v a/\i 20=VB s4) (λs4 d=>
 aL s4
 (Q false d)
 (nC d 1 a p2 λj b=>
 aP p0 λe=>
 aH Sl.v b (e.add 2) λh=>
 bX h 1 p1 λf=>
 aV b f ([.bool false]) λc=>
 Q true c)))
 λg=>
 aL ((a.len:Int)==0)
 (g true H1)
 (g ((p2.len:Int) != (a.len:Int)) H1)
def qu (p0:Option Addr) (p1:Bool) (p2:Int) (p3:Sl) (H:PH) (Q:Bool->PH->Prop):Prop:=
 cv p0 p1 H λh H1=>
 jG h p2 H1 λe q=>
 aO (mK 5 (λa (o:Bool)=>a 1=VB p1/\a 2=VI p2/\a 3=Sl.v p3/\a 9=VP h/\a 10=VI 0/\a 11=VI (e.len:Int)/\a 28=VB o) (λo n=>
 aL o
 (Q false n)
 (aO (mK 1 (λa (d:Int)=>a 2=VI p2/\a 3=Sl.v p3/\a 9=VP h/\a 10=VI d/\a 11=VI (e.len:Int)) (λd p=>
 kv p3 1 0 (e.len:Int) λb=>
 bw (mL (λa (c:Int)=>a 2=VI p2/\a 3=Sl.v p3/\a 9=VP h/\a 10=VI d/\a 11=VI (e.len:Int)/\a 32=Sl.v b/\a 33=VI (b.len:Int)/\a 34=VI c) (λc f g=>
 aL (decide (c<(b.len:Int)))
 (bX b 1 c λs=>
 aH (.int .i64) f s λm=>
 aO (mK 3 (λa (i:Bool)=>a 2=VI p2/\a 3=Sl.v p3/\a 9=VP h/\a 10=VI d/\a 11=VI (e.len:Int)/\a 32=Sl.v b/\a 33=VI (b.len:Int)/\a 34=VI c/\a 44=VB i) (λi j=>
 aL i
 (Q false j)
 (g (IntKind.wrap .i64 (c+1)) j)))
 λl=>
 aL (decide (m<d))
 (l true f)
 (l (decide (4096<=m)) f))
 (kv p3 1 0 (e.len:Int) λu=>
 jH h p2 u f λw r=>
 Q w r)))
 0 p))
 λk=>
 aL p1
 (k (-1) n)
 (k 0 n))))
 λt=>
 aL ((e.len:Int)==0)
 (t true q)
 (t (decide ((p3.len:Int)<(e.len:Int))) q)
def ly (p0:Option Addr) (p1:Bool) (p2:Sl) (H:PH) (Q:Int->PH->Prop):Prop:=
 aj H (row [.pointer p0] 245) λa1 K=>
 bw (mL (λd (s4:Int)=>d 1=VB p1/\d 3=VA a1/\d 12=Sl.v p2/\d 13=VI (p2.len:Int)/\d 14=VI s4) (λs4 a f=>
 aL (decide (s4<(p2.len:Int)))
 (bX p2 1 s4 λL=>
 aH (.int .i64) a L λw=>
 mP [0]<|
 aH .pointer a a1 λm=>
 mP [1]<|
 aP m λj=>
 mP [2,3]<|
 aH .pointer a (j.add 0) λn=>
 mP [4]<|
 aH .pointer a a1 λx=>
 mP [5]<|
 aP x λs=>
 mP [6,7]<|
 aH .pointer a (s.add 1) λy=>
 mP [8,9,10,11]<|
 lK y p1 s4 w a λD e=>
 ay e (j.add 0) (.pointer n)<|
 ay e a1 (.pointer m)<|
 mP [12]<|
 gm n D e λE o h=>
 mP [13,14,15,16,17]<|
 aL (o != 0)
 (Q o h)
 (xK E h λF p b=>
 aL (p != 0)
 (Q p b)
 (aH .pointer b a1 λz=>
 aP z λt=>
 aH .pointer b (t.add 23) λA=>
 ns A p1 s4 b λG q=>
 kv F 1 0 (G.len:Int) λl=>
 dM l (.func (.func 249) #[] #[.pointer (some a1)]) q λI c=>
 aO (mK 10 (λd (g:Bool)=>d 1=VB p1/\d 3=VA a1/\d 12=Sl.v p2/\d 13=VI (p2.len:Int)/\d 14=VI s4/\d 69=VB g) (λg i=>
 aL g
 (Q 2 i)
 (f (IntKind.wrap .i64 (s4+1)) i)))
 λk=>
 aL I
 (k true c)
 (aH .pointer c a1 λB=>
 aP B λu=>
 aH .pointer c (u.add 23) λC=>
 qu C p1 s4 l c λJ r=>
 k (!J) r))))
 (Q 0 a)))
 0 K
def z7 (p0:Option Addr) (p1:Option Addr) (p2:iV) (H:PH) (Q:Option Addr->PH->Prop):Prop:=
 aj H (row (ag p2) 185) λa1 e=>
 aO (mK 3 (λh (s5:Bool)=>h 0=VP p0/\h 1=VP p1/\h 5=VA a1/\h 12=VB s5) (λs5 c=>
 aL s5
 (Q none c)
 (aT ag c a1 5 λa=>
 aT ag c a1 5 λb=>
 aj c (row [.pointer p0,.pointer p1,VI a.1,VI a.2.1,VI a.2.2.1,VI a.2.2.2.1,VI a.2.2.2.2,VI b.1,VI b.2.1,VI b.2.2.1,VI b.2.2.2.1,VI b.2.2.2.2,VI 0] 346) λf d=>
 Q (some f) d)))
 λg=>
 aL (Option.isNone p0)
 (g true e)
 (g (Option.isNone p1) e)
def Bv (p0:Option Addr) (p1:Option Addr) (p2:iV) (H:PH) (Q:Option Addr->PH->Prop):Prop:=
 aj H (row (ag p2) 185) λa1 e=>
 aO (mK 3 (λh (s5:Bool)=>h 0=VP p0/\h 1=VP p1/\h 5=VA a1/\h 12=VB s5) (λs5 c=>
 aL s5
 (Q none c)
 (aT ag c a1 5 λa=>
 aT ag c a1 5 λb=>
 aj c (row [.pointer p0,.pointer p1,VI a.1,VI a.2.1,VI a.2.2.1,VI a.2.2.2.1,VI a.2.2.2.2,.bool false,VI b.1,VI b.2.1,VI b.2.2.1,VI b.2.2.2.1,VI b.2.2.2.2,VI 0] 325) λf d=>
 Q (some f) d)))
 λg=>
 aL (Option.isNone p0)
 (g true e)
 (g (Option.isNone p1) e)
def gO (p0:Option Addr) (p1:Int) (H:PH) (Q:Int->PH->Prop):Prop:=
 mm p0 p1 H λd H1=>
 aL (!d)
 (Q (-1) H1)
 (mP [0,2,3,4]<|
 aP p0 λb=>
 mP [5,6,7]<|
 aH (.int .i64) H1 ((b.add 0).add 2) λc=>
 mP [8,1]<|
 lJ p0 H1 λe a=>
 ay a ((b.add 0).add 2) (VI c)<|
 mP [9,10]<|
 Q (IntKind.wrap .i64 (e+(IntKind.wrap .i64 (p1*c)))) a)
def lM (p0:Option Addr) (p1:Int) (H:PH) (Q:Sl->Bool->PH->Prop):Prop:=
 aP p0 λa1=>
 aH .pointer H (a1.add 0) λf=>
 gm f p1 H λg h d=>
 aP p0 λe=>
 aV d (e.add 13) ([VI h]) λa=>
 mP [0,1,2]<|
 aP p0 λb=>
 mP [3,4]<|
 aH (.int .i64) a (b.add 13) λc=>
 mP [5,6,7]<|
 Q g (c==0) a
def pS (p0:Int) (p1:Int) (p2:Int) (H:PH) (Q:Bool->PH->Prop):Prop:=
 aO (mK 4 (λc (s2:Bool)=>c 14=VB s2) (λs2 b=>
 Q s2 b))
 λa=>
 aL (decide (p1<=p0))
 (a (decide (p0<=p2)) H)
 (a false H)
def Bw (p0:xl) (H:PH) (Q:Bool->PH->Prop):Prop:=
 aj H (row (dG p0) 330) λa1 k=>
 aH (.int .i64) k (a1.add 0) λv=>
 pS v 0 31 k λw h=>
 aO (mK 4 (λj (i:Bool)=>j 1=VA a1/\j 10=VB i) (λi a=>
 aO (mK 4 (λj (c:Bool)=>j 1=VA a1/\j 15=VB c) (λc b=>
 aO (mK 4 (λj (d:Bool)=>j 20=VB d) (λd l=>
 Q d l))
 λg=>
 aL c
 (aH (.int .i64) b (a1.add 3) λp=>
 pS p 0 4294967295 b λs m=>
 g s m)
 (g false b)))
 λf=>
 aL i
 (aH (.int .i64) a (a1.add 2) λq=>
 pS q 1 2147483647 a λt n=>
 f t n)
 (f false a)))
 λe=>
 aL w
 (aH (.int .i64) h (a1.add 1) λr=>
 pS r 1 2147483647 h λu o=>
 e u o)
 (e false h)
def rj (p0:xl) (H:PH) (Q:Sl->Int->PH->Prop):Prop:=
 aj H (row (dG p0) 330) λa1 d=>
 aT dG d a1 4 λs=>
 Bw s d λt i=>
 aL (!t)
 (Q Sl.nil 1 i)
 (ri 64 i λb j=>
 aH (.int .i64) j (a1.add 0) λm=>
 bZ j (row [VI 75,VI 72,VI m] 3) 3 λk c=>
 cM b 1 k c λu a=>
 aH (.int .i64) a (a1.add 1) λn=>
 aH (.int .i64) a (a1.add 2) λo=>
 aH (.int .i64) a (a1.add 3) λp=>
 bZ a (row [VI n,VI o,VI p] 3) 3 λl e=>
 cM b 4 l e λv f=>
 iB b f λq g=>
 nk q g λr h=>
 Q r 0 h)
def uT (p0:Sl) (H:PH) (Q:xl->Int->PH->Prop):Prop:=
 aj H (row uQ 330) λa1 A=>
 mj p0 A λc B=>
 ft c 2 B λK L C=>
 cA c 1 C λt E D=>
 aV D (a1.add 0) ([VI t]) λi=>
 cA c 4 i λu F j=>
 aV j (a1.add 1) ([VI u]) λk=>
 cA c 4 k λv G l=>
 aV l (a1.add 2) ([VI v]) λm=>
 cA c 4 m λw I n=>
 aV n (a1.add 3) ([VI w]) λd=>
 aT dG d a1 4 λp=>
 rj p d λx y e=>
 aO (mK 5 (λJ (b:Bool)=>J 2=VA a1/\J 47=VB b) (λb a=>
 aL b
 (aV a a1 (uQ) λf=>
 aT dG f a1 4 λq=>
 Q q 2 f)
 (aT dG a a1 4 λr=>
 aV a a1 (dG r) λg=>
 aT dG g a1 4 λs=>
 Q s 0 g)))
 λh=>
 aL (y != 0)
 (h true e)
 (jA x p0 e λz o=>
 h (!z) o)
def z8 (p0:Sl) (p1:iV) (H:PH) (Q:Bool->PH->Prop):Prop:=
 aj H (row (ag p1) 185) λa1 x=>
 uT p0 x λA B y=>
 aj y (row uQ 330) λa z=>
 aV z a (dG A) λb=>
 aO (mK 6 (λf (g:Bool)=>f 3=VA a1/\f 5=VA a/\f 20=VB g) (λg c=>
 aO (mK 6 (λf (h:Bool)=>f 3=VA a1/\f 5=VA a/\f 27=VB h) (λh d=>
 aO (mK 6 (λf (i:Bool)=>f 3=VA a1/\f 5=VA a/\f 34=VB i) (λi e=>
 aO (mK 6 (λf (j:Bool)=>f 41=VB j) (λj o=>
 Q j o))
 λn=>
 aL i
 (aH (.int .i64) e (a.add 1) λp=>
 aH (.int .i64) e (a1.add 4) λq=>
 n (decide (q<=p)) e)
 (n false e)))
 λm=>
 aL h
 (aH (.int .i64) d (a.add 3) λr=>
 aH (.int .i64) d (a1.add 3) λs=>
 m (r==s) d)
 (m false d)))
 λl=>
 aL g
 (aH (.int .i64) c (a.add 2) λt=>
 aH (.int .i64) c (a1.add 2) λu=>
 l (t==u) c)
 (l false c)))
 λk=>
 aL (B==0)
 (aH (.int .i64) b (a.add 0) λv=>
 aH (.int .i64) b (a1.add 0) λw=>
 k (v==w) b)
 (k false b)
def sP (p0:Option Addr) (H:PH) (Q:iV->Bool->PH->Prop):Prop:=
 aj H (row gr 185) λa1 M=>
 aP p0 λa4=>
 aT ag M (a4.add 2) 5 λx6=>
 aV M a1 (ag x6) λH8=>
 aP p0 λT=>
 aV H8 (T.add 13) ([VI 0]) λk=>
 mP [0,1]<|
 aP p0 λU=>
 mP [2,3]<|
 aH .pointer k (U.add 1) λZ=>
 mP [4,5]<|
 aH (.int .i64) k (a1.add 0) λaa=>
 mP [6]<|
 mm Z aa k λaq l=>
 mP [7,8]<|
 aO (mQ 8191 [10] (λb (n:Bool)=>b 0=VP p0/\b 2=VA a1/\b 26=VB n) (λn h=>
 mP [13]<|
 aO (mQ 16777215 [19,15,10] (λb (o:Bool)=>b 0=VP p0/\b 2=VA a1/\b 37=VB o) (λo a=>
 aL o
 (aT ag a a1 5 λab=>
 aV a a1 (ag ab) λr=>
 aT ag r a1 5 λac=>
 Q ac false r)
 (aH (.int .i64) a (a1.add 1) λad=>
 aL (decide (0<ad))
 (aT ag a a1 5 λae=>
 aV a a1 (ag ae) λs=>
 aT ag s a1 5 λaf=>
 Q af true s)
 (mP [0,1,2]<|
 aP p0 λV=>
 mP [3,4]<|
 aH .pointer a (V.add 1) λah=>
 mP [5,6]<|
 aH (.int .i64) a (a1.add 0) λai=>
 mP [7]<|
 gO ah ai a λar N=>
 mP [8]<|
 lM p0 ar N λq au O=>
 mP [9,10,11,12,13]<|
 uT q O λav aw P=>
 aj P (row uQ 330) λc R=>
 aV R c (dG av) λt=>
 aO (mK 3 (λb (i:Bool)=>b 0=VP p0/\b 2=VA a1/\b 4=Sl.v q/\b 5=VA c/\b 64=VB i) (λi e=>
 aO (mK 10 (λb (f:Bool)=>b 2=VA a1/\b 5=VA c/\b 75=VB f) (λf d=>
 aO (mK 1 (λb (Y:Unit)=>b 2=VA a1/\b 3=VB f) (λY u=>
 aT ag u a1 5 λak=>
 aV u a1 (ag ak) λw=>
 aT ag w a1 5 λal=>
 Q al f w))
 λB=>
 aL f
 (aH (.int .i64) d (a1.add 0) λam=>
 aH (.int .i64) d (c.add 2) λan=>
 aH (.int .i64) d (c.add 3) λao=>
 aH (.int .i64) d (c.add 1) λap=>
 aV d a1 ([VI am,VI 1,VI an,VI ao,VI ap]) λS=>
 B () S)
 (B () d)))
 λA=>
 aL i
 (aP p0 λX=>
 aH .bool e (X.add 7) λF=>
 aO (mK 4 (λb (g:Bool)=>b 2=VA a1/\b 5=VA c/\b 65=VB i/\b 74=VB g) (λg C=>
 A g C))
 λm=>
 aL F
 (m true e)
 (aT ag e a1 5 λG=>
 z8 q G e λK D=>
 m K D))
 (A false e)))
 λz=>
 aL au
 (z (aw==0) t)
 (z false t)))))
 λy=>
 aL n
 (mP [14,15,16,17,18,19,20,21,22,23]<|
 y true h)
 (mP [14,15]<|
 aH (.int .i64) h (a1.add 1) λp=>
 mP [16,17]<|
 aP p0 λE=>
 mP [18,19]<|
 aH .pointer h (E.add 1) λI=>
 mP [20]<|
 dF I h λL j=>
 ay j (a1.add 1) (VI p)<|
 mP [21,22,23]<|
 y (decide (L.2.2<=p)) j)))
 λx=>
 aL (!aq)
 (mP [9,10,11,12]<|
 x true l)
 (mP [9,10]<|
 aH (.int .i64) l (a1.add 1) λJ=>
 mP [11,12]<|
 x (decide (J< 0)) l)
def kl (p0:Int) (p1:Int) (p2:Int) (H:PH) (Q:Bool->PH->Prop):Prop:=
 aO (mK 4 (λc (s2:Bool)=>c 14=VB s2) (λs2 b=>
 Q s2 b))
 λa=>
 aL (decide (p1<=p0))
 (a (decide (p0<=p2)) H)
 (a false H)
def qO (p0:Option Addr) (H:PH) (Q:Int->Int->Bool->PH->Prop):Prop:=
 ft p0 2 H λt u H1=>
 ft p0 12 H1 λv w r=>
 cA p0 1 r λb x s=>
 cA p0 1 s λa p d=>
 aO (mK 4 (λc (e:Bool)=>c 2=VI b/\c 3=VI a/\c 24=VI b/\c 25=VI a/\c 31=VB e) (λe h=>
 aO (mK 3 (λc (f:Bool)=>c 2=VI b/\c 3=VI a/\c 24=VI b/\c 25=VI a/\c 35=VB f) (λf i=>
 aO (mK 4 (λc (g:Bool)=>c 24=VI b/\c 25=VI a/\c 40=VB g) (λg m=>
 Q b a g m))
 λl=>
 aL f
 (l (decide (a<=b)) i)
 (l false i)))
 λk=>
 aL e
 (kl b 1 6 h λq n=>
 k q n)
 (k false h)))
 λj=>
 aL p
 (TQ d t λo=>
 j (o.toList==(⟨#[75,82]⟩:ByteArray).toList) d)
 (j false d)
def xL (p0:Sl) (H:PH) (Q:Int->PH->Prop):Prop:=
 mj p0 H λf H1=>
 qO f H1 λi e g c=>
 aO (mK 4 (λh (b:Bool)=>h 4=VI e/\h 19=VB b) (λb a=>
 aL b
 (Q 0 a)
 (Q (IntKind.wrap .i64 (1+e)) a)))
 λd=>
 aL (!g)
 (d true c)
 (d ((p0.len:Int) != 64) c)
def nN (p0:Int) (p1:Int) (p2:Int) (H:PH) (Q:Bool->PH->Prop):Prop:=
 aO (mK 4 (λc (s2:Bool)=>c 14=VB s2) (λs2 b=>
 Q s2 b))
 λa=>
 aL (decide (p1<=p0))
 (a (decide (p0<=p2)) H)
 (a false H)
def vE (p0:xl) (H:PH) (Q:Bool->PH->Prop):Prop:=
 aj H (row (dG p0) 196) λa1 N=>
 aH (.int .i64) N (a1.add 1) λx4=>
 nN x4 0 63 N λu J=>
 aH (.int .i64) J (a1.add 0) λc=>
 aO (mK 1 (λb (cr:Bool)=>b 1=VA a1/\b 3=VB u/\b 8=VI c/\b 9=VB cr) (λcr d=>
 aL cr
 (aO (mK 4 (λb (j:Bool)=>b 1=VA a1/\b 17=VB j) (λj e=>
 aO (mK 4 (λb (k:Bool)=>b 22=VB k) (λk O=>
 Q k O))
 λx=>
 aL j
 (aH (.int .i64) e (a1.add 3) λY=>
 x (Y==0) e)
 (x false e)))
 λw=>
 aL u
 (aH (.int .i64) d (a1.add 2) λZ=>
 w (Z==0) d)
 (w false d))
 (aO (mK 1 (λb (l:Bool)=>b 1=VA a1/\b 3=VB u/\b 8=VI c/\b 23=VB l) (λl a=>
 aL l
 (aO (mK 7 (λb (m:Bool)=>b 1=VA a1/\b 34=VB m) (λm f=>
 aO (mK 4 (λb (n:Bool)=>b 39=VB n) (λn P=>
 Q n P))
 λA=>
 aL m
 (aH (.int .i64) f (a1.add 3) λaa=>
 A (aa==0) f)
 (A false f)))
 λz=>
 aL u
 (aH (.int .i64) a (a1.add 2) λab=>
 aH (.int .i64) a (a1.add 1) λac=>
 nN ab 1 (IntKind.wrap .i64 (64-ac)) a λak R=>
 z ak R)
 (z false a))
 (aL (c==3)
 (aH (.int .i64) a (a1.add 1) λad=>
 aO (mK 4 (λb (o:Bool)=>b 1=VA a1/\b 49=VB o) (λo g=>
 aO (mK 4 (λb (p:Bool)=>b 54=VB p) (λp S=>
 Q p S))
 λC=>
 aL o
 (aH (.int .i64) g (a1.add 3) λae=>
 nN ae 1 2147483647 g λal T=>
 C al T)
 (C false g)))
 λB=>
 aL (ad==0)
 (aH (.int .i64) a (a1.add 2) λaf=>
 B (af==0) a)
 (B false a))
 (aL (c==4)
 (aO (mK 4 (λb (q:Bool)=>b 1=VA a1/\b 62=VB q) (λq h=>
 aO (mK 4 (λb (r:Bool)=>b 67=VB r) (λr U=>
 Q r U))
 λE=>
 aL q
 (aH (.int .i64) h (a1.add 3) λag=>
 nN ag 1 4095 h λam V=>
 E am V)
 (E false h)))
 λD=>
 aL u
 (aH (.int .i64) a (a1.add 2) λah=>
 D (ah==0) a)
 (D false a))
 (aL (c==7)
 (aH (.int .i64) a (a1.add 1) λai=>
 aO (mK 4 (λb (s:Bool)=>b 1=VA a1/\b 77=VB s) (λs i=>
 aO (mK 4 (λb (t:Bool)=>b 82=VB t) (λt X=>
 Q t X))
 λG=>
 aL s
 (aH (.int .i64) i (a1.add 3) λK=>
 nN K 0 31 i λM I=>
 G M I)
 (G false i)))
 λF=>
 aL (ai==0)
 (aH (.int .i64) a (a1.add 2) λL=>
 F (L==0) a)
 (F false a))
 (Q false a))))))
 λy=>
 aL (c==2)
 (y (c==2) d)
 (y (c==6) d))))
 λv=>
 aL (c==1)
 (v (c==1) J)
 (v (c==5) J)
def rk (p0:Sl) (H:PH) (Q:Sl->Int->PH->Prop):Prop:=
 aL (decide (6<(p0.len:Int)))
 (Q Sl.nil 1 H)
 (ri (IntKind.wrap .i64 (7*(p0.len:Int))) H λd y=>
 bw (mL (λx (s4:Int)=>x 4=VP d/\x 14=Sl.v p0/\x 15=VI (p0.len:Int)/\x 16=VI s4) (λs4 g c=>
 aL (decide (s4<(p0.len:Int)))
 (bX p0 4 s4 λz=>
 aT dG g z 4 λo=>
 aj g (row uQ 196) λa h=>
 aV h a (dG o) λe=>
 aT dG e a 4 λp=>
 vE p e λu b=>
 aL (!u)
 (Q Sl.nil 1 b)
 (aH (.int .i64) b (a.add 0) λq=>
 aH (.int .i64) b (a.add 1) λr=>
 aH (.int .i64) b (a.add 2) λs=>
 bZ b (row [VI q,VI r,VI s] 3) 3 λm i=>
 cM d 1 m i λA f=>
 aH (.int .i64) f (a.add 3) λt=>
 bZ f (row [VI t] 3) 1 λn j=>
 cM d 4 n j λB k=>
 c (IntKind.wrap .i64 (s4+1)) k))
 (iB d g λw l=>
 Q w 0 l)))
 0 y)
def xM (p0:Sl) (H:PH) (Q:Sl->Int->PH->Prop):Prop:=
 mj p0 H λc H1=>
 bw (mL (λf (b:Sl)=>f 0=Sl.v p0/\f 2=Sl.v b/\f 4=VP c) (λb z d=>
 aO (mK 4 (λf (l:Bool)=>f 0=Sl.v p0/\f 2=Sl.v b/\f 4=VP c/\f 17=VB l) (λl g=>
 aL l
 (aj g (row uQ 196) λa m=>
 cA c 1 m λE N n=>
 aV n (a.add 0) ([VI E]) λo=>
 cA c 1 o λF O p=>
 aV p (a.add 1) ([VI F]) λq=>
 cA c 1 q λG P r=>
 aV r (a.add 2) ([VI G]) λs=>
 cA c 4 s λI R t=>
 aV t (a.add 3) ([VI I]) λh=>
 aT dG h a 4 λD=>
 bZ h (row (dG D) 196) 1 λB u=>
 fh u 196 4 32 uQ b B λC w=>
 d C w)
 (rk b g λJ K i=>
 aO (mK 5 (λf (e:Bool)=>f 2=Sl.v b/\f 58=VB e) (λe j=>
 aL e
 (Q Sl.nil 2 j)
 (Q b 0 j)))
 λk=>
 aL (K != 0)
 (k true i)
 (jA J p0 i λL x=>
 k (!L) x))))
 λA=>
 aL (decide ((b.len:Int)< 6))
 (kN c z λM y=>
 A (decide (0<M)) y)
 (A false z)))
 Sl.nil H1
def pT (p0:xl) (H:PH) (Q:Bool->PH->Prop):Prop:=
 aj H (row (dG p0) 196) λa1 l=>
 aT dG l a1 4 λq=>
 vE q l λj b=>
 aO (mK 14 (λh (i:Bool)=>h 19=VB i) (λi k=>
 Q i k))
 λe=>
 aL j
 (aH (.int .i64) b (a1.add 0) λn=>
 aO (mK 4 (λh (c:Bool)=>h 1=VA a1/\h 5=VB j/\h 13=VB c) (λc a=>
 aO (mK 4 (λh (d:Bool)=>h 5=VB j/\h 18=VB d) (λd m=>
 e d m))
 λg=>
 aL c
 (g true a)
 (aH (.int .i64) a (a1.add 0) λo=>
 g (o==5) a)))
 λf=>
 aL (n==1)
 (f true b)
 (aH (.int .i64) b (a1.add 0) λp=>
 f (p==4) b))
 (e false b)
def gz (p0:Sl) (p1:Value) (H:PH) (Q:Int->PH->Prop):Prop:=
 bw (λ(s1:Int) (d:PH) (a:Int->PH->Prop)=>
 aL (decide (s1<(p0.len:Int)))
 (bX p0 1 s1 λf=>
 aH Sl.v d f λg=>
 xI prog p1 [Sl.v g] d λe b=>
 ∃(c:Bool),e= .bool c/\
 aL c
 (Q s1 b)
 (a (IntKind.wrap .i64 (s1+1)) b))
 (Q (-1) d))
 0 H
def eY (p0:Sl) (p1:Value) (H:PH) (Q:Bool->PH->Prop):Prop:=
 gz p0 p1 H λa H1=>
 Q (decide (0<=a)) H1
def yU (p0:vR) (H:PH) (Q:Bool->PH->Prop):Prop:=
 aj H (row (cT p0) 273) λa1 y=>
 aH (.int .i64) y (a1.add 0) λY=>
 kl Y 1 2147483647 y λZ w=>
 aO (mK 5 (λb (x:Bool)=>b 1=VA a1/\b 15=VB x) (λx f=>
 aO (mK 5 (λb (k:Bool)=>b 1=VA a1/\b 21=VB k) (λk g=>
 aO (mK 6 (λb (l:Bool)=>b 1=VA a1/\b 28=VB l) (λl h=>
 aL l
 (Q false h)
 (aH Sl.v h (a1.add 3) λd=>
 bw (mL (λb (a:Int×Int)=>b 1=VA a1/\b 3=VI a.1/\b 30=Sl.v d/\b 31=VI (d.len:Int)/\b 32=VI a.2) (λa c e=>
 aL (decide (a.2<(d.len:Int)))
 (aO (mB (λb (m:Int)=>b 1=VA a1/\b 3=VI m/\b 30=Sl.v d/\b 31=VI (d.len:Int)/\b 32=VI a.2) (λm z=>
 e (m,IntKind.wrap .i64 (a.2+1)) z))
 λt=>
 bX d 4 a.2 λG=>
 aT dG c G 4 λI=>
 aj c (row uQ 196) λj A=>
 aV A j (dG I) λo=>
 aT dG o j 4 λJ=>
 vE J o λR i=>
 aL (!R)
 (Q false i)
 (aT dG i j 4 λK=>
 pT K i λS p=>
 aL S
 (t (IntKind.wrap .i64 (a.1+1)) p)
 (t a.1 p)))
 (aH Sl.v c (a1.add 4) λL=>
 aO (mK 5 (λb (n:Bool)=>b 54=VB n) (λn B=>
 Q n B))
 λu=>
 aL ((L.len:Int)==a.1)
 (aH Sl.v c (a1.add 4) λM=>
 eY M (.func (.func 331) #[] #[]) c λT C=>
 u (!T) C)
 (u false c))))
 (0,0) h)))
 λs=>
 aL k
 (s true g)
 (aH Sl.v g (a1.add 3) λN=>
 kl (N.len:Int) 1 6 g λU D=>
 s (!U) D)))
 λr=>
 aL x
 (r true f)
 (aH (.int .i64) f (a1.add 2) λO=>
 kl O 0 4294967295 f λV E=>
 r (!V) E)))
 λq=>
 aL (!Z)
 (q true w)
 (aH (.int .i64) w (a1.add 1) λP=>
 kl P 1 2147483647 w λX F=>
 q (!X) F)
def uU (p0:Option Addr) (p1:Sl) (H:PH) (Q:Bool->PH->Prop):Prop:=
 aO (mK 6 (λp (s2:Bool)=>p 0=VP p0/\p 1=Sl.v p1/\p 13=VB s2) (λs2 a=>
 aL s2
 (Q false a)
 (mP [0,1]<|
 aP p0 λi=>
 mP [2,3]<|
 aH (.int .i64) a (i.add 1) λn=>
 mP [4,5]<|
 aP p0 λf=>
 mP [6,7]<|
 aH Sl.v a (f.add 0) λc=>
 mP [8,9]<|
 aP p0 λg=>
 mP [10,11]<|
 aH (.int .i64) a (g.add 1) λl=>
 mP [12]<|
 kv c 1 l (c.len:Int) λk=>
 mP [13,14]<|
 nC a 1 k p1 λm b=>
 ay b (i.add 1) (VI n)<|
 mP [15,16]<|
 aP p0 λh=>
 mP [17,18]<|
 aV b (h.add 1) ([VI (IntKind.wrap .i64 (n+m))]) λd=>
 Q true d)))
 λj=>
 aL (Option.isNone p0)
 (j true H)
 (kN p0 H λo e=>
 j (decide (o<(p1.len:Int))) e)
def jO (p0:Sl) (p1:Int) (H:PH) (Q:Sl->PH->Prop):Prop:=
 aO (mK 1 (λg (s1:Unit)=>g 0=Sl.v p0/\g 1=VI p1) (λs1 b=>
 aO (mK 1 (λg (s5:Sl)=>g 0=Sl.v s5) (λs5 h=>
 Q s5 h))
 λc=>
 aL (decide (0<(IntKind.wrap .i64 (p1-(IntKind.wrap .i64 ((p0.cap:Int)-(p0.len:Int)))))))
 (kv p0 1 0 (p0.cap:Int) λd=>
 JB b 5 1 1 [.int .u8 0] d (IntKind.wrap .i64 (p1-(IntKind.wrap .i64 ((p0.cap:Int)-(p0.len:Int))))) λe a=>
 kv e 1 0 (p0.len:Int) λf=>
 c f a)
 (c p0 b)))
 λi=>
 aL (decide (p1< 0))
 (False)
 (i () H)
def kE (p0:Sl) (H:PH) (Q:Sl->PH->Prop):Prop:=
 bw (mL (λb (s1:Int×Int)=>b 0=Sl.v p0/\b 3=VI s1.1/\b 9=Sl.v p0/\b 10=VI (p0.len:Int)/\b 11=VI s1.2) (λs1 g e=>
 aL (decide (s1.2<(p0.len:Int)))
 (aO (mB (λb (h:Int)=>b 0=Sl.v p0/\b 3=VI h/\b 9=Sl.v p0/\b 10=VI (p0.len:Int)/\b 11=VI s1.2) (λh p=>
 e (h,IntKind.wrap .i64 (s1.2+1)) p))
 λq=>
 bX p0 1 s1.2 λk=>
 aH Sl.v g k λf=>
 aL (decide ((IntKind.wrap .i64 (s1.1+(f.len:Int)))< 0))
 (False)
 (q (IntKind.wrap .i64 (s1.1+(f.len:Int))) g))
 (jO Sl.nil s1.1 g λo i=>
 bw (mL (λb (a:Sl×Int)=>b 6=Sl.v a.1/\b 25=Sl.v p0/\b 26=VI (p0.len:Int)/\b 27=VI a.2) (λa d c=>
 aL (decide (a.2<(p0.len:Int)))
 (bX p0 1 a.2 λl=>
 aH Sl.v d l λn=>
 fh d 5 1 1 [.int .u8 0] a.1 n λm j=>
 c (m,IntKind.wrap .i64 (a.2+1)) j)
 (Q a.1 d)))
 (o,0) i)))
 (0,0) H
def ob (p0:vR) (H:PH) (Q:Sl->Int->Int->PH->Prop):Prop:=
 aj H (row (cT p0) 273) λa1 r=>
 aT cT r a1 5 λV=>
 yU V r λY n=>
 aL (!Y)
 (Q Sl.nil 0 1 n)
 (aH Sl.v n (a1.add 3) λX=>
 rk X n λl Z o=>
 ri 64 o λa p=>
 bZ p (row [VI 75,VI 82] 3) 2 λC q=>
 cM a 1 C q λaa b=>
 aH (.int .i64) b (a1.add 0) λM=>
 aH (.int .i64) b (a1.add 1) λN=>
 aH (.int .i64) b (a1.add 2) λO=>
 bZ b (row [VI M,VI N,VI O] 3) 3 λD s=>
 cM a 4 D s λab c=>
 aH Sl.v c (a1.add 3) λP=>
 aH Sl.v c (a1.add 4) λR=>
 bZ c (row [VI (P.len:Int),VI (R.len:Int)] 3) 2 λE t=>
 cM a 1 E t λac u=>
 uU a l u λad w=>
 ft a (IntKind.wrap .i64 (44-(l.len:Int))) w λae af f=>
 mP [0,4,5]<|
 aH Sl.v f (a1.add 4) λd=>
 mP [1]<|
 iB a f λS g=>
 ay g (a1.add 4) (Sl.v d)<|
 mP [2]<|
 kv S 1 0 60 λF=>
 mP [3]<|
 bZ g (row [Sl.v F] 50) 1 λG h=>
 ay h (a1.add 4) (Sl.v d)<|
 mP [6]<|
 fh h 50 1 24 [.slice none 0 0] G d λI x=>
 mP [7]<|
 yi I x λm y=>
 mP [8]<|
 bZ y (row [VI m] 3) 1 λJ z=>
 cM a 4 J z λag i=>
 mP [0,3,4]<|
 aH Sl.v i (a1.add 4) λe=>
 mP [7,1]<|
 iB a i λT j=>
 ay j (a1.add 4) (Sl.v e)<|
 mP [2]<|
 bZ j (row [Sl.v T] 50) 1 λK k=>
 ay k (a1.add 4) (Sl.v e)<|
 mP [5]<|
 fh k 50 1 24 [.slice none 0 0] K e λL A=>
 mP [6]<|
 kE L A λU B=>
 mP [8,9,10]<|
 Q U m 0 B)
def uo (p0:Sl) (H:PH) (Q:vR->Int->Int->PH->Prop):Prop:=
 aj H (row Ay 273) λa1 H2=>
 mj p0 H2 λz H4=>
 qO z H4 λy7 y8 y9 M=>
 aO (mK 7 (λf (c:Bool)=>f 0=Sl.v p0/\f 2=VA a1/\f 5=VP z/\f 6=VI y7/\f 30=VB c) (λc g=>
 aL c
 (aV g a1 ([VI 0,VI 0,VI 0,Sl.v Sl.nil,Sl.v Sl.nil]) λh=>
 aT cT h a1 5 λT=>
 Q T 0 2 h)
 (ft z (IntKind.wrap .i64 (7*y7)) g λaa ao A=>
 xM aa A λab ac B=>
 aV B (a1.add 3) ([Sl.v ab]) λi=>
 aL (ac != 0)
 (aV i a1 ([VI 0,VI 0,VI 0,Sl.v Sl.nil,Sl.v Sl.nil]) λj=>
 aT cT j a1 5 λU=>
 Q U 0 2 j)
 (mj p0 i λa C=>
 ft a 2 C λap aq D=>
 cA a 4 D λad ar E=>
 aV E (a1.add 0) ([VI ad]) λF=>
 cA a 4 F λae au G=>
 aV G (a1.add 1) ([VI ae]) λI=>
 cA a 4 I λaf av J=>
 aV J (a1.add 2) ([VI af]) λK=>
 kv p0 1 64 (p0.len:Int) λP=>
 gT P 64 K λag L=>
 iX prog ag (λ(x:List Value) (am:Unit) (k:PH) (ah:Nat->Unit->PH->Prop)=>
 ∃(t:Sl),x=[Sl.v t]/\
 (mP [0,1]<|
 aH Sl.v k (a1.add 4) λe=>
 mP [2,3]<|
 cC t k λai l=>
 ay l (a1.add 4) (Sl.v e)<|
 mP [4]<|
 bZ l (row [Sl.v ai] 50) 1 λR m=>
 ay m (a1.add 4) (Sl.v e)<|
 mP [5]<|
 fh m 50 1 24 [.slice none 0 0] e R λS N=>
 mP [6,7]<|
 aV N (a1.add 4) ([Sl.v S]) λO=>
 ah 0 () O)) () L λ_ an n=>
 aT cT n a1 5 λV=>
 ob V n λak u al o=>
 aO (mK 5 (λf (d:Bool)=>f 2=VA a1/\f 3=VI u/\f 94=VB d) (λd b=>
 aL d
 (aV b a1 ([VI 0,VI 0,VI 0,Sl.v Sl.nil,Sl.v Sl.nil]) λp=>
 aT cT p a1 5 λX=>
 Q X 0 2 p)
 (aT cT b a1 5 λY=>
 aV b a1 (cT Y) λq=>
 aT cT q a1 5 λZ=>
 Q Z u 0 q)))
 λs=>
 aL (al != 0)
 (s true o)
 (jA ak p0 o λy w=>
 s (!y) w)))))
 λr=>
 aL (!y9)
 (r true M)
 (r ((p0.len:Int) != (IntKind.wrap .i64 (64*(IntKind.wrap .i64 (1+y8))))) M)
def uq (p0:Option Addr) (p1:iV) (H:PH) (Q:vR->iV->Bool->PH->Prop):Prop:=
 aj H (row (ag p1) 185) λa1 H2=>
 aj H2 (row Ay 273) λa H5=>
 aj H5 (row gr 185) λb H8=>
 mP [0,1]<|
 aH (.int .i64) H8 (a1.add 1) λY=>
 mP [2,3]<|
 aP p0 λaB=>
 mP [4,5]<|
 aH .pointer H8 (aB.add 1) λaE=>
 mP [6]<|
 dF aE H8 λaW f=>
 ay f (a1.add 1) (VI Y)<|
 mP [7,8]<|
 aL (decide (aW.2.2<=Y))
 (mP [0]<|
 aT cT f a 5 λaF=>
 mP [1]<|
 aT ag f b 5 λZ=>
 mP [2]<|
 aV f a (cT aF) λO=>
 gQ O b 5 (ag Z)<|
 mP [3]<|
 aV O b (ag Z) λB=>
 mP [4]<|
 aT cT B a 5 λaG=>
 aT ag B b 5 λaI=>
 Q aG aI false B)
 (mP [0,1]<|
 aP p0 λaC=>
 mP [2,3]<|
 aH .pointer f (aC.add 1) λaJ=>
 mP [4,5]<|
 aH (.int .i64) f (a1.add 0) λaK=>
 mP [7,8]<|
 aH (.int .i64) f (a1.add 1) λh=>
 mP [6]<|
 gO aJ aK f λl P=>
 ay P (a1.add 1) (VI h)<|
 mP [9,10]<|
 lM p0 (IntKind.wrap .i64 (l+h)) P λw aX ax=>
 xL w ax λe R=>
 mP [0,1,2]<|
 aO (mQ 63 [] (λc (I:Bool)=>c 0=VP p0/\c 3=VA a1/\c 4=VA a/\c 5=VA b/\c 7=VI (IntKind.wrap .i64 (l+h))/\c 8=Sl.v w/\c 9=VI e/\c 49=VB I) (λI s=>
 mP [6]<|
 aO (mQ 524287 [14,8] (λc (J:Bool)=>c 0=VP p0/\c 3=VA a1/\c 4=VA a/\c 5=VA b/\c 7=VI (IntKind.wrap .i64 (l+h))/\c 8=Sl.v w/\c 9=VI e/\c 62=VB J) (λJ t=>
 aL J
 (mP [0]<|
 aT cT t a 5 λaM=>
 mP [1]<|
 aT ag t b 5 λaa=>
 mP [2]<|
 aV t a (cT aM) λS=>
 gQ S b 5 (ag aa)<|
 mP [3]<|
 aV S b (ag aa) λC=>
 mP [4]<|
 aT cT C a 5 λaN=>
 aT ag C b 5 λaQ=>
 Q aN aQ false C)
 (bw (mL (λc (g:Sl×Int)=>c 0=VP p0/\c 3=VA a1/\c 4=VA a/\c 5=VA b/\c 7=VI (IntKind.wrap .i64 (l+h))/\c 8=Sl.v g.1/\c 9=VI e/\c 10=VI g.2) (λg T y=>
 aL (decide (g.2<e))
 (lM p0 (IntKind.wrap .i64 ((IntKind.wrap .i64 (l+h))+g.2)) T λaY aZ u=>
 aL (!aZ)
 (mP [0]<|
 aT cT u a 5 λaR=>
 mP [1]<|
 aT ag u b 5 λab=>
 mP [2]<|
 aV u a (cT aR) λU=>
 gQ U b 5 (ag ab)<|
 mP [3]<|
 aV U b (ag ab) λD=>
 mP [4]<|
 aT cT D a 5 λaS=>
 aT ag D b 5 λaU=>
 Q aS aU false D)
 (fh u 5 1 1 [.int .u8 0] g.1 aY λaD az=>
 y (aD,IntKind.wrap .i64 (g.2+1)) az))
 (uo g.1 T λa0 x av aA=>
 aV aA a (cT a0) λi=>
 aO (mK 6 (λc (p:Bool)=>c 3=VA a1/\c 4=VA a/\c 5=VA b/\c 9=VI e/\c 13=VI x/\c 99=VB p) (λp j=>
 aO (mK 6 (λc (q:Bool)=>c 3=VA a1/\c 4=VA a/\c 5=VA b/\c 9=VI e/\c 13=VI x/\c 106=VB q) (λq k=>
 aO (mK 6 (λc (r:Bool)=>c 3=VA a1/\c 4=VA a/\c 5=VA b/\c 9=VI e/\c 13=VI x/\c 113=VB r) (λr d=>
 aL r
 (mP [0,1]<|
 aT ag d b 5 λK=>
 mP [2]<|
 aV d a ([VI 0,VI 0,VI 0,Sl.v Sl.nil,Sl.v Sl.nil]) λz=>
 gQ z b 5 (ag K)<|
 mP [3]<|
 aV z b (ag K) λm=>
 mP [4]<|
 aT cT m a 5 λad=>
 aT ag m b 5 λae=>
 Q ad ae false m)
 (mP [0]<|
 aT cT d a 5 λaf=>
 mP [1,2]<|
 aH (.int .i64) d (a1.add 0) λL=>
 mP [3,4]<|
 aH (.int .i64) d (a1.add 1) λM=>
 mP [5,6,7,8]<|
 aH (.int .i64) d (a.add 1) λah=>
 mP [9,10,11,12]<|
 aH (.int .i64) d (a.add 0) λai=>
 mP [13,14]<|
 aV d a (cT af) λn=>
 ay n (a1.add 1) (VI M)<|
 ay n (a1.add 0) (VI L)<|
 mP [15]<|
 aV n b ([VI L,VI (IntKind.wrap .i64 (M+e)),VI (IntKind.wrap .i64 (ah+1)),VI x,VI ai]) λo=>
 mP [16]<|
 aT cT o a 5 λak=>
 aT ag o b 5 λal=>
 Q ak al true o)))
 λG=>
 aL q
 (G true k)
 (aH (.int .i64) k (a.add 0) λam=>
 aH (.int .i64) k (a1.add 4) λan=>
 G (decide (am<an)) k)))
 λF=>
 aL p
 (F true j)
 (aH (.int .i64) j (a.add 2) λao=>
 aH (.int .i64) j (a1.add 3) λap=>
 F (ao != ap) j)))
 λE=>
 aL (av != 0)
 (E true i)
 (aH (.int .i64) i (a.add 1) λaq=>
 aH (.int .i64) i (a1.add 2) λar=>
 E (aq != ar) i))))
 (w,1) t)))
 λX=>
 aL I
 (mP [7,8,9,10,11,12,13,14,15,16,17,18]<|
 X true s)
 (mP [7,8]<|
 aH (.int .i64) s (a1.add 1) λN=>
 mP [9,10,11,12]<|
 aP p0 λac=>
 mP [13,14]<|
 aH .pointer s (ac.add 1) λau=>
 mP [15]<|
 dF au s λaw A=>
 ay A (a1.add 1) (VI N)<|
 mP [16,17,18]<|
 X (decide (aw.2.2<(IntKind.wrap .i64 (N+e)))) A)))
 λV=>
 aL (!aX)
 (mP [3,4,5]<|
 V true R)
 (mP [3,4,5]<|
 V (e==0) R))
def fu (p0:Sl) (p1:Value) (H:PH) (Q:Int->PH->Prop):Prop:=
 bw (λ(s1:Int) (d:PH) (a:Int->PH->Prop)=>
 aL (decide (s1<(p0.len:Int)))
 (bX p0 4 s1 λf=>
 aT dG d f 4 λg=>
 xI prog p1 [.agg (dG g).toArray] d λe b=>
 ∃(c:Bool),e= .bool c/\
 aL c
 (Q s1 b)
 (a (IntKind.wrap .i64 (s1+1)) b))
 (Q (-1) d))
 0 H
def pU (p0:vR) (H:PH) (Q:Int->Bool->PH->Prop):Prop:=
 aj H (row (cT p0) 273) λa1 b=>
 aH Sl.v b (a1.add 3) λf=>
 fu f (.func (.func 302) #[] #[]) b λe a=>
 aL (decide (e< 0))
 (Q 0 false a)
 (aH Sl.v a (a1.add 3) λg=>
 bX g 4 e λc=>
 aH (.int .i64) a (c.add 3) λd=>
 Q d true a)
def sD {γ:Type} (c0:Addr) (Y:List Value->γ->PH->(Nat->γ->PH->Prop)->Prop) (g:γ) (H:PH) (Q:Nat->γ->PH->Prop):Prop:=
 aH .pointer H c0 λO=>
 aL (Option.isNone O)
 (Q (0,g).1 (0,g).2 H)
 (aH .pointer H c0 λP=>
 sP P H λR S N=>
 aj N (row gr 185) λk n=>
 aV n k (ag R) λh=>
 aH .pointer h c0 λx=>
 aT ag h k 5 λy=>
 aP x λu=>
 aV h (u.add 8) (ag y) λo=>
 bw (λ(a:Bool×(Nat×γ)) (b:PH) (f:(Bool×(Nat×γ))->PH->Prop)=>
 aL a.1
 (aH .pointer b c0 λz=>
 aT ag b k 5 λA=>
 uq z A b λJ K L p=>
 aj p (row Ay 273) λj q=>
 aj q (row gr 185) λm r=>
 aV r j (cT J) λs=>
 aV s m (ag K) λc=>
 aL (!L)
 (Q a.2.1 a.2.2 c)
 (aH .pointer c c0 λB=>
 aT ag c m 5 λC=>
 aP B λv=>
 aV c (v.add 8) (ag C) λl=>
 aT cT l j 5 λD=>
 pU D l λT M i=>
 aT ag i k 5 λE=>
 aT cT i j 5 λF=>
 uO Y a.2 [.agg (ag E).toArray,.agg (cT F).toArray] i λe d=>
 aL (!(e.1==0))
 (Q e.1 e.2 d)
 (aH .pointer d c0 λG=>
 aP G λw=>
 aT ag d (w.add 8) 5 λI=>
 aV d k (ag I) λt=>
 f (!M,e) t)))
 (Q a.2.1 a.2.2 b))
 (S,(0,g)) o)
def qv (p0:Option Addr) (H:PH) (Q:Value->PH->Prop):Prop:=
 aj H (row [.pointer p0] 266) λa1 a=>
 Q (.func (.func 305) #[] #[.pointer (some a1)]) a
def rU (p0:Option Addr) (H:PH) (Q:iV->PH->Prop):Prop:=
 aj H (row gr 185) λa1 b=>
 aL (Option.isNone p0)
 (aV b a1 (gr) λc=>
 aT ag c a1 5 λg=>
 Q g c)
 (aP p0 λf=>
 aT ag b (f.add 8) 5 λd=>
 aV b a1 (ag d) λa=>
 aT ag a a1 5 λe=>
 Q e a)
def ti (p0:Option Addr) (p1:vR) (p2:iV) (H:PH) (Q:iV->Bool->PH->Prop):Prop:=
 aj H (row (cT p1) 273) λa1 x=>
 aj x (row (ag p2) 185) λc y=>
 aj y (row gr 185) λe o=>
 aT cT o a1 5 λr=>
 pU r o λd v b=>
 aO (mK 7 (λk (a:Bool)=>k 5=VA c/\k 6=VA e/\k 8=VI d/\k 23=VB a) (λa f=>
 aO (mK 1 (λk (q:Unit)=>k 5=VA c/\k 6=VA e/\k 9=VB a) (λq g=>
 aT ag g c 5 λs=>
 aV g e (ag s) λh=>
 aT ag h e 5 λt=>
 Q t a h))
 λj=>
 aL a
 (aV f (c.add 0) ([VI d]) λl=>
 aV l (c.add 1) ([VI 0]) λm=>
 j () m)
 (j () f)))
 λi=>
 aL v
 (aP p0 λp=>
 aH .pointer b (p.add 1) λu=>
 mm u d b λw n=>
 i w n)
 (i false b)
def ur (p0:Option Addr) (H:PH) (Q:Int->PH->Prop):Prop:=
 aL (Option.isNone p0)
 (Q 1 H)
 (aP p0 λa=>
 aH (.int .i64) H (a.add 13) λb=>
 Q b H)
def pV {γ:Type} (c0:Addr) (yv:Value) (Y:List Value->γ->PH->(Nat->γ->PH->Prop)->Prop) (g:γ) (H:PH) (Q:Nat->γ->PH->Prop):Prop:=
 aj H (row [yv] 347) λa1 k=>
 aH .pointer k c0 λx4=>
 aL (Option.isNone x4)
 (Q (0,g).1 (0,g).2 k)
 (aH .pointer k c0 λx7=>
 aH .pointer k c0 λx9=>
 aH .pointer k c0 λaK=>
 aP aK λaC=>
 aT ag k (aC.add 2) 5 λaM=>
 aP x7 λaD=>
 aV k (aD.add 7) (ag aM) λw=>
 ay w c0 (.pointer x9)<|
 aP x9 λaE=>
 aV w (aE.add 12) ([VI 0]) λan=>
 aj an (row [.bool false] 4) λA ao=>
 aV ao A ([.bool true]) λap=>
 bw (λ(c:Addr×(Nat×γ)) (b:PH) (q:(Addr×(Nat×γ))->PH->Prop)=>
 aH .bool b c.1 λaN=>
 aL aN
 (aO (λ(aJ:(Nat×γ)) (x:PH)=>
 aH .bool x c.1 λaQ=>
 aj x (row [.bool false] 4) λB aq=>
 aV aq B ([.bool aQ]) λar=>
 q (B,aJ) ar)
 λD=>
 aO (λ(d:Addr×(Nat×γ)) (au:PH)=>
 aV au c.1 ([.bool false]) λy=>
 aH .pointer y d.1 λaR=>
 qv aR y λaW av=>
 iX prog aW (λ(V:List Value) (aI:Nat×γ) (aw:PH) (J:Nat->(Nat×γ)->PH->Prop)=>
 ∃(E:iV) (F:vR),V=[.agg (ag E).toArray,.agg (cT F).toArray]/\
 aj aw (row gr 185) λC ax=>
 aV ax C (ag E) λaz=>
 aj az (row Ay 273) λp aA=>
 aV aA p (cT F) λi=>
 aH .pointer i c0 λv=>
 aH .pointer i c0 λG=>
 aT cT i p 5 λI=>
 aH .pointer i d.1 λaS=>
 rU aS i λaX n=>
 gQ n p 5 (cT I)<|
 ay n c0 (.pointer G)<|
 ay n c0 (.pointer v)<|
 ti G I aX n λaY aZ z=>
 ay z c0 (.pointer v)<|
 aP v λaF=>
 aV z (aF.add 7) (ag aY) λaB=>
 aV aB c.1 ([.bool aZ]) λo=>
 aH id o a1 λaU=>
 aT ag o C 5 λX=>
 aT cT o p 5 λZ=>
 qk (aU=yv)<|
 uO Y aI [.agg (ag X).toArray,.agg (cT Z).toArray] o λl r=>
 aL (!(l.1==0))
 (J 1 l r)
 (J 0 l r)) d.2 av λU f a=>
 aL (U==1)
 (Q f.1 f.2 a)
 (aH .bool a c.1 λaa=>
 aL (!aa)
 (aH .pointer a c0 λm=>
 aH .pointer a c0 λh=>
 aH .pointer a d.1 λab=>
 aH .pointer a d.1 λu=>
 rU ab a λak e=>
 ay e d.1 (.pointer u)<|
 ay e c0 (.pointer h)<|
 ay e c0 (.pointer m)<|
 ur u e λal j=>
 ay j c0 (.pointer h)<|
 ay j c0 (.pointer m)<|
 aP m λO=>
 aV j (O.add 7) (ag ak) λs=>
 ay s c0 (.pointer h)<|
 aP h λP=>
 aV s (P.add 12) ([VI al]) λK=>
 D f K)
 (D f a)))
 λaG=>
 aH .pointer b c0 λac=>
 aP ac λR=>
 aH .pointer b (R.add 0) λad=>
 aH .pointer b c0 λae=>
 aP ae λS=>
 aH .pointer b (S.add 1) λaf=>
 aH .pointer b c0 λah=>
 aP ah λT=>
 aT ag b (T.add 7) 5 λai=>
 Bv ad af ai b λam L=>
 aj L (row [.pointer none] 266) λt M=>
 aV M t ([.pointer am]) λN=>
 aG (t,c.2) N)
 (Q c.2.1 c.2.2 b))
 (A,(0,g)) ap)
def oM (p0:Option Addr) (H:PH) (Q:Value->PH->Prop):Prop:=
 aj H (row [.pointer p0] 314) λa1 a=>
 Q (.func (.func 297) #[] #[.pointer (some a1)]) a
def jY (p0:Option Addr) (H:PH) (Q:Int->PH->Prop):Prop:=
 aL (Option.isNone p0)
 (Q 0 H)
 (aP p0 λa=>
 aH Sl.v H (a.add 0) λb=>
 Q (b.len:Int) H)
def pW {γ:Type} (c0:Addr) (Y:List Value->γ->PH->(Nat->γ->PH->Prop)->Prop) (g:γ) (H:PH) (Q:Nat->γ->PH->Prop):Prop:=
 aH .pointer H c0 λl=>
 jY l H λm k=>
 bw (λ(s5:Int×(Nat×γ)) (b:PH) (c:(Int×(Nat×γ))->PH->Prop)=>
 aL (decide (s5.1<m))
 (aH .pointer b c0 λh=>
 aP h λe=>
 aH Sl.v b (e.add 0) λi=>
 bX i 1 s5.1 λf=>
 aH (.int .i64) b f λj=>
 uO Y s5.2 [VI s5.1,VI j] b λa d=>
 aL (!(a.1==0))
 (Q a.1 a.2 d)
 (c (IntKind.wrap .i64 (s5.1+1),a) d))
 (Q s5.2.1 s5.2.2 b))
 (0,(0,g)) k
def jZ (p0:Option Addr) (H:PH) (Q:Value->PH->Prop):Prop:=
 aj H (row [.pointer p0] 211) λa1 a=>
 Q (.func (.func 223) #[] #[.pointer (some a1)]) a
def gL (p0:Option Addr) (p1:Int) (H:PH) (Q:Int->Bool->PH->Prop):Prop:=
 aO (mK 5 (λg (s2:Bool)=>g 0=VP p0/\g 1=VI p1/\g 4=VI 0/\g 13=VB s2) (λs2 a=>
 aL s2
 (Q 0 false a)
 (aP p0 λh=>
 aH Sl.v a (h.add 0) λi=>
 bX i 1 p1 λc=>
 aH (.int .i64) a c λe=>
 Q e true a)))
 λd=>
 aL (decide (p1< 0))
 (d true H)
 (jY p0 H λf b=>
 d (decide (f<=p1)) b)
def iN (p0:Option Addr) (p1:Int) (p2:Int) (H:PH) (Q:Bool->PH->Prop):Prop:=
 gL p0 p1 H λr b H1=>
 aO (mK 4 (λe (s5:Bool)=>e 0=VP p0/\e 1=VI p1/\e 2=VI p2/\e 8=VB b/\e 20=VB s5) (λs5 a=>
 aO (mK 1 (λe (q:Unit)=>e 8=VB b) (λq f=>
 Q b f))
 λc=>
 aL s5
 (mP [0,1]<|
 aP p0 λi=>
 mP [2,3]<|
 aH Sl.v a (i.add 0) λo=>
 mP [4,5,6]<|
 aP p0 λj=>
 mP [7,8]<|
 aH Sl.v a (j.add 2) λp=>
 mP [9,10,11]<|
 aP p0 λk=>
 mP [12,13]<|
 aH (.int .i64) a (k.add 1) λd=>
 mP [14]<|
 Ar d<|
 mP [15,16]<|
 bX o 1 p1 λl=>
 mP [17]<|
 aV a l ([VI p2]) λg=>
 mP [18]<|
 bX p 1 (IntKind.wrap .i64 (Int.tdiv p1 d)) λm=>
 mP [19]<|
 aV g m ([.bool true]) λh=>
 c () h)
 (c () a)))
 λn=>
 aL b
 (n (r != p2) H1)
 (n false H1)
def qc (p0:Option Addr) (p1:Int) (p2:Int) (H:PH) (Q:Int->PH->Prop):Prop:=
 gL p0 p1 H λa c H1=>
 iN p0 p1 p2 H1 λd b=>
 aL (a==p2)
 (Q 0 b)
 (Q (if a< 0 then 0 else a) b)
def l9 (p0:Option Addr) (H:PH) (Q:Sl->PH->Prop):Prop:=
 aj H (row [.pointer p0] 75) λa1 A=>
 aj A (row [.slice none 0 0] 36) λc n=>
 aH .pointer n a1 λC=>
 cv C true n λy B=>
 jZ y B λz j=>
 iX prog z (λ(i:List Value) (D:Unit) (a:PH) (g:Nat->Unit->PH->Prop)=>
 ∃(f:Int) (r:Int),i=[VI f,VI r]/\
 aH .pointer a a1 λs=>
 aP s λo=>
 aH .pointer a (o.add 1) λt=>
 qc t f (-1) a λh b=>
 aL (decide (0<h))
 (aH Sl.v b c λu=>
 bZ b (row [VI h] 3) 1 λp k=>
 fh k 3 1 8 [VI 0] u p λq l=>
 aV l c ([Sl.v q]) λm=>
 g 0 () m)
 (g 0 () b)) () j λ_ E d=>
 aH Sl.v d c λw=>
 aV d c ([Sl.v w]) λe=>
 aH Sl.v e c λx=>
 Q x e
def ja (p0:Option Addr) (H:PH) (Q:PH->Prop):Prop:=
 aP p0 λa1=>
 aH .pointer H (a1.add 23) λe=>
 l9 e H λg b=>
 aP p0 λd=>
 aH (.int .i64) b ((d.add 24).add 4) λf=>
 aP p0 λc=>
 aV b ((c.add 24).add 3) ([VI f]) λa=>
 Q a
def iq (p0:Option Addr) (H:PH) (Q:Int->PH->Prop):Prop:=
 cv p0 false H λb H1=>
 jY b H1 λc a=>
 Q c a
def ou (p0:Option Addr) (p1:Int) (p2:Int) (H:PH) (Q:Bool->PH->Prop):Prop:=
 aO (mK 5 (λb (s2:Bool)=>b 0=VP p0/\b 1=VI p1/\b 2=VI p2/\b 14=VB s2) (λs2 h=>
 aO (mK 3 (λb (d:Bool)=>b 0=VP p0/\b 1=VI p1/\b 2=VI p2/\b 18=VB d) (λd i=>
 aO (mK 7 (λb (a:Bool)=>b 26=VB a) (λa e=>
 Q a e))
 λc=>
 aL d
 (iq p0 i λl f=>
 c (decide (p1<=(IntKind.wrap .i64 (l-p2)))) f)
 (c false i)))
 λk=>
 aL s2
 (k (decide (0<=p1)) h)
 (k false h)))
 λj=>
 aL (decide (1<=p2))
 (iq p0 H λm g=>
 j (decide (p2<=m)) g)
 (j false H)
def sQ (p0:Option Addr) (p1:Bool) (p2:Int) (p3:Int) (H:PH) (Q:Int->Bool->PH->Prop):Prop:=
 ou p0 p2 1 H λk H1=>
 aO (mK 3 (λa (s4:Bool)=>a 0=VP p0/\a 1=VB p1/\a 2=VI p2/\a 3=VI p3/\a 17=VB s4) (λs4 g=>
 aO (mK 3 (λa (d:Bool)=>a 0=VP p0/\a 1=VB p1/\a 2=VI p2/\a 3=VI p3/\a 21=VB d) (λd b=>
 aL d
 (Q 0 false b)
 (cv p0 p1 b λi e=>
 qc i p2 p3 e λj f=>
 Q j true f)))
 λc=>
 aL s4
 (c true g)
 (c (decide (4096<=p3)) g)))
 λh=>
 aL (!k)
 (h true H1)
 (h (decide (p3< 1)) H1)
def pn (p0:Option Addr) (p1:Int) (p2:Int) (H:PH) (Q:Int->Bool->PH->Prop):Prop:=
 sQ p0 true p1 p2 H λa b H1=>
 Q a b H1
def qw (p0:Option Addr) (p1:Bool) (p2:Int) (p3:Int) (H:PH) (Q:Sl->Bool->PH->Prop):Prop:=
 ou p0 p2 p3 H λo H1=>
 aL (!o)
 (Q Sl.nil false H1)
 (bw (mL (λa (s4:Sl×Int)=>a 0=VP p0/\a 1=VB p1/\a 2=VI p2/\a 8=Sl.v s4.1/\a 17=VI p3/\a 18=VI s4.2) (λs4 k b=>
 aL (decide (s4.2<p3))
 (aO (mB (λa (f:Sl)=>a 0=VP p0/\a 1=VB p1/\a 2=VI p2/\a 8=Sl.v f/\a 17=VI p3/\a 18=VI s4.2) (λf g=>
 b (f,IntKind.wrap .i64 (s4.2+1)) g))
 λd=>
 cv p0 p1 k λn h=>
 qc n (IntKind.wrap .i64 (p2+s4.2)) 0 h λe c=>
 aL (decide (0<e))
 (bZ c (row [VI e] 3) 1 λl i=>
 fh i 3 1 8 [VI 0] s4.1 l λm j=>
 d m j)
 (d s4.1 c))
 (Q s4.1 true k)))
 (Sl.nil,0) H1)
def nt (p0:Option Addr) (p1:Int) (p2:Int) (H:PH) (Q:Sl->Bool->PH->Prop):Prop:=
 qw p0 true p1 p2 H λa b H1=>
 Q a b H1
def mA (p0:Option Addr) (H:PH) (Q:Sl->PH->Prop):Prop:=
 aj H (row [.pointer p0] 75) λa1 I=>
 aj I (row [.slice none 0 0] 36) λc r=>
 aH .pointer r a1 λK=>
 cv K true r λF J=>
 jZ F J λG m=>
 iX prog G (λ(l:List Value) (M:Unit) (a:PH) (j:Nat->Unit->PH->Prop)=>
 ∃(b:Int) (f:Int),l=[VI b,VI f]/\
 aL (f==(-1))
 (j 0 () a)
 (aH .pointer a a1 λy=>
 aP y λs=>
 aH .pointer a (s.add 0) λz=>
 qc z b f a λk d=>
 aO (mK 1 (λL (x:Unit)=>L 1=VA a1/\L 2=VA c/\L 3=VI b) (λx e=>
 aH .pointer e a1 λA=>
 aP A λt=>
 aH .pointer e (t.add 1) λB=>
 iN B b (-1) e λO n=>
 j 0 () n))
 λi=>
 aL (decide (0<k))
 (aH Sl.v d c λC=>
 bZ d (row [VI k] 3) 1 λu o=>
 fh o 3 1 8 [VI 0] C u λw p=>
 aV p c ([Sl.v w]) λq=>
 i () q)
 (i () d))) () m λ_ N g=>
 aH Sl.v g c λD=>
 aV g c ([Sl.v D]) λh=>
 aH Sl.v h c λE=>
 Q E h
def iP (p0:Option Addr) (p1:Int) (H:PH) (Q:Bool->PH->Prop):Prop:=
 aO (mK 3 (λg (s2:Bool)=>g 0=VP p0/\g 1=VI p1/\g 10=VB s2) (λs2 a=>
 aO (mK 8 (λg (b:Bool)=>g 19=VB b) (λb h=>
 Q b h))
 λe=>
 aL s2
 (aP p0 λc=>
 aH Sl.v a (c.add 1) λf=>
 e (decide (p1<(f.len:Int))) a)
 (e false a)))
 λd=>
 aL (!(Option.isNone p0))
 (d (decide (0<=p1)) H)
 (d false H)
def lN (p0:Option Addr) (p1:Int) (H:PH) (Q:Bool->PH->Prop):Prop:=
 iP p0 p1 H λo H1=>
 aO (mK 10 (λp (s4:Bool)=>p 0=VP p0/\p 1=VI p1/\p 19=VB s4) (λs4 a=>
 aL s4
 (Q false a)
 (mP [0,1]<|
 aP p0 λn=>
 mP [2,3]<|
 aH Sl.v a (n.add 1) λj=>
 mP [4,5,6]<|
 aP p0 λd=>
 mP [7,8]<|
 aH Sl.v a (d.add 2) λk=>
 mP [9,10]<|
 bX j 2 p1 λe=>
 mP [11,12]<|
 aV a (e.add 0) ([VI 1]) λb=>
 mP [13]<|
 bX k 1 p1 λf=>
 mP [14]<|
 aV b f ([VI 0]) λc=>
 Q true c)))
 λi=>
 aL (!o)
 (i true H1)
 (aP p0 λg=>
 aH Sl.v H1 (g.add 1) λl=>
 bX l 2 p1 λh=>
 aH (.int .i64) H1 (h.add 0) λm=>
 i (m != 0) H1)
def kc (p0:Option Addr) (p1:xl) (p2:Int) (H:PH) (Q:PH->Prop):Prop:=
 aj H (row (dG p1) 196) λa1 a=>
 aH (.int .i64) a (a1.add 0) λb=>
 aL (b==1)
 (mP [0,1]<|
 aP p0 λK=>
 mP [2,3]<|
 aH .pointer a (K.add 23) λL=>
 mP [4,5]<|
 aH (.int .i64) a (a1.add 1) λx=>
 mP [6,7]<|
 pn L x p2 a λM N c=>
 aP p0 λl=>
 aH (.int .i64) c ((l.add 24).add 3) λy=>
 aP p0 λm=>
 aV c ((m.add 24).add 3) ([VI (IntKind.wrap .i64 (y+1))]) λg=>
 Q g)
 (aL (b==2)
 (mP [0,1]<|
 aP p0 λn=>
 mP [2,3]<|
 aH .pointer a (n.add 23) λz=>
 mP [4,5]<|
 aH (.int .i64) a (a1.add 1) λA=>
 mP [6,7]<|
 aH (.int .i64) a (a1.add 2) λB=>
 mP [8]<|
 nt z A B a λO P d=>
 aP p0 λo=>
 aH (.int .i64) d ((o.add 24).add 3) λC=>
 aP p0 λp=>
 aV d ((p.add 24).add 3) ([VI (IntKind.wrap .i64 (C+1))]) λh=>
 Q h)
 (aL (b==3)
 (mP [0,1,2,3]<|
 aH (.int .i64) a (a1.add 3) λD=>
 mP [4,5]<|
 aP p0 λq=>
 mP [6,7,8]<|
 aH (.int .i64) a ((q.add 24).add 3) λE=>
 mP [9,10]<|
 aP p0 λr=>
 mP [11,12,13]<|
 aV a ((r.add 24).add 2) ([VI D]) λi=>
 mP [14]<|
 aP p0 λs=>
 mP [15,16,17]<|
 aV i ((s.add 24).add 3) ([VI (IntKind.wrap .i64 (E+1))]) λe=>
 aP p0 λt=>
 aH (.int .i64) e ((t.add 24).add 3) λF=>
 aP p0 λu=>
 aV e ((u.add 24).add 4) ([VI F]) λf=>
 aP p0 λv=>
 aH .pointer f (v.add 23) λG=>
 mA G f λR j=>
 Q j)
 (aL (b==5)
 (False)
 (aL (b==6)
 (False)
 (aL (b==4)
 (False)
 (aL (b==7)
 (mP [0,1]<|
 aP p0 λw=>
 mP [2,3]<|
 aH .pointer a (w.add 22) λI=>
 mP [4,5]<|
 aH (.int .i64) a (a1.add 3) λJ=>
 mP [6]<|
 lN I J a λS k=>
 Q k)
 (Q a)))))))
def ke (p0:Option Addr) (p1:Int) (p2:Int) (H:PH) (Q:PH->Prop):Prop:=
 iP p0 p1 H λk H1=>
 aO (mK 3 (λb (s4:Bool)=>b 0=VP p0/\b 1=VI p1/\b 2=VI p2/\b 12=VB s4) (λs4 f=>
 aO (mK 3 (λb (d:Bool)=>b 0=VP p0/\b 1=VI p1/\b 2=VI p2/\b 16=VB d) (λd a=>
 aL d
 (aP p0 λg=>
 aH Sl.v a (g.add 1) λj=>
 bX j 2 p1 λh=>
 aV a (h.add 1) ([VI p2]) λe=>
 Q e)
 (Q a)))
 λc=>
 aL s4
 (c (decide (p2<=2147483647)) f)
 (c false f)))
 λi=>
 aL k
 (i (decide (0<=p2)) H1)
 (i false H1)
def lO (p0:Option Addr) (p1:Int) (H:PH) (Q:PH->Prop):Prop:=
 iP p0 p1 H λk H1=>
 aO (mK 10 (λl (s4:Bool)=>l 0=VP p0/\l 1=VI p1/\l 17=VB s4) (λs4 a=>
 aL s4
 (aP p0 λj=>
 aH Sl.v a (j.add 1) λg=>
 bX g 2 p1 λc=>
 aV a (c.add 0) ([VI 2]) λb=>
 Q b)
 (Q a)))
 λf=>
 aL k
 (aP p0 λd=>
 aH Sl.v H1 (d.add 1) λh=>
 bX h 2 p1 λe=>
 aH (.int .i64) H1 (e.add 0) λi=>
 f (i==1) H1)
 (f false H1)
def sR (p0:Option Addr) (H:PH) (Q:iV->PH->Prop):Prop:=
 aj H (row gr 185) λa1 b=>
 aL (Option.isNone p0)
 (aV b a1 (gr) λc=>
 aT ag c a1 5 λg=>
 Q g c)
 (aP p0 λf=>
 aT ag b (f.add 7) 5 λd=>
 aV b a1 (ag d) λa=>
 aT ag a a1 5 λe=>
 Q e a)
def sS (p0:Option Addr) (H:PH) (Q:Int->PH->Prop):Prop:=
 aL (Option.isNone p0)
 (Q 1 H)
 (aP p0 λa=>
 aH (.int .i64) H (a.add 12) λb=>
 Q b H)
def nF (p0:Option Addr) (H:PH) (Q:Int->PH->Prop):Prop:=
 aj H (row [.pointer p0] 245) λa1 j=>
 mP [0]<|
 aH .pointer j a1 λx4=>
 mP [1]<|
 aP x4 λa6=>
 mP [2,3]<|
 aH .pointer j (a6.add 0) λx8=>
 mP [4]<|
 aH .pointer j a1 λaB=>
 mP [5]<|
 aP aB λau=>
 mP [6,7]<|
 aH .pointer j (au.add 1) λaC=>
 mP [8]<|
 aH .pointer j a1 λaD=>
 mP [9]<|
 aP aD λav=>
 mP [10,11,12]<|
 aT ag j ((av.add 7).add 6) 5 λaE=>
 mP [13]<|
 z7 x8 aC aE j λy s=>
 mP [14]<|
 aH .pointer s a1 λaF=>
 aP aF λaw=>
 aH (.int .i64) s (((aw.add 7).add 6).add 4) λaG=>
 aj s (row [VI 0] 3) λw ak=>
 aV ak w ([VI aG]) λal=>
 oM y al λaU am=>
 iX prog aU (λ(R:List Value) (a0:Unit) (an:PH) (G:Nat->Unit->PH->Prop)=>
 ∃(D:iV) (E:vR),R=[.agg (ag D).toArray,.agg (cT E).toArray]/\
 aj an (row gr 185) λa ao=>
 aV ao a (ag D) λap=>
 aj ap (row Ay 273) λb aq=>
 aV aq b (cT E) λh=>
 aH (.int .i64) h (b.add 0) λaI=>
 aH (.int .i64) h w λaJ=>
 aO (mK 1 (λf (aA:Unit)=>f 1=VA a1/\f 2=VI 0/\f 5=VA a/\f 6=VA b) (λaA i=>
 mP [0]<|
 aH .pointer i a1 λaK=>
 mP [1]<|
 aP aK λax=>
 mP [2,3]<|
 aH .pointer i (ax.add 1) λaM=>
 mP [4,5]<|
 aH (.int .i64) i (a.add 0) λaN=>
 mP [7,8]<|
 aH (.int .i64) i (a.add 1) λF=>
 mP [6]<|
 gO aM aN i λaW t=>
 ay t (a.add 1) (VI F)<|
 mP [9,10]<|
 aH Sl.v t (b.add 3) λg=>
 bw (mL (λf (c:Int×Int)=>f 1=VA a1/\f 2=VI 0/\f 5=VA a/\f 6=VA b/\f 7=VI c.1/\f 55=Sl.v g/\f 56=VI (g.len:Int)/\f 57=VI c.2) (λc e m=>
 aL (decide (c.2<(g.len:Int)))
 (bX g 4 c.2 λaz=>
 aT dG e az 4 λaQ=>
 aj e (row uQ 196) λk ar=>
 aV ar k (dG aQ) λz=>
 aT dG z k 4 λaR=>
 pT aR z λaX A=>
 aO (mK 1 (λf (l:Int)=>f 1=VA a1/\f 2=VI 0/\f 5=VA a/\f 6=VA b/\f 7=VI l/\f 9=VA k/\f 55=Sl.v g/\f 56=VI (g.len:Int)/\f 57=VI c.2) (λl u=>
 aH .pointer u a1 λaS=>
 aT dG u k 4 λS=>
 kc aS S l u λI=>
 m (l,IntKind.wrap .i64 (c.2+1)) I))
 λC=>
 aL aX
 (C (IntKind.wrap .i64 (c.1+1)) A)
 (C c.1 A))
 (mP [0]<|
 aH .pointer e a1 λT=>
 mP [1]<|
 aP T λN=>
 mP [2,3]<|
 aH .pointer e (N.add 22) λU=>
 mP [4,5]<|
 aH (.int .i64) e (a.add 0) λV=>
 mP [6,7]<|
 aH (.int .i64) e (b.add 1) λX=>
 mP [8]<|
 ke U V X e λn=>
 aT cT n b 5 λY=>
 pU Y n λaZ af d=>
 aL af
 (mP [0]<|
 aH .pointer d a1 λZ=>
 mP [1]<|
 aP Z λO=>
 mP [2,3]<|
 aH .pointer d (O.add 22) λaa=>
 mP [4,5]<|
 aH (.int .i64) d (a.add 0) λab=>
 mP [6]<|
 lO aa ab d λJ=>
 G 0 () J)
 (G 0 () d))))
 (IntKind.wrap .i64 (aW+F),0) t))
 λB=>
 aL (decide (aJ<aI))
 (aH (.int .i64) h (b.add 0) λac=>
 aV h w ([VI ac]) λo=>
 aH .pointer o a1 λad=>
 ja ad o λK=>
 B () K)
 (B () h)) () am λ_ aY p=>
 mP [0]<|
 aH .pointer p a1 λx=>
 mP [1,2]<|
 sR y p λah q=>
 ay q a1 (.pointer x)<|
 mP [3]<|
 aP x λP=>
 mP [4,5]<|
 aV q (P.add 34) (ag ah) λr=>
 aH .pointer r a1 λae=>
 ja ae r λL=>
 sS y L λai M=>
 Q ai M
def sE {γ:Type} (c0:Addr) (u:Value) (Y:List Value->γ->PH->(Nat->γ->PH->Prop)->Prop) (g:γ) (H:PH) (Q:Nat->γ->PH->Prop):Prop:=
 aj H (row [u] 135) λa1 v=>
 aH .pointer v c0 λJ=>
 cv J false v λK G=>
 jZ K G λL I=>
 iX prog L (λ(t:List Value) (o:Nat×γ) (e:PH) (r:Nat->(Nat×γ)->PH->Prop)=>
 ∃(d:Int) (i:Int),t=[VI d,VI i]/\
 aH .pointer e c0 λC=>
 aP C λz=>
 aH .pointer e (z.add 1) λD=>
 gL D d e λs M f=>
 aO (λ(c:Bool×(Nat×γ)) (a:PH)=>
 aO (λ(h:Bool×(Nat×γ)) (j:PH)=>
 aL h.1
 (r 1 h.2 j)
 (r 0 h.2 j))
 λm=>
 aL c.1
 (m (true,c.2) a)
 (aO (λ(B:Bool×(Nat×γ)) (w:PH)=>
 m B w)
 λn=>
 aL (decide (0<s))
 (aH id a a1 λE=>
 qk (E=u)<|
 uO Y c.2 [VI d,VI s] a λp x=>
 n (!(p.1==0),p) x)
 (n (false,c.2) a)))
 λl=>
 aL (decide (0<i))
 (aH id f a1 λF=>
 qk (F=u)<|
 uO Y o [VI d,VI i] f λq y=>
 l (!(q.1==0),q) y)
 (l (false,o) f)) (0,g) I λA b k=>
 aL (A==1)
 (Q b.1 b.2 k)
 (Q b.1 b.2 k)
def nu (p0:Option Addr) (H:PH) (Q:Value->PH->Prop):Prop:=
 aj H (row [.pointer p0] 75) λa1 a=>
 Q (.func (.func 139) #[] #[.pointer (some a1)]) a
def mJ (p0:Option Addr) (p1:Int) (p2:Int) (H:PH) (Q:Bool->PH->Prop):Prop:=
 aL (Option.isNone p0)
 (Q false H)
 (aP p0 λw=>
 aH .pointer H (w.add 0) λx=>
 ot x p1 H λc y e a=>
 aO (mB (λz (cr:Unit)=>z 9=VB e) (λcr f=>
 Q e f))
 λb=>
 aL (!e)
 (b () a)
 (aP p0 λi=>
 aH Sl.v a (i.add 2) λq=>
 bX q 1 c λj=>
 aH (.int .i64) a j λr=>
 aL (decide ((IntKind.wrap .i64 (2147483647-r))<p2))
 (aP p0 λk=>
 aH Sl.v a (k.add 2) λs=>
 bX s 1 c λl=>
 aV a l ([VI 2147483647]) λg=>
 b () g)
 (mP [0,1]<|
 aP p0 λm=>
 mP [2,3]<|
 aH Sl.v a (m.add 2) λt=>
 mP [4,5,6]<|
 aP p0 λn=>
 mP [7,8]<|
 aH Sl.v a (n.add 2) λu=>
 mP [9,10]<|
 bX u 1 c λo=>
 mP [11]<|
 aH (.int .i64) a o λd=>
 mP [12,13,14,15]<|
 bX t 1 c λp=>
 mP [16]<|
 aV a p ([VI (if(IntKind.wrap .i64 (d+p2))< 0 then 0 else(IntKind.wrap .i64 (d+p2)))]) λh=>
 b () h)))
def yV (p0:Option Addr) (p1:Option Addr) (p2:Option Addr) (p3:iV) (H:PH) (Q:Option Addr->PH->Prop):Prop:=
 aj H (row (ag p3) 185) λa1 h=>
 aO (mK 3 (λb (s5:Bool)=>b 0=VP p0/\b 1=VP p1/\b 2=VP p2/\b 7=VA a1/\b 14=VB s5) (λs5 k=>
 aO (mK 3 (λb (cr:Bool)=>b 0=VP p0/\b 1=VP p1/\b 2=VP p2/\b 7=VA a1/\b 18=VB cr) (λcr c=>
 aO (mK 5 (λb (e:Bool)=>b 0=VP p0/\b 1=VP p1/\b 2=VP p2/\b 7=VA a1/\b 24=VB e) (λe d=>
 aL e
 (Q none d)
 (aT ag d a1 5 λa=>
 aj d (row [.pointer p0,.pointer p1,.pointer p2,VI a.1,VI a.2.1,VI a.2.2.1,VI a.2.2.2.1,VI a.2.2.2.2,Sl.v Sl.nil,Sl.v Sl.nil] 277) λl i=>
 Q (some l) i)))
 λg=>
 aL cr
 (g true c)
 (aT ag c a1 5 λn=>
 rS p1 n c λo j=>
 g (!o) j)))
 λf=>
 aL s5
 (f true k)
 (f (Option.isNone p2) k)))
 λm=>
 aL (Option.isNone p0)
 (m true h)
 (m (Option.isNone p1) h)
def pq (p0:Option Addr) (p1:Int) (H:PH) (Q:Int->PH->Prop):Prop:=
 iP p0 p1 H λe H1=>
 aL (!e)
 (Q 0 H1)
 (aP p0 λb=>
 aH Sl.v H1 (b.add 1) λd=>
 bX d 2 p1 λc=>
 aH (.int .i64) H1 (c.add 0) λa=>
 Q a H1)
def oN (p0:Option Addr) (H:PH) (Q:Option Addr->Int->PH->Prop):Prop:=
 aj H (row [.pointer p0] 245) λa1 N=>
 aH .pointer N a1 λx4=>
 aP x4 λa6=>
 aH .pointer N (a6.add 23) λx8=>
 nu x8 N λbe az=>
 iX prog be (λ(aa:List Value) (bh:Unit) (w:PH) (bf:Nat->Unit->PH->Prop)=>
 ∃(aR:Int) (I:Int),aa=[VI aR,VI I]/\
 aH .pointer w a1 λaS=>
 aP aS λaB=>
 aH .pointer w (aB.add 22) λaU=>
 mJ aU I 1 w λbj aA=>
 bf 0 () aA) () az λ_ bi x=>
 aH .pointer x a1 λJ=>
 aP J λaC=>
 aH (.int .i64) x ((aC.add 2).add 4) λaW=>
 aP J λaD=>
 aV x ((aD.add 2).add 4) ([VI (IntKind.wrap .i64 (aW+1))]) λg=>
 mP [0]<|
 aH .pointer g a1 λaX=>
 mP [1]<|
 aH .pointer g a1 λK=>
 mP [2]<|
 aH .pointer g a1 λaY=>
 mP [3]<|
 aP aY λaE=>
 mP [4,5,6]<|
 aH (.int .i64) g ((aE.add 2).add 4) λaZ=>
 mP [7]<|
 aH .pointer g a1 λa0=>
 mP [8]<|
 aP a0 λaF=>
 mP [9,10,11]<|
 aH (.int .i64) g ((aF.add 2).add 4) λa2=>
 mP [12]<|
 aP aX λaG=>
 mP [13,14,15]<|
 aV g ((aG.add 24).add 5) ([VI aZ]) λF=>
 ay F a1 (.pointer K)<|
 mP [16]<|
 aP K λaI=>
 mP [17,18,19]<|
 aV F ((aI.add 34).add 4) ([VI a2]) λc=>
 mP [0]<|
 aH .pointer c a1 λa3=>
 mP [1]<|
 aP a3 λaJ=>
 mP [2,3]<|
 aH .pointer c (aJ.add 0) λa4=>
 mP [4]<|
 aH .pointer c a1 λa5=>
 mP [5]<|
 aP a5 λaK=>
 mP [6,7]<|
 aH .pointer c (aK.add 1) λa7=>
 mP [8]<|
 aH .pointer c a1 λa8=>
 mP [9]<|
 aP a8 λaM=>
 mP [10,11]<|
 aH .pointer c (aM.add 22) λa9=>
 mP [12]<|
 aH .pointer c a1 λba=>
 mP [13]<|
 aP ba λaN=>
 mP [14,15]<|
 aT ag c (aN.add 34) 5 λbb=>
 mP [16]<|
 yV a4 a7 a9 bb c λj y=>
 mP [17]<|
 aH .pointer y a1 λbc=>
 aP bc λaQ=>
 aT ag y (aQ.add 2) 5 λbd=>
 nq bd y λt bg G=>
 mP [0,1,2]<|
 aO (mQ 63 [] (λu (n:Bool)=>u 1=VA a1/\u 6=VP j/\u 7=Sl.v t/\u 81=VB n) (λn d=>
 mP [6]<|
 aO (mQ 524287 [15,11,10,7] (λu (o:Bool)=>u 1=VA a1/\u 6=VP j/\u 7=Sl.v t/\u 94=VB o) (λo a=>
 aL o
 (Q none 2 a)
 (aO (mK 1 (λu (i:Int)=>u 1=VA a1/\u 6=VP j/\u 7=Sl.v t/\u 9=VI i) (λi b=>
 aL (i != 0)
 (Q none i b)
 (mP [0]<|
 aH .pointer b a1 λC=>
 mP [1]<|
 aP C λz=>
 mP [2,3]<|
 aH .pointer b (z.add 0) λD=>
 mP [4]<|
 aH .pointer b a1 λab=>
 mP [5]<|
 aP ab λP=>
 mP [6,7]<|
 aH .pointer b (P.add 1) λac=>
 mP [8]<|
 aH .pointer b a1 λad=>
 mP [9]<|
 aP ad λR=>
 mP [10,11,12]<|
 aH (.int .i64) b ((R.add 2).add 4) λae=>
 mP [13,15,14]<|
 mH ac (Int.tmod ae 2) b λar k=>
 ay k (z.add 0) (.pointer D)<|
 ay k a1 (.pointer C)<|
 mP [16]<|
 gB D ar t k λE h=>
 mP [17]<|
 aL (E != 0)
 (Q none E h)
 (aH .pointer h a1 λaf=>
 aP af λS=>
 aH .pointer h (S.add 0) λah=>
 gC ah h λau L=>
 Q j au L))))
 λY=>
 mP [0]<|
 aH .pointer a a1 λp=>
 mP [1]<|
 aP p λl=>
 mP [2,3]<|
 aH .pointer a (l.add 0) λq=>
 mP [4]<|
 aH .pointer a a1 λai=>
 mP [5]<|
 aP ai λT=>
 mP [6,7]<|
 aH .pointer a (T.add 1) λak=>
 mP [8]<|
 aH .pointer a a1 λal=>
 mP [9]<|
 aP al λU=>
 mP [10,11,12]<|
 aH (.int .i64) a ((U.add 34).add 0) λam=>
 mP [14]<|
 aH .pointer a a1 λr=>
 mP [15]<|
 aP r λm=>
 mP [16,17,18]<|
 aH (.int .i64) a ((m.add 34).add 1) λs=>
 qk (sd 1 64 64)<|
 mV [] 13 [13,20]<|
 gO ak am a λav e=>
 ay e ((m.add 34).add 1) (VI s)<|
 ay e a1 (.pointer r)<|
 ay e (l.add 0) (.pointer q)<|
 ay e a1 (.pointer p)<|
 mP [19,20]<|
 lq e (row (cN (64:Int).toNat [.int .u8 0]) 5) 64 64 λZ f=>
 ay f ((m.add 34).add 1) (VI s)<|
 ay f a1 (.pointer r)<|
 ay f (l.add 0) (.pointer q)<|
 ay f a1 (.pointer p)<|
 mP [21]<|
 gB q (IntKind.wrap .i64 (av+s)) Z f λaw M=>
 mP [22]<|
 Y aw M)))
 λB=>
 aL n
 (mP [7,8,9,10,11,12,13,14,15,16,17,18]<|
 B true d)
 (mP [7]<|
 aH .pointer d a1 λan=>
 mP [8]<|
 aP an λV=>
 mP [9,10]<|
 aH .pointer d (V.add 22) λao=>
 mP [11]<|
 aH .pointer d a1 λap=>
 mP [12]<|
 aP ap λX=>
 mP [13,14,15]<|
 aH (.int .i64) d ((X.add 34).add 0) λaq=>
 mP [16]<|
 pq ao aq d λax O=>
 mP [17,18]<|
 B (ax != 1) O)))
 λA=>
 aL (bg != 0)
 (mP [3,4,5]<|
 A true G)
 (mP [3,4,5]<|
 A (Option.isNone j) G)
def yW (p0:Option Addr) (p1:Option Addr) (p2:Option Addr) (p3:Option Addr) (p4:Option Addr) (p5:Int) (l:jq) (m:zI) (H:PH) (Q:Option Addr->PH->Prop):Prop:=
 aj H (row (bI l) 237) λa1 k=>
 aj k (row (dB m) 42) λf c=>
 mP [0,1,2,3,4,5]<|
 aT dB c f 10 λa=>
 mP [6,7,8]<|
 aH Sl.v c (a1.add 11) λn=>
 mP [10,11]<|
 aH Sl.v c (a1.add 12) λe=>
 mP [9]<|
 df n c λi b=>
 ay b (a1.add 12) (Sl.v e)<|
 gQ b f 10 (dB a)<|
 mP [12]<|
 df e b λj d=>
 gQ d f 10 (dB a)<|
 mP [13,14,15]<|
 aj d (row [.pointer p0,.pointer p4,.pointer p1,.pointer p2,.pointer p3,VI a.1,VI a.2.1,VI a.2.2.1,VI a.2.2.2.1,VI a.2.2.2.2.1,VI a.2.2.2.2.2.1,VI a.2.2.2.2.2.2.1,VI a.2.2.2.2.2.2.2.1,VI a.2.2.2.2.2.2.2.2.1,VI a.2.2.2.2.2.2.2.2.2,VI p5,Sl.v i,Sl.v j] 116) λh g=>
 mP [16]<|
 Q (some h) g
def yX (p0:Option Addr) (H:PH) (Q:Option Addr->Int->PH->Prop):Prop:=
 aL (Option.isNone p0)
 (Q none 1 H)
 (aj H (row [.pointer p0,.pointer none,VI 0,VI 0,VI 0,VI 0,VI 0,VI 0,VI 0,VI 0,VI 0,VI 0,VI 0,VI 0,VI 0,VI 0,VI 0,VI 0,Sl.v Sl.nil,Sl.v Sl.nil,Sl.v Sl.nil,VI 0,.pointer none,.pointer none,VI 0,VI 0,VI 0,VI 0,VI 0,VI 0,VI 0,VI 0,VI 0,VI 0,VI 0,VI 0,VI 0,VI 0,VI 0] 247) λa z=>
 oq (some a) z λx l=>
 aL (x != 0)
 (Q none x l)
 (oL (some a) l λy j=>
 aL (y != 0)
 (Q none y j)
 (aH Sl.v j ((a.add 7).add 11) λm=>
 ly (some a) false m j λf c=>
 aL (f != 0)
 (Q none f c)
 (aH Sl.v c ((a.add 7).add 12) λn=>
 ly (some a) true n c λg d=>
 aL (g != 0)
 (Q none g d)
 (nF (some a) d λh e=>
 aL (h != 0)
 (Q none h e)
 (oN (some a) e λu i b=>
 aL (i != 0)
 (Q none i b)
 (mP [0,1,2,3,4]<|
 aH .pointer b (a.add 22) λo=>
 mP [5,6,7,8]<|
 aH .pointer b (a.add 23) λp=>
 mP [9,10,11,12,13]<|
 aH .pointer b (a.add 1) λq=>
 mP [14,15,16,17]<|
 aH (.int .i64) b (a.add 21) λr=>
 mP [18,19,20,21]<|
 aT bI b (a.add 7) 14 λs=>
 mP [22,23,24,25]<|
 aT dB b (a.add 24) 10 λt=>
 mP [26]<|
 yW p0 o p u q r s t b λw k=>
 mP [27,28]<|
 Q w 0 k)))))))
def lP (p0:Option Addr) (H:PH) (Q:Int->PH->Prop):Prop:=
 aL (Option.isNone p0)
 (Q 0 H)
 (aP p0 λo=>
 aH Sl.v H (o.add 1) λb=>
 bw (mL (λf (a:Int×Int)=>f 2=VI a.1/\f 10=Sl.v b/\f 11=VI (b.len:Int)/\f 12=VI a.2) (λa i d=>
 aL (decide (a.2<(b.len:Int)))
 (aO (mB (λf (e:Int)=>f 2=VI e/\f 10=Sl.v b/\f 11=VI (b.len:Int)/\f 12=VI a.2) (λe j=>
 d (e,IntKind.wrap .i64 (a.2+1)) j))
 λh=>
 bX b 2 a.2 λl=>
 aT dx i l 2 λm=>
 aj i (row [VI 0,VI 0] 210) λg k=>
 aV k g (dx m) λc=>
 aH (.int .i64) c (g.add 0) λn=>
 aL (n==0)
 (h (IntKind.wrap .i64 (a.1+1)) c)
 (h a.1 c))
 (Q a.1 i)))
 (0,0) H)
def oO (p0:Option Addr) (H:PH) (Q:Int->PH->Prop):Prop:=
 aj H (row [VI 0] 3) λa1 l=>
 cv p0 true l λo m=>
 jZ o m λp n=>
 iX prog p (λ(g:List Value) (r:Unit) (a:PH) (e:Nat->Unit->PH->Prop)=>
 ∃(h:Int) (d:Int),g=[VI h,VI d]/\
 aL (d != (-1))
 (aH (.int .i64) a a1 λi=>
 aV a a1 ([VI (IntKind.wrap .i64 (i+1))]) λf=>
 e 0 () f)
 (e 0 () a)) () n λ_ q b=>
 aH (.int .i64) b a1 λj=>
 aV b a1 ([VI j]) λc=>
 aH (.int .i64) c a1 λk=>
 Q k c
def eI (p0:Option Addr) (H:PH) (Q:zI->PH->Prop):Prop:=
 aj H (row lv 42) λa1 j=>
 aL (Option.isNone p0)
 (aV j a1 (lv) λq=>
 aT dB q a1 10 λG=>
 Q G q)
 (aP p0 λF=>
 aT dB j (F.add 5) 10 λt=>
 aj j (row lv 42) λa l=>
 aV l a (dB t) λb=>
 mP [0,1]<|
 aP p0 λr=>
 mP [2,3]<|
 aH .pointer b (r.add 2) λu=>
 mP [5,6]<|
 aP p0 λh=>
 mP [7,8]<|
 aH .pointer b (h.add 3) λi=>
 mP [4]<|
 lP u b λB c=>
 ay c (h.add 3) (.pointer i)<|
 mP [10,9]<|
 oO i c λC m=>
 mP [11]<|
 aV m (a.add 7) ([VI B]) λn=>
 mP [12,13]<|
 aV n (a.add 9) ([VI C]) λd=>
 aP p0 λs=>
 aH .pointer d (s.add 3) λv=>
 nu v d λD o=>
 iX prog D (λ(k:List Value) (I:Unit) (e:PH) (E:Nat->Unit->PH->Prop)=>
 ∃(w:Int) (x:Int),k=[VI w,VI x]/\
 aH (.int .i64) e (a.add 8) λy=>
 aV e (a.add 8) ([VI (IntKind.wrap .i64 (y+1))]) λp=>
 E 0 () p) () o λ_ J f=>
 aT dB f a 10 λz=>
 aV f a1 (dB z) λg=>
 aT dB g a1 10 λA=>
 Q A g)
def pr (p0:Int) (p1:Int) (H:PH) (Q:Option Addr->PH->Prop):Prop:=
 aO (mK 3 (λb (s2:Bool)=>b 0=VI p0/\b 1=VI p1/\b 10=VB s2) (λs2 h=>
 aO (mK 3 (λb (e:Bool)=>b 0=VI p0/\b 1=VI p1/\b 14=VB e) (λe i=>
 aO (mK 3 (λb (a:Bool)=>b 0=VI p0/\b 1=VI p1/\b 18=VB a) (λa c=>
 aL a
 (Q none c)
 (zA c 223 64 Jk p0 p0 λm f=>
 aj f (row [Sl.v m,VI p1] 221) λj g=>
 Q (some j) g)))
 λd=>
 aL e
 (d true i)
 (d (decide (2147483647<p1)) i)))
 λl=>
 aL s2
 (l true h)
 (l (decide (p1< 1)) h)))
 λk=>
 aL (decide (p0< 1))
 (k true H)
 (k (decide (16<p0)) H)
def AY (p0:Option Addr) (p1:Int) (H:PH) (Q:Option Addr->PH->Prop):Prop:=
 eI p0 H λh H1=>
 pr p1 (IntKind.wrap .i64 (h.2.2.2.1+1)) H1 λb d=>
 aO (mK 3 (λi (a:Bool)=>i 0=VP p0/\i 5=VP b/\i 17=VB a) (λa e=>
 aL a
 (Q none e)
 (aj e (row [.pointer p0,.pointer b] 142) λf c=>
 Q (some f) c)))
 λg=>
 aL (Option.isNone p0)
 (g true d)
 (g (Option.isNone b) d)
def wB (p0:Option Addr) (p1:Int) (H:PH) (Q:Option Addr->Int->PH->Prop):Prop:=
 aO (mK 3 (λj (s2:Bool)=>j 0=VP p0/\j 1=VI p1/\j 13=VB s2) (λs2 c=>
 aL s2
 (Q none 1 c)
 (yX p0 c λi h d=>
 aL (h != 0)
 (Q none h d)
 (AY i p1 d λg a=>
 aj a (row [.pointer g] 139) λe b=>
 Q (some e) 0 b))))
 λf=>
 aL (decide (p1< 1))
 (f true H)
 (f (decide (16<p1)) H)
def zM (H:PH) (Q:Option Addr->PH->Prop):Prop:=
 aj H (row [Sl.v Sl.nil] 167) λa1 a=>
 Q (some a1) a
def xN (p0:yQ) (p1:Int) (H:PH) (Q:Option Addr->Int->PH->Prop):Prop:=
 aj H (row (fZ p0) 25) λa1 m=>
 aT fZ m a1 3 λA=>
 qt A m λx B z=>
 yR 1 p1 z λc q=>
 aO (mK 3 (λy (b:Bool)=>y 1=VI p1/\y 2=VA a1/\y 6=VP x/\y 8=VP c/\y 24=VB b) (λb e=>
 aL b
 (Q none 1 e)
 (jS x e λt l=>
 xm t l λd i a=>
 aL (i != 0)
 (Q none i a)
 (aT fZ a a1 3 λs=>
 wA d s 1 a λj f=>
 aL (j != 0)
 (Q none j f)
 (wB d p1 f λu k g=>
 aL (k != 0)
 (Q none k g)
 (zM g λv n=>
 zM n λw o=>
 aj o (row [VI p1,.pointer d,.pointer u,.pointer c,.pointer v,.pointer w] 83) λr p=>
 Q (some r) 0 p))))))
 λh=>
 aL (B != 0)
 (h true q)
 (h (Option.isNone c) q)
def ff (p0:Option Addr) (H:PH) (Q:Option Addr->PH->Prop):Prop:=
 aL (Option.isNone p0)
 (Q none H)
 (aP p0 λa=>
 aH .pointer H (a.add 2) λb=>
 Q b H)
def nG (p0:Option Addr) (H:PH) (Q:Option Addr->PH->Prop):Prop:=
 aL (Option.isNone p0)
 (Q none H)
 (aP p0 λa=>
 aH .pointer H (a.add 1) λb=>
 Q b H)
def lY (p0:Option Addr) (H:PH) (Q:Option Addr->PH->Prop):Prop:=
 aL (Option.isNone p0)
 (Q none H)
 (aP p0 λa=>
 aH .pointer H (a.add 3) λb=>
 Q b H)
def ov (p0:Option Addr) (H:PH) (Q:Option Addr->PH->Prop):Prop:=
 aL (Option.isNone p0)
 (Q none H)
 (aP p0 λa=>
 aH .pointer H (a.add 4) λb=>
 Q b H)
def nH (p0:Option Addr) (H:PH) (Q:Option Addr->PH->Prop):Prop:=
 aL (Option.isNone p0)
 (Q none H)
 (aP p0 λa=>
 aH .pointer H (a.add 5) λb=>
 Q b H)
def sT (p0:Option Addr) (H:PH) (Q:Option Addr->PH->Prop):Prop:=
 aL (Option.isNone p0)
 (Q none H)
 (aP p0 λa=>
 aH .pointer H (a.add 0) λb=>
 Q b H)
def qP (p0:Option Addr) (H:PH) (Q:Option Addr->PH->Prop):Prop:=
 aL (Option.isNone p0)
 (Q none H)
 (aP p0 λa=>
 aH .pointer H (a.add 0) λb=>
 Q b H)
def fE (p0:Option Addr) (H:PH) (Q:Option Addr->PH->Prop):Prop:=
 sT p0 H λb H1=>
 qP b H1 λc a=>
 Q c a
def kf (p0:Option Addr) (H:PH) (Q:Option Addr->PH->Prop):Prop:=
 aL (Option.isNone p0)
 (Q none H)
 (aP p0 λa=>
 aH .pointer H (a.add 2) λb=>
 Q b H)
def kg (p0:Option Addr) (H:PH) (Q:Option Addr->PH->Prop):Prop:=
 aL (Option.isNone p0)
 (Q none H)
 (aP p0 λa=>
 aH .pointer H (a.add 3) λb=>
 Q b H)
def nv (p0:Option Addr) (H:PH) (Q:Option Addr->PH->Prop):Prop:=
 aL (Option.isNone p0)
 (Q none H)
 (aP p0 λa=>
 aH .pointer H (a.add 1) λb=>
 Q b H)
def nw (p0:yQ) (p1:Int) (H:PH) (Q:Option Addr->Bool->PH->Prop):Prop:=
 aj H (row (fZ p0) 25) λa1 D=>
 aT fZ D a1 3 λx4=>
 xN x4 p1 D λa y8 I=>
 aO (mK 3 (λb (cr:Bool)=>b 6=VP a/\b 20=VB cr) (λcr l=>
 aO (mK 4 (λb (d:Bool)=>b 6=VP a/\b 25=VB d) (λd m=>
 aO (mK 4 (λb (e:Bool)=>b 6=VP a/\b 30=VB e) (λe n=>
 aO (mK 4 (λb (f:Bool)=>b 6=VP a/\b 35=VB f) (λf o=>
 aO (mK 4 (λb (g:Bool)=>b 6=VP a/\b 40=VB g) (λg p=>
 aO (mK 4 (λb (h:Bool)=>b 6=VP a/\b 45=VB h) (λh q=>
 aL h
 (Q none false q)
 (ff a q λR E=>
 fE R E λc r=>
 aO (mK 4 (λb (i:Bool)=>b 8=VP c/\b 49=VP a/\b 56=VB i) (λi s=>
 aO (mK 4 (λb (j:Bool)=>b 8=VP c/\b 49=VP a/\b 61=VB j) (λj t=>
 aO (mK 4 (λb (k:Bool)=>b 49=VP a/\b 66=VB k) (λk F=>
 Q a k F))
 λC=>
 aL j
 (nv c t λS G=>
 C (!(Option.isNone S)) G)
 (C false t)))
 λB=>
 aL i
 (kg c s λT J=>
 B (!(Option.isNone T)) J)
 (B false s)))
 λA=>
 aL (!(Option.isNone c))
 (kf c r λU K=>
 A (!(Option.isNone U)) K)
 (A false r))))
 λz=>
 aL g
 (z true p)
 (nH a p λV L=>
 z (Option.isNone V) L)))
 λy=>
 aL f
 (y true o)
 (ov a o λX M=>
 y (Option.isNone X) M)))
 λx=>
 aL e
 (x true n)
 (lY a n λY N=>
 x (Option.isNone Y) N)))
 λw=>
 aL d
 (w true m)
 (nG a m λZ O=>
 w (Option.isNone Z) O)))
 λv=>
 aL cr
 (v true l)
 (ff a l λaa P=>
 v (Option.isNone aa) P)))
 λu=>
 aL (y8 != 0)
 (u true I)
 (u (Option.isNone a) I)
def uV (p0:Int) (p1:Int) (H:PH) (Q:Int->PH->Prop):Prop:=
 Ar p1<|
 Ar p1<|
 Q (Int.tmod (IntKind.wrap .i64 ((Int.tmod p0 p1)+p1)) p1) H
def wC (p0:Int) (H:PH) (Q:Sl->PH->Prop):Prop:=
 zA H 5 1 [.int .u8 0] 64 64 λr1 h=>
 bw (mL (λg (s5:Int)=>g 0=VI p0/\g 3=Sl.v r1/\g 7=VI (r1.len:Int)/\g 8=VI s5) (λs5 d a=>
 aL (decide (s5<(r1.len:Int)))
 (uV p0 256 d λf b=>
 bX r1 1 s5 λe=>
 aV b e ([.int .u8 (IntKind.wrap .u8 (IntKind.wrap .i64 (f+s5)))]) λc=>
 a (IntKind.wrap .i64 (s5+1)) c)
 (Q r1 d)))
 0 h
def yY (p0:jk) (H:PH) (Q:jk->PH->Prop):Prop:=
 aj H (row (bS p0) 54) λa1 e=>
 aj e (row nE 54) λc b=>
 aH (.int .i64) b (a1.add 0) λf=>
 aH (.int .i64) b (a1.add 1) λg=>
 aV b c ([VI f,VI g,VI 0,VI 0,VI 0,VI 0,VI 0,Sl.v Sl.nil]) λa=>
 aT bS a c 8 λd=>
 Q d a
def dy (p0:Int) (p1:Int) (p2:Int) (H:PH) (Q:Bool->PH->Prop):Prop:=
 aO (mK 4 (λc (s2:Bool)=>c 14=VB s2) (λs2 b=>
 Q s2 b))
 λa=>
 aL (decide (p1<=p0))
 (a (decide (p0<=p2)) H)
 (a false H)
def tj (p0:jk) (p1:jk) (H:PH) (Q:Bool->PH->Prop):Prop:=
 aj H (row (bS p0) 54) λa1 R=>
 aj R (row (bS p1) 54) λa i=>
 aH (.int .i64) i (a1.add 0) λS=>
 aH (.int .i64) i (a.add 0) λT=>
 aO (mK 6 (λb (j:Bool)=>b 2=VA a1/\b 3=VA a/\b 16=VB j) (λj c=>
 aO (mK 6 (λb (k:Bool)=>b 2=VA a1/\b 3=VA a/\b 23=VB k) (λk d=>
 aO (mK 6 (λb (l:Bool)=>b 2=VA a1/\b 3=VA a/\b 30=VB l) (λl e=>
 aO (mK 6 (λb (m:Bool)=>b 2=VA a1/\b 3=VA a/\b 37=VB m) (λm f=>
 aO (mK 6 (λb (n:Bool)=>b 2=VA a1/\b 3=VA a/\b 44=VB n) (λn g=>
 aO (mK 6 (λb (o:Bool)=>b 2=VA a1/\b 3=VA a/\b 51=VB o) (λo h=>
 aO (mK 6 (λb (p:Bool)=>b 58=VB p) (λp y=>
 Q p y))
 λx=>
 aL o
 (aH Sl.v h (a1.add 7) λA=>
 aH Sl.v h (a.add 7) λB=>
 jA A B h λP z=>
 x P z)
 (x false h)))
 λw=>
 aL n
 (aH (.int .i64) g (a1.add 6) λC=>
 aH (.int .i64) g (a.add 6) λD=>
 w (C==D) g)
 (w false g)))
 λu=>
 aL m
 (aH (.int .i64) f (a1.add 5) λE=>
 aH (.int .i64) f (a.add 5) λF=>
 u (E==F) f)
 (u false f)))
 λt=>
 aL l
 (aH (.int .i64) e (a1.add 4) λG=>
 aH (.int .i64) e (a.add 4) λI=>
 t (G==I) e)
 (t false e)))
 λs=>
 aL k
 (aH (.int .i64) d (a1.add 3) λJ=>
 aH (.int .i64) d (a.add 3) λK=>
 s (J==K) d)
 (s false d)))
 λr=>
 aL j
 (aH (.int .i64) c (a1.add 2) λL=>
 aH (.int .i64) c (a.add 2) λM=>
 r (L==M) c)
 (r false c)))
 λq=>
 aL (S==T)
 (aH (.int .i64) i (a1.add 1) λN=>
 aH (.int .i64) i (a.add 1) λO=>
 q (N==O) i)
 (q false i)
def vT (p0:jk) (H:PH) (Q:Bool->PH->Prop):Prop:=
 aj H (row (bS p0) 54) λa1 H2=>
 aT bS H2 a1 8 λx4=>
 yY x4 H2 λy7 H6=>
 aj H6 (row nE 54) λb H9=>
 aV H9 b (bS y7) λN=>
 aH (.int .i64) N (a1.add 1) λaR=>
 dy aR 1 2147483647 N λe p=>
 aH (.int .i64) p (a1.add 0) λaS=>
 aO (mK 1 (λa (aQ:Unit)=>a 1=VA a1/\a 3=VA b/\a 4=VB e) (λaQ O=>
 aH (.int .i64) O (a1.add 2) λaU=>
 dy aU 1 2147483647 O λM P=>
 aH (.int .i64) P (a1.add 3) λaW=>
 dy aW 0 63 P λs c=>
 aH (.int .i64) c (a1.add 0) λg=>
 aO (mB (λa (C:Bool)=>a 1=VA a1/\a 3=VA b/\a 4=VB C) (λC q=>
 aO (mK 4 (λa (D:Bool)=>a 117=VB D) (λD aK=>
 Q D aK))
 λZ=>
 aL C
 (aT bS q a1 8 λaX=>
 aT bS q b 8 λaY=>
 tj aX aY q λa3 aM=>
 Z a3 aM)
 (Z false q)))
 λd=>
 aL (g==1)
 (mP [0,1]<|
 aH (.int .i64) c (a1.add 3) λaZ=>
 mP [2,3]<|
 aH Sl.v c (a1.add 7) λag=>
 mP [4,5]<|
 aV c (b.add 3) ([VI aZ]) λR=>
 ay R (a1.add 7) (Sl.v ag)<|
 mP [6,7]<|
 aV R (b.add 7) ([Sl.v ag]) λS=>
 aO (mK 2 (λa (E:Bool)=>a 1=VA a1/\a 3=VA b/\a 6=VB s/\a 37=VB E) (λE T=>
 aO (mK 2 (λa (F:Bool)=>a 1=VA a1/\a 3=VA b/\a 40=VB F) (λF w=>
 aO (mK 5 (λa (G:Bool)=>a 1=VA a1/\a 3=VA b/\a 46=VB G) (λG aN=>
 d G aN))
 λac=>
 aL F
 (aH Sl.v w (a1.add 7) λa0=>
 ac ((a0.len:Int)==64) w)
 (ac false w)))
 λab=>
 aL E
 (ab s T)
 (ab false T)))
 λaa=>
 aL e
 (aa M S)
 (aa false S))
 (aL (g==2)
 (mP [0,1]<|
 aH (.int .i64) c (a1.add 3) λa2=>
 mP [2,3]<|
 aH (.int .i64) c (a1.add 4) λah=>
 mP [4,5]<|
 aV c (b.add 3) ([VI a2]) λU=>
 ay U (a1.add 4) (VI ah)<|
 mP [6,7]<|
 aV U (b.add 4) ([VI ah]) λV=>
 aO (mK 2 (λa (I:Bool)=>a 1=VA a1/\a 3=VA b/\a 6=VB s/\a 58=VB I) (λI X=>
 aO (mK 2 (λa (J:Bool)=>a 1=VA a1/\a 3=VA b/\a 61=VB J) (λJ r=>
 aO (mK 7 (λa (K:Bool)=>a 1=VA a1/\a 3=VA b/\a 69=VB K) (λK aP=>
 d K aP))
 λaf=>
 aL J
 (aH (.int .i64) r (a1.add 4) λar=>
 aH (.int .i64) r (a1.add 3) λau=>
 dy ar 1 (IntKind.wrap .i64 (64-au)) r λaE ai=>
 af aE ai)
 (af false r)))
 λae=>
 aL I
 (ae s X)
 (ae false X)))
 λad=>
 aL e
 (ad M V)
 (ad false V))
 (aL (g==3)
 (aH (.int .i64) c (a1.add 5) λav=>
 aV c (b.add 5) ([VI av]) λt=>
 aO (mK 2 (λa (k:Bool)=>a 1=VA a1/\a 3=VA b/\a 78=VB k) (λk h=>
 aO (mK 4 (λa (l:Bool)=>a 1=VA a1/\a 3=VA b/\a 83=VB l) (λl ak=>
 d l ak))
 λy=>
 aL k
 (aH (.int .i64) h (a1.add 5) λaw=>
 dy aw 1 2147483647 h λaF al=>
 y aF al)
 (y false h)))
 λx=>
 aL e
 (x M t)
 (x false t))
 (aL (g==8)
 (mP [0,1]<|
 aH (.int .i64) c (a1.add 5) λax=>
 mP [2,3]<|
 aH (.int .i64) c (a1.add 6) λL=>
 mP [4,5]<|
 aV c (b.add 5) ([VI ax]) λu=>
 ay u (a1.add 6) (VI L)<|
 mP [6,7]<|
 aV u (b.add 6) ([VI L]) λi=>
 aO (mK 4 (λa (m:Bool)=>a 1=VA a1/\a 3=VA b/\a 97=VB m) (λm j=>
 aO (mK 4 (λa (n:Bool)=>a 1=VA a1/\a 3=VA b/\a 102=VB n) (λn f=>
 aO (mK 6 (λa (o:Bool)=>a 1=VA a1/\a 3=VA b/\a 109=VB o) (λo am=>
 d o am))
 λB=>
 aL n
 (aH (.int .i64) f (a1.add 6) λaz=>
 aH (.int .i64) f (a1.add 2) λaA=>
 dy az 0 aA f λaG an=>
 B aG an)
 (B false f)))
 λA=>
 aL m
 (aH (.int .i64) j (a1.add 5) λaB=>
 dy aB 0 2147483647 j λaI ao=>
 A aI ao)
 (A false j)))
 λz=>
 aL e
 (aH (.int .i64) i (a1.add 2) λaC=>
 dy aC 0 2147483647 i λaJ ap=>
 z aJ ap)
 (z false i))
 (aL (g==9)
 (d e c)
 (d false c)))))))
 λY=>
 aL (aS != 9)
 (aH (.int .i64) p (a1.add 2) λaD=>
 aV p (b.add 2) ([VI aD]) λaq=>
 Y () aq)
 (Y () p)
def zN (p0:Int) (p1:Int) (p2:qL) (H:PH) (Q:jk->Bool->PH->Prop):Prop:=
 aj H (row (b9 p2) 152) λa1 G=>
 aj G (row nE 54) λd e=>
 aO (mK 1 (λo (c:Addr)=>o 6=VA d/\o 8=VA c) (λc w=>
 aT bS w c 8 λx=>
 vT x w λE f=>
 aO (mK 4 (λo (i:Bool)=>o 6=VA d/\o 8=VA c/\o 30=VB i) (λi g=>
 aO (mK 4 (λo (j:Bool)=>o 6=VA d/\o 8=VA c/\o 35=VB j) (λj h=>
 aL j
 (aV h d ([VI 0,VI 0,VI 0,VI 0,VI 0,VI 0,VI 0,Sl.v Sl.nil]) λp=>
 aT bS p d 8 λy=>
 Q y false p)
 (aT bS h c 8 λz=>
 aV h d (bS z) λq=>
 aT bS q d 8 λA=>
 Q A true q)))
 λt=>
 aL i
 (t true g)
 (aH (.int .i64) g (c.add 0) λB=>
 t (B==9) g)))
 λs=>
 aL (!E)
 (s true f)
 (aH (.int .i64) f (c.add 0) λC=>
 s (C==8) f)))
 λI=>
 mP [0,1]<|
 aH (.int .i64) e (a1.add 0) λk=>
 mP [2,3,4,5]<|
 aH (.int .i64) e (a1.add 1) λl=>
 mP [6,7]<|
 aH (.int .i64) e (a1.add 2) λm=>
 mP [8,9]<|
 aH (.int .i64) e (a1.add 3) λn=>
 mP [10,11]<|
 aH Sl.v e (a1.add 4) λD=>
 mV [] 12 [12,14]<|
 cC D e λF a=>
 ay a (a1.add 3) (VI n)<|
 ay a (a1.add 2) (VI m)<|
 ay a (a1.add 1) (VI l)<|
 ay a (a1.add 0) (VI k)<|
 mP [13,14]<|
 aj a (row nE 54) λr b=>
 ay b (a1.add 3) (VI n)<|
 ay b (a1.add 2) (VI m)<|
 ay b (a1.add 1) (VI l)<|
 ay b (a1.add 0) (VI k)<|
 mP [15]<|
 aV b r ([VI k,VI p0,VI p1,VI l,VI m,VI n,VI 0,Sl.v F]) λu=>
 I r u
def jy (p0:Option Addr) (p1:qL) (H:PH) (Q:Int->PH->Prop):Prop:=
 aj H (row (b9 p1) 152) λa1 b=>
 aL (Option.isNone p0)
 (Q 1 b)
 (aO (mK 1 (λI (s5:Addr×Bool)=>I 0=VP p0/\I 3=VA a1/\I 5=VA (s5.1)/\I 6=VB s5.2) (λs5 a=>
 aL (!s5.2)
 (Q 1 a)
 (mP [0,1]<|
 aP p0 λn=>
 mP [2,3]<|
 aH (.int .i64) a (n.add 3) λx=>
 mP [4,5]<|
 aP p0 λo=>
 mP [6,7]<|
 aH (.int .i64) a (o.add 5) λy=>
 mP [8,9,10]<|
 aL (decide (400<=(IntKind.wrap .i64 (x-y))))
 (Q 6 a)
 (aH Sl.v a (s5.1.add 7) λz=>
 aV a (a1.add 4) ([Sl.v z]) λc=>
 mP [0,1,2]<|
 aP p0 λf=>
 mP [3,4]<|
 aH Sl.v c (f.add 6) λh=>
 mP [5]<|
 aT b9 c a1 5 λA=>
 mP [6]<|
 bZ c (row (b9 A) 152) 1 λu d=>
 ay d (f.add 6) (Sl.v h)<|
 mP [7]<|
 fh d 152 5 56 nW h u λw i=>
 mP [8]<|
 aP p0 λp=>
 mP [9,10]<|
 aV i (p.add 6) ([Sl.v w]) λe=>
 aP p0 λq=>
 aH (.int .i64) e (q.add 3) λB=>
 aP p0 λr=>
 aV e (r.add 3) ([VI (IntKind.wrap .i64 (B+1))]) λj=>
 Q 0 j))))
 λJ=>
 mP [0,1]<|
 aP p0 λs=>
 mP [2,3]<|
 aH (.int .i64) b (s.add 0) λC=>
 mP [4,5]<|
 aP p0 λt=>
 mP [6,7]<|
 aH (.int .i64) b (t.add 3) λD=>
 mP [8,9]<|
 aT b9 b a1 5 λE=>
 mV [] 10 [10,14]<|
 zN C (IntKind.wrap .i64 (D+1)) E b λF G k=>
 mP [11,12,13,14]<|
 aj k (row nE 54) λg l=>
 mP [15]<|
 aV l g (bS F) λm=>
 mP [16]<|
 J (g,G) m)
def oP (p0:Option Addr) (p1:Int) (p2:Sl) (H:PH) (Q:Int->PH->Prop):Prop:=
 jy p0 (1,p1,0,0,p2) H λa H1=>
 Q a H1
def fF (p0:Int) (p1:Int) (H:PH) (Q:Eu->PH->Prop):Prop:=
 aj H (row [VI 0,VI 0] 34) λa1 a=>
 aO (mK 1 (λf (s4:Int)=>f 0=VI s4/\f 1=VI p1/\f 4=VA a1) (λs4 e=>
 aV e a1 ([VI p1,VI s4]) λb=>
 aT dx b a1 2 λd=>
 Q d b))
 λc=>
 aL (p1 != 0)
 (c 0 a)
 (c p0 a)
def sF (p0:Option Addr) (H:PH) (Q:Int->PH->Prop):Prop:=
 aL (Option.isNone p0)
 (Q 0 H)
 (aP p0 λa=>
 aH (.int .i64) H (a.add 2) λb=>
 Q b H)
def ow (p0:Option Addr) (H:PH) (Q:Int->PH->Prop):Prop:=
 sF p0 H λi H1=>
 jy p0 (3,0,0,IntKind.wrap .i64 (i+1),Sl.nil) H1 λb a=>
 aO (mK 1 (λj (s5:Unit)=>j 3=VI b) (λs5 h=>
 Q b h))
 λf=>
 aL (b==0)
 (aP p0 λd=>
 aH (.int .i64) a (d.add 2) λg=>
 aP p0 λe=>
 aV a (e.add 2) ([VI (IntKind.wrap .i64 (g+1))]) λc=>
 f () c)
 (f () a)
def qx {γ:Type} (c0:Addr) (Y:List Value->γ->PH->(Nat->γ->PH->Prop)->Prop) (g:γ) (H:PH) (Q:Nat->γ->PH->Prop):Prop:=
 aH .pointer H c0 λu=>
 aL (Option.isNone u)
 (Q (0,g).1 (0,g).2 H)
 (aH .pointer H c0 λw=>
 aP w λt=>
 aH (.int .i64) H (t.add 5) λx=>
 aH .pointer H c0 λo=>
 aP o λm=>
 aH Sl.v H (m.add 6) λj=>
 bw (λ(a:Int×(Nat×γ)) (e:PH) (d:(Int×(Nat×γ))->PH->Prop)=>
 aL (decide (a.1<(j.len:Int)))
 (bX j 5 a.1 λn=>
 aT b9 e n 5 λp=>
 aj e (row nW 152) λb k=>
 aV k b (b9 p) λf=>
 aH Sl.v f (b.add 4) λq=>
 cC q f λs l=>
 aV l (b.add 4) ([Sl.v s]) λh=>
 aT b9 h b 5 λr=>
 uO Y a.2 [VI (IntKind.wrap .i64 ((IntKind.wrap .i64 (x+1))+a.1)),.agg (b9 r).toArray] h λc i=>
 aL (!(c.1==0))
 (Q c.1 c.2 i)
 (d (IntKind.wrap .i64 (a.1+1),c) i))
 (Q a.2.1 a.2.2 e))
 (0,(0,g)) H)
def pt (p0:Option Addr) (H:PH) (Q:Value->PH->Prop):Prop:=
 aj H (row [.pointer p0] 69) λa1 a=>
 Q (.func (.func 178) #[] #[.pointer (some a1)]) a
def ny (p0:jk) (H:PH) (Q:Sl->Int->PH->Prop):Prop:=
 aj H (row (bS p0) 54) λa1 i=>
 aT bS i a1 8 λE=>
 vT E i λG g=>
 aL (!G)
 (Q Sl.nil 1 g)
 (aH Sl.v g (a1.add 7) λF=>
 ri (IntKind.wrap .i64 ((IntKind.wrap .i64 (21+(F.len:Int)))+4)) g λa e=>
 aH (.int .i64) e (a1.add 0) λt=>
 bZ e (row [VI 75,VI 70,VI t] 3) 3 λp h=>
 cM a 1 p h λI b=>
 aH (.int .i64) b (a1.add 1) λu=>
 aH (.int .i64) b (a1.add 2) λw=>
 bZ b (row [VI u,VI w] 3) 2 λq j=>
 cM a 4 q j λJ c=>
 aH (.int .i64) c (a1.add 3) λx=>
 aH (.int .i64) c (a1.add 4) λy=>
 bZ c (row [VI x,VI y] 3) 2 λr k=>
 cM a 1 r k λK d=>
 aH (.int .i64) d (a1.add 5) λz=>
 aH (.int .i64) d (a1.add 6) λA=>
 bZ d (row [VI z,VI A] 3) 2 λs l=>
 cM a 4 s l λL f=>
 aH Sl.v f (a1.add 7) λB=>
 uU a B f λM m=>
 iB a m λC n=>
 nk C n λD o=>
 Q D 0 o)
end
end Go.Proofs.YtigjebgjphmkoaaGreat
