import Derived.Test.YtigjebgjphmkoaaGreatA03
import Derived.Test.YtigjebgjphmkoaaGreatA07
import Derived.Test.YtigjebgjphmkoaaGreatA09
import Derived.Test.YtigjebgjphmkoaaGreatA12
import Derived.Test.YtigjebgjphmkoaaGreatA13
import Derived.Test.YtigjebgjphmkoaaGreatA14
import Derived.Test.YtigjebgjphmkoaaGreatA16
import Derived.Test.YtigjebgjphmkoaaGreatA18
import Derived.Test.YtigjebgjphmkoaaGreatA21
import Derived.Test.YtigjebgjphmkoaaGreatA23
import Derived.Test.YtigjebgjphmkoaaGreatA24
set_option linter.unusedVariables false
set_option linter.unusedSimpArgs false
section
namespace BE
open Go Go.Kx
def Pl:BitVec 32:=0x82F63B78#32
def CA (v:BitVec 32) (c:Bool):BitVec 32:=if(v.getLsbD 0 ^^ c)=true then(v>>>1)^^^Pl else v>>>1
def wE (v:BitVec 32) (c:Nat):Nat->BitVec 32
 | 0=>v
 |i+1=>CA (wE v c i) (c.testBit i)
def VY (v:BitVec 32) (c:Int):BitVec 32:=wE v c.toNat 8
def yG (v:BitVec 32) (l:List Int):BitVec 32:=l.foldl VY v
def Tl (l:List Int):BitVec 32:= ~~~ yG (BitVec.allOnes 32) l
theorem Ac (v:BitVec 32) (a b:List Int):yG v (a++b)=yG (yG v a) b:=by simp[yG]
theorem Ya (v:BitVec 32):BitVec.ofInt 32 (v.toNat:Int)=v:=by simp
theorem Og {n:Nat} (h:n< 2 ^ 32):IntKind.u32.wrap (n:Int)=n:=by
 simp only[IntKind.wrap,IntKind.bits,IntKind.signed,Bool.false_and,Bool.false_eq_true,if_false]
 omega
theorem JH (v u:BitVec 32):vo .u32 (v.toNat:Int) (u.toNat:Int)=((v^^^u).toNat:Int):=by
 show IntKind.u32.wrap ((BitVec.ofInt 32 (v.toNat:Int)^^^BitVec.ofInt 32 (u.toNat:Int)).toNat:Int)=_
 rw[Ya,Ya,Og (by omega)]
theorem VZ (v:BitVec 32):vo .u32 (v.toNat:Int) 2197175160=((v^^^Pl).toNat:Int):=JH v Pl
theorem D0 (v:BitVec 32):gy .u32 (v.toNat:Int) 1=((v>>>1).toNat:Int):=by
 simp only[gy,IntKind.bits]
 show((v.toNat:Int)).fdiv (2 ^ 1)=_
 rw[Int.fdiv_eq_ediv_of_nonneg _ (by decide)]
 rfl
theorem Va (v:BitVec 32):G2 .u32 (v.toNat:Int)=((~~~ v).toNat:Int):=by
 have:G2 .u32 (v.toNat:Int)=vo .u32 ((BitVec.allOnes 32).toNat:Int) (v.toNat:Int):=rfl
 rw[this,JH,BitVec.allOnes_xor]
theorem Q0 (v:BitVec 32):IntKind.i64.wrap (v.toNat:Int)=v.toNat:=bC (by omega) (by omega)
theorem Vb (v:BitVec 32):(jd .u32 (v.toNat:Int) 1==1)=v.getLsbD 0:=by
 have:jd .u32 (v.toNat:Int) 1=((v&&&1#32).toNat:Int):=by
  show IntKind.u32.wrap ((BitVec.ofInt 32 (v.toNat:Int)&&&BitVec.ofInt 32 1).toNat:Int)=_
  rw[Ya,Og (by omega)];rfl
 rw[this]
 have a:(v&&&1#32).toNat=v.toNat% 2:=by
  simp
 rw[a]
 have b:v.getLsbD 0=decide (v.toNat% 2=1):=by
  simp[BitVec.getLsbD,Nat.testBit_zero]
 grind
theorem Q1 {c:Int} {i:Nat} (b:0<=c) (d:c<=255) (hi:i< 8):gy .u32 (IntKind.u32.wrap c) (i:Int)=(((BitVec.ofNat 32 c.toNat)>>>i).toNat:Int):=by
 obtain⟨n,rfl⟩:=Int.eq_ofNat_of_zero_le b
 have a:n< 2 ^ 32:=by omega
 rw[Og a]
 simp only[gy,IntKind.bits,Int.toNat_natCast]
 rw[Nat.min_eq_left (by omega),Int.fdiv_eq_ediv_of_nonneg _ (by exact_mod_cast Nat.zero_le _)]
 rw[BitVec.toNat_ushiftRight,BitVec.toNat_ofNat,Nat.mod_eq_of_lt a,Nat.shiftRight_eq_div_pow]
 rfl
theorem Tm {v:BitVec 32} {c:Int} {i:Nat} (a:0<=c) (b:c<=255) (hi:i< 8):
 (jd .u32 (vo .u32 (v.toNat:Int) (gy .u32 (IntKind.u32.wrap c) (i:Int))) 1==1)=(v.getLsbD 0 ^^ c.toNat.testBit i):=by
 rw[Q1 a b hi,JH,Vb,BitVec.getLsbD_xor]
 grind
theorem Tn {v u:BitVec 32}:(jd .u32 (vo .u32 (v.toNat:Int) (u.toNat:Int)) 1==1)=(v.getLsbD 0 ^^ u.getLsbD 0):=by
 rw[JH,Vb,BitVec.getLsbD_xor]
end BE
end
section
namespace KM
abbrev Bs:=List Int
def le:Nat->Int->Bs
 | 0,_=>[]
 |w+1,n=>n% 256::le w (n/ 256)
def val:Bs->Int
 |[]=>0
 |x::l=>x+256*val l
def num (b:Bs) (k w:Nat):Int:=val ((b.drop k).take w)
def pad (n:Nat) (l:Bs):Bs:=l++List.replicate (n-l.length) 0
def now {α:Type} (n:Nat) (k:Nat->α):α:=match n with
 | 0=>k 0
 |m+1=>k (m+1)
theorem Q3 {α:Type} (n:Nat) (k:Nat->α):now n k=k n:=by cases n<;>rfl
def To (x c:Nat):Nat:=bif Nat.beq ((x^^^c)% 2) 1 then(x/ 2)^^^2197175160 else x/ 2
def JI (x c:Nat):Nat->Nat
 | 0=>x
 |i+1=>now (To x c) λy=>JI y (c/ 2) i
def Oh (x:Nat):Bs->Nat
 |[]=>x
 |c::l=>now (JI x c.toNat 8) λy=>Oh y l
def mz (b:Bs):Int:=((4294967295-Oh 4294967295 b:Nat):Int)
theorem Wa (v:BitVec 32) (c:Nat):To v.toNat c=(BE.CA v (c.testBit 0)).toNat:=by
 have e1:((v.toNat^^^c)% 2=1)↔((v.getLsbD 0 ^^ c.testBit 0)=true):=by
  rw[BitVec.getLsbD,←Nat.testBit_xor,Nat.testBit_zero];simp
 unfold To BE.CA
 by_cases h:(v.toNat^^^c)% 2=1
 ·rw[if_pos (e1.1 h),h]
  rfl
 ·rw[if_neg (λg=>h (e1.2 g))]
  have:Nat.beq ((v.toNat^^^c)% 2) 1=false:=Bool.eq_false_iff.2 λe=>h (Nat.eq_of_beq_eq_true e)
  rw[this,BitVec.toNat_ushiftRight,Nat.shiftRight_eq_div_pow];rfl
theorem Tp (c:Nat) (v:BitVec 32) (n:Nat):∀i,JI (BE.wE v c n).toNat (c/ 2 ^ n) i=(BE.wE v c (n+i)).toNat:=by
 intro i
 induction i generalizing n with
 |zero=>rfl
 |succ i a=>
  have e:(c/ 2 ^ n).testBit 0=c.testBit n:=by grind
  rw[JI,Q3,Wa,e,show c/ 2 ^ n/ 2=c/ 2 ^ (n+1) by rw[Nat.div_div_eq_div_mul,Nat.pow_succ]]
  have:=a (n+1)
  rw[show n+(i+1)=n+1+i by omega];exact this
theorem Wb (l:Bs):∀v:BitVec 32,Oh v.toNat l=(BE.yG v l).toNat:=by
 induction l with
 |nil=>intro v;rfl
 |cons c l a=>
  intro v
  have:=Tp c.toNat v 0 8
  simp only[BE.wE,Nat.pow_zero,Nat.div_one,Nat.zero_add] at this
  rw[Oh,Q3,this]
  exact a (BE.VY v c)
theorem Q4 (b:Bs):mz b=((BE.Tl b).toNat:Int):=by
 have:=Wb b (BitVec.allOnes 32)
 rw[mz,show(4294967295:Nat)=(BitVec.allOnes 32).toNat from rfl,this,BE.Tl,BitVec.toNat_not];rfl
def closed (b:Bs):Bs:=b++le 4 (mz b)
def bN (n lo hi:Int):Bool:=decide (lo<=n)&&decide (n<=hi)
theorem bD {n lo hi:Int}:bN n lo hi=true↔lo<=n/\n<=hi:=by simp[bN]
theorem bO:∀(w:Nat) (n:Int),(le w n).length=w
 | 0,_=>rfl
 |w+1,n=>by simp[le,bO w]
theorem NM:∀(w:Nat) (n:Int),∀x∈le w n,0<=x/\x<=255
 | 0,_,x,h=>by simp[le] at h
 |w+1,n,x,h=>by
  simp only[le,List.mem_cons] at h
  rcases h with rfl|h
  ·omega
  ·exact NM w _ x h
theorem Jq:∀(w:Nat) (n:Int),0<=n->n< 256 ^ w->val (le w n)=n
 | 0,n,a,b=>by simp[val,le];omega
 |w+1,n,a,b=>by
  have:n/ 256< 256 ^ w:=by
   omega
  rw[le,val,Jq w (n/ 256) (by omega) this];omega
theorem wF {n:Nat} {l:Bs} (h:l.length<=n):(pad n l).length=n:=by simp[pad];omega
theorem ko (b:Bs):(closed b).length=b.length+4:=by simp[closed,bO]
theorem AA (b:Bs):0<=mz b/\mz b<=4294967295:=by
 unfold mz;omega
abbrev ax:=Int×Int×Int
def bE (c:ax):Prop:=1<=c.1/\c.1<=64/\8<=c.2.1/\c.2.1<=32/\24<=c.2.2/\c.2.2<=64
def Fs (c:ax):Bool:=bN c.1 1 64&&bN c.2.1 8 32&&bN c.2.2 24 64
theorem rG {c:ax}:Fs c=true↔bE c:=by simp[Fs,bN,bE,and_assoc]
def bc (c:ax):Int:=(c.1+14)/ 15
def bW (c:ax):Int:=(c.2.1*5+106)/ 64
def base (c:ax):Int:=2+2*(bW c+2*bc c)
def all (c:ax):Int:=base c+c.2.1*c.2.2
def half (c:ax):Int:=(c.2.2- 2)/ 2
def ar (c:ax) (slot:Int):Int:=2+slot*bW c
def cw (c:ax) (aG:Bool) (k slot:Int):Int:=2+2*(bW c+(if aG then k+bc c else k))+slot
def aZ (c:ax) (s:Int):Int:=base c+s*c.2.2
def yH (c:ax) (at_:Int):Bool:=bN at_ (base c) (all c- 1)
abbrev eG:=Int×Int×Int×Int
def cB (i:eG):Bool:=
 let b:=bN i.2.1 0 63
 if i.1=1∨i.1=5 then b&&i.2.2.1==0&&i.2.2.2==0
 else if i.1=2∨i.1=6 then b&&bN i.2.2.1 1 (64-i.2.1)&&i.2.2.2==0
 else if i.1=3 then i.2.1==0&&i.2.2.1==0&&bN i.2.2.2 1 2147483647
 else if i.1=4 then b&&i.2.2.1==0&&bN i.2.2.2 1 4095
 else if i.1=7 then i.2.1==0&&i.2.2.1==0&&bN i.2.2.2 0 31
 else false
def bM (i:eG):Bool:=cB i&&(i.1==1||i.1==4||i.1==5)
def di (i:eG):Bs:=i.1::i.2.1::i.2.2.1::le 4 i.2.2.2
def eZ (c:ax) (id aN:Int):Bs:=closed (pad 60 (75::83::c.1::c.2.1::c.2.2::(le 4 id++le 4 aN)))
def dA (c:ax) (id aN:Int):Bool:=Fs c&&bN id 0 2147483647&&bN aN 1 2147483647
def eJ (b:Bs):Option (ax×Int×Int):=
 let c:ax:=(num b 2 1,num b 3 1,num b 4 1)
 if dA c (num b 5 4) (num b 9 4)&&eZ c (num b 5 4) (num b 9 4)==b then some (c,num b 5 4,num b 9 4) else none
def cz (a b:Bs):Option ((ax×Int×Int)×Int):=
 match eJ a,eJ b with
 |some x,some y=>if y.2.2<=x.2.2 then some (x,0) else some (y,1)
 |some x,none=>some (x,0)
 |none,some y=>some (y,1)
 |none,none=>none
structure Rec where
 aN:Int
 cZ:Int
 prev:Int
 items:List eG
 blocks:List Bs
def dH (r:Rec):Bool:=bN r.aN 1 2147483647&&bN r.cZ 1 2147483647&&bN r.prev 0 4294967295&&bN r.items.length 1 6&&r.items.all cB&&r.blocks.length==r.items.countP bM&&r.blocks.all λb=>b.length==64
def sK (r:Rec):Bs:=pad 60 (75::82::(le 4 r.aN++le 4 r.cZ++le 4 r.prev++[(r.items.length:Int),(r.blocks.length:Int)]++r.items.flatMap di))
def cX (r:Rec):Int:=mz (sK r++r.blocks.flatten)
def cH (r:Rec):List Bs:=(sK r++le 4 (cX r))::r.blocks
def uI (r:Rec):Bs:=(cH r).flatten
def dV (b:Bs):Int:=if num b 0 1=75/\num b 1 1=82/\1<=num b 14 1/\num b 14 1<=6/\num b 15 1<=num b 14 1 then 1+num b 15 1 else 0
def dY (b:Bs) (k:Nat):Nat->List eG
 | 0=>[]
 |n+1=>(num b k 1,num b (k+1) 1,num b (k+2) 1,num b (k+3) 4)::dY b (k+7) n
def chunks (b:Bs):Nat->List Bs
 | 0=>[]
 |n+1=>b.take 64::chunks (b.drop 64) n
def wq (b:Bs):Option (Rec×Int):=
 let r:Rec:=⟨num b 2 4,num b 6 4,num b 10 4,dY b 16 (num b 14 1).toNat,chunks (b.drop 64) (num b 15 1).toNat⟩
 if dH r&&uI r==b then some (r,cX r) else none
def dC (l:List eG):Option Int:=(l.find? λi=>i.1==7).map λi=>i.2.2.2
def rn (oV aN cZ prev:Int):Bool:=bN oV 0 31&&bN aN 1 2147483647&&bN cZ 1 2147483647&&bN prev 0 4294967295
def gH (oV aN cZ prev:Int):Bs:=closed (pad 60 (75::72::oV::(le 4 aN++le 4 cZ++le 4 prev)))
def headD (b:Bs):Option (Int×Int×Int×Int):=
 if rn (num b 2 1) (num b 3 4) (num b 7 4) (num b 11 4)&&gH (num b 2 1) (num b 3 4) (num b 7 4) (num b 11 4)==b then some (num b 2 1,num b 3 4,num b 7 4,num b 11 4) else none
def gx (l:List Int):Bool:=decide (l.length<=15)&&l.all λn=>bN n (-1) 4095
def oT (l:List Int):Bs:=closed (pad 60 (l.flatMap (le 4)))
def CB (n:Int):Int:=if n=4294967295 then -1 else n
def jV (b:Bs) (k:Nat):Nat->List Int
 | 0=>[]
 |n+1=>CB (num b k 4)::jV b (k+4) n
def oU (b:Bs):Option (List Int):=if gx (jV b 0 15)&&oT (jV b 0 15)==b then some (jV b 0 15) else none
abbrev Pos:=Int×Int×Int×Int×Int
abbrev cJ:=Int×Int
def fj (c:ax) (p:Pos):Bool:=bN p.1 0 (c.2.1- 1)&&bN p.2.1 0 (c.2.2- 1)&&bN p.2.2.1 1 2147483647&&bN p.2.2.2.2 1 2147483647&&bN p.2.2.2.1 0 4294967295
structure fH where
 gen:Int
 view:Int
 mode:Int
 aQ:Int
 seq:Int
 done:Int
 pos:Pos
 lb:List Int
 lo:List Int
 bk:List cJ
def gU (l:List Int) (n:Int):Bool:=(l.length:Int)==n&&l.all λx=>x==0||x==1
def wG (u:cJ) (open_:Bool):Bool:=bN u.1 0 2&&bN u.2 0 2147483647&&(u.1==1)==open_
def nX (oV:Int):Nat->List cJ->Bool
 |_,[]=>true
 |k,u::l=>wG u ((k:Int)==oV)&&nX oV (k+1) l
def fW (c:ax) (r:fH):Bool:=
 bN r.gen 1 2147483647&&bN r.view 1 2147483647&&(r.mode==1||r.mode==2)&&bN r.aQ 0 2147483647&&bN r.seq 0 2147483647&&bN r.done 0 r.seq&&
 fj c r.pos&&gU r.lb (bc c)&&gU r.lo (bc c)&&(r.bk.length:Int)==c.2.1&&nX r.pos.1 0 r.bk
def eN:List Int->Int
 |[]=>0
 |x::l=>x+2*eN l
def iD:Nat->Int->List Int
 | 0,_=>[]
 |k+1,n=>n% 2::iD k (n/ 2)
def mq (u:cJ):Bs:=u.1::le 4 u.2
def Ae (r:fH):Bs:=75::67::(le 4 r.gen++le 4 r.view++[r.mode]++le 4 r.aQ++le 4 r.seq++le 4 r.done++[r.pos.1,r.pos.2.1]++le 4 r.pos.2.2.1++le 4 r.pos.2.2.2.1++le 4 r.pos.2.2.2.2++[eN r.lb,eN r.lo]++r.bk.flatMap mq)
def gV (c:ax) (r:fH):Bs:=closed (pad (64*(bW c).toNat- 4) (Ae r))
def iZ (b:Bs) (k:Nat):Nat->List cJ
 | 0=>[]
 |n+1=>(num b k 1,num b (k+1) 4)::iZ b (k+5) n
def jf (c:ax) (b:Bs):Option fH:=
 let r:fH:=⟨num b 2 4,num b 6 4,num b 10 1,num b 11 4,num b 15 4,num b 19 4,(num b 23 1,num b 24 1,num b 25 4,num b 29 4,num b 33 4),iD (bc c).toNat (num b 37 1),iD (bc c).toNat (num b 38 1),iZ b 39 c.2.1.toNat⟩
 if fW c r&&gV c r==b then some r else none
def tE:Option fH->Option fH->Option (fH×Int)
 |some x,some y=>if y.gen<=x.gen then some (x,0) else some (y,1)
 |some x,none=>some (x,0)
 |none,some y=>some (y,1)
 |none,none=>none
def j0 (c:ax) (a b:Bs):Option (fH×Int):=tE (jf c a) (jf c b)
theorem wH {c:ax} {a b:Bs} {u v:Option fH} (e1:jf c a=u) (e2:jf c b=v):j0 c a b=tE u v:=congr (congrArg tE e1) e2
structure oW where
 kind:Int
 view:Int
 seq:Int
 block:Int
 count:Int
 aQ:Int
 done:Int
 data:Bs
def cx (f:oW):Bool:=
 bN f.view 1 2147483647&&
 (if f.kind=1 then bN f.seq 1 2147483647&&bN f.block 0 63&&f.data.length==64&&f.count==0&&f.aQ==0&&f.done==0
 else if f.kind=2 then bN f.seq 1 2147483647&&bN f.block 0 63&&bN f.count 1 (64-f.block)&&f.aQ==0&&f.done==0&&f.data.length==0
 else if f.kind=3 then bN f.seq 1 2147483647&&bN f.aQ 1 2147483647&&f.block==0&&f.count==0&&f.done==0&&f.data.length==0
 else if f.kind=8 then bN f.seq 0 2147483647&&bN f.aQ 0 2147483647&&bN f.done 0 f.seq&&f.block==0&&f.count==0&&f.data.length==0
 else if f.kind=9 then f.seq==0&&f.block==0&&f.count==0&&f.aQ==0&&f.done==0&&f.data.length==0
 else false)
def jT (f:oW):Bs:=75::70::f.kind::(le 4 f.view++le 4 f.seq++[f.block,f.count]++le 4 f.aQ++le 4 f.done++f.data)
def cV (f:oW):Bs:=closed (jT f)
def Af (b:Bs):Option oW:=
 let f:oW:=⟨num b 2 1,num b 3 4,num b 7 4,num b 11 1,num b 12 1,num b 13 4,num b 17 4,(b.drop 21).take (b.length- 25)⟩
 if cx f&&cV f==b then some f else none
structure nO where
 kind:Int
 block:Int
 count:Int
 aQ:Int
 data:Bs
def jJ (view seq:Int) (o:nO):oW:=⟨o.kind,view,seq,o.block,o.count,o.aQ,0,o.data⟩
def fT (f:oW):nO:=⟨f.kind,f.block,f.count,f.aQ,f.data⟩
def iJ (x:Int):Bs:=(List.range 64).map λ(k:Nat)=>(x% 256+(k:Int))% 256
theorem vV (x:Int):(iJ x).length=64:=by simp[iJ]
abbrev iR:={l:List Int // l.length=64}
structure Dk where
 safe:List iR
 now:List iR
 held:List (Int×iR)
 dq:List Bool
 nK:Int
 jK:Int
 off:Bool
def Dk.act (D:Dk):Dk×Bool:=
 if D.off||D.nK==0 then({D with jK:=D.jK+1,off:=true},false) else({D with jK:=D.jK+1,off:=false,nK:=max (D.nK- 1) (-1)},true)
def rH:iR:=⟨List.replicate 64 0,by simp⟩
def fresh (n:Nat):Dk:=⟨List.replicate n rH,List.replicate n rH,[],List.replicate n false,-1,0,false⟩
def Dk.write (D:Dk) (i:Nat) (b:iR):Dk:=if D.act.2 then{D.act.1 with held:=D.held++[((i:Int),b)],now:=D.now.set i b} else D.act.1
def Dk.read (D:Dk) (i:Nat):Int:=if D.off then 3 else if D.dq.getD i false then 4 else 0
def jg (s:List iR) (l:List (Int×iR)):List iR:=l.foldl (λs w=>s.set w.1.toNat w.2) s
def Dk.flush (D:Dk):Dk:=if D.act.2 then{D.act.1 with safe:=jg D.safe D.held,held:=[]} else D.act.1
def Ex (a new:iR) (n:Nat):iR:=⟨new.1.take n++a.1.drop n,by grind⟩
def gW (m:List Int) (k:Nat):Int:=if k<m.length then m.getD k 0% 192 else 0
def oF (m:List Int) (st:List iR×Bool) (k:Nat) (w:Int×iR):List iR×Bool:=
 if gW m k% 3=1 then(st.1.set w.1.toNat w.2,st.2)
 else if gW m k% 3=2/\st.2=false then(st.1.set w.1.toNat (Ex (st.1.getD w.1.toNat rH) w.2 (gW m k/ 3).toNat),true) else st
def dv (m:List Int) (safe:List iR) (held:List (Int×iR)):Nat->List iR×Bool
 | 0=>(safe,false)
 |k+1=>match held[k]? with
  |some w=>oF m (dv m safe held k) k w
  |none=>dv m safe held k
def Dk.jL (D:Dk) (m:List Int):Dk:=⟨(dv m D.safe D.held D.held.length).1,(dv m D.safe D.held D.held.length).1,[],D.dq,-1,0,false⟩
end KM
end
section
namespace KM
def BF {α:Type} (l:List α) (k:Int):Bool:=decide (0<=k)&&decide (k<l.length)
def bg {α:Type} (d:α) (l:List α) (k:Int):α:=if 0<=k then l.getD k.toNat d else d
def wI (l:List cJ) (k:Int) (st:Int):List cJ:=l.set k.toNat (st,(bg (0,0) l k).2)
def CC (l:List cJ) (k:Int) (a:Int):List cJ:=l.set k.toNat ((bg (0,0) l k).1,a)
def jP (l:List cJ) (k:Int):Bool:=BF l k&&(bg (0,0) l k).1==0
def kF (l:List cJ) (k:Int):List cJ:=if jP l k then wI l k 1 else l
def qB (l:List cJ) (v:List Int) (k:Int):List Int:=if jP l k then v.set k.toNat 0 else v
def kT (l:List cJ) (k:Int):List cJ:=if BF l k&&(bg (0,0) l k).1==1 then wI l k 2 else l
def eC (l:List cJ) (k a:Int):List cJ:=if BF l k&&(decide (0<=a)&&decide (a<=2147483647)) then CC l k a else l
def sL (x b:Int):Int:=if 2147483647-x<b then 2147483647 else max (x+b) 0
def gX (c:ax) (v:List Int) (at' b:Int):List Int:=if base c<=at'/\at'<all c then v.set ((at'-base c)/c.2.2).toNat (sL (bg 0 v ((at'-base c)/c.2.2)) b) else v
def j1 (l:List cJ) (v:List Int) (k:Nat):Bool:=(l.getD k (0,0)).1==2&&v.getD k 0==0
def eO (l:List cJ) (v:List Int):Nat->List cJ
 | 0=>l
 |k+1=>if j1 l v k then(eO l v k).set k (0,(l.getD k (0,0)).2) else eO l v k
def iT (l:List cJ) (v:List Int):List cJ:=eO l v l.length
def pD (l:List cJ) (v:List Int) (k:Nat):List Int:=(List.range k).filterMap λ(i:Nat)=>if j1 l v i then some (i:Int) else none
def Oi (l:List cJ) (v:List Int):List Int:=pD l v l.length
def cG (l:List cJ):Nat:=l.countP λu=>u.1==0
def rX (l:List cJ):Int:=if l.findIdx (λu=>u.1==0)<l.length then(l.findIdx (λu=>u.1==0):Int) else -1
def bY (l:List cJ) (spare:Bool):Int:=if !spare&&decide (cG l<=2) then -1 else rX l
structure Tb where
 l:List cJ
 v:List Int
def Tb.jh (t:Tb) (k:Int):Tb:=⟨kF t.l k,qB t.l t.v k⟩
section
variable {T:Type} (ne:T->T->Bool)
def uv (l:List T) (k:Int) (v:T):Bool:=decide (0<=k/\k<l.length)&&(match l[k.toNat]? with|some w=>ne w v|none=>false)
def pX (l:List T) (k:Int) (v:T):List T:=if uv ne l k v then l.set k.toNat v else l
def zP (per:Int) (l:List T) (d:List Bool) (k:Int) (v:T):List Bool:=if uv ne l k v then d.set (k/per).toNat true else d
end
def nP (n per:Int):Int:=(n+per- 1)/per
def jb (d:List Bool) (k:Nat):List Int:=(List.range k).filterMap λ(i:Nat)=>if d.getD i false then some (i:Int) else none
def Yb (d:List Bool):List Int:=jb d d.length
def bt {T:Type} (l:List T) (per:Int) (d:List Bool) (k:Int):List T:=if 0<=k/\k<d.length then(l.drop (k*per).toNat).take per.toNat else[]
def qd (a b:Int):Bool:=a != b
def bT (l:List Int) (b:Int):Int:=if 0<=b/\b<l.length then l.getD b.toNat 0 else 0
def gone (a at':Int):Int:=if a==at' then 0 else(if a< 0 then 0 else a)
structure Im where
 l0:List Int
 d0:List Bool
 l1:List Int
 d1:List Bool
def Im.put (M:Im) (aG:Bool) (b at':Int):Im:=if aG then{M with l1:=pX qd M.l1 b at',d1:=zP qd 15 M.l1 M.d1 b at'} else{M with l0:=pX qd M.l0 b at',d0:=zP qd 15 M.l0 M.d0 b at'}
def Im.cP (M:Im) (aG:Bool):List Int:=if aG then M.l1 else M.l0
def Im.bR (M:Im) (aG:Bool):List Bool:=if aG then M.d1 else M.d0
def mF (n:Nat):Im:=⟨List.replicate n 0,List.replicate (nP n 15).toNat false,List.replicate n (-1),List.replicate (nP n 15).toNat false⟩
def gl (z:Int):List Int:=if 0<z then[z] else[]
def gZ (aG:Bool) (b:Int) (M:Im):Nat->Im×List Int
 | 0=>(M,[])
 |i+1=>((gZ aG b M i).1.put aG (b+i) 0,(gZ aG b M i).2++gl (gone (bT ((gZ aG b M i).1.cP aG) (b+i)) 0))
def oG (r:Im×List Int) (i:Nat):Im×List Int:=
 if bT r.1.l1 i= -1 then r else((r.1.put false i (bT r.1.l1 i)).put true i (-1),r.2++gl (gone (bT r.1.l0 i) (bT r.1.l1 i)))
def gD (M:Im):Nat->Im×List Int
 | 0=>(M,[])
 |i+1=>oG (gD M i) i
def gb (M:Im):Nat->Im×List Int
 | 0=>(M,[])
 |i+1=>((gb M i).1.put true i (-1),(gb M i).2++gl (gone (bT (gb M i).1.l1 i) (-1)))
def Im.fS (M:Im):Im×List Int:=gD M M.l1.length
def Im.forget (M:Im):Im×List Int:=gb M M.l1.length
def Im.clean (M:Im):Im:={M with d0:=List.replicate M.d0.length false,d1:=List.replicate M.d1.length false}
def wJ (l:List Int):Nat:=l.countP (λx=>x != -1)
def rp (i:Nat) (x:Int):List (Int×Int):=if 0<x then[((i:Int),x)] else[]
def tF (l0 l1:List Int):Nat->List (Int×Int)
 | 0=>[]
 |i+1=>tF l0 l1 i++rp i (bT l0 i)++rp i (bT l1 i)
def Im.refs (M:Im):List (Int×Int):=tF M.l0 M.l1 M.l0.length
def Im.has (M:Im) (b n:Int):Bool:=decide (1<=n)&&decide (n<=M.l0.length)&&(decide (0<=b)&&decide (b<=M.l0.length-n))
def Im.lay (M:Im) (aG:Bool) (b at_:Int):Im:=if M.has b 1&&bN at_ 1 4095 then M.put aG b at_ else M
def Im.cut (M:Im) (aG:Bool) (b n:Int):Im×List Int:=if M.has b n then gZ aG b M n.toNat else(M,[])
def Im.move (M:Im) (b a at_:Int):Im:=
 if M.has b 1&&decide (1<=a)&&bN at_ 1 4095 then(if bT M.l0 b=a then M.put false b at_ else if bT M.l1 b=a then M.put true b at_ else M) else M
def Im.load (M:Im) (aG:Bool) (k:Nat) (refs:List Int):Im:=
 if aG then{M with l1:=M.l1.take (k*15)++refs++M.l1.drop (k*15+refs.length),d1:=M.d1.set k false}
 else{M with l0:=M.l0.take (k*15)++refs++M.l0.drop (k*15+refs.length),d0:=M.d0.set k false}
def tq (b:Bs):iR:=if h:b.length=64 then⟨b,h⟩ else rH
def Dk.wr (D:Dk) (at_:Int) (bs:Bs):Dk×Int:=if(0<=at_/\at_<D.now.length)/\bs.length=64 then(D.write at_.toNat (tq bs),if D.act.2 then 0 else 3) else(D,1)
def Dk.rd (D:Dk) (at_:Int):Bs×Int:=if 0<=at_/\at_<D.now.length then(if D.read at_.toNat=0 then((D.now.getD at_.toNat rH).1,0) else([],D.read at_.toNat)) else([],1)
def Dk.fl (D:Dk):Dk×Int:=(D.flush,if D.act.2 then 0 else 3)
def Dk.put (D:Dk) (at_:Int) (bs:Bs):Dk:=(D.wr at_ bs).1
def Dk.dW (D:Dk) (at_:Int):List Bs->Dk
 |[]=>D
 |b::l=>(D.put at_ b).dW (at_+1) l
def Dk.sec (D:Dk) (at_:Int):Bs:=(D.rd at_).1
def Dk.dQ (D:Dk) (at_:Int):Nat->Bs
 | 0=>[]
 |n+1=>D.sec at_++D.dQ (at_+1) n
structure Wr where
 p:Pos
 items:List eG
 blocks:List Bs
structure Sn where
 mode:Int
 view:Int
 aQ:Int
 seq:Int
 done:Int
 aN:Int
 gen:Int
 slot:Int
 lb:List Int
 lo:List Int
structure St where
 c:ax
 d:Dk
 t:Tb
 m:Im
 w:Wr
 n:Sn
def behind (off blocks:Int):Int:=max off 1+1+blocks
def fits (c:ax) (off items blocks:Int):Bool:=decide (items<=6)&&decide (behind off blocks<c.2.2)
def St.first (s:St):Int:=aZ s.c s.w.p.1+behind s.w.p.2.1 0
def St.jM (s:St) (items:List eG) (blocks:List Bs):St:=
 let p:=s.w.p
 let r:Rec:=⟨p.2.2.2.2,p.2.2.1,p.2.2.2.1,items,blocks⟩
 {s with d:=s.d.dW (aZ s.c p.1+p.2.1) (cH r),t:={s.t with l:=eC s.t.l p.1 p.2.2.1},w:={s.w with p:=(p.1,behind p.2.1 blocks.length,p.2.2.1+1,cX r,p.2.2.2.2)}}
def St.aY (s:St):St:=
 let p:=s.w.p
 if 0<p.2.1 then s else{s with d:=s.d.put (aZ s.c p.1) (gH p.1 p.2.2.2.2 p.2.2.1 p.2.2.2.1),w:={s.w with p:=(p.1,1,p.2.2.1,p.2.2.2.1,p.2.2.2.2)}}
def St.bare (s:St):St:={s with w:={s.w with items:=[],blocks:=[]}}
def St.emit (s:St):St:=if s.w.items.isEmpty then s else(s.aY.jM s.w.items s.w.blocks).bare
def St.sX (s:St) (a g:Int):St:={s with t:={s.t with l:=kT s.t.l a},w:={s.w with p:=(g,0,s.w.p.2.2)}}
def St.cR (s:St) (g:Int):St:=((s.jM [(7,0,0,g)] []).sX s.w.p.1 g).aY
def St.room (s:St) (blocks:Int) (spare:Bool):St×Int:=
 if fits s.c s.w.p.2.1 (s.w.items.length+1) (s.w.blocks.length+blocks) then(s,0)
 else if fits s.c (if s.w.items.isEmpty then s.w.p.2.1 else behind s.w.p.2.1 s.w.blocks.length) 1 blocks then(s.emit,0)
 else if bY s.t.l spare< 0 then(s,6)
 else(({s with t:=s.t.jh (bY s.t.l spare)}:St).emit.cR (bY s.t.l spare),0)
def St.hold (s:St) (i:eG) (b:Option Bs):St:={s with w:={s.w with items:=s.w.items++[i],blocks:=s.w.blocks++b.toList}}
def St.add (s:St) (i:eG) (b:Option Bs) (spare:Bool):St×Int×Int:=
 let r:=s.room (if b.isSome then 1 else 0) spare
 if r.2=0 then(r.1.hold i b,if b.isSome then r.1.first+r.1.w.blocks.length else 0,0) else(r.1,0,r.2)
def lZ (c:ax) (v:List Int) (l:List Int):List Int:=l.foldl (λv x=>if 0<x then gX c v x (-1) else v) v
def St.live (s:St) (at_:Int) (l:List Int):St:={s with t:={s.t with v:=lZ s.c (gX s.c s.t.v at_ 1) l}}
def St.has (s:St) (b n:Int):Bool:=s.m.has b n
def St.asks (s:St) (mode:Int) (may:Bool):Int:=if mode≠0/\s.n.mode≠mode then 7 else if !may then 1 else if s.d.off then 3 else 0
def St.lay (s:St) (aG:Bool) (b:Int) (data:Bs):St×Int:=
 let e:=s.asks (if aG then 1 else 2) (s.has b 1&&data.length==64)
 if e≠0 then(s,e) else
 let r:=s.add (if aG then 1 else 5,b,0,0) (some data) false
 if r.2.2≠0 then(r.1,r.2.2) else
 let s1:={r.1 with n:=if aG then{r.1.n with seq:=r.1.n.seq+1} else r.1.n}
 (({s1 with m:=s1.m.lay aG b r.2.1}:St).live r.2.1 [gone (bT (s1.m.cP aG) b) r.2.1],0)
def St.cut (s:St) (aG:Bool) (b n:Int):St×Int:=
 let e:=s.asks (if aG then 1 else 2) (s.has b n)
 if e≠0 then(s,e) else
 let r:=s.add (if aG then 2 else 6,b,n,0) none false
 if r.2.2≠0 then(r.1,r.2.2) else
 let s1:={r.1 with n:=if aG then{r.1.n with seq:=r.1.n.seq+1} else r.1.n}
 (({s1 with m:=(s1.m.cut aG b n).1}:St).live 0 (s1.m.cut aG b n).2,0)
def St.ic (s:St):St:={s.emit with d:=s.emit.d.flush}
def St.mark (s:St) (aQ:Int):St×Int:=
 let e:=s.asks 1 (aQ==s.n.aQ+1)
 if e≠0 then(s,e) else
 let r:=s.add (3,0,0,aQ) none false
 if r.2.2≠0 then(r.1,r.2.2) else
 let s1:=r.1.ic
 let s2:St:={s1 with n:={s1.n with aQ:=aQ,seq:=s1.n.seq+1,done:=s1.n.seq+1},m:=s1.m.fS.1}
 (s2.live 0 s1.m.fS.2,0)
def St.D6 (s:St) (at_:Int):Bs×Int:=
 if 0<=at_-s.first/\at_-s.first<s.w.blocks.length then(s.w.blocks.getD (at_-s.first).toNat [],0) else s.d.rd at_
def St.bytes (s:St) (at_:Int):Bs×Int:=if at_=0 then(List.replicate 64 0,0) else s.D6 at_
def St.read (s:St) (b:Int):Bs×Int:=
 let e:=s.asks 0 (s.has b 1)
 if e≠0 then([],e) else s.bytes (bT s.m.l0 b)
def Ft (c:ax) (aG:Bool) (l:List Int) (d:List Bool):List Int->Dk×List Int->Dk×List Int
 |[],r=>r
 |k::a,r=>Ft c aG l d a (r.1.put (cw c aG k (1-bg 0 r.2 k)) (oT (bt l 15 d k)),r.2.set k.toNat (1-bg 0 r.2 k))
def St.bV (s:St) (aG:Bool):Dk×List Int:=Ft s.c aG (s.m.cP aG) (s.m.bR aG) (Yb (s.m.bR aG)) (s.d,if aG then s.n.lo else s.n.lb)
def St.mX (s:St) (lb lo:List Int):fH:=⟨s.n.gen+1,s.n.view,s.n.mode,s.n.aQ,s.n.seq,s.n.done,s.w.p,lb,lo,iT s.t.l s.t.v⟩
def St.bJ (s:St) (d:Dk):St:={s with d:=d}
def St.check (s:St):St×List Int:=
 let s1:=s.emit
 let r0:=s1.bV false
 let s2:=s1.bJ r0.1
 let r1:=s2.bV true
 let a:=s2.bJ r1.1.flush
 let s4:=a.bJ (a.d.dW (ar s.c (1-s.n.slot)) (chunks (gV s.c (a.mX r0.2 r1.2)) (bW s.c).toNat)).flush
 ({s4 with n:={s4.n with gen:=s4.n.gen+1,slot:=1-s4.n.slot,lb:=r0.2,lo:=r1.2},m:=s4.m.clean,t:={s4.t with l:=iT s4.t.l s4.t.v}},Oi s4.t.l s4.t.v)
def St.raised (s:St) (view mode:Int):St:=({s with m:=s.m.forget.1,n:={s.n with seq:=s.n.done,view:=view,mode:=mode}}:St).live 0 s.m.forget.2
def St.raise (s:St) (view mode:Int):St×Int:=
 if s.n.mode≠1 then(s,7) else if !(bN view 1 2147483647)|| !(mode==1||mode==2) then(s,1) else if view<=s.n.view then(s,8) else if s.d.off then(s,3)
 else((s.raised view mode).check.1,0)
abbrev Stat:=Int×Int×Int×Int×Int×Int×Int×Int×Int×Int
def St.status (s:St):Stat:=(s.n.mode,s.n.view,s.n.aQ,s.n.seq,s.n.done,s.n.aN,s.n.gen,cG s.t.l,s.m.refs.length,wJ s.m.l1)
def cY (c:ax) (aN:Int):fH:=⟨1,1,1,0,0,0,(0,0,1,0,aN),List.replicate (bc c).toNat 0,List.replicate (bc c).toNat 0,(1,0)::List.replicate (c.2.1.toNat- 1) (0,0)⟩
def tG (c:ax) (aG:Bool) (k:Nat):Bs:=oT (List.replicate (min (c.1-k*15) 15).toNat (if aG then -1 else 0))
def Fu (c:ax) (aG:Bool):List (Int×List Bs):=(List.range (bc c).toNat).map λ(k:Nat)=>(cw c aG k 0,[tG c aG k])
def Fv (c:ax) (id aN:Int):List (Int×List Bs):=
 Fu c false++Fu c true++[(ar c 0,chunks (gV c (cY c aN)) (bW c).toNat),(ar c 1,List.replicate (bW c).toNat (List.replicate 64 0)),(1-aN% 2,[List.replicate 64 0]),(aN% 2,[eZ c id aN])]
def Dk.zQ (D:Dk) (l:List (Int×List Bs)):Dk:=l.foldl (λD x=>D.dW x.1 x.2) D
def cj (D:Dk):Int:=match cz (D.sec 0) (D.sec 1) with|some x=>x.1.2.2|none=>0
def ya (c:ax) (id:Int) (D:Dk):Dk:=(D.zQ (Fv c id (cj D+1))).flush
def gd (c:ax) (D:Dk) (p:Pos):Option (Rec×Pos):=
 if c.2.2<=p.2.1 then none else
 let at_:=aZ c p.1+p.2.1
 let n:=dV (D.sec at_)
 if n=0∨c.2.2<p.2.1+n then none else
 match wq (D.dQ at_ n.toNat) with
 |none=>none
 |some (r,sum)=>if r.cZ=p.2.2.1/\r.prev=p.2.2.2.1/\p.2.2.2.2<=r.aN then some (r,(p.1,p.2.1+n,r.cZ+1,sum,r.aN)) else none
def la (c:ax) (D:Dk):Nat->Pos->List (Pos×Rec)×Pos×Option Int
 | 0,p=>([],p,none)
 |n+1,p=>match gd c D p with
  |none=>([],p,none)
  |some (r,q)=>match dC r.items with
   |some g=>([(p,r)],q,some g)
   |none=>let x:=la c D n q;((p,r)::x.1,x.2)
def wK (c:ax) (D:Dk) (p:Pos):Option Pos:=
 if 0<p.2.1 then some p else
 match headD (D.sec (aZ c p.1)) with
 |none=>none
 |some (a,aN,cZ,prev)=>if a=p.1/\cZ=p.2.2.1/\prev=p.2.2.2.1/\p.2.2.2.2<=aN then some (p.1,1,cZ,prev,aN) else none
def fK (c:ax) (D:Dk) (p:Pos):Option Pos:=if bN p.1 0 (c.2.1- 1)&&bN p.2.1 0 (c.2.2- 1) then wK c D p else none
def mG (c:ax) (D:Dk):Nat->Pos->Option (List (Pos×Rec)×Pos)
 | 0,_=>none
 |n+1,p=>match fK c D p with
  |none=>some ([],p)
  |some q=>
   let x:=la c D c.2.2.toNat q
   match x.2.2 with
   |none=>some (x.1,x.2.1)
   |some g=>if bN g 0 (c.2.1- 1) then(mG c D n (g,0,x.2.1.2.2)).map λy=>(x.1++y.1,y.2) else some (x.1,x.2.1)
structure Fd where
 t:Tb
 m:Im
 aQ:Int
 seq:Int
 done:Int
 aN:Int
def Fd.forget (f:Fd):Fd:={f with m:=f.m.forget.1,seq:=f.done}
def Fd.jN (f:Fd) (i:eG) (at_:Int):Fd:=
 if i.1=1 then{f with m:=f.m.lay true i.2.1 at_,seq:=f.seq+1}
 else if i.1=2 then{f with m:=(f.m.cut true i.2.1 i.2.2.1).1,seq:=f.seq+1}
 else if i.1=3 then{f with aQ:=i.2.2.2,seq:=f.seq+1,done:=f.seq+1,m:=f.m.fS.1}
 else if i.1=4 then{f with m:=f.m.move i.2.1 i.2.2.2 at_}
 else if i.1=5 then{f with m:=f.m.lay false i.2.1 at_}
 else if i.1=6 then{f with m:=(f.m.cut false i.2.1 i.2.2.1).1}
 else if i.1=7 then{f with t:=f.t.jh i.2.2.2}
 else f
def Fd.items (f:Fd) (at_:Int):List eG->Fd
 |[]=>f
 |i::l=>(f.jN i (if bM i then at_+1 else at_)).items (if bM i then at_+1 else at_) l
def Fd.dI (f:Fd) (aN:Int):Fd:=if f.aN<aN then({f with aN:=aN}:Fd).forget else f
def Fd.tail (f:Fd) (oV cZ:Int) (last:Bool):Fd:={f with t:={f.t with l:=if last then kT (eC f.t.l oV cZ) oV else eC f.t.l oV cZ}}
def Fd.dh (c:ax) (f:Fd) (x:Pos×Rec):Fd:=((f.dI x.2.aN).items (aZ c x.1.1+x.1.2.1) x.2.items).tail x.1.1 x.2.cZ (dC x.2.items).isSome
def dJ (c:ax) (D:Dk) (aG:Bool):Nat->List Int->Im->Option Im
 |_,[],m=>some m
 |k,slot::l,m=>match oU (D.sec (cw c aG k slot)) with
  |none=>none
  |some refs=>
   let refs:=refs.take (bt (m.cP aG) 15 (m.bR aG) k).length
   if refs.all (λx=>yH c x||decide (x< 1))&&(refs.all (λx=>bN x (if aG then -1 else 0) 4095)) then dJ c D aG (k+1) l (m.load aG k refs) else none
def Jr (n:Nat) (ul:List cJ):List cJ:=ul++(List.replicate n (0,0)).drop ul.length
def jW (c:ax) (v:List Int) (l:List (Int×Int)):List Int:=l.foldl (λv x=>gX c v x.2 1) v
def kU (D:Dk):Option St:=
 match cz (D.sec 0) (D.sec 1) with
 |none=>none
 |some ((c,id,aN),_)=>
  if(D.now.length:Int)<all c then none else
  match j0 c (D.dQ (ar c 0) (bW c).toNat) (D.dQ (ar c 1) (bW c).toNat) with
  |none=>none
  |some (r,slot)=>
   match dJ c D false 0 r.lb (mF c.1.toNat) with
   |none=>none
   |some a=>match dJ c D true 0 r.lo a with
    |none=>none
    |some m1=>match mG c D (c.2.1.toNat+1) r.pos with
     |none=>none
     |some (l,end_)=>
      let f:=(l.foldl (Fd.dh c) ⟨⟨r.bk,List.replicate c.2.1.toNat 0⟩,m1,r.aQ,r.seq,r.done,r.pos.2.2.2.2⟩).forget
      let t:Tb:={f.t with v:=jW c f.t.v f.m.refs}
      let p:Pos:=(end_.1,end_.2.1,end_.2.2.1,end_.2.2.2.1,aN+1)
      if fj c p&&dA c id (aN+1)&&(bg (0,0) t.l p.1).1==1 then
       some ⟨c,((D.put (aZ c p.1+p.2.1) (List.replicate 64 0)).put ((aN+1)% 2) (eZ c id (aN+1))).flush,t,f.m,⟨p,[],[]⟩,⟨r.mode,r.view,f.aQ,f.seq,f.done,aN+1,r.gen,slot,r.lb,r.lo⟩⟩
      else none
def St.nQ (s:St):oW:=⟨8,s.n.view,s.n.seq,0,0,s.n.aQ,s.n.done,[]⟩
def St.op (s:St) (o:nO):St×Int:=if o.kind=1 then s.lay true o.block o.data else if o.kind=2 then s.cut true o.block o.count else s.mark o.aQ
structure Sc where
 view:Int
 size:Int
 aQ:Int
 seq:Int
 ld:Int
 done:Int
 l:List nO
def rq (s:Sc):Int->List nO->List Bs
 |_,[]=>[]
 |n,o::l=>if n<=s.ld∨s.ld+s.size<n then rq s (n+1) l else cV (jJ s.view n o)::rq s (n+1) l
def Sc.out (s:Sc):List Bs:=rq s (s.done+1) s.l
end KM
end
namespace Go.Proofs.YtigjebgjphmkoaaGreat
open Tryz
section
namespace Ds
open Go Go.Kx KM
abbrev iy (b:iR):List Value:=b.1.map (Value.int .u8)
abbrev G8 (w:Int×iR):List Value:=Value.int .i64 w.1::iy w.2
theorem sM (b:iR):(iy b).length=64:=by simp[b.2]
theorem zR (w:Int×iR):(G8 w).length=65:=by simp[w.2.2]
theorem Je (b:iR):(iy b).all cg=true:=by simp[iy,cg]
theorem Yc (w:Int×iR):(G8 w).all cg=true:=by simp[G8,iy,cg]
structure DA where
 a:Addr
 s:Sl
 n:Sl
 h:Sl
 f:Sl
def uW (A:DA) (D:Dk):List Value:=[Sl.v A.s,Sl.v A.n,Sl.v A.h,Sl.v A.f,.int .i64 D.nK,.int .i64 D.jK,.bool D.off]
def DA.jR (A:DA) (c:Nat):Prop:=c=A.a.block∨A.s.has c∨A.n.has c∨A.h.has c∨A.f.has c
structure Zv (A:DA):Prop where
 NN:¬A.s.has A.a.block
 an:¬A.n.has A.a.block
 ah:¬A.h.has A.a.block
 af:¬A.f.has A.a.block
 sn:∀c,A.s.has c->¬A.n.has c
 sh:∀c,A.s.has c->¬A.h.has c
 sf:∀c,A.s.has c->¬A.f.has c
 nh:∀c,A.n.has c->¬A.h.has c
 nf:∀c,A.n.has c->¬A.f.has c
 hf:∀c,A.h.has c->¬A.f.has c
structure eF (H:PH) (A:DA) (D:Dk):Prop where
 row:aa H A.a (uW A D)
 safe:bj iy 64 H A.s D.safe
 now:bj iy 64 H A.n D.now
 held:bj G8 65 H A.h D.held
 dq:dX Value.bool H A.f D.dq
 ap:Zv A
def Js (A:DA) (H H':PH):Prop:=∀c o,H c=some o->¬A.jR c->H' c=some o
theorem eF.cq {H H':PH} {A:DA} {D:Dk} (h:eF H A D) (x:∀c o,A.jR c->H c=some o->H' c=some o):eF H' A D:=
 ⟨⟨h.row.1,h.row.2.1,let⟨e,he⟩:=h.row.2.2;⟨e,x _ _ (.inl rfl) he⟩⟩,h.safe.cq λc o a=>x c o (.inr (.inl a)),h.now.cq λc o a=>x c o (.inr (.inr (.inl a))),
   h.held.cq λc o a=>x c o (.inr (.inr (.inr (.inl a)))),dX.cq h.dq λc o a=>x c o (.inr (.inr (.inr (.inr a)))),h.ap⟩
theorem eF.ext {H H':PH} {A:DA} {D:Dk} (h:eF H A D) (x:Ext H H'):eF H' A D:=h.cq λc o _ a=>x c o a
theorem eF.cR {H H':PH} {A:DA} {D f:Dk} (h:eF H A D) (m:aa H' A.a (uW A f)) (k:td A.a.block H H') (g:f.safe=D.safe) (i:f.now=D.now) (j:f.held=D.held) (l:f.dq=D.dq):eF H' A f:=
 ⟨m,by rw[g];exact h.safe.cq λc o b d=>k c o d λe=>h.ap.NN (e▸b),by rw[i];exact h.now.cq λc o b d=>k c o d λe=>h.ap.an (e▸b),
  by rw[j];exact h.held.cq λc o b d=>k c o d λe=>h.ap.ah (e▸b),by rw[l];exact dX.cq h.dq λc o b d=>k c o d λe=>h.ap.af (e▸b),h.ap⟩
theorem Js.Dv {H H':PH} {A:DA} (k:td A.a.block H H'):Js A H H':=λc o b d=>k c o b λe=>d (.inl e)
structure Small (D:Dk):Prop where
 Zw: -1<=D.nK
 Zx:D.nK< 2 ^ 63
 Zy:0<=D.jK
 Zz:D.jK< 2 ^ 40
 held:D.held.length< 2 ^ 30
 now:D.now.length<=4096
 safe:D.safe.length=D.now.length
 dq:D.dq.length=D.now.length
 at_:∀w,w∈D.held->0<=w.1/\w.1<D.now.length
theorem Jt {H:PH} {A:DA} {D:Dk} {Q:Int->PH->Prop} (h:eF H A D) (sm:Small D) (w:∀H',eF H' A D.act.1->td A.a.block H H'->Q (if D.act.2 then 0 else 3) H'):qN (some A.a) H Q:=by
 refine aD (aX (x:=D.jK) h.row rfl (aD ?_))
 have:=sm.Zy;have:=sm.Zz;have:=sm.Zw;have:=sm.Zx
 rw[bC (by omega) (by omega)]
 refine tf h.row (by simp[uW]) rfl λH1 r1 k1=>aD (aX (x:=D.off) r1 rfl ?_)
 have fin:∀b:Bool,b=(D.off||D.nK==0)->aP (some A.a) λs=>aV H1 (s.add 6) [.bool b] λd=>aP (some A.a) λt=>aH .bool d (t.add 6) λz=>aL z (Q 3 d)
  (aP (some A.a) λu=>aH (.int .i64) d (u.add 4) λm=>aP (some A.a) λv=>aV d (v.add 4) ([.int .i64 (if(IntKind.wrap .i64 (m- 1))<(-1) then(-1) else(IntKind.wrap .i64 (m- 1)))]) λr=>Q 0 r):=by
  intro b y
  refine aD (tf r1 (by simp[uW]) rfl λp i k2=>aD (aX (x:=b) i rfl ?_))
  have g:td A.a.block H p:=λc o n f=>k2 c o (k1 c o n f) f
  refine aM (λk=>?_) (λj=>?_)
  ·have e:D.act=({D with jK:=D.jK+1,off:=true},false):=by rw[Dk.act,←y,k];rfl
   have:=w p (h.cR (by rw[e];subst k;exact i) g (by rw[e]) (by rw[e]) (by rw[e]) (by rw[e])) g
   grind
  ·have e:D.act=({D with jK:=D.jK+1,off:=false,nK:=max (D.nK- 1) (-1)},true):=by rw[Dk.act,←y,j];rfl
   refine aD (aX (x:=D.nK) i rfl (aD ?_))
   rw[bC (x:=D.nK- 1) (by omega) (by omega)]
   have em:(if D.nK- 1< -1 then -1 else D.nK- 1)=max (D.nK- 1) (-1):=by omega
   rw[em]
   refine tf i (by simp[uW]) rfl λq B k3=>?_
   have l:td A.a.block H q:=λc o n f=>k3 c o (g c o n f) f
   have:=w q (h.cR (by rw[e];subst j;exact B) l (by rw[e]) (by rw[e]) (by rw[e]) (by rw[e])) l
   grind
 refine aE (aM (by grind) (λC=>aD (aX (x:=D.nK) r1 rfl (by grind))))
theorem oH {H:PH} {A:DA} {D:Dk} {at':Int} {Q:Bool->PH->Prop} (h:eF H A D) (b:Q (decide (0<=at')&&decide (at'<D.now.length)) H):qM (some A.a) at' H Q:=by
 refine aE (aW rfl (aE (aM (λe=>aD (aX (x:=A.n) h.row rfl ?_)) (λe=>?_))))
 ·rw[h.now.bL];grind
 grind
theorem eF.dg {H:PH} {A:DA} {D:Dk} (h:eF H A D) {c:Nat} (a:A.jR c):∃o,H c=some o:=by
 rcases a with rfl|a|a|a|a
 ·obtain⟨e,he⟩:=h.row.2.2;grind
 ·exact bj.dg h.safe a
 ·exact bj.dg h.now a
 ·exact bj.dg h.held a
 ·exact dX.dg h.dq a
theorem kA {H:PH} {c:Nat} (h:∃o,H c=some o) (a:H c=none):False:=by grind
theorem lT {c:Nat}:¬Sl.nil.has c:=λ⟨a,b,_⟩=>by cases b
theorem Vc {α:Type} {enc:α->List Value} {sz:Nat} {H:PH} {e:TypeId} {x:α} {n:Int} {cs:List Value} {K:Sl->PH->Prop} (c:cs=cN n.toNat (enc x)) (b:∀r H',Ext H H'->kz H r->bj enc sz H' r (List.replicate n.toNat x)->K r H'):lq H (row cs e) n n K:=by
 subst c
 exactλr H' a=>b r H' (.nD a) (.iI a) (bj.xk a Bo (by simp))
theorem Yd {α:Type} {enc:α->Value} {H:PH} {e:TypeId} {x:α} {n:Int} {K:Sl->PH->Prop} (b:∀r H',Ext H H'->kz H r->dX enc H' r (List.replicate n.toNat x)->K r H'):lq H (row (cN n.toNat [enc x]) e) n n K:=by
 intro r H' a
 have e1:cN n.toNat [enc x]=(List.replicate n.toNat x).map enc:=by rw[xc,List.map_replicate]
 rw[e1] at a
 exact b r H' (.nD a) (.iI a) (dX.iI (l:=List.replicate n.toNat x) (e:=e) (by simpa using a))
theorem fO {H:PH} {n:Nat} {Q:Option Addr->Int->PH->Prop} (d:1<=n) (e:n<=4096) (p:∀A H',Ext H H'->eF H' A (fresh n)->(∀c,A.jR c->H c=none)->Q (some A.a) 0 H'):xm n H Q:=by
 have e1:decide ((n:Int)< 1)=false:=by simp;omega
 have e2:decide ((4096:Int)<n)=false:=by simp;omega
 refine aE (aF e1 ?_)
 rw[e2]
 refine aF rfl ⟨⟨by omega,by omega,by omega⟩,⟨by omega,by omega,by omega⟩,⟨by omega,by omega,by omega⟩,?_⟩
 refine Vc (enc:=iy) (sz:=64) (x:=rH) rfl λr1 H1 g o1 v1=>Vc (enc:=iy) (sz:=64) (x:=rH) rfl λq s f o2 v2=>Yd (x:=false) λr t h o3 l=>?_
 refine kb λa o i m f4=>?_
 rw[Int.toNat_natCast] at v1 v2 l
 have j:=v1.ext (f.trans h)
 have k:=v2.ext h
 refine p ⟨a,r1,q,Sl.nil,r⟩ o (((g.trans f).trans h).trans i) ⟨m,j.ext i,k.ext i,.inl ⟨rfl,rfl⟩,l.ext i,⟨?_,?_,lT,?_,?_,λ_ _=>lT,?_,λ_ _=>lT,?_,λc b=>absurd b lT⟩⟩ ?_
 ·exactλb=>kA (bj.dg j b) f4
 ·exactλb=>kA (bj.dg k b) f4
 ·exactλb=>kA (dX.dg l b) f4
 ·exactλc d e=>kA (bj.dg v1 d) (o2 c e)
 ·exactλc d e=>kA (bj.dg (v1.ext f) d) (o3 c e)
 ·exactλc d e=>kA (bj.dg v2 d) (o3 c e)
 ·rintro c (rfl|b|b|b|b)
  ·exact((g.trans f).trans h).none f4
  ·exact o1 c b
  ·exact g.none (o2 c b)
  ·exact absurd b lT
  ·exact(g.trans f).none (o3 c b)
structure D7 (A:DA) (H:PH) (A':DA) (H':PH):Prop where
 same:A'.a=A.a
 jR:∀c,A'.jR c->A.jR c∨H c=none
 beside:Js A H H'
theorem D7.Ey {A:DA} {H H':PH} (k:td A.a.block H H'):D7 A H A H':=⟨rfl,by grind,.Dv k⟩
theorem Ju {α:Type} {enc:α->Value} {H:PH} {s:Sl} {l:List α} {n:Nat} {K:Addr->Prop} (h:cL enc H s l) (e:n=l.length) (c:0<n) (d:∀a,s.a=some a->K a):TG s n K:=by
 subst e
 obtain⟨a,b,_,_⟩:=h.2.2 0 l[0] (by simp[c])
 exact⟨by rw[h.1];omega,a,b,d a b⟩
theorem Hi {α:Type} {enc:α->Value} {H:PH} {s:Sl} {l:List α} {a:Addr} (h:cL enc H s l) (b:s.a=some a):cI H a l.length=some (l.map enc):=by
 have:=h.cells
 unfold eQ at this
 rw[b] at this
 simpa[h.1] using this
theorem Fw {α:Type} {enc:α->Value} {A B:PH} {s:Sl} {l:List α} (h:cL enc A s l) (x:∀c o,s.has c->A c=some o->B c=some o):cL enc B s l:=
 ⟨h.1,h.2.1,λi y hi=>let⟨a,d,j,b⟩:=h.2.2 i y hi;⟨a,d,j,by
  unfold cellAt at b ⊢
  rw[sZ] at b ⊢
  split at b
  ·rename_i c e f g;rw[x _ _ ⟨a,d,rfl⟩ g];exact b
  ·cases b⟩⟩
theorem Jv (D:Dk):D.act.1.safe=D.safe/\D.act.1.now=D.now/\D.act.1.held=D.held/\D.act.1.dq=D.dq:=by
 unfold Dk.act;grind
theorem tr {H:PH} {A:DA} {D:Dk} {i:Nat} {p:Sl} {b:iR} {Q:Int->PH->Prop} (h:eF H A D) (sm:Small D) (hi:i<D.now.length) (W:Bytes H p b.1) (R:∀c,p.has c->¬A.jR c)
 (E:∀S H',eF H' S (D.write i b)->D7 A H S H'->Q (if D.act.2 then 0 else 3) H'):gB (some A.a) i p H Q:=by
 have hlen:=W.bL
 rw[b.2] at hlen
 have e1:(decide (0<=(i:Int))&&decide ((i:Int)<D.now.length))=true:=by simp;omega
 have e2:((p.len:Int) != 64)=false:=by rw[hlen];rfl
 refine oH h ?_
 rw[e1]
 refine aE (aF rfl ?_)
 rw[e2]
 refine aF rfl (Jt h sm λH1 P k1=>?_)
 obtain⟨s1,s2,s3,s4⟩:=Jv D
 by_cases k:D.act.2=true
 ·have hw:D.write i b={D.act.1 with held:=D.held++[((i:Int),b)],now:=D.now.set i b}:=by rw[Dk.write,if_pos k]
  rw[if_pos k] at E ⊢
  have z:Bytes H1 p b.1:=Fw W λc o d l=>k1 c o l λe=>R c d (.inl e)
  refine aF rfl (aD (aX (x:=A.h) P.row rfl (Ju z b.2.symm (by decide) λa F=>?_)))
  have L:=Hi z F
  rw[b.2] at L
  refine⟨_,L,⟨by simp[b.2],⟨by simp[sB,b.2],λr N t=>?_⟩⟩⟩
  have J:=Ext.nD t
  have j:=P.ext J
  have v2:bj G8 65 N r [((i:Int),b)]:=bj.xk t (by simp[sB,G8,iy]) rfl
  have X:=sm.held
  refine⟨j.row.cell rfl,TJ zR (by decide) (s3▸j.held) (v2.cells zR (by decide)) v2.len Yc rfl (by rw[List.length_singleton];omega) λm T v3 k3 n3=>?_⟩
  have G:aa T A.a (uW A D.act.1):=⟨j.row.1,j.row.2.1,let⟨e,he⟩:=j.row.2.2;⟨e,k3 _ _ he j.ap.ah⟩⟩
  refine aD (tf G (by simp[uW]) rfl λU I u=>aD (aX (x:=A.n) I rfl ?_))
  have Z:∀c,m.has c->∃o,T c=some o:=λc d=>bj.dg v3 d
  have w:∀c,N c=none->H c=none:=λc d=>by
   cases g:H c with
   |none=>rfl
   |some o=>
    by_cases he:c=A.a.block
    ·subst he;exact absurd d (λd=>kA (j.dg (.inl rfl)) d)
    ·rw[J c o (k1 c o g he)] at d;cases d
  have q:∀c,m.has c->A.h.has c∨N c=none:=n3
  have K:∀c,m.has c->c≠A.a.block:=λc d e=>by
   subst e
   rcases q _ d with g|g
   ·exact j.ap.ah g
   ·exact kA (j.dg (.inl rfl)) g
  have n4:bj iy 64 U A.n D.now:=(s2▸j.now).cq λc o d l=>u c o (k3 c o l (j.ap.nh c d)) λe=>j.ap.an (e▸d)
  have p4:Bytes U p b.1:=Fw z λc o d l=>u c o (k3 c o (J c o l) λg=>R c d (.inr (.inr (.inr (.inl g))))) λe=>R c d (.inl e)
  refine Ju p4 b.2.symm (by decide) λa4 V=>?_
  have M:=Hi p4 V
  rw[b.2] at M
  refine⟨_,M,sk n4 (by omega) (by omega) λa5 y el=>⟨by simp[b.2],Me (y:=b) sM el (Je b) λO v5 C=>?_⟩⟩
  rw[Int.toNat_natCast] at v5
  have Y:∀c,A.n.has c->¬m.has c:=λc d B=>by
   rcases q c B with g|g
   ·exact j.ap.nh c d g
   ·exact kA (j.dg (.inr (.inr (.inl d)))) g
  have sr:∀c,A.s.has c->¬m.has c:=λc d B=>by
   rcases q c B with g|g
   ·exact j.ap.sh c d g
   ·exact kA (j.dg (.inr (.inl d))) g
  have fr:∀c,A.f.has c->¬m.has c:=λc d B=>by
   rcases q c B with g|g
   ·exact j.ap.hf c g d
   ·exact kA (j.dg (.inr (.inr (.inr (.inr d))))) g
  refine E ⟨A.a,A.s,A.n,m,A.f⟩ O ?_ ⟨rfl,?_,λc o d t=>?_⟩
  ·rw[hw]
   refine⟨?_,?_,v5,?_,?_,⟨j.ap.NN,j.ap.an,λd=>K _ d rfl,j.ap.af,j.ap.sn,sr,j.ap.sf,Y,j.ap.nf,λc d hf=>fr c hf d⟩⟩
   ·have:uW ⟨A.a,A.s,A.n,m,A.f⟩ {D.act.1 with held:=D.held++[((i:Int),b)],now:=D.now.set i b}=(uW A D.act.1).set 2 (Sl.v m):=rfl
    rw[this]
    exact⟨I.1,I.2.1,let⟨e,he⟩:=I.2.2;⟨e,C _ _ he j.ap.an⟩⟩
   ·show bj iy 64 O A.s D.act.1.safe
    exact j.safe.cq λc o d l=>C c o (u c o (k3 c o l (j.ap.sh c d)) λe=>j.ap.NN (e▸d)) λg=>j.ap.sn c d g
   ·exact v3.cq λc o d l=>C c o (u c o l (K c d)) λg=>Y c g d
   ·show dX Value.bool O A.f D.act.1.dq
    exact dX.cq j.dq λc o d l=>C c o (u c o (k3 c o l λg=>j.ap.hf c g d) λe=>j.ap.af (e▸d)) λg=>j.ap.nf c g d
  ·rintro c (rfl|d|d|d|d)
   ·exact .inl (.inl rfl)
   ·exact .inl (.inr (.inl d))
   ·exact .inl (.inr (.inr (.inl d)))
   ·rcases q c d with g|g
    ·exact .inl (.inr (.inr (.inr (.inl g))))
    ·exact .inr (w c g)
   ·exact .inl (.inr (.inr (.inr (.inr d))))
  ·have F:c≠A.a.block:=λe=>t (.inl e)
   exact C c o (u c o (k3 c o (J c o (k1 c o d F)) λg=>t (.inr (.inr (.inr (.inl g))))) F) λg=>t (.inr (.inr (.inl g)))
 ·have hf:D.act.2=false:=by simpa using k
  have hw:D.write i b=D.act.1:=by rw[Dk.write,if_neg k]
  rw[if_neg k] at E ⊢
  exact aW rfl (E A H1 (hw▸P) (.Ey k1))
theorem Jw {α:Type} {enc:α->Value} {H H':PH} {s:Sl} {e:TypeId} (h:wk H (row [] e) 0 0 s H'):dX enc H' s []:=by
 obtain⟨b,a,rfl,rfl⟩:=h
 exact .inr ⟨b,[],e,by simp,by simp⟩
theorem Q5 {α:Type} {enc:α->List Value} {sz:Nat} {H H':PH} {s:Sl} {e:TypeId} (h:wk H (row [] e) 0 0 s H'):bj enc sz H' s []:=by
 obtain⟨b,a,rfl,rfl⟩:=h
 exact .inr ⟨b,0,e,[],by simp,by simp,by simp⟩
theorem Lz {H:PH} {s:Sl} {l:List Int} {a:Addr} {Q:Sl->PH->Prop} (h:Bytes H s l) (i:s.a=some a) (m:l.length<=2 ^ 40) (g:∀r H',Ext H H'->kz H r->dX (Value.int .u8) H' r l->Q r H'):cC s H Q:=by
 refine aF (by rw[i];rfl) λr1 H1 d=>?_
 have e:=Ext.nD d
 have o1:kz H r1:=.iI d
 refine G3 (l:=[]) (Jw d) (h.ext e) (λ_=>rfl) rfl (by simp;omega) λk f v2 k2 n2=>g k f (e.qE k2 o1) (λc j=>?_) (by simpa using v2)
 rcases n2 c j with b|b
 ·exact o1 c b
 ·exact e.none b
theorem Oj {H:PH} {s:Sl} {l:List iR} {i n c:Nat} {x:iR} {a:Addr} (h:qq iy 64 H s l i x a) (m:n<=64) (f:n<=c):Bytes H ⟨some a,n,c⟩ (x.1.take n):=by
 refine⟨by simp[x.2];omega,f,λj y d=>⟨a,rfl,?_,?_⟩⟩
 ·obtain⟨⟨b,sp,e,spare,rfl,g,k,rfl⟩,_⟩:=h;rfl
 ·rw[List.getElem?_take] at d
  split at d
  ·exact h.cell sM (by grind)
  ·cases d
theorem vW {H:PH} {A:DA} {D:Dk} {i:Nat} {Q:Sl->Int->PH->Prop} (h:eF H A D) (sm:Small D) (hi:i<D.now.length)
 (m:D.read i=3->Q Sl.nil 3 H) (o:D.read i=4->Q Sl.nil 4 H) (l:D.read i=0->∀r H' b,D.now[i]?=some b->Ext H H'->kz H r->dX (Value.int .u8) H' r b.1->Q r 0 H'):gm (some A.a) i H Q:=by
 have e1:(decide (0<=(i:Int))&&decide ((i:Int)<D.now.length))=true:=by simp;omega
 refine oH h ?_
 rw[e1]
 refine aF rfl (aD (aX (x:=D.off) h.row rfl (aM (λe=>m (by rw[Dk.read,e];rfl)) (λe=>aD (aX (x:=A.f) h.row rfl ?_)))))
 have u:=sm.dq
 refine dm h.dq.list (by omega) (by omega) λx q=>?_
 rw[Int.toNat_natCast] at q
 have g:D.dq.getD i false=x:=by grind
 refine aM (λk=>o (by rw[Dk.read,e,g,k];rfl)) (λj=>aD (aX (x:=A.n) h.row rfl ?_))
 refine sk h.now (by omega) (by omega) λa b el=>⟨_,⟨by omega,by omega,by omega,rfl⟩,?_⟩
 have p:Bytes H ⟨some a,64,64⟩ b.1:=by
  have:=Oj el (n:=64) (c:=64) (by omega) (by omega)
  grind
 have es:(⟨some (if 64=(0:Int).toNat then a else a.add ((0:Int).toNat*1)),(64:Int).toNat-(0:Int).toNat,64-(0:Int).toNat⟩:Sl)=⟨some a,64,64⟩:=by
  rfl
 rw[es]
 have d:=el.get
 rw[Int.toNat_natCast] at d
 exact Lz p rfl (by omega) λr H' t o' s=>l (by rw[Dk.read,e,g,j];rfl) r H' b d t o' s
theorem Tq {H:PH} {A:DA} {D:Dk} {Q:Bool->PH->Prop} (h:eF H A D) (b:Q D.off H):iL (some A.a) H Q:=aE (aF rfl (aD (aX (x:=D.off) h.row rfl b)))
theorem Jx {H:PH} {A:DA} {D:Dk} {Q:Int->PH->Prop} (h:eF H A D) (b:Q D.now.length H):jw (some A.a) H Q:=by
 refine aF rfl (aD (aX (x:=A.n) h.row rfl ?_))
 rw[h.now.bL];exact b
theorem aa.part {H:PH} {a:Addr} {cs:List Value} {i n:Nat} (h:aa H a cs) (b:i+n<=cs.length):cI H (a.add i) n=some ((cs.drop i).take n):=by
 obtain⟨e,he⟩:=h.2.2
 rw[h.addr,fV,qJ he (by omega),Nat.zero_add]
theorem I4 (l:List (Int×iR)):∀s,(jg s l).length=s.length:=by
 induction l with
 |nil=>intro s;rfl
 |cons w l a=>intro s;show(jg (s.set w.1.toNat w.2) l).length=_;rw[a];simp
theorem L0 (s:List iR) (l:List (Int×iR)) (w:Int×iR):jg s (l++[w])=(jg s l).set w.1.toNat w.2:=by simp[jg]
theorem Ok {H:PH} {A:DA} {D:Dk} {Q:Int->PH->Prop} (h:eF H A D) (sm:Small D) (t:∀z H',eF H' z D.flush->D7 A H z H'->Q (if D.act.2 then 0 else 3) H'):gC (some A.a) H Q:=by
 refine aF rfl (Jt h sm λH1 u k1=>?_)
 obtain⟨s1,s2,P,s4⟩:=Jv D
 by_cases j:D.act.2=true
 ·have hw:D.flush={D.act.1 with safe:=jg D.safe D.held,held:=[]}:=by rw[Dk.flush,if_pos j]
  rw[if_pos j] at t ⊢
  refine aF rfl (aD (aX (x:=A.h) u.row rfl ?_))
  have U:=sm.held
  refine av D.held.length (λk s C=>s=(k:Int)/\eF C A {D.act.1 with safe:=jg D.safe (D.held.take k)}/\D7 A H A C) ⟨rfl,by rw[List.take_zero];show eF H1 A {D.act.1 with safe:=D.safe};rw[←s1];exact u,.Ey k1⟩ ?_
  rintro k s X again hk ⟨rfl,d,DH⟩ F
  have v2:=d.held
  simp only[P] at v2
  rw[v2.bL]
  refine aM (λV=>?_) (λG=>?_)
  ·have I:k<D.held.length:=by grind
   refine sk v2 (by omega) (by omega) λa w el=>ldN zR el ?_
   have p:=el.get
   rw[Int.toNat_natCast] at p
   obtain⟨S,Z⟩:=sm.at_ w (by grind)
   refine kb λO B L v f3=>⟨zR w,uM v (by rw[zR];rfl) (Yc w) λM K J=>?_⟩
   have i:eF M A {D.act.1 with safe:=jg D.safe (D.held.take k)}:=d.cq λc o b g=>J c o (L c o g) λe=>by subst e;rw[f3] at g;cases g
   have T:¬A.jR O.block:=λb=>kA (d.dg b) f3
   refine aD (aX (x:=A.s) i.row rfl (aX (x:=w.1) K rfl ⟨iy w.2,?_,?_⟩))
   ·rw[aa.part K (by rw[zR];omega)]
    show some ((iy w.2).take 64)=_
    rw[List.take_of_length_le (by rw[sM];omega)]
   ·have W:=sm.safe
    refine sk i.safe S (by rw[I4];omega) λY y E=>⟨sM w.2,Me (y:=w.2) sM E (Je _) λN R r=>?_⟩
    refine F I _ _ ⟨?_,⟨?_,?_,?_,?_,?_,i.ap⟩,⟨rfl,λc b=>.inl b,λc o b q=>?_⟩⟩
    ·rw[bC (by omega) (by omega)];push_cast;rfl
    ·exact⟨i.row.1,i.row.2.1,let⟨e,he⟩:=i.row.2.2;⟨e,r _ _ he i.ap.NN⟩⟩
    ·rw[List.take_add_one,p];show bj iy 64 N A.s (jg D.safe (D.held.take k++[w]));rw[L0];exact R
    ·exact i.now.cq λc o b g=>r c o g λl=>i.ap.sn c l b
    ·exact i.held.cq λc o b g=>r c o g λl=>i.ap.sh c l b
    ·exact dX.cq i.dq λc o b g=>r c o g λl=>i.ap.sf c l b
    ·have m:=DH.beside c o b q
     exact r c o (J c o (L c o m) λe=>by subst e;rw[f3] at m;cases m) λl=>q (.inr (.inl l))
  ·have:k=D.held.length:=by simp at G;omega
   subst this
   rw[List.take_length] at d
   refine aD (tf d.row (by simp[uW]) rfl λB v k3=>t ⟨A.a,A.s,A.n,Sl.nil,A.f⟩ B ?_ ⟨rfl,?_,?_⟩)
   ·rw[hw]
    refine⟨v,?_,?_,.inl ⟨rfl,rfl⟩,?_,⟨d.ap.NN,d.ap.an,lT,d.ap.af,d.ap.sn,λ_ _=>lT,d.ap.sf,λ_ _=>lT,d.ap.nf,λc b=>absurd b lT⟩⟩
    ·exact d.safe.cq λc o b g=>k3 c o g λe=>d.ap.NN (e▸b)
    ·exact d.now.cq λc o b g=>k3 c o g λe=>d.ap.an (e▸b)
    ·exact dX.cq d.dq λc o b g=>k3 c o g λe=>d.ap.af (e▸b)
   ·rintro c (rfl|b|b|b|b)
    ·exact .inl (.inl rfl)
    ·exact .inl (.inr (.inl b))
    ·exact .inl (.inr (.inr (.inl b)))
    ·exact absurd b lT
    ·exact .inl (.inr (.inr (.inr (.inr b))))
   ·exactλc o b q=>k3 c o (DH.beside c o b q) λe=>q (.inl e)
 ·have hw:D.flush=D.act.1:=by rw[Dk.flush,if_neg j]
  rw[if_neg j] at t ⊢
  exact aW rfl (t A H1 (hw▸u) (.Ey k1))
end Ds
end
section
namespace Ds
open Go Go.Kx KM
theorem bj.Jy {α:Type} {enc:α->List Value} {sz:Nat} {H:PH} {s:Sl} {l:List α} (h:bj enc sz H s l) (c:0<l.length):s.a.isNone=false:=by
 rcases h with⟨rfl,rfl⟩|⟨b,sp,e,spare,rfl,_⟩
 ·simp at c
 ·rfl
theorem dX.Jy {α:Type} {enc:α->Value} {H:PH} {s:Sl} {l:List α} (h:dX enc H s l) (c:0<l.length):s.a.isNone=false:=by
 rcases h with⟨rfl,rfl⟩|⟨b,sp,e,rfl,_⟩
 ·simp at c
 ·rfl
theorem DI {H:PH} {s:Sl} {l:List iR} {Q:Sl->PH->Prop} (h:bj iy 64 H s l) (f:0<l.length) (m:l.length<=4096) (g:∀r H',Ext H H'->kz H r->bj iy 64 H' r l->Q r H'):dz s H Q:=by
 refine aF (bj.Jy h f) λr1 H1 b=>?_
 have d:=Ext.nD b
 have o1:kz H r1:=.iI b
 refine TJ (l:=[]) sM (by decide) (Q5 b) ((h.ext d).cells sM (by decide)) h.len Je (by simp) (by simp;omega) λk e v2 k2 n2=>g k e (d.qE k2 o1) (λc j=>?_) (by grind)
 rcases n2 c j with a|a
 ·exact o1 c a
 ·exact d.none a
theorem L4 {H:PH} {s:Sl} {l:List Bool} {Q:Sl->PH->Prop} (h:dX Value.bool H s l) (f:0<l.length) (m:l.length<=4096) (g:∀r H',Ext H H'->kz H r->dX Value.bool H' r l->Q r H'):kQ s H Q:=by
 refine aF (dX.Jy h f) λr1 H1 b=>?_
 have d:=Ext.nD b
 have o1:kz H r1:=.iI b
 refine G3 (l:=[]) (Jw b) (h.ext d).list (λ_=>rfl) rfl (by simp;omega) λk e v2 k2 n2=>g k e (d.qE k2 o1) (λc j=>?_) (by simpa using v2)
 rcases n2 c j with a|a
 ·exact o1 c a
 ·exact d.none a
theorem Q6 {H:PH} {s src:Sl} {l:List iR} {i n t:Nat} {x y:iR} {a sa:Addr} {K:Int->PH->Prop} (el:qq iy 64 H s l i x a) (I:n<=64) (h:src.a=some sa) (E:n<=src.len) (C:cI H sa n=some ((y.1.take n).map (Value.int .u8)))
 (w:∀r H',bj iy 64 H' s (l.set i (Ex x y n))->wm s H H'->K r H'):nC H 1 ⟨some a,n,t⟩ src K:=by
 obtain⟨b,off,cs,e,B,o,hle,J,hk⟩:=Me (y:=Ex x y n) (K:=λH'=>∀r,K r H') sM el (Je _) λH' v k r=>w r H' v k
 obtain⟨⟨F,sp,j,spare,rfl,G,m,rfl⟩,q⟩:=el
 have hi:=(List.getElem?_eq_some_iff.1 q).1
 cases B
 rw[m] at o
 have p:cs=l.flatMap iy++spare:=by
  grind
 have he:j=e:=by cases o;rfl
 subst p;subst he
 have c:((y.1.take n).map (Value.int .u8)).length=n:=by grind
 have g:=qp (enc:=iy) q
 have f:=rP sM (l:=l) (i:=i) (by omega)
 refine⟨(y.1.take n).map (Value.int .u8),?_,by rw[List.all_map];exact List.all_eq_true.2 λz _=>rfl,_,i*64,_,j,rfl,m,?_,?_⟩
 ·have em:min src.len n=n:=by omega
  simp only[eQ,h,em,Nat.mul_one];exact C
 ·rw[c];rw[sM] at hle;omega
 ·have d:putAt (l.flatMap iy++spare) (i*64) ((y.1.take n).map (Value.int .u8))=putAt (l.flatMap iy++spare) (i*64) (iy (Ex x y n)):=by
   rw[kK _ _ _ (by rw[c];rw[sM] at hle;omega),kK _ _ _ hle,c,sM]
   have u:iy (Ex x y n)=(y.1.take n).map (Value.int .u8)++(iy x).drop n:=by simp[iy,Ex]
   rw[u,List.append_assoc,List.append_assoc,List.append_assoc]
   congr 2
   generalize(l.drop (i+1)).flatMap iy=rest at g
   generalize(l.take i).flatMap iy=pre at g f
   rw[g]
   simp only[List.append_assoc]
   rw[List.drop_append,List.drop_of_length_le (by omega),List.nil_append,f,Nat.add_sub_cancel_left,List.drop_append_of_le_length (by rw[sM];omega)]
   congr 1
   rw[List.drop_append,List.drop_of_length_le (by omega),List.nil_append,f,Nat.add_sub_cancel_left,List.drop_append_of_le_length (by rw[sM];omega),List.drop_of_length_le (by rw[sM];omega),List.nil_append]
  rw[d];exact hk _
theorem Wc (m:List Int) (k:Nat):0<=gW m k/\gW m k< 192:=by
 unfold gW
 omega
theorem Fx (m:List Int) (st:List iR×Bool) (k:Nat) (w:Int×iR):(oF m st k w).1.length=st.1.length:=by
 unfold oF;grind
theorem tt (m:List Int) (safe:List iR) (held:List (Int×iR)):∀k,(dv m safe held k).1.length=safe.length
 | 0=>rfl
 |k+1=>by
  unfold dv
  split
  ·rw[Fx,tt m safe held k]
  ·exact tt m safe held k
theorem Tr (x:Int):(IntKind.wrap .i64 (x.tmod 192+192)).tmod 192=x% 192:=by
 have a:=Int.lt_tmod_of_pos x (show(0:Int)< 192 by decide)
 have b:=Int.tmod_lt_of_pos x (show(0:Int)< 192 by decide)
 rw[bC (by omega) (by omega),Int.tmod_eq_emod_of_nonneg (by omega)]
 grind
theorem Ol {H:PH} {A:DA} {D:Dk} {p:Sl} {m:List Int} {Q:Option Addr->PH->Prop} (h:eF H A D) (sm:Small D) (h0:0<D.now.length) (hp:gR H p m)
 (hQ:∀A' H',Ext H H'->eF H' A' (D.jL m)->(∀c,A'.jR c->H c=none)->Q (some A'.a) H'):oD (some A.a) p H Q:=by
 have az:=sm.safe
 have aw:=sm.dq
 have ay:=sm.now
 have ax:=sm.held
 refine aF rfl (aD (aX (x:=A.s) h.row rfl (aD (aX (x:=A.f) h.row rfl ?_))))
 refine DI h.safe (by omega) (by omega) λr1 H1 X o1 v1=>⟨(h.ext X).row.cell rfl,L4 (h.ext X).dq (by omega) (by omega) λM H2 x2 o2 v2=>?_⟩
 refine kb λa H3 x3 am f3=>?_
 have ae:=(X.trans x2).trans x3
 have fa:H a.block=none:=(X.trans x2).none f3
 have al:kz H M:=o2.ext X
 have d12:∀c,r1.has c->¬M.has c:=λc h1 h2=>kA (bj.dg v1 h1) (o2 c h2)
 have E:¬r1.has a.block:=λb=>kA (bj.dg (v1.ext x2) b) f3
 have ab:¬M.has a.block:=λb=>kA (dX.dg v2 b) f3
 refine aD (aX (x:=A.h) (h.ext ae).row rfl ?_)
 rw[h.held.bL]
 refine av D.held.length (λk s Hk=>s=((dv m D.safe D.held k).2,(k:Int))/\Ext H Hk/\aa Hk a [Sl.v r1,Sl.v Sl.nil,Sl.v Sl.nil,Sl.v M,.int .i64 (-1),.int .i64 0,.bool false]/\bj iy 64 Hk r1 (dv m D.safe D.held k).1/\dX Value.bool Hk M D.dq)
  ⟨rfl,ae,am,(v1.ext (x2.trans x3)),v2.ext x3⟩ ?_
 rintro k s H4 again hk ⟨rfl,x4,J,v4,u4⟩ T
 refine aM (λak=>?_) (λai=>?_)
 ·have U:k<D.held.length:=by simpa using ak
  have h4:=h.ext x4
  refine aE (sk h4.held (by omega) (by omega) λa5 w el=>ldN zR el ?_)
  have B:=el.get
  rw[Int.toNat_natCast] at B
  obtain⟨w0,w1⟩:=sm.at_ w (List.mem_of_getElem? B)
  have j:dv m D.safe D.held (k+1)=oF m (dv m D.safe D.held k) k w:=by
   show(match D.held[k]? with|some w=>_|none=>_)=_
   rw[B]
  refine kb λq H6 x6 r6 f6=>⟨zR w,uM r6 (by rw[zR];rfl) (Yc w) λg r7 k7=>?_⟩
  have qE:∀c o,H4 c=some o->g c=some o:=λc o b=>k7 c o (x6 c o b) λe=>by subst e;rw[f6] at b;cases b
  have l:Ext H4 g:=qE
  have x7:=x4.trans l
  have d:=J.ext l
  have v7:=v4.ext l
  have u7:=u4.ext l
  have ew:IntKind.wrap .i64 ((k:Int)+1)=((k+1:Nat):Int):=by rw[bC (by omega) (by omega)];push_cast;rfl
  obtain⟨p0,p1⟩:=Wc m k
  have e3:(gW m k).tmod 3=gW m k% 3:=Int.tmod_eq_emod_of_nonneg p0
  have I:=tt m D.safe D.held k
  have go:aL ((gW m k).tmod 3==1)
   (aH Sl.v g (a.add 0) λap=>aH (.int .i64) g (q.add 0) λl=>C6 g (q.add 1) 64 λaq=>bX ap 64 l λah=>Ep g ah 64 aq λag=>again ((dv m D.safe D.held k).2,IntKind.wrap .i64 ((k:Int)+1)) ag)
   (aO (λ(ao:Bool) (C:PH)=>aL ao
    (aH Sl.v C (a.add 0) λY=>aH (.int .i64) C (q.add 0) λZ=>bX Y 64 Z λR=>Bm 64 R 1 0 (IntKind.wrap .i64 (Int.tdiv (gW m k) 3)) λV=>Bm 64 (q.add 1) 1 0 64 λW=>nC C 1 V W λar P=>again (true,IntKind.wrap .i64 ((k:Int)+1)) P)
    (again ((dv m D.safe D.held k).2,IntKind.wrap .i64 ((k:Int)+1)) C))
   λad=>aL ((gW m k).tmod 3==2) (ad (!(dv m D.safe D.held k).2) g) (ad false g)):=by
   rw[ew,e3]
   have stay:dv m D.safe D.held (k+1)=dv m D.safe D.held k->again ((dv m D.safe D.held k).2,((k+1:Nat):Int)) g:=λhe=>
    T U _ _ ⟨by rw[he],x7,d,by rw[he];exact v7,u7⟩
   refine aM (λe1=>?_) (λe1=>?_)
   ·have t:gW m k% 3=1:=by simpa using e1
    have z:dv m D.safe D.held (k+1)=((dv m D.safe D.held k).1.set w.1.toNat w.2,(dv m D.safe D.held k).2):=by rw[j,oF,if_pos t]
    refine aX (x:=r1) d rfl (aX (x:=w.1) r7 rfl ⟨iy w.2,?_,?_⟩)
    ·rw[aa.part r7 (by rw[zR];omega)]
     show some ((iy w.2).take 64)=_
     rw[List.take_of_length_le (by rw[sM];omega)]
    ·refine sk v7 w0 (by rw[I];omega) λa8 y F=>⟨sM w.2,Me (y:=w.2) sM F (Je _) λH8 v8 k8=>T U _ _ ⟨by rw[z],x7.qE k8 o1,?_,by rw[z];exact v8,?_⟩⟩
     ·exact⟨d.1,d.2.1,let⟨e,he⟩:=d.2.2;⟨e,k8 _ _ he E⟩⟩
     ·exact dX.cq u7 λc o b n=>k8 c o n λhh=>d12 c hh b
   ·have t:¬gW m k% 3=1:=by simpa using e1
    have O:gW m k% 3=2->(dv m D.safe D.held k).2=false->aH Sl.v g (a.add 0) λY=>aH (.int .i64) g (q.add 0) λZ=>bX Y 64 Z λR=>Bm 64 R 1 0 (IntKind.wrap .i64 (Int.tdiv (gW m k) 3)) λV=>Bm 64 (q.add 1) 1 0 64 λW=>nC g 1 V W λar P=>again (true,((k+1:Nat):Int)) P:=by
     intro e2 K
     have z:dv m D.safe D.held (k+1)=((dv m D.safe D.held k).1.set w.1.toNat (Ex ((dv m D.safe D.held k).1.getD w.1.toNat rH) w.2 (gW m k/ 3).toNat),true):=by
      rw[j,oF,if_neg t,if_pos ⟨e2,K⟩]
     have ed:IntKind.wrap .i64 (Int.tdiv (gW m k) 3)=gW m k/ 3:=by rw[Int.tdiv_eq_ediv_of_nonneg p0,bC (by omega) (by omega)]
     rw[ed]
     obtain⟨N,hN⟩:=Int.eq_ofNat_of_zero_le (show 0<=gW m k/ 3 by omega)
     refine aX (x:=r1) d rfl (aX (x:=w.1) r7 rfl (sk v7 w0 (by rw[I];omega) λa8 y F=>?_))
     refine⟨_,⟨by omega,by omega,by omega,rfl⟩,_,⟨by omega,by omega,by omega,rfl⟩,?_⟩
     have ea:(if 64=(0:Int).toNat then a8 else a8.add ((0:Int).toNat*1))=a8:=by simp[add_zero']
     rw[ea,hN]
     have aj:(dv m D.safe D.held k).1.getD w.1.toNat rH=y:=by simp[List.getD,F.get]
     have af:cI g (q.add 1) N=some ((w.2.1.take N).map (Value.int .u8)):=by
      rw[aa.part r7 (by rw[zR];omega)]
      show some ((iy w.2).take N)=_
      simp[iy,List.map_take]
     refine Q6 (y:=w.2) (sa:=q.add 1) F (by omega) (by simp[add_zero']) (by simp;omega) (by simpa using af) λr H8 v8 k8=>T U _ _ ⟨by rw[z],x7.qE k8 o1,?_,?_,?_⟩
     ·exact⟨d.1,d.2.1,let⟨e,he⟩:=d.2.2;⟨e,k8 _ _ he E⟩⟩
     ·rw[z,aj,hN]
      simpa using v8
     ·exact dX.cq u7 λc o b n=>k8 c o n λhh=>d12 c hh b
    refine aE (aM (λe2=>?_) (λe2=>?_))
    ·have S:gW m k% 3=2:=by simpa using e2
     refine aM (λK=>O S (by simpa using K)) (λK=>stay ?_)
     rw[j,oF,if_neg t,if_neg (by simp at K;simp[K])]
    ·have S:¬gW m k% 3=2:=by simpa using e2
     refine aF rfl (stay ?_)
     rw[j,oF,if_neg t,if_neg (by simp[S])]
  refine aE (aM (λu=>?_) (λu=>?_))
  ·have G:k<m.length:=by simp at u;rw[hp.1] at u;omega
   refine dm (hp.ext x7) (by simp) (by simpa using G) λx hx=>?_
   rw[show((k:Int)).toNat=k by simp] at hx
   have:(IntKind.wrap .i64 (x.tmod 192+192)).tmod 192=gW m k:=by
    rw[Tr,gW,if_pos G];simp[List.getD,hx]
   rw[this];exact go
  ·have G:¬k<m.length:=by simp at u;rw[hp.1] at u;omega
   have:gW m k=0:=by rw[gW,if_neg G]
   have go':=go
   rw[this] at go';exact go'
 ·have:k=D.held.length:=by simp at ai;omega
  subst this
  have au:=tt m D.safe D.held D.held.length
  refine aX (x:=r1) J rfl (DI v4 (by omega) (by omega) λr3 H5 x5 o5 v5=>?_)
  refine tf (J.ext x5) (by simp) rfl λH6 an k6=>?_
  have f4:H4 a.block≠none:=by obtain⟨e,he⟩:=J.2.2;rw[he];simp
  have ac:¬r3.has a.block:=λb=>f4 (o5 _ b)
  refine hQ ⟨a,r1,r3,Sl.nil,M⟩ H6 ((x4.trans x5).Dv k6 fa) ⟨an,?_,?_,.inl ⟨rfl,rfl⟩,?_,⟨E,ac,lT,ab,?_,λ_ _=>lT,d12,λ_ _=>lT,?_,λc b=>absurd b lT⟩⟩ ?_
  ·exact(v4.ext x5).cq λc o b n=>k6 c o n λe=>E (e▸b)
  ·exact v5.cq λc o b n=>k6 c o n λe=>ac (e▸b)
  ·exact dX.cq (u4.ext x5) λc o b n=>k6 c o n λe=>ab (e▸b)
  ·exactλc h1 h3=>kA (bj.dg v4 h1) (o5 c h3)
  ·exactλc h3 h2=>kA (dX.dg u4 h2) (o5 c h3)
  ·rintro c (rfl|b|b|b|b)
   ·exact fa
   ·exact o1 c b
   ·exact x4.none (o5 c b)
   ·exact absurd b lT
   ·exact al c b
theorem pY {α:Type} {L:List α} {i:Nat} {O:α} (h:L[i]?=some O):L.set i O=L:=by
 apply List.ext_getElem?
 grind
def bA (A:DA) (D:Dk):Ob:=⟨λH=>eF H A D,A.jR,λh x=>h.cq x,λh a=>Dw (h.dg a)⟩
section
variable {H:PH} {L:List Ob} {i:Nat} {A:DA} {D:Dk}
theorem Q7 {a:DA} {b:Dk} {H':PH} (h:aA H L) (hi:L[i]?=some (bA A D)) (d:eF H' a b) (af:D7 A H a H'):aA H' (L.set i (bA a b)):=
 h.cR (O':=bA a b) i hi d af.jR af.beside
theorem Ye {H:PH} {A:DA} {D:Dk} {at':Int} (h:¬(0<=at'/\at'<D.now.length)):(decide (0<=at')&&decide (at'<D.now.length))=false:=by simp;omega
theorem Yf {at':Int} {Q:Sl->Int->PH->Prop} (d:eF H A D) (sm:Small D)
 (f:∀r H',aA H' [aC H,aS (Value.int .u8) r (D.rd at').1]->Q r (D.rd at').2 H'):gm (some A.a) at' H Q:=by
 have h:(D.rd at').1=[]->Q Sl.nil (D.rd at').2 H:=λe=>f Sl.nil H (by rw[e];exact(aA.start H).Bp)
 by_cases c:0<=at'/\at'<D.now.length
 ·obtain⟨k,rfl⟩:=Int.eq_ofNat_of_zero_le c.1
  have e:D.rd k=if D.read k=0 then((D.now.getD k rH).1,0) else([],D.read k):=by rw[Dk.rd,if_pos c];rfl
  refine vW (i:=k) d sm (by omega) (λe3=>?_) (λe4=>?_) (λj r H' b l x o v=>?_)
  ·grind
  ·grind
  ·have g:D.rd k=(b.1,0):=by grind
   have:=f r H' (by rw[g];exact(aA.start H).new (O':=aS (Value.int .u8) r b.1) x v o)
   grind
 ·have e:D.rd at'=([],1):=by rw[Dk.rd,if_neg c]
  refine oH d ?_
  rw[Ye (H:=H) (A:=A) c]
  refine aW rfl ?_
  grind
theorem Wd {Q:Int->PH->Prop} (h:aA H L) (hi:L[i]?=some (bA A D)) (sm:Small D)
 (d:∀b H',b.a=A.a->aA H' (L.set i (bA b D.fl.1))->Q D.fl.2 H'):gC (some A.a) H Q:=
 Ok (h.get i hi) sm λb H' c af=>d b H' af.same (Q7 h hi c af)
theorem We {p:Sl} {m:List Int} {Q:Option Addr->PH->Prop} (d:eF H A D) (sm:Small D) (e:0<D.now.length) (h:gR H p m)
 (g:∀b H',aA H' [aC H,bA b (D.jL m)]->Q (some b.a) H'):oD (some A.a) p H Q:=
 Ol d sm e h λb H' x c f=>g b H' ((aA.start H).new (O':=bA b (D.jL m)) x c f)
end
end Ds
end
end Go.Proofs.YtigjebgjphmkoaaGreat
section
namespace KM
abbrev bP (l:Bs):Prop:=∀x,x∈l->0<=x/\x<=255
theorem bP.get {l:List Int} (h:bP l) {i:Nat} {x:Int} (a:l[i]?=some x):0<=x/\x<=255:=h x (by grind)
structure bu (k:Nat) (D:Dk):Prop where
 off:D.off=false
 nK:D.nK= -1
 jK:0<=D.jK/\D.jK<=k
 held:D.held.length<=k
 at_:∀w∈D.held,0<=w.1/\w.1<D.now.length
 now:D.now.length<=4096
 safe:D.safe.length=D.now.length
 dq:D.dq.length=D.now.length
 nf:∀f∈D.dq,f=false
 bn:∀b∈D.now,bP b.1
 bs:∀b∈D.safe,bP b.1
 bh:∀w∈D.held,bP w.2.1
theorem bu.mono {k m:Nat} {D:Dk} (h:bu k D) (hm:k<=m):bu m D:={h with jK:=⟨h.jK.1,by have:=h.jK.2;omega⟩,held:=Nat.le_trans h.held hm}
theorem Jz {D:Dk} (a:D.off=false) (hf:D.nK= -1):D.act=({D with jK:=D.jK+1,off:=false,nK:= -1},true):=by
 unfold Dk.act
 grind
theorem J0 {b:Bs} (h:b.length=64):tq b=⟨b,h⟩:=by rw[tq,dif_pos h]
theorem DJ {b:Bs} (h:b.length=64):(tq b).1=b:=by rw[J0 h]
theorem Z0 {D:Dk} {k:Nat} (ok:bu k D) {at_:Int} {b:Bs} (h:0<=at_/\at_<D.now.length) (a:b.length=64):D.wr at_ b=(⟨D.safe,D.now.set at_.toNat (tq b),D.held++[(at_,tq b)],D.dq,-1,D.jK+1,false⟩,0):=by
 rw[Dk.wr,if_pos ⟨h,a⟩,Dk.write,Jz ok.off ok.nK]
 grind
theorem DK {D:Dk} {k:Nat} (ok:bu k D) {at_:Int} {b:Bs} (h:0<=at_/\at_<D.now.length) (a:b.length=64):D.put at_ b=⟨D.safe,D.now.set at_.toNat (tq b),D.held++[(at_,tq b)],D.dq,-1,D.jK+1,false⟩:=by
 rw[Dk.put,Z0 ok h a]
theorem nY {D:Dk} {k:Nat} (ok:bu k D) {at_:Int} {b:Bs} (h:0<=at_/\at_<D.now.length) (a:b.length=64):(D.put at_ b).now.length=D.now.length:=by
 rw[DK ok h a];simp
theorem bu.put {D:Dk} {k:Nat} (ok:bu k D) {at_:Int} {b:Bs} (h:0<=at_/\at_<D.now.length) (d:b.length=64) (e:bP b):bu (k+1) (D.put at_ b):=by
 rw[DK ok h d]
 refine⟨rfl,rfl,⟨by show 0<=D.jK+1;have:=ok.jK;omega,by show D.jK+1<=_;have:=ok.jK;omega⟩,by simp;exact ok.held,λw hw=>?_,by simp;exact ok.now,by simp;exact ok.safe,by simp;exact ok.dq,ok.nf,λc a=>?_,ok.bs,λw hw=>?_⟩
 ·simp only[List.length_set]
  rcases List.mem_append.1 hw with hw|hw
  ·exact ok.at_ w hw
  grind
 ·rcases List.mem_or_eq_of_mem_set a with a|a
  ·exact ok.bn c a
  ·subst a;rw[DJ d];exact e
 ·rcases List.mem_append.1 hw with hw|hw
  ·exact ok.bh w hw
  ·have:=List.mem_singleton.1 hw;subst this;simp only[DJ d];exact e
theorem J1 {D:Dk} {k:Nat} (ok:bu k D):D.fl=(⟨jg D.safe D.held,D.now,[],D.dq,-1,D.jK+1,false⟩,0):=by
 rw[Dk.fl,Dk.flush,Jz ok.off ok.nK];rfl
theorem xp {D:Dk} {k:Nat} (ok:bu k D):D.flush=⟨jg D.safe D.held,D.now,[],D.dq,-1,D.jK+1,false⟩:=congrArg Prod.fst (J1 ok)
theorem Om (l:List (Int×iR)):∀s:List iR,(jg s l).length=s.length:=by
 induction l with
 |nil=>intro s;rfl
 |cons w l a=>intro s;rw[jg,List.foldl_cons];exact(a _).trans (by simp)
theorem On (l:List (Int×iR)) {P:iR->Prop}:∀s:List iR,(∀b∈s,P b)->(∀w∈l,P w.2)->∀b∈jg s l,P b:=by
 induction l with
 |nil=>intro s d _ b a;exact d b a
 |cons w l e=>
  intro s d g b a
  refine e (s.set w.1.toNat w.2) (λc f=>?_) (by grind) b a
  grind
theorem bu.flush {D:Dk} {k:Nat} (ok:bu k D):bu (k+1) D.flush:=by
 rw[xp ok]
 refine⟨rfl,rfl,⟨by show 0<=D.jK+1;have:=ok.jK;omega,by show D.jK+1<=_;have:=ok.jK;omega⟩,by simp,λw hw=>by simp at hw,ok.now,by show(jg _ _).length=_;rw[Om];exact ok.safe,ok.dq,ok.nf,ok.bn,On _ _ ok.bs ok.bh,λw hw=>by simp at hw⟩
theorem iz {D:Dk} {k:Nat} (ok:bu k D):D.flush.now.length=D.now.length:=by rw[xp ok]
theorem Z1 {D:Dk} {k:Nat} (ok:bu k D) (i:Nat):D.dq.getD i false=false:=by
 rw[List.getD]
 cases h:D.dq[i]? with
 |none=>rfl
 |some f=>exact ok.nf f (by grind)
theorem Vd {D:Dk} {k:Nat} (ok:bu k D) {at_:Int} (h:0<=at_/\at_<D.now.length):D.rd at_=((D.now.getD at_.toNat rH).1,0):=by
 have e:D.read at_.toNat=0:=by rw[Dk.read,ok.off,Z1 ok];rfl
 rw[Dk.rd,if_pos h,if_pos e]
theorem uX {D:Dk} {k:Nat} (ok:bu k D) {at_:Int} (h:0<=at_/\at_<D.now.length):D.sec at_=(D.now.getD at_.toNat rH).1:=by rw[Dk.sec,Vd ok h]
theorem Fy {D:Dk} {k:Nat} (ok:bu k D) {at_:Int} (h:0<=at_/\at_<D.now.length):D.rd at_=(D.sec at_,0):=by rw[uX ok h,Vd ok h]
theorem nZ {D:Dk} {k:Nat} (ok:bu k D) {at_:Int} (h:0<=at_/\at_<D.now.length):(D.sec at_).length=64:=by rw[uX ok h];grind
theorem DL:bP rH.1:=λx a=>by rw[(List.mem_replicate.1 a).2];omega
theorem ru {D:Dk} {k:Nat} (ok:bu k D) {at_:Int} (h:0<=at_/\at_<D.now.length):bP (D.sec at_):=by
 rw[uX ok h,List.getD]
 cases a:D.now[at_.toNat]? with
 |none=>grind
 |some b=>exact ok.bn b (by grind)
theorem zU {D:Dk} {k:Nat} (ok:bu k D):∀(n:Nat) (at_:Int),0<=at_->at_+n<=D.now.length->(D.dQ at_ n).length=64*n
 | 0,_,_,_=>rfl
 |n+1,at_,a,b=>by
  rw[Dk.dQ,List.length_append,nZ ok ⟨a,by omega⟩,zU ok n (at_+1) (by omega) (by omega)];omega
theorem CD {D:Dk} {k:Nat} (ok:bu k D):∀(n:Nat) (at_:Int),0<=at_->at_+n<=D.now.length->bP (D.dQ at_ n)
 | 0,_,_,_=>λx a=>by simp[Dk.dQ] at a
 |n+1,at_,b,c=>λx a=>by
  rw[Dk.dQ] at a
  rcases List.mem_append.1 a with a|a
  ·exact ru ok (by grind) x a
  ·exact CD ok n (at_+1) (by omega) (by omega) x a
theorem DM (D:Dk):∀(n:Nat) (at_:Int),D.dQ at_ (n+1)=D.dQ at_ n++D.sec (at_+n)
 | 0,at_=>by simp[Dk.dQ]
 |n+1,at_=>by
  rw[Dk.dQ,DM D n (at_+1),Dk.dQ,List.append_assoc]
  grind
theorem tu:∀(l:List Bs) {D:Dk} {at_:Int} {n:Nat},bu n D->0<=at_->at_+l.length<=D.now.length->(∀b∈l,b.length=64/\bP b)->bu (n+l.length) (D.dW at_ l)/\(D.dW at_ l).now.length=D.now.length
 |[],D,at_,n,ok,_,_,_=>⟨ok,rfl⟩
 |b::l,D,at_,n,ok,k,i,f=>by
  rw[List.length_cons] at i
  have d:=f b (by simp)
  have g:=ok.put (at_:=at_) (b:=b) (by grind) d.1 d.2
  have a:=nY ok (at_:=at_) (b:=b) (by grind) d.1
  obtain⟨h,e⟩:=tu l (at_:=at_+1) g (by omega) (by rw[a];omega) λc j=>f c (by simp[j])
  refine⟨?_,e.trans a⟩
  rw[List.length_cons,show n+(l.length+1)=n+1+l.length by omega];exact h
theorem DN:∀(l:List Bs) (D:Dk) (at_:Int) (b:Bs),D.dW at_ (l++[b])=(D.dW at_ l).put (at_+l.length) b
 |[],D,at_,b=>by simp[Dk.dW]
 |c::l,D,at_,b=>by
  rw[List.cons_append,Dk.dW,DN l,Dk.dW,List.length_cons]
  grind
end KM
end
namespace Go.Proofs.YtigjebgjphmkoaaGreat
open Tryz
section
namespace Cr
open Go Go.Kx KM BE
theorem oe {l:List Int} {k:Nat} {x:Int} (h:l[k]?=some x):l.take (k+1)=l.take k++[x]:=by
 rw[List.take_add_one,h];rfl
theorem zW {H:PH} {s:Sl} {l:List Int} {v:BitVec 32} {Q:Int->PH->Prop} (e:Bytes H s l) (q:bP l) (t:l.length< 2 ^ 62) (r:Q ((yG v l).toNat:Int) H):Dz (v.toNat:Int) s H Q:=by
 refine av l.length (λk s1 H1=>H1=H/\s1=(((yG v (l.take k)).toNat:Int),(k:Int))) ⟨rfl,rfl⟩ ?_
 rintro k s1 H1 again hk ⟨rfl,rfl⟩ j
 refine aM (λd=>?_) (λd=>?_)
 ·have n:k<l.length:=by simp at d;rw[e.1] at d;omega
  refine dm e (by simp) (by omega) λx f=>?_
  obtain⟨o,p⟩:=q.get f
  rw[show((k:Int)).toNat=k by simp] at f
  refine av 8 (λi s2 g=>g=H1/\s2=(((wE (yG v (l.take k)) x.toNat i).toNat:Int),(i:Int))) ⟨rfl,rfl⟩ ?_
  rintro i s2 g h hi ⟨rfl,rfl⟩ b
  refine aM (λm=>?_) (λm=>?_)
  ·have a:i< 8:=by grind
   refine aE ⟨by simp,?_⟩
   rw[Tm o p a,bC (by omega) (by omega)]
   refine aM (λc=>b a _ _ ⟨rfl,?_⟩) (λc=>b a _ _ ⟨rfl,?_⟩)
   ·rw[D0,VZ];simp only[wE,CA,c,if_true];rfl
   ·rw[D0];simp only[wE,CA,c];rfl
  ·have a:i=8:=by grind
   subst a
   refine j n _ _ ⟨rfl,?_⟩
   rw[bC (by omega) (by omega),oe f,Ac]
   rfl
 ·have:k=l.length:=by simp at d;rw[e.1] at d;omega
  grind
def Rows (H:PH) (s:Sl) (ls:List (Sl×List Int)):Prop:=cL Sl.v H s (ls.map (·.1))/\∀p,p∈ls->Bytes H p.1 p.2/\bP p.2/\p.2.length< 2 ^ 62
theorem Rows.ext {A B:PH} {s:Sl} {ls:List (Sl×List Int)} (h:Rows A s ls) (b:Ext A B):Rows B s ls:=⟨h.1.ext b,λp a=>⟨(h.2 p a).1.ext b,(h.2 p a).2⟩⟩
def cat (ls:List (Sl×List Int)):List Int:=(ls.map (·.2)).flatten
theorem Ts {ls:List (Sl×List Int)} {k:Nat} {p:Sl×List Int} (h:ls[k]?=some p):cat (ls.take (k+1))=cat (ls.take k)++p.2:=by
 rw[List.take_add_one,h];simp[cat]
theorem Tt {H:PH} {s:Sl} {ls:List (Sl×List Int)} {Q:Int->PH->Prop} (a:Rows H s ls) (l:ls.length< 2 ^ 62) (i:Q ((Tl (cat ls)).toNat:Int) H):yi s H Q:=by
 have hlen:s.len=ls.length:=by simpa using a.1.1
 refine av ls.length (λk s1 H1=>H1=H/\s1=(((yG (BitVec.allOnes 32) (cat (ls.take k))).toNat:Int),(k:Int))) ⟨rfl,rfl⟩ ?_
 rintro k s1 H1 again hk ⟨rfl,rfl⟩ b
 refine aM (λj=>?_) (λj=>?_)
 ·have c:k<ls.length:=by grind
  refine dm a.1 (by simp) (by grind) λx e=>?_
  simp only[Int.toNat_natCast,List.getElem?_map,Option.map_eq_some_iff] at e
  obtain⟨p,d,rfl⟩:=e
  obtain⟨f,g,h⟩:=a.2 p (List.mem_of_getElem? d)
  refine zW f g h (b c _ _ ⟨rfl,?_⟩)
  rw[bC (by omega) (by omega),Ts d,Ac]
  rfl
 ·have:k=ls.length:=by grind
  subst this
  rw[Va,Q0]
  rw[List.take_length];exact i
theorem Tu {H:PH}:Rows H Sl.nil []:=⟨.nil,λp a=>by cases a⟩
end Cr
end
end Go.Proofs.YtigjebgjphmkoaaGreat
section
namespace Go.Kx
section
variable {H H' B:PH} {L L':List Ob} {O O':Ob}
theorem aA.iff:aA H L↔(∀O,O∈L->O.pred H)/\L.Pairwise Dj:=by
 constructor
 ·intro h
  refine⟨λO e=>?_,List.pairwise_iff_getElem.2 λi j hi a f=>h.dj i j _ _ (List.getElem?_eq_getElem hi) (List.getElem?_eq_getElem a) (by omega)⟩
  obtain⟨i,hi,rfl⟩:=List.mem_iff_getElem.1 e
  exact h.all i _ (by simp)
 ·rintro⟨g,d⟩
  refine⟨by grind,λi j A C hi a b=>?_⟩
  obtain⟨l1,e1⟩:=List.getElem?_eq_some_iff.1 hi
  obtain⟨l2,e2⟩:=List.getElem?_eq_some_iff.1 a
  have c:=List.pairwise_iff_getElem.1 d
  rcases Nat.lt_or_gt_of_ne b with h|h
  ·exact e1▸e2▸c i j l1 l2 h
  ·exact(e1▸e2▸c j i l2 l1 h:Dj C A).symm
theorem aA.perm (h:aA H L) (p:L.Perm L'):aA H L':=by
 rw[aA.iff] at h ⊢
 exact⟨λO a=>h.1 O (p.mem_iff.2 a),(p.pairwise_iff λh=>h.symm).1 h.2⟩
theorem aA.up (h:aA H (aC B::(L++[O]))):aA H (aC B::O::L):=h.perm (by simp)
theorem aA.swap (h:aA H (aC B::O::O'::L)):aA H (aC B::O'::O::L):=h.perm (.cons _ (.swap _ _ _))
theorem aA.rot {X Y:List Ob} (h:aA H (aC B::(X++Y))):aA H (aC B::(Y++X)):=h.perm (.cons _ List.perm_append_comm)
theorem aA.aq (h:aA H (aC B::O::L)):aA H (aC B::L):=by
 rw[aA.iff] at h ⊢
 simp_all
theorem aA.fz (h:aA H (aC B::O::L)):∃a,Ext B a/\O.pred a/\aA H (aC a::L):=
 (show aA H (aC B::L++[O]) from h.perm (.cons _ (List.perm_append_comm (l₁:=[O]) (l₂:=L)))).freeze
theorem aA.made (h:aA H (aC B::L)) (k:aA H' [aC H,O]):aA H' (aC B::O::L):=(show aA H' (aC B::(L++[O])) from h.aG k).up
variable {α:Type} {enc:α->Value}
theorem iW {s:Sl} {l:List α} {K:Prop} (h:aA H (aC B::aS enc s l::L)) (c:∀a,Ext B a->cL enc a s l->aA H (aC a::L)->K):K:=by
 obtain⟨a,x,p,b⟩:=h.fz
 exact c a x (dX.list p) b
theorem Fz {a:Addr} {cs:List Value} {K:Prop} (h:aA H (aC B::aJ a cs::L)) (d:∀b,Ext B b->aa b a cs->aA H (aC b::L)->K):K:=by
 obtain⟨b,x,p,c⟩:=h.fz
 exact d b x p c
theorem rY {l:List α} {cs:List Value} {e n:Nat} {K:Sl->PH->Prop} (h:aA H (aC B::L)) (d:cs=l.map enc) (f:n=l.length) (g:∀r a H',Ext B a->cL enc a r l->aA H' (aC a::L)->K r H'):bZ H (row cs e) n K:=by
 intro r H' b
 subst d;subst f
 have c:aA H' (aC B::(L++[aS enc r l])):=h.new (O':=aS enc r l) (.nD b) (dX.iI (l:=l) (e:=e) b) (kz.iI b)
 exact iW c.up (by grind)
theorem gN {cs:List Value} {e:TypeId} {K:Addr->PH->Prop} (h:aA H (aC B::L)) (f:∀a b H',Ext B b->aa b a cs->aA H' (aC b::L)->K a H'):aj H (row cs e) K:=
 lW h λa H' c x=>Fz (show aA H' (aC B::aJ a cs::L) from(show aA H' (aC B::(L++[aJ a cs])) from c).up) λb x r d=>f a b H' x r d
theorem bG {cs:List Value} {e:TypeId} {K:Addr->PH->Prop} (h:aA H (aC B::L)) (c:∀a H',aA H' (aC B::aJ a cs::L)->K a H'):aj H (row cs e) K:=
 lW h λa H' b x=>c a H' (show aA H' (aC B::(L++[aJ a cs])) from b).up
theorem Ez {e m:Nat} {x:α} {n:Int} {K:Sl->PH->Prop} (h:aA H (aC B::L)) (b:0<=n) (hm:(m:Int)*n<=2 ^ 48)
 (c:∀r H',aA H' (aC B::aS enc r (List.replicate n.toNat x)::L)->K r H'):zA H e m [enc x] n n K:=
 YD h b hm λr H' a x=>c r H' (show aA H' (aC B::(L++[aS enc r _])) from a).up
theorem F0 {l:List α} {cs:List Value} {e n:Nat} {K:Sl->PH->Prop} (h:aA H (aC B::L)) (c:cs=l.map enc) (d:n=l.length) (b:∀r H',aA H' (aC B::aS enc r l::L)->K r H'):bZ H (row cs e) n K:=by
 intro r H' a
 subst c;subst d
 exact b r H' (show aA H' (aC B::(L++[aS enc r l])) from h.new (O':=aS enc r l) (.nD a) (dX.iI (l:=l) (e:=e) a) (kz.iI a)).up
theorem NO {l:List α} {cs:List Value} {e n:Nat} {K:Sl->PH->Prop} (h:aA H (aC B::L)) (c:cs=l.map enc) (d:n=l.length) (b:∀r H',aA H' (aC B::aS enc r l::L)->Ext H H'->K r H'):bZ H (row cs e) n K:=by
 intro r H' a
 subst c;subst d
 exact b r H' (show aA H' (aC B::(L++[aS enc r l])) from h.new (O':=aS enc r l) (.nD a) (dX.iI (l:=l) (e:=e) a) (kz.iI a)).up (.nD a)
theorem dZ {cs:List Value} {e:TypeId} {K:Addr->PH->Prop} (h:aA H (aC B::L)) (c:∀a H',aA H' (aC B::aJ a cs::L)->Ext H H'->K a H'):aj H (row cs e) K:=
 lW h λa H' b x=>c a H' (show aA H' (aC B::(L++[aJ a cs])) from b).up x
theorem Wf {l:List α} {cs:List Value} {e n:Nat} {K:Sl->PH->Prop} (h:aA H (aC B::L)) (c:cs=l.map enc) (d:n=l.length) (f:∀r a H',Ext B a->cL enc a r l->aA H' (aC a::L)->Ext H H'->K r H'):bZ H (row cs e) n K:=
 NO h c d λr H' b x=>iW b (by grind)
theorem AB (h:aA H (aC B::L)):aA H (aC B::aS enc Sl.nil ([]:List α)::L):=(show aA H (aC B::(L++[aS enc Sl.nil ([]:List α)])) from h.Bp).up
theorem ak {β:Type} {en:β->Value} {a:Addr} {cs:List Value} {j:Nat} {x:β} {K:β->Prop} (h:aA H (aC B::aJ a cs::L)) (c:cs[j]?=some (en x)) (b:K x):aH en H (a.add j) K:=aX (h.get 1 rfl) c b
theorem cQ {β:Type} {en:β->List Value} {a:Addr} {n:Nat} {x:β} {cs:List Value} {K:β->Prop} (h:aA H (aC B::aJ a cs::L)) (c:cs=en x) (d:n=cs.length) (b:K x):aT en H a n K:=by subst c;exact iK (h.get 1 rfl) d b
theorem xP {a:Addr} {cs:List Value} {j:Nat} {v:Value} {K:PH->Prop} (h:aA H (aC B::aJ a cs::L)) (b:j<cs.length) (c:cg v=true) (d:∀H',aA H' (aC B::aJ a (cs.set j v)::L)->K H'):aV H (a.add j) [v] K:=cU h 1 rfl b c (by grind)
theorem cF {a:Addr} {cs vs:List Value} {K:PH->Prop} (h:aA H (aC B::aJ a cs::L)) (e:vs.length=cs.length) (g:vs.all cg=true) (d:∀H',aA H' (aC B::aJ a vs::L)->K H'):aV H a vs K:=
 uM (h.get 1 rfl) e g λH' r k=>d H' (h.cR (O':=aJ a vs) 1 rfl r (λc b=>.inl b) λc o b f=>k c o b f)
theorem Oo {a:Addr} {cs:List Value} {j:Nat} {v:Value} {K:PH->Prop} (h:aA H L) (i:Nat) (hi:L[i]?=some (aJ a cs)) (c:j<cs.length) (d:cg v=true) (b:∀H',aA H' (L.set i (aJ a (cs.set j v)))->K H'):aV H ((a.add 0).add j) [v] K:=by
 rw[add_zero'];exact cU h i hi c d b
theorem fb {a:Addr} {cs vs:List Value} {K:PH->Prop} (h:aA H L) (i:Nat) (hi:L[i]?=some (aJ a cs)) (e:vs.length=cs.length) (g:vs.all cg=true) (d:∀H',aA H' (L.set i (aJ a vs))->K H'):aV H a vs K:=
 uM (h.get i hi) e g λH' r k=>d H' (h.cR (O':=aJ a vs) i hi r (λc b=>.inl b) λc o b f=>k c o b f)
theorem cE {β:Type} {en:β->List Value} {a:Addr} {n:Nat} {x:β} {cs:List Value} {K:β->Prop} (h:aA H L) (i:Nat) (hi:L[i]?=some (aJ a cs)) (c:cs=en x) (d:n=cs.length) (b:K x):aT en H a n K:=by subst c;exact iK (h.get i hi) d b
theorem Z2 {c b:Bool} {F:Prop} {K:Bool->PH->Prop} (a:K b H->F) (h:K (c&&b) H):aL c F (K false H):=aM (by grind) (by grind)
theorem ifor {c b:Bool} {F:Prop} {K:Bool->PH->Prop} (a:K b H->F) (h:K (c||b) H):aL c (K true H) F:=aM (by grind) (by grind)
theorem dR {c b:Bool} {k:Bool->PH->Prop} {F:(Bool->PH->Prop)->Prop} (a:k b H->F k) (h:k (c&&b) H):aO k λj=>aL c (F j) (j false H):=aE (Z2 (K:=k) a h)
theorem xq {c b:Bool} {k:Bool->PH->Prop} {F:(Bool->PH->Prop)->Prop} (a:k b H->F k) (h:k (c||b) H):aO k λj=>aL c (j true H) (F j):=aE (ifor (K:=k) a h)
theorem Ve {c b:Bool} {k:Bool->PH->Prop} {F:(Bool->PH->Prop)->Prop} (a:c=true->k b H->F k) (h:k (c&&b) H):aO k λj=>aL c (F j) (j false H):=
 aE (aM (by grind) (by grind))
theorem Yg {c d:Bool} {k:Bool->PH->Prop} (h:k (c||d) H):aO k λj=>aL c (j c H) (j d H):=
 aE (aM (by grind) (by grind))
theorem E0 {c b:Bool} {k:Bool->PH->Prop} {F:(Bool->PH->Prop)->Prop} (a:(∀H',Ext H H'->k b H')->F k) (h:∀H',Ext H H'->k (c||b) H'):aO k λj=>aL c (j true H) (F j):=
 aE (aM (λd=>by have:=h H (.refl H);grind) (by grind))
theorem Vf {c b:Bool} {k:Bool->PH->Prop} {F:(Bool->PH->Prop)->Prop} (a:c=true->(∀H',Ext H H'->k b H')->F k) (h:∀H',Ext H H'->k (c&&b) H'):aO k λj=>aL c (F j) (j false H):=
 aE (aM (by grind) (λd=>by have:=h H (.refl H);grind))
theorem Wg {a:Addr} {cs vs:List Value} {K:PH->Prop} (h:aA H (aC B::aJ a cs::L)) (e:vs.length=cs.length) (g:vs.all cg=true) (d:∀H',aA H' (aC B::aJ a vs::L)->td a.block H H'->K H'):aV H a vs K:=
 uM (h.get 1 rfl) e g λH' r k=>d H' (h.cR (O':=aJ a vs) 1 rfl r (λc b=>.inl b) λc o b f=>k c o b f) k
theorem td.aG {a:Addr} {cs:List Value} {i:Nat} {O:Ob} (k:td a.block H H') (h:aA H (aC B::aJ a cs::L)) (hi:L[i]?=some O):∀c o,O.jR c->H c=some o->H' c=some o:=
 λc o hf b=>k c o b λe=>h.dj 1 (i+2) (aJ a cs) O rfl (by grind) (by omega) c e hf
theorem qq.cq {β:Type} {en:β->List Value} {sz:Nat} {s:Sl} {l:List β} {i:Nat} {x:β} {a:Addr} (h:qq en sz H s l i x a) (k:∀c o,s.has c->H c=some o->H' c=some o):qq en sz H' s l i x a:=by
 obtain⟨⟨b,sp,e,spare,rfl,d,f,rfl⟩,g⟩:=h
 exact⟨⟨b,sp,e,spare,rfl,d,k _ _ ⟨_,rfl,rfl⟩ f,rfl⟩,g⟩
theorem F3 {a:Addr} {n m:Nat} {cs:List Value} (h:cI H a n=some cs) (hm:m<=n):cI H a m=some (cs.take m):=by
 unfold cI at h ⊢
 grind
end
end Go.Kx
end
section
namespace Go.Kx
open KM
theorem cK {x:Int} (a: -9223372036854775808<=x) (b:x< 9223372036854775808):IntKind.wrap .i64 x=x:=bC a b
set_option maxRecDepth 4000 in
theorem zY (n:Nat) (h:n< 2 ^ 64):(BitVec.ofInt 64 (n:Int)).toNat=n:=by
 grind
theorem J2 {n:Int} (a:0<=n) (b:n< 2 ^ 62):jd .i64 n 255=n% 256:=by
 obtain⟨k,rfl⟩:=Int.eq_ofNat_of_zero_le a
 show IntKind.i64.wrap ((BitVec.ofInt 64 (k:Int)&&&BitVec.ofInt 64 255).toNat:Int)=_
 have e2:(BitVec.ofInt 64 255).toNat=2 ^ 8- 1:=rfl
 rw[BitVec.toNat_and,zY k (by omega),e2,Nat.and_two_pow_sub_one_eq_mod,cK (by omega) (by omega)];exact Int.natCast_emod k 256
theorem CE {n:Int} {i:Nat} (a:0<=n) (hi:i<=60):gy .i64 n (i:Int)=n/ 2 ^ i:=by
 simp only[gy,IntKind.bits,Int.toNat_natCast]
 grind
theorem Tv (i:Nat):(2:Int) ^ (8*i)=256 ^ i:=by rw[Int.pow_mul];rfl
theorem NP {n:Int} {i:Nat} (a:0<=n) (b:n< 2 ^ 62) (hi:i<=4):IntKind.wrap .u8 (jd .i64 (gy .i64 n (IntKind.wrap .i64 (8*(i:Int)))) 255)=n/ 256 ^ i% 256:=by
 rw[cK (by omega) (by omega),show(8*(i:Int))=((8*i:Nat):Int) from rfl,CE a (by omega),Tv]
 have a0:0<=n/ 256 ^ i:=Int.ediv_nonneg a (by grind)
 have a1:n/ 256 ^ i<=n:=Int.ediv_le_self _ a
 rw[J2 a0 (by omega)]
 simp only[IntKind.wrap,IntKind.bits,IntKind.signed,Bool.false_and,Bool.false_eq_true,if_false]
 omega
theorem Tw {n:Int} {w:Nat} (a:0<=n) (b:n< 256 ^ w) (hw:w<=4):(gy .i64 n (IntKind.wrap .i64 (8*(w:Int))) != 0)=false:=by
 rw[cK (by omega) (by omega),show(8*(w:Int))=((8*w:Nat):Int) from rfl,CE a (by omega),Tv,Int.ediv_eq_zero_of_lt a b];rfl
theorem Yh {n x:Int} {i:Nat} (d:0<=n) (h:n< 256 ^ i) (x0:0<=x) (j:x<=255) (hi:i<=4):MR .i64 n (yz .i64 (IntKind.wrap .i64 x) (IntKind.wrap .i64 (8*(i:Int))))=n+x*256 ^ i:=by
 obtain⟨a,rfl⟩:=Int.eq_ofNat_of_zero_le d
 obtain⟨c,rfl⟩:=Int.eq_ofNat_of_zero_le x0
 have g:(256:Nat) ^ i<=256 ^ 4:=Nat.pow_le_pow_right (by decide) hi
 have b:a< 256 ^ i:=by
  grind
 have f:c<=255:=by omega
 have hm:c*256 ^ i<=255*256 ^ 4:=Nat.mul_le_mul f g
 rw[cK (by omega) (by omega),cK (x:=8*(i:Int)) (by omega) (by omega)]
 have e1:yz .i64 (c:Int) (8*(i:Int))=((c*256 ^ i:Nat):Int):=by
  simp only[yz,IntKind.bits]
  rw[show(8*(i:Int)).toNat=8*i by omega,Nat.min_eq_left (by omega),Tv]
  have:((c:Int)*256 ^ i)=((c*256 ^ i:Nat):Int):=by rfl
  rw[this,cK (by omega) (by omega)]
 rw[e1]
 show IntKind.i64.wrap ((BitVec.ofInt 64 (a:Int)|||BitVec.ofInt 64 ((c*256 ^ i:Nat):Int)).toNat:Int)=_
 rw[BitVec.toNat_or,zY a (by omega),zY _ (by omega)]
 have e2:a|||c*256 ^ i=a+c*256 ^ i:=by
  have e:(256:Nat) ^ i=2 ^ (8*i):=by rw[Nat.pow_mul]
  rw[e] at b ⊢
  have:=Nat.two_pow_add_eq_or_of_lt b c
  grind
 rw[e2,cK (by omega) (by omega),Int.natCast_add,Int.natCast_mul,Int.natCast_pow];rfl
theorem J3:∀(l:Bs) (x:Int),val (l++[x])=val l+x*256 ^ l.length
 |[],x=>by simp[val]
 |y::l,x=>by
  simp only[List.cons_append,val,J3 l x,List.length_cons,Int.pow_succ]
  grind
theorem AD:∀(l:Bs),(∀x∈l,0<=x/\x<=255)->0<=val l/\val l< 256 ^ l.length
 |[],_=>by simp[val]
 |x::l,h=>by
  have a:=h x (by simp)
  have b:=AD l (by grind)
  simp only[val,List.length_cons,Int.pow_succ]
  omega
theorem le_succ (w:Nat) (n:Int):le (w+1) n=le w n++[n/ 256 ^ w% 256]:=by
 induction w generalizing n with
 |zero=>simp[le]
 |succ w a=>
  rw[le,a,le]
  simp only[List.cons_append,List.cons.injEq,true_and]
  rw[Int.ediv_ediv_of_nonneg (by decide),Int.pow_succ,Int.mul_comm]
theorem EA (w:Nat) (n:Int):∀k,k<=w->(le w n).take k=le k n:=by
 induction w generalizing n with
 |zero=>intro k hk;have:k=0:=by omega
        subst this;rfl
 |succ w a=>
  intro k hk
  cases k with
  |zero=>rfl
  |succ k=>rw[le,List.take_succ_cons,a _ k (by omega),le]
theorem F4:∀(l:List Int) (s:ByteArray),(l.foldl (λs n=>s.push (UInt8.ofNat n.toNat)) s).data.toList=s.data.toList++l.map λn=>UInt8.ofNat n.toNat
 |[],s=>by simp
 |x::l,s=>by
  rw[List.foldl_cons,F4 l]
  simp
theorem DO (l:List Int):(strOf l).data.toList=l.map λn=>UInt8.ofNat n.toNat:=by
 have:=F4 l ByteArray.empty
 simpa[strOf] using this
theorem L5 (bs:ByteArray):∀(n i:Nat) (r:List UInt8),i+n=bs.size->ByteArray.toList.loop bs i r=r.reverse++bs.data.toList.drop i:=by
 intro n
 induction n with
 |zero=>
  intro i r h
  rw[ByteArray.toList.loop,if_neg (by omega),List.drop_eq_nil_of_le (by have:bs.data.toList.length=bs.size:=rfl
                                                                        omega)];simp
 |succ n b=>
  intro i r h
  have c:bs.data.toList.length=bs.size:=rfl
  have a:i<bs.data.toList.length:=by omega
  rw[ByteArray.toList.loop,if_pos (by omega),b _ _ (by omega),List.drop_eq_getElem_cons a]
  have:bs.get! i=bs.data.toList[i]:=by
   simp only[ByteArray.get!]
   grind
  grind
theorem EV (bs:ByteArray):bs.toList=bs.data.toList:=by
 have:=L5 bs bs.size 0 [] (by omega)
 simpa[ByteArray.toList] using this
theorem J4 {l m:List Int} (f:∀x∈l,0<=x/\x<=255) (hm:∀x∈m,0<=x/\x<=255):(strOf l).toList=(strOf m).toList↔l=m:=by
 rw[EV,EV,DO,DO]
 constructor
 ·intro h
  have inj:∀(l m:List Int),(∀x∈l,0<=x/\x<=255)->(∀x∈m,0<=x/\x<=255)->l.map (λn=>UInt8.ofNat n.toNat)=m.map (λn=>UInt8.ofNat n.toNat)->l=m:=by
   intro l
   induction l with
   |nil=>simp
   |cons x l d=>
    intro m b c h
    cases m with
    |nil=>simp at h
    |cons y m=>
     simp only[List.map_cons,List.cons.injEq] at h
     have g:=b x (by simp)
     have i:=c y (by simp)
     have e:x.toNat=y.toNat:=by
      have:=congrArg UInt8.toNat h.1
      simp only[UInt8.toNat_ofNat'] at this
      omega
     rw[show x=y by omega,d m (λz a=>b z (by simp[a])) (λz a=>c z (by simp[a])) h.2]
  grind
 grind
end Go.Kx
end
namespace Go.Proofs.YtigjebgjphmkoaaGreat
open Tryz
section
namespace Rw
open Go Go.Kx KM Cr
abbrev u8:Int->Value:=Value.int .u8
abbrev i64:Int->Value:=Value.int .i64
theorem NQ (x:Int):cg (u8 x)=true:=rfl
theorem bK {k:Nat} (h:k< 2 ^ 60):IntKind.wrap .i64 ((k:Int)+1)=((k+1:Nat):Int):=by rw[bC (by omega) (by omega)];rfl
abbrev cells (s:Sl) (k:Nat):List Value:=[Sl.v s,i64 (k:Int)]
section
variable {H B:PH} {L:List Ob} {a:Addr} {s p:Sl} {b l:List Int} {k w:Nat}
theorem kV {Q:Sl->PH->Prop} (h:aA H (aC B::L)) (e:Bytes H p b) (f:b.length<=2 ^ 30) (d:∀r H',aA H' (aC B::aS u8 r b::L)->Q r H'):cC p H Q:=
 Br (enc:=u8) e NQ rfl (by omega) λr H' c=>d r H' (h.made c)
theorem vX {Q:Int->PH->Prop} (h:aA H (aC B::aJ a (cells s k)::aS u8 s b::L)) (hk:k<=b.length) (d:b.length<=2 ^ 30) (c:Q ((b.length-k:Nat):Int) H):kN (some a) H Q:=by
 refine aF rfl (aD (ak (x:=s) h rfl (aD (ak (x:=(k:Int)) h rfl ?_))))
 rw[(h.list (enc:=u8) 2 rfl).bL,cK (by omega) (by omega),←Int.ofNat_sub hk];exact c
theorem pE {Q:Option Addr->PH->Prop} (h:aA H (aC B::L)) (c:Bytes H p b) (f:b.length<=65536) (e:∀a s H',aA H' (aC B::aJ a (cells s 0)::aS u8 s b::L)->Q (some a) H'):mj p H Q:=by
 refine aF (by rw[c.bL];simp;omega) (kV h c (by omega) λr H1 d=>bG d (by grind))
theorem Hj {x:Int} {Q:Bool->PH->Prop} (d:Q (x==1||(x==2||x==4)) H):zJ x H Q:=by
 refine aE (aM (λc=>aE (aW rfl ?_)) (λc=>?_))
 ·grind
 ·rw[c,Bool.false_or] at d
  refine aE (aM (λc2=>?_) (λc2=>?_))
  ·grind
  grind
theorem dK {Q:Int->Bool->PH->Prop} (h:aA H (aC B::aJ a (cells s k)::aS u8 s b::L)) (hw:w=1∨w=2∨w=4) (hk:k+w<=b.length) (u:b.length<=2 ^ 30) (v:bP b)
 (t:∀H',aA H' (aC B::aJ a (cells s (k+w))::aS u8 s b::L)->Q (num b k w) true H'):cA (some a) w H Q:=by
 have q:((w:Int)==1||((w:Int)==2||(w:Int)==4))=true:=by grind
 have y:w<=4:=by omega
 refine aE (aF rfl (Hj ?_))
 rw[q]
 refine aE (aF rfl (vX h (by omega) u ?_))
 refine aF (by simp;omega) ?_
 refine av w (λi st o=>st=(val ((b.drop k).take i),(i:Int))/\o=H) ⟨rfl,rfl⟩ ?_
 rintro i st H1 again hi ⟨rfl,rfl⟩ g
 refine aM (λc=>?_) (λc=>?_)
 ·have j:i<w:=by simpa using c
  refine aD (ak (x:=s) h rfl (aD (ak (x:=(k:Int)) h rfl ?_)))
  dsimp only
  rw[cK (x:=(k:Int)+i) (by omega) (by omega)]
  refine dm (h.list (enc:=u8) 2 rfl) (by omega) (by omega) λx m=>⟨by rw[cK (by omega) (by omega)];omega,?_⟩
  rw[show((k:Int)+i).toNat=k+i by omega] at m
  have d:=v.get m
  have hlen:((b.drop k).take i).length=i:=by simp;omega
  have f:=AD ((b.drop k).take i) (by grind)
  rw[hlen] at f
  rw[Yh f.1 f.2 d.1 d.2 (by omega)]
  have e:val ((b.drop k).take (i+1))=val ((b.drop k).take i)+x*256 ^ i:=by
   have hd:(b.drop k)[i]?=some x:=by grind
   rw[List.take_add_one,hd]
   have:=J3 ((b.drop k).take i) x
   grind
  rw[←e]
  exact g j _ _ ⟨by rw[bK (by omega)],rfl⟩
 ·have:i=w:=by grind
  subst this
  refine aD (ak (x:=(k:Int)) h rfl (aD ?_))
  rw[cK (by omega) (by omega)]
  exact xP h (by simp) rfl λn r=>t n (by push_cast;exact r)
theorem kq {n:Nat} {Q:Sl->Bool->PH->Prop} (h:aA H (aC B::aJ a (cells s k)::aS u8 s b::L)) (hk:k+n<=b.length) (f:b.length<=2 ^ 30)
 (g:∀r H',aA H' (aC B::aJ a (cells s (k+n))::aS u8 s b::aS u8 r ((b.drop k).take n)::L)->Q r true H'):ft (some a) n H Q:=by
 refine aE (aF rfl ?_)
 rw[show decide ((n:Int)< 0)=false by simp]
 refine aE (aF rfl (vX h (by omega) f ?_))
 refine aF (by simp;omega) ?_
 refine aD (ak (x:=s) h rfl (aD (ak (x:=(k:Int)) h rfl (aD (ak (x:=(k:Int)) h rfl ?_)))))
 rw[cK (by omega) (by omega)]
 refine ni (h.list (enc:=u8) 2 rfl) (by omega) (by omega) (by omega) λr0 d _=>?_
 rw[show((k:Int)+n).toNat-(k:Int).toNat=n by omega,Int.toNat_natCast] at d
 refine kV h d (by simp;omega) λr H1 e=>?_
 have c:=e.perm (L':=aC B::aJ a (cells s k)::aS u8 s b::aS u8 r ((b.drop k).take n)::L) (.cons _ (.trans (.swap _ _ _) (.cons _ (.swap _ _ _))))
 refine aD (ak (x:=(k:Int)) c rfl (aD ?_))
 rw[cK (by omega) (by omega)]
 exact xP c (by simp) rfl (by grind)
theorem tH {n:Nat} {Q:Sl->Bool->PH->Prop} (h:aA H (aC B::aJ a (cells s k)::aS u8 s b::L)) (hk:k+n<=b.length) (e:b.length<=2 ^ 30)
 (d:∀r H',aA H' (aC B::aJ a (cells s (k+n))::aS u8 s b::L)->Q r true H'):ft (some a) n H Q:=
 kq h hk e λr H' c=>d r H' ((c.perm (L':=aC B::aS u8 r ((b.drop k).take n)::aJ a (cells s (k+n))::aS u8 s b::L) (.cons _ (.trans (.cons _ (.swap _ _ _)) (.swap _ _ _)))).aq)
theorem fO {n:Nat} {Q:Option Addr->PH->Prop} (h:aA H (aC B::L)) (g:n<=65536) (e:∀a s H',aA H' (aC B::aJ a (cells s 0)::aS u8 s (List.replicate n 0)::L)->Q (some a) H'):ri n H Q:=by
 refine aE (aF (by simp) (aF (by simp;omega) (Ez (enc:=u8) (x:=(0:Int)) h (by omega) (by omega) λr H1 d=>bG d λa c f=>e a r c ?_)))
 grind
theorem pF {Q:Sl->PH->Prop} (h:aA H (aC B::aJ a (cells s k)::aS u8 s b::L)) (c:b.length<=2 ^ 30) (d:∀r H',aA H' (aC B::aS u8 r b::aJ a (cells s k)::aS u8 s b::L)->Q r H'):iB (some a) H Q:=
 aF rfl (aD (ak (x:=s) h rfl (kV h (h.list (enc:=u8) 2 rfl) c (by omega))))
theorem Q8 (w:Nat) (n:Int) (b:Bs) (q i:Nat) (hi:i<w) (d:q+w<=b.length):(b.take q++(le w n).take i++b.drop (q+i)).set (q+i) (n/ 256 ^ i% 256)=b.take q++(le w n).take (i+1)++b.drop (q+(i+1)):=by
 rw[EA w n i (by omega),EA w n (i+1) (by omega),le_succ]
 have c:(b.take q++le i n).length=q+i:=by simp[bO];omega
 rw[List.set_append_right _ _ (by omega),c,Nat.sub_self,List.drop_eq_getElem_cons (show q+i<b.length by omega)]
 grind
theorem xr (w:Nat) (l:List Int):(l.flatMap (le w)).length=w*l.length:=by
 induction l with
 |nil=>simp
 |cons x l c=>rw[List.flatMap_cons,List.length_append,c,bO,List.length_cons,Nat.mul_succ,Nat.add_comm]
theorem pZ {Q:Bool->PH->Prop} (h:aA H (aC B::aJ a (cells s k)::aS u8 s b::L)) (F:gR B p l) (hw:w=1∨w=2∨w=4) (E:∀x∈l,0<=x/\x< 256 ^ w) (hk:k+w*l.length<=b.length) (R:b.length<=2 ^ 30)
 (Z:∀H',aA H' (aC B::aJ a (cells s (k+w*l.length))::aS u8 s (b.take k++l.flatMap (le w)++b.drop (k+w*l.length))::L)->Q true H'):cM (some a) w p H Q:=by
 have N:((w:Int)==1||((w:Int)==2||(w:Int)==4))=true:=by grind
 have w1:1<=w:=by omega
 have S:w<=4:=by omega
 have J:(256:Int) ^ w<=2 ^ 62:=by grind
 have hle:l.length<=w*l.length:=(by grind)
 have hB:gR H p l:=F.ext (h.base)
 refine aE (aF rfl (Hj ?_))
 rw[N]
 refine aE (aF rfl (vX h (by omega) R ⟨by omega,?_⟩))
 have hdiv:l.length<=(b.length-k)/w:=(by grind)
 have G:(b.length-k)/w<=b.length-k:=(by grind)
 have M:Int.tdiv ((b.length-k:Nat):Int) (w:Int)=(((b.length-k)/w:Nat):Int):=by
  rfl
 rw[M,cK (x:=(((b.length-k)/w:Nat):Int)) (by omega) (by omega),hB.bL]
 refine aF (by simp;omega) ?_
 refine av l.length (λi st f=>st=(i:Int)/\f=H) (by grind) ?_
 rintro i st H1 again hi ⟨rfl,rfl⟩ m
 refine aM (λc=>?_) (λc=>?_)
 ·have r:i<l.length:=by simpa using c
  refine dm hB (by omega) (by omega) λx u=>?_
  have d:=E x (by grind)
  refine aE (aF (by simp;omega) ⟨by rw[cK (by omega) (by omega)];omega,?_⟩)
  rw[Tw d.1 d.2 S]
  refine aF rfl ?_
  rw[bK (by omega)]
  grind
 ·clear m
  refine av l.length (λi st f=>st=(i:Int)/\aA f (aC B::aJ a (cells s (k+w*i))::aS u8 s (b.take k++(l.take i).flatMap (le w)++b.drop (k+w*i))::L)) ⟨rfl,by simpa using h⟩ ?_
  rintro i st K y U ⟨rfl,O⟩ m
  have C:gR K p l:=F.ext (O.base)
  have D:(l.take i).length=i:=by simp;omega
  have hm:w*(i+1)=w*i+w:=rfl
  refine aM (λc=>?_) (λc=>?_)
  ·have r:i<l.length:=by simpa using c
   have V:w*(i+1)<=w*l.length:=(by grind)
   refine dm C (by omega) (by omega) λx u=>?_
   have d:=E x (by grind)
   have T:((l.take i).flatMap (le w)).length=w*i:=by rw[xr,D]
   have o:(b.take k++(l.take i).flatMap (le w)).length=k+w*i:=by grind
   refine av w (λj st f=>st=(j:Int)/\aA f (aC B::aJ a (cells s (k+w*i))::aS u8 s (b.take k++(l.take i).flatMap (le w)++(le w x).take j++b.drop (k+w*i+j))::L)) (by grind) ?_
   rintro j st W z hj ⟨rfl,g⟩ t
   refine aM (λc3=>?_) (λc3=>?_)
   ·have q:j<w:=by grind
    refine aD (ak (x:=s) g rfl (aD (ak (x:=((k+w*i:Nat):Int)) g rfl ⟨by rw[cK (by omega) (by omega)];omega,?_⟩)))
    rw[cK (x:=((k+w*i:Nat):Int)+j) (by omega) (by omega),NP d.1 (by omega) (by omega)]
    have I:(b.take k++(l.take i).flatMap (le w)++(le w x).take j++b.drop (k+w*i+j)).length=b.length:=by
     rw[List.length_append,List.length_append,o,List.length_take,bO,List.length_drop];omega
    refine uk g 2 rfl (by omega) (by omega) rfl λv P=>?_
    rw[bK (by omega)]
    refine t q _ _ ⟨rfl,?_⟩
    have e:=Q8 w x (b.take k++(l.take i).flatMap (le w)++b.drop (k+w*i)) (k+w*i) j q (by grind)
    rw[List.take_left' o] at e
    have A:∀n,(b.take k++(l.take i).flatMap (le w)++b.drop (k+w*i)).drop (k+w*i+n)=b.drop (k+w*i+n):=λn=>by
     rw[List.drop_append,List.drop_eq_nil_of_le (by omega),List.nil_append,o,List.drop_drop];congr 1;omega
    rw[A,A] at e
    have Y:aA v (aC B::aJ a (cells s (k+w*i))::aS u8 s ((b.take k++(l.take i).flatMap (le w)++(le w x).take j++b.drop (k+w*i+j)).set (k+w*i+j) (x/ 256 ^ j% 256))::L):=by
     have X:(((k+w*i:Nat):Int)+j).toNat=k+w*i+j:=by omega
     grind
    grind
   ·have:j=w:=by grind
    subst this
    refine aD (ak (x:=((k+j*i:Nat):Int)) g rfl (aD ?_))
    rw[cK (by omega) (by omega)]
    refine xP g (by simp) rfl λv P=>?_
    rw[bK (by omega)]
    refine m r _ _ ⟨rfl,?_⟩
    have e1:(l.take (i+1)).flatMap (le j)=(l.take i).flatMap (le j)++le j x:=by rw[Int.toNat_natCast] at u;rw[oe u];simp
    rw[e1,hm,←Nat.add_assoc,←List.append_assoc]
    have e2:(le j x).take j=le j x:=List.take_of_length_le (by simp[bO])
    grind
  grind
theorem DP {x:Bs} {n:Nat} {Q:Bool->PH->Prop} (h:aA H (aC B::aJ a (cells s x.length)::aS u8 s (x++List.replicate n 0)::L)) (f:gR B p l) (hw:w=1∨w=2∨w=4) (e:∀x∈l,0<=x/\x< 256 ^ w) (hk:w*l.length<=n) (g:x.length+n<=2 ^ 30)
 (d:∀H',aA H' (aC B::aJ a (cells s (x++l.flatMap (le w)).length)::aS u8 s (x++l.flatMap (le w)++List.replicate (n-w*l.length) 0)::L)->Q true H'):cM (some a) w p H Q:=
 pZ h f hw e (by simp;omega) (by simp;omega) λH' c=>d H' (by
  rw[List.take_left,List.drop_append,List.drop_eq_nil_of_le (by omega),List.nil_append,List.drop_replicate,Nat.add_sub_cancel_left] at c
  rw[List.length_append,xr];exact c)
theorem Hl {x y:Bs} {n:Nat} {Q:Bool->PH->Prop} (h:aA H (aC B::aJ a (cells s x.length)::aS u8 s (x++List.replicate n 0)::L)) (d:Bytes H p y) (hk:y.length<=n) (m:x.length+n<=2 ^ 30)
 (i:∀H',aA H' (aC B::aJ a (cells s (x++y).length)::aS u8 s (x++y++List.replicate (n-y.length) 0)::L)->Q true H'):uU (some a) p H Q:=by
 refine aE (aF rfl (vX h (by simp) (by simp;omega) ?_))
 refine aF (by rw[d.bL];simp;omega) ?_
 refine aD (ak (x:=(x.length:Int)) h rfl (aD (ak (x:=s) h rfl (aD (ak (x:=(x.length:Int)) h rfl ?_)))))
 have e:=(h.list (enc:=u8) 2 rfl).bL
 rw[e]
 refine I9 h 2 rfl (by omega) (by grind) (by omega) λ_=>?_
 rw[Int.toNat_natCast,Int.toNat_natCast]
 refine z4 h 2 rfl (by simp) (by simp) d NQ λH1 g=>?_
 have e1:min y.length ((x++List.replicate n (0:Int)).length-x.length)=y.length:=by simp;omega
 have e2:(x++List.replicate n (0:Int)).take x.length++(y.take ((x++List.replicate n (0:Int)).length-x.length)++(x++List.replicate n (0:Int)).drop (x.length+min y.length ((x++List.replicate n (0:Int)).length-x.length)))=x++y++List.replicate (n-y.length) 0:=by
  rw[e1,List.take_left,List.take_of_length_le (by simp;omega),List.drop_append,List.drop_eq_nil_of_le (by omega),List.nil_append,List.drop_replicate,Nat.add_sub_cancel_left,List.append_assoc]
 have e3:(x++List.replicate n (0:Int)).length-x.length=n:=by simp
 rw[e3] at g e1 e2
 rw[e3,e1]
 have c:aA H1 (aC B::aJ a (cells s x.length)::aS u8 s (x++y++List.replicate (n-y.length) 0)::L):=by
  grind
 refine dE (c.get 1 rfl) rfl (aD ?_)
 rw[cK (by omega) (by omega)]
 refine xP c (by simp) rfl λf j=>i f ?_
 grind
theorem CF {ls:List (Sl×List Int)} {Q:Int->PH->Prop} (d:Cr.Rows H p ls) (e:ls.length< 2 ^ 62) (c:Q (mz (cat ls)) H):yi p H Q:=Tt d e (by rw[←Q4];exact c)
theorem xu {x z:Bs} {Q:Sl->PH->Prop} (h:aA H (aC B::aS u8 s (x++z)::L)) (A:z.length=4) (J:bP x) (R:x.length<=2 ^ 20) (I:∀H',aA H' (aC B::aS u8 s (closed x)::L)->Q s H'):nk s H Q:=by
 have y:=(h.list (enc:=u8) 1 rfl)
 have el:(s.len:Int)=x.length+4:=by rw[y.bL];simp[A]
 have e1:IntKind.wrap .i64 ((s.len:Int)- 4)=(x.length:Int):=by rw[cK (by omega) (by omega)];omega
 unfold nk
 rw[e1]
 refine ni y (by omega) (by omega) (by grind) λj f _=>?_
 have e2:((x++z).drop (0:Int).toNat).take ((x.length:Int).toNat-(0:Int).toNat)=x:=by simp
 rw[e2] at f
 refine Wf (l:=[j]) (enc:=Sl.v) h rfl rfl λS C H1 M u G K=>?_
 refine CF (ls:=[(j,x)]) ⟨u.ext G.base,λq t=>by simp at t;subst t;exact⟨f.ext K,J,by simp only;omega⟩⟩ (by simp) ?_
 have F:cat [(j,x)]=x:=by simp[cat]
 rw[F]
 refine av 4 (λi st E=>st=(i:Int)/\aA E (aC C::aS u8 s (x++(le 4 (mz x)).take i++z.drop i)::L)) (by grind) ?_
 rintro i st D again hi ⟨rfl,g⟩ o
 have r:=AA x
 refine aM (λc=>?_) (λc=>?_)
 ·have d:i< 4:=by grind
  refine⟨by rw[cK (by omega) (by omega)];omega,?_⟩
  rw[cK (x:=(x.length:Int)+i) (by omega) (by omega),NP r.1 (by omega) (by omega)]
  refine uk g 1 rfl (by omega) (by simp[bO,A];omega) rfl λN P=>?_
  rw[bK (by omega)]
  refine o d _ _ ⟨rfl,?_⟩
  have e:=Q8 4 (mz x) (x++z) x.length i d (by simp;omega)
  rw[List.take_left] at e
  have m:∀n,(x++z).drop (x.length+n)=z.drop n:=(by simp)
  rw[m,m] at e
  rw[←e]
  have O:((x.length:Int)+i).toNat=x.length+i:=by omega
  grind
 ·have:i=4:=by grind
  subst this
  rw[List.take_of_length_le (by simp[bO]),List.drop_eq_nil_of_le (by omega),List.append_nil] at g
  exact I D (g.vP M)
theorem pG {x y:Bs} {Q:Bool->PH->Prop} (d:Bytes H s x) (c:Bytes H p y) (e:bP x) (f:bP y) (g:Q (x==y) H):jA s p H Q:=by
 refine⟨_,⟨x,d.cells,rfl⟩,_,⟨y,c.cells,rfl⟩,?_⟩
 have:((strOf x).toList==(strOf y).toList)=(x==y):=by
  rw[Bool.eq_iff_iff,beq_iff_eq,beq_iff_eq];exact J4 e f
 grind
end
end Rw
end
section
namespace Ge
open Go Go.Kx KM
abbrev zZ (c:ax):List Value:=[.int .i64 c.1,.int .i64 c.2.1,.int .i64 c.2.2]
def Gm (H:PH) (p:Option Addr) (c:ax):Prop:=∃a,p=some a/\aa H a (zZ c)
theorem Gm.ext {A B:PH} {p:Option Addr} {c:ax} (h:Gm A p c) (x:Ext A B):Gm B p c:=let⟨a,b,d⟩:=h;⟨a,b,d.ext x⟩
theorem bH {H:PH} {a lo hi:Int} {Q:Bool->PH->Prop} (b:Q (decide (lo<=a)&&decide (a<=hi)) H):fQ a lo hi H Q:=
 aE (aM (by grind) (by grind))
theorem Wh {H:PH} {c:ax} {Q:Option Addr->Int->PH->Prop} (j:bE c) (i:∀p H',Ext H H'->Gm H' p c->Q p 0 H'):qt c H Q:=by
 obtain⟨b,d,e,f,g,h⟩:=j
 have w:∀{x lo hi:Int},lo<=x->x<=hi->(decide (lo<=x)&&decide (x<=hi))=true:=(by grind)
 refine kb λa1 H1 l r1 _=>aX (x:=c.1) r1 rfl (bH ?_)
 rw[w b d]
 refine aE (aF rfl (aX (x:=c.2.1) r1 rfl (bH ?_)))
 rw[w e f]
 refine aE (aF rfl (aX (x:=c.2.2) r1 rfl (bH ?_)))
 rw[w g h]
 refine aF rfl (iK (x:=c) r1 rfl (kb λa n m k _=>i _ _ (l.trans m) ⟨a,rfl,k⟩))
theorem Yi {H:PH} {c:ax} {Q:Option Addr->Int->PH->Prop} (d:¬bE c) (a:∀H',Ext H H'->Q none 1 H'):qt c H Q:=by
 refine kb λa1 H1 b r1 _=>aX (x:=c.1) r1 rfl (bH ?_)
 refine aE (aM (λ_=>aE (aW rfl (aW rfl (a _ b)))) (λe1=>aX (x:=c.2.1) r1 rfl (bH ?_)))
 refine aE (aM (λ_=>aW rfl (a _ b)) (λe2=>aX (x:=c.2.2) r1 rfl (bH ?_)))
 refine aM (by grind) (λe3=>absurd ?_ d)
 simp at e1 e2 e3
 simp only[bE];omega
theorem gI {c:ax} (h:bE c):1<=bc c/\bc c<=5:=by obtain⟨a,b,d,e,f,g⟩:=h;simp only[bc];omega
theorem kj {c:ax} (h:bE c):2<=bW c/\bW c<=4:=by obtain⟨a,b,d,e,f,g⟩:=h;simp only[bW];omega
theorem qT {c:ax} (h:bE c):10<=base c/\base c<=30:=by have:=gI h;have:=kj h;simp only[base];omega
theorem J5 {a b A B:Int} (c:0<=a) (d:a<=A) (e:0<=b) (f:b<=B):0<=a*b/\a*b<=A*B:=
 ⟨Int.mul_nonneg c e,Int.mul_le_mul d f e (Int.le_trans c d)⟩
theorem G9 {c:ax} (h:bE c):0<=c.2.1*c.2.2/\c.2.1*c.2.2<=32*64:=by obtain⟨d,e,f,a,g,b⟩:=h;exact J5 (by omega) a (by omega) b
theorem Wj {c:ax} (h:bE c):11<=half c/\half c<=31:=by obtain⟨a,b,d,e,f,g⟩:=h;simp only[half];omega
theorem NR {H:PH} {n a:Int} {Q:Int->PH->Prop} (d:0<=n) (e:n<=2 ^ 40) (f:1<=a) (g:a<=2 ^ 40) (b:Q ((n+a- 1)/a) H):Az n a H Q:=by
 refine⟨by omega,?_⟩
 rw[bC (x:=n+a) (by omega) (by omega),bC (x:=n+a- 1) (by omega) (by omega),Int.tdiv_eq_ediv_of_nonneg (by omega)]
 have a1:0<=(n+a- 1)/a:=Int.ediv_nonneg (by omega) (by omega)
 have c:(n+a- 1)/a<=n+a- 1:=Int.ediv_le_self _ (by omega)
 rw[bC (by omega) (by omega)];exact b
theorem mr {H:PH} {p:Option Addr} {c:ax} {Q:ax->PH->Prop} (f:Gm H p c) (e:∀H',Ext H H'->Q c H'):dF p H Q:=by
 obtain⟨a,rfl,g⟩:=f
 refine kb λa1 H1 b r1 f1=>aF rfl (aD (TD (x:=c) (g.ext b) rfl ?_))
 exact uM r1 rfl rfl λd h k3=>iK (x:=c) h rfl (e d (b.Dv k3 f1))
theorem fc {H:PH} {p:Option Addr} {c:ax} {Q:Int->PH->Prop} (b:Gm H p c) (a:bE c) (d:∀H',Ext H H'->Q (bc c) H'):eU p H Q:=by
 refine mr b λH1 e=>NR (by have:=a.1;omega) (by have:=a.2.1;omega) (by decide) (by decide) ?_
 have:(c.1+15- 1)/ 15=bc c:=by simp only[bc];omega
 grind
theorem vY {H:PH} {p:Option Addr} {c:ax} {Q:Int->PH->Prop} (d:Gm H p c) (b:bE c) (l:Q (bW c) H):fA p H Q:=by
 obtain⟨a,rfl,e⟩:=d
 obtain⟨f,g,h,i,j,k⟩:=b
 refine aF rfl (aD (oZ (x:=c.2.1) e rfl ?_))
 rw[bC (x:=5*c.2.1) (by omega) (by omega),bC (x:=43+5*c.2.1) (by omega) (by omega)]
 refine NR (by omega) (by omega) (by decide) (by decide) ?_
 have:(43+5*c.2.1+64- 1)/ 64=bW c:=by simp only[bW];omega
 grind
theorem oH {H:PH} {p:Option Addr} {c:ax} {s:Int} {Q:Bool->PH->Prop} (e:Gm H p c) (d:bE c) (b:Q (decide (0<=s)&&decide (s<=c.2.1- 1)) H):mm p s H Q:=by
 obtain⟨a,rfl,f⟩:=e
 obtain⟨g,h,i,j,k,l⟩:=d
 refine aE (aW rfl (aD (oZ (x:=c.2.1) f rfl ?_)))
 rw[bC (x:=c.2.1- 1) (by omega) (by omega)]
 exact bH b
theorem AE {H:PH} {p:Option Addr} {c:ax} {Q:Int->PH->Prop} (b:Gm H p c) (a:bE c) (d:∀H',Ext H H'->Q (base c) H'):lJ p H Q:=by
 refine vY b a (fc b a λH1 e=>?_)
 have f:=gI a
 have g:=kj a
 rw[bC (x:=2*bc c) (by omega) (by omega),bC (x:=bW c+2*bc c) (by omega) (by omega),bC (x:=2*(bW c+2*bc c)) (by omega) (by omega),bC (x:=2+2*(bW c+2*bc c)) (by omega) (by omega)]
 exact d H1 e
theorem Tx {H:PH} {p:Option Addr} {c:ax} {s:Int} {Q:Int->PH->Prop} (g:Gm H p c) (b:bE c) (f:∀H',Ext H H'->Q (if 0<=s/\s<c.2.1 then base c+s*c.2.2 else -1) H'):gO p s H Q:=by
 refine oH g b (aM (λe=>?_) (λe=>?_))
 ·have:=f H (.refl _)
  grind
 ·have h:0<=s/\s<c.2.1:=by grind
  obtain⟨a,rfl,d⟩:=g
  refine aD (oZ (x:=c.2.2) d rfl (AE ⟨a,rfl,d⟩ b λH1 i=>DC (d.ext i) rfl ?_))
  have j:=qT b
  have k:=J5 h.1 (show s<=32 by have:=b.2.2.2.1;omega) (show 0<=c.2.2 by have:=b.2.2.2.2.1;omega) b.2.2.2.2.2
  rw[bC (x:=s*c.2.2) (by omega) (by omega),bC (by omega) (by omega)]
  have:=f H1 i
  rwa[if_pos h] at this
theorem CG {H:PH} {p:Option Addr} {c:ax} {Q:Int->PH->Prop} (g:Gm H p c) (d:bE c) (f:∀H',Ext H H'->Q (all c) H'):jS p H Q:=by
 obtain⟨a,rfl,b⟩:=g
 refine aF rfl (aD (oZ (x:=c.2.1) b rfl (aD (oZ (x:=c.2.2) b rfl (AE ⟨a,rfl,b⟩ d λH1 e=>DC (b.ext e) rfl (DC (b.ext e) rfl ?_))))))
 have h:=qT d
 have i:=G9 d
 rw[bC (x:=c.2.1*c.2.2) (by omega) (by omega),bC (by omega) (by omega)]
 exact f H1 e
theorem Q9 {H:PH} {p:Option Addr} {c:ax} {Q:Int->PH->Prop} (f:Gm H p c) (b:bE c) (e:Q (half c) H):tn p H Q:=by
 obtain⟨a,rfl,g⟩:=f
 have d:=Wj b
 obtain⟨h,i,j,k,l,m⟩:=b
 refine aF rfl (aD (oZ (x:=c.2.2) g rfl ?_))
 rw[bC (x:=c.2.2- 2) (by omega) (by omega),Int.tdiv_eq_ediv_of_nonneg (by omega),bC (by simp only[half] at d;omega) (by simp only[half] at d;omega)]
 exact e
theorem F5 {H:PH} {p:Option Addr} {c:ax} {at':Int} {Q:Int->Int->Bool->PH->Prop} (m:Gm H p c) (b:bE c)
 (i:∀H',Ext H H'->if base c<=at'/\at'<all c then Q ((at'-base c)/c.2.2) ((at'-base c)%c.2.2) true H' else Q 0 0 false H'):ot p at' H Q:=by
 obtain⟨a,rfl,d⟩:=m
 have s:=qT b
 have t:=G9 b
 refine aE (aF rfl (AE ⟨a,rfl,d⟩ b λH1 g=>CG ⟨a,rfl,d.ext g⟩ b λj h=>?_))
 have l:all c=base c+c.2.1*c.2.2:=rfl
 rw[bC (x:=all c- 1) (by omega) (by omega)]
 refine bH (aM (λe=>?_) (λe=>?_))
 ·have:=i j (g.trans h)
  grind
 ·have n:base c<=at'/\at'<all c:=by grind
  refine AE ⟨a,rfl,d.ext (g.trans h)⟩ b λk o=>?_
  have f:=(g.trans h).trans o
  have r:=b.2.2.2.2.1
  refine aD (oZ (x:=c.2.2) (d.ext f) rfl ⟨by omega,aD (oZ (x:=c.2.2) (d.ext f) rfl ⟨by omega,?_⟩)⟩)
  have:=i k f
  rw[if_pos n] at this
  rw[bC (x:=at'-base c) (by omega) (by omega),Int.tdiv_eq_ediv_of_nonneg (by omega),Int.tmod_eq_emod_of_nonneg (by omega)]
  have a1:0<=(at'-base c)/c.2.2:=Int.ediv_nonneg (by omega) (by omega)
  have q:(at'-base c)/c.2.2<=at'-base c:=Int.ediv_le_self _ (by omega)
  rw[bC (by omega) (by omega)];exact this
end Ge
end
section
namespace Rw
open Go Go.Kx KM Cr
theorem le1:∀l:List Int,(∀x∈l,0<=x/\x< 256)->l.flatMap (le 1)=l
 |[],_=>rfl
 |x::l,h=>by
  have:=h x (by simp)
  rw[List.flatMap_cons,le1 l λy d=>h y (by simp[d])]
  simp only[le,List.cons_append,List.nil_append]
  grind
theorem BG (l:List Int) (h:∀x∈l,0<=x/\x< 256 ^ 1):l.flatMap (le 1)=l:=le1 l (by grind)
theorem NS (n:Nat) (X:Bs) (h:X.length<=n):X++List.replicate (n+4-X.length) 0=pad n X++List.replicate 4 0:=by
 rw[pad,List.append_assoc,List.replicate_append_replicate];congr 2;omega
theorem fX (w:Nat) (n:Int):bP (le w n):=NM w n
theorem cO {a b:Bs} (d:bP a) (e:bP b):bP (a++b):=by grind
theorem dt {x:Int} {b:Bs} (h:0<=x/\x<=255) (d:bP b):bP (x::b):=by grind
theorem tw:bP []:=λx d=>by cases d
theorem BH (n:Nat):bP (List.replicate n 0):=λx d=>by rw[(List.mem_replicate.1 d).2];omega
theorem yj (n:Nat) {X:Bs} (h:bP X):bP (pad n X):=cO h (BH _)
theorem wL {X:Bs} (h:bP X):bP (closed X):=cO h (fX _ _)
theorem wu {b:Bs} (h:bP b) (n:Nat):bP (b.take n):=by grind
theorem vG {b:Bs} (h:bP b) (n:Nat):bP (b.drop n):=by grind
theorem Ty {l:List Bs} (h:∀b∈l,bP b):bP l.flatten:=λx d=>by
 obtain⟨b,e,d⟩:=List.mem_flatten.1 d
 grind
theorem xv {b:Bs} (h:bP b) (k w:Nat):0<=num b k w/\num b k w< 256 ^ w:=by
 have:=AD ((b.drop k).take w) (by grind)
 refine⟨this.1,Int.lt_of_lt_of_le this.2 ?_⟩
 have d:((b.drop k).take w).length<=w:=by simp;omega
 have e:(((256 ^ ((b.drop k).take w).length:Nat)):Int)<=((256 ^ w:Nat):Int):=Int.ofNat_le.2 (Nat.pow_le_pow_right (by decide) d)
 grind
section
variable {H B:PH} {L:List Ob} {a:Addr} {s p:Sl} {n:Nat}
theorem Tz {X:Bs} {Q:Sl->PH->Prop} {r:Sl} (h:aA H (aC B::aS u8 r (X++List.replicate (n+4-X.length) 0)::L)) (d:X.length<=n) (f:bP X) (g:n<=65000) (e:∀H',aA H' (aC B::aS u8 r (closed (pad n X))::L)->Q r H'):nk r H Q:=by
 rw[NS n X d] at h
 exact xu h (by simp) (yj n f) (by rw[wF d];omega) e
theorem AF {X Y:Bs} {m:Nat} {Q:Sl->PH->Prop} {r:Sl} (h:aA H (aC B::aS u8 r (X++List.replicate m 0)::L)) (e:X=Y) (hm:m=n+4-Y.length) (f:Y.length<=n) (g:bP Y) (i:n<=65000) (d:∀H',aA H' (aC B::aS u8 r (closed (pad n Y))::L)->Q r H'):nk r H Q:=by
 subst e;subst hm
 exact Tz h f g i d
theorem only {d:PH} {O:Ob} {H':PH} (h:aA H' (aC B::O::L)) (x:Ext d B):aA H' [aC d,O]:=by
 have e:=h.vP x
 rw[aA.iff] at e ⊢
 simp_all
end
end Rw
namespace Su
open Go Go.Kx KM Rw Cr
abbrev S5:=Int×Int×Int×Int×Int
abbrev s5 (x:S5):List Value:=[i64 x.1,i64 x.2.1,i64 x.2.2.1,i64 x.2.2.2.1,i64 x.2.2.2.2]
abbrev sup (c:ax) (id aN:Int):S5:=(c.1,c.2.1,c.2.2,id,aN)
section
variable {H B:PH} {L:List Ob} {c:ax} {id aN:Int} {p q:Sl} {b b2:Bs}
theorem gE {Q:Bool->PH->Prop} (m:∀H',Ext H H'->Q (dA c id aN) H'):z5 (sup c id aN) H Q:=by
 refine dZ (.start H) λa H1 l o=>⟨c,F3 (n:=5) (cs:=s5 (sup c id aN)) ((l.get 1 rfl:aa H1 a _).X6 rfl) (by omega),?_⟩
 by_cases i:bE c
 ·refine Ge.Wh i λg d j _=>?_
  have f:aA d _:=l.ext j
  refine dR (λk=>ak (x:=id) f rfl k) ?_
  refine dR (λk=>ak (x:=id) f rfl k) ?_
  refine dR (λk=>ak (x:=aN) f rfl k) ?_
  refine dR (λk=>ak (x:=aN) f rfl k) ?_
  have e:dA c id aN=((((((0:Int)==0)&&decide (0<=id))&&decide (id<=2147483647))&&decide (1<=aN))&&decide (aN<=2147483647)):=by
   rw[dA,rG.2 i];simp[bN,Bool.and_assoc]
  rw[←e];exact m d (o.trans j)
 ·refine Ge.Yi i λd j=>?_
  have e:dA c id aN=false:=by
   rw[dA,show Fs c=false from Bool.eq_false_iff.2 λh=>i (rG.1 h)];rfl
  have q:=m d (o.trans j)
  rw[e] at q
  exact aE (aF rfl (aE (aF rfl (aE (aF rfl (aE (aF rfl q)))))))
theorem kt (h:dA c id aN=true):bE c/\(0<=id/\id<=2147483647)/\1<=aN/\aN<=2147483647:=by
 simp only[dA,Bool.and_eq_true,rG,KM.bD] at h
 exact⟨h.1.1,h.1.2,h.2⟩
theorem fP {Q:Sl->Int->PH->Prop} (hm:dA c id aN=true) (D:∀r H',aA H' [aC H,aS u8 r (eZ c id aN)]->Q r 0 H'):nq (sup c id aN) H Q:=by
 obtain⟨ok,⟨i0,i1⟩,S,m1⟩:=kt hm
 obtain⟨o1,o2,o3,T,U,V⟩:=ok
 refine dZ (.start H) λa H1 f W=>⟨sup c id aN,(f.get 1 rfl:aa H1 a _).all rfl,gE λK G=>?_⟩
 rw[hm]
 refine aF rfl (Rw.fO (n:=64) (f.ext G) (by decide) λR s o g=>?_)
 have d:aa o a _:=g.get 3 rfl
 refine oZ (x:=c.1) d rfl (oZ (x:=c.2.1) d rfl (oZ (x:=c.2.2) d rfl ?_))
 refine rY (enc:=i64) (l:=[75,83,c.1,c.2.1,c.2.2]) g rfl rfl λp1 I M k i v=>?_
 have l1:∀x∈[75,83,c.1,c.2.1,c.2.2],0<=x/\x< 256 ^ 1:=by
  grind
 refine DP (x:=[]) (n:=64) (w:=1) v i (by decide) l1 (by simp) (by simp) λt h=>?_
 have r5:aa t a _:=h.get 3 rfl
 refine aX (x:=id) r5 rfl (aX (x:=aN) r5 rfl ?_)
 refine rY (enc:=i64) (l:=[id,aN]) h rfl rfl λp2 J N m j y=>?_
 have l2:∀x∈[id,aN],0<=x/\x< 256 ^ 4:=by
  intro x F
  simp only[List.mem_cons,List.not_mem_nil,or_false] at F
  omega
 refine DP (w:=4) y j (by decide) l2 (by simp) (by simp[bO]) λO z=>?_
 refine pF z (by simp[bO]) λr P A=>?_
 have e:[]++[75,83,c.1,c.2.1,c.2.2].flatMap (le 1)++[id,aN].flatMap (le 4)=75::83::c.1::c.2.1::c.2.2::(le 4 id++le 4 aN):=by
  rw[BG _ l1];simp
 have E:bP (75::83::c.1::c.2.1::c.2.2::(le 4 id++le 4 aN)):=
  dt (by omega) (dt (by omega) (dt (by omega) (dt (by omega) (dt (by omega) (cO (fX _ _) (fX _ _))))))
 refine AF (n:=60) A e (by rfl) (by simp[bO]) E (by decide) λu C=>D r u (only C (k.trans m))
theorem wM {Q:Sl->Int->PH->Prop} (hm:dA c id aN=false) (f:∀H',Ext H H'->Q Sl.nil 1 H'):nq (sup c id aN) H Q:=by
 refine dZ (.start H) λa H1 e g=>⟨sup c id aN,(e.get 1 rfl:aa H1 a _).all rfl,gE λd h=>?_⟩
 rw[hm]
 exact aW rfl (f d (g.trans h))
theorem rI:(eZ c id aN).length=64:=by rfl
theorem wN (h:dA c id aN=true):bP (eZ c id aN):=by
 obtain⟨⟨o1,o2,o3,d,e,f⟩,_,_⟩:=kt h
 exact wL (yj _ (dt (by omega) (dt (by omega) (dt (by omega) (dt (by omega) (dt (by omega) (cO (fX _ _) (fX _ _))))))))
def yb:Option (ax×Int×Int)->S5
 |none=>(0,0,0,0,0)
 |some x=>sup x.1 x.2.1 x.2.2
def Vg {α:Type}:Option α->Int
 |none=>2
 |some _=>0
theorem hG {Q:S5->Int->PH->Prop} (C:Bytes H p b) (hl:b.length=64) (i:bP b) (z:∀H',Ext H H'->Q (yb (eJ b)) (Vg (eJ b)) H'):sx p H Q:=by
 refine dZ (.start H) λa H1 G S=>pE G (C.ext S) (by omega) λF s W I=>?_
 refine tH (n:=2) I (by omega) (by omega) λ_ X J=>?_
 refine dK (w:=1) J (by decide) (by omega) (by omega) i λY K=>?_
 refine Oo (j:=0) K 3 rfl (by simp) rfl λZ M=>dK (w:=1) M (by decide) (by omega) (by omega) i λH6 N=>?_
 refine Oo (j:=1) N 3 rfl (by simp) rfl λH7 O=>dK (w:=1) O (by decide) (by omega) (by omega) i λH8 P=>?_
 refine Oo (j:=2) P 3 rfl (by simp) rfl λH9 R=>dK (w:=4) R (by decide) (by omega) (by omega) i λT u=>?_
 refine cU (j:=3) u 3 rfl (by simp) rfl λU v=>dK (w:=4) v (by decide) (by omega) (by omega) i λV y=>?_
 refine cU (j:=4) y 3 rfl (by simp) rfl λm l=>?_
 have fl:∀d,aA d [aC H,aJ F (cells s 13),aS u8 s b,aJ a (s5 (sup (num b 2 1,num b 3 1,num b 4 1) (num b 5 4) (num b 9 4)))]->∀(sb:Bool),(sb=true->eJ b=none)->(sb=false->eJ b=some ((num b 2 1,num b 3 1,num b 4 1),num b 5 4,num b 9 4))->
  aL sb (aV d a [i64 0,i64 0,i64 0,i64 0,i64 0] λo=>aT s5 o a 5 λg=>Q (g.1,g.2.1,g.2.2.1,g.2.2.2.1,g.2.2.2.2) 2 o)
   (aT s5 d a 5 λE=>aV d a (s5 E) λt=>aT s5 t a 5 λh=>Q (h.1,h.2.1,h.2.2.1,h.2.2.2.1,h.2.2.2.2) 0 t):=by
  intro d f sb e1 e2
  refine aM (λc=>?_) (λc=>?_)
  ·refine fb f 3 rfl rfl rfl λk e=>cE (x:=(0,0,0,0,0)) e 3 rfl rfl rfl ?_
   have:=z k e.base
   rw[e1 c] at this;exact this
  ·refine cE (x:=sup (num b 2 1,num b 3 1,num b 4 1) (num b 5 4) (num b 9 4)) f 3 rfl rfl rfl (fb f 3 rfl rfl rfl λk e=>cE (x:=sup (num b 2 1,num b 3 1,num b 4 1) (num b 5 4) (num b 9 4)) e 3 rfl rfl rfl ?_)
   have:=z k e.base
   rw[e2 c] at this;exact this
 refine cE (x:=sup (num b 2 1,num b 3 1,num b 4 1) (num b 5 4) (num b 9 4)) l 3 rfl rfl rfl ?_
 by_cases hm:dA (num b 2 1,num b 3 1,num b 4 1) (num b 5 4) (num b 9 4)=true
 ·refine fP hm λr d f=>?_
  have e:=(l:aA m (aC H::_)).made f
  refine aE (aF rfl (pG (e.list (enc:=u8) 1 rfl) (C.ext e.base) (wN hm) i ?_))
  refine fl d e.aq _ (λc=>?_) (λc=>?_)
  ·rw[eJ];grind
  ·rw[eJ];grind
 ·have A:dA (num b 2 1,num b 3 1,num b 4 1) (num b 5 4) (num b 9 4)=false:=by grind
  refine wM A λd D=>?_
  refine aE (aW rfl (fl d ((l:aA m (aC H::_)).ext D) true (λ_=>?_) (by simp)))
  rw[eJ];grind
end
end Su
end
section
namespace Rw
open Go Go.Kx KM Cr
section
variable {H B:PH} {L:List Ob} {a:Addr} {s p:Sl} {n:Nat}
theorem oY {l:List Int} {cs:List Value} {e m w n:Nat} {x:Bs} {K:PH->Prop} (h:aA H (aC B::aJ a (cells s x.length)::aS u8 s (x++List.replicate n 0)::L)) (j:cs=l.map i64) (hm:m=l.length) (hw:w=1∨w=2∨w=4) (k:∀x∈l,0<=x/\x< 256 ^ w) (hk:w*l.length<=n) (i:x.length+n<=2 ^ 30)
 (t:∀c H',Ext B c->aA H' (aC c::aJ a (cells s (x++l.flatMap (le w)).length)::aS u8 s (x++l.flatMap (le w)++List.replicate (n-w*l.length) 0)::L)->K H'):bZ H (row cs e) m λr d=>cM (some a) w r d λ_ f=>K f:=
 rY (enc:=i64) (l:=l) h j hm λr c d u o g=>DP g o hw k hk i (by grind)
theorem CH {τ:Type} {en:τ->List Value} {n:Nat} {a:Addr} {x z:τ} {sb:Bool} {cs vz:List Value} {Q:τ->Int->PH->Prop} (h:aA H L) (i:Nat) (hi:L[i]?=some (aJ a cs)) (f:cs=en x) (k:vz=en z) (hlen:∀y,(en y).length=n) (e:∀y,(en y).all cg=true)
 (g:sb=true->∀H',aA H' (L.set i (aJ a (en z)))->Q z 2 H') (j:sb=false->∀H',aA H' (L.set i (aJ a (en x)))->Q x 0 H'):
 aL sb (aV H a vz λH1=>aT en H1 a n λy=>Q y 2 H1) (aT en H a n λy=>aV H a (en y) λH1=>aT en H1 a n λy=>Q y 0 H1):=by
 subst f;subst k
 have m:=(List.getElem?_eq_some_iff.1 hi).1
 refine aM (λc=>?_) (λc=>?_)
 ·refine fb h i hi (by grind) (e _) λH1 d=>cE (x:=z) d i (by grind) rfl (hlen _).symm (g c H1 d)
 ·refine cE (x:=x) h i hi rfl (hlen _).symm (fb h i hi (by rw[hlen]) (e _) λH1 d=>cE (x:=x) d i (by grind) rfl (hlen _).symm (j c H1 d))
end
end Rw
namespace Su
open Go Go.Kx KM Rw Cr
section
variable {H B:PH} {L:List Ob} {p q:Sl} {b b2:Bs}
def xw:Option ((ax×Int×Int)×Int)->S5×Int×Int
 |none=>((0,0,0,0,0),0,2)
 |some (x,k)=>(sup x.1 x.2.1 x.2.2,k,0)
theorem choose_spec {Q:S5->Int->Int->PH->Prop} (F:Bytes H p b) (G:Bytes H q b2) (E:b.length=64) (w:b2.length=64) (D:bP b) (v:bP b2)
 (o:∀H',Ext H H'->Q (xw (cz b b2)).1 (xw (cz b b2)).2.1 (xw (cz b b2)).2.2 H'):sy p q H Q:=by
 refine dZ (.start H) λa1 H1 z I=>hG (F.ext I) E D λM J=>dZ (z.ext J) λr N A S=>fb (vs:=s5 (yb (eJ b))) A 1 rfl rfl rfl λO u=>?_
 refine hG (G.ext u.base) w v λP K=>dZ (u.ext K) λt R C T=>fb (vs:=s5 (yb (eJ b2))) C 1 rfl rfl rfl λi d=>?_
 replace d:aA i [aC H,aJ t (s5 (yb (eJ b2))),aJ r (s5 (yb (eJ b))),aJ a1 _]:=d
 have k1:∀x:S5,x=yb (eJ b)->(xw (cz b b2))=(x,0,0)->aT s5 i r 5 λk=>aV i a1 (s5 k) λe=>aT s5 e a1 5 λm=>Q m 0 0 e:=λx e1 e2=>by
  subst e1
  refine cE d 2 rfl rfl rfl (fb d 3 rfl rfl rfl λj f=>cE (x:=yb (eJ b)) f 3 rfl rfl rfl ?_)
  have:=o j f.base
  grind
 have k2:∀x:S5,x=yb (eJ b2)->(xw (cz b b2))=(x,1,0)->aT s5 i t 5 λk=>aV i a1 (s5 k) λe=>aT s5 e a1 5 λm=>Q m 1 0 e:=λx e1 e2=>by
  subst e1
  refine cE d 1 rfl rfl rfl (fb d 3 rfl rfl rfl λj f=>cE (x:=yb (eJ b2)) f 3 rfl rfl rfl ?_)
  have:=o j f.base
  grind
 cases g:eJ b with
 |none=>
  rw[g] at k1
  refine aE (aF rfl (aF rfl ?_))
  cases h:eJ b2 with
  |none=>
   refine aF rfl (fb (vs:=s5 (0,0,0,0,0)) d 3 rfl rfl rfl λj f=>cE (x:=(0,0,0,0,0)) f 3 rfl rfl rfl ?_)
   have:=o j f.base
   rw[cz,g,h] at this;exact this
  |some y=>exact aW rfl (k2 _ rfl (by rw[cz,g,h];rfl))
 |some x=>
  refine aE (aW rfl (aE ?_))
  cases h:eJ b2 with
  |none=>exact aW rfl (aW rfl (k1 _ rfl (by rw[cz,g,h];rfl)))
  |some y=>
   refine aF rfl (aU (x:=x.2.2) d 2 rfl (by rw[g];rfl) (aU (x:=y.2.2) d 1 rfl (by rw[h];rfl) ?_))
   refine aM (λc=>k1 _ rfl ?_) (λc=>aW rfl (k2 _ rfl ?_))
   ·rw[cz,g,h];simp only;rw[if_pos (by simpa using c)];rfl
   ·rw[cz,g,h];simp only;rw[if_neg (by simpa using c)];rfl
end
end Su
namespace Hd
open Go Go.Kx KM Rw Cr
abbrev S4:=Int×Int×Int×Int
abbrev s4 (x:S4):List Value:=[i64 x.1,i64 x.2.1,i64 x.2.2.1,i64 x.2.2.2]
section
variable {H B:PH} {L:List Ob} {x:S4} {p q:Sl} {b b2:Bs}
theorem bH {x lo hi:Int} {Q:Bool->PH->Prop} (c:Q (bN x lo hi) H):pS x lo hi H Q:=dR (b:=decide (x<=hi)) (λk=>k) c
abbrev may (x:S4):Bool:=rn x.1 x.2.1 x.2.2.1 x.2.2.2
abbrev J6 (x:S4):Bs:=gH x.1 x.2.1 x.2.2.1 x.2.2.2
theorem gE {Q:Bool->PH->Prop} (d:∀H',Ext H H'->Q (may x) H'):Bw x H Q:=by
 refine dZ (.start H) λa H1 c e=>ak (x:=x.1) c rfl (bH ?_)
 refine dR (b:=bN x.2.1 1 2147483647) (λk=>ak (x:=x.2.1) c rfl (bH k)) ?_
 refine dR (b:=bN x.2.2.1 1 2147483647) (λk=>ak (x:=x.2.2.1) c rfl (bH k)) ?_
 refine dR (b:=bN x.2.2.2 0 4294967295) (λk=>ak (x:=x.2.2.2) c rfl (bH k)) ?_
 exact d H1 e
theorem kt (h:may x=true):(0<=x.1/\x.1<=31)/\(1<=x.2.1/\x.2.1<=2147483647)/\(1<=x.2.2.1/\x.2.2.1<=2147483647)/\0<=x.2.2.2/\x.2.2.2<=4294967295:=by
 simp only[may,rn,Bool.and_eq_true,KM.bD] at h
 exact⟨h.1.1.1,h.1.1.2,h.1.2,h.2⟩
theorem fP {Q:Sl->Int->PH->Prop} (hm:may x=true) (v:∀r H',aA H' [aC H,aS u8 r (J6 x)]->Q r 0 H'):rj x H Q:=by
 obtain⟨⟨a1,m⟩,⟨I,b2⟩,⟨c1,c2⟩,d1,d2⟩:=kt hm
 refine dZ (.start H) λa H1 c J=>⟨x,(c.get 1 rfl:aa H1 a _).all rfl,gE λE A=>?_⟩
 rw[hm]
 refine aF rfl (Rw.fO (n:=64) (c.ext A) (by decide) λm s i d=>?_)
 have l1:∀y∈[75,72,x.1],0<=y/\y< 256 ^ 1:=by
  grind
 refine aX (x:=x.1) (d.get 3 rfl:aa i a _) rfl (oY (x:=[]) (n:=64) (l:=[75,72,x.1]) d rfl rfl (by decide) l1 (by simp) (by simp) λC j g f=>?_)
 have r5:aa j a _:=f.get 3 rfl
 have l2:∀y∈[x.2.1,x.2.2.1,x.2.2.2],0<=y/\y< 256 ^ 4:=by
  intro y z
  simp only[List.mem_cons,List.not_mem_nil,or_false] at z
  omega
 refine aX (x:=x.2.1) r5 rfl (aX (x:=x.2.2.1) r5 rfl (aX (x:=x.2.2.2) r5 rfl ?_))
 refine oY (l:=[x.2.1,x.2.2.1,x.2.2.2]) f rfl rfl (by decide) l2 (by simp) (by simp[bO]) λD F h o=>?_
 refine pF o (by simp[bO]) λr G t=>?_
 have e:[]++[75,72,x.1].flatMap (le 1)++[x.2.1,x.2.2.1,x.2.2.2].flatMap (le 4)=75::72::x.1::(le 4 x.2.1++le 4 x.2.2.1++le 4 x.2.2.2):=by
  rw[BG _ l1];simp
 have w:bP (75::72::x.1::(le 4 x.2.1++le 4 x.2.2.1++le 4 x.2.2.2)):=
  dt (by omega) (dt (by omega) (dt (by omega) (cO (cO (fX _ _) (fX _ _)) (fX _ _))))
 refine AF (n:=60) t e (by rfl) (by simp[bO]) w (by decide) λk u=>v r k (only u (g.trans h))
theorem wM {Q:Sl->Int->PH->Prop} (hm:may x=false) (e:∀H',Ext H H'->Q Sl.nil 1 H'):rj x H Q:=by
 refine dZ (.start H) λa H1 d f=>⟨x,(d.get 1 rfl:aa H1 a _).all rfl,gE λc g=>?_⟩
 rw[hm]
 exact aW rfl (e c (f.trans g))
theorem len:(J6 x).length=64:=by rfl
theorem uY (h:may x=true):bP (J6 x):=by
 obtain⟨⟨a1,c⟩,_⟩:=kt h
 exact wL (yj _ (dt (by omega) (dt (by omega) (dt (by omega) (cO (cO (fX _ _) (fX _ _)) (fX _ _))))))
def of:Option S4->S4
 |none=>(0,0,0,0)
 |some x=>x
abbrev raw (b:Bs):S4:=(num b 2 1,num b 3 4,num b 7 4,num b 11 4)
theorem RA {b:Bs} (h:(may (raw b)&&J6 (raw b)==b)=false):headD b=none:=by rw[headD,if_neg (by simpa using h)]
theorem Wk {b:Bs} (h:(may (raw b)&&J6 (raw b)==b)=true):headD b=some (raw b):=by rw[headD,if_pos h]
theorem hG {Q:S4->Int->PH->Prop} (u:Bytes H p b) (X:b.length=64) (g:bP b) (k:∀H',Ext H H'->Q (of (headD b)) (Su.Vg (headD b)) H'):uT p H Q:=by
 refine dZ (.start H) λa H1 y K=>pE y (u.ext K) (by omega) λW s N A=>?_
 refine tH (n:=2) A (by omega) (by omega) λ_ O C=>dK (w:=1) C (by decide) (by omega) (by omega) g λP D=>?_
 refine cU (j:=0) D 3 rfl (by simp) rfl λR E=>dK (w:=4) E (by decide) (by omega) (by omega) g λS F=>?_
 refine cU (j:=1) F 3 rfl (by simp) rfl λT G=>dK (w:=4) G (by decide) (by omega) (by omega) g λU I=>?_
 refine cU (j:=2) I 3 rfl (by simp) rfl λV J=>dK (w:=4) J (by decide) (by omega) (by omega) g λM o=>?_
 refine cU (j:=3) o 3 rfl (by simp) rfl λh e=>cE (x:=raw b) e 3 rfl rfl rfl ?_
 by_cases hm:may (raw b)=true
 ·refine fP hm λr m t=>?_
  have f:=(e:aA h (aC H::_)).made t
  refine aE (aF rfl (pG (f.list (enc:=u8) 1 rfl) (u.ext f.base) (uY hm) g (CH (x:=raw b) (z:=(0,0,0,0)) (Q:=Q) f.aq 3 rfl rfl rfl (λ_=>rfl) (λ_=>rfl) (λc H' d=>?_) (λc H' d=>?_))))
  ·have:=k H' d.base
   rw[RA (by grind)] at this;exact this
  ·have:=k H' d.base
   rw[Wk (by grind)] at this;exact this
 ·have i:may (raw b)=false:=by grind
  refine wM i λm v=>aE (aW rfl (CH (x:=raw b) (z:=(0,0,0,0)) (Q:=Q) ((e:aA h (aC H::_)).ext v) 3 rfl rfl rfl (λ_=>rfl) (λ_=>rfl) (λc H' d=>?_) (λc H' d=>by cases c)))
  have:=k H' d.base
  rw[RA (by rw[i];rfl)] at this;exact this
def fits (b:Bs) (p:Pos):Bool:=match headD b with
 |none=>false
 |some h=>((h.1==p.1&&h.2.2.1==p.2.2.1)&&h.2.2.2==p.2.2.2.1)&&decide (p.2.2.2.2<=h.2.1)
theorem AG {P:Pos} {Q:Bool->PH->Prop} (o:Bytes H p b) (m:b.length=64) (j:bP b) (i:∀H',Ext H H'->Q (fits b P) H'):z8 p P H Q:=by
 refine dZ (.start H) λa1 H1 f r=>hG (o.ext r) m j λu t=>dZ (f.ext t) λe v g w=>fb (vs:=s4 (of (headD b))) g 1 rfl rfl rfl λd c=>?_
 replace c:aA d [aC H,aJ e (s4 (of (headD b))),aJ a1 [i64 P.1,i64 P.2.1,i64 P.2.2.1,i64 P.2.2.2.1,i64 P.2.2.2.2]]:=c
 refine dR (λk=>aU (x:=(of (headD b)).1) c 1 rfl rfl (aU (x:=P.1) c 2 rfl rfl k)) ?_
 refine dR (λk=>aU (x:=(of (headD b)).2.2.1) c 1 rfl rfl (aU (x:=P.2.2.1) c 2 rfl rfl k)) ?_
 refine dR (λk=>aU (x:=(of (headD b)).2.2.2) c 1 rfl rfl (aU (x:=P.2.2.2.1) c 2 rfl rfl k)) ?_
 refine dR (λk=>aU (x:=(of (headD b)).2.1) c 1 rfl rfl (aU (x:=P.2.2.2.2) c 2 rfl rfl k)) ?_
 have q:=i d c.base
 unfold fits at q
 cases h:headD b with
 |none=>rw[h] at q;exact q
 |some x=>rw[h] at q;exact q
end
end Hd
namespace Pa
open Go Go.Kx KM Rw Cr
theorem Wl (n:Int):le 4 (n% 4294967296)=le 4 n:=by
 simp only[le,List.cons.injEq,and_true]
 omega
theorem mask {n:Int} (c: -1<=n) (d:n<=4095):jd .i64 n 4294967295=n% 4294967296:=by
 by_cases h:0<=n
 ·obtain⟨k,rfl⟩:=Int.eq_ofNat_of_zero_le h
  show IntKind.i64.wrap ((BitVec.ofInt 64 (k:Int)&&&BitVec.ofInt 64 4294967295).toNat:Int)=_
  have e2:(BitVec.ofInt 64 4294967295).toNat=2 ^ 32- 1:=rfl
  rw[BitVec.toNat_and,zY k (by omega),e2,Nat.and_two_pow_sub_one_eq_mod,cK (by omega) (by omega)];omega
 ·have:n= -1:=by omega
  subst this;rfl
section
variable {H B:PH} {L:List Ob} {l:List Int} {p q:Sl} {b:Bs}
theorem Wm (h:gx l=true):l.length<=15/\∀x∈l,-1<=x/\x<=4095:=by
 simp only[gx,Bool.and_eq_true,decide_eq_true_eq,List.all_eq_true,KM.bD] at h;exact h
theorem J7 (w:Nat):∀l:List Int,bP (l.flatMap (le w))
 |[]=>tw
 |x::l=>by rw[List.flatMap_cons];exact cO (fX _ _) (J7 w l)
theorem len (h:l.length<=15):(oT l).length=64:=by rw[oT,ko,wF (by rw[xr];omega)]
theorem uY:bP (oT l):=wL (yj _ (J7 4 l))
theorem fP {Q:Sl->Int->PH->Prop} (v:gR H p l) (W:l.length< 2 ^ 40) (z:gx l=true->∀r H',aA H' [aC H,aS u8 r (oT l)]->Q r 0 H') (K:gx l=false->∀H',Ext H H'->Q Sl.nil 1 H'):pR p H Q:=by
 refine aM (λc=>K ?_ H (.refl H)) (λc=>?_)
 ·rw[v.bL] at c;simp at c;simp[gx];omega
 rw[v.bL] at c
 have E:l.length<=15:=by grind
 refine Rw.fO (n:=64) (.start H) (by decide) λD s X h3=>?_
 refine av l.length (λi st R=>st=(i:Int)/\(∀x∈l.take i,-1<=x/\x<=4095)/\∃t n,Ext H t/\n=64- 4*i/\aA R (aC t::aJ D (cells s ((l.take i).flatMap (le 4)).length)::aS u8 s ((l.take i).flatMap (le 4)++List.replicate n 0)::[])) ⟨rfl,by simp,H,64,.refl H,rfl,by grind⟩ ?_
 rintro i st g again hi ⟨rfl,f,t,n,k,rfl,d⟩ G
 have m:gR g p l:=v.ext (k.trans d.base)
 have I:(l.take i).length=i:=by simp;omega
 rw[m.bL]
 refine aM (λc2=>?_) (λc2=>?_)
 ·have J:i<l.length:=by grind
  refine dm m (by omega) (by omega) λx j=>?_
  rw[Int.toNat_natCast] at j
  have u:=List.mem_of_getElem? j
  have bad:¬(-1<=x/\x<=4095)->Q Sl.nil 1 g:=λV=>K (Bool.eq_false_iff.2 λh=>V ((Wm h).2 x u)) g (k.trans d.base)
  have S:(-1<=x/\x<=4095)->bZ g (row [i64 (jd .i64 x 4294967295)] 3) 1 λM A=>cM (some D) 4 M A λ_ C=>again (IntKind.wrap .i64 ((i:Int)+1)) C:=λo=>by
   rw[mask o.1 o.2]
   have ln:((l.take i).flatMap (le 4)).length=4*i:=by rw[xr,I]
   refine oY (w:=4) (l:=[x% 4294967296]) d rfl rfl (by decide) (by grind) (by simp;omega) (by omega) λO Y N F=>?_
   rw[bK (by omega)]
   have e:(l.take i).flatMap (le 4)++[x% 4294967296].flatMap (le 4)=(l.take (i+1)).flatMap (le 4):=by
    rw[oe j,List.flatMap_append];simp[Wl]
   rw[e] at F
   refine G J _ _ ⟨rfl,λy z=>?_,O,_,k.trans N,by simp;omega,F⟩
   rw[oe j] at z
   grind
  refine aE (aM (λc3=>aW rfl (by grind)) (λc3=>aM (by grind) (by grind)))
 ·have:i=l.length:=by grind
  subst this
  rw[List.take_length] at d f
  have ln:(l.flatMap (le 4)).length=4*l.length:=xr 4 l
  refine pF d (by grind) λr Z T=>?_
  refine AF (n:=60) T rfl (by rw[ln]) (by omega) (J7 4 l) (by decide) λP U=>z ?_ r P (only U k)
  simp only[gx,Bool.and_eq_true,decide_eq_true_eq,List.all_eq_true,KM.bD];exact⟨E,f⟩
theorem GA (b:Bs):∀n k,jV b k (n+1)=jV b k n++[CB (num b (k+4*n) 4)]
 | 0,k=>by simp[jV]
 |n+1,k=>by
  rw[jV,GA b n (k+4),jV]
  grind
theorem xx (b:Bs):∀n k,(jV b k n).length=n
 | 0,k=>rfl
 |n+1,k=>by simp[jV,xx b n]
theorem hG {Q:Sl->Int->PH->Prop} (A:Bytes H p b) (V:b.length=64) (u:bP b) (P:∀l,oU b=some l->∀r H',aA H' [aC H,aS i64 r l]->Q r 0 H') (z:oU b=none->∀H',Ext H H'->Q Sl.nil 2 H'):xK p H Q:=by
 refine pE (.start H) A (by omega) λa s H1 K=>?_
 refine av 15 (λi st I=>st.2=(i:Int)/\∃g,Ext H g/\aA I [aC g,aJ a (cells s (4*i)),aS u8 s b,aS i64 st.1 (jV b 0 i)]) ⟨rfl,H,.refl H,K.perm (L':=[aC H,aJ a (cells s 0),aS u8 s b]) (.refl _)|>.Bp⟩ ?_
 rintro i ⟨st,_⟩ G again hi ⟨e,g,j,h⟩ t
 simp only at e h;subst e
 refine aM (λc=>?_) (λc=>?_)
 ·have y:i< 15:=by grind
  refine dK (w:=4) h (by decide) (by omega) (by omega) u λd k=>?_
  have fin:∀v,v=CB (num b (4*i) 4)->bZ d (row [i64 v] 3) 1 λC m=>fh m 3 1 8 [i64 0] st C λD o=>again (D,IntKind.wrap .i64 ((i:Int)+1)) o:=λv N=>by
   refine rY (enc:=i64) (l:=[v]) k rfl rfl λr F S E M f=>?_
   refine pe f 3 rfl (M.ext f.base) (λ_=>rfl) rfl (by rw[xx];simp;omega) λW T U=>?_
   rw[bK (by omega)]
   refine t y _ _ ⟨rfl,F,j.trans E,?_⟩
   have e1:jV b 0 (i+1)=jV b 0 i++[v]:=by rw[GA,Nat.zero_add,←N]
   grind
  refine aE (aM (λc3=>fin _ ?_) (λc3=>fin _ ?_))
  ·have:num b (4*i) 4=4294967295:=by grind
   rw[CB,if_pos this]
  ·have:¬num b (4*i) 4=4294967295:=by grind
   rw[CB,if_neg this]
 ·have:i=15:=by grind
  subst this
  have O:=(h.list (enc:=i64) 3 rfl)
  have qE:∀H',aA H' [aC g,aJ a (cells s (4*15)),aS u8 s b,aS i64 st (jV b 0 15)]->aA H' [aC H,aS i64 st (jV b 0 15)]:=λH' J=>
   (J.vP j).pick [0,3] (by decide) rfl (by simp)
  refine fP O (by rw[xx];decide) (λhm r d k=>?_) (λhm d R=>?_)
  ·have f:=(h:aA G (aC g::_)).made k
   refine aE (aF rfl (pG (f.list (enc:=u8) 1 rfl) (A.ext (j.trans f.base)) uY u ?_))
   refine aM (λc2=>z ?_ d (j.trans f.base)) (λc2=>P _ ?_ st d (qE d f.aq))
   ·rw[oU,if_neg (by rw[hm,Bool.true_and];simpa using c2)]
   ·rw[oU,if_pos (by rw[hm,Bool.true_and];simpa using c2)]
  ·exact aE (aW rfl (aW rfl (z (by rw[oU,if_neg (by rw[hm];simp)]) d (j.trans (h.base.trans R)))))
end
end Pa
end
section
namespace It
open Go Go.Kx KM Rw Cr
abbrev fI (x:eG):List Value:=[i64 x.1,i64 x.2.1,i64 x.2.2.1,i64 x.2.2.2]
theorem bL (x:eG):(fI x).length=4:=rfl
theorem Vh (x:eG):(fI x).all cg=true:=rfl
theorem gk {α:Type} {l:List α} {k:Nat} {x:α} (h:l[k]?=some x):l.take (k+1)=l.take k++[x]:=by rw[List.take_add_one,h];rfl
section
variable {H B:PH} {L:List Ob} {x:eG} {p q:Sl} {l:List eG} {b:Bs}
theorem bH {x lo hi:Int} {Q:Bool->PH->Prop} (a:Q (bN x lo hi) H):nN x lo hi H Q:=dR (b:=decide (x<=hi)) (λk=>k) a
theorem gE {Q:Bool->PH->Prop} (m:∀H',Ext H H'->Q (cB x) H'):vE x H Q:=by
 obtain⟨kd,bl,f,vl⟩:=x
 refine dZ (.start H) λa H1 d o=>ak (x:=bl) d rfl (bH (ak (x:=kd) d rfl (Yg ?_)))
 have fin:∀e,cB (kd,bl,f,vl)=e->Q e H1:=(by grind)
 refine aM (λc=>?_) (λc=>?_)
 ·have hk:kd=1∨kd=5:=by simpa using c
  exact dR (λk=>ak (x:=f) d rfl k) (dR (λk=>ak (x:=vl) d rfl k) (fin _ (by simp only[cB];grind)))
 ·have n1:¬(kd=1∨kd=5):=by simpa using c
  refine Yg (aM (λc2=>?_) (λc2=>?_))
  ·have hk:kd=2∨kd=6:=by grind
   refine Ve (b:=bN f 1 (64-bl)) (λi k=>ak (x:=f) d rfl (ak (x:=bl) d rfl ?_)) (dR (λk=>ak (x:=vl) d rfl k) (fin _ (by simp only[cB];grind)))
   have:=KM.bD.1 i
   rw[cK (by omega) (by omega)]
   exact bH k
  ·have n2:¬(kd=2∨kd=6):=by grind
   refine aM (λc3=>?_) (λc3=>aM (λg=>?_) (λg=>aM (λh=>?_) (λh=>?_)))
   ·have hk:kd=3:=by grind
    exact ak (x:=bl) d rfl (dR (λk=>ak (x:=f) d rfl k) (dR (λk=>ak (x:=vl) d rfl (bH k)) (fin _ (by simp only[cB];grind))))
   ·have n3:¬kd=3:=by grind
    have hk:kd=4:=by grind
    exact dR (λk=>ak (x:=f) d rfl k) (dR (λk=>ak (x:=vl) d rfl (bH k)) (fin _ (by simp only[cB];grind)))
   ·have n3:¬kd=3:=by grind
    have j:¬kd=4:=by grind
    have hk:kd=7:=by grind
    exact ak (x:=bl) d rfl (dR (λk=>ak (x:=f) d rfl k) (dR (λk=>ak (x:=vl) d rfl (bH k)) (fin _ (by simp only[cB];grind))))
   ·have n3:¬kd=3:=by grind
    have j:¬kd=4:=by grind
    have n:¬kd=7:=by grind
    exact fin _ (by simp only[cB];grind)
theorem Ag {Q:Bool->PH->Prop} (g:∀H',Ext H H'->Q (bM x) H'):pT x H Q:=by
 refine dZ (.start H) λa H1 d h=>cQ (x:=x) d rfl rfl (gE λf e=>?_)
 have c:=d.ext e
 refine dR (b:=(x.1==1||x.1==4)||x.1==5) (λk=>ak (x:=x.1) c rfl ?_) (g f (h.trans e))
 exact xq (b:=x.1==4) (λk=>ak (x:=x.1) c rfl k) (xq (b:=x.1==5) (λk=>ak (x:=x.1) c rfl k) k)
theorem range (h:cB x=true):(1<=x.1/\x.1<=7)/\(0<=x.2.1/\x.2.1<=63)/\(0<=x.2.2.1/\x.2.2.1<=64)/\0<=x.2.2.2/\x.2.2.2<=2147483647:=by
 obtain⟨kd,bl,a,vl⟩:=x
 change(1<=kd/\kd<=7)/\(0<=bl/\bl<=63)/\(0<=a/\a<=64)/\0<=vl/\vl<=2147483647
 simp only[cB] at h
 split at h
 ·simp[bN] at h;omega
 ·split at h
  ·simp[bN] at h;omega
  ·split at h
   ·simp[bN] at h;omega
   ·split at h
    ·simp[bN] at h;omega
    ·split at h
     ·simp[bN] at h;omega
     ·cases h
theorem RB (x:eG):(di x).length=7:=by rfl
theorem wO:∀l:List eG,(l.flatMap di).length=7*l.length
 |[]=>rfl
 |x::l=>by rw[List.flatMap_cons,List.length_append,RB,wO l,List.length_cons];omega
theorem RC (h:cB x=true):bP (di x):=by
 have:=range h
 exact dt (by omega) (dt (by omega) (dt (by omega) (fX _ _)))
theorem CI:∀{l:List eG},(∀x∈l,cB x=true)->bP (l.flatMap di)
 |[],_=>tw
 |x::l,h=>by rw[List.flatMap_cons];exact cO (RC (h x (by simp))) (CI λy a=>h y (by simp[a]))
theorem fP {Q:Sl->Int->PH->Prop} (m:fM fI 4 H p l) (U:l.length< 2 ^ 40) (d:(l.length<=6/\∀x∈l,cB x=true)->∀r H',aA H' [aC H,aS u8 r (l.flatMap di)]->Q r 0 H') (J:¬(l.length<=6/\∀x∈l,cB x=true)->∀H',Ext H H'->Q Sl.nil 1 H'):rk p H Q:=by
 refine aM (λc=>J (λh=>?_) H (.refl H)) (λc=>?_)
 ·rw[m.bL] at c;grind
 rw[m.bL] at c
 have v:l.length<=6:=by grind
 rw[m.bL,cK (by omega) (by omega),show(7*(l.length:Int))=((7*l.length:Nat):Int) from rfl]
 refine Rw.fO (n:=7*l.length) (.start H) (by omega) λD s H3 h3=>?_
 refine av l.length (λi st S=>st=(i:Int)/\(∀x∈l.take i,cB x=true)/\∃g n,Ext H g/\n=7*l.length- 7*i/\aA S (aC g::aJ D (cells s ((l.take i).flatMap di).length)::aS u8 s ((l.take i).flatMap di++List.replicate n 0)::[])) ⟨rfl,by simp,H,7*l.length,.refl H,rfl,by grind⟩ ?_
 rintro i st P again hi ⟨rfl,z,g,n,t,rfl,j⟩ F
 have K:fM fI 4 P p l:=m.ext (t.trans j.base)
 have G:(l.take i).length=i:=by simp;omega
 have ln:((l.take i).flatMap di).length=7*i:=by rw[wO,G]
 refine aM (λc2=>?_) (λc2=>?_)
 ·have I:i<l.length:=by grind
  refine Bu K (by omega) (by omega) λa x o V=>⟨x,V,?_⟩
  rw[Int.toNat_natCast] at o
  have W:=List.mem_of_getElem? o
  refine bG j λC H5 T=>cF (vs:=fI x) T rfl rfl λH6 v=>cQ (x:=x) v rfl rfl (gE λA X=>?_)
  have f:=v.ext X
  refine aM (λc3=>J (λh=>?_) A (t.trans f.base)) (λc3=>?_)
  ·grind
  ·have hm:cB x=true:=by grind
   have hr:=range hm
   refine ak (x:=x.1) f rfl (ak (x:=x.2.1) f rfl (ak (x:=x.2.2.1) f rfl ?_))
   have l1:∀y∈[x.1,x.2.1,x.2.2.1],0<=y/\y< 256 ^ 1:=by
    grind
   have k:aA A (aC g::aJ D _::aS u8 s _::aJ C (fI x)::[]):=f.perm (.cons _ ((List.Perm.swap _ _ _).trans (.cons _ (.swap _ _ _))))
   refine oY (w:=1) (l:=[x.1,x.2.1,x.2.2.1]) k rfl rfl (by decide) l1 (by simp;omega) (by omega) λZ H9 M E=>?_
   refine aU (x:=x.2.2.2) E 3 rfl rfl ?_
   refine oY (w:=4) (l:=[x.2.2.2]) E rfl rfl (by decide) (by intro y d;simp at d;subst d;omega) (by simp;omega) (by rw[List.length_append,ln,xr];simp;omega) λO Y N u=>?_
   rw[bK (by omega)]
   have e:(l.take i).flatMap di++[x.1,x.2.1,x.2.2.1].flatMap (le 1)++[x.2.2.2].flatMap (le 4)=(l.take (i+1)).flatMap di:=by
    rw[BG _ l1,gk o,List.flatMap_append];simp[di]
   rw[e] at u
   refine F I _ _ ⟨rfl,λy d=>?_,O,_,t.trans (M.trans N),by simp;omega,u.pick [0,1,2] (by decide) rfl (by simp)⟩
   rw[gk o] at d
   grind
 ·have:i=l.length:=by grind
  subst this
  rw[List.take_length] at j z
  refine pF j (by grind) λr R k=>?_
  rw[Nat.sub_self,List.replicate_zero,List.append_nil] at k
  exact d (by grind) r R (only k t)
theorem EW (b:Bs):∀n k,dY b k (n+1)=dY b k n++[(num b (k+7*n) 1,num b (k+7*n+1) 1,num b (k+7*n+2) 1,num b (k+7*n+3) 4)]
 | 0,k=>by simp[dY]
 |n+1,k=>by
  rw[dY,EW b n (k+7),dY]
  grind
theorem tz (b:Bs):∀n k,(dY b k n).length=n
 | 0,k=>rfl
 |n+1,k=>by simp[dY,tz b n]
theorem RD:∀(l:Bs),bP l->le l.length (val l)=l
 |[],_=>rfl
 |x::l,h=>by
  have d:=h x (by simp)
  have c:=AD l (by grind)
  rw[List.length_cons,le,val]
  rw[show(x+256*val l)% 256=x by omega,show(x+256*val l)/ 256=val l by omega,RD l λy a=>h y (by simp[a])]
theorem RE {b:Bs} (h:bP b) {k w:Nat} (hk:k+w<=b.length):le w (num b k w)=(b.drop k).take w:=by
 have:=RD ((b.drop k).take w) (by grind)
 have a:((b.drop k).take w).length=w:=by simp;omega
 rw[a] at this;exact this
theorem J8 {b:Bs} (h:bP b) {k:Nat} (hk:k+1<=b.length):[num b k 1]=(b.drop k).take 1:=by
 rw[←RE h hk]
 have:=xv h k 1
 simp only[le]
 grind
theorem BI (b:Bs) (k m n:Nat):(b.drop k).take (m+n)=(b.drop k).take m++(b.drop (k+m)).take n:=by
 rw[List.take_add,List.drop_drop]
theorem J9 {b:Bs} (h:bP b):∀n k,k+7*n<=b.length->(dY b k n).flatMap di=(b.drop k).take (7*n)
 | 0,k,_=>by simp[dY]
 |n+1,k,hk=>by
  rw[dY,List.flatMap_cons,J9 h n (k+7) (by omega)]
  have e:di (num b k 1,num b (k+1) 1,num b (k+2) 1,num b (k+3) 4)=(b.drop k).take 7:=by
   have e1:=J8 h (k:=k) (by omega)
   have e2:=J8 h (k:=k+1) (by omega)
   have e3:=J8 h (k:=k+2) (by omega)
   have e4:=RE h (k:=k+3) (w:=4) (by omega)
   show[num b k 1]++([num b (k+1) 1]++([num b (k+2) 1]++le 4 (num b (k+3) 4)))=_
   rw[e1,e2,e3,e4,show(7:Nat)=1+(1+(1+4)) from rfl,BI b k 1,BI b (k+1) 1,BI b (k+1+1) 1]
  rw[e,show 7*(n+1)=7+7*n by omega,BI]
theorem hG {n:Nat} {Q:Sl->Int->PH->Prop} (hp:Bytes H p b) (hl:b.length=7*n) (ap:n<=6) (m:bP b) (hy:(∀x∈dY b 0 n,cB x=true)->∀r H',aA H' [aC H,au fI 4 r (dY b 0 n)]->Q r 0 H') (hn:¬(∀x∈dY b 0 n,cB x=true)->∀H',Ext H H'->Q Sl.nil 2 H'):xM p H Q:=by
 refine pE (.start H) hp (by omega) λa s H1 h1=>?_
 refine av n (λi st Hk=>∃g,Ext H g/\aA Hk [aC g,aJ a (cells s (7*i)),aS u8 s b,au fI 4 st (dY b 0 i)]) ⟨H,.refl H,h1.perm (L':=[aC H,aJ a (cells s 0),aS u8 s b]) (.refl _)|>.Bt⟩ ?_
 rintro i st o again hi ⟨g,v,k⟩ Z
 have ar:(st.len:Int)=i:=by rw[(k.get 3 rfl:bj fI 4 o st _).bL,tz]
 have step:i<n->aj o (row [i64 0,i64 0,i64 0,i64 0] 196) λd I=>
  cA (some a) 1 I λae ax J=>aV J (d.add 0) [i64 ae] λK=>
  cA (some a) 1 K λaf ay M=>aV M (d.add 1) [i64 af] λN=>
  cA (some a) 1 N λag az O=>aV O (d.add 2) [i64 ag] λP=>
  cA (some a) 4 P λah aB R=>aV R (d.add 3) [i64 ah] λy=>
  aT fI y d 4 λf=>bZ y (row [i64 f.1,i64 f.2.1,i64 f.2.2.1,i64 f.2.2.2] 196) 1 λab S=>
  fh S 196 4 32 [i64 0,i64 0,i64 0,i64 0] st ab λac T=>again ac T:=λaa=>by
  refine bG k λd t Y=>?_
  have F:aA t [aC g,aJ a (cells s (7*i)),aS u8 s b,au fI 4 st (dY b 0 i),aJ d _]:=Y.pick [0,2,3,4,1] (by decide) rfl (by simp)
  refine dK (w:=1) F (by decide) (by omega) (by omega) m λH4 u=>cU (j:=0) u 4 rfl (by simp) rfl λH5 h5=>?_
  refine dK (w:=1) h5 (by decide) (by omega) (by omega) m λH6 h6=>cU (j:=1) h6 4 rfl (by simp) rfl λH7 h7=>?_
  refine dK (w:=1) h7 (by decide) (by omega) (by omega) m λH8 h8=>cU (j:=2) h8 4 rfl (by simp) rfl λH9 h9=>?_
  refine dK (w:=4) h9 (by decide) (by omega) (by omega) m λam W=>cU (j:=3) W 4 rfl (by simp) rfl λan C=>?_
  refine cE (x:=((num b (7*i) 1,num b (7*i+1) 1,num b (7*i+1+1) 1,num b (7*i+1+1+1) 4):eG)) C 4 rfl rfl rfl ?_
  refine Ml (enc:=fI) (sz:=4) (x:=((num b (7*i) 1,num b (7*i+1) 1,num b (7*i+1+1) 1,num b (7*i+1+1+1) 4):eG)) C rfl λr G D aw=>?_
  have hr:=(D.get 5 rfl:bj fI 4 G r _)
  refine uP bL (by decide) D 3 rfl (hr.cells bL (by decide)) hr.len Vh rfl (by rw[tz];simp;omega) λr2 ao X=>?_
  refine Z aa _ _ ⟨g,v,?_⟩
  have e1:dY b 0 (i+1)=dY b 0 i++[(num b (7*i) 1,num b (7*i+1) 1,num b (7*i+1+1) 1,num b (7*i+1+1+1) 4)]:=by rw[EW,Nat.zero_add]
  rw[e1,show 7*(i+1)=7*i+1+1+1+4 by omega]
  exact X.pick [0,1,2,3] (by decide) rfl (by simp)
 have done:i=n->rk st o λai ak z=>aO (λ(ad:Bool) (A:PH)=>aL ad (Q Sl.nil 2 A) (Q st 0 A)) λE=>aL (ak != 0) (E true z) (jA ai p z λal U=>E (!al) U):=λe=>by
  subst e
  have hx:=(k.get 3 rfl:bj fI 4 o st _).lX bL
  have V:=J9 m i 0 (by omega)
  rw[List.drop_zero,List.take_of_length_le (by omega)] at V
  refine fP hx (by rw[tz];omega) (λhm r t F=>?_) (λhm t x3=>?_)
  ·have u:=(k:aA o (aC g::_)).made F
   refine aE (aF rfl (pG (u.list (enc:=u8) 1 rfl) (hp.ext (v.trans u.base)) (CI hm.2) m (aF ?_ ?_)))
   ·rw[V];simp
   ·exact hy hm.2 st t ((u.aq.vP v).pick [0,3] (by decide) rfl (by simp))
  ·exact aE (aW rfl (aW rfl (hn (λh=>hm ⟨by rw[tz];omega,h⟩) t (v.trans (k.base.trans x3)))))
 refine aE (aM (λc=>?_) (λc=>?_))
 ·refine vX k (by omega) (by omega) (aM (by grind) (by grind))
 ·have:i=n:=by grind
  exact aF rfl (done this)
end
end It
end
section
namespace Rc
open Go Go.Kx KM Rw Cr It
abbrev R5:=Int×Int×Int×Sl×Sl
abbrev r5 (x:R5):List Value:=[i64 x.1,i64 x.2.1,i64 x.2.2.1,Sl.v x.2.2.2.1,Sl.v x.2.2.2.2]
def wP (H:PH) (s:Sl) (bs:List Bs):Prop:=∃ls:List (Sl×Bs),ls.map (·.2)=bs/\Cr.Rows H s ls
theorem wP.ext {A B:PH} {s:Sl} {bs:List Bs} (h:wP A s bs) (x:Ext A B):wP B s bs:=let⟨ls,e,r⟩:=h;⟨ls,e,r.ext x⟩
theorem wP.bL {H:PH} {s:Sl} {bs:List Bs} (h:wP H s bs):(s.len:Int)=bs.length:=by
 obtain⟨ls,rfl,r⟩:=h
 rw[r.1.bL];simp
structure qC (H:PH) (x:R5) (r:Rec):Prop where
 e1:x.1=r.aN
 e2:x.2.1=r.cZ
 e3:x.2.2.1=r.prev
 it:fM fI 4 H x.2.2.2.1 r.items
 bl:wP H x.2.2.2.2 r.blocks
 Yj:r.items.length< 2 ^ 40/\r.blocks.length< 2 ^ 40
theorem qC.ext {A B:PH} {x:R5} {r:Rec} (h:qC A x r) (e:Ext A B):qC B x r:=⟨h.e1,h.e2,h.e3,h.it.ext e,h.bl.ext e,h.Yj⟩
section
variable {H B:PH} {L:List Ob} {x:R5} {r:Rec} {p q:Sl} {b:Bs}
theorem bH {x lo hi:Int} {Q:Bool->PH->Prop} (a:Q (bN x lo hi) H):kl x lo hi H Q:=dR (b:=decide (x<=hi)) (λk=>k) a
theorem call64 {s:Sl} {K:Value->PH->Prop} (a:K (.bool ((s.len:Int) != 64)) H):xI prog (.func (.func 331) #[] #[]) [Sl.v s] H K:=by
 refine⟨331,#[],#[],rfl,iU func331 rfl rfl,?_⟩
 have h:=Fp (p0:=s) (H:=H) (Q:=λb H'=>H'=H/\b=((s.len:Int) != 64)) ⟨rfl,rfl⟩
 exact fU.mono h (by grind)
theorem T0 {bs:List Bs} {Q:Bool->PH->Prop} (w:wP H p bs) (v:bs.length< 2 ^ 40) (d:Q (!(bs.all λb=>b.length==64)) H):eY p (.func (.func 331) #[] #[]) H Q:=by
 obtain⟨ls,rfl,r⟩:=w
 rw[List.length_map] at v
 unfold eY gz
 refine av ls.length (λk st t=>st=(k:Int)/\t=H/\∀q∈ls.take k,q.2.length=64) ⟨rfl,rfl,by simp⟩ ?_
 rintro k st H1 again hk ⟨rfl,rfl,a⟩ j
 have m:=r.1.bL
 rw[List.length_map] at m
 rw[m]
 refine aM (λc=>?_) (λc=>?_)
 ·have l:k<ls.length:=by simpa using c
  refine dm r.1 (by omega) (by simp;omega) λs n=>call64 ⟨_,rfl,?_⟩
  rw[Int.toNat_natCast,List.getElem?_map] at n
  obtain⟨q,f,rfl⟩:=Option.map_eq_some_iff.1 n
  have g:=List.mem_of_getElem? f
  rw[(r.2 q g).1.bL]
  refine aM (λc1=>?_) (λc1=>?_)
  ·have i:q.2.length≠64:=by simp at c1;omega
   have e:(!((ls.map (·.2)).all λb=>b.length==64))=true:=by
    rw[Bool.not_eq_true',List.all_eq_false]
    exact⟨q.2,List.mem_map.2 ⟨q,g,rfl⟩,by simpa using i⟩
   rw[e] at d
   show Q (decide (0<=(k:Int))) H1
   rw[decide_eq_true (by omega)];exact d
  ·rw[bK (by omega)]
   refine j l _ _ ⟨rfl,rfl,λy o=>?_⟩
   rw[gk f] at o
   rcases List.mem_append.1 o with h|h
   ·exact a y h
   ·simp at h;subst h;simp at c1;omega
 ·have:k=ls.length:=by simp at c;omega
  subst this
  rw[List.take_length] at a
  have e:(!((ls.map (·.2)).all λb=>b.length==64))=false:=by
   rw[Bool.not_eq_false',List.all_eq_true]
   intro b u
   obtain⟨q,f,rfl⟩:=List.mem_map.1 u
   simpa using a q f
  rw[e] at d
  exact d
theorem gE {Q:Bool->PH->Prop} (d:qC H x r) (v:∀H',Ext H H'->Q (dH r) H'):yU x H Q:=by
 refine dZ (.start H) λa H1 f W=>ak (x:=x.1) f rfl (bH ?_)
 refine xq (b:= !(bN x.2.1 1 2147483647)) (λk=>ak (x:=x.2.1) f rfl (bH k)) ?_
 refine xq (b:= !(bN x.2.2.1 0 4294967295)) (λk=>ak (x:=x.2.2.1) f rfl (bH k)) ?_
 refine xq (b:= !(bN r.items.length 1 6)) (λk=>ak (x:=x.2.2.2.1) f rfl (bH (by rw[d.it.bL];exact k))) ?_
 have m:dH r=(((bN x.1 1 2147483647&&bN x.2.1 1 2147483647&&bN x.2.2.1 0 4294967295&&bN r.items.length 1 6)&&r.items.all cB)&&(r.blocks.length==r.items.countP bM&&r.blocks.all λb=>b.length==64)):=by
  rw[dH,d.e1,d.e2,d.e3];grind
 refine aM (λc=>?_) (λc=>?_)
 ·grind
 ·have G:(bN x.1 1 2147483647&&bN x.2.1 1 2147483647&&bN x.2.2.1 0 4294967295&&bN r.items.length 1 6)=true:=by
   grind
  rw[G,Bool.true_and] at m
  refine ak (x:=x.2.2.2.1) f rfl ?_
  have t:=d.Yj
  refine av r.items.length (λi st F=>st=((((r.items.take i).countP bM:Nat):Int),(i:Int))/\(∀y∈r.items.take i,cB y=true)/\aA F [aC H,aJ a (r5 x)]) (by grind) ?_
  rintro i st C again hi ⟨rfl,s,e⟩ w
  have j:=d.it.ext e.base
  rw[j.bL]
  refine aM (λc2=>aE ?_) (λc2=>?_)
  ·have A:i<r.items.length:=by grind
   refine Bu j (by omega) (by omega) λV y g J=>⟨y,J,?_⟩
   rw[Int.toNat_natCast] at g
   have K:=List.mem_of_getElem? g
   refine bG e λR T I=>cF (vs:=fI y) I rfl rfl λU u=>cQ (x:=y) u rfl rfl (It.gE λD O=>?_)
   have o:=u.ext O
   refine aM (λc3=>?_) (λc3=>?_)
   ·have q:=v D o.base
    grind
   ·have hm:cB y=true:=by grind
    refine cQ (x:=y) o rfl rfl (Ag λE P=>?_)
    have S:(r.items.take i).countP bM<=i:=Nat.le_trans List.countP_le_length (by simp;omega)
    have fin:∀n:Nat,n=(r.items.take (i+1)).countP bM->again ((n:Int),IntKind.wrap .i64 ((i:Int)+1)) E:=λn M=>by
     subst M
     rw[bK (by omega)]
     refine w A _ _ ⟨rfl,λz N=>?_,(o.ext P).aq⟩
     rw[gk g] at N
     grind
    refine aM (λl=>?_) (λl=>?_)
    ·show again (IntKind.wrap .i64 (((List.countP bM (List.take i r.items):Nat):Int)+1),_) _
     rw[bK (by omega)]
     refine fin _ ?_
     rw[gk g,List.countP_append];simp[l]
    ·refine fin _ ?_
     rw[gk g,List.countP_append];simp[l]
  ·have:i=r.items.length:=by grind
   subst this
   rw[List.take_length] at s ⊢
   have e1:r.items.all cB=true:=(by grind)
   rw[e1,Bool.true_and] at m
   have h:=d.bl.ext e.base
   refine ak (x:=x.2.2.2.2) e rfl ?_
   have q:=v C e.base
   rw[m] at q
   refine dR (b:=r.blocks.all λb=>b.length==64) (λk=>ak (x:=x.2.2.2.2) e rfl (T0 h t.2 (by grind))) ?_
   rw[h.bL]
   have e2:((r.blocks.length:Int)==((r.items.countP bM:Nat):Int))=(r.blocks.length==r.items.countP bM):=by
    grind
   grind
end
end Rc
end
section
namespace Rc
open Go Go.Kx KM Rw Cr It
section
variable {H B:PH} {L:List Ob} {x:R5} {r:Rec} {p q:Sl} {b:Bs}
theorem RF {n:Nat} {Q:Sl->PH->Prop} (l:n<=2 ^ 30) (e:∀r H',aA H' [aC H,aS u8 r []]->Q r H'):jO Sl.nil n H Q:=by
 have i:IntKind.wrap .i64 (((Sl.nil.cap:Nat):Int)-((Sl.nil.len:Nat):Int))=0:=rfl
 have e1:IntKind.wrap .i64 ((n:Int)- 0)=n:=by rw[cK (by omega) (by omega)];omega
 unfold jO
 rw[i,e1]
 refine aE (aF (by simp) (aE (aM (λc=>?_) (λc=>?_))))
 ·have k:0<n:=by simpa using c
  refine⟨Sl.nil,⟨by decide,by decide,by decide,by decide,rfl⟩,by omega,by simp;omega,by decide,by simp;omega,[],rfl,λb h j f=>?_⟩
  simp only[Int.toNat_natCast,Nat.zero_add] at f ⊢
  refine⟨_,⟨Int.le_refl _,Int.le_refl _,by simp,f,rfl⟩,e _ _ ((aA.start H).new (O':=aS u8 _ []) (Ext.bQ j) (.inr ⟨b,cN n [.int .u8 0]++cN (h-n) [.int .u8 0],5,?_,?_⟩) (λc g=>?_))⟩
  ·simp only[Sl.cut,qG,List.length_append,List.length_nil,Nat.zero_add]
   rw[if_neg (by simp;omega)]
   simp[fV,qG];omega
  ·simp
  ·obtain⟨a,d,rfl⟩:=g
   simp only[Sl.cut] at d
   rw[if_neg (by simp;omega)] at d
   simp[fV] at d
   grind
 ·exact e Sl.nil H (aA.start H).Bp
theorem L6 {bs:List Bs} {Q:Sl->PH->Prop} (E:wP H p bs) (D:bs.length< 2 ^ 30) (C:bs.flatten.length<=2 ^ 30) (A:∀r H',aA H' [aC H,aS u8 r bs.flatten]->Q r H'):kE p H Q:=by
 obtain⟨ls,rfl,j⟩:=E
 rw[List.length_map] at D
 have hlen:=j.1.bL
 rw[List.length_map] at hlen
 have d:∀k,((ls.take k).map (·.2)).flatten.length<=2 ^ 30:=λk=>by
  refine Nat.le_trans ?_ C
  have:ls.map (·.2)=(ls.take k).map (·.2)++(ls.drop k).map (·.2):=by rw[←List.map_append,List.take_append_drop]
  rw[this,List.flatten_append,List.length_append];omega
 have a:∀{k:Nat} {q:Sl×Bs},ls[k]?=some q->((ls.take (k+1)).map (·.2)).flatten=((ls.take k).map (·.2)).flatten++q.2:=λ{k q} h=>by rw[gk h];simp
 refine av ls.length (λk st m=>st=((((ls.take k).map (·.2)).flatten.length:Int),(k:Int))/\m=H) ⟨by simp,rfl⟩ ?_
 rintro k st H1 again hk ⟨rfl,rfl⟩ v
 rw[hlen]
 refine aM (λc=>aE ?_) (λc=>?_)
 ·have i:k<ls.length:=by simpa using c
  refine dm j.1 (by omega) (by simp;omega) λs l=>?_
  rw[Int.toNat_natCast,List.getElem?_map] at l
  obtain⟨q,f,rfl⟩:=Option.map_eq_some_iff.1 l
  have u:=d k
  have n:=d (k+1)
  rw[a f,List.length_append] at n
  have e:=(j.2 q (List.mem_of_getElem? f)).1.bL
  dsimp only
  rw[e,cK (by omega) (by omega)]
  refine aF (by simp;omega) ?_
  rw[bK (by omega)]
  exact v i _ _ ⟨by rw[a f,List.length_append];push_cast;rfl,rfl⟩
 ·have:k=ls.length:=by simp at c;omega
  subst this
  have u:=d ls.length
  refine RF u λr0 G n=>?_
  refine av ls.length (λk st m=>st.2=(k:Int)/\aA m [aC H1,aS u8 st.1 ((ls.take k).map (·.2)).flatten]) ⟨rfl,by simpa using n⟩ ?_
  rintro k ⟨st,_⟩ w t F ⟨e,g⟩ o
  simp only at e g;subst e
  refine aM (λc2=>?_) (λc2=>?_)
  ·have i:k<ls.length:=by simpa using c2
   refine dm (j.1.ext g.base) (by omega) (by simp;omega) λs l=>?_
   rw[Int.toNat_natCast,List.getElem?_map] at l
   obtain⟨q,f,rfl⟩:=Option.map_eq_some_iff.1 l
   have y:=d (k+1)
   rw[a f,List.length_append] at y
   refine pe g 1 rfl ((j.2 q (List.mem_of_getElem? f)).1.ext g.base) NQ rfl (by omega) λr I z=>?_
   rw[bK (by omega)]
   exact o i _ _ ⟨rfl,by rw[a f];exact z⟩
  ·have:k=ls.length:=by simp at c2;omega
   subst this
   rw[List.take_length] at g
   exact A st w g
theorem Yk (ls:List (Sl×Bs)):cat ls=(ls.map (·.2)).flatten:=rfl
theorem NT {s y:Sl} {x0:Bs} {bs:List Bs} {e m e3:Nat} {zs:List Value} {k:Addr} {v:Value} {K:Sl->PH->Prop} (h:aA H (aC B::L)) (A:cellAt H k=some v) (C:Bytes B s x0) (n:bP x0) (G:x0.length< 2 ^ 30) (D:wP B y bs) (z:bs.length< 2 ^ 20) (E:zs.length=1) (hm:m<=64)
 (t:∀r a H',Ext B a->wP a r (x0::bs)->aA H' (aC a::L)->Ext H H'->K r H'):bZ H (row [Sl.v s] e) 1 λr H1=>ay H1 k v (fh H1 e3 1 m zs r y K):=by
 obtain⟨ls,rfl,g⟩:=D
 rw[List.length_map] at z
 refine NO (enc:=Sl.v) (l:=[s]) (.start H) rfl rfl λr1 H1 c F=>?_
 have u:(4*([s].length+(ls.map (·.1)).length)+4096)*m<=2 ^ 48:=by
  have c:(4*([s].length+(ls.map (·.1)).length)+4096)<=2 ^ 23:=by simp;omega
  exact Nat.le_trans (Nat.mul_le_mul c hm) (by decide)
 refine⟨F.cell A,pe c 1 rfl ((g.1.ext h.base).ext c.base) (λ_=>rfl) E u λr j d=>?_⟩
 replace d:aA j [aC H,aS Sl.v r ([s]++ls.map (·.1))]:=d
 refine iW (h.made d) λa i w o=>t r a j i ⟨(s,x0)::ls,rfl,w,λq f=>?_⟩ o d.base
 rcases List.mem_cons.1 f with rfl|f
 ·exact⟨C.ext i,n,by simp only;omega⟩
 ·exact⟨(g.2 q f).1.ext i,(g.2 q f).2⟩
theorem za (h:dH r=true):(sK r).length=60/\(75::82::(le 4 r.aN++le 4 r.cZ++le 4 r.prev++[(r.items.length:Int),(r.blocks.length:Int)]++r.items.flatMap di)).length<=60:=by
 have a:r.items.length<=6:=by
  simp only[dH,Bool.and_eq_true,KM.bD] at h;omega
 have:(75::82::(le 4 r.aN++le 4 r.cZ++le 4 r.prev++[(r.items.length:Int),(r.blocks.length:Int)]++r.items.flatMap di)).length<=60:=by
  simp only[List.length_cons,List.length_append,bO,wO,List.length_nil];omega
 exact⟨wF this,this⟩
structure xQ (r:Rec):Prop where
 m:1<=r.aN/\r.aN<=2147483647
 l:1<=r.cZ/\r.cZ<=2147483647
 p:0<=r.prev/\r.prev<=4294967295
 n:1<=r.items.length/\r.items.length<=6
 it:∀x∈r.items,cB x=true
 nb:r.blocks.length=r.items.countP bM
 xy:∀b∈r.blocks,b.length=64
theorem parts (h:dH r=true):xQ r:=by
 simp only[dH,Bool.and_eq_true,KM.bD,List.all_eq_true,beq_iff_eq] at h
 obtain⟨⟨⟨⟨⟨⟨a,b⟩,c⟩,d⟩,e⟩,f⟩,g⟩:=h
 exact⟨a,b,c,by omega,e,f,g⟩
theorem RG:∀{l:List Bs},(∀b∈l,b.length=64)->l.flatten.length=64*l.length
 |[],_=>rfl
 |x::l,h=>by rw[List.flatten_cons,List.length_append,h x (by simp),RG λy a=>h y (by simp[a]),List.length_cons];omega
theorem E2 (h:dH r=true):bP (sK r):=by
 have P:=parts h
 have:=P.n
 have nb:r.blocks.length<=6:=by rw[P.nb];grind
 exact yj _ (dt (by omega) (dt (by omega) (cO (cO (cO (cO (fX _ _) (fX _ _)) (fX _ _)) (by grind)) (CI P.it))))
theorem CJ (h:dH r=true) (a:∀b∈r.blocks,bP b):bP (uI r):=by
 refine Ty λb hm=>?_
 rcases List.mem_cons.1 hm with rfl|hm
 ·exact cO (E2 h) (fX _ _)
 grind
theorem E3 (h:dH r=true):(uI r).length=64*(1+r.blocks.length):=by
 have P:=parts h
 rw[uI,cH,List.flatten_cons,List.length_append,RG P.xy,List.length_append,(za h).1,bO];omega
theorem wM {Q:Sl->Int->Int->PH->Prop} (g:qC H x r) (hm:dH r=false) (f:∀H',Ext H H'->Q Sl.nil 0 1 H'):ob x H Q:=by
 refine dZ (.start H) λa H1 e c=>cQ (x:=x) e rfl rfl (gE (g.ext c) λd h=>?_)
 rw[hm]
 exact aW rfl (f d (c.trans h))
theorem fP {Q:Sl->Int->Int->PH->Prop} (c:qC H x r) (hm:dH r=true) (hQ:∀q H',aA H' [aC H,aS u8 q (uI r)]->Q q (cX r) 0 H'):ob x H Q:=by
 have P:=parts hm
 have au:=P.n
 have nb:r.blocks.length<=6:=by rw[P.nb];grind
 refine dZ (.start H) λa H1 h1 x1=>cQ (x:=x) h1 rfl rfl (gE (c.ext x1) λH2 x2=>?_)
 rw[hm]
 have h2:=h1.ext x2
 refine aF rfl (ak (x:=x.2.2.2.1) h2 rfl (It.fP (c.ext h2.base).it (by omega) (λ_ it H3 ap=>?_) (λhn=>absurd ⟨au.2,P.it⟩ hn)))
 refine iW (h2.made ap) λB3 W ar h3=>?_
 refine Rw.fO (n:=64) h3 (by decide) λa2 s H4 h4=>?_
 have l0:∀y∈[(75:Int),82],0<=y/\y< 256 ^ 1:=by
  simp
 refine oY (x:=[]) (n:=64) (l:=[75,82]) h4 rfl rfl (by decide) l0 (by simp) (by simp) λB5 H5 Y F=>?_
 refine aU (x:=x.1) F 3 rfl rfl (aU (x:=x.2.1) F 3 rfl rfl (aU (x:=x.2.2.1) F 3 rfl rfl ?_))
 have l1:∀y∈[x.1,x.2.1,x.2.2.1],0<=y/\y< 256 ^ 4:=by
  intro y d
  have:=P.m;have:=P.l;have:=P.p
  simp only[List.mem_cons,List.not_mem_nil,or_false] at d
  rcases d with rfl|rfl|rfl
  ·rw[c.e1];omega
  ·rw[c.e2];omega
  ·rw[c.e3];omega
 refine oY (l:=[x.1,x.2.1,x.2.2.1]) F rfl rfl (by decide) l1 (by simp) (by simp[bO]) λB6 H6 Z G=>?_
 have aI:qC H6 x r:=c.ext (W.trans (Y.trans (Z.trans G.base)))
 refine aU (x:=x.2.2.2.1) G 3 rfl rfl (aU (x:=x.2.2.2.2) G 3 rfl rfl ?_)
 have l2:∀y∈[(x.2.2.2.1.len:Int),(x.2.2.2.2.len:Int)],0<=y/\y< 256 ^ 1:=by
  intro y d
  simp only[List.mem_cons,List.not_mem_nil,or_false] at d
  rcases d with rfl|rfl
  ·rw[c.it.bL];omega
  ·rw[c.bl.bL];omega
 refine oY (l:=[(x.2.2.2.1.len:Int),(x.2.2.2.2.len:Int)]) G rfl rfl (by decide) l2 (by simp) (by simp[bO]) λB7 H7 av h7=>?_
 have E:Ext B3 B7:=Y.trans (Z.trans av)
 have u:Bytes H7 it (r.items.flatMap di):=ar.ext (E.trans h7.base)
 have t:=wO r.items
 refine Hl h7 u (by rw[t];simp;omega) (by simp[bO]) λH8 I=>?_
 have eX:[]++[(75:Int),82].flatMap (le 1)++[x.1,x.2.1,x.2.2.1].flatMap (le 4)++[(x.2.2.2.1.len:Int),(x.2.2.2.2.len:Int)].flatMap (le 1)++r.items.flatMap di=75::82::(le 4 r.aN++le 4 r.cZ++le 4 r.prev++[(r.items.length:Int),(r.blocks.length:Int)]++r.items.flatMap di):=by
  rw[BG _ l0,BG _ l2,c.e1,c.e2,c.e3,c.it.bL,c.bl.bL];simp
 rw[eX] at I
 have V:=(za hm).2
 have ad:(it.len:Int)=7*r.items.length:=by rw[u.bL,t];omega
 have O:(75::82::(le 4 r.aN++le 4 r.cZ++le 4 r.prev++[(r.items.length:Int),(r.blocks.length:Int)]++r.items.flatMap di)).length=16+7*r.items.length:=by simp only[List.length_cons,List.length_append,bO,wO,List.length_nil];omega
 have ez:64- 1*[(75:Int),82].length- 4*[x.1,x.2.1,x.2.2.1].length- 1*[(x.2.2.2.1.len:Int),(x.2.2.2.2.len:Int)].length-(r.items.flatMap di).length=60+4-(75::82::(le 4 r.aN++le 4 r.cZ++le 4 r.prev++[(r.items.length:Int),(r.blocks.length:Int)]++r.items.flatMap di)).length:=by
  rw[O,t];simp;omega
 rw[ez,NS 60 _ V] at I
 have o:(pad 60 (75::82::(le 4 r.aN++le 4 r.cZ++le 4 r.prev++[(r.items.length:Int),(r.blocks.length:Int)]++r.items.flatMap di))).length=60:=wF V
 rw[O] at I
 rw[ad,cK (by omega) (by omega),show(44- 7*(r.items.length:Int))=((44- 7*r.items.length:Nat):Int) by omega]
 refine tH I (by grind) (by grind) λ_ H9 k=>?_
 rw[show 16+7*r.items.length+(44- 7*r.items.length)=(pad 60 (75::82::(le 4 r.aN++le 4 r.cZ++le 4 r.prev++[(r.items.length:Int),(r.blocks.length:Int)]++r.items.flatMap di))).length by rw[o];omega] at k
 replace k:aA H9 (aC B7::aJ a2 (cells s (sK r).length)::aS u8 s (sK r++List.replicate 4 0)::[aJ a (r5 x)]):=k
 have e:(sK r).length=60:=o
 refine aU (x:=x.2.2.2.2) k 3 rfl rfl ?_
 refine pF k (by grind) λy M ab=>iW ab λK af d i=>?_
 refine dE (i.get 3 rfl:aa M a _) rfl ?_
 have aK:Bytes M y (sK r++List.replicate 4 0):=d.ext i.base
 refine ni d (by decide) (by decide) (by grind) λaw ax _=>?_
 have ae:Bytes K aw (sK r):=by
  grind
 have C:Ext H K:=W.trans (E.trans af)
 have cell:∀H' (B':PH) X,aA H' (aC B'::X::aS u8 s (sK r++List.replicate 4 0)::[aJ a (r5 x)])->cellAt H' (a.add 4)=some (Sl.v x.2.2.2.2):=λH' B' X h'=>(h'.get 3 rfl:aa H' a _).cell rfl
 refine NT i (by grind) ae (E2 hm) (by omega) (c.bl.ext C) (by omega) rfl (by decide) λf ay aD ag hf S aL=>?_
 obtain⟨fl,R,aq⟩:=hf
 refine Rw.CF (ls:=fl) (aq.ext S.base) (by have:=congrArg List.length R;simp at this;omega) ?_
 have ec:mz (cat fl)=cX r:=by rw[Yk,R,List.flatten_cons];rfl
 rw[ec]
 have aH:=AA (sK r++r.blocks.flatten)
 refine oY (w:=4) (l:=[cX r]) S rfl rfl (by decide) (by intro z J;simp at J;subst J;show 0<=mz _/\mz _<_;omega) (by simp) (by rw[e];decide) λaz aE ah j=>?_
 refine aU (x:=x.2.2.2.2) j 3 rfl rfl ?_
 have an:sK r++[cX r].flatMap (le 4)++List.replicate (4- 4*[cX r].length) 0=sK r++le 4 (cX r):=by simp
 rw[an] at j
 have A:(sK r++le 4 (cX r)).length=64:=by rw[List.length_append,e,bO]
 refine pF j (by rw[A];decide) λz N ac=>iW ac λal ai J T=>?_
 have h:cellAt N (a.add 4)=some (Sl.v x.2.2.2.2):=(T.get 3 rfl:aa N a _).cell rfl
 have D:Ext H al:=C.trans (ag.trans (ah.trans ai))
 refine⟨h,NT T h J (cO (E2 hm) (fX _ _)) (by rw[A];decide) (c.bl.ext D) (by omega) rfl (by decide) λg aB aG aj hg U aM=>?_⟩
 refine L6 (bs:=cH r) (hg.ext U.base) (by rw[cH,List.length_cons];omega) (by have:=E3 hm;rw[uI] at this;rw[this];omega) λq am ao=>hQ q am ?_
 exact only (U.made ao) (D.trans aj)
end
end Rc
end
section
namespace Rc
open Go Go.Kx KM Rw Cr It
def tI (b:Bs):Bool:=decide (num b 0 1=75/\num b 1 1=82/\1<=num b 14 1/\num b 14 1<=6/\num b 15 1<=num b 14 1)
theorem GB (b:Bs):dV b=if tI b then 1+num b 15 1 else 0:=by simp only[dV,tI,decide_eq_true_eq]
section
variable {H B:PH} {L:List Ob} {x:R5} {r:Rec} {p q:Sl} {b:Bs} {a:Addr} {s:Sl}
theorem kr (c:bP b) (h:2<=b.length):((strOf ((b.drop 0).take 2)).toList==(⟨#[75,82]⟩:ByteArray).toList)=decide (num b 0 1=75/\num b 1 1=82):=by
 have e1:(⟨#[75,82]⟩:ByteArray)=strOf [75,82]:=rfl
 have e2:(b.drop 0).take 2=[num b 0 1,num b 1 1]:=by
  rw[show(2:Nat)=1+1 from rfl,BI b 0 1,←J8 c (by omega),←J8 c (by omega)];rfl
 rw[e1,Bool.eq_iff_iff,beq_iff_eq,decide_eq_true_eq,J4 (wu (vG c 0) 2) (by intro y d;simp at d;rcases d with rfl|rfl<;>omega),e2]
 simp
theorem DQ {Q:Int->Int->Bool->PH->Prop} (h:aA H (aC B::aJ a (cells s 0)::aS u8 s b::L)) (z:16<=b.length) (c:b.length<=2 ^ 30) (d:bP b)
 (o:∀H',aA H' (aC B::aJ a (cells s 16)::aS u8 s b::L)->Q (num b 14 1) (num b 15 1) (tI b) H'):qO (some a) H Q:=by
 refine kq (n:=2) h (by omega) c λy H1 f=>?_
 have j:aA H1 (aC B::aJ a (cells s 2)::aS u8 s b::aS u8 y ((b.drop 0).take 2)::L):=f
 refine tH (n:=12) j (by omega) c λ_ u l=>dK (w:=1) l (by decide) (by omega) c d λv m=>dK (w:=1) m (by decide) (by omega) c d λi g=>?_
 have t:=g.list (enc:=u8) 3 rfl
 refine dR (b:=decide (num b 0 1=75/\num b 1 1=82)) (λk=>⟨_,⟨_,t.cells,rfl⟩,?_⟩) ?_
 ·dsimp only
  rw[kr d (by omega)];exact k
 refine dR (b:=bN (num b 14 1) 1 6) (λk=>bH k) (dR (b:=decide (num b 15 1<=num b 14 1)) (λk=>k) ?_)
 have e:tI b=(((true&&decide (num b 0 1=75/\num b 1 1=82))&&bN (num b 14 1) 1 6)&&decide (num b 15 1<=num b 14 1)):=by
  simp only[tI,KM.bN,Bool.true_and]
  grind
 have q:=o i ((g.perm (L':=aC B::aS u8 y ((b.drop 0).take 2)::aJ a (cells s 16)::aS u8 s b::L) (.cons _ ((List.Perm.cons _ (.swap _ _ _)).trans (.swap _ _ _)))).aq)
 grind
theorem RH {Q:Int->PH->Prop} (e:Bytes H p b) (j:b.length=64) (d:bP b) (i:∀H',Ext H H'->Q (dV b) H'):xL p H Q:=by
 refine pE (.start H) e (by omega) λa s H1 g=>DQ g (by omega) (by omega) d λf h=>?_
 have q:=i f h.base
 rw[GB] at q
 have k:=xv d 15 1
 refine aE (aM (λc=>aW rfl ?_) (λc=>?_))
 ·grind
 ·rw[if_pos (by simpa using c)] at q
  refine aF (by rw[e.bL,j];rfl) ?_
  rw[cK (by omega) (by omega)];exact q
theorem RI {α:Type} {enc:α->Value} {s:Sl} {l:List α} {lo hi:Nat} (h:cL enc H s l) (n:lo<hi) (o:hi<=l.length):cL enc H (s.G5 1 lo hi hi) ((l.drop lo).take (hi-lo)):=by
 have v:=h.1
 have u:=h.2.1
 refine⟨by simp only[Sl.G5,List.length_take,List.length_drop];omega,by simp only[Sl.G5];omega,λi x c=>?_⟩
 have f:=(List.getElem?_eq_some_iff.1 c).1
 simp only[List.length_take,List.length_drop] at f
 rw[List.getElem?_take_of_lt (by omega),List.getElem?_drop] at c
 obtain⟨a,t,d,g⟩:=h.2.2 (lo+i) x c
 refine⟨a.add lo,?_,vC a lo d,?_⟩
 ·simp only[Sl.G5]
  grind
 ·have e:(a.add lo).add i=a.add (lo+i):=by
   obtain⟨k,m,j⟩:=a
   simp only at d;subst d
   rw[fV,fV,fV,Nat.add_assoc]
  grind
theorem CK {γ:Type} {c0 c1:Addr} {Y:List Value->γ->PH->(Nat->γ->PH->Prop)->Prop} {g0:γ} {Q:Nat->γ->PH->Prop} {x:Sl} {b:Bs} (n:Nat) (I:Nat->γ->PH->Prop) (J:b.length=64*n) (M:n<=2 ^ 20)
 (o:∀k g H,I k g H->cellAt H c0=some (Sl.v x)/\cellAt H c1=some (i64 64)/\Bytes H x b) (F:I 0 g0 H)
 (step:∀k g H K y,k<n->I k g H->(∀H',Bytes H' x b->Bytes H' y ((b.drop (64*k)).take 64))->(∀d H',I (k+1) d H'->K 0 d H')->(∀j d H',j≠0->Q j d H'->K j d H')->Y [Sl.v y] g H K)
 (fin:∀g H,I n g H->Q 0 g H):lL c0 c1 Y g0 H Q:=by
 refine av n (λk st w=>∃g,st=(((64*k:Nat):Int),(0,g))/\I k g w) (by grind) ?_
 rintro k st H1 again hk ⟨g,rfl,hi⟩ D
 obtain⟨i,e1,e⟩:=o _ _ _ hi
 have E:=e.bL
 refine⟨x,i,?_⟩
 dsimp only
 refine aM (λc=>?_) (λc=>?_)
 ·have u:k<n:=by grind
  refine⟨64,e1,x,i,?_⟩
  refine ni e (by omega) (by omega) (by omega) λf l _=>⟨x,i,?_⟩
  have C:(f.len:Int)=b.length- 64*k:=by rw[l.bL];simp;omega
  have em:(if(f.len:Int)< 64 then(f.len:Int) else 64)=64:=by omega
  rw[em,cK (by omega) (by omega)]
  refine⟨_,⟨by omega,by omega,by omega,by have:=e.1;have:=e.2.1;omega,e.2.1,rfl⟩,rfl,?_⟩
  refine step k g H1 _ _ u hi (λH' h=>?_) (λd H' t=>aF rfl ?_) (λj d H' G z=>aW (by grind) z)
  ·have:=RI (lo:=64*k) (hi:=64*k+64) h (by omega) (by omega)
   grind
  ·obtain⟨A,m,h⟩:=o _ _ _ t
   refine⟨64,m,?_⟩
   dsimp only
   rw[cK (by omega) (by omega),show((64*k:Nat):Int)+64=((64*(k+1):Nat):Int) by omega]
   grind
 grind
end
end Rc
end
section
namespace Rc
open Go Go.Kx KM Rw Cr It
theorem xR:∀(n:Nat) (b:Bs),chunks b (n+1)=chunks b n++[(b.drop (64*n)).take 64]
 | 0,b=>by simp[chunks]
 |n+1,b=>by
  rw[chunks,xR n (b.drop 64),chunks]
  simp only[List.cons_append,List.drop_drop]
  grind
theorem kW:∀(n:Nat) (b:Bs),(chunks b n).length=n
 | 0,b=>rfl
 |n+1,b=>by rw[chunks,List.length_cons,kW n]
theorem EB (b:Bs) (i m k w:Nat) (h:k+w<=m):num ((b.drop i).take m) k w=num b (i+k) w:=by
 rw[num,num,List.drop_take,List.drop_drop,List.take_take,Nat.min_eq_left (by omega)]
theorem GC (b:Bs) (i m:Nat):∀n k,k+7*n<=m->dY ((b.drop i).take m) k n=dY b (i+k) n
 | 0,_,_=>rfl
 |n+1,k,h=>by
  rw[dY,dY,EB b i m k 1 (by omega),EB b i m (k+1) 1 (by omega),EB b i m (k+2) 1 (by omega),EB b i m (k+3) 4 (by omega),GC b i m n (k+7) (by omega)]
  rfl
theorem aa.one {H:PH} {a:Addr} {v:Value} (h:aa H a [v]):cellAt H a=some v:=by
 have c:cellAt H (a.add 0)=some v:=h.cell rfl
 rwa[add_zero'] at c
section
variable {H B:PH} {L:List Ob} {x:R5} {r:Rec} {p q:Sl} {b:Bs} {a:Addr} {s:Sl}
theorem HA {K:Value->PH->Prop} (h:aA H (aC B::L)) (k:∀c0 c1 c H',Ext B c->aa c c0 [Sl.v p]->aa c c1 [i64 64]->aA H' (aC c::L)->Ext H H'->K (.func (.func 292) #[] #[.pointer (some c0),.pointer (some c1)]) H'):gT p 64 H K:=by
 refine dZ h λc0 H1 f l=>Fz f λn g r0 f=>dZ f λc1 j d m=>Fz d λi e r1 d=>⟨64,aa.one (r1.ext d.base),aE (aF rfl ?_)⟩
 exact k c0 c1 i j (g.trans e) (r0.ext e) r1 d (l.trans m)
def gn (b:Bs):Rec:=⟨num b 2 4,num b 6 4,num b 10 4,dY b 16 (num b 14 1).toNat,chunks (b.drop 64) (num b 15 1).toNat⟩
theorem BJ (b:Bs):wq b=if dH (gn b)&&uI (gn b)==b then some (gn b,cX (gn b)) else none:=rfl
theorem hG {Q:R5->Int->Int->PH->Prop} (h:aA H (aC B::L)) (M:Bytes B p b) (hk:tI b=true) (hl:b.length=64*(1+(num b 15 1).toNat)) (E:bP b)
 (hy:wq b=some (gn b,cX (gn b))->∀x d H',Ext B d->qC d x (gn b)->aA H' (aC d::L)->Q x (cX (gn b)) 0 H') (hn:wq b=none->∀d H',Ext B d->aA H' (aC d::L)->Q (0,0,0,Sl.nil,Sl.nil) 0 2 H'):uo p H Q:=by
 simp only[tI,decide_eq_true_eq] at hk
 obtain⟨k1,k2,k3,k4,k5⟩:=hk
 have aj:=xv E 15 1
 obtain⟨n,en⟩:=Int.eq_ofNat_of_zero_le (show 0<=num b 14 1 by omega)
 obtain⟨m,em⟩:=Int.eq_ofNat_of_zero_le aj.1
 have ac:(num b 14 1).toNat=n:=by omega
 have O:(num b 15 1).toNat=m:=by omega
 rw[O] at hl
 refine dZ h λa H1 D x1=>pE D (M.ext D.base) (by omega) λa2 s H2 h2=>DQ h2 (by omega) (by omega) E λZ h3=>?_
 have aN:tI b=true:=by simp only[tI,decide_eq_true_eq];exact⟨k1,k2,k3,k4,k5⟩
 rw[aN]
 refine aE (aF rfl ?_)
 have e1:((p.len:Int) != IntKind.wrap .i64 (64*IntKind.wrap .i64 (1+num b 15 1)))=false:=by
  rw[cK (x:=1+num b 15 1) (by omega) (by omega),cK (by omega) (by omega),M.bL,hl];simp;omega
 rw[e1]
 refine aF rfl ?_
 rw[en,cK (by omega) (by omega),show(7*(n:Int))=((7*n:Nat):Int) from rfl]
 refine kq h3 (by omega) (by omega) λy H4 G=>?_
 have aY:((b.drop 16).take (7*n)).length=7*n:=by simp;omega
 have aR:bP ((b.drop 16).take (7*n)):=wu (vG E _) _
 have aQ:=G.list (enc:=u8) 3 rfl
 have eD:dY ((b.drop 16).take (7*n)) 0 n=dY b 16 n:=GC b 16 (7*n) n 0 (by omega)
 have bad:dH (gn b)=false->wq b=none:=λe=>by rw[BJ,e];rfl
 refine It.hG (n:=n) aQ aY (by omega) aR (λo it H5 ae=>?_) (λo H5 x5=>?_)
 ·rw[eD] at o ae
  have h5:=G.made ae
  have h6:aA H5 (aC B::aJ a [i64 0,i64 0,i64 0,Sl.v Sl.nil,Sl.v Sl.nil]::au fI 4 it (dY b 16 n)::L):=by
   have S:=h5.perm (L':=aC B::aJ a2 (cells s (16+7*n))::aS u8 s b::aS u8 y ((b.drop 16).take (7*n))::aJ a [i64 0,i64 0,i64 0,Sl.v Sl.nil,Sl.v Sl.nil]::au fI 4 it (dY b 16 n)::L)
    (.cons _ (List.perm_append_comm (l₁:=[au fI 4 it (dY b 16 n)]) (l₂:=[aJ a2 (cells s (16+7*n)),aS u8 s b,aS u8 y ((b.drop 16).take (7*n)),aJ a [i64 0,i64 0,i64 0,Sl.v Sl.nil,Sl.v Sl.nil]])|>.append_right L))
   exact S.aq.aq.aq
  refine xP (j:=3) h6 (by simp) rfl λH7 S=>aF rfl ?_
  obtain⟨B8,af,aK,T⟩:=(S.swap).fz
  refine pE T (M.ext (af.trans T.base)) (by omega) λa3 s3 H9 h9=>?_
  refine tH (n:=2) h9 (by omega) (by omega) λ_ a6 ap=>dK (w:=4) ap (by decide) (by omega) (by omega) E λa7 ar=>?_
  refine cU (j:=0) ar 3 rfl (by simp) rfl λa8 av=>dK (w:=4) av (by decide) (by omega) (by omega) E λa9 aw=>?_
  refine cU (j:=1) aw 3 rfl (by simp) rfl λba ax=>dK (w:=4) ax (by decide) (by omega) (by omega) E λbb ay=>?_
  refine cU (j:=2) ay 3 rfl (by simp) rfl λal ah=>?_
  have az:aA al (aC B8::aJ a (r5 (num b 2 4,num b 6 4,num b 10 4,it,Sl.nil))::L):=ah.aq.aq
  have aO:=M.bL
  refine ni M (by decide) (by omega) (by omega) λaZ t _=>?_
  rw[aO,Int.toNat_natCast] at t
  have er:((b.drop (64:Int).toNat).take (b.length-(64:Int).toNat))=b.drop 64:=by
   show(b.drop 64).take (b.length- 64)=_
   rw[List.take_of_length_le (by simp)]
  rw[er] at t
  have aB:=AB (enc:=Sl.v) az
  refine HA aB λc0 c1 B9 bc ag a0 a1 aD bg=>?_
  have F:Ext B B9:=af.trans ag
  refine kR c0 c1 _ _ _ _ (CK (x:=aZ) (b:=b.drop 64) m
   (λk _ A=>∃(d:PH) (st:Sl) (ls:List (Sl×Bs)),Ext B9 d/\ls.map (·.2)=chunks (b.drop 64) k/\(∀q∈ls,Bytes d q.1 q.2/\bP q.2/\q.2.length< 2 ^ 62)/\aA A (aC d::aS Sl.v st (ls.map (·.1))::aJ a (r5 (num b 2 4,num b 6 4,num b 10 4,it,st))::L))
   (by simp;omega) (by omega) ?_ ⟨B9,Sl.nil,[],.refl _,rfl,(λq f=>by cases f),aD⟩ ?_ ?_)
  ·rintro k _ A ⟨d,st,ls,g,_,_,hk⟩
   exact⟨aa.one (a0.ext (g.trans hk.base)),aa.one (a1.ext (g.trans hk.base)),t.ext (F.trans (g.trans hk.base))⟩
  ·rintro k _ A K y be ⟨d,st,ls,g,C,i,hk⟩ aP ab _
   have aX:=aP A (t.ext (F.trans (g.trans hk.base)))
   have bf:ls.length=k:=by have:=congrArg List.length C;rw[List.length_map,kW] at this;exact this
   refine⟨y,rfl,aU (x:=st) hk 2 rfl rfl (kV hk aX (by simp;omega) λz am ai=>iW ai λa5 Y W ad=>?_)⟩
   refine dE (ad.get 2 rfl:aa am a _) rfl (rY (enc:=Sl.v) (l:=[z]) ad rfl rfl λw ak an I hw R=>?_)
   refine dE (R.get 2 rfl:aa an a _) rfl (pe R 1 rfl (hw.ext R.base) (λ_=>rfl) rfl (by simp;omega) λa4 bd aG=>?_)
   refine cU (j:=4) aG 2 rfl (by simp) rfl λao aH=>ab () ao ⟨ak,a4,ls++[(z,((b.drop 64).drop (64*k)).take 64)],g.trans (Y.trans I),?_,λq f=>?_,?_⟩
   ·rw[List.map_append,C,xR];rfl
   ·rcases List.mem_append.1 f with f|f
    ·exact⟨(i q f).1.ext (Y.trans I),(i q f).2⟩
    ·have:=List.mem_singleton.1 f;subst this
     exact⟨W.ext I,wu (vG (vG E _) _) _,by simp;omega⟩
   ·rw[List.map_append];exact aH
  ·rintro _ A ⟨d,st,ls,g,C,i,hk⟩
   have U:∀(u:PH),Ext d u->cL Sl.v u st (ls.map (·.1))->qC u (num b 2 4,num b 6 4,num b 10 4,it,st) (gn b):=λu X V=>by
    refine⟨rfl,rfl,rfl,?_,⟨ls,?_,V,λq f=>⟨(i q f).1.ext X,(i q f).2⟩⟩,?_,?_⟩
    ·show fM fI 4 u it (dY b 16 (num b 14 1).toNat)
     rw[ac];exact((aK.lX bL).ext ag).ext (g.trans X)
    ·rw[C];show chunks _ _=chunks _ (num b 15 1).toNat;rw[O]
    ·show(dY b 16 (num b 14 1).toNat).length< 2 ^ 40;rw[tz];omega
    ·show(chunks (b.drop 64) (num b 15 1).toNat).length< 2 ^ 40;rw[kW];omega
   refine cE (x:=((num b 2 4,num b 6 4,num b 10 4,it,st):R5)) hk 2 rfl rfl rfl ?_
   have hR:=U A hk.base (hk.list 1 rfl)
   have fin:∀N,aA N (aC d::aS Sl.v st (ls.map (·.1))::aJ a (r5 (num b 2 4,num b 6 4,num b 10 4,it,st))::L)->∀sb:Bool,(sb=true->wq b=none)->(sb=false->wq b=some (gn b,cX (gn b)))->
    aL sb (aV N a [i64 0,i64 0,i64 0,Sl.v Sl.nil,Sl.v Sl.nil] λH1=>aT r5 H1 a 5 λy=>Q y 0 2 H1) (aT r5 N a 5 λy=>aV N a (r5 y) λH1=>aT r5 H1 a 5 λy=>Q y (cX (gn b)) 0 H1):=λN W sb f1 f2=>by
    refine aM (λc=>?_) (λc=>?_)
    ·refine fb (vs:=r5 (0,0,0,Sl.nil,Sl.nil)) W 2 rfl rfl rfl λH1 D=>cE (x:=((0,0,0,Sl.nil,Sl.nil):R5)) D 2 rfl rfl rfl ?_
     have P:aA H1 (aC d::aS Sl.v st (ls.map (·.1))::aJ a _::L):=D
     exact hn (f1 c) d H1 (F.trans g) P.aq.aq
    ·refine cE (x:=((num b 2 4,num b 6 4,num b 10 4,it,st):R5)) W 2 rfl rfl rfl (fb (vs:=r5 (num b 2 4,num b 6 4,num b 10 4,it,st)) W 2 rfl rfl rfl λH1 D=>cE (x:=((num b 2 4,num b 6 4,num b 10 4,it,st):R5)) D 2 rfl rfl rfl ?_)
     have P:aA H1 (aC d::aS Sl.v st (ls.map (·.1))::aJ a _::L):=D
     exact iW P λu X V h2=>hy (f2 c) _ u H1 (F.trans (g.trans X)) (U u X V) h2.aq
   by_cases hm:dH (gn b)=true
   ·refine fP hR hm λr Z h3=>?_
    have G:=(hk:aA A (aC d::_)).made h3
    refine aE (aF rfl (pG (G.list (enc:=u8) 1 rfl) (M.ext (F.trans (g.trans G.base))) (CJ hm λc hc=>?_) E (fin Z G.aq _ (λc=>?_) (λc=>?_))))
    ·have aI:c∈ls.map (·.2):=by rw[C,←O];exact hc
     obtain⟨q,f,rfl⟩:=List.mem_map.1 aI
     exact(i q f).2.1
    ·rw[BJ,if_neg (by rw[hm,Bool.true_and];simpa using c)]
    ·rw[BJ,if_pos (by rw[hm,Bool.true_and];simpa using c)]
   ·have J:dH (gn b)=false:=by simpa using hm
    refine wM hR J λZ x3=>aE (aW rfl ?_)
    have:=fin Z ((hk:aA A (aC d::_)).ext x3) true (λ_=>bad J) (λc=>by cases c)
    refine aW rfl ?_
    exact(this.1 rfl)
 ·rw[eD] at o
  have J:dH (gn b)=false:=by
   refine Bool.eq_false_iff.2 λh=>o λx hx=>(parts h).it x ?_
   show x∈dY b 16 (num b 14 1).toNat;rw[ac];exact hx
  have h5:=G.ext x5
  have h6:aA H5 (aC B::aJ a [i64 0,i64 0,i64 0,Sl.v Sl.nil,Sl.v Sl.nil]::L):=h5.aq.aq.aq
  refine xP (j:=3) h6 (by simp) rfl λH7 S=>aW rfl (cF (vs:=r5 (0,0,0,Sl.nil,Sl.nil)) S rfl rfl λH8 T=>cQ (x:=((0,0,0,Sl.nil,Sl.nil):R5)) T rfl rfl ?_)
  exact hn (bad J) B H8 (.refl B) T.aq
end
end Rc
end
section
namespace Ds
open Go Go.Kx KM Rw
theorem bu.small {k:Nat} {D:Dk} (h:bu k D) (hk:k< 2 ^ 29):Small D:=
 ⟨by rw[h.nK];decide,by rw[h.nK];decide,h.jK.1,by have:=h.jK.2;omega,by have:=h.held;omega,h.now,h.safe,h.dq,h.at_⟩
theorem RJ {α:Type} {enc:α->Value} {B:PH} {s:Sl} {l:List α} (h:cL enc B s l) (j:0<l.length) {c:Nat} (f:s.has c):B c≠none:=by
 obtain⟨a,e,rfl⟩:=f
 obtain⟨g,d,m,b⟩:=h.2.2 0 l[0] (by simp)
 rw[e] at d;cases d
 unfold cellAt at b
 rw[sZ] at b
 grind
section
variable {H B:PH} {L:List Ob} {i k:Nat} {A:DA} {D:Dk} {p:Sl} {bs:Bs} {at':Int}
theorem yk {Q:Int->PH->Prop} (h:aA H (aC B::L)) (hi:L[i]?=some (bA A D)) (ok:bu k D) (hk:k< 2 ^ 29) (l:0<=at'/\at'<D.now.length) (m:Bytes B p bs) (g:bs.length=64)
 (s:∀f H',f.a=A.a->aA H' (aC B::L.set i (bA f (D.put at' bs)))->Q 0 H'):gB (some A.a) at' p H Q:=by
 have d:eF H A D:=h.get (i+1) (by simpa using hi)
 obtain⟨j,rfl⟩:=Int.eq_ofNat_of_zero_le l.1
 have e:D.put j bs=D.write j ⟨bs,g⟩:=by rw[Dk.put,Dk.wr,if_pos ⟨l,g⟩,J0 g];rfl
 have o:D.act.2=true:=by rw[Jz ok.off ok.nK]
 refine tr (i:=j) (b:=⟨bs,g⟩) d (bu.small ok hk) (by omega) (m.ext h.base) (λc q r=>?_) λf H' n af=>?_
 ·exact h.dj 0 (i+1) (aC B) (bA A D) rfl (by grind) (by omega) c (RJ m (by omega) q) r
 ·rw[o]
  have:=Q7 (i:=i+1) h (by simpa using hi) n af
  refine s f H' af.same ?_
  grind
theorem BK {Q:Int->PH->Prop} (h:aA H (aC B::L)) (hi:L[i]?=some (bA A D)) (ok:bu k D) (hk:k< 2 ^ 29)
 (f:∀b H',b.a=A.a->aA H' (aC B::L.set i (bA b D.flush))->Q 0 H'):gC (some A.a) H Q:=by
 have c:D.fl.2=0:=by rw[J1 ok]
 refine Wd (i:=i+1) h (by grind) (bu.small ok hk) λb H' e d=>?_
 rw[c]
 exact f b H' e (by simpa[Dk.fl] using d)
theorem BL {Q:Sl->Int->PH->Prop} (h:aA H (aC B::L)) (hi:L[i]?=some (bA A D)) (ok:bu k D) (hk:k< 2 ^ 29) (c:0<=at'/\at'<D.now.length)
 (e:∀r H',aA H' (aC B::aS u8 r (D.sec at')::L)->Q r 0 H'):gm (some A.a) at' H Q:=by
 have d:eF H A D:=h.get (i+1) (by simpa using hi)
 refine Yf d (bu.small ok hk) λr H' b=>?_
 rw[Fy ok c] at b ⊢
 exact e r H' (h.made b)
theorem CL {Q:Bool->PH->Prop} (h:aA H (aC B::L)) (hi:L[i]?=some (bA A D)) (b:Q D.off H):iL (some A.a) H Q:=by
 have d:eF H A D:=h.get (i+1) (by simpa using hi)
 exact Tq d b
theorem Hm {Q:Int->PH->Prop} (h:aA H (aC B::L)) (hi:L[i]?=some (bA A D)) (b:Q D.now.length H):jw (some A.a) H Q:=by
 have d:eF H A D:=h.get (i+1) (by simpa using hi)
 exact Jx d b
end
end Ds
namespace jQ
open Go Go.Kx KM Rw Cr It Ds
section
variable {H B:PH} {L:List Ob} {k:Nat} {A:DA} {D:Dk} {p:Sl} {bs:Bs} {at':Int}
theorem zb {n:Nat} {Q:Int->PH->Prop} (h:aA H (aC B::bA A D::L)) (ok:bu k D) (hk:k+n< 2 ^ 29) (J:Bytes B p bs) (hl:bs.length=64*n) (hb:bP bs) (G:0<=at') (Z:at'+n<=D.now.length)
 (Y:∀d w H',d.a=A.a->Ext B w->aA H' (aC w::bA d (D.dW at' (chunks bs n))::L)->Q 0 H'):xn (some A.a) at' p H Q:=by
 have hn:=ok.now
 refine gN h λa1 B1 H1 R r1 T=>bG T λz H2 U=>bG U λC H3 V=>Rc.HA (p:=p) V λc0 c1 g H4 t O P W x4=>?_
 have v:Ext B g:=R.trans t
 refine kR c0 c1 _ _ _ _ (Rc.CK (x:=p) (b:=bs) n
  (λi _ r=>∃d:DA,d.a=A.a/\aA r (aC g::aJ C [i64 0]::aJ z [i64 (at'+(i:Int))]::bA d (D.dW at' (chunks bs i))::L))
  hl (by omega) ?_ ⟨A,rfl,by simpa[chunks,Dk.dW] using W⟩ ?_ ?_)
 ·rintro i _ r ⟨d,_,c⟩
  exact⟨Rc.aa.one (O.ext c.base),Rc.aa.one (P.ext c.base),J.ext (v.trans c.base)⟩
 ·rintro i _ r K y ab ⟨d,eA,c⟩ hy f _
  have M:∀b∈chunks bs i,b.length=64/\bP b:=λb I=>by
   obtain⟨j,l⟩:=List.getElem?_of_mem I
   have o:j<i:=by have:=(List.getElem?_eq_some_iff.1 l).1;rwa[Rc.kW] at this
   have e:(chunks bs i)[j]?=some ((bs.drop (64*j)).take 64):=by
    clear l c f
    revert o
    have:∀(i:Nat),i<=n->∀j,j<i->(chunks bs i)[j]?=some ((bs.drop (64*j)).take 64):=by
     intro i
     induction i with
     |zero=>intro _ j l;omega
     |succ i ih=>
      intro hi j l
      rw[Rc.xR]
      by_cases e:j<i
      ·rw[List.getElem?_append_left (by rw[Rc.kW];exact e)];exact ih (by omega) j e
      ·have:j=i:=by omega
       subst this
       rw[List.getElem?_append_right (by rw[Rc.kW];exact Nat.le_refl _),Rc.kW,Nat.sub_self];rfl
    exactλo=>this i (by omega) j o
   rw[e] at l;cases l
   exact⟨by simp;omega,wu (vG hb _) _⟩
  obtain⟨s,u⟩:=tu (chunks bs i) (at_:=at') ok G (by rw[Rc.kW];omega) M
  rw[Rc.kW] at s
  have N:Bytes g y ((bs.drop (64*i)).take 64):=hy g (J.ext v)
  refine⟨y,rfl,some d.a,?_,eB (x:=at'+(i:Int)) c 2 rfl ?_⟩
  ·rw[eA];exact Rc.aa.one ((r1.ext t).ext c.base)
  refine yk (i:=2) c rfl s (by omega) (by rw[u];omega) N (by simp;omega) λS H5 E F=>aF rfl ?_
  refine eB (x:=at'+(i:Int)) F 2 rfl (jF F 2 rfl rfl λq m=>f () q ⟨S,E.trans eA,?_⟩)
  rw[Rc.xR,DN,Rc.kW]
  have e:IntKind.wrap .i64 (at'+(i:Int)+1)=at'+((i+1:Nat):Int):=by rw[cK (by omega) (by omega)];push_cast;omega
  rw[e] at m;exact m
 ·rintro _ r ⟨d,eA,c⟩
  refine aF rfl (jF c 1 rfl rfl λq m=>eB (x:=(0:Int)) m 1 rfl ?_)
  have X:aA q (aC g::aJ C [i64 0]::aJ z _::bA d (D.dW at' (chunks bs n))::L):=m
  exact Y d g q eA v X.aq.aq
abbrev S2:=Sl×Sl
abbrev s2 (x:S2):List Value:=[Sl.v x.1,Sl.v x.2]
theorem EX {Q:S2->Int->PH->Prop} (h:aA H (aC B::bA A D::L)) (ok:bu k D) (hk:k< 2 ^ 29) (G:2<=D.now.length)
 (z:∀x b H',Ext B b->Bytes b x.1 (D.sec 0)->Bytes b x.2 (D.sec 1)->aA H' (aC b::bA A D::L)->Q x 0 H'):sw (some A.a) H Q:=by
 refine bG h λa1 H1 w=>?_
 refine av 2 (λi st v=>st=(i:Int)/\∃b x,Ext B b/\(1<=i->Bytes b x.1 (D.sec 0))/\(2<=i->Bytes b x.2 (D.sec 1))/\aA v (aC b::aJ a1 (s2 x)::bA A D::L)) ⟨rfl,B,(Sl.nil,Sl.nil),.refl _,λh=>absurd h (by omega),λh=>absurd h (by omega),w⟩ ?_
 rintro i st E again hi ⟨rfl,b,x,n,u,C,m⟩ g
 refine aM (λc=>?_) (λc=>?_)
 ·have l:i< 2:=by grind
  refine BL (i:=1) m rfl ok hk (by omega) λr q f=>iW f λo d t y=>?_
  rw[bK (by omega)]
  refine⟨_,⟨by omega,by simpa using c,rfl⟩,?_⟩
  rw[Nat.mul_one,Int.toNat_natCast]
  refine cU (j:=i) y 1 rfl (by simp;omega) rfl λF s=>aF rfl ?_
  by_cases e:i=0
  ·subst e
   refine g l _ _ ⟨rfl,o,(r,x.2),n.trans d,λ_=>t,λh=>absurd h (by omega),s⟩
  ·have:i=1:=by omega
   subst this
   refine g l _ _ ⟨rfl,o,(x.1,r),n.trans d,λ_=>(u (by omega)).ext d,λ_=>t,s⟩
 ·have:i=2:=by grind
  subst this
  refine cQ (x:=x) m rfl rfl (cF (vs:=s2 x) m rfl rfl λq f=>cQ (x:=x) f rfl rfl ?_)
  exact z x b q n (by grind) (by grind) f.aq
end
end jQ
end
section
namespace Ge
open Go Go.Kx KM
section
variable {H:PH} {g:Option Addr} {c:ax}
theorem vZ {x lo hi:Int} {Q:Bool->PH->Prop} (a:Q (bN x lo hi) H):fQ x lo hi H Q:=bH a
theorem Hn {p:Pos} {Q:Bool->PH->Prop} (h:Gm H g c) (f:bE c) (i:∀H',Ext H H'->Q (fj c p) H'):rS g p H Q:=by
 refine dZ (.start H) λa H1 d e=>ak (x:=p.1) d rfl (oH (h.ext e) f ?_)
 obtain⟨m,rfl,j⟩:=h
 have n:=f.2.2.2.2
 refine dR (b:=bN p.2.1 0 (c.2.2- 1)) (λk=>ak (x:=p.2.1) d rfl (aD (oZ (x:=c.2.2) (j.ext e) rfl ?_))) ?_
 ·rw[bC (by omega) (by omega)];exact vZ k
 refine dR (b:=bN p.2.2.1 1 2147483647) (λk=>ak (x:=p.2.2.1) d rfl (vZ k)) ?_
 refine dR (b:=bN p.2.2.2.2 1 2147483647) (λk=>ak (x:=p.2.2.2.2) d rfl (vZ k)) ?_
 exact dR (b:=bN p.2.2.2.1 0 4294967295) (λk=>ak (x:=p.2.2.2.1) d rfl (vZ k)) (i H1 e)
theorem qe {aG:Bool} {k slot:Int} {Q:Int->PH->Prop} (f:Gm H g c) (d:bE c) (hk:0<=k/\k<bc c) (t:slot=0∨slot=1) (o:∀H',Ext H H'->Q (cw c aG k slot) H'):lK g aG k slot H Q:=by
 have A:=gI d
 have y:=kj d
 obtain⟨i,rfl,s⟩:=f
 have f:∀H',Ext H H'->Gm H' (some i) c:=λH' x=>⟨i,rfl,s.ext x⟩
 refine aE (aF rfl (vZ ?_))
 rw[show bN slot 0 1=true by rcases t with rfl|rfl<;>rfl]
 refine aE (aF rfl (fc (f H (.refl H)) d λH1 j=>?_))
 rw[bC (x:=bc c- 1) (by omega) (by omega)]
 refine vZ ?_
 rw[show bN k 0 (bc c- 1)=true from KM.bD.2 (by omega)]
 refine aF rfl ?_
 have fin:∀z a,Ext H a->z=(if aG then k+bc c else k)->fA (some i) a λn m=>Q (IntKind.wrap .i64 ((IntKind.wrap .i64 (2+(IntKind.wrap .i64 (2*(IntKind.wrap .i64 (n+z))))))+slot)) m:=λz a h u=>by
  refine vY (f a h) d ?_
  have w:0<=z/\z<=10:=by omega
  have v:0<=slot/\slot<=1:=by omega
  rw[bC (x:=bW c+z) (by omega) (by omega),bC (x:=2*(bW c+z)) (by omega) (by omega),bC (x:=2+2*(bW c+z)) (by omega) (by omega),bC (by omega) (by omega)]
  have:=o a h
  rw[cw,←u] at this;exact this
 refine aE (aM (λe=>fc (f H1 j) d λa h=>?_) (λe=>fin k H1 j (by rw[e];rfl)))
 rw[bC (x:=k+bc c) (by omega) (by omega)]
 exact fin _ a (j.trans h) (by rw[e];rfl)
theorem ry {slot:Int} {Q:Int->PH->Prop} (f:Gm H g c) (a:bE c) (i:slot=0∨slot=1) (e:Q (ar c slot) H):jr g slot H Q:=by
 have j:=kj a
 obtain⟨d,rfl,h⟩:=f
 refine aE (aF rfl (vZ ?_))
 rw[show bN slot 0 1=true by rcases i with rfl|rfl<;>rfl]
 refine aF rfl (vY ⟨d,rfl,h⟩ a ?_)
 have:0<=slot*bW c/\slot*bW c<=4:=by grind
 rw[bC (x:=slot*bW c) (by omega) (by omega),bC (by omega) (by omega)]
 exact e
theorem wQ {slot:Int} {Q:Int->PH->Prop} (d:Gm H g c) (e:slot=0∨slot=1) (a:Q slot H):mH g slot H Q:=by
 obtain⟨f,rfl,h⟩:=d
 refine aE (aF rfl (vZ ?_))
 rw[show bN slot 0 1=true by rcases e with rfl|rfl<;>rfl]
 exact aF rfl a
end
end Ge
namespace Rc
open Go Go.Kx KM Rw Cr It
section
variable {H B:PH} {L:List Ob} {x:R5} {r:Rec} {p q:Sl} {b:Bs} {l:List eG}
theorem call7 {i:eG} {K:Value->PH->Prop} (f:∀H',Ext H H'->K (.bool (i.1==7)) H'):xI prog (.func (.func 302) #[] #[]) [.agg (fI i).toArray] H K:=by
 refine⟨302,#[],#[],rfl,iU func302 rfl rfl,?_⟩
 have h:=Ew (p0:=i) (H:=H) (Q:=λb H'=>Ext H H'/\b=(i.1==7)) (kb λa1 e d a _=>aX (x:=i.1) a rfl ⟨d,rfl⟩)
 exact fU.mono h (by grind)
theorem Oq {Q:Int->PH->Prop} (m:fM fI 4 H p l) (A:l.length< 2 ^ 40) (e:∀(k:Nat) (i:eG) H',Ext H H'->l[k]?=some i->dC l=some i.2.2.2->Q (k:Int) H') (j:∀H',Ext H H'->dC l=none->Q (-1) H'):fu p (.func (.func 302) #[] #[]) H Q:=by
 refine av l.length (λk st s=>st=(k:Int)/\Ext H s/\∀x∈l.take k,(x.1==7)=false) ⟨rfl,.refl H,by simp⟩ ?_
 rintro k st H1 again hk ⟨rfl,d,w⟩ f
 rw[m.bL]
 have hf:(l.take k).find? (λi=>i.1==7)=none:=(by grind)
 refine aM (λc=>?_) (λc=>?_)
 ·have h:k<l.length:=by simpa using c
  refine Bu (m.ext d) (by omega) (by omega) λa i hi z=>⟨i,z,call7 λo n=>⟨_,rfl,?_⟩⟩
  rw[Int.toNat_natCast] at hi
  have es:l=l.take k++i::l.drop (k+1):=by
   have t:=List.getElem?_eq_some_iff.1 hi
   obtain⟨u,v⟩:=t
   rw[←v,←List.drop_eq_getElem_cons u,List.take_append_drop]
  refine aM (λc1=>e k i o (d.trans n) hi ?_) (λc1=>?_)
  ·rw[dC,es,List.find?_append,hf];simp only[Option.none_or]
   have e1:(i::l.drop (k+1)).find? (λi=>i.1==7)=some i:=List.find?_cons_of_pos (p:=λi:eG=>i.1==7) c1
   rw[e1];rfl
  ·rw[bK (by omega)]
   refine f h _ _ ⟨rfl,d.trans n,λy e=>?_⟩
   rw[gk hi] at e
   grind
 ·have:k=l.length:=by grind
  subst this
  rw[List.take_length] at hf
  exact j H1 d (by rw[dC,hf];rfl)
theorem DR {Q:Int->Bool->PH->Prop} (m:qC H x r) (o:∀H',Ext H H'->Q ((dC r.items).getD 0) (dC r.items).isSome H'):pU x H Q:=by
 refine dZ (.start H) λa H1 n f=>ak (x:=x.2.2.2.1) n rfl (Oq (m.it.ext f) m.Yj.1 (λk i h d hi e=>?_) (λh d e=>?_))
 ·have t:=n.ext d
  refine aF (by simp) (ak (x:=x.2.2.2.1) t rfl ?_)
  have v:=(List.getElem?_eq_some_iff.1 hi).1
  refine Bu (m.it.ext (f.trans d)) (by omega) (by omega) λb j s u=>?_
  rw[Int.toNat_natCast,hi] at s
  cases s
  refine⟨i.2.2.2,jo u rfl,?_⟩
  have q:=o h (f.trans d)
  grind
 ·have q:=o h (f.trans d)
  rw[e] at q
  exact aW rfl q
end
end Rc
end
section
namespace Us
open Go Go.Kx KM Ge
def bf (u:cJ):List Value:=[.int .i64 u.1,.int .i64 u.2]
theorem nL (u:cJ):(bf u).length=2:=rfl
theorem Vj (u:cJ):(bf u).all cg=true:=rfl
theorem Vh (x:Int):cg (Value.int .i64 x)=true:=rfl
theorem bK {k:Nat} (h:k< 2 ^ 60):IntKind.wrap .i64 ((k:Int)+1)=((k+1:Nat):Int):=by rw[bC (by omega) (by omega)];rfl
theorem pY {α:Type} {L:List α} {i:Nat} {O:α} (h:L[i]?=some O):L.set i O=L:=by
 apply List.ext_getElem?
 grind
theorem bD {α:Type} {l:List α} {k:Int}:BF l k=true↔0<=k/\k<l.length:=by simp[BF]
theorem KB {α:Type} {l:List α} {k:Int}:BF l k=false↔¬(0<=k/\k<l.length):=by rw[←bD];simp
theorem kB {α:Type} {d:α} {l:List α} {k:Int} {x:α} (b:0<=k) (c:l[k.toNat]?=some x):bg d l k=x:=by simp[bg,b,List.getD,c]
theorem E6 {α:Type} {d:α} {l:List α} {k:Int} (h:¬(0<=k/\k<l.length)):bg d l k=d:=by
 unfold bg
 grind
theorem Yl {α:Type} {d:α} {l:List α} {k:Int} (c:0<=k) (e:k<l.length):l[k.toNat]?=some (bg d l k):=by
 have b:k.toNat<l.length:=by omega
 rw[kB c (List.getElem?_eq_getElem b)];simp[b]
theorem KC (l:List cJ) (k st:Int):(wI l k st).length=l.length:=by simp[wI]
theorem T3 (l:List cJ) (k st:Int):(CC l k st).length=l.length:=by simp[CC]
theorem tJ (l:List cJ) (v:List Int):∀k,(eO l v k).length=l.length
 | 0=>rfl
 |k+1=>by unfold eO;split<;>simp[tJ l v k]
theorem vc (l:List cJ) (v:List Int):∀(k i:Nat),(eO l v k)[i]?=if i<k/\j1 l v i=true then(l[i]?).map (λu=>(0,u.2)) else l[i]?
 | 0,i=>by simp[eO]
 |k+1,i=>by
  unfold eO
  by_cases hi:j1 l v k=true
  ·rw[if_pos hi]
   by_cases e:k=i
   ·subst e
    by_cases b:k<l.length
    ·rw[List.getElem?_set_self (by rw[tJ];exact b),if_pos ⟨by omega,hi⟩,List.getElem?_eq_getElem b];simp[List.getD,b]
    ·rw[List.getElem?_eq_none (by rw[List.length_set,tJ];omega),List.getElem?_eq_none (by omega)];simp
   ·rw[List.getElem?_set_ne e,vc l v k i]
    grind
  ·rw[if_neg hi,vc l v k i]
   grind
theorem GD {l:List cJ} {v:List Int} {k:Nat} (h:j1 l v k=false):pD l v (k+1)=pD l v k:=by simp only[pD,List.range_succ,List.filterMap_append,List.filterMap_cons,h];simp
theorem GG {l:List cJ} {v:List Int} {k:Nat} (h:j1 l v k=true):pD l v (k+1)=pD l v k++[(k:Int)]:=by simp only[pD,List.range_succ,List.filterMap_append,List.filterMap_cons,h];simp
theorem Ho (l:List cJ) (v:List Int):∀k,(pD l v k).length<=k
 | 0=>by simp[pD]
 |k+1=>by
  have:=Ho l v k
  cases h:j1 l v k with
  |false=>rw[GD h];omega
  |true=>rw[GG h,List.length_append,List.length_singleton];omega
abbrev iS (p:Option Addr) (s t:Sl):List Value:=[.pointer p,Sl.v s,Sl.v t]
section
variable {H:PH} {L:List Ob} {a:Addr} {p:Option Addr} {s t:Sl} {l:List cJ} {v:List Int} {i j:Nat}
theorem Ym {x:cJ} {b:Addr} {K:cJ->Prop} (d:cI H b 2=some (bf x)) (c:K x):aT (λ(x:(Int×Int))=>[.int .i64 x.1,.int .i64 x.2]) H b 2 K:=⟨x,d,c⟩
theorem Yn {x:cJ} {b:Addr} {K:Int->Prop} (d:cI H b 2=some (bf x)) (c:K x.1):aH (.int .i64) H (b.add 0) K:=⟨x.1,jo d rfl,c⟩
theorem ld1 {x:cJ} {b:Addr} {K:Int->Prop} (d:cI H b 2=some (bf x)) (c:K x.2):aH (.int .i64) H (b.add 1) K:=⟨x.2,jo d rfl,c⟩
theorem yl {k:Int} {Q:Bool->PH->Prop} (r:aa H a (iS p s t)) (d:(s.len:Int)=l.length) (b:Q (BF l k) H):iP (some a) k H Q:=by
 refine aE (aW rfl (aE (aM (λc=>aD (aX (x:=s) r rfl ?_)) (λc=>?_))))
 ·rw[d];rw[BF,c] at b;exact b
 ·rw[BF,c] at b;exact b
theorem Ot {k:Int} {Q:Int->PH->Prop} (r:aa H a (iS p s t)) (f:fM bf 2 H s l) (d:Q (bg (0,0) l k).1 H):pq (some a) k H Q:=by
 refine yl r f.bL (aM (λc=>?_) (λc=>?_))
 ·rw[E6 (KB.1 (by simpa using c))] at d;exact d
 ·obtain⟨e,g⟩:=bD.1 (by simpa using c)
  refine aD (aX (x:=s) r rfl (su f e g λb x m h=>Yn h ?_))
  rw[kB e m] at d;exact d
theorem Ou {k:Int} {Q:Int->PH->Prop} (r:aa H a (iS p s t)) (f:fM bf 2 H s l) (d:Q (bg (0,0) l k).2 H):qA (some a) k H Q:=by
 refine yl r f.bL (aM (λc=>?_) (λc=>?_))
 ·rw[E6 (KB.1 (by simpa using c))] at d;exact d
 ·obtain⟨e,g⟩:=bD.1 (by simpa using c)
  refine aD (aX (x:=s) r rfl (su f e g λb x m h=>ld1 h ?_))
  rw[kB e m] at d;exact d
theorem vd {k:Int} {Q:Int->PH->Prop} (r:aa H a (iS p s t)) (e:(s.len:Int)=l.length) (f:gR H t v) (g:v.length=l.length) (b:Q (bg 0 v k) H):rD (some a) k H Q:=by
 refine yl r e (aM (λc=>?_) (λc=>?_))
 ·rw[E6 (by rw[g];exact KB.1 (by simpa using c))] at b;exact b
 ·obtain⟨d,m⟩:=bD.1 (by simpa using c)
  refine aD (aX (x:=t) r rfl (dm f d (by omega) λx h=>?_))
  rw[kB d h] at b;exact b
theorem free_spec {Q:Int->PH->Prop} (r:aa H a (iS p s t)) (f:fM bf 2 H s l) (D:l.length< 2 ^ 40) (n:∀H',Ext H H'->Q (cG l) H'):lP (some a) H Q:=by
 refine aF rfl (aD (aX (x:=s) r rfl ?_))
 refine av l.length (λk st m=>st=((((l.take k).countP (λu=>u.1==0):Nat):Int),(k:Int))/\Ext H m) ⟨by simp,.refl H⟩ ?_
 rintro k st H1 again hk ⟨rfl,d⟩ z
 rw[f.bL]
 refine aM (λc=>?_) (λc=>?_)
 ·have A:k<l.length:=by simpa using c
  refine aE (su (f.ext d) (by simp) (by omega) λb x g o=>Ym o (kb λC B y q f2=>uM (vs:=bf x) q rfl rfl λh w k3=>aX (x:=x.1) w rfl ?_))
  rw[Int.toNat_natCast] at g
  have hle:((l.take k).countP λu=>u.1==0)<=k:=Nat.le_trans List.countP_le_length (by rw[List.length_take];omega)
  have e:(l.take (k+1)).countP (λu=>u.1==0)=(l.take k).countP (λu=>u.1==0)+if x.1==0 then 1 else 0:=by rw[List.take_add_one,g];simp
  have E:Ext H h:=d.trans (y.Dv k3 f2)
  rw[bK (k:=k) (by omega)]
  refine aM (λc1=>?_) (λc1=>?_)
  ·rw[bK (by omega)]
   grind
  grind
 ·have:k=l.length:=by grind
  subst this
  rw[List.take_length]
  exact n H1 d
theorem Hp {k:Int} {Q:Bool->PH->Prop} (h:aA H L) (r:aa H a (iS p s t)) (i j:Nat) (hi:L[i]?=some (au bf 2 s l)) (u:L[j]?=some (aS (Value.int .i64) t v)) (q:i≠j) (z:v.length=l.length)
 (f:∀H',aA H' ((L.set i (au bf 2 s (kF l k))).set j (aS (Value.int .i64) t (qB l v k)))->Q (jP l k) H'):lN (some a) k H Q:=by
 have m:bj bf 2 H s l:=h.get i hi
 have stay:jP l k=false->Q false H:=λe=>by
  have:=f H
  rw[kF,qB,e] at this
  simp only[Bool.false_eq_true,if_false] at this
  rw[pY hi,pY u] at this
  exact this h
 refine yl r m.bL (aE (aM (λc=>aW rfl (stay ?_)) (λc=>?_)))
 ·rw[jP];grind
 ·have g:BF l k=true:=by simpa using c
  obtain⟨d,n⟩:=bD.1 g
  refine aD (aX (x:=s) r rfl (sk m d n λb x el=>⟨x.1,el.cell nL rfl,aM (λc1=>stay ?_) (λc1=>?_)⟩))
  ·rw[jP,g,kB d el.get];simpa using c1
  ·have e:jP l k=true:=by rw[jP,g,kB d el.get];grind
   rw[kF,qB,e] at f
   simp only[if_true] at f
   refine aD (aX (x:=s) r rfl (aD (aX (x:=t) r rfl (sk m d n λb x el=>Dx nL (1,x.2) h i hi el (by decide) rfl rfl λH1 o=>?_))))
   refine uk (enc:=Value.int .i64) (x:=0) o j (by rw[List.getElem?_set_ne q];exact u) d (by omega) rfl λw y=>f w ?_
   rw[wI,kB d el.get]
   exact y
theorem xu {k:Int} {Q:PH->Prop} (h:aA H L) (r:aa H a (iS p s t)) (i:Nat) (hi:L[i]?=some (au bf 2 s l)) (g:∀H',aA H' (L.set i (au bf 2 s (kT l k)))->Q H'):lO (some a) k H Q:=by
 have m:bj bf 2 H s l:=h.get i hi
 have stay:(BF l k&&(bg (0,0) l k).1==1)=false->Q H:=λe=>by
  have:=g H
  rw[kT,e] at this
  simp only[Bool.false_eq_true,if_false] at this
  rw[pY hi] at this
  exact this h
 refine yl r m.bL (aE (aM (λc=>?_) (λc=>aF rfl (by grind))))
 obtain⟨d,n⟩:=bD.1 c
 refine aD (aX (x:=s) r rfl (sk m d n λb x el=>⟨x.1,el.cell nL rfl,aM (λc1=>?_) (λc1=>stay ?_)⟩))
 ·rw[kT,c,kB d el.get,c1] at g
  refine aD (aX (x:=s) r rfl (sk m d n λq y f=>Dx nL (2,y.2) h i hi f (by decide) rfl rfl λH1 o=>g H1 ?_))
  simp only[Bool.and_self,if_true]
  rw[wI,kB d f.get]
  exact o
 ·rw[c,kB d el.get,c1];rfl
theorem GH {k st:Int} {Q:PH->Prop} (h:aA H L) (r:aa H a (iS p s t)) (i:Nat) (hi:L[i]?=some (au bf 2 s l)) (d:∀H',aA H' (L.set i (au bf 2 s (eC l k st)))->Q H'):ke (some a) k st H Q:=by
 have m:bj bf 2 H s l:=h.get i hi
 have stay:(BF l k&&(decide (0<=st)&&decide (st<=2147483647)))=false->Q H:=λe=>by
  have:=d H
  rw[eC,e] at this
  simp only[Bool.false_eq_true,if_false] at this
  rw[pY hi] at this
  exact this h
 refine yl r m.bL (aE (aM (λc=>aE (aM (λc1=>aM (λc2=>?_) (by grind)) (λc1=>aF rfl (by grind)))) (λc=>aE (aF rfl (aF rfl (by grind))))))
 obtain⟨f,n⟩:=bD.1 c
 rw[eC,c,c1,c2] at d
 refine aD (aX (x:=s) r rfl (sk m f n λo y b=>Dx nL (y.1,st) h i hi b (by decide) rfl rfl λH1 g=>d H1 ?_))
 simp only[Bool.and_self,if_true]
 rw[CC,kB f b.get]
 exact g
theorem Wn {x b:Int} (h:0<=x):0<=sL x b/\sL x b<=2147483647:=by unfold sL;omega
theorem kX {c:ax} (d:bE c) {at':Int} (h:base c<=at'/\at'<all c):0<=(at'-base c)/c.2.2/\(at'-base c)/c.2.2<c.2.1:=by
 have e:=d.2.2.2.2.1
 refine⟨Int.ediv_nonneg (by omega) (by omega),?_⟩
 have b:all c=base c+c.2.1*c.2.2:=rfl
 exact Int.ediv_lt_of_lt_mul (by omega) (by omega)
theorem DS {c:ax} {at' b:Int} {Q:Bool->PH->Prop} (h:aA H L) (r:aa H a (iS p s t)) (D:Gm H p c) (o:bE c) (j:Nat) (m:L[j]?=some (aS (Value.int .i64) t v)) (E:(v.length:Int)=c.2.1) (u:∀x,x∈v->0<=x/\x<=2147483647) (F: -9223372036854775808<=b)
 (f:∀H',aA H' (L.set j (aS (Value.int .i64) t (gX c v at' b)))->Q (decide (base c<=at'/\at'<all c)) H'):mJ (some a) at' b H Q:=by
 refine aF rfl (aD (aX (x:=p) r rfl (F5 D o λH1 B=>?_)))
 have k:=h.ext B
 have r1:=r.ext B
 by_cases d:base c<=at'/\at'<all c
 ·rw[if_pos d]
  obtain⟨s0,s1⟩:=kX o d
  generalize q:(at'-base c)/c.2.2=A at s0 s1
  have e:A<v.length:=by omega
  refine aE (aF rfl (aD (aX (x:=t) r1 rfl (dm (k.list j m) s0 e λx w=>?_))))
  obtain⟨x0,G⟩:=u x (by grind)
  rw[bC (x:=2147483647-x) (by omega) (by omega)]
  have C:gX c v at' b=v.set A.toNat (sL x b):=by rw[gX,if_pos d,q,kB s0 w]
  rw[C,decide_eq_true d] at f
  refine aM (λc1=>?_) (λc1=>?_)
  ·have g:2147483647-x<b:=by grind
   have n:sL x b=2147483647:=by rw[sL,if_pos g]
   rw[n] at f
   exact aD (aX (x:=t) r1 rfl (uk (enc:=Value.int .i64) k j m s0 e rfl f))
  ·have g:¬2147483647-x<b:=by grind
   have n:sL x b=if x+b< 0 then 0 else x+b:=by rw[sL,if_neg g];omega
   rw[n] at f
   refine aD (aX (x:=t) r1 rfl (aD (aX (x:=t) r1 rfl (dm (k.list j m) s0 e λy z=>?_))))
   rw[w] at z;cases z
   rw[bC (by omega) (by omega)]
   exact uk (enc:=Value.int .i64) k j m s0 e rfl f
 ·rw[if_neg d]
  have:=f H1
  rw[gX,if_neg d,decide_eq_false d,pY m] at this
  exact aE (aW rfl (this k))
end
section
variable {H:PH} {L:List Ob} {a:Addr} {p:Option Addr} {s t:Sl} {l:List cJ} {v:List Int}
theorem Z3 {x:cJ} {K:Value->PH->Prop} (f:∀H',Ext H H'->K (.bool (x.1==0)) H'):xI prog (.func (.func 316) #[] #[]) [.agg ([.int .i64 x.1,.int .i64 x.2]:List Value).toArray] H K:=by
 refine⟨316,#[],#[],rfl,iU func316 rfl rfl,?_⟩
 have h:=BC (p0:=x) (H:=H) (Q:=λb H'=>Ext H H'/\b=(x.1==0)) (kb λa1 e d c _=>aX (x:=x.1) c rfl ⟨d,rfl⟩)
 exact fU.mono h (by grind)
theorem CM {Q:Int->PH->Prop} (q:fM bf 2 H s l) (C:l.length< 2 ^ 40) (m:∀H',Ext H H'->Q (rX l) H'):fG s (.func (.func 316) #[] #[]) H Q:=by
 refine av l.length (λk st z=>st=(k:Int)/\Ext H z/\∀i x,i<k->l[i]?=some x->(x.1==0)=false) ⟨rfl,.refl H,by simp⟩ ?_
 rintro k st H1 again hk ⟨rfl,g,o⟩ n
 rw[q.bL]
 refine aM (λc=>?_) (λc=>?_)
 ·have d:k<l.length:=by simpa using c
  refine su (q.ext g) (by simp) (by simpa using d) λb x f A=>Ym A (Z3 λw r=>⟨_,rfl,?_⟩)
  rw[Int.toNat_natCast] at f
  obtain⟨_,B⟩:=List.getElem?_eq_some_iff.1 f
  refine aM (λc1=>?_) (λc1=>?_)
  ·have e:l.findIdx (λu=>u.1==0)=k:=(List.findIdx_eq d).2 (by grind)
   have:=m w (g.trans r)
   rw[rX,e,if_pos d] at this
   exact this
  ·rw[bK (by omega)]
   refine n d _ _ ⟨rfl,g.trans r,λi y hi h=>?_⟩
   by_cases e:i=k
   ·subst e;rw[f] at h;cases h;exact c1
   ·exact o i y (by omega) h
 ·have:k=l.length:=by grind
  subst this
  have e:l.findIdx (λu=>u.1==0)=l.length:=List.findIdx_eq_length.2 λx f=>by
   obtain⟨i,hi⟩:=List.getElem?_of_mem f
   grind
  have:=m H1 g
  rw[rX,e,if_neg (by omega)] at this
  exact this
theorem KD (l:List cJ):jP l (-1)=false:=by rfl
theorem kq {sp:Bool} {Q:Int->Bool->PH->Prop} (h:aA H L) (r:aa H a (iS p s t)) (i j:Nat) (hi:L[i]?=some (au bf 2 s l)) (n:L[j]?=some (aS (Value.int .i64) t v)) (m:i≠j) (C:v.length=l.length) (o:l.length< 2 ^ 40)
 (g:∀H',aA H' ((L.set i (au bf 2 s (kF l (bY l sp)))).set j (aS (Value.int .i64) t (qB l v (bY l sp))))->Q (if jP l (bY l sp) then bY l sp else 0) (jP l (bY l sp)) H'):rA (some a) sp H Q:=by
 have u:bj bf 2 H s l:=h.get i hi
 have go:∀H1,Ext H H1->bY l sp=rX l->aP (some a) λA=>aH Sl.v H1 (A.add 1) λD=>fG D (.func (.func 316) #[] #[]) H1 λe k=>lN (some a) e k λy d=>aL (!y) (Q 0 false d) (Q e true d):=by
  intro H1 b f
  rw[f] at g
  refine aD (aX (x:=s) (r.ext b) rfl (CM ((u.lX nL).ext b) o λE w=>Hp (h.ext (b.trans w)) (r.ext (b.trans w)) i j hi n m C λz B=>?_))
  have q:=g z B
  refine aM (λc=>?_) (λc=>?_)
  ·grind
  grind
 refine aE (aF rfl (aE (aM (λc=>?_) (λc=>aF rfl (go H (.refl H) ?_)))))
 ·refine free_spec r (u.lX nL) o λH1 b=>aM (λc1=>?_) (λc1=>go H1 b ?_)
  ·have f:bY l sp= -1:=by rw[bY,c,if_pos];grind
   have:=g H1
   rw[f,kF,qB,KD] at this
   simp only[Bool.false_eq_true,if_false] at this
   rw[pY hi,pY n] at this
   exact this (h.ext b)
  ·rw[bY,if_neg];grind
 ·rw[bY,if_neg];grind
theorem Hq {k:Nat} {Q:Bool->PH->Prop} (r:aa H a (iS p s t)) (g:fM bf 2 H s l) (h:gR H t v) (hk:k<l.length) (m:v.length=l.length) (e:Q (j1 l v k) H):oC (some a) k H Q:=by
 refine aD (aX (x:=s) r rfl (su g (by simp) (by omega) λb x d f=>Yn f (aE ?_)))
 rw[Int.toNat_natCast] at d
 rw[j1,show l.getD k (0,0)=x by simp[List.getD,d]] at e
 refine aM (λc=>?_) (λc=>?_)
 ·refine aD (aX (x:=t) r rfl (dm h (by omega) (by omega) λy n=>?_))
  grind
 grind
theorem E7 (l:List cJ) (v:List Int) (k:Nat):(eO l v k)[k]?=l[k]?:=by rw[vc,if_neg (by omega)]
theorem Ov (l:List cJ) (v:List Int) (k:Nat):j1 (eO l v k) v k=j1 l v k:=by rw[j1,j1,List.getD,E7];rfl
theorem T4 {α:Type} (L:List α) (x:α):(L++[x])[L.length]?=some x:=by simp
theorem KF {B:PH} {Q:Sl->PH->Prop} (h:aA H (aC B::L)) (r:aa B a (iS p s t)) (i j:Nat) (hi:L[i]?=some (au bf 2 s l)) (T:L[j]?=some (aS (Value.int .i64) t v)) (P:i≠j) (W:v.length=l.length) (U:l.length< 2 ^ 30)
 (K:∀q H',aA H' (aC B::(L.set i (au bf 2 s (iT l v))++[aS (Value.int .i64) q (Oi l v)]))->Q q H'):oQ (some a) H Q:=by
 have R:=(List.getElem?_eq_some_iff.1 hi).1
 refine aF rfl (aD (aX (x:=s) (r.ext h.base) rfl ?_))
 have y:(s.len:Int)=l.length:=by
  have M:bj bf 2 H s l:=h.get (i+1) (by simpa using hi)
  exact M.bL
 have F:=h.Bp (enc:=Value.int .i64)
 refine av l.length (λk st C=>st.2=(k:Int)/\aA C (aC B::(L.set i (au bf 2 s (eO l v k))++[aS (Value.int .i64) st.1 (pD l v k)]))) ⟨rfl,by
  show aA H (aC B::(L.set i (au bf 2 s l)++[aS (Value.int .i64) Sl.nil []]))
  rw[pY hi];exact F⟩ ?_
 rintro k ⟨q,st⟩ H1 again hk ⟨e,d⟩ f
 simp only at e d
 subst e
 rw[y]
 refine aM (λc=>?_) (λc=>?_)
 ·have g:k<l.length:=by simpa using c
  have u:(aC B::(L.set i (au bf 2 s (eO l v k))++[aS (Value.int .i64) q (pD l v k)]))[i+1]?=some (au bf 2 s (eO l v k)):=by
   grind
  have E:(aC B::(L.set i (au bf 2 s (eO l v k))++[aS (Value.int .i64) q (pD l v k)]))[j+1]?=some (aS (Value.int .i64) t v):=by
   grind
  have m:bj bf 2 H1 s (eO l v k):=d.get (i+1) u
  have hlen:=tJ l v k
  refine aE (Hq (r.ext d.base) (m.lX nL) (d.list (j+1) E) (by omega) (by omega) ?_)
  rw[Ov]
  simp only[]
  rw[bK (k:=k) (by omega)]
  refine aM (λc1=>?_) (λc1=>f g _ _ ⟨rfl,?_⟩)
  ·refine aD (aX (x:=s) (r.ext d.base) rfl (sk m (by omega) (by omega) λb x el=>Dx nL (0,x.2) d (i+1) u el (by decide) rfl rfl λz G=>?_))
   have N:=el.get
   rw[Int.toNat_natCast,E7] at N
   have e2:(eO l v k).set (k:Int).toNat (0,x.2)=eO l v (k+1):=by
    show _=if j1 l v k then(eO l v k).set k (0,(l.getD k (0,0)).2) else eO l v k
    grind
   rw[e2] at G
   have w:aA z (aC B::(L.set i (au bf 2 s (eO l v (k+1)))++[aS (Value.int .i64) q (pD l v k)])):=by
    simp_all
   have V:=Ho l v k
   refine DE (enc:=Value.int .i64) w λo S n X=>?_
   have D:(aC B::(L.set i (au bf 2 s (eO l v (k+1)))++[aS (Value.int .i64) q (pD l v k)])++[aS (Value.int .i64) o [(k:Int)]])=(aC B::L.set i (au bf 2 s (eO l v (k+1))))++[aS (Value.int .i64) q (pD l v k)]++[aS (Value.int .i64) o [(k:Int)]]:=by simp
   rw[D] at n
   refine pe (ys:=[(k:Int)]) n (aC B::L.set i (au bf 2 s (eO l v (k+1)))).length (by rw[List.append_assoc,List.getElem?_append_right (Nat.le_refl _),Nat.sub_self];rfl) (n.list ((aC B::L.set i (au bf 2 s (eO l v (k+1))))++[aS (Value.int .i64) q (pD l v k)]).length (T4 _ _)) Vh rfl (by simp;omega) λO A I=>f g _ _ ⟨rfl,?_⟩
   rw[List.append_assoc,List.set_append_right _ _ (Nat.le_refl _),Nat.sub_self] at I
   have J:aA A (((aC B::L.set i (au bf 2 s (eO l v (k+1))))++[aS (Value.int .i64) O (pD l v k++[(k:Int)])])++[aS (Value.int .i64) o [(k:Int)]]):=by
    grind
   rw[GG c1]
   exact J.init
  ·have e2:eO l v (k+1)=eO l v k:=by
    show(if j1 l v k then(eO l v k).set k (0,(l.getD k (0,0)).2) else eO l v k)=_
    grind
   rw[e2,GD c1];exact d
 ·have:k=l.length:=by grind
  subst this
  exact K q H1 d
theorem kV {Q:Sl->PH->Prop} (c:fM bf 2 H s l) (d:l.length< 2 ^ 30) (b:∀q H',aA H' [aC H,au bf 2 q l]->Q q H'):iQ s H Q:=
 TP (m:=16) nL (by decide) c Vj rfl (by omega) b
theorem RK {fr:Bool} {Q:Sl->PH->Prop} (r:aa H a (iS p s t)) (n:fM bf 2 H s l) (z:gR H t v) (A:v.length=l.length) (y:l.length< 2 ^ 30)
 (w:∀q H',aA H' [aC H,au bf 2 q (if fr then iT l v else l)]->Q q H'):qy (some a) fr H Q:=by
 refine aF rfl (aD (aX (x:=s) r rfl (kV n y λq H1 u=>?_)))
 refine av l.length (λk st o=>st=(k:Int)/\aA o [aC H,au bf 2 q (if fr then eO l v k else l)]) ⟨rfl,by cases fr<;>exact u⟩ ?_
 rintro k st g again hk ⟨rfl,d⟩ h
 have m:bj bf 2 g q (if fr then eO l v k else l):=d.get 1 rfl
 have hlen:(if fr then eO l v k else l).length=l.length:=by cases fr<;>simp[tJ]
 rw[m.bL,hlen]
 refine aM (λc=>?_) (λc=>?_)
 ·have e:k<l.length:=by simpa using c
  refine aE (aE (aM (λcf=>?_) (λcf=>aF rfl ?_)))
  ·subst cf
   refine Hq (r.ext d.base) (n.ext d.base) (z.ext d.base) e A (aM (λc1=>?_) (λc1=>?_))
   ·refine sk m (by omega) (by omega) λb x el=>Dx nL (0,x.2) d 1 rfl el (by decide) rfl rfl λB C=>?_
    have f:=el.get
    rw[Int.toNat_natCast] at f
    simp only[if_true] at f
    rw[E7] at f
    have e2:(eO l v k).set (k:Int).toNat (0,x.2)=eO l v (k+1):=by
     show _=if j1 l v k then(eO l v k).set k (0,(l.getD k (0,0)).2) else eO l v k
     grind
    rw[bK (by omega)]
    grind
   ·rw[bK (by omega)]
    refine h e _ _ ⟨rfl,?_⟩
    simp only[if_true] at d ⊢
    have e2:eO l v (k+1)=eO l v k:=by
     show(if j1 l v k then(eO l v k).set k (0,(l.getD k (0,0)).2) else eO l v k)=_
     grind
    grind
  ·subst cf
   rw[bK (by omega)]
   grind
 ·have:k=l.length:=by grind
  subst this
  exact w q g d
def AH (u:cJ):Bool:=(decide (0<=u.1)&&decide (u.1<=2))&&(decide (0<=u.2)&&decide (u.2<=2147483647))
theorem RL {c:ax} {x:Sl} {ul:List cJ} {Q:Option Addr->PH->Prop} (hg:Gm H p c) (hc:bE c) (M:fM bf 2 H x ul) (aq:ul.length< 2 ^ 40)
 (K:¬((ul=[]∨(ul.length:Int)=c.2.1)/\∀u,u∈ul->AH u=true)->∀H',Ext H H'->Q none H')
 (q:(ul=[]∨(ul.length:Int)=c.2.1)->(∀u,u∈ul->AH u=true)->∀a s t H',aA H' [aC H,au bf 2 s (Jr c.2.1.toNat ul),aS (Value.int .i64) t (List.replicate c.2.1.toNat 0),aJ a (iS p s t)]->Q (some a) H'):xo p x H Q:=by
 obtain⟨g,rfl,hr⟩:=hg
 have ao:=hc.2.2.1;have A:=hc.2.2.2.1
 refine mr ⟨g,rfl,hr⟩ λH1 x1=>aE (aF rfl (aE ?_))
 have B:=M.bL
 have main:(ul=[]∨(ul.length:Int)=c.2.1)->aL false (Q none H1) (bw (λ(N:Int) (m:PH) (h:Int->PH->Prop)=>
 aL (decide (N<(x.len:Int)))
 (bX x 2 N λW=>
 aT (λ(x:(Int×Int))=>[.int .i64 x.1,.int .i64 x.2]) m W 2 λG=>
 aj m (row [.int .i64 0,.int .i64 0] 210) λd P=>
 aV P d ([.int .i64 G.1,.int .i64 G.2]) λf=>
 aH (.int .i64) f (d.add 0) λai=>
 aO (λ(af:Bool) (n:PH)=>
 aO (λ(ag:Bool) (o:PH)=>
 aO (λ(ah:Bool) (y:PH)=>
 aL ah
 (Q none y)
 (h (IntKind.wrap .i64 (N+1)) y))
 λE=>
 aL ag
 (E true o)
 (aH (.int .i64) o (d.add 1) λak=>
 E (decide (2147483647<ak)) o))
 λD=>
 aL af
 (D true n)
 (aH (.int .i64) n (d.add 1) λal=>
 D (decide (al< 0)) n))
 λC=>
 aL (decide (ai< 0))
 (C true f)
 (aH (.int .i64) f (d.add 0) λam=>
 C (decide (2<am)) f))
 (aO (λ(F:Option Addr) (z:PH)=>
 aP F λX=>
 aH Sl.v z (X.add 1) λan=>
 nC z 2 an x λar S=>
 Q F S)
 λac=>
 qk (sd 16 c.2.1 c.2.1)<|
 qk (sd 8 c.2.1 c.2.1)<|
 lq m (row (cN (c.2.1:Int).toNat [.int .i64 0,.int .i64 0]) 210) c.2.1 c.2.1 λad T=>
 lq T (row (cN (c.2.1:Int).toNat [.int .i64 0]) 3) c.2.1 c.2.1 λae U=>
 aj U (row [.pointer (some g),Sl.v ad,Sl.v ae] 208) λY V=>
 ac (some Y) V))
 0 H1):=by
   intro hlen
   refine aF rfl ?_
   refine av ul.length (λk st Hk=>st=(k:Int)/\Ext H Hk/\∀i u,i<k->ul[i]?=some u->AH u=true) (by grind) ?_
   rintro k st H2 again hk ⟨rfl,O,ap⟩ Z
   rw[B]
   refine aM (λc0=>?_) (λc0=>?_)
   ·have ab:k<ul.length:=by grind
    refine su (M.ext O) (by simp) (by omega) λb u hu A=>Ym A (kb λa2 H3 x3 r3 f3=>uM (vs:=bf u) r3 rfl rfl λR r k4=>aX (x:=u.1) r rfl ?_)
    rw[Int.toNat_natCast] at hu
    have x4:Ext H R:=O.trans (x3.Dv k4 f3)
    have bad:AH u=false->Q none R:=(by grind)
    refine aE (aM (λc1=>aE (aW rfl (aE (aW rfl (aW rfl (bad (by simp[AH];grind))))))) (λc1=>aX (x:=u.1) r rfl (aE ?_)))
    refine aM (λc2=>aE (aW rfl (aW rfl (bad (by simp[AH];grind))))) (λc2=>aX (x:=u.2) r rfl (aE ?_))
    refine aM (λc3=>aW rfl (bad (by simp[AH];grind))) (λc3=>aX (x:=u.2) r rfl (aM (λc4=>bad (by simp[AH];grind)) (λc4=>?_)))
    rw[bK (by omega)]
    refine Z ab _ _ ⟨rfl,x4,λi w hi hw=>?_⟩
    by_cases e:i=k
    ·subst e;rw[hu] at hw;cases hw;simp[AH];grind
    grind
   ·have aa:k=ul.length:=by grind
    subst aa
    have J:∀u,u∈ul->AH u=true:=λu hu=>by
     obtain⟨i,hi⟩:=List.getElem?_of_mem hu
     grind
    refine aE ⟨⟨by omega,by omega,by omega⟩,⟨by omega,by omega,by omega⟩,V9 (enc:=bf) (sz:=2) (x:=(0,0)) ((aA.start H).ext O|>.vP (.refl H)) rfl λr5 H5 h5 x5=>Fj (enc:=Value.int .i64) (x:=0) h5 λr6 H6 h6 x6=>lW h6 λa7 H7 I x7=>?_⟩
    refine aD (aU (x:=r5) I 3 rfl rfl (TO nL (by decide) I 1 rfl (M.ext I.base) ?_ Vj λH8 h8=>?_))
    ·grind
    ·exact q hlen J a7 r5 r6 H8 h8
 refine aM (λc1=>?_) (λc1=>main (.inl ?_))
 ·by_cases hl:(ul.length:Int)=c.2.1
  ·have e:((x.len:Int) != c.2.1)=false:=by grind
   rw[e];exact main (.inr hl)
  ·have e:((x.len:Int) != c.2.1)=true:=by grind
   rw[e]
   refine aW rfl (K (λhh=>?_) H1 x1)
   grind
 ·rw[B] at c1
  have:ul.length=0:=by simpa using c1
  exact List.length_eq_zero_iff.1 this
end
end Us
end
section
namespace Rg
open Go Go.Kx KM Rw Cr It Ge
abbrev uZ:=Int×Int×Int×Int×Int×Int×Int×Int×Int×Int×Int×Sl×Sl×Sl
abbrev dp (x:uZ):List Value:=[i64 x.1,i64 x.2.1,i64 x.2.2.1,i64 x.2.2.2.1,i64 x.2.2.2.2.1,i64 x.2.2.2.2.2.1,i64 x.2.2.2.2.2.2.1,i64 x.2.2.2.2.2.2.2.1,i64 x.2.2.2.2.2.2.2.2.1,i64 x.2.2.2.2.2.2.2.2.2.1,i64 x.2.2.2.2.2.2.2.2.2.2.1,Sl.v x.2.2.2.2.2.2.2.2.2.2.2.1,Sl.v x.2.2.2.2.2.2.2.2.2.2.2.2.1,Sl.v x.2.2.2.2.2.2.2.2.2.2.2.2.2]
def fw:uZ:=(0,0,0,0,0,0,0,0,0,0,0,Sl.nil,Sl.nil,Sl.nil)
abbrev bf (u:cJ):List Value:=[i64 u.1,i64 u.2]
def fJ (r:fH) (sb so ss:Sl):uZ:=(r.gen,r.view,r.mode,r.aQ,r.seq,r.done,r.pos.1,r.pos.2.1,r.pos.2.2.1,r.pos.2.2.2.1,r.pos.2.2.2.2,sb,so,ss)
structure Ah (H:PH) (sb so ss:Sl) (r:fH):Prop where
 lb:gR H sb r.lb
 lo:gR H so r.lo
 bk:fM bf 2 H ss r.bk
theorem Ah.ext {A B:PH} {sb so ss:Sl} {r:fH} (h:Ah A sb so ss r) (x:Ext A B):Ah B sb so ss r:=⟨h.lb.ext x,h.lo.ext x,h.bk.ext x⟩
def wR (H:PH) (x:uZ) (r:fH):Prop:=∃sb so ss,x=fJ r sb so ss/\Ah H sb so ss r
theorem wR.ext {A B:PH} {x:uZ} {r:fH} (h:wR A x r) (e:Ext A B):wR B x r:=let⟨a,b,c,d,k⟩:=h;⟨a,b,c,d,k.ext e⟩
section
variable {H B:PH} {L:List Ob} {r:fH} {p q:Sl} {b:Bs} {l:List Int} {g:Option Addr} {c:ax} {sb so ss:Sl}
theorem bH {x lo hi:Int} {Q:Bool->PH->Prop} (a:Q (bN x lo hi) H):jC x lo hi H Q:=dR (b:=decide (x<=hi)) (λk=>k) a
theorem Yo {n:Int} {K:Value->PH->Prop} (a:K (.bool (n != 0&&n != 1)) H):xI prog (.func (.func 317) #[] #[]) [i64 n] H K:=by
 refine⟨317,#[],#[],rfl,iU func317 rfl rfl,?_⟩
 have h:=EN (p0:=n) (H:=H) (Q:=λb H'=>H'=H/\b=(n != 0&&n != 1)) (dR (b:=n != 1) (λk=>k) (by simp))
 exact fU.mono h (by grind)
theorem Ow {Q:Bool->PH->Prop} (h:gR H p l) (o:l.length< 2 ^ 40) (n:Q (!(l.all λx=>x==0||x==1)) H):dM p (.func (.func 317) #[] #[]) H Q:=by
 unfold dM iC
 refine av l.length (λk st i=>st=(k:Int)/\i=H/\∀x∈l.take k,(x==0||x==1)=true) (by grind) ?_
 rintro k st H1 again hk ⟨rfl,rfl,j⟩ d
 rw[h.bL]
 refine aM (λc=>?_) (λc=>?_)
 ·have f:k<l.length:=by simpa using c
  refine dm h (by omega) (by omega) λx a=>Yo ⟨_,rfl,?_⟩
  rw[Int.toNat_natCast] at a
  have hm:=List.mem_of_getElem? a
  refine aM (λc1=>?_) (λc1=>?_)
  ·have e:(!(l.all λx=>x==0||x==1))=true:=by
    rw[Bool.not_eq_true',List.all_eq_false]
    exact⟨x,hm,by simp at c1 ⊢; omega⟩
   simp_all
  ·rw[bK (by omega)]
   refine d f _ _ ⟨rfl,rfl,λy m=>?_⟩
   rw[gk a] at m
   grind
 grind
theorem GI {n:Int} {Q:Bool->PH->Prop} (a:gR H p l) (e:l.length< 2 ^ 40) (d:Q (gU l n) H):tA p n H Q:=by
 refine dR (b:=l.all λx=>x==0||x==1) (λk=>Ow a e (by grind)) ?_
 rw[a.bL];exact d
def BM (r:fH):Bool:=bN r.gen 1 2147483647&&bN r.view 1 2147483647&&(r.mode==1||r.mode==2)&&bN r.aQ 0 2147483647&&bN r.seq 0 2147483647&&bN r.done 0 r.seq
theorem RM {Q:Bool->PH->Prop} (e:∀H',Ext H H'->Q (BM r) H'):th (fJ r sb so ss) H Q:=by
 refine dZ (.start H) λa H1 d f=>ak (x:=r.mode) d rfl (xq (b:=r.mode==2) (λk=>ak (x:=r.mode) d rfl k) (ak (x:=r.gen) d rfl (bH ?_)))
 refine dR (b:=bN r.view 1 2147483647) (λk=>ak (x:=r.view) d rfl (bH k)) ?_
 refine dR (b:=r.mode==1||r.mode==2) (λk=>k) ?_
 refine dR (b:=bN r.aQ 0 2147483647) (λk=>ak (x:=r.aQ) d rfl (bH k)) ?_
 refine dR (b:=bN r.seq 0 2147483647) (λk=>ak (x:=r.seq) d rfl (bH k)) ?_
 exact dR (b:=bN r.done 0 r.seq) (λk=>ak (x:=r.done) d rfl (ak (x:=r.seq) d rfl (bH k))) (e H1 f)
theorem wS {oV:Int}:∀{l:List cJ} {k:Nat},nX oV k l=true↔∀i u,l[i]?=some u->wG u (((k+i:Nat):Int)==oV)=true
 |[],k=>by simp[nX]
 |u::l,k=>by
  rw[nX,Bool.and_eq_true,wS]
  constructor
  ·rintro⟨d,e⟩ i v a
   cases i with
   |zero=>grind
   |succ i=>grind
  ·intro h
   refine⟨h 0 u rfl,λi v a=>?_⟩
   have:=h (i+1) v (by simpa using a);rw[show k+(i+1)=k+1+i by omega] at this;exact this
theorem AI (c:ax) (r:fH):fW c r=(((((BM r&&fj c r.pos)&&gU r.lb (bc c))&&gU r.lo (bc c))&&(r.bk.length:Int)==c.2.1)&&nX r.pos.1 0 r.bk):=by
 rfl
theorem gE {Q:Bool->PH->Prop} (z:Gm H g c) (T:bE c) (N:Ah H sb so ss r) (C:r.lb.length< 2 ^ 40/\r.lo.length< 2 ^ 40/\r.bk.length< 2 ^ 40) (R:∀H',Ext H H'->Q (fW c r) H'):yS g (fJ r sb so ss) H Q:=by
 obtain⟨X,rfl,ab⟩:=z
 have z:∀H',Ext H H'->Gm H' (some X) c:=λH' x=>⟨X,rfl,ab.ext x⟩
 refine dZ (.start H) λa H1 f m=>aE (aF rfl (cQ (x:=fJ r sb so ss) f rfl rfl (RM λV o=>?_)))
 refine mP.i (E0 (b:= !(fj c r.pos)) (λk=>?_) (λO s=>?_))
 ·refine⟨r.pos,?_,Hn (z V (m.trans o)) T λO s=>k O s⟩
  exact(Ds.aa.part ((f.ext o).get 1 rfl:aa V a _) (i:=6) (n:=5) (by simp))
 refine E0 (b:= !(gU r.lb (bc c))) (λk=>ak (x:=sb) (f.ext (o.trans s)) rfl (fc (z O (m.trans (o.trans s))) T λJ D=>?_)) (λJ D=>?_)
 ·exact dE ((f.ext (o.trans (s.trans D))).get 1 rfl:aa J a _) rfl (GI (N.lb.ext (m.trans (o.trans (s.trans D)))) C.1 (k J D))
 have G:=o.trans (s.trans D)
 refine E0 (b:= !(gU r.lo (bc c))) (λk=>ak (x:=so) (f.ext G) rfl (fc (z J (m.trans G)) T λK E=>?_)) (λK E=>?_)
 ·exact dE ((f.ext (G.trans E)).get 1 rfl:aa K a _) rfl (GI (N.lo.ext (m.trans (G.trans E))) C.2.1 (k K E))
 have I:=G.trans E
 refine E0 (b:=(r.bk.length:Int) != c.2.1) (λk=>ak (x:=ss) (f.ext I) rfl (mr (z K (m.trans I)) λM F=>?_)) (λM F=>?_)
 ·refine dE ((f.ext (I.trans F)).get 1 rfl:aa M a _) rfl ?_
  rw[(N.bk.ext (m.trans (I.trans F))).bL];exact k M F
 have y6:=I.trans F
 have h6:=f.ext y6
 have eb:∀u v w x y:Bool,((((!u|| !v)|| !w)|| !x)||y)= !((((u&&v)&&w)&&x)&& !y):=by decide
 have en:((r.bk.length:Int) != c.2.1)= !((r.bk.length:Int)==c.2.1):=rfl
 rw[en,eb,Bool.not_not]
 refine aM (λcc=>?_) (λcc=>?_)
 ·have q:=R M (m.trans y6)
  have A:((((BM r&&fj c r.pos)&&gU r.lb (bc c))&&gU r.lo (bc c))&&(r.bk.length:Int)==c.2.1)=false:=by grind
  rw[AI,A,Bool.false_and] at q;exact q
 ·have A:((((BM r&&fj c r.pos)&&gU r.lb (bc c))&&gU r.lo (bc c))&&(r.bk.length:Int)==c.2.1)=true:=by
   grind
  refine ak (x:=ss) h6 rfl ?_
  refine av r.bk.length (λi st Hk=>st=(i:Int)/\(∀j u,j<i->r.bk[j]?=some u->wG u (((j:Nat):Int)==r.pos.1)=true)/\aA Hk [aC H,aJ a (dp (fJ r sb so ss))]) (by grind) ?_
  rintro i st H7 again hi ⟨rfl,S,P⟩ Y
  have hs:=N.bk.ext P.base
  rw[hs.bL]
  refine aM (λc2=>?_) (λc2=>?_)
  ·have ac:i<r.bk.length:=by grind
   refine Bu hs (by omega) (by omega) λd u hu Z=>⟨u,Z,?_⟩
   rw[Int.toNat_natCast] at hu
   refine bG P λad H8 h8=>cF (vs:=bf u) h8 rfl rfl λW t=>ak (x:=u.1) t rfl (bH ?_)
   refine xq (b:= !(bN u.2 0 2147483647)) (λk=>ak (x:=u.2) t rfl (bH k)) ?_
   refine xq (b:=(u.1==1) != ((i:Int)==r.pos.1)) (λk=>ak (x:=u.1) t rfl ?_) ?_
   ·exact⟨r.pos.1,by rw[add_zero'];exact(t.get 2 rfl:aa W a _).cell rfl,k⟩
   ·have eu:wG u ((i:Int)==r.pos.1)= !((!(bN u.1 0 2)|| !(bN u.2 0 2147483647))||((u.1==1) != ((i:Int)==r.pos.1))):=by
     rw[wG]
     cases bN u.1 0 2<;>cases bN u.2 0 2147483647<;>cases(u.1==1)<;>cases((i:Int)==r.pos.1)<;>rfl
    refine aM (λc3=>?_) (λc3=>?_)
    ·have q:=R W t.base
     have:nX r.pos.1 0 r.bk=false:=Bool.eq_false_iff.2 λh=>by
      have h2:=(wS.1 h) i u hu
      grind
     rw[AI,this,Bool.and_false] at q;exact q
    ·rw[bK (by omega)]
     refine Y ac _ _ ⟨rfl,λj v hj U=>?_,t.aq⟩
     by_cases e:j=i
     ·subst e;rw[hu] at U;cases U;rw[eu,c3];rfl
     ·exact S j v (by omega) U
  ·have:i=r.bk.length:=by grind
   subst this
   have q:=R H7 P.base
   have:nX r.pos.1 0 r.bk=true:=wS.2 (by grind)
   rw[AI,this,A] at q;exact q
end
end Rg
end
section
namespace Rg
open Go Go.Kx KM Rw Cr It Ge
theorem ior2 {n x:Int} {i:Nat} (d:0<=n) (j:n< 2 ^ i) (x0:0<=x) (k:x<=1) (hi:i<=16):MR .i64 n (yz .i64 x (i:Int))=n+x*2 ^ i:=by
 obtain⟨a,rfl⟩:=Int.eq_ofNat_of_zero_le d
 obtain⟨c,rfl⟩:=Int.eq_ofNat_of_zero_le x0
 have h:(2:Nat) ^ i<=2 ^ 16:=Nat.pow_le_pow_right (by decide) hi
 have e:a< 2 ^ i:=by
  grind
 have f:c<=1:=by omega
 have hm:c*2 ^ i<=1*2 ^ 16:=Nat.mul_le_mul f h
 have e1:yz .i64 (c:Int) (i:Int)=((c*2 ^ i:Nat):Int):=by
  simp only[yz,IntKind.bits]
  rw[Int.toNat_natCast,Nat.min_eq_left (by omega)]
  have:((c:Int)*2 ^ i)=((c*2 ^ i:Nat):Int):=by rfl
  rw[this,cK (by omega) (by omega)]
 rw[e1]
 show IntKind.i64.wrap ((BitVec.ofInt 64 (a:Int)|||BitVec.ofInt 64 ((c*2 ^ i:Nat):Int)).toNat:Int)=_
 rw[BitVec.toNat_or,zY a (by omega),zY _ (by omega)]
 have e2:a|||c*2 ^ i=a+c*2 ^ i:=by
  have:=Nat.two_pow_add_eq_or_of_lt e c
  grind
 rw[e2,cK (by omega) (by omega),Int.natCast_add,Int.natCast_mul,Int.natCast_pow];rfl
theorem GJ:∀(l:List Int) (x:Int),eN (l++[x])=eN l+x*2 ^ l.length
 |[],x=>by simp[eN]
 |y::l,x=>by
  simp only[List.cons_append,eN,GJ l x,List.length_cons,Int.pow_succ]
  grind
theorem r9:∀(l:List Int),(∀x∈l,0<=x/\x<=1)->0<=eN l/\eN l< 2 ^ l.length
 |[],_=>by simp[eN]
 |x::l,h=>by
  have a:=h x (by simp)
  have d:=r9 l (by grind)
  simp only[eN,List.length_cons,Int.pow_succ]
  omega
section
variable {H B:PH} {L:List Ob} {r:fH} {p q:Sl} {b:Bs} {l:List Int} {g:Option Addr} {c:ax} {sb so ss:Sl}
theorem Hr {Q:Int->PH->Prop} (k:gR H p l) (f:∀x∈l,0<=x/\x<=1) (s:l.length<=8) (o:Q (eN l) H):uR p H Q:=by
 refine av l.length (λi st n=>st=(eN (l.take i),(i:Int))/\n=H) ⟨rfl,rfl⟩ ?_
 rintro i st H1 again hi ⟨rfl,rfl⟩ h
 rw[k.bL]
 refine aM (λc2=>?_) (λc2=>?_)
 ·have j:i<l.length:=by grind
  refine dm k (by omega) (by omega) λx m=>⟨by simp,?_⟩
  rw[Int.toNat_natCast] at m
  have a:=f x (by grind)
  have e:=r9 (l.take i) (by grind)
  have d:(l.take i).length=i:=by simp;omega
  rw[d] at e
  dsimp only
  rw[ior2 e.1 e.2 a.1 a.2 (by omega),bK (by omega)]
  refine h j _ _ ⟨?_,rfl⟩
  rw[gk m,GJ,d]
 grind
theorem wM {Q:Sl->Int->PH->Prop} (k:Gm H g c) (j:bE c) (m:Ah H sb so ss r) (d:r.lb.length< 2 ^ 40/\r.lo.length< 2 ^ 40/\r.bk.length< 2 ^ 40) (hm:fW c r=false) (i:∀H',Ext H H'->Q Sl.nil 1 H'):mn g (fJ r sb so ss) H Q:=by
 refine dZ (.start H) λa H1 h e=>cQ (x:=fJ r sb so ss) h rfl rfl (gE (k.ext e) j (m.ext e) d λf n=>?_)
 rw[hm]
 exact aW rfl (i f (e.trans n))
structure xQ (c:ax) (r:fH):Prop where
 gen:1<=r.gen/\r.gen<=2147483647
 view:1<=r.view/\r.view<=2147483647
 mode:r.mode=1∨r.mode=2
 aQ:0<=r.aQ/\r.aQ<=2147483647
 seq:0<=r.seq/\r.seq<=2147483647
 done:0<=r.done/\r.done<=r.seq
 p1:0<=r.pos.1/\r.pos.1<=c.2.1- 1
 p2:0<=r.pos.2.1/\r.pos.2.1<=c.2.2- 1
 p3:1<=r.pos.2.2.1/\r.pos.2.2.1<=2147483647
 p4:0<=r.pos.2.2.2.1/\r.pos.2.2.2.1<=4294967295
 p5:1<=r.pos.2.2.2.2/\r.pos.2.2.2.2<=2147483647
 lb:(r.lb.length:Int)=bc c/\∀x∈r.lb,0<=x/\x<=1
 lo:(r.lo.length:Int)=bc c/\∀x∈r.lo,0<=x/\x<=1
 bk:(r.bk.length:Int)=c.2.1
 us:∀u∈r.bk,(0<=u.1/\u.1<=2)/\0<=u.2/\u.2<=2147483647
theorem parts (h:fW c r=true):xQ c r:=by
 simp only[fW,fj,gU,Bool.and_eq_true,KM.bD,List.all_eq_true,beq_iff_eq,Bool.or_eq_true] at h
 obtain⟨⟨⟨⟨⟨⟨⟨⟨⟨⟨a,b⟩,m⟩,d⟩,e⟩,f⟩,⟨⟨⟨⟨k,n⟩,o⟩,t⟩,s⟩⟩,lb⟩,lo⟩,v⟩,us⟩:=h
 refine⟨a,b,m,d,e,f,k,n,o,s,t,⟨lb.1,λx j=>?_⟩,⟨lo.1,λx j=>?_⟩,v,λu hu=>?_⟩
 ·rcases lb.2 x j with h|h<;>omega
 ·rcases lo.2 x j with h|h<;>omega
 ·obtain⟨i,hi⟩:=List.getElem?_of_mem hu
  have:=(wS.1 us) i u hi
  simp only[wG,Bool.and_eq_true,KM.bD] at this
  exact this.1
theorem zc:∀l:List cJ,(l.flatMap mq).length=5*l.length
 |[]=>rfl
 |x::l=>by rw[List.flatMap_cons,List.length_append,zc l,mq,List.length_cons,bO,List.length_cons];omega
theorem KG:∀{l:List cJ},(∀u∈l,(0<=u.1/\u.1<=2)/\0<=u.2/\u.2<=2147483647)->bP (l.flatMap mq)
 |[],_=>tw
 |x::l,h=>by rw[List.flatMap_cons];exact cO (dt (by have:=h x (by simp);omega) (fX _ _)) (KG λy a=>h y (by simp[a]))
theorem zd:(Ae r).length=39+5*r.bk.length:=by
 simp only[Ae,List.length_cons,List.length_append,bO,zc,List.length_nil];omega
theorem room (a:bE c) (e:(r.bk.length:Int)=c.2.1):(Ae r).length<=64*(bW c).toNat- 4:=by
 have:=kj a
 have d:=a.2.2.2.1
 rw[zd];simp only[bW] at this ⊢; omega
theorem KH (k:bE c) (P:xQ c r):bP (Ae r):=by
 obtain⟨a,d,e,f,i,j⟩:=k
 have s:=gI ⟨a,d,e,f,i,j⟩
 have:=P.p1;have:=P.p2
 have n:=r9 r.lb P.lb.2
 have o:=r9 r.lo P.lo.2
 have l1:r.lb.length<=5:=by have:=P.lb.1;omega
 have l2:r.lo.length<=5:=by have:=P.lo.1;omega
 have e1:(2:Int) ^ r.lb.length<=32:=by
  have:=Nat.pow_le_pow_right (show 0< 2 by decide) l1
  grind
 have e2:(2:Int) ^ r.lo.length<=32:=by
  have:=Nat.pow_le_pow_right (show 0< 2 by decide) l2
  grind
 have m:0<=r.mode/\r.mode<=255:=by rcases P.mode with h|h<;>omega
 unfold Ae
 refine dt (by omega) (dt (by omega) ?_)
 refine cO (cO (cO (cO (cO (cO (cO (cO (cO (cO (cO (fX _ _) (fX _ _)) (dt m tw)) (fX _ _)) (fX _ _)) (fX _ _)) ?_) (fX _ _)) (fX _ _)) (fX _ _)) ?_) (KG P.us)
 ·grind
 grind
theorem wv (a:bE c) (P:xQ c r):(gV c r).length=64*(bW c).toNat:=by
 have:=kj a
 rw[gV,ko,wF (room a P.bk)];omega
theorem wx (a:bE c) (P:xQ c r):bP (gV c r):=wL (yj _ (KH a P))
theorem two {a b m:Int} (d:0<=a/\a<m) (e:0<=b/\b<m):∀y∈[a,b],0<=y/\y<m:=by
 grind
theorem three {a b d m:Int} (e:0<=a/\a<m) (f:0<=b/\b<m) (hd:0<=d/\d<m):∀y∈[a,b,d],0<=y/\y<m:=by
 grind
theorem T5 {a m:Int} (d:0<=a/\a<m):∀y∈[a],0<=y/\y<m:=by
 grind
theorem fP {Q:Sl->Int->PH->Prop} (hg:Gm H g c) (t:bE c) (Y:Ah H sb so ss r) (hm:fW c r=true) (hQ:∀z H',aA H' [aC H,aS u8 z (gV c r)]->Q z 0 H'):mn g (fJ r sb so ss) H Q:=by
 have P:=parts hm
 obtain⟨aD,aE,aG,aH,aI,aK⟩:=id t
 have aL:=gI t
 have aN:=kj t
 have l1:r.lb.length<=5:=by have:=P.lb.1;omega
 have l2:r.lo.length<=5:=by have:=P.lo.1;omega
 have l3:r.bk.length<=32:=by have:=P.bk;omega
 have e1:(2:Int) ^ r.lb.length<=32:=by
  have:=Nat.pow_le_pow_right (show 0< 2 by decide) l1
  grind
 have e2:(2:Int) ^ r.lo.length<=32:=by
  have:=Nat.pow_le_pow_right (show 0< 2 by decide) l2
  grind
 have b1:=r9 r.lb P.lb.2
 have b2:=r9 r.lo P.lo.2
 have g1:=P.gen;have g2:=P.view;have g4:=P.aQ;have g5:=P.seq;have g6:=P.done;have q1:=P.p1;have q2:=P.p2;have q3:=P.p3;have q4:=P.p4;have q5:=P.p5
 refine dZ (.start H) λa H1 h1 x1=>cQ (x:=fJ r sb so ss) h1 rfl rfl (gE (hg.ext x1) t (Y.ext x1) (by omega) λH2 x2=>?_)
 rw[hm]
 have h2:=h1.ext x2
 refine aF rfl (vY (hg.ext h2.base) t ?_)
 obtain⟨n,en⟩:=Int.eq_ofNat_of_zero_le (show 0<=bW c by omega)
 rw[en,cK (by omega) (by omega),show(64*(n:Int))=((64*n:Nat):Int) from rfl]
 refine Rw.fO (n:=64*n) h2 (by omega) λW s H3 h3=>?_
 have m1:=two (a:=r.gen) (b:=r.view) (m:=256 ^ 4) (by omega) (by omega)
 have m3:=three (a:=r.aQ) (b:=r.seq) (d:=r.done) (m:=256 ^ 4) (by omega) (by omega) (by omega)
 have m5:=three (a:=r.pos.2.2.1) (b:=r.pos.2.2.2.1) (d:=r.pos.2.2.2.2) (m:=256 ^ 4) (by omega) (by omega) (by omega)
 have m0:=two (a:=75) (b:=67) (m:=256 ^ 1) (by omega) (by omega)
 refine oY (x:=[]) (l:=[75,67]) h3 rfl rfl (by decide) m0 (by simp;omega) (by simp;omega) λB4 H4 ao X=>?_
 refine aU (x:=r.gen) X 3 rfl rfl (aU (x:=r.view) X 3 rfl rfl (oY (l:=[r.gen,r.view]) X rfl rfl (by decide) m1 (by simp;omega) (by simp[bO];omega) λB5 H5 ap h5=>?_))
 have m2:=T5 (a:=r.mode) (m:=256 ^ 1) (by rcases P.mode with h|h<;>omega)
 refine aU (x:=r.mode) h5 3 rfl rfl (oY (l:=[r.mode]) h5 rfl rfl (by decide) m2 (by simp;omega) (by simp[bO];omega) λB6 H6 aq J=>?_)
 refine aU (x:=r.aQ) J 3 rfl rfl (aU (x:=r.seq) J 3 rfl rfl (aU (x:=r.done) J 3 rfl rfl (oY (l:=[r.aQ,r.seq,r.done]) J rfl rfl (by decide) m3 (by simp;omega) (by simp[bO];omega) λB7 H7 ar h7=>?_)))
 have ra:∀(H':PH) (L':List Ob),aA H' L'->L'[3]?=some (aJ a (dp (fJ r sb so ss)))->aa H' a (dp (fJ r sb so ss)):=λH' L' h' e=>h'.get 3 e
 have C:∀(H':PH) (j:Nat) (v:Int),aa H' a (dp (fJ r sb so ss))->(dp (fJ r sb so ss))[6+j]?=some (i64 v)->cellAt H' ((a.add 6).add j)=some (i64 v):=λH' j v rr e=>by
  have e0:=rr.addr
  have:(a.add 6).add j=a.add (6+j):=by rw[e0];simp[fV,Nat.add_assoc]
  rw[this];exact rr.cell e
 have r7:=ra H7 _ h7 rfl
 have m4:=two (a:=r.pos.1) (b:=r.pos.2.1) (m:=256 ^ 1) (by omega) (by omega)
 refine⟨r.pos.1,C _ _ _ r7 rfl,r.pos.2.1,C _ _ _ r7 rfl,oY (l:=[r.pos.1,r.pos.2.1]) h7 rfl rfl (by decide) m4 (by simp;omega) (by simp[bO];omega) λB8 H8 au K=>?_⟩
 have Z:=ra H8 _ K rfl
 refine⟨r.pos.2.2.1,C _ _ _ Z rfl,r.pos.2.2.2.1,C _ _ _ Z rfl,r.pos.2.2.2.2,C _ _ _ Z rfl,oY (l:=[r.pos.2.2.1,r.pos.2.2.2.1,r.pos.2.2.2.2]) K rfl rfl (by decide) m5 (by simp;omega) (by simp[bO];omega) λB9 V aw o=>?_⟩
 have F:Ext H B9:=ao.trans (ap.trans (aq.trans (ar.trans (au.trans aw))))
 have U:=Y.ext (F.trans o.base)
 refine aU (x:=sb) o 3 rfl rfl (aU (x:=so) o 3 rfl rfl (Hr U.lb P.lb.2 (by omega) (dE (ra V _ o rfl) rfl (Hr U.lo P.lo.2 (by omega) ?_))))
 have m6:=two (a:=eN r.lb) (b:=eN r.lo) (m:=256 ^ 1) (by omega) (by omega)
 refine oY (l:=[eN r.lb,eN r.lo]) o rfl rfl (by decide) m6 (by simp;omega) (by simp[bO];omega) λA ax G y=>?_
 refine aU (x:=ss) y 3 rfl rfl ?_
 obtain⟨f,D⟩:∃f:Bs,f=75::67::(le 4 r.gen++le 4 r.view++[r.mode]++le 4 r.aQ++le 4 r.seq++le 4 r.done++[r.pos.1,r.pos.2.1]++le 4 r.pos.2.2.1++le 4 r.pos.2.2.2.1++le 4 r.pos.2.2.2.2++[eN r.lb,eN r.lo]):=⟨_,rfl⟩
 have T:f.length=39:=by rw[D];simp[bO]
 have eX:[]++[(75:Int),67].flatMap (le 1)++[r.gen,r.view].flatMap (le 4)++[r.mode].flatMap (le 1)++[r.aQ,r.seq,r.done].flatMap (le 4)++[r.pos.1,r.pos.2.1].flatMap (le 1)++[r.pos.2.2.1,r.pos.2.2.2.1,r.pos.2.2.2.2].flatMap (le 4)++[eN r.lb,eN r.lo].flatMap (le 1)=f:=by
  rw[D,BG _ m0,BG _ m2,BG _ m4,BG _ m6];simp
 rw[eX] at y
 have ez:64*n- 1*[(75:Int),67].length- 4*[r.gen,r.view].length- 1*[r.mode].length- 4*[r.aQ,r.seq,r.done].length- 1*[r.pos.1,r.pos.2.1].length- 4*[r.pos.2.2.1,r.pos.2.2.2.1,r.pos.2.2.2.2].length- 1*[eN r.lb,eN r.lo].length=64*n- 39- 5*0:=by simp;omega
 rw[ez] at y
 have M:=room (r:=r) t P.bk
 have N:(bW c).toNat=n:=by omega
 rw[zd,N] at M
 refine av r.bk.length (λi st Hk=>st=(i:Int)/\∃I m,Ext A I/\m=64*n- 39- 5*i/\aA Hk (aC I::aJ W (cells s (f++(r.bk.take i).flatMap mq).length)::aS u8 s (f++(r.bk.take i).flatMap mq++List.replicate m 0)::[])) ⟨rfl,A,_,.refl _,rfl,by
  have:=y.pick [0,1,2] (by decide) (L':=[aC A,aJ W (cells s f.length),aS u8 s (f++List.replicate (64*n- 39- 5*0) 0)]) rfl (by simp)
  simpa using this⟩ ?_
 rintro i st ab again hi ⟨rfl,I,m,xb,rfl,k⟩ ah
 have E:fM bf 2 ab ss r.bk:=Y.bk.ext (F.trans (G.trans (xb.trans k.base)))
 have aj:(r.bk.take i).length=i:=by simp;omega
 have ln:((r.bk.take i).flatMap mq).length=5*i:=by rw[zc,aj]
 rw[E.bL]
 refine aM (λc2=>?_) (λc2=>?_)
 ·have al:i<r.bk.length:=by simpa using c2
  refine Bu E (by omega) (by omega) λd u hu ai=>⟨u,ai,?_⟩
  rw[Int.toNat_natCast] at hu
  have aO:=P.us u (List.mem_of_getElem? hu)
  refine bG k λae ay af=>cF (vs:=bf u) af rfl rfl λac O=>ak (x:=u.1) O rfl ?_
  have ag:aA ac [aC I,aJ W _,aS u8 s _,aJ ae (bf u)]:=O.pick [0,2,3,1] (by decide) rfl (by simp)
  have n1:=T5 (a:=u.1) (m:=256 ^ 1) (by omega)
  refine oY (w:=1) (l:=[u.1]) ag rfl rfl (by decide) n1 (by simp;omega) (by rw[List.length_append,ln,T];omega) λB2 az am R=>?_
  refine aU (x:=u.2) R 3 rfl rfl ?_
  refine oY (w:=4) (l:=[u.2]) R rfl rfl (by decide) (T5 (m:=256 ^ 4) (by omega)) (by simp;omega) (by rw[List.length_append,List.length_append,ln,T,xr];simp;omega) λB3 aB an S=>?_
  rw[bK (by omega)]
  have e:f++(r.bk.take i).flatMap mq++[u.1].flatMap (le 1)++[u.2].flatMap (le 4)=f++(r.bk.take (i+1)).flatMap mq:=by
   rw[BG _ n1,gk hu,List.flatMap_append];simp[mq]
  rw[e] at S
  exact ah al _ _ ⟨rfl,B3,_,xb.trans (am.trans an),by simp;omega,S.pick [0,1,2] (by decide) rfl (by simp)⟩
 ·have:i=r.bk.length:=by simp at c2;omega
  subst this
  rw[List.take_length] at k ln
  have eR:f++r.bk.flatMap mq=Ae r:=by rw[D,Ae];simp
  rw[eR] at k
  refine pF k (by rw[List.length_append,zd,List.length_replicate];omega) λz H8 K=>?_
  refine AF (n:=64*n- 4) K rfl (by rw[zd];omega) (by rw[zd];omega) (KH t P) (by omega) λV o=>hQ z V ?_
  have:=only o (F.trans (G.trans xb))
  rw[gV,N];exact this
end
end Rg
end
section
namespace Rg
open Go Go.Kx KM Rw Cr It Ge
theorem EY:∀(n:Nat) (x:Int),0<=x->iD (n+1) x=iD n x++[x/ 2 ^ n% 2]
 | 0,x,h=>by simp[iD]
 |n+1,x,h=>by
  rw[iD,EY n (x/ 2) (by omega),iD]
  simp only[List.cons_append,List.cons.injEq,true_and,List.append_cancel_left_eq,and_true]
  rw[Int.ediv_ediv_of_nonneg (by decide),Int.pow_succ,Int.mul_comm]
theorem yc:∀(n:Nat) (x:Int),(iD n x).length=n
 | 0,x=>rfl
 |n+1,x=>by rw[iD,List.length_cons,yc n]
theorem GK (b:Bs):∀n k,iZ b k (n+1)=iZ b k n++[(num b (k+5*n) 1,num b (k+5*n+1) 4)]
 | 0,k=>by simp[iZ]
 |n+1,k=>by
  rw[iZ,GK b n (k+5),iZ]
  grind
theorem DT (b:Bs):∀n k,(iZ b k n).length=n
 | 0,k=>rfl
 |n+1,k=>by simp[iZ,DT b n]
theorem nL (u:cJ):(bf u).length=2:=rfl
theorem Vj (u:cJ):(bf u).all cg=true:=rfl
theorem Yp {n:Int} (d:0<=n) (e:n< 2 ^ 62):jd .i64 n 1=n% 2:=by
 obtain⟨k,rfl⟩:=Int.eq_ofNat_of_zero_le d
 show IntKind.i64.wrap ((BitVec.ofInt 64 (k:Int)&&&BitVec.ofInt 64 1).toNat:Int)=_
 have e2:(BitVec.ofInt 64 1).toNat=2 ^ 1- 1:=rfl
 rw[BitVec.toNat_and,zY k (by omega),e2,Nat.and_two_pow_sub_one_eq_mod,cK (by omega) (by omega)];exact Int.natCast_emod k 2
section
variable {H B:PH} {L:List Ob} {r:fH} {p q:Sl} {b b2:Bs} {l:List Int} {g:Option Addr} {c:ax} {sb so ss s:Sl} {a:Addr} {k w:Nat}
theorem hZ {Q:Int->PH->Prop} (h:aA H (aC B::aJ a (cells s k)::aS u8 s b::L)) (hw:w=1∨w=2∨w=4) (hk:k+w<=b.length) (m:b.length<=2 ^ 30) (n:bP b)
 (j:∀H',aA H' (aC B::aJ a (cells s (k+w))::aS u8 s b::L)->Q (num b k w) H'):cW (some a) w H Q:=by
 refine bG h λa1 H1 d=>ak (x:=some a) d rfl ?_
 have f:aA H1 (aC B::aJ a (cells s k)::aS u8 s b::aJ a1 [.pointer (some a)]::L):=d.perm (.cons _ ((List.Perm.swap _ _ _).trans (.cons _ (.swap _ _ _))))
 refine dK f hw hk m n λe i=>j e ?_
 exact(i.perm (L':=aC B::aJ a1 [.pointer (some a)]::aJ a (cells s (k+w))::aS u8 s b::L) (.cons _ ((List.Perm.cons _ (.swap _ _ _)).trans (.swap _ _ _)))).aq
theorem EZ {n:Nat} {Q:Sl->PH->Prop} (h:aA H (aC B::aJ a (cells s k)::aS u8 s b::L)) (hk:k+1<=b.length) (N:b.length<=2 ^ 30) (v:bP b) (S:n<=8)
 (M:∀z H',aA H' (aC B::aJ a (cells s (k+1))::aS u8 s b::aS i64 z (iD n (num b k 1))::L)->Q z H'):lD (some a) n H Q:=by
 refine bG h λa1 H1 o=>cQ (x:=some a) o rfl rfl ?_
 have G:aA H1 (aC B::aJ a (cells s k)::aS u8 s b::aJ a1 [.pointer (some a)]::L):=o.perm (.cons _ ((List.Perm.swap _ _ _).trans (.cons _ (.swap _ _ _))))
 refine hZ (w:=1) G (by decide) hk N v λD I=>?_
 have d:=xv v k 1
 have J:aA D (aC B::aS i64 Sl.nil []::aJ a (cells s (k+1))::aS u8 s b::aJ a1 [.pointer (some a)]::L):=AB I
 refine av n (λi st F=>st.2=(i:Int)/\∃j,Ext B j/\aA F (aC j::aS i64 st.1 (iD i (num b k 1))::aJ a (cells s (k+1))::aS u8 s b::aJ a1 [.pointer (some a)]::L)) ⟨rfl,B,.refl B,J⟩ ?_
 rintro i ⟨st,_⟩ E again hi ⟨e,j,y,m⟩ t
 simp only at e m;subst e
 refine aM (λc2=>⟨by simp,?_⟩) (λc2=>?_)
 ·have u:i<n:=by simpa using c2
  have e1:jd .i64 (gy .i64 (num b k 1) (i:Int)) 1=num b k 1/ 2 ^ i% 2:=by
   rw[CE d.1 (by omega)]
   have a0:0<=num b k 1/ 2 ^ i:=Int.ediv_nonneg d.1 (by grind)
   have a1:num b k 1/ 2 ^ i<=num b k 1:=Int.ediv_le_self _ d.1
   exact Yp a0 (by omega)
  dsimp only
  rw[e1]
  refine rY (enc:=i64) (l:=[num b k 1/ 2 ^ i% 2]) m rfl rfl λz C P A O f=>?_
  refine pe f 1 rfl (O.ext f.base) (λ_=>rfl) rfl (by rw[yc];simp;omega) λT R K=>?_
  rw[bK (by omega)]
  exact t u _ _ ⟨rfl,C,y.trans A,by rw[EY i _ d.1];exact K⟩
 ·have:i=n:=by simp at c2;omega
  subst this
  refine M st E ?_
  have f:=m.vP y
  exact(f.perm (L':=aC B::aJ a1 [.pointer (some a)]::aJ a (cells s (k+1))::aS u8 s b::aS i64 st (iD i (num b k 1))::L) (.cons _ (by
   have p1:List.Perm ([aS i64 st (iD i (num b k 1))]++[aJ a (cells s (k+1)),aS u8 s b,aJ a1 [.pointer (some a)]]) ([aJ a1 [.pointer (some a)],aJ a (cells s (k+1)),aS u8 s b]++[aS i64 st (iD i (num b k 1))]):=
    List.perm_append_comm.trans (List.Perm.append_right _ (List.perm_append_comm (l₁:=[aJ a (cells s (k+1)),aS u8 s b]) (l₂:=[aJ a1 [.pointer (some a)]])))
   exact p1.append_right L))).aq
def pH (c:ax) (b:Bs):fH:=⟨num b 2 4,num b 6 4,num b 10 1,num b 11 4,num b 15 4,num b 19 4,(num b 23 1,num b 24 1,num b 25 4,num b 29 4,num b 33 4),iD (bc c).toNat (num b 37 1),iD (bc c).toNat (num b 38 1),iZ b 39 c.2.1.toNat⟩
theorem HB (c:ax) (b:Bs):jf c b=if fW c (pH c b)&&gV c (pH c b)==b then some (pH c b) else none:=rfl
abbrev pO (a:Option Addr):List Value:=[.pointer a]
theorem hG {Q:uZ->Int->PH->Prop} (h:aA H (aC B::L)) (J:Gm B g c) (F:bE c) (hp:Bytes B p b) (hl:b.length=64*(bW c).toNat) (t:bP b)
 (hy:jf c b=some (pH c b)->∀x m H',Ext B m->wR m x (pH c b)->aA H' (aC m::L)->Q x 0 H') (hn:jf c b=none->∀m H',Ext B m->aA H' (aC m::L)->Q fw 2 H'):rT g p H Q:=by
 obtain⟨ga,rfl,bw⟩:=J
 have J:Gm B (some ga) c:=⟨ga,rfl,bw⟩
 have cb:=kj F
 have b9:=gI F
 obtain⟨bZ,b0,b1,b3,b4,b5⟩:=id F
 have ca:bW c=(c.2.1*5+106)/ 64:=rfl
 have b6:128<=b.length:=by omega
 have b7:b.length<=256:=by omega
 have b8:39+5*c.2.1.toNat<=b.length:=by omega
 refine bG h λa H1 S=>aF rfl (pE S (hp.ext S.base) (by omega) λd s H2 h2=>bG h2 λf H3 h3=>cF (vs:=pO (some d)) h3 rfl rfl λH4 h4=>ak (x:=some d) h4 rfl ?_)
 have h5:aA H4 (aC B::aJ d (cells s 0)::aS u8 s b::aJ f (pO (some d))::aJ a (dp fw)::L):=h4.perm (.cons _ ((List.Perm.swap _ _ _).trans (.cons _ (.swap _ _ _))))
 refine tH (n:=2) h5 (by omega) (by omega) λ_ H5 h5=>?_
 refine cE (x:=some d) h5 3 rfl rfl rfl (cE (x:=some d) h5 3 rfl rfl rfl (hZ (w:=4) h5 (by decide) (by omega) (by omega) t λH6 h6=>⟨(h6.get 3 rfl:aa H6 f _).all rfl,hZ (w:=4) h6 (by decide) (by omega) (by omega) t λH7 h7=>?_⟩))
 refine cU (j:=0) h7 4 rfl (by simp) rfl λH8 h8=>cU (j:=1) h8 4 rfl (by simp) rfl λH9 h9=>?_
 refine cE (x:=some d) h9 3 rfl rfl rfl (hZ (w:=1) h9 (by decide) (by omega) (by omega) t λbH a7=>cU (j:=2) a7 4 rfl (by simp) rfl λbI O=>?_)
 refine cE (x:=some d) O 3 rfl rfl rfl (cE (x:=some d) O 3 rfl rfl rfl (cE (x:=some d) O 3 rfl rfl rfl (hZ (w:=4) O (by decide) (by omega) (by omega) t λaj ab=>⟨(ab.get 3 rfl:aa aj f _).all rfl,(ab.get 3 rfl:aa aj f _).all rfl,hZ (w:=4) ab (by decide) (by omega) (by omega) t λa0 ax=>⟨(ax.get 3 rfl:aa a0 f _).all rfl,hZ (w:=4) ax (by decide) (by omega) (by omega) t λbJ a8=>?_⟩⟩)))
 refine cU (j:=3) a8 4 rfl (by simp) rfl λbL a9=>cU (j:=4) a9 4 rfl (by simp) rfl λbM ba=>cU (j:=5) ba 4 rfl (by simp) rfl λbN ac=>?_
 refine cE (x:=some d) ac 3 rfl rfl rfl (cE (x:=some d) ac 3 rfl rfl rfl (hZ (w:=1) ac (by decide) (by omega) (by omega) t λa1 ay=>⟨(ay.get 3 rfl:aa a1 f _).all rfl,hZ (w:=1) ay (by decide) (by omega) (by omega) t λa3 az=>?_⟩))
 have Y:∀j,(a.add 6).add j=a.add (6+j):=λj=>by
  have e0:=(az.get 4 rfl:aa a3 a _).addr
  rw[e0];simp[fV,Nat.add_assoc]
 rw[Y 0,Y 1]
 refine cU (j:=6) az 4 rfl (by simp) rfl λbO bb=>cU (j:=7) bb 4 rfl (by simp) rfl λbQ P=>?_
 refine cE (x:=some d) P 3 rfl rfl rfl (cE (x:=some d) P 3 rfl rfl rfl (cE (x:=some d) P 3 rfl rfl rfl (hZ (w:=4) P (by decide) (by omega) (by omega) t λal ad=>⟨(ad.get 3 rfl:aa al f _).all rfl,(ad.get 3 rfl:aa al f _).all rfl,hZ (w:=4) ad (by decide) (by omega) (by omega) t λa4 aB=>⟨(aB.get 3 rfl:aa a4 f _).all rfl,hZ (w:=4) aB (by decide) (by omega) (by omega) t λbR bd=>?_⟩⟩)))
 rw[Y 2,Y 3,Y 4]
 refine cU (j:=8) bd 4 rfl (by simp) rfl λbS be=>cU (j:=9) be 4 rfl (by simp) rfl λbT bg=>cU (j:=10) bg 4 rfl (by simp) rfl λbU R=>?_
 refine cE (x:=some d) R 3 rfl rfl rfl (cE (x:=some d) R 3 rfl rfl rfl (fc (J.ext R.base) F λam bB=>?_))
 have ae:=R.ext bB
 obtain⟨np,aw⟩:=Int.eq_ofNat_of_zero_le (show 0<=bc c by omega)
 have Z:(bc c).toNat=np:=by omega
 refine⟨(ae.get 3 rfl:aa am f _).all rfl,(ae.get 3 rfl:aa am f _).all rfl,?_⟩
 rw[aw]
 refine EZ (n:=np) ae (by omega) (by omega) t (by omega) λA an aQ=>?_
 have bh:aA an (aC B::aS i64 A _::aJ d (cells s (2+4+4+1+4+4+4+1+1+4+4+4+1))::aS u8 s b::aJ f (pO (some d))::aJ a (dp (num b 2 4,num b 6 4,num b 10 1,num b 11 4,num b 15 4,num b 19 4,num b 23 1,num b 24 1,num b 25 4,num b 29 4,num b 33 4,Sl.nil,Sl.nil,Sl.nil))::L):=
  aQ.perm (.cons _ ((List.Perm.cons _ (.swap _ _ _)).trans (.swap _ _ _)))
 refine iW bh λD aO bz af=>?_
 refine⟨(af.get 3 rfl:aa an f _).all rfl,fc ((J.ext aO).ext af.base) F λa5 bC=>?_⟩
 have aD:=af.ext bC
 refine⟨(aD.get 3 rfl:aa a5 f _).all rfl,?_⟩
 rw[aw]
 refine EZ (n:=np) aD (by omega) (by omega) t (by omega) λC a6 aR=>?_
 have bi:aA a6 (aC D::aS i64 C _::aJ d (cells s (2+4+4+1+4+4+4+1+1+4+4+4+1+1))::aS u8 s b::aJ f (pO (some d))::aJ a (dp (num b 2 4,num b 6 4,num b 10 1,num b 11 4,num b 15 4,num b 19 4,num b 23 1,num b 24 1,num b 25 4,num b 29 4,num b 33 4,Sl.nil,Sl.nil,Sl.nil))::L):=
  aR.perm (.cons _ ((List.Perm.cons _ (.swap _ _ _)).trans (.swap _ _ _)))
 refine iW bi λI aP bA bl=>?_
 refine cU (j:=11) bl 4 rfl (by simp) rfl λbV bm=>cU (j:=12) bm 4 rfl (by simp) rfl λbX aG=>?_
 have aN:Ext B I:=aO.trans aP
 refine mr ((J.ext aN).ext aG.base) λao bD=>?_
 obtain⟨u,N⟩:∃u:Sl->uZ,u=λz=>(num b 2 4,num b 6 4,num b 10 1,num b 11 4,num b 15 4,num b 19 4,num b 23 1,num b 24 1,num b 25 4,num b 29 4,num b 33 4,A,C,z):=⟨_,rfl⟩
 have bn:aA ao (aC I::aJ d (cells s (39+5*0))::aS u8 s b::aJ f (pO (some d))::aJ a (dp (u Sl.nil))::au bf 2 Sl.nil (iZ b 39 0)::L):=by
  rw[N]
  have bo:=((aG.ext bD:aA ao (aC I::_)).Bt (enc:=bf) (sz:=2)).up
  exact bo.perm (.cons _ ((List.perm_append_comm (l₁:=[au bf 2 Sl.nil []]) (l₂:=[aJ d (cells s 39),aS u8 s b,aJ f (pO (some d)),aJ a (dp (num b 2 4,num b 6 4,num b 10 1,num b 11 4,num b 15 4,num b 19 4,num b 23 1,num b 24 1,num b 25 4,num b 29 4,num b 33 4,A,C,Sl.nil))])).append_right L))
 have aY:gR I A (iD np (num b 37 1)):=bz.ext aP
 have aZ:gR I C (iD np (num b 38 1)):=bA
 refine av c.2.1.toNat (λi st Hk=>st=(i:Int)/\∃m z,Ext I m/\aA Hk (aC m::aJ d (cells s (39+5*i))::aS u8 s b::aJ f (pO (some d))::aJ a (dp (u z))::au bf 2 z (iZ b 39 i)::L)) ⟨rfl,I,Sl.nil,.refl _,bn⟩ ?_
 rintro i st K again hi ⟨rfl,m,z,xb,o⟩ bv
 have M:∀(H':PH) (x:Sl) (L':List Ob),aA H' L'->L'[4]?=some (aJ a (dp (u x)))->cellAt H' (a.add 13)=some (Sl.v x):=λH' x L' h' e=>(h'.get 4 e:aa H' a _).cell (by rw[N];rfl)
 refine aM (λc2=>?_) (λc2=>?_)
 ·have bx:i<c.2.1.toNat:=by simp at c2;omega
  refine⟨z,M K z _ o rfl,cE (x:=some d) o 3 rfl rfl rfl (cE (x:=some d) o 3 rfl rfl rfl (hZ (w:=1) o (by decide) (by omega) (by omega) t λap ag=>⟨(ag.get 3 rfl:aa ap f _).all rfl,M ap z _ ag rfl,hZ (w:=4) ag (by decide) (by omega) (by omega) t λU ah=>⟨M U z _ ah rfl,?_⟩⟩))⟩
  have bp:aA U (aC m::au bf 2 z (iZ b 39 i)::aJ d (cells s (39+5*i+1+4))::aS u8 s b::aJ f (pO (some d))::aJ a (dp (u z))::L):=
   ah.perm (.cons _ ((List.perm_append_comm (l₁:=[aJ d (cells s (39+5*i+1+4)),aS u8 s b,aJ f (pO (some d)),aJ a (dp (u z))]) (l₂:=[au bf 2 z (iZ b 39 i)])).append_right L))
  intro w V hw
  have aK:Ext U V:=.nD hw
  have vw:bj bf 2 V w [(num b (39+5*i) 1,num b (39+5*i+1) 4)]:=bj.xk hw rfl rfl
  have bq:=bp.ext aK
  have aU:=ah.ext aK
  refine⟨M V z _ aU rfl,uP nL (by decide) bq 1 rfl (vw.cells nL (by decide)) vw.len Vj rfl (by rw[DT];simp;omega) λT ar br=>?_⟩
  have bs:aA ar (aC m::aJ d (cells s (39+5*i+1+4))::aS u8 s b::aJ f (pO (some d))::aJ a (dp (u z))::au bf 2 T (iZ b 39 i++[(num b (39+5*i) 1,num b (39+5*i+1) 4)])::L):=
   (show aA ar (aC m::au bf 2 T _::aJ d (cells s (39+5*i+1+4))::aS u8 s b::aJ f (pO (some d))::aJ a (dp (u z))::L) from br).perm (.cons _ ((List.perm_append_comm (l₁:=[au bf 2 T _]) (l₂:=[aJ d (cells s (39+5*i+1+4)),aS u8 s b,aJ f (pO (some d)),aJ a (dp (u z))])).append_right L))
  refine cU (j:=13) bs 4 rfl (by simp) rfl λbY bt=>?_
  rw[bK (by omega)]
  refine bv bx _ _ ⟨rfl,m,T,xb,?_⟩
  rw[GK,show 39+5*(i+1)=39+5*i+1+4 by omega]
  have e:(dp (u z)).set 13 (Sl.v T)=dp (u T):=by rw[N];rfl
  rw[←e];exact bt
 ·have:i=c.2.1.toNat:=by simp at c2;omega
  subst this
  have hx:∀x,u x=fJ (pH c b) A C x:=λx=>by rw[N];rfl
  rw[hx] at o
  have hS:∀D,Ext m D->bj bf 2 D z (iZ b 39 c.2.1.toNat)->Ah D A C z (pH c b):=λD x2 hv=>by
   refine⟨?_,?_,hv.lX nL⟩
   ·show gR D A (iD (bc c).toNat (num b 37 1));rw[Z];exact aY.ext (xb.trans x2)
   ·show gR D C (iD (bc c).toNat (num b 38 1));rw[Z];exact aZ.ext (xb.trans x2)
  have aH:=hS K o.base (o.get 5 rfl)
  have aX:(pH c b).lb.length< 2 ^ 40/\(pH c b).lo.length< 2 ^ 40/\(pH c b).bk.length< 2 ^ 40:=by
   refine⟨?_,?_,?_⟩
   ·show(iD _ _).length<_;rw[yc];omega
   ·show(iD _ _).length<_;rw[yc];omega
   ·show(iZ _ _ _).length<_;rw[DT];omega
  have G:Ext B m:=aN.trans xb
  refine cE (x:=fJ (pH c b) A C z) o 4 rfl rfl rfl ?_
  have fin:∀X,aA X (aC m::aJ d (cells s (39+5*c.2.1.toNat))::aS u8 s b::aJ f (pO (some d))::aJ a (dp (fJ (pH c b) A C z))::au bf 2 z (iZ b 39 c.2.1.toNat)::L)->∀sb:Bool,(sb=true->jf c b=none)->(sb=false->jf c b=some (pH c b))->
   aL sb (aV X a (dp fw) λH1=>aT dp H1 a 14 λy=>Q y 2 H1) (aT dp X a 14 λy=>aV X a (dp y) λH1=>aT dp H1 a 14 λy=>Q y 0 H1):=λX hz sb f1 f2=>by
   refine CH (x:=fJ (pH c b) A C z) (z:=fw) (Q:=Q) hz 4 rfl rfl rfl (λ_=>rfl) (λ_=>rfl) (λE H1 S=>?_) (λE H1 S=>?_)
   ·have h2:aA H1 (aC m::aJ d (cells s (39+5*c.2.1.toNat))::aS u8 s b::aJ f (pO (some d))::aJ a (dp fw)::au bf 2 z (iZ b 39 c.2.1.toNat)::L):=S
    exact hn (f1 E) m H1 G h2.aq.aq.aq.aq.aq
   ·have h2:aA H1 (aC m::aJ d (cells s (39+5*c.2.1.toNat))::aS u8 s b::aJ f (pO (some d))::aJ a (dp (fJ (pH c b) A C z))::au bf 2 z (iZ b 39 c.2.1.toNat)::L):=S
    obtain⟨D,x2,hv,h3⟩:=h2.aq.aq.aq.aq.fz
    exact hy (f2 E) _ D H1 (G.trans x2) ⟨A,C,z,rfl,hS D x2 hv⟩ h3
  by_cases hm:fW c (pH c b)=true
  ·refine fP ((J.ext G).ext o.base) F aH hm λy W bu=>?_
   have ai:=(o:aA K (aC m::_)).made bu
   refine aE (aF rfl (pG (ai.list (enc:=u8) 1 rfl) (hp.ext (G.trans ai.base)) (wx F (parts hm)) t (fin W ai.aq _ (λE=>?_) (λE=>?_))))
   ·rw[HB,if_neg (by rw[hm,Bool.true_and];simpa using E)]
   ·rw[HB,if_pos (by rw[hm,Bool.true_and];simpa using E)]
  ·have aI:fW c (pH c b)=false:=by simpa using hm
   refine wM ((J.ext G).ext o.base) F aH aX aI λW bF=>aE (aW rfl ?_)
   exact fin W ((o:aA K (aC m::_)).ext bF) true (λ_=>by rw[HB,aI];rfl) (λE=>by cases E)
theorem choose_spec {Q:uZ->Int->Int->PH->Prop} (h:aA H (aC B::L)) (P:Gm B g c) (hc:bE c) (hp:Bytes B p b) (hq:Bytes B q b2) (hl:b.length=64*(bW c).toNat) (X:b2.length=64*(bW c).toNat) (hb:bP b) (W:bP b2)
 (hy:∀r k,j0 c b b2=some (r,k)->∀x N H',Ext B N->wR N x r->aA H' (aC N::L)->Q x k 0 H') (hn:j0 c b b2=none->∀N H',Ext B N->aA H' (aC N::L)->Q fw 0 2 H'):um g p q H Q:=by
 obtain⟨ga,rfl,ac⟩:=P
 have P:Gm B (some ga) c:=⟨ga,rfl,ac⟩
 refine bG h λa1 H1 h1=>?_
 have main:∀(x y:uZ) (ex O:Int) (f:PH) (m:PH) (i d:Addr),Ext B f->aA m (aC f::aJ d (dp y)::aJ i (dp x)::aJ a1 (dp fw)::L)->
  ((jf c b=none/\ex=2)∨∃r,jf c b=some r/\ex=0/\wR f x r)->((jf c b2=none/\O=2)∨∃r,jf c b2=some r/\O=0/\wR f y r)->
  aO (λ(ad:Bool) (A:PH)=>aL ad (aT dp A i 14 λC=>aV A a1 (dp C) λo=>aT dp o a1 14 λD=>Q D 0 0 o)
   (aL (O==0) (aT dp A d 14 λaf=>aV A a1 (dp af) λU=>aT dp U a1 14 λag=>Q ag 1 0 U)
    (aV A a1 (dp fw) λV=>aT dp V a1 14 λah=>Q ah 0 2 V)))
   λZ=>aL (ex==0) (aO (λ(ae:Bool) (ab:PH)=>Z ae ab) λaa=>aL (O != 0) (aa true m) (aH i64 m (i.add 0) λai=>aH i64 m (d.add 0) λaj=>aa (decide (aj<=ai)) m)) (Z false m):=by
  intro x y ex O f m i d n u S Y
  have kx:∀r,wR f x r->j0 c b b2=some (r,0)->aT dp m i 14 λC=>aV m a1 (dp C) λo=>aT dp o a1 14 λD=>Q D 0 0 o:=λr K e=>by
   refine cE u 2 rfl rfl rfl (fb u 3 rfl rfl rfl λv t=>cE (x:=x) t 3 rfl rfl rfl ?_)
   have z:aA v (aC f::aJ d (dp y)::aJ i (dp x)::aJ a1 (dp x)::L):=t
   exact hy r 0 e x f v n K z.aq.aq.aq
  have ky:∀r,wR f y r->j0 c b b2=some (r,1)->aT dp m d 14 λC=>aV m a1 (dp C) λo=>aT dp o a1 14 λD=>Q D 1 0 o:=λr K e=>by
   refine cE u 1 rfl rfl rfl (fb u 3 rfl rfl rfl λv t=>cE (x:=y) t 3 rfl rfl rfl ?_)
   have z:aA v (aC f::aJ d (dp y)::aJ i (dp x)::aJ a1 (dp y)::L):=t
   exact hy r 1 e y f v n K z.aq.aq.aq
  rcases S with⟨e1,rfl⟩|⟨r,e1,rfl,K⟩
  ·refine aE (aF rfl (aF rfl ?_))
   rcases Y with⟨e2,rfl⟩|⟨T,e2,rfl,M⟩
   ·refine aF rfl (fb (vs:=dp fw) u 3 rfl rfl rfl λv t=>cE (x:=fw) t 3 rfl rfl rfl ?_)
    have z:aA v (aC f::aJ d (dp y)::aJ i (dp x)::aJ a1 (dp fw)::L):=t
    exact hn (wH e1 e2) f v n z.aq.aq.aq
   ·exact aW rfl (ky T M (wH e1 e2))
  ·refine aE (aW rfl (aE ?_))
   rcases Y with⟨e2,rfl⟩|⟨T,e2,rfl,M⟩
   ·exact aW rfl (aW rfl (kx r K (wH e1 e2)))
   ·obtain⟨_,_,_,rfl,_⟩:=id K
    obtain⟨_,_,_,rfl,_⟩:=id M
    refine aF rfl (aU (x:=r.gen) u 2 rfl rfl (aU (x:=T.gen) u 1 rfl rfl ?_))
    refine aM (λcc=>kx r K ?_) (λcc=>aW rfl (ky T M ?_))
    ·exact(wH e1 e2).trans (if_pos (by simpa using cc))
    ·exact(wH e1 e2).trans (if_neg (by simpa using cc))
 refine hG h1 P hc hp hl hb (λe x f m n S u=>?_) (λe f m n u=>?_)
 ·refine bG u λi v t=>cF (vs:=dp x) t rfl rfl λH4 z=>hG z (P.ext n) hc (hq.ext n) X W (λe2 y E H5 j R G=>?_) (λe2 E H5 j G=>?_)
  ·refine bG G λd H6 I=>cF (vs:=dp y) I rfl rfl λF J=>aF rfl ?_
   exact main x y 0 0 E F i d (n.trans j) J (.inr ⟨_,e,rfl,S.ext j⟩) (.inr ⟨_,e2,rfl,R⟩)
  ·refine bG G λd H6 I=>cF (vs:=dp fw) I rfl rfl λF J=>aF rfl ?_
   exact main x fw 0 2 E F i d (n.trans j) J (.inr ⟨_,e,rfl,S.ext j⟩) (.inl ⟨e2,rfl⟩)
 ·refine bG u λi v t=>cF (vs:=dp fw) t rfl rfl λH4 z=>hG z (P.ext n) hc (hq.ext n) X W (λe2 y E H5 j R G=>?_) (λe2 E H5 j G=>?_)
  ·refine bG G λd H6 I=>cF (vs:=dp y) I rfl rfl λF J=>aF rfl ?_
   exact main fw y 2 0 E F i d (n.trans j) J (.inl ⟨e,rfl⟩) (.inr ⟨_,e2,rfl,R⟩)
  ·refine bG G λd H6 I=>cF (vs:=dp fw) I rfl rfl λF J=>aF rfl ?_
   exact main fw fw 2 2 E F i d (n.trans j) J (.inl ⟨e,rfl⟩) (.inl ⟨e2,rfl⟩)
end
end Rg
end
end Go.Proofs.YtigjebgjphmkoaaGreat
